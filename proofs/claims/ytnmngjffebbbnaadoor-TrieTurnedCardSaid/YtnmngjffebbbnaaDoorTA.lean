/- Layer 4: texts, levels, filters. -/
import Derived.Test.YtnmngjffebbbnaaDoorGOwn
import Derived.Test.YtnmngjffebbbnaaDoorProg
set_option maxRecDepth 100000
namespace Go.G.YtnmngjffebbbnaaDoor
open Go.RowKit
open Value (string slice int bool agg)
/-! ### texts, levels, filters, as the document has them -/
def toB (l : List UInt8) : ByteArray := ⟨l.toArray⟩
theorem toB_data (s : ByteArray) : toB s.data.toList = s := by obtain ⟨⟨l⟩⟩ := s; rfl
theorem toB_toList (l : List UInt8) : (toB l).data.toList = l := rfl
theorem toB_inj {x y : List UInt8} (h : toB x = toB y) : x = y := by have := congrArg (fun s : ByteArray => s.data.toList) h; exact this
theorem slen (s : ByteArray) : s.data.toList.length = s.size := by rw [Array.length_toList]; rfl
def strs (l : List ByteArray) : List Value := l.map .string
theorem strs_length (l : List ByteArray) : (strs l).length = l.length := by simp [strs]
theorem strs_cell (l : List ByteArray) : ∀ y ∈ strs l, y.oneCell' = true := fun y hy => by
  obtain ⟨s, _, rfl⟩ := List.mem_map.1 hy
  rfl

/-- Between strokes. -/
def splitL : List UInt8 → List (List UInt8)
  | [] => [[]]
  | b :: r => if b = 47 then [] :: splitL r else match splitL r with
    | x :: q => (b :: x) :: q
    | [] => [[b]]
def levS (s : ByteArray) : List ByteArray := (splitL s.data.toList).map toB
theorem splitL_ne : ∀ l, splitL l ≠ []
  | [] => by simp [splitL]
  | b :: r => by
    unfold splitL
    split
    · simp
    · split <;> simp
theorem splitL_length : ∀ l : List UInt8, (splitL l).length = l.count 47 + 1
  | [] => rfl
  | b :: r => by
    have ih := splitL_length r
    unfold splitL
    split
    · rename_i h; subst h; simp [ih]
    · rename_i h
      split
      · rename_i x q e
        rw [e] at ih
        have : (b :: r).count 47 = r.count 47 := List.count_cons_of_ne h
        rw [this]
        simpa using ih
      · rename_i e; exact absurd e (splitL_ne r)
theorem splitL_none : ∀ {l : List UInt8}, (∀ b ∈ l, b ≠ 47) → splitL l = [l]
  | [], _ => rfl
  | b :: r, h => by
    have hb := h b (List.mem_cons_self ..)
    unfold splitL
    rw [if_neg hb, splitL_none fun x hx => h x (List.mem_cons_of_mem _ hx)]
theorem splitL_cut : ∀ {l r : List UInt8}, (∀ b ∈ l, b ≠ 47) → splitL (l ++ 47 :: r) = l :: splitL r
  | [], r, _ => by simp [splitL]
  | b :: l, r, h => by
    have hb := h b (List.mem_cons_self ..)
    have ih := splitL_cut (l := l) (r := r) fun x hx => h x (List.mem_cons_of_mem _ hx)
    rw [List.cons_append, splitL, if_neg hb, ih]

def signB (s : ByteArray) : Bool := s.data.toList.any fun b => b == 43 || b == 35
def plusB : ByteArray := ⟨#[43]⟩
def hashB : ByteArray := ⟨#[35]⟩

/-! characters -/
def atL (l : List UInt8) (i : Nat) (lo hi : UInt8) : Bool := match l[i]? with
  | some x => decide (lo ≤ x) && decide (x ≤ hi)
  | none => false
/-- How many bytes the character at the beginning has; 0: none. -/
def sizeU (l : List UInt8) : Nat := match l with
  | [] => 0
  | c :: _ =>
    if c < 128 then 1
    else if decide (194 ≤ c) && decide (c ≤ 223) && atL l 1 128 191 then 2
    else if c == 224 && atL l 1 160 191 && atL l 2 128 191 then 3
    else if c == 237 && atL l 1 128 159 && atL l 2 128 191 then 3
    else if decide (225 ≤ c) && decide (c ≤ 239) && c != 237 && atL l 1 128 191 && atL l 2 128 191 then 3
    else if c == 240 && atL l 1 144 191 && atL l 2 128 191 && atL l 3 128 191 then 4
    else if decide (241 ≤ c) && decide (c ≤ 243) && atL l 1 128 191 && atL l 2 128 191 && atL l 3 128 191 then 4
    else if c == 244 && atL l 1 128 143 && atL l 2 128 191 && atL l 3 128 191 then 4
    else 0
/-- The document's: none that begins with 0. -/
def sizeR (l : List UInt8) : Nat := if l.head? = some 0 then 0 else sizeU l
def validF (size : List UInt8 → Nat) : Nat → List UInt8 → Bool
  | _, [] => true
  | 0, _ :: _ => false
  | n + 1, b :: r => if size (b :: r) = 0 then false else validF size n ((b :: r).drop (size (b :: r)))
def validU (l : List UInt8) : Bool := validF sizeU l.length l
def textR (l : List UInt8) : Bool := validF sizeR l.length l

theorem atL_ge {l : List UInt8} {i : Nat} {lo hi : UInt8} (h : atL l i lo hi = true) : ∃ x, l[i]? = some x ∧ lo ≤ x ∧ x ≤ hi := by
  unfold atL at h
  split at h
  · rename_i x e
    simp at h
    exact ⟨x, e, h.1, h.2⟩
  · cases h
/-- A character's bytes: as many as there are; all but a single one are 128 or more. -/
theorem sizeU_cases (c : UInt8) (r : List UInt8) : (c < 128 ∧ sizeU (c :: r) = 1) ∨ sizeU (c :: r) = 0 ∨
    (128 ≤ c ∧ (∃ n, sizeU (c :: r) = n + 2 ∧ n ≤ 2 ∧ ∀ i, 1 ≤ i → i < n + 2 → ∃ x, (c :: r)[i]? = some x ∧ 128 ≤ x)) := by
  by_cases hc : c < 128
  · left; exact ⟨hc, by simp [sizeU, hc]⟩
  · right
    have hc' : (128 : UInt8) ≤ c := UInt8.not_lt.1 hc
    have two : ∀ lo hi : UInt8, 128 ≤ lo → atL (c :: r) 1 lo hi = true → ∃ x, (c :: r)[1]? = some x ∧ 128 ≤ x := fun lo hi hl h => by
      obtain ⟨x, e, h1, _⟩ := atL_ge h
      exact ⟨x, e, UInt8.le_trans hl h1⟩
    have any : ∀ j, atL (c :: r) j 128 191 = true → ∃ x, (c :: r)[j]? = some x ∧ 128 ≤ x := fun j h => by
      obtain ⟨x, e, h1, _⟩ := atL_ge h
      exact ⟨x, e, h1⟩
    unfold sizeU
    dsimp only
    rw [if_neg hc]
    have d2 : ∀ lo hi : UInt8, 128 ≤ lo → atL (c :: r) 1 lo hi = true → ∃ n, 2 = n + 2 ∧ n ≤ 2 ∧ ∀ i, 1 ≤ i → i < n + 2 → ∃ x, (c :: r)[i]? = some x ∧ 128 ≤ x := fun lo hi hl h => ⟨0, rfl, by omega, fun i h1 h2 => by
      have : i = 1 := by omega
      subst this; exact two lo hi hl h⟩
    have d3 : ∀ lo hi : UInt8, 128 ≤ lo → atL (c :: r) 1 lo hi = true → atL (c :: r) 2 128 191 = true → ∃ n, 3 = n + 2 ∧ n ≤ 2 ∧ ∀ i, 1 ≤ i → i < n + 2 → ∃ x, (c :: r)[i]? = some x ∧ 128 ≤ x := fun lo hi hl h h' => ⟨1, rfl, by omega, fun i h1 h2 => by
      have : i = 1 ∨ i = 2 := by omega
      rcases this with rfl | rfl
      · exact two lo hi hl h
      · exact any 2 h'⟩
    have d4 : ∀ lo hi : UInt8, 128 ≤ lo → atL (c :: r) 1 lo hi = true → atL (c :: r) 2 128 191 = true → atL (c :: r) 3 128 191 = true → ∃ n, 4 = n + 2 ∧ n ≤ 2 ∧ ∀ i, 1 ≤ i → i < n + 2 → ∃ x, (c :: r)[i]? = some x ∧ 128 ≤ x := fun lo hi hl h h' h'' => ⟨2, rfl, by omega, fun i h1 h2 => by
      have : i = 1 ∨ i = 2 ∨ i = 3 := by omega
      rcases this with rfl | rfl | rfl
      · exact two lo hi hl h
      · exact any 2 h'
      · exact any 3 h''⟩
    split
    · rename_i h; simp only [Bool.and_eq_true] at h; exact .inr ⟨hc', d2 _ _ (by decide) h.2⟩
    split
    · rename_i h; simp only [Bool.and_eq_true] at h; exact .inr ⟨hc', d3 _ _ (by decide) h.1.2 h.2⟩
    split
    · rename_i h; simp only [Bool.and_eq_true] at h; exact .inr ⟨hc', d3 _ _ (by decide) h.1.2 h.2⟩
    split
    · rename_i h; simp only [Bool.and_eq_true] at h; exact .inr ⟨hc', d3 _ _ (by decide) h.1.2 h.2⟩
    split
    · rename_i h; simp only [Bool.and_eq_true] at h; exact .inr ⟨hc', d4 _ _ (by decide) h.1.1.2 h.1.2 h.2⟩
    split
    · rename_i h; simp only [Bool.and_eq_true] at h; exact .inr ⟨hc', d4 _ _ (by decide) h.1.1.2 h.1.2 h.2⟩
    split
    · rename_i h; simp only [Bool.and_eq_true] at h; exact .inr ⟨hc', d4 _ _ (by decide) h.1.1.2 h.1.2 h.2⟩
    · exact .inl rfl
theorem sizeU_le (c : UInt8) (r : List UInt8) : sizeU (c :: r) ≤ (c :: r).length := by
  rcases sizeU_cases c r with ⟨_, h⟩ | h | ⟨_, n, h, _, hx⟩
  · rw [h]; simp
  · rw [h]; simp
  · rw [h]
    obtain ⟨x, e, _⟩ := hx (n + 1) (by omega) (by omega)
    have := (List.getElem?_eq_some_iff.1 e).1
    omega
theorem text_valid : ∀ (n : Nat) (l : List UInt8), validF sizeR n l = (validF sizeU n l && !(l.any fun b => b == 0))
  | _, [] => by simp [validF]
  | 0, _ :: _ => by simp [validF]
  | n + 1, b :: r => by
    have ih := text_valid n
    by_cases hb : b = 0
    · subst hb
      simp [validF, sizeR]
    · have hs : sizeR (b :: r) = sizeU (b :: r) := by simp [sizeR, hb]
      unfold validF
      rw [hs]
      by_cases h0 : sizeU (b :: r) = 0
      · simp [h0]
      · rw [if_neg h0, if_neg h0, ih]
        have : ((b :: r).any fun b => b == 0) = (((b :: r).drop (sizeU (b :: r))).any fun b => b == 0) := by
          have e : (b :: r) = (b :: r).take (sizeU (b :: r)) ++ (b :: r).drop (sizeU (b :: r)) := (List.take_append_drop _ _).symm
          have e2 : ((b :: r).any fun b => b == 0) = (((b :: r).take (sizeU (b :: r)) ++ (b :: r).drop (sizeU (b :: r))).any fun b => b == 0) := by rw [← e]
          rw [e2, List.any_append]
          have : ((b :: r).take (sizeU (b :: r))).any (fun b => b == 0) = false := by
            rw [List.any_eq_false]
            intro x hx
            obtain ⟨i, hi, rfl⟩ := List.getElem_of_mem hx
            rw [List.getElem_take]
            rw [List.length_take] at hi
            rcases sizeU_cases b r with ⟨_, h⟩ | h | ⟨hge, k, h, _, hx⟩
            · have : i = 0 := by omega
              subst this; simpa using hb
            · exact absurd h h0
            · by_cases hi0 : i = 0
              · subst hi0; simpa using hb
              · obtain ⟨x, e, hge⟩ := hx i (by omega) (by omega)
                have : (b :: r)[i]? = some ((b :: r)[i]'(by omega)) := List.getElem?_eq_getElem (by omega)
                rw [e] at this
                injection this with this
                rw [← this]
                intro q
                have : x = 0 := by simpa using q
                subst this
                exact absurd hge (by decide)
          rw [this, Bool.false_or]
        rw [this]

def textB (l : List UInt8) : Bool := validU l && !(l.any fun b => b == 0)
theorem textR_eq (l : List UInt8) : textR l = textB l := text_valid _ l
def sizedB (s : ByteArray) (most : Nat) : Bool := decide (1 ≤ s.size) && decide (s.size ≤ most) && textB s.data.toList
def nameB (s : ByteArray) : Bool := sizedB s 64 && !(signB s)
def clientB (s : ByteArray) : Bool := sizedB s 32
/-- The levels from one on may be. -/
def okLevs (n : Nat) : Nat → List ByteArray → Bool
  | _, [] => true
  | i, x :: r => (decide (x = plusB) || (decide (x = hashB) && decide (i + 1 = n)) || !(signB x)) && okLevs n (i + 1) r
def filterB (s : ByteArray) : Bool := sizedB s 64 && okLevs (levS s).length 0 (levS s)
def first (s : ByteArray) : Option UInt8 := s.data.toList.head?
def hiddenB (f s : ByteArray) : Bool := decide (first s = some 36) && (decide (first f = some 43) || decide (first f = some 35))
def meetS (one : ByteArray → ByteArray → Bool) : List ByteArray → List ByteArray → Bool
  | [], m => m.isEmpty
  | x :: l, m => if x = hashB then true else match m with
    | [] => false
    | y :: r => one x y && meetS one l r
def oneM (x y : ByteArray) : Bool := decide (x = plusB) || decide (x = y)
def oneC (x y : ByteArray) : Bool := !(decide (y = hashB)) && (decide (x = plusB) || decide (x = y))
def matchB (f s : ByteArray) : Bool := filterB f && nameB s && !(hiddenB f s) && meetS oneM (levS f) (levS s)
def coversB (f s : ByteArray) : Bool := filterB f && filterB s && !(hiddenB f s) && meetS oneC (levS f) (levS s)
end Go.G.YtnmngjffebbbnaaDoor
