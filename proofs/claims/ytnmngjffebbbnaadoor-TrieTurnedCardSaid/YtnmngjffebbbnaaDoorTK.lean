/- Layer 4, plainly. -/
import Derived.Test.YtnmngjffebbbnaaDoorTJ
import Derived.Test.YtnmngjffebbbnaaDoorProg
set_option maxRecDepth 100000
namespace Go.G.YtnmngjffebbbnaaDoor
open Go.RowKit
open Value (string slice int bool agg)
/-! ### the laws of layer 4, plainly -/
def joinL : List (List UInt8) → List UInt8
  | [] => []
  | x :: r => x ++ r.flatMap fun s => 47 :: s
theorem joinL_cons (x y : List UInt8) (r : List (List UInt8)) : joinL (x :: y :: r) = x ++ 47 :: joinL (y :: r) := by simp [joinL]
theorem join_split : ∀ l, joinL (splitL l) = l
  | [] => rfl
  | b :: r => by
    have ih := join_split r
    unfold splitL
    split
    · rename_i h
      subst h
      cases hs : splitL r with
      | nil => exact absurd hs (splitL_ne r)
      | cons y q => rw [joinL_cons, ← hs, ih]; rfl
    · split
      · rename_i x q e
        rw [e] at ih
        simp only [joinL, List.cons_append] at ih ⊢
        rw [ih]
      · rename_i e; exact absurd e (splitL_ne r)
theorem split_join : ∀ L : List (List UInt8), L ≠ [] → (∀ x ∈ L, ∀ b ∈ x, b ≠ 47) → splitL (joinL L) = L
  | [], h, _ => absurd rfl h
  | [x], _, h => by simp only [joinL, List.flatMap_nil, List.append_nil]; exact splitL_none (h x (List.mem_cons_self ..))
  | x :: y :: r, _, h => by
    rw [joinL_cons, splitL_cut (h x (List.mem_cons_self ..)), split_join (y :: r) (by simp) fun z hz => h z (List.mem_cons_of_mem _ hz)]
theorem split_no : ∀ (l : List UInt8), ∀ x ∈ splitL l, ∀ b ∈ x, b ≠ 47
  | [], x, hx => by simp [splitL] at hx; subst hx; intro b hb; cases hb
  | c :: r, x, hx => by
    have ih := split_no r
    unfold splitL at hx
    split at hx
    · rcases List.mem_cons.1 hx with rfl | hx
      · intro b hb; cases hb
      · exact ih x hx
    · rename_i hc
      split at hx
      · rename_i y q e
        rw [e] at ih
        rcases List.mem_cons.1 hx with rfl | hx
        · intro b hb
          rcases List.mem_cons.1 hb with rfl | hb
          · exact hc
          · exact ih y (List.mem_cons_self ..) b hb
        · exact ih x (List.mem_cons_of_mem _ hx)
      · simp at hx
        subst hx
        intro b hb
        simp at hb; subst hb; exact hc
theorem split_app : ∀ (x y : List UInt8), splitL (x ++ 47 :: y) = splitL x ++ splitL y
  | [], y => by simp [splitL]
  | b :: r, y => by
    have ih := split_app r y
    rw [List.cons_append]
    by_cases hb : b = 47
    · rw [splitL, if_pos hb, splitL, if_pos hb, ih]; rfl
    · rw [splitL, if_neg hb, splitL, if_neg hb, ih]
      cases hs : splitL r with
      | nil => exact absurd hs (splitL_ne r)
      | cons z q => rfl
theorem levS_inj {a b : ByteArray} (h : levS a = levS b) : a = b := by
  have inj : ∀ (x y : List (List UInt8)), x.map toB = y.map toB → x = y := fun x y e => by
    have := congrArg (List.map fun s : ByteArray => s.data.toList) e
    simpa [List.map_map, Function.comp_def, toB] using this
  have := inj _ _ h
  have h2 : a.data.toList = b.data.toList := by rw [← join_split a.data.toList, this, join_split]
  rw [← toB_data a, h2, toB_data]
theorem levS_ne (s : ByteArray) : levS s ≠ [] := fun h => splitL_ne _ (List.map_eq_nil_iff.1 h)
theorem bapp (a b : ByteArray) : (a ++ b).data.toList = a.data.toList ++ b.data.toList := by simp [ByteArray.data_append]
theorem bapp_size (a b : ByteArray) : (a ++ b).size = a.size + b.size := by rw [← slen, bapp, List.length_append, slen, slen]
theorem levS_app (a b : ByteArray) : levS (a ++ (⟨#[47]⟩ ++ b)) = levS a ++ levS b := by
  unfold levS
  rw [bapp, bapp, show (ByteArray.data ⟨#[47]⟩).toList ++ b.data.toList = 47 :: b.data.toList from rfl, split_app, List.map_append]

/-! signs in levels -/
theorem sign_split : ∀ l : List UInt8, (l.any fun b => b == 43 || b == 35) = (splitL l).any fun x => x.any fun b => b == 43 || b == 35
  | [] => rfl
  | b :: r => by
    have ih := sign_split r
    rw [List.any_cons]
    by_cases hb : b = 47
    · subst hb
      rw [splitL, if_pos rfl, List.any_cons, ← ih]; rfl
    · rw [splitL, if_neg hb]
      cases hs : splitL r with
      | nil => exact absurd hs (splitL_ne r)
      | cons z q =>
        rw [hs] at ih
        simp only [List.any_cons] at ih ⊢
        rw [ih]; simp only [Bool.or_assoc]
theorem sign_lev (s : ByteArray) : signB s = (levS s).any signB := by
  unfold levS signB
  rw [sign_split, List.any_map]; rfl
theorem name_lev {s : ByteArray} (h : nameB s = true) : ∀ x ∈ levS s, signB x = false := by
  simp only [nameB, Bool.and_eq_true, Bool.not_eq_true'] at h
  have := h.2
  rw [sign_lev, List.any_eq_false] at this
  intro x hx
  have := this x hx
  simpa using this
theorem sign_ne {x : ByteArray} (h : signB x = false) : x ≠ plusB ∧ x ≠ hashB := ⟨fun e => by subst e; exact absurd h (by decide), fun e => by subst e; exact absurd h (by decide)⟩
theorem first_lev {s : ByteArray} (h : 1 ≤ s.size) {x : ByteArray} {L : List ByteArray} (e : levS s = x :: L) : first s = if x.data.toList = [] then some 47 else x.data.toList.head? := by
  unfold first
  have hne : s.data.toList ≠ [] := fun q => by rw [← slen, q] at h; simp at h
  unfold levS at e
  cases hl : s.data.toList with
  | nil => exact absurd hl hne
  | cons b r =>
    rw [hl] at e
    by_cases hb : b = 47
    · subst hb
      rw [splitL, if_pos rfl, List.map_cons] at e
      injection e with e1 e2
      rw [← e1]; rfl
    · rw [splitL, if_neg hb] at e
      cases hs : splitL r with
      | nil => exact absurd hs (splitL_ne r)
      | cons z q =>
        rw [hs, List.map_cons] at e
        injection e with e1 e2
        rw [← e1]; rfl
theorem name_first {s : ByteArray} (h : nameB s = true) : first s ≠ some 43 ∧ first s ≠ some 35 := by
  have h2 : signB s = false := by simp only [nameB, Bool.and_eq_true, Bool.not_eq_true'] at h; exact h.2
  unfold signB at h2
  unfold first
  cases hl : s.data.toList with
  | nil => simp
  | cons b r =>
    rw [hl, List.any_cons] at h2
    simp only [Bool.or_eq_false_iff, beq_eq_false_iff_ne] at h2
    simp only [List.head?_cons, ne_eq, Option.some.injEq]
    exact ⟨h2.1.1, h2.1.2⟩
theorem hidden_not {f s : ByteArray} (h : first f ≠ some 43 ∧ first f ≠ some 35) : hiddenB f s = false := by unfold hiddenB; simp [h.1, h.2]
theorem hidden_self (s : ByteArray) : hiddenB s s = false := by
  unfold hiddenB
  by_cases h : first s = some 36
  · simp [h]
  · simp [h]
theorem okLevs_free {n : Nat} : ∀ {L : List ByteArray} {i : Nat}, (∀ x ∈ L, signB x = false) → okLevs n i L = true
  | [], _, _ => rfl
  | x :: L, i, h => by
    rw [okLevs, h x (List.mem_cons_self ..), okLevs_free fun y hy => h y (List.mem_cons_of_mem _ hy)]
    simp
theorem name_filter {s : ByteArray} (h : nameB s = true) : filterB s = true := by
  have h1 : sizedB s 64 = true := by simp only [nameB, Bool.and_eq_true] at h; exact h.1
  unfold filterB
  rw [h1, okLevs_free (name_lev h)]; rfl
theorem meet_refl {one : ByteArray → ByteArray → Bool} (h : ∀ x, x ≠ hashB → one x x = true) : ∀ l, meetS one l l = true
  | [] => rfl
  | x :: l => by
    unfold meetS
    split
    · rfl
    · rename_i q
      dsimp only
      rw [h x q, meet_refl h l]; rfl
theorem oneM_refl (x : ByteArray) : oneM x x = true := by simp [oneM]
theorem oneC_refl {x : ByteArray} (h : x ≠ hashB) : oneC x x = true := by simp [oneC, h]
theorem match_self {s : ByteArray} (h : nameB s = true) : matchB s s = true := by
  unfold matchB
  rw [name_filter h, h, hidden_self, meet_refl fun x _ => oneM_refl x]; rfl
theorem covers_self {s : ByteArray} (h : filterB s = true) : coversB s s = true := by
  unfold coversB
  rw [h, hidden_self, meet_refl fun x hx => oneC_refl hx]; rfl
theorem hash_filter : filterB hashB = true := by kernel_rfl
theorem match_hash {s : ByteArray} (h : nameB s = true) : matchB hashB s = !(decide (first s = some 36)) := by
  have hm : meetS oneM (levS hashB) (levS s) = true := by
    have : levS hashB = [hashB] := by kernel_rfl
    rw [this]; unfold meetS; rw [if_pos rfl]
  have hh : hiddenB hashB s = decide (first s = some 36) := by
    unfold hiddenB
    have : decide (first hashB = some 35) = true := by decide
    rw [this]; simp
  unfold matchB
  rw [hash_filter, h, hm, hh]
  simp
theorem meet_free {one : ByteArray → ByteArray → Bool} (ho : ∀ x y, signB x = false → one x y = decide (x = y) ∨ (one x y = (!(decide (y = hashB)) && decide (x = y)))) : ∀ {l m : List ByteArray}, (∀ x ∈ l, signB x = false) → meetS one l m = decide (l = m)
  | [], [], _ => rfl
  | [], _ :: _, _ => rfl
  | x :: l, [], h => by
    have := (sign_ne (h x (List.mem_cons_self ..))).2
    unfold meetS; rw [if_neg this]; rfl
  | x :: l, y :: m, h => by
    have hx := h x (List.mem_cons_self ..)
    have hn := (sign_ne hx).2
    have ih := meet_free ho (l := l) (m := m) fun z hz => h z (List.mem_cons_of_mem _ hz)
    unfold meetS
    rw [if_neg hn]
    dsimp only
    rw [ih]
    have e : one x y = decide (x = y) := by
      rcases ho x y hx with e | e
      · exact e
      · rw [e]
        by_cases q : x = y
        · subst q; simp [hn]
        · simp [q]
    rw [e, Bool.eq_iff_iff]
    simp
theorem oneM_free (x y : ByteArray) (h : signB x = false) : oneM x y = decide (x = y) := by unfold oneM; simp [(sign_ne h).1]
theorem match_names {a b : ByteArray} (ha : nameB a = true) (hb : nameB b = true) : matchB a b = decide (a = b) := by
  unfold matchB
  rw [name_filter ha, hb, hidden_not (name_first ha), meet_free (fun x y h => .inl (oneM_free x y h)) (name_lev ha), Bool.eq_iff_iff]
  simp
  exact ⟨levS_inj, fun e => by rw [e]⟩

/-! covers -/
theorem first_same {one : ByteArray → ByteArray → Bool} (ho : ∀ x y, one x y = true → x = plusB ∨ x = y) {b n : ByteArray} (hb : 1 ≤ b.size) (hn : 1 ≤ n.size) (hf : first b ≠ some 43 ∧ first b ≠ some 35) (h : meetS one (levS b) (levS n) = true) : first b = first n := by
  cases e : levS b with
  | nil => exact absurd e (levS_ne b)
  | cons x L =>
    have fb := first_lev hb e
    rw [e] at h
    unfold meetS at h
    split at h
    · rename_i q
      subst q
      exact absurd (show first b = some 35 by rw [fb]; rfl) hf.2
    · split at h
      · cases h
      · rename_i y r e2
        simp only [Bool.and_eq_true] at h
        rcases ho x y h.1 with q | q
        · subst q
          exact absurd (show first b = some 43 by rw [fb]; rfl) hf.1
        · subst q
          rw [fb, first_lev hn e2]
theorem oneM_cases (x y : ByteArray) (h : oneM x y = true) : x = plusB ∨ x = y := by simpa [oneM] using h
theorem oneC_cases (x y : ByteArray) (h : oneC x y = true) : x = plusB ∨ x = y := by simp [oneC] at h; exact h.2
theorem hidden_through {a b n : ByteArray} (h1 : hiddenB a b = false) (h2 : hiddenB b n = false) (hs : (first b ≠ some 43 ∧ first b ≠ some 35) → first b = first n) : hiddenB a n = false := by
  unfold hiddenB at *
  cases q : decide (first n = some 36) with
  | false => rfl
  | true =>
    rw [q] at h2
    have hb : first b ≠ some 43 ∧ first b ≠ some 35 := by
      simp only [Bool.true_and, Bool.or_eq_false_iff, decide_eq_false_iff_not] at h2; exact h2
    have e := hs hb
    rw [e, q] at h1
    exact h1
theorem meet_trans {one : ByteArray → ByteArray → Bool} (ho : ∀ x y z, oneC x y = true → one y z = true → one x z = true) : ∀ {A B N : List ByteArray}, meetS oneC A B = true → meetS one B N = true → meetS one A N = true
  | [], [], N, _, h2 => h2
  | [], _ :: _, _, h1, _ => by cases h1
  | x :: A, B, N, h1, h2 => by
    unfold meetS at h1 ⊢
    split
    · rfl
    · rename_i q
      rw [if_neg q] at h1
      match B, h1, h2 with
      | [], h1, _ => cases h1
      | y :: B, h1, h2 =>
        simp only [Bool.and_eq_true] at h1
        have hy : y ≠ hashB := by have := h1.1; simp [oneC] at this; exact this.1
        unfold meetS at h2
        rw [if_neg hy] at h2
        match N, h2 with
        | [], h2 => cases h2
        | z :: N, h2 =>
          simp only [Bool.and_eq_true] at h2 ⊢
          exact ⟨ho x y z h1.1 h2.1, meet_trans ho h1.2 h2.2⟩
theorem covers_match {a b n : ByteArray} (h1 : coversB a b = true) (h2 : matchB b n = true) : matchB a n = true := by
  simp only [coversB, matchB, Bool.and_eq_true, Bool.not_eq_true'] at h1 h2 ⊢
  obtain ⟨⟨⟨a1, a2⟩, a3⟩, a4⟩ := h1
  obtain ⟨⟨⟨b1, b2⟩, b3⟩, b4⟩ := h2
  refine ⟨⟨⟨a1, b2⟩, hidden_through a3 b3 fun hf => first_same oneM_cases (filter_one b1).1 (name_one b2).1 hf b4⟩, meet_trans (fun x y z e1 e2 => ?_) a4 b4⟩
  rcases oneC_cases x y e1 with q | q
  · subst q; simp [oneM]
  · subst q; exact e2
theorem covers_trans {a b c : ByteArray} (h1 : coversB a b = true) (h2 : coversB b c = true) : coversB a c = true := by
  simp only [coversB, Bool.and_eq_true, Bool.not_eq_true'] at h1 h2 ⊢
  obtain ⟨⟨⟨a1, a2⟩, a3⟩, a4⟩ := h1
  obtain ⟨⟨⟨b1, b2⟩, b3⟩, b4⟩ := h2
  refine ⟨⟨⟨a1, b2⟩, hidden_through a3 b3 fun hf => first_same oneC_cases (filter_one b1).1 (filter_one b2).1 hf b4⟩, meet_trans (fun x y z e1 e2 => ?_) a4 b4⟩
  rcases oneC_cases x y e1 with q | q
  · subst q
    have : z ≠ hashB := by simp [oneC] at e2; exact e2.1
    simp [oneC, this]
  · subst q; exact e2
end Go.G.YtnmngjffebbbnaaDoor
