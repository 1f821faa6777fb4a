/- Layer 4, plainly, on. -/
import Derived.Test.YtjeneodgjclpiaaDoorTK
import Derived.Test.YtjeneodgjclpiaaDoorProg
set_option maxRecDepth 100000
namespace Go.G.YtjeneodgjclpiaaDoor
open Go.RowKit
/-! ### texts, cut at strokes -/
theorem kind_lo {c : UInt8} (h : (kindU c).1 ≠ 1) : 128 ≤ (kindU c).2.1 := by
  revert h
  unfold kindU
  repeat' split
  all_goals first | (intro _; decide) | (intro h; exact absurd rfl h)
theorem at47 {lo : UInt8} (h : 128 ≤ lo) : decide (lo ≤ (47 : UInt8)) = false := by
  rw [decide_eq_false_iff_not]; intro q
  exact absurd (UInt8.le_trans h q) (by decide)
theorem atL_cut (c : UInt8) (r y : List UInt8) {lo hi : UInt8} (h : 128 ≤ lo) :
    atL (c :: r ++ 47 :: y) 1 lo hi = atL (c :: r) 1 lo hi ∧ (atL (c :: r ++ 47 :: y) 1 lo hi && atL (c :: r ++ 47 :: y) 2 128 191) = (atL (c :: r) 1 lo hi && atL (c :: r) 2 128 191) ∧
    (atL (c :: r ++ 47 :: y) 1 lo hi && atL (c :: r ++ 47 :: y) 2 128 191 && atL (c :: r ++ 47 :: y) 3 128 191) = (atL (c :: r) 1 lo hi && atL (c :: r) 2 128 191 && atL (c :: r) 3 128 191) := by
  have h2 := at47 (show (128 : UInt8) ≤ 128 by decide)
  match r with
  | [] =>
    have e : atL ([c] ++ 47 :: y) 1 lo hi = false := by show (decide (lo ≤ (47 : UInt8)) && _) = false; rw [at47 h]; rfl
    have e2 : atL [c] 1 lo hi = false := rfl
    rw [e, e2]
    exact ⟨rfl, rfl, rfl⟩
  | [d] =>
    have e : atL ([c, d] ++ 47 :: y) 1 lo hi = atL [c, d] 1 lo hi := rfl
    have e3 : atL ([c, d] ++ 47 :: y) 2 128 191 = false := by rfl
    have e4 : atL [c, d] 2 128 191 = false := rfl
    rw [e, e3, e4]
    exact ⟨rfl, rfl, by simp⟩
  | [d, f] =>
    have e : atL ([c, d, f] ++ 47 :: y) 1 lo hi = atL [c, d, f] 1 lo hi := rfl
    have e3 : atL ([c, d, f] ++ 47 :: y) 2 128 191 = atL [c, d, f] 2 128 191 := rfl
    have e5 : atL ([c, d, f] ++ 47 :: y) 3 128 191 = false := by rfl
    have e6 : atL [c, d, f] 3 128 191 = false := rfl
    rw [e, e3, e5, e6]
    exact ⟨rfl, rfl, rfl⟩
  | d :: f :: g :: r => exact ⟨rfl, rfl, rfl⟩
theorem sizeU_cut (c : UInt8) (r y : List UInt8) : sizeU (c :: r ++ 47 :: y) = sizeU (c :: r) := by
  by_cases hc : c < 128
  · rw [List.cons_append, sizeU_r, sizeU_r, if_pos hc, if_pos hc]
  · have hc' : (128 : UInt8) ≤ c := UInt8.not_lt.1 hc
    rw [List.cons_append, size_kind hc', size_kind hc', ← List.cons_append]
    have k := kind_range c
    have lo := @kind_lo c
    generalize (kindU c).2.1 = l at lo
    generalize (kindU c).2.2 = hi
    generalize (kindU c).1 = n at k lo
    rcases k with rfl | rfl | rfl | rfl
    · rfl
    · obtain ⟨a1, a2, a3⟩ := atL_cut c r y (hi := hi) (lo (by decide))
      show (if _ then 2 else 0) = (if _ then 2 else 0)
      rw [a1]
    · obtain ⟨a1, a2, a3⟩ := atL_cut c r y (hi := hi) (lo (by decide))
      show (if _ then 3 else 0) = (if _ then 3 else 0)
      rw [a2]
    · obtain ⟨a1, a2, a3⟩ := atL_cut c r y (hi := hi) (lo (by decide))
      show (if _ then 4 else 0) = (if _ then 4 else 0)
      rw [a3]
theorem valid_cut (y : List UInt8) : ∀ (n : Nat) (x : List UInt8), x.length ≤ n → validU (x ++ 47 :: y) = (validU x && validU y)
  | _, [], _ => by rw [List.nil_append, validU_ascii (by decide)]; rfl
  | 0, _ :: _, h => by simp at h
  | n + 1, c :: r, h => by
    have e := sizeU_cut c r y
    have hle := sizeU_le c r
    by_cases h0 : sizeU (c :: r) = 0
    · rw [List.cons_append] at e ⊢
      rw [validU_none (by rw [e]; exact h0), validU_none h0]; rfl
    · rw [List.cons_append] at e ⊢
      rw [validU_some (by rw [e]; exact h0), validU_some h0, e, ← List.cons_append, List.drop_append_of_le_length hle]
      exact valid_cut y n _ (by rw [List.length_drop]; simp only [List.length_cons] at h ⊢; omega)
theorem text_cut (x y : List UInt8) : textB (x ++ 47 :: y) = (textB x && textB y) := by
  unfold textB
  rw [valid_cut y _ x (Nat.le_refl _), List.any_append, List.any_cons, show ((47 : UInt8) == 0) = false from rfl, Bool.false_or, Bool.not_or]
  cases validU x <;> cases validU y <;> cases (x.any fun b => b == 0) <;> cases (y.any fun b => b == 0) <;> rfl
theorem text_join : ∀ L : List (List UInt8), L ≠ [] → textB (joinL L) = L.all textB
  | [], h => absurd rfl h
  | [x], _ => by simp [joinL]
  | x :: y :: r, _ => by rw [joinL_cons, text_cut, text_join (y :: r) (by simp)]; rfl
theorem text_split (l : List UInt8) : textB l = (splitL l).all textB := by
  rw [← text_join _ (splitL_ne l), join_split]

/-! ### levels, put together -/
def joinB : List ByteArray → ByteArray
  | [] => ⟨#[]⟩
  | x :: r => r.foldl (fun a s => a ++ (⟨#[47]⟩ ++ s)) x
theorem fold_data : ∀ (r : List ByteArray) (x : ByteArray), (r.foldl (fun a s => a ++ (⟨#[47]⟩ ++ s)) x).data.toList = x.data.toList ++ (r.map fun s : ByteArray => s.data.toList).flatMap fun s => 47 :: s
  | [], x => by simp
  | s :: r, x => by
    rw [List.foldl_cons, fold_data r, bapp, bapp, List.map_cons, List.flatMap_cons, show (ByteArray.data ⟨#[47]⟩).toList = [47] from rfl]
    simp
theorem joinB_data : ∀ L : List ByteArray, (joinB L).data.toList = joinL (L.map fun s : ByteArray => s.data.toList)
  | [] => rfl
  | x :: r => by unfold joinB; rw [fold_data]; rfl
theorem map_toB (L : List ByteArray) : (L.map fun s : ByteArray => s.data.toList).map toB = L := by
  rw [List.map_map]
  conv => rhs; rw [← List.map_id L]
  exact List.map_congr_left fun s _ => toB_data s
theorem lev_join {L : List ByteArray} (h : L ≠ []) (hn : ∀ x ∈ L, ∀ b ∈ x.data.toList, b ≠ 47) : levS (joinB L) = L := by
  unfold levS
  rw [joinB_data, split_join _ (by simpa using h) (fun x hx => by
    obtain ⟨s, hs, rfl⟩ := List.mem_map.1 hx
    exact hn s hs), map_toB]
theorem join_lev (s : ByteArray) : joinB (levS s) = s := by
  have : (joinB (levS s)).data.toList = s.data.toList := by
    rw [joinB_data]
    unfold levS
    rw [List.map_map, show ((fun s : ByteArray => s.data.toList) ∘ toB) = id from rfl, List.map_id, join_split]
  rw [← toB_data (joinB (levS s)), this, toB_data]
theorem lev_no {s x : ByteArray} (hx : x ∈ levS s) : ∀ b ∈ x.data.toList, b ≠ 47 := by
  obtain ⟨y, hy, rfl⟩ := List.mem_map.1 hx
  exact split_no _ y hy
theorem lev_text {s x : ByteArray} (h : textB s.data.toList = true) (hx : x ∈ levS s) : textB x.data.toList = true := by
  obtain ⟨y, hy, rfl⟩ := List.mem_map.1 hx
  rw [text_split, List.all_eq_true] at h
  exact h y hy
theorem sized_text {s : ByteArray} {m : Nat} (h : sizedB s m = true) : textB s.data.toList = true := by simp only [sizedB, Bool.and_eq_true] at h; exact h.2
theorem okLevs_set {n : Nat} : ∀ {L : List ByteArray} {j i : Nat}, okLevs n j L = true → okLevs n j (L.set i plusB) = true
  | [], _, _, h => h
  | x :: L, j, 0, h => by
    rw [okLevs, Bool.and_eq_true] at h
    rw [List.set_cons_zero, okLevs, h.2]; simp
  | x :: L, j, i + 1, h => by
    rw [okLevs, Bool.and_eq_true] at h
    rw [List.set_cons_succ, okLevs, h.1, okLevs_set h.2]; rfl
theorem meet_set : ∀ {L M : List ByteArray} {i : Nat} {x : ByteArray}, meetS oneM L M = true → L[i]? = some x → x ≠ hashB → meetS oneM (L.set i plusB) M = true
  | [], _, _, _, _, hi, _ => by simp at hi
  | y :: L, M, 0, x, h, hi, hx => by
    simp at hi; subst hi
    unfold meetS at h
    rw [if_neg hx] at h
    rw [List.set_cons_zero]
    unfold meetS
    rw [if_neg (by decide)]
    match M, h with
    | [], h => cases h
    | z :: M, h =>
      simp only [Bool.and_eq_true] at h ⊢
      exact ⟨by simp [oneM], h.2⟩
  | y :: L, M, i + 1, x, h, hi, hx => by
    rw [List.set_cons_succ]
    unfold meetS at h ⊢
    split
    · rfl
    · rename_i q
      rw [if_neg q] at h
      match M, h with
      | [], h => cases h
      | z :: M, h =>
        simp only [Bool.and_eq_true] at h ⊢
        exact ⟨h.1, meet_set h.2 (by simpa using hi) hx⟩
theorem set_mem {L : List ByteArray} {i : Nat} {x : ByteArray} (h : x ∈ L.set i plusB) : x ∈ L ∨ x = plusB := List.mem_or_eq_of_mem_set h
theorem wide_match {f n : ByteArray} {i : Nat} {x : ByteArray} (hm : matchB f n = true) (hd : first n ≠ some 36) (hi : (levS f)[i]? = some x) (hx : x ≠ hashB) (hs : (joinB ((levS f).set i plusB)).size ≤ 64) :
    matchB (joinB ((levS f).set i plusB)) n = true := by
  simp only [matchB, Bool.and_eq_true, Bool.not_eq_true'] at hm ⊢
  obtain ⟨⟨⟨m1, m2⟩, m3⟩, m4⟩ := hm
  have m1' := m1
  simp only [filterB, Bool.and_eq_true] at m1
  have hil := (List.getElem?_eq_some_iff.1 hi).1
  have hne : (levS f).set i plusB ≠ [] := fun e => by
    have := congrArg List.length e
    rw [List.length_set] at this
    simp at this; rw [this] at hil; simp at hil
  have hlev : levS (joinB ((levS f).set i plusB)) = (levS f).set i plusB := lev_join hne fun z hz => by
    rcases set_mem hz with hz | rfl
    · exact lev_no hz
    · decide
  have htext : textB (joinB ((levS f).set i plusB)).data.toList = true := by
    rw [joinB_data, text_join _ (by simpa using hne), List.all_eq_true]
    intro z hz
    obtain ⟨s, hs, rfl⟩ := List.mem_map.1 hz
    rcases set_mem hs with hs | rfl
    · exact lev_text (sized_text m1.1) hs
    · decide +kernel
  have hone : 1 ≤ (joinB ((levS f).set i plusB)).size := by
    cases hz : (joinB ((levS f).set i plusB)).size with
    | succ k => omega
    | zero =>
      have e : (joinB ((levS f).set i plusB)).data.toList = [] := List.eq_nil_of_length_eq_zero (by rw [slen]; exact hz)
      have e2 : levS (joinB ((levS f).set i plusB)) = [toB []] := by
        show (splitL _).map toB = _
        rw [e]; rfl
      rw [hlev] at e2
      have : plusB ∈ (levS f).set i plusB := List.mem_set hil _
      rw [e2] at this
      simp at this
      exact absurd this (by decide)
  refine ⟨⟨⟨?_, m2⟩, ?_⟩, ?_⟩
  · unfold filterB
    rw [sized_of hone hs, htext, hlev, List.length_set, okLevs_set m1.2]; rfl
  · unfold hiddenB; simp [hd]
  · rw [hlev]; exact meet_set m4 hi hx

/-! ### below -/
def pre : List ByteArray → List ByteArray → Bool
  | [], _ => true
  | _ :: _, [] => false
  | x :: X, y :: M => decide (x = y) && pre X M
theorem pre_iff : ∀ {X M : List ByteArray}, pre X M = true ↔ ∃ R, M = X ++ R
  | [], M => by simp [pre]
  | x :: X, [] => by simp [pre]
  | x :: X, y :: M => by
    simp only [pre, Bool.and_eq_true, decide_eq_true_eq, pre_iff (X := X) (M := M), List.cons_append, List.cons.injEq]
    constructor
    · rintro ⟨rfl, R, rfl⟩; exact ⟨R, rfl, rfl⟩
    · rintro ⟨R, rfl, rfl⟩; exact ⟨rfl, R, rfl⟩
theorem meet_pre {one : ByteArray → ByteArray → Bool} (ho : ∀ x y, signB x = false → one x y = decide (x = y)) : ∀ {X M : List ByteArray}, (∀ x ∈ X, signB x = false) → meetS one (X ++ [hashB]) M = pre X M
  | [], M, _ => by rw [List.nil_append]; unfold meetS; rw [if_pos rfl]; rfl
  | x :: X, M, h => by
    have hx := h x (List.mem_cons_self ..)
    rw [List.cons_append]
    unfold meetS
    rw [if_neg (sign_ne hx).2]
    match M with
    | [] => rfl
    | y :: M =>
      dsimp only
      rw [ho x y hx, meet_pre ho fun z hz => h z (List.mem_cons_of_mem _ hz)]; rfl
theorem oneC_free (x y : ByteArray) (h : signB x = false) : oneC x y = decide (x = y) := by
  unfold oneC
  have hn := sign_ne h
  by_cases q : x = y
  · subst q; simp [hn.2]
  · simp [q, hn.1]
theorem joinL_app : ∀ {A B : List (List UInt8)}, A ≠ [] → B ≠ [] → joinL (A ++ B) = joinL A ++ 47 :: joinL B
  | [], _, h, _ => absurd rfl h
  | [x], [], _, h => absurd rfl h
  | [x], y :: r, _, _ => by rw [List.cons_append, List.nil_append, joinL_cons]; simp [joinL]
  | x :: y :: r, B, _, h => by
    rw [List.cons_append, List.cons_append, joinL_cons, joinL_cons, ← List.cons_append, joinL_app (by simp) h]
    simp
theorem pre_lev {n o : ByteArray} : pre (levS n) (levS o) = true ↔ o = n ∨ ∃ y, o.data.toList = n.data.toList ++ 47 :: y := by
  rw [pre_iff]
  constructor
  · rintro ⟨R, h⟩
    by_cases hR : R = []
    · subst hR
      rw [List.append_nil] at h
      exact .inl (levS_inj h)
    · right
      refine ⟨joinL (R.map fun s : ByteArray => s.data.toList), ?_⟩
      have := congrArg (fun L : List ByteArray => joinL (L.map fun s : ByteArray => s.data.toList)) h
      simp only [List.map_append] at this
      rw [joinL_app (by simpa using levS_ne n) (by simpa using hR), ← joinB_data, ← joinB_data, join_lev, join_lev] at this
      exact this
  · rintro (rfl | ⟨y, h⟩)
    · exact ⟨[], by simp⟩
    · refine ⟨levS (toB y), ?_⟩
      rw [← levS_app]
      congr 1
      rw [← toB_data o, h, ← toB_data (n ++ (⟨#[47]⟩ ++ toB y)), bapp, bapp]
      rfl
def belowF (n : ByteArray) : ByteArray := n ++ ⟨#[47, 35]⟩
theorem belowF_lev (n : ByteArray) : levS (belowF n) = levS n ++ [hashB] := by
  have e : belowF n = n ++ (⟨#[47]⟩ ++ hashB) := rfl
  rw [e, levS_app]
  have : levS hashB = [hashB] := by kernel_rfl
  rw [this]
theorem okLevs_app {N : Nat} : ∀ {X : List ByteArray} {i : Nat}, (∀ x ∈ X, signB x = false) → i + X.length + 1 = N → okLevs N i (X ++ [hashB]) = true
  | [], i, _, h => by
    rw [List.nil_append, okLevs, okLevs]
    have : i + 1 = N := by simpa using h
    simp [this]
  | x :: X, i, hf, h => by
    rw [List.cons_append, okLevs, hf x (List.mem_cons_self ..), okLevs_app (fun y hy => hf y (List.mem_cons_of_mem _ hy)) (by simp at h; omega)]
    simp
theorem belowF_filter {n : ByteArray} (h : nameB n = true) (hs : n.size + 2 ≤ 64) : filterB (belowF n) = true := by
  have hz : sizedB n 64 = true := by simp only [nameB, Bool.and_eq_true] at h; exact h.1
  have ht : textB (belowF n).data.toList = true := by
    have e : (belowF n).data.toList = n.data.toList ++ 47 :: [35] := by unfold belowF; rw [bapp]
    rw [e, text_cut, sized_text hz]; decide +kernel
  have hl : (belowF n).size = n.size + 2 := by unfold belowF; rw [bapp_size]; rfl
  unfold filterB
  rw [sized_of (by omega) (by omega), ht, belowF_lev, okLevs_app (name_lev h) (by simp)]; rfl
theorem belowF_first {n : ByteArray} (h : nameB n = true) : first (belowF n) ≠ some 43 ∧ first (belowF n) ≠ some 35 := by
  have e : first (belowF n) = first n := by
    have h1 := (name_one h).1
    unfold first belowF
    rw [bapp]
    cases hl : n.data.toList with
    | nil => rw [← slen, hl] at h1; simp at h1
    | cons b r => rfl
  rw [e]; exact name_first h
theorem below_match {n o : ByteArray} (h : nameB n = true) (ho : nameB o = true) (hs : n.size + 2 ≤ 64) : matchB (belowF n) o = pre (levS n) (levS o) := by
  unfold matchB
  rw [belowF_filter h hs, ho, hidden_not (belowF_first h), belowF_lev, meet_pre oneM_free (name_lev h)]; simp
theorem below_covers {n o : ByteArray} (h : nameB n = true) (ho : filterB o = true) (hs : n.size + 2 ≤ 64) : coversB (belowF n) o = pre (levS n) (levS o) := by
  unfold coversB
  rw [belowF_filter h hs, ho, hidden_not (belowF_first h), belowF_lev, meet_pre oneC_free (name_lev h)]; simp
theorem pre_self (X : List ByteArray) : pre X X = true := pre_iff.2 ⟨[], by simp⟩
theorem extract_pre {n o : ByteArray} (h : n.size < o.size) (hne : o ≠ n) : decide (o.extract 0 (n.size + 1) = n ++ ⟨#[47]⟩) = pre (levS n) (levS o) := by
  rw [Bool.eq_iff_iff, decide_eq_true_eq, pre_lev]
  constructor
  · intro e
    right
    have := congrArg (fun s : ByteArray => s.data.toList) e
    simp only [extr_list, bapp] at this
    refine ⟨o.data.toList.drop (n.size + 1), ?_⟩
    have h2 := (List.take_append_drop (n.size + 1) o.data.toList).symm
    rw [List.drop_zero, Nat.sub_zero] at this
    rw [this] at h2
    refine h2.trans ?_
    show _ = _ ++ ([47] ++ _)
    rw [← List.append_assoc]
  · rintro (e | ⟨y, e⟩)
    · exact absurd e hne
    · rw [extr, List.drop_zero, Nat.sub_zero, e, ← toB_data (n ++ ⟨#[47]⟩), bapp]
      congr 1
      rw [List.take_append, List.take_of_length_le (by rw [slen]; omega), slen, show n.size + 1 - n.size = 1 by omega]
      rfl
theorem pre_short {n o : ByteArray} (h : ¬ n.size < o.size) (hne : o ≠ n) : pre (levS n) (levS o) = false := by
  cases q : pre (levS n) (levS o) with
  | false => rfl
  | true =>
    rcases pre_lev.1 q with e | ⟨y, e⟩
    · exact absurd e hne
    · have := congrArg List.length e
      rw [slen, List.length_append, slen] at this
      simp at this; omega
end Go.G.YtjeneodgjclpiaaDoor
