/- The plain law of Apply. -/
import Derived.Test.YtpnhlgghpciofaaLV
import Derived.Test.YtpnhlgghpciofaaProg
set_option maxRecDepth 100000
namespace Go.G.Ytpnhlgghpciofaa
open Go.RowKit
/-! ### the plain law of Apply: what is sorted is what is put in place -/
theorem ordD_flip (a b : Dat) : ordD a b = - ordD b a := by
  unfold ordD
  by_cases h : Dat.lev a = Dat.lev b
  · simp only [h, ne_eq, not_true, if_false]
    split
    · exact cmpI_flip _ _
    · exact cmpL_flip _ _
  · have h' : ¬ Dat.lev b = Dat.lev a := fun e => h e.symm
    simp only [ne_eq, h, h', not_false_eq_true, if_true]
    exact cmpI_flip _ _
theorem cmpI_le (x y : Int) : cmpI x y ≤ 0 ↔ x ≤ y := by unfold cmpI; split <;> (try split) <;> omega
theorem ordD_le_trans {a b c : Dat} (h1 : ordD a b ≤ 0) (h2 : ordD b c ≤ 0) : ordD a c ≤ 0 := by
  unfold ordD at *
  by_cases e1 : Dat.lev a = Dat.lev b
  · by_cases e2 : Dat.lev b = Dat.lev c
    · have e3 : Dat.lev a = Dat.lev c := e1.trans e2
      rw [if_neg (by simpa using e1)] at h1
      rw [if_neg (by simpa using e2)] at h2
      rw [if_neg (by simpa using e3)]
      by_cases z : Dat.lev a = 0
      · rw [if_pos z] at h1 ⊢
        rw [if_pos (by omega)] at h2
        rw [cmpI_le] at *
        omega
      · rw [if_neg z] at h1 ⊢
        rw [if_neg (by omega)] at h2
        exact cmpL_le_trans h1 h2
    · rw [if_pos (by simpa using e2), cmpI_le] at h2
      rw [if_pos (by simpa [e1] using e2), cmpI_le]
      omega
  · rw [if_pos (by simpa using e1), cmpI_le] at h1
    by_cases e2 : Dat.lev b = Dat.lev c
    · rw [if_pos (by rw [← e2]; simpa using e1), cmpI_le]
      omega
    · rw [if_pos (by simpa using e2), cmpI_le] at h2
      rw [if_pos (by omega), cmpI_le]
      omega

def LeD (a b : Dat) : Prop := ordD a b ≤ 0
def LtD (a b : Dat) : Prop := ordD a b < 0

theorem pairwise_of_next : ∀ {l : List Dat}, (∀ (i : Nat) (a b : Dat), l[i]? = some a → l[i + 1]? = some b → LeD a b) → l.Pairwise LeD
  | [], _ => by simp
  | [a], _ => by simp
  | a :: b :: l, h => by
    have ih := pairwise_of_next (l := b :: l) fun i x y hx hy => h (i + 1) x y (by simpa using hx) (by simpa using hy)
    rw [List.pairwise_cons]
    refine ⟨fun d hd => ?_, ih⟩
    have hab : LeD a b := h 0 a b rfl rfl
    rcases List.mem_cons.1 hd with rfl | hd
    · exact hab
    · exact ordD_le_trans hab ((List.pairwise_cons.1 ih).1 d hd)
theorem sorted_pair {us : List Tab} (h : Sorted us) : (us.map Tab.dat).Pairwise LeD := pairwise_of_next fun i a b ha hb => by
  rw [List.getElem?_map] at ha hb
  cases h1 : us[i]? with
  | none => rw [h1] at ha; cases ha
  | some t =>
    cases h2 : us[i + 1]? with
    | none => rw [h2] at hb; cases hb
    | some u =>
      rw [h1] at ha
      rw [h2] at hb
      simp only [Option.map_some, Option.some.injEq] at ha hb
      subst ha hb
      have := h i t u h1 h2
      have := ordD_flip t.dat u.dat
      have h3 : ordR u t = ordD u.dat t.dat := rfl
      show ordD t.dat u.dat ≤ 0
      omega

theorem same_of_perm : ∀ {S R : List Dat}, S.Perm R → S.Pairwise LtD → R.Pairwise LeD → S = R
  | [], R, h, _, _ => (List.nil_perm.1 h).symm
  | s :: S, [], h, _, _ => by have := h.length_eq; simp at this
  | s :: S, r :: R, h, hs, hr => by
    rw [List.pairwise_cons] at hs hr
    have hr1 : r ∈ s :: S := h.mem_iff.2 (.head _)
    have hs1 : s ∈ r :: R := h.mem_iff.1 (.head _)
    have e : r = s := by
      rcases List.mem_cons.1 hr1 with e | hr2
      · exact e
      · rcases List.mem_cons.1 hs1 with e | hs2
        · exact e.symm
        · have h1 : ordD s r < 0 := hs.1 r hr2
          have h2 : ordD r s ≤ 0 := hr.1 s hs2
          have := ordD_flip s r
          omega
    subst e
    rw [same_of_perm (List.perm_cons _ |>.1 h) hs.2 hr.2]

theorem putR_perm {t : Tab} : ∀ {l : List Tab}, (putR t l).Perm (t :: l)
  | [] => List.Perm.refl _
  | u :: r => by
    unfold putR
    split
    · exact (List.Perm.cons u (putR_perm (l := r))).trans (List.Perm.swap t u r)
    · exact List.Perm.refl _
theorem foldl_perm : ∀ {add kept : List Tab}, (add.foldl (fun l t => putR t l) kept).Perm (kept ++ add)
  | [], kept => by simp
  | t :: add, kept => by
    rw [List.foldl_cons]
    refine (foldl_perm (add := add)).trans ?_
    refine (List.Perm.append_right add putR_perm).trans ?_
    exact (List.perm_middle (a := t) (l₁ := kept) (l₂ := add)).symm
theorem putR_le {t : Tab} : ∀ {l : List Tab}, (l.map Tab.dat).Pairwise LeD → ((putR t l).map Tab.dat).Pairwise LeD
  | [], _ => by simp [putR]
  | u :: r, h => by
    rw [List.map_cons, List.pairwise_cons] at h
    have ih := putR_le (t := t) h.2
    unfold putR
    split
    · rename_i q
      rw [aheadR_ord, decide_eq_true_eq] at q
      rw [List.map_cons, List.pairwise_cons]
      refine ⟨fun d hd => ?_, ih⟩
      obtain ⟨w, hw, rfl⟩ := List.mem_map.1 hd
      rcases mem_putR hw with rfl | hw
      · have h3 : ordR u w = ordD u.dat w.dat := rfl
        show ordD u.dat w.dat ≤ 0
        omega
      · exact h.1 _ (List.mem_map_of_mem hw)
    · rename_i q
      rw [aheadR_ord, decide_eq_true_eq] at q
      have h3 : ordR u t = ordD u.dat t.dat := rfl
      have hf := ordD_flip t.dat u.dat
      have htu : LeD t.dat u.dat := by show ordD t.dat u.dat ≤ 0; omega
      rw [List.map_cons, List.map_cons, List.pairwise_cons, List.pairwise_cons]
      refine ⟨fun d hd => ?_, h⟩
      rcases List.mem_cons.1 hd with rfl | hd
      · exact htu
      · exact ordD_le_trans htu (h.1 d hd)
theorem foldl_le : ∀ {add kept : List Tab}, (kept.map Tab.dat).Pairwise LeD → ((add.foldl (fun l t => putR t l) kept).map Tab.dat).Pairwise LeD
  | [], _, h => h
  | _ :: add, _, h => foldl_le (add := add) (putR_le h)

theorem before_lt {l : List Dat} (h : l.Pairwise Before) : l.Pairwise LtD := h.imp fun h => h.1
theorem lt_le {l : List Dat} (h : l.Pairwise LtD) : l.Pairwise LeD := h.imp fun {a b} h => by
  have : ordD a b < 0 := h
  show ordD a b ≤ 0
  omega

/-- What f33 asks of the sort's work. -/
theorem apply_plain {v : Ver} {lo nx sq : Int} {add : List Tab} {rem : List Int} (hv : mayV v.lo v.nx v.sq v.ts = true) (us S : List Tab)
    (hus : us.map Tab.dat = (v.ts.filter (fun t => !(rem.any fun m => m == t.num)) ++ add).map Tab.dat) (hp : S.Perm us) (hs : Sorted S) :
    mayV lo nx sq S = mayV lo nx sq (add.foldl (fun l t => putR t l) (v.ts.filter fun t => !(rem.any fun m => m == t.num))) ∧
    (mayV lo nx sq S = true → S.map Tab.dat = (add.foldl (fun l t => putR t l) (v.ts.filter fun t => !(rem.any fun m => m == t.num))).map Tab.dat) := by
  have hperm : (S.map Tab.dat).Perm ((add.foldl (fun l t => putR t l) (v.ts.filter fun t => !(rem.any fun m => m == t.num))).map Tab.dat) := by
    refine (hp.map Tab.dat).trans ?_
    rw [hus]
    exact (foldl_perm.map Tab.dat).symm
  have hS := sorted_pair hs
  have hv' := hv
  simp only [mayV, Bool.and_eq_true] at hv'
  have hkept : ((v.ts.filter fun t => !(rem.any fun m => m == t.num)).map Tab.dat).Pairwise LeD :=
    lt_le (before_lt ((mayL_before hv'.2).2.sublist (List.filter_sublist.map Tab.dat)))
  have hR := foldl_le (add := add) hkept
  generalize add.foldl (fun l t => putR t l) (v.ts.filter fun t => !(rem.any fun m => m == t.num)) = R at *
  have strict : ∀ {l : List Tab}, mayV lo nx sq l = true → (l.map Tab.dat).Pairwise LtD := fun {l} h => by
    simp only [mayV, Bool.and_eq_true] at h
    exact before_lt (mayL_before h.2).2
  have fwd : mayV lo nx sq S = true → S.map Tab.dat = R.map Tab.dat := fun h => same_of_perm hperm (strict h) hR
  refine ⟨?_, fwd⟩
  cases h1 : mayV lo nx sq S
  · cases h2 : mayV lo nx sq R
    · rfl
    · have := same_of_perm hperm.symm (strict h2) hS
      rw [← mayV_dat this, h2] at h1
      cases h1
  · rw [← mayV_dat (fwd h1), h1]
end Go.G.Ytpnhlgghpciofaa
