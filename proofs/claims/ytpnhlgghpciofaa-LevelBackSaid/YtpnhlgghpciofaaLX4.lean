/- symMerge. -/
import Derived.Test.YtpnhlgghpciofaaLX3
import Derived.Test.YtpnhlgghpciofaaProg
set_option maxRecDepth 100000
namespace Go.G.Ytpnhlgghpciofaa
open Go.RowKit
theorem lastTake {L : List Tab} {q : Nat} {t : Tab} (hq : 0 < q) (ht : L[q - 1]? = some t) : ∃ L', L.take q = L' ++ [t] :=
  ⟨L.take (q - 1), by
    have e : q = (q - 1) + 1 := by omega
    conv => lhs; rw [e]
    rw [List.take_add_one, ht]; rfl⟩
theorem headDrop {L : List Tab} {q : Nat} {t : Tab} (ht : L[q]? = some t) : ∃ L', L.drop q = t :: L' := by
  obtain ⟨h, e⟩ := List.getElem?_eq_some_iff.1 ht
  exact ⟨L.drop (q + 1), by rw [List.drop_eq_getElem_cons h, e]⟩
theorem idxR {X Y : List Tab} {q i : Nat} (h : i = X.length + q) : (X ++ Y)[i]? = Y[q]? := by
  subst h
  rw [List.getElem?_append_right (by omega)]
  congr 1; omega
theorem idxM {X Y Z : List Tab} {q i : Nat} (h : i = X.length + q) (hq : q < Y.length) : (X ++ Y ++ Z)[i]? = Y[q]? := by
  rw [List.append_assoc, idxR h, List.getElem?_append_left hq]
theorem joinSorted {X Y : List Tab} (hx : X.Pairwise LeT) (hy : Y.Pairwise LeT) (h : ∀ x ∈ X, ∀ y ∈ Y, LeT x y) : (X ++ Y).Pairwise LeT := List.pairwise_append.2 ⟨hx, hy, h⟩

section
variable {w0 : World} {h0 : AH} {ad : Addr} {n c : Nat} {us0 : List Tab}
variable (hok : ∀ t ∈ us0, t.OkX w0 h0 (some ad)) (hn : n ≤ 1000000)
include hok hn

/-- slices.symMergeCmpFunc. -/
theorem f81_spec : ∀ (k : Nat) (K : Value → AH → Prop) (P A B Z : List Tab) (h : AH), A.length + B.length ≤ k → 0 < A.length → 0 < B.length → A.Pairwise LeT → B.Pairwise LeT → SS w0 h0 ad n c us0 h (P ++ A ++ B ++ Z) →
    (∀ h' M, SS w0 h0 ad n c us0 h' (P ++ M ++ Z) → M.Perm (A ++ B) → M.Pairwise LeT → K (.tuple #[]) h') → ∀ (a m b : Nat), a = P.length → m = P.length + A.length → b = P.length + A.length + B.length →
    EvC Go.Proofs.Try.prog w0 81 #[.slice (some ad) n c, .int .i64 ((a : Nat) : Int), .int .i64 ((m : Nat) : Int), .int .i64 ((b : Nat) : Int), .func (.func 53) #[] #[]] K h := by
  intro k
  induction k with
  | zero => intro K P A B Z h h1 h2; omega
  | succ k ih =>
    intro K P A B Z h h1 hA hB sA sB s hK a m b ha hm hb
    have hl := s.len
    simp only [List.length_append] at hl
    refine f81_go _ _ _ _ _ _ _ ?_
    rw [subS (by omega) (by omega), subS (by omega) (by omega), midS (by omega)]
    refine brB_of (fun q => ?_) fun q => brB_of (fun q2 => ?_) fun q2 => ⟨by omega, ?_⟩
    · -- one table is to be put into B
      have hA1 : A.length = 1 := by simp at q; omega
      obtain ⟨x, rfl⟩ : ∃ x, A = [x] := List.length_eq_one_iff.1 hA1
      have eU : P ++ [x] ++ B ++ Z = P ++ x :: (B ++ Z) := by simp
      have gx : (P ++ [x] ++ B ++ Z)[a]? = some x := by rw [eU, ha]; exact getMid
      refine f81_3_ok hok hn s (m := m) gx (by omega) (by omega) (fun i hmi hib hE1 hE2 => ?_) _ m b (Nat.le_refl _) (Nat.le_refl _) (by omega) (by omega) (Or.inl rfl) (Or.inl rfl)
      have eB : B = B.take (i - m) ++ B.drop (i - m) := (List.take_append_drop _ _).symm
      have l1 : (B.take (i - m)).length = i - m := by simp; omega
      have sB1 : (B.take (i - m)).Pairwise LeT := sB.sublist (List.take_sublist _ _)
      have sB2 : (B.drop (i - m)).Pairwise LeT := sB.sublist (List.drop_sublist _ _)
      have c1 : ∀ y ∈ B.take (i - m), ∀ z ∈ [x], LeT y z := by
        refine crossLe sB1 (by simp) ?_
        rcases hE1 with e | ⟨t, ht, ho⟩
        · left; rw [e]; simp
        · by_cases e : i = m
          · left; rw [e]; simp
          · have hlt : i - m - 1 < B.length := by omega
            have ht' : B[i - m - 1]? = some t := by rw [← idxM (X := P ++ [x]) (Z := Z) (i := i - 1) (by simp at hm ⊢; omega) hlt]; exact ht
            obtain ⟨L', eL⟩ := lastTake (q := i - m) (by omega) ht'
            exact .inr (.inr ⟨L', t, x, [], eL, rfl, by show ordR t x ≤ 0; omega⟩)
      have c2 : ∀ y ∈ [x], ∀ z ∈ B.drop (i - m), LeT y z := by
        refine crossLe (by simp) sB2 ?_
        rcases hE2 with e | ⟨t, ht, ho⟩
        · right; left; rw [e]; simp; omega
        · by_cases e : i = b
          · right; left; rw [e]; simp; omega
          · have hlt : i - m < B.length := by omega
            have ht' : B[i - m]? = some t := by rw [← idxM (X := P ++ [x]) (Z := Z) (i := i) (by simp at hm ⊢; omega) hlt]; exact ht
            obtain ⟨L', eL⟩ := headDrop ht'
            exact .inr (.inr ⟨[], x, t, L', rfl, eL, LeT.of_not ho⟩)
      generalize B.take (i - m) = B1 at *
      generalize B.drop (i - m) = B2 at *
      subst eB
      have := f81_9_ok hn (P := P) (B1 := B1) (R := B2 ++ Z) (x := x) (K := K) (fun h' s' => hK h' (B1 ++ x :: B2) (by simpa using s') (by simp) (joinSorted sB1 (List.pairwise_cons.2 ⟨fun z hz => c2 x (by simp) z hz, sB2⟩) fun y hy z hz => by
            rcases List.mem_cons.1 hz with rfl | hz
            · exact c1 y hy _ (by simp)
            · exact LeT.trans (c1 y hy x (by simp)) (c2 x (by simp) z hz))) (i := i) (by simp at hm; omega) B1 [] h rfl (by simpa using s)
      rw [ha]
      simpa using this
    · -- one table is to be put into A
      have hB1 : B.length = 1 := by simp at q2; omega
      obtain ⟨x, rfl⟩ : ∃ x, B = [x] := List.length_eq_one_iff.1 hB1
      have eU : P ++ A ++ [x] ++ Z = (P ++ A) ++ x :: Z := by simp
      have gx : (P ++ A ++ [x] ++ Z)[m]? = some x := by rw [eU, hm, show P.length + A.length = (P ++ A).length by simp]; exact getMid
      refine f81_15_ok hok hn s (a := a) gx (by omega) (fun i hai him hE3 hE4 => ?_) _ a m (Nat.le_refl _) (Nat.le_refl _) (by omega) (by omega) (Or.inl rfl) (Or.inl rfl)
      have eA : A = A.take (i - a) ++ A.drop (i - a) := (List.take_append_drop _ _).symm
      have l1 : (A.take (i - a)).length = i - a := by simp; omega
      have sA1 : (A.take (i - a)).Pairwise LeT := sA.sublist (List.take_sublist _ _)
      have sA2 : (A.drop (i - a)).Pairwise LeT := sA.sublist (List.drop_sublist _ _)
      have eV : P ++ A ++ [x] ++ Z = P ++ A ++ ([x] ++ Z) := by simp
      have c1 : ∀ y ∈ A.take (i - a), ∀ z ∈ [x], LeT y z := by
        refine crossLe sA1 (by simp) ?_
        rcases hE3 with e | ⟨t, ht, ho⟩
        · left; rw [e]; simp
        · by_cases e : i = a
          · left; rw [e]; simp
          · have hlt : i - a - 1 < A.length := by omega
            have ht' : A[i - a - 1]? = some t := by rw [← idxM (X := P) (Z := [x] ++ Z) (i := i - 1) (by omega) hlt, ← eV]; exact ht
            obtain ⟨L', eL⟩ := lastTake (q := i - a) (by omega) ht'
            exact .inr (.inr ⟨L', t, x, [], eL, rfl, LeT.of_not ho⟩)
      have c2 : ∀ y ∈ [x], ∀ z ∈ A.drop (i - a), LeT y z := by
        refine crossLe (by simp) sA2 ?_
        rcases hE4 with e | ⟨t, ht, ho⟩
        · right; left; rw [e]; simp; omega
        · by_cases e : i = m
          · right; left; rw [e]; simp; omega
          · have hlt : i - a < A.length := by omega
            have ht' : A[i - a]? = some t := by rw [← idxM (X := P) (Z := [x] ++ Z) (i := i) (by omega) hlt, ← eV]; exact ht
            obtain ⟨L', eL⟩ := headDrop ht'
            exact .inr (.inr ⟨[], x, t, L', rfl, eL, by show ordR x t ≤ 0; omega⟩)
      generalize A.take (i - a) = A1 at *
      generalize A.drop (i - a) = A2 at *
      subst eA
      have := f81_21_ok hn (P := P ++ A1) (A2 := A2) (R := Z) (x := x) (K := K) (fun h' s' => hK h' (A1 ++ x :: A2) (by simpa using s') (by
          have := (List.perm_middle (a := x) (l₁ := A1) (l₂ := A2)).trans (List.perm_append_comm (l₁ := [x]) (l₂ := A1 ++ A2))
          simpa using this) (joinSorted sA1 (List.pairwise_cons.2 ⟨fun z hz => c2 x (by simp) z hz, sA2⟩) fun y hy z hz => by
            rcases List.mem_cons.1 hz with rfl | hz
            · exact c1 y hy _ (by simp)
            · exact LeT.trans (c1 y hy x (by simp)) (c2 x (by simp) z hz))) (i := i) (by simp; omega) A2.length A2 [] h rfl (by simp) (by simpa using s)
      have em : (P ++ A1).length + A2.length = m := by rw [hm]; simp; omega
      rw [em] at this
      exact this
    · -- the search, the turn, the two halves
      have hA2 : 2 ≤ A.length := by simp at q; omega
      have hB2 : 2 ≤ B.length := by simp at q2; omega
      have whole : ∀ (lo hi : Nat), ((a + b) / 2 < m ∧ lo = (a + b) / 2 + m - b ∧ hi = (a + b) / 2) ∨ (m ≤ (a + b) / 2 ∧ lo = a ∧ hi = m) →
          f81_33 w0 K (some ad) n c ((a : Nat) : Int) ((m : Nat) : Int) ((b : Nat) : Int) (((a + b) / 2 : Nat) : Int) (((a + b) / 2 + m : Nat) : Int) ((lo : Nat) : Int) ((hi : Nat) : Int) (((a + b) / 2 + m - 1 : Nat) : Int) h := by
        intro lo hi hcase
        refine f81_33_ok hok hn s (lo := lo) (hi := hi) (by omega) (by omega) (fun cc g1 g2 => by omega) (by omega) (fun st hst1 hst2 hE5 hE6 => ?_) _ lo hi (Nat.le_refl _) (Nat.le_refl _) (by omega) (Nat.le_refl _) (Or.inl rfl) (Or.inl rfl)
        rw [subS (by omega) (by omega)]
        generalize hen : (a + b) / 2 + m - st = en at *
        generalize hmid : (a + b) / 2 = mid at *
        have b1 : a ≤ st := by omega
        have b2 : st ≤ m := by omega
        have b3 : m ≤ en := by omega
        have b4 : en ≤ b := by omega
        have b5 : st ≤ mid := by omega
        have b6 : mid ≤ en := by omega
        have b7 : (st - a) + (en - m) = mid - a := by omega
        have b8 : m - st = en - mid := by omega
        have b9 : mid - a < A.length + B.length := by omega
        have b10 : b - mid < A.length + B.length := by omega
        have eA : A = A.take (st - a) ++ A.drop (st - a) := (List.take_append_drop _ _).symm
        have eB : B = B.take (en - m) ++ B.drop (en - m) := (List.take_append_drop _ _).symm
        have lA1 : (A.take (st - a)).length = st - a := by simp; omega
        have lA2 : (A.drop (st - a)).length = m - st := by simp; omega
        have lB1 : (B.take (en - m)).length = en - m := by simp; omega
        have lB2 : (B.drop (en - m)).length = b - en := by simp; omega
        have sA1 : (A.take (st - a)).Pairwise LeT := sA.sublist (List.take_sublist _ _)
        have sA2 : (A.drop (st - a)).Pairwise LeT := sA.sublist (List.drop_sublist _ _)
        have sB1 : (B.take (en - m)).Pairwise LeT := sB.sublist (List.take_sublist _ _)
        have sB2 : (B.drop (en - m)).Pairwise LeT := sB.sublist (List.drop_sublist _ _)
        have eV : P ++ A ++ B ++ Z = P ++ A ++ (B ++ Z) := by simp
        have X1 : ∀ x ∈ A.take (st - a), ∀ y ∈ B.drop (en - m), LeT x y := by
          refine crossLe sA1 sB2 ?_
          by_cases e1 : st = a
          · left; exact List.eq_nil_of_length_eq_zero (by omega)
          by_cases e2 : en = b
          · right; left; exact List.eq_nil_of_length_eq_zero (by omega)
          rcases hE5 with e | ⟨t, u, ht, hu, ho⟩
          · exfalso; omega
          · have ht' : B[en - m]? = some t := by rw [← idxM (X := P ++ A) (Z := Z) (i := mid + m - 1 - (st - 1)) (by simp; omega) (by omega)]; exact ht
            have hu' : A[st - a - 1]? = some u := by rw [← idxM (X := P) (Z := B ++ Z) (i := st - 1) (by omega) (by omega), ← eV]; exact hu
            obtain ⟨L1, g1⟩ := lastTake (q := st - a) (by omega) hu'
            obtain ⟨L2, g2⟩ := headDrop ht'
            exact .inr (.inr ⟨L1, u, t, L2, g1, g2, LeT.of_not ho⟩)
        have X2 : ∀ x ∈ B.take (en - m), ∀ y ∈ A.drop (st - a), LeT x y := by
          refine crossLe sB1 sA2 ?_
          by_cases e1 : en = m
          · left; exact List.eq_nil_of_length_eq_zero (by omega)
          by_cases e2 : st = m
          · right; left; exact List.eq_nil_of_length_eq_zero (by omega)
          rcases hE6 with e | ⟨t, u, ht, hu, ho⟩
          · exfalso; omega
          · have ht' : B[en - m - 1]? = some t := by rw [← idxM (X := P ++ A) (Z := Z) (i := mid + m - 1 - st) (by simp; omega) (by omega)]; exact ht
            have hu' : A[st - a]? = some u := by rw [← idxM (X := P) (Z := B ++ Z) (i := st) (by omega) (by omega), ← eV]; exact hu
            obtain ⟨L1, g1⟩ := lastTake (q := en - m) (by omega) ht'
            obtain ⟨L2, g2⟩ := headDrop hu'
            exact .inr (.inr ⟨L1, t, u, L2, g1, g2, by show ordR t u ≤ 0; omega⟩)
        generalize A.take (st - a) = A1 at *
        generalize A.drop (st - a) = A2 at *
        generalize B.take (en - m) = B1 at *
        generalize B.drop (en - m) = B2 at *
        subst eA eB
        have hdone : ∀ (h' : AH) (M1 M2 : List Tab), SS w0 h0 ad n c us0 h' (P ++ M1 ++ M2 ++ Z) → M1.Perm (A1 ++ B1) → M2.Perm (A2 ++ B2) → M1.Pairwise LeT → M2.Pairwise LeT → K (.tuple #[]) h' := fun h' M1 M2 s' p1 p2 q1 q2 => by
          refine hK h' (M1 ++ M2) (by simpa using s') ?_ (joinSorted q1 q2 fun x hx y hy => ?_)
          · refine (List.Perm.append p1 p2).trans ?_
            simp only [List.append_assoc]
            refine List.Perm.append_left A1 ?_
            rw [← List.append_assoc, ← List.append_assoc]
            exact List.Perm.append_right B2 List.perm_append_comm
          · rcases List.mem_append.1 (p1.mem_iff.1 hx) with hx | hx <;> rcases List.mem_append.1 (p2.mem_iff.1 hy) with hy | hy
            · exact (List.pairwise_append.1 sA).2.2 x hx y hy
            · exact X1 x hx y hy
            · exact X2 x hx y hy
            · exact (List.pairwise_append.1 sB).2.2 x hx y hy
        simp only [List.length_append] at h1 hA hB hA2 hB2 hm hb b9 b10
        have second : ∀ (h' : AH) (M1 : List Tab), SS w0 h0 ad n c us0 h' (P ++ M1 ++ (A2 ++ B2) ++ Z) → M1.Perm (A1 ++ B1) → M1.Pairwise LeT → f81_43 w0 K (some ad) n c ((b : Nat) : Int) ((mid : Nat) : Int) ((en : Nat) : Int) h' := fun h' M1 s' p1 q1 => by
          have lM : M1.length = mid - a := by rw [p1.length_eq, List.length_append]; omega
          have skip : A2 = [] ∨ B2 = [] → K (.tuple #[]) h' := fun e => by
            refine hdone h' M1 (A2 ++ B2) s' p1 (List.Perm.refl _) q1 ?_
            rcases e with rfl | rfl
            · simpa using sB2
            · simpa using sA2
          refine f81_43_in _ _ _ _ _ _ _ (brB_of (fun z => f81_44_in _ _ _ _ _ _ _ _ (brB_of (fun z2 => ?_) fun z2 => skip (.inr (List.eq_nil_of_length_eq_zero (by simp at z2; omega))))) fun z => f81_44_in _ _ _ _ _ _ _ _ (brB_of (fun e => by cases e) fun _ => skip (.inl (List.eq_nil_of_length_eq_zero (by simp at z; omega)))))
          have z' : mid < en := by simp at z; omega
          have z2' : en < b := by simp at z2; omega
          exact ih _ (P ++ M1) A2 B2 Z h' (by omega) (by omega) (by omega) sA2 sB2 (by simpa using s') (fun h2 M s2 p2 q2 => ⟨rfl, hdone h2 M1 M (by simpa using s2) p1 p2 q1 q2⟩) _ _ _ (by simp; omega) (by simp; omega) (by simp; omega)
        have first : ∀ (h' : AH), SS w0 h0 ad n c us0 h' (P ++ (A1 ++ B1) ++ (A2 ++ B2) ++ Z) → f81_41 w0 K (some ad) n c ((a : Nat) : Int) ((b : Nat) : Int) ((mid : Nat) : Int) ((st : Nat) : Int) ((en : Nat) : Int) h' := fun h' s' => by
          have skip : A1 = [] ∨ B1 = [] → f81_43 w0 K (some ad) n c ((b : Nat) : Int) ((mid : Nat) : Int) ((en : Nat) : Int) h' := fun e => by
            refine second h' (A1 ++ B1) s' (List.Perm.refl _) ?_
            rcases e with rfl | rfl
            · simpa using sB1
            · simpa using sA1
          refine f81_41_in _ _ _ _ _ _ _ _ _ (brB_of (fun z => f81_42_in _ _ _ _ _ _ _ _ _ _ (brB_of (fun z2 => ?_) fun z2 => skip (.inr (List.eq_nil_of_length_eq_zero (by simp at z2; omega))))) fun z => f81_42_in _ _ _ _ _ _ _ _ _ _ (brB_of (fun e => by cases e) fun _ => skip (.inl (List.eq_nil_of_length_eq_zero (by simp at z; omega)))))
          have z' : a < st := by simp at z; omega
          have z2' : st < mid := by simp at z2; omega
          exact ih _ P A1 B1 (A2 ++ B2 ++ Z) h' (by omega) (by omega) (by omega) sA1 sB1 (by simpa using s') (fun h2 M s2 p2 q2 => ⟨rfl, second h2 M (by simpa using s2) p2 q2⟩) _ _ _ ha (by omega) (by omega)
        have still : A2 = [] ∨ B1 = [] → f81_41 w0 K (some ad) n c ((a : Nat) : Int) ((b : Nat) : Int) ((mid : Nat) : Int) ((st : Nat) : Int) ((en : Nat) : Int) h := fun e => by
          refine first h ?_
          rcases e with rfl | rfl
          · simpa using s
          · simpa using s
        refine brB_of (fun z => f81_40_in _ _ _ _ _ _ _ _ _ _ _ (brB_of (fun z2 => ?_) fun z2 => still (.inr (List.eq_nil_of_length_eq_zero (by simp at z2; omega))))) fun z => f81_40_in _ _ _ _ _ _ _ _ _ _ _ (brB_of (fun e => by cases e) fun _ => still (.inl (List.eq_nil_of_length_eq_zero (by simp at z; omega))))
        have z' : st < m := by simp at z; omega
        have z2' : m < en := by simp at z2; omega
        exact f95_spec (P := P ++ A1) (X := A2) (Y := B1) (Z := B2 ++ Z) hn (by omega) (by omega) (by simpa using s) (fun h2 s2 => ⟨rfl, first h2 (by simpa using s2)⟩) (by simp; omega) (by simp; omega) (by simp; omega)
      refine brB_of (fun z => ?_) fun z => ?_
      · have hlt : (a + b) / 2 < m := by simp at z; omega
        rw [addS (by omega), subS (by omega) (by omega)]
        refine f81_32_in _ _ _ _ _ _ _ _ _ _ _ ?_
        rw [predS (by omega) (by omega)]
        exact whole _ _ (.inl ⟨hlt, rfl, rfl⟩)
      · have hge : m ≤ (a + b) / 2 := by simp at z; omega
        rw [addS (by omega)]
        refine f81_32_in _ _ _ _ _ _ _ _ _ _ _ ?_
        rw [predS (by omega) (by omega)]
        exact whole _ _ (.inr ⟨hge, rfl, rfl⟩)
end
end Go.G.Ytpnhlgghpciofaa
