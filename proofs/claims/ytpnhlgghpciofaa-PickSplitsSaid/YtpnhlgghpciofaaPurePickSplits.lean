/- The law PickSplits: what pick.Splits tells of any weights is what the reference tells (every list of int64 that the form lets in). -/
import Derived.Test.YtpnhlgghpciofaaPPickSplitsx1
namespace Go.Proofs.Ytpnhlgghpciofaa.Pure
open Go.RowKit Go.Proofs.Ytpnhlgghpciofaa.PPickSplits Go.Proofs.YtpnhlgghpciofaaW.PrintWords Go.Proofs.YtpnhlgghpciofaaW.PrintLast

theorem w64 {x : Int} (h0 : -9223372036854775808 ≤ x) (h1 : x ≤ 9223372036854775807) : wrap64 x = x := by
  unfold wrap64; omega

theorem rd_mem {l : List Int} {i : Int} (h0 : 0 ≤ i) (h1 : i < (l.length : Int)) : rd l i ∈ l := by
  unfold rd
  have h : i.toNat < l.length := by omega
  rw [List.getD_eq_getElem?_getD, List.getElem?_eq_getElem h]
  exact List.getElem_mem h

theorem rd_range {l : List Int} (hw : ∀ x ∈ l, (Lit.int .i64 x).wf = true) {i : Int} (h0 : 0 ≤ i) (h1 : i < (l.length : Int)) :
    -9223372036854775808 ≤ rd l i ∧ rd l i ≤ 9223372036854775807 := by
  have := hw _ (rd_mem h0 h1)
  simp [Lit.wf, IntKind.min, IntKind.max, IntKind.signed, IntKind.bits] at this
  omega

theorem both (l : List Int) (hn : l.length ≤ 17592186044415) (hw : ∀ x ∈ l, (Lit.int .i64 x).wf = true) (d : Nat) :
    ∀ (k : Nat) (acc : List Int) (n sum i : Int), 0 ≤ i → (l.length : Int) - i = d → d < k → 0 ≤ n → n ≤ i → 0 ≤ sum → sum < 1024 → (acc.length : Int) ≤ i → (i = (l.length : Int) → n = 0) →
    ∃ r, pick_Splits.l0 k acc n (1024 - sum) l (l.length : Int) i = some r ∧ halyardref15_Splits.l0 k l acc n sum l (l.length : Int) i = some r ∧ r.length ≤ l.length := by
  induction d with
  | zero =>
    intro k acc n sum i h0 hd hk hn0 hn1 hs0 hs1 ha hz
    obtain ⟨k, rfl⟩ : ∃ m, k = m + 1 := ⟨k - 1, by omega⟩
    have := hz (by omega)
    refine ⟨acc, ?_, ?_, by omega⟩
    · simp only [pick_Splits.l0]; rw [if_neg (by omega), if_neg (by omega)]
    · simp only [halyardref15_Splits.l0]; rw [if_neg (by omega)]
  | succ d ih =>
    intro k acc n sum i h0 hd hk hn0 hn1 hs0 hs1 ha hz
    obtain ⟨k, rfl⟩ : ∃ m, k = m + 1 := ⟨k - 1, by omega⟩
    have hlt : i < (l.length : Int) := by omega
    obtain ⟨r0, r1⟩ := rd_range hw h0 hlt
    have e1 : wrap64 (n + 1) = n + 1 := w64 (by omega) (by omega)
    have e2 : wrap64 (i + 1) = i + 1 := w64 (by omega) (by omega)
    simp only [pick_Splits.l0, halyardref15_Splits.l0]
    rw [if_pos hlt, if_pos h0, if_pos hlt, if_pos hlt, if_pos h0, if_pos hlt, e1, e2]
    by_cases c1 : rd l i < 1
    · rw [if_pos c1, if_pos c1]
      exact ⟨[], rfl, rfl, by simp⟩
    rw [if_neg c1, if_neg c1]
    have m1 : mn sum 1024 = sum := by unfold mn; rw [if_neg (by omega)]
    by_cases c2 : rd l i ≥ 1024 - sum
    · have m2 : wrap64 (mn sum 1024 + mn (rd l i) 1024) ≥ 1024 := by
        rw [m1]; unfold mn; split
        · rw [w64 (by omega) (by omega)]; omega
        · rw [w64 (by omega) (by omega)]; omega
      rw [if_pos c2, if_pos m2, if_pos (by omega), if_pos (by omega)]
      exact ih k (acc ++ [n + 1]) 0 0 (i + 1) (by omega) (by omega) (by omega) (by omega) (by omega) (by omega) (by omega) (by simp; omega) (fun _ => rfl)
    · have m2 : wrap64 (mn sum 1024 + mn (rd l i) 1024) = sum + rd l i := by
        rw [m1]; unfold mn; rw [if_neg (by omega), w64 (by omega) (by omega)]
      have e3 : wrap64 (1024 - sum - rd l i) = 1024 - (sum + rd l i) := by rw [w64 (by omega) (by omega)]; omega
      rw [if_neg c2, m2, e3, if_neg (by omega)]
      by_cases c3 : i + 1 = (l.length : Int)
      · rw [if_pos c3, if_pos (by omega)]
        obtain ⟨k, rfl⟩ : ∃ m, k = m + 1 := ⟨k - 1, by omega⟩
        refine ⟨acc ++ [n + 1], ?_, ?_, by simp; omega⟩
        · simp only [pick_Splits.l0]; rw [if_neg (by omega), if_pos (by omega), if_pos (by omega)]
        · simp only [halyardref15_Splits.l0]; rw [if_neg (by omega)]
      · rw [if_neg c3]
        exact ih k acc (n + 1) (sum + rd l i) (i + 1) (by omega) (by omega) (by omega) (by omega) (by omega) (by omega) (by omega) (by omega) (fun h => by omega)

theorem awake_eq (k : Nat) : halyardlaw17_awake.f (k + 5) = some true := by
  have h : pick_Splits.f (k + 5) [600, 500, 2000, 1] = some [2, 1, 1] := by
    unfold pick_Splits.f
    simp [pick_Splits.l0, rd, wrap64]
  unfold halyardlaw17_awake.f
  rw [h]
  simp [rd]

theorem same_all (r : List Int) (hr : r.length ≤ 17592186044415) (d : Nat) : ∀ (k : Nat) (i : Int), 0 ≤ i → (r.length : Int) - i = d → d + 5 < k →
    halyardlaw17_PickSplits.l0 k r r (r.length : Int) i = some true := by
  induction d with
  | zero =>
    intro k i h0 hd hk
    obtain ⟨k, rfl⟩ : ∃ m, k = m + 5 + 1 := ⟨k - 6, by omega⟩
    simp only [halyardlaw17_PickSplits.l0]; rw [if_neg (by omega), awake_eq]; rfl
  | succ d ih =>
    intro k i h0 hd hk
    obtain ⟨k, rfl⟩ : ∃ m, k = m + 1 := ⟨k - 1, by omega⟩
    have hlt : i < (r.length : Int) := by omega
    simp only [halyardlaw17_PickSplits.l0]; rw [if_pos hlt, if_pos h0, if_pos hlt, if_pos hlt]
    rw [w64 (by omega) (by omega)]
    simp only [if_true]
    exact ih k (i + 1) (by omega) (by omega) (by omega)

theorem PickSplits : halyardlaw17_PickSplits.Pure := by
  intro l hm hb hw
  refine ⟨l.length + 10, ?_⟩
  obtain ⟨r, h1, h2, h3⟩ := both l (by omega) hw l.length (l.length + 10) [] 0 0 0 (by omega) (by omega) (by omega) (by omega) (by omega) (by omega) (by omega) (by simp) (fun _ => rfl)
  unfold halyardlaw17_PickSplits.f pick_Splits.f halyardref15_Splits.f
  rw [show (1024 : Int) - 0 = 1024 from rfl] at h1
  rw [h1, h2]
  simp only [Option.bind_some, if_true]
  exact same_all r (by omega) r.length _ 0 (by omega) (by omega) (by omega)

end Go.Proofs.Ytpnhlgghpciofaa.Pure
