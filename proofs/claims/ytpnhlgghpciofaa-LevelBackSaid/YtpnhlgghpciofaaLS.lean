/- Sorting what is sorted, of any length. -/
import Derived.Test.YtpnhlgghpciofaaLS0
import Derived.Test.YtpnhlgghpciofaaLR
import Derived.Test.YtpnhlgghpciofaaProg
set_option maxRecDepth 100000
namespace Go.G.Ytpnhlgghpciofaa
open Go.RowKit
theorem midS {i j : Nat} (h : i + j ≤ 1000000000000000) : IntKind.i64.wrap (Int.fdiv (IntKind.u64.wrap (IntKind.i64.wrap (((i : Nat) : Int) + ((j : Nat) : Int)))) (2 : Int)) = (((i + j) / 2 : Nat) : Int) := by
  rw [wrap64 (x := ((i : Nat) : Int) + ((j : Nat) : Int)) (by omega) (by omega)]
  have : IntKind.u64.wrap (((i : Nat) : Int) + ((j : Nat) : Int)) = ((i + j : Nat) : Int) := by
    rw [IntKind.wrap_u64]; omega
  rw [this, Int.fdiv_eq_ediv_of_nonneg _ (by omega)]
  rw [wrap64 (by omega) (by omega)]
  omega
theorem subS {i j : Nat} (h : i ≤ 1000000000000000) (hj : j ≤ i) : IntKind.i64.wrap (((i : Nat) : Int) - ((j : Nat) : Int)) = ((i - j : Nat) : Int) := by
  rw [wrap64 (by omega) (by omega)]; omega
theorem predS {i : Nat} (h : i ≤ 1000000000000000) (hj : 1 ≤ i) : IntKind.i64.wrap (((i : Nat) : Int) - (1 : Int)) = ((i - 1 : Nat) : Int) := by
  rw [wrap64 (by omega) (by omega)]; omega
theorem addS {i j : Nat} (h : i + j ≤ 1000000000000000) : IntKind.i64.wrap (((i : Nat) : Int) + ((j : Nat) : Int)) = ((i + j : Nat) : Int) := by
  rw [wrap64 (by omega) (by omega)]; omega

/-- Each table is ahead of all that stand behind it. -/
def Strict (us : List Tab) : Prop := ∀ (i j : Nat) (t u : Tab), i < j → us[i]? = some t → us[j]? = some u → ordR t u < 0

theorem cmpI_flip (x y : Int) : cmpI x y = - cmpI y x := by unfold cmpI; split <;> split <;> (try split) <;> omega
theorem ordR_flip (t u : Tab) : ordR t u = - ordR u t := by
  unfold ordR
  by_cases h : t.lev = u.lev
  · simp only [h, ne_eq, not_true, if_false]
    split
    · exact cmpI_flip _ _
    · exact cmpL_flip _ _
  · have h' : ¬ u.lev = t.lev := fun e => h e.symm
    simp only [ne_eq, h, h', not_false_eq_true, if_true]
    exact cmpI_flip _ _
theorem Strict.sorted {us : List Tab} (h : Strict us) : Sorted us := fun i t u ht hu => by
  have := h i (i + 1) t u (by omega) ht hu
  have := ordR_flip t u
  omega

section
variable {w0 : World} {K : Value → AH → Prop} {h : AH} {ad : Addr} {n c : Nat} {us : List Tab}
variable (s : TS w0 h (some ad) n c us) (hs : Strict us) (hn : n ≤ 100000000)
include s hs

/-- What order tells of two places of such a row. -/
theorem pairOrd {i j : Nat} (hij : i < j) (hj : j < n) : ∃ t u, us[i]? = some t ∧ us[j]? = some u ∧ t.Ok w0 h ∧ u.Ok w0 h ∧ At w0 h (ad.add (i * 5)) t.cells ∧ At w0 h (ad.add (j * 5)) u.cells ∧ ordR t u < 0 ∧ 0 < ordR u t := by
  have hl := s.len
  have ht : us[i]? = some us[i] := List.getElem?_eq_getElem (by omega)
  have hu : us[j]? = some us[j] := List.getElem?_eq_getElem (by omega)
  have ho := hs i j _ _ hij ht hu
  have := ordR_flip us[i] us[j]
  exact ⟨_, _, ht, hu, s.ok _ (List.mem_of_getElem? ht), s.ok _ (List.mem_of_getElem? hu), tabAt s ht, tabAt s hu, ho, by omega⟩

include hn
theorem f81_sorted_n : ∀ (k : Nat) (K : Value → AH → Prop) (a m b : Nat), b - a ≤ k → a < m → m < b → b ≤ n → K (.tuple #[]) h →
    EvC Go.Proofs.Try.prog w0 81 #[.slice (some ad) n c, .int .i64 ((a : Nat) : Int), .int .i64 ((m : Nat) : Int), .int .i64 ((b : Nat) : Int), .func (.func 53) #[] #[]] K h := by
  have hl := s.len
  have hsm := s.sm
  intro k
  induction k with
  | zero => intro K a m b h1 h2 h3; omega
  | succ k ih =>
    intro K a m b hk ham hmb hbn hK
    refine f81_go _ _ _ _ _ _ _ ?_
    rw [subS (by omega) (by omega), subS (by omega) (by omega), midS (by omega)]
    refine brB_of (fun q => ?_) fun q => brB_of (fun q2 => ?_) fun q2 => ⟨by omega, ?_⟩
    · -- the first one alone: it stays
      have hm1 : m - a = 1 := by simp at q; omega
      have hend : f81_9 w0 K (some ad) n c ((m : Nat) : Int) ((a : Nat) : Int) h := by
        refine f81_9_in _ _ _ _ _ _ (brB_of (fun z => ?_) fun _ => hK)
        rw [predS (by omega) (by omega)] at z
        simp at z; omega
      have loop : ∀ d j : Nat, j - m ≤ d → m ≤ j → j ≤ b → f81_3 w0 K (some ad) n c ((a : Nat) : Int) ((m : Nat) : Int) ((j : Nat) : Int) h := by
        intro d
        induction d with
        | zero =>
          intro j hd hmj hjb
          exact f81_3_in _ _ _ _ _ _ _ (brB_of (fun z => by simp at z; omega) fun _ => hend)
        | succ d ihd =>
          intro j hd hmj hjb
          refine f81_3_in _ _ _ _ _ _ _ (brB_of (fun z => ?_) fun _ => hend)
          have hlt : m < j := by simp at z; omega
          rw [midS (by omega)]
          obtain ⟨t, u, ht, hu, ot, ou, at1, at2, _, o2⟩ := pairOrd s hs (i := a) (j := (m + j) / 2) (by omega) (by omega)
          have next : f81_3 w0 K (some ad) n c ((a : Nat) : Int) ((m : Nat) : Int) (((m + j) / 2 : Nat) : Int) h := ihd _ (by omega) (by omega) (by omega)
          refine ⟨by omega, ad, rfl, by omega, by omega, ad, rfl, by omega, by omega, aggAt (t := u) (by rw [Int.toNat_natCast]; exact at2) (aggAt (t := t) (by rw [Int.toNat_natCast]; exact at1) (f53_spec (t := u) (u := t) ou ot ⟨_, rfl, brB_of (fun z => by simp at z; omega) fun _ => next⟩)),
            aggAt (t := t) (by rw [Int.toNat_natCast]; exact at1) (aggAt (t := u) (by rw [Int.toNat_natCast]; exact at2) (f53_spec (t := u) (u := t) ou ot ⟨_, rfl, brB_of (fun z => by simp at z; omega) fun _ => next⟩))⟩
      exact loop _ b (Nat.le_refl _) (by omega) (Nat.le_refl _)
    · -- the last one alone: it stays
      have hm1 : b - m = 1 := by simp at q2; omega
      have hend : f81_21 w0 K (some ad) n c ((m : Nat) : Int) ((m : Nat) : Int) h := f81_21_in _ _ _ _ _ _ (brB_of (fun z => by simp at z) fun _ => hK)
      have loop : ∀ d i : Nat, m - i ≤ d → i ≤ m → f81_15 w0 K (some ad) n c ((m : Nat) : Int) ((i : Nat) : Int) ((m : Nat) : Int) h := by
        intro d
        induction d with
        | zero =>
          intro i hd him
          have : i = m := by omega
          subst this
          exact f81_15_in _ _ _ _ _ _ _ (brB_of (fun z => by simp at z) fun _ => hend)
        | succ d ihd =>
          intro i hd him
          refine f81_15_in _ _ _ _ _ _ _ (brB_of (fun z => ?_) fun z => ?_)
          · have hlt : i < m := by simp at z; omega
            rw [midS (by omega), wrapS (by omega)]
            obtain ⟨t, u, ht, hu, ot, ou, at1, at2, _, o2⟩ := pairOrd s hs (i := (i + m) / 2) (j := m) (by omega) (by omega)
            have next : f81_15 w0 K (some ad) n c ((m : Nat) : Int) (((i + m) / 2 + 1 : Nat) : Int) ((m : Nat) : Int) h := ihd _ (by omega) (by omega)
            refine ⟨by omega, ad, rfl, by omega, by omega, ad, rfl, by omega, by omega, aggAt (t := u) (by rw [Int.toNat_natCast]; exact at2) (aggAt (t := t) (by rw [Int.toNat_natCast]; exact at1) (f53_spec (t := u) (u := t) ou ot ⟨_, rfl, brB_of (fun _ => next) fun z => by simp at z; omega⟩)),
              aggAt (t := t) (by rw [Int.toNat_natCast]; exact at1) (aggAt (t := u) (by rw [Int.toNat_natCast]; exact at2) (f53_spec (t := u) (u := t) ou ot ⟨_, rfl, brB_of (fun _ => next) fun z => by simp at z; omega⟩))⟩
          · have : i = m := by simp at z; omega
            subst this
            exact hend
      exact loop _ a (Nat.le_refl _) (by omega)
    · have hm2 : 2 ≤ m - a := by simp at q; omega
      have hb2 : 2 ≤ b - m := by simp at q2; omega
      -- the search for the place: nothing is to be turned
      have loop : ∀ (r p : Nat), r ≤ m → (∀ cc, cc < r → cc ≤ p) → ∀ (d i nn : Nat), r - i ≤ d → i ≤ r → p < nn → (∀ cc, i ≤ cc → cc < r → m ≤ p - cc ∧ p - cc < b) → p + 1 = nn → r ≤ nn → nn ≤ 1000000000 →
          (f81_41 w0 K (some ad) n c ((a : Nat) : Int) ((b : Nat) : Int) (((a + b) / 2 : Nat) : Int) ((r : Nat) : Int) ((nn - r : Nat) : Int) h) → (r < m → nn - r ≤ m) →
          f81_33 w0 K (some ad) n c ((a : Nat) : Int) ((m : Nat) : Int) ((b : Nat) : Int) (((a + b) / 2 : Nat) : Int) ((nn : Nat) : Int) ((i : Nat) : Int) ((r : Nat) : Int) ((p : Nat) : Int) h := by
        intro r p hrm hrp d
        induction d with
        | zero =>
          intro i nn hd hir hpn hc hpn1 hrn hnn hfin hrot
          have : i = r := by omega
          subst this
          refine f81_33_in _ _ _ _ _ _ _ _ _ _ _ _ (brB_of (fun z => by simp at z) fun _ => ?_)
          rw [subS (by omega) (by omega)]
          refine brB_of (fun z => ?_) fun _ => f81_40_in _ _ _ _ _ _ _ _ _ _ _ (brB_of (fun e => by cases e) fun _ => hfin)
          refine f81_40_in _ _ _ _ _ _ _ _ _ _ _ (brB_of (fun e => ?_) fun _ => hfin)
          have := hrot (by simp at z; omega)
          simp at e; omega
        | succ d ihd =>
          intro i nn hd hir hpn hc hpn1 hrn hnn hfin hrot
          refine f81_33_in _ _ _ _ _ _ _ _ _ _ _ _ (brB_of (fun z => ?_) fun z => ?_)
          · have hlt : i < r := by simp at z; omega
            obtain ⟨g1, g2⟩ := hc ((i + r) / 2) (by omega) (by omega)
            have g3 := hrp ((i + r) / 2) (by omega)
            rw [midS (by omega), wrapS (by omega), subS (by omega) g3]
            obtain ⟨t, u, ht, hu, ot, ou, at1, at2, _, o2⟩ := pairOrd s hs (i := (i + r) / 2) (j := p - (i + r) / 2) (by omega) (by omega)
            have next : f81_33 w0 K (some ad) n c ((a : Nat) : Int) ((m : Nat) : Int) ((b : Nat) : Int) (((a + b) / 2 : Nat) : Int) ((nn : Nat) : Int) (((i + r) / 2 + 1 : Nat) : Int) ((r : Nat) : Int) ((p : Nat) : Int) h :=
              ihd _ nn (by omega) (by omega) hpn (fun cc h1 h2 => hc cc (by omega) h2) hpn1 hrn hnn hfin hrot
            refine ⟨by omega, ad, rfl, by omega, by omega, ad, rfl, by omega, by omega, aggAt (t := u) (by rw [Int.toNat_natCast]; exact at2) (aggAt (t := t) (by rw [Int.toNat_natCast]; exact at1) (f53_spec (t := u) (u := t) ou ot ⟨_, rfl, brB_of (fun _ => next) fun z => by simp at z; omega⟩)),
              aggAt (t := t) (by rw [Int.toNat_natCast]; exact at1) (aggAt (t := u) (by rw [Int.toNat_natCast]; exact at2) (f53_spec (t := u) (u := t) ou ot ⟨_, rfl, brB_of (fun _ => next) fun z => by simp at z; omega⟩))⟩
          · have : i = r := by simp at z; omega
            subst this
            rw [subS (by omega) (by omega)]
            refine brB_of (fun z => ?_) fun _ => f81_40_in _ _ _ _ _ _ _ _ _ _ _ (brB_of (fun e => by cases e) fun _ => hfin)
            refine f81_40_in _ _ _ _ _ _ _ _ _ _ _ (brB_of (fun e => ?_) fun _ => hfin)
            have := hrot (by simp at z; omega)
            simp at e; omega
      have hbig : n ≤ 100000000 := hn
      refine brB_of (fun z => ?_) fun z => ?_
      · -- the middle is ahead of m
        have hlt : (a + b) / 2 < m := by simp at z; omega
        rw [addS (by omega), subS (by omega) (by omega)]
        refine f81_32_in _ _ _ _ _ _ _ _ _ _ _ ?_
        rw [predS (by omega) (by omega)]
        refine loop ((a + b) / 2) ((a + b) / 2 + m - 1) (by omega) (fun cc hc => by omega) _ _ _ (Nat.le_refl _) (by omega) (by omega) (fun cc h1 h2 => by omega) (by omega) (by omega) (by omega) ?_ (fun _ => by omega)
        rw [show (a + b) / 2 + m - (a + b) / 2 = m by omega]
        have last : f81_43 w0 K (some ad) n c ((b : Nat) : Int) (((a + b) / 2 : Nat) : Int) ((m : Nat) : Int) h := by
          refine f81_43_in _ _ _ _ _ _ _ (brB_of (fun _ => f81_44_in _ _ _ _ _ _ _ _ (brB_of (fun _ => ?_) fun _ => hK)) fun _ => f81_44_in _ _ _ _ _ _ _ _ (brB_of (fun e => by cases e) fun _ => hK))
          exact ih _ _ _ _ (by omega) (by omega) (by omega) hbn ⟨rfl, hK⟩
        refine f81_41_in _ _ _ _ _ _ _ _ _ (brB_of (fun _ => f81_42_in _ _ _ _ _ _ _ _ _ _ (brB_of (fun e => by simp at e) fun _ => last)) fun _ => f81_42_in _ _ _ _ _ _ _ _ _ _ (brB_of (fun e => by cases e) fun _ => last))
      · have hge : m ≤ (a + b) / 2 := by simp at z; omega
        rw [addS (by omega)]
        refine f81_32_in _ _ _ _ _ _ _ _ _ _ _ ?_
        rw [predS (by omega) (by omega)]
        refine loop m ((a + b) / 2 + m - 1) (by omega) (fun cc hc => by omega) _ _ _ (Nat.le_refl _) (by omega) (by omega) (fun cc h1 h2 => by omega) (by omega) (by omega) (by omega) ?_ (fun e => by omega)
        rw [show (a + b) / 2 + m - m = (a + b) / 2 by omega]
        have last : f81_43 w0 K (some ad) n c ((b : Nat) : Int) (((a + b) / 2 : Nat) : Int) (((a + b) / 2 : Nat) : Int) h :=
          f81_43_in _ _ _ _ _ _ _ (brB_of (fun e => by simp at e) fun _ => f81_44_in _ _ _ _ _ _ _ _ (brB_of (fun e => by cases e) fun _ => hK))
        refine f81_41_in _ _ _ _ _ _ _ _ _ (brB_of (fun _ => f81_42_in _ _ _ _ _ _ _ _ _ _ (brB_of (fun e => ?_) fun _ => last)) fun e => by simp at e; omega)
        have hmm : m < (a + b) / 2 := by simp at e; omega
        exact ih _ a m ((a + b) / 2) (by omega) (by omega) hmm (by omega) ⟨rfl, last⟩
end
end Go.G.Ytpnhlgghpciofaa
