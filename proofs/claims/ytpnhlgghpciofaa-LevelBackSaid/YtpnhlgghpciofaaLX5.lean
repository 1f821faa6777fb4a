/- SortStableFunc sorts. -/
import Derived.Test.YtpnhlgghpciofaaLX4
import Derived.Test.YtpnhlgghpciofaaProg
set_option maxRecDepth 100000
namespace Go.G.Ytpnhlgghpciofaa
open Go.RowKit
/-- Sorted block by block. -/
def BS (bs : Nat) (l : List Tab) : Prop := ∀ k, ((l.drop (k * bs)).take bs).Pairwise LeT
theorem BS.append {bs q : Nat} {D M : List Tab} (hD : BS bs D) (hq : D.length = q * bs) (hM : M.Pairwise LeT) (hl : M.length ≤ bs) : BS bs (D ++ M) := fun k => by
  rcases Nat.lt_trichotomy k q with h | h | h
  · have h1 : (k + 1) * bs ≤ q * bs := Nat.mul_le_mul_right _ h
    rw [Nat.add_mul] at h1
    rw [List.drop_append_of_le_length (by omega), List.take_append_of_le_length (by rw [List.length_drop]; omega)]
    exact hD k
  · subst h
    rw [← hq, List.drop_left]
    exact hM.sublist (List.take_sublist _ _)
  · have h1 : (q + 1) * bs ≤ k * bs := Nat.mul_le_mul_right _ h
    rw [Nat.add_mul] at h1
    rw [List.drop_eq_nil_of_le (by rw [List.length_append]; omega)]
    simp
theorem BS.drop {bs j : Nat} {l : List Tab} (h : BS bs l) : BS bs (l.drop (j * bs)) := fun k => by
  rw [List.drop_drop, ← Nat.add_mul]
  exact h (j + k)
theorem BS.nil {bs : Nat} : BS bs [] := fun k => by simp
theorem BS.first {bs : Nat} {l : List Tab} (h : BS bs l) : (l.take bs).Pairwise LeT := by simpa using h 0
theorem BS.second {bs : Nat} {l : List Tab} (h : BS bs l) : ((l.drop bs).take bs).Pairwise LeT := by simpa using h 1

theorem sorted_of {us : List Tab} (h : us.Pairwise LeT) : Sorted us := fun i t u ht hu => by
  obtain ⟨l1, e1⟩ := List.getElem?_eq_some_iff.1 ht
  obtain ⟨l2, e2⟩ := List.getElem?_eq_some_iff.1 hu
  have := List.pairwise_iff_getElem.1 h i (i + 1) l1 l2 (by omega)
  rw [e1, e2] at this
  have h2 : ordR t u ≤ 0 := this
  have := ordR_flip t u
  omega

section
variable {w0 : World} {K : Value → AH → Prop} {h0 : AH} {ad : Addr} {n c : Nat} {us0 : List Tab}
variable (hok : ∀ t ∈ us0, t.OkX w0 h0 (some ad)) (hn : n ≤ 1000000) (hk : ∀ h' us', SS w0 h0 ad n c us0 h' us' → us'.Pairwise LeT → K (.tuple #[]) h')
include hok hn hk

theorem f72_7_ok : ∀ (d bs : Nat) (h : AH) (us : List Tab), n - bs ≤ d → 1 ≤ bs → bs ≤ 4000000 → SS w0 h0 ad n c us0 h us → BS bs us → f72_7 w0 K (some ad) n c ((n : Nat) : Int) ((bs : Nat) : Int) h := by
  intro d
  induction d with
  | zero =>
    intro bs h us hd h1 h2 s hb
    have hl := s.len
    refine f72_7_in _ _ _ _ _ _ (brB_of (fun q => by simp at q; omega) fun _ => hk h us s ?_)
    have := hb.first
    rw [List.take_of_length_le (by omega)] at this
    exact this
  | succ d ihd =>
    intro bs h us hd h1 h2 s hb
    have hl := s.len
    refine f72_7_in _ _ _ _ _ _ (brB_of (fun q => ?_) fun q => hk h us s ?_)
    · have hbs : bs < n := by simp at q; omega
      have e2 : IntKind.i64.wrap ((2 : Int) * ((bs : Nat) : Int)) = ((2 * bs : Nat) : Int) := by rw [wrap64 (by omega) (by omega)]; omega
      have e3 : IntKind.i64.wrap (((bs : Nat) : Int) * (2 : Int)) = ((2 * bs : Nat) : Int) := by rw [wrap64 (by omega) (by omega)]; omega
      rw [e2]
      have inner : ∀ (k x qq : Nat) (D R : List Tab) (h : AH), n - x ≤ k → x ≤ n → x = qq * (2 * bs) → D.length = x → SS w0 h0 ad n c us0 h (D ++ R) → BS (2 * bs) D → BS bs R →
          f72_9 w0 K (some ad) n c ((n : Nat) : Int) ((bs : Nat) : Int) ((x : Nat) : Int) ((x + 2 * bs : Nat) : Int) h := by
        intro k
        induction k with
        | zero =>
          intro x qq D R h hk' hxn hxq hDl s hD hR
          have hl := s.len
          rw [List.length_append] at hl
          have hR0 : R = [] := List.eq_nil_of_length_eq_zero (by omega)
          subst hR0
          refine f72_9_in _ _ _ _ _ _ _ _ (brB_of (fun z => by simp at z; omega) fun _ => ?_)
          rw [addS (by omega), e3]
          refine brB_of (fun z => by simp at z; omega) fun _ => ?_
          exact ihd (2 * bs) h D (by omega) (by omega) (by omega) (by simpa using s) hD
        | succ k ihk =>
          intro x qq D R h hk' hxn hxq hDl s hD hR
          have hl := s.len
          rw [List.length_append] at hl
          refine f72_9_in _ _ _ _ _ _ _ _ (brB_of (fun z => ?_) fun z => ?_)
          · have hxb : x + 2 * bs ≤ n := by simp at z; omega
            have eR : R = R.take bs ++ ((R.drop bs).take bs ++ R.drop (2 * bs)) := by
              have : R.drop (2 * bs) = (R.drop bs).drop bs := by rw [List.drop_drop]; congr 1; omega
              rw [this, List.take_append_drop, List.take_append_drop]
            have hZ : BS bs (R.drop (2 * bs)) := hR.drop
            have sA := hR.first
            have sB := hR.second
            have lA : (R.take bs).length = bs := by simp; omega
            have lB : ((R.drop bs).take bs).length = bs := by simp; omega
            rw [addS (by omega), e2, addS (by omega)]
            generalize R.take bs = A at *
            generalize (R.drop bs).take bs = B at *
            generalize R.drop (2 * bs) = Z at *
            subst eR
            refine f81_spec hok hn _ _ D A B Z h (Nat.le_refl _) (by omega) (by omega) sA sB (by simpa using s) (fun h' M s' p' q' => ⟨rfl, ?_⟩) _ _ _ hDl.symm (by omega) (by omega)
            have lM : M.length = 2 * bs := by rw [p'.length_eq, List.length_append]; omega
            exact ihk (x + 2 * bs) (qq + 1) (D ++ M) Z h' (by omega) hxb (by rw [hxq, Nat.add_mul]; omega) (by simp; omega) (by simpa using s') (hD.append (q := qq) (by omega) q' (by omega)) hZ
          · have hxb : n < x + 2 * bs := by simp at z; omega
            rw [addS (by omega), e3]
            refine brB_of (fun z2 => ?_) fun z2 => ?_
            · have hlt : x + bs < n := by simp at z2; omega
              have eR : R = R.take bs ++ R.drop bs := (List.take_append_drop _ _).symm
              have sA := hR.first
              have sB := hR.second
              rw [List.take_of_length_le (by simp; omega)] at sB
              have lA : (R.take bs).length = bs := by simp; omega
              have lB : (R.drop bs).length = n - x - bs := by simp; omega
              generalize R.take bs = A at *
              generalize R.drop bs = B at *
              subst eR
              refine f81_spec hok hn _ _ D A B [] h (Nat.le_refl _) (by omega) (by omega) sA sB (by simpa using s) (fun h' M s' p' q' => ⟨rfl, ?_⟩) _ _ _ hDl.symm (by omega) (by omega)
              have lM : M.length = n - x := by rw [p'.length_eq, List.length_append]; omega
              exact ihd (2 * bs) h' (D ++ M) (by omega) (by omega) (by omega) (by simpa using s') (hD.append (q := qq) (by omega) q' (by omega))
            · have hge : n ≤ x + bs := by simp at z2; omega
              have sR := hR.first
              rw [List.take_of_length_le (by omega)] at sR
              exact ihd (2 * bs) h (D ++ R) (by omega) (by omega) (by omega) s (hD.append (q := qq) (by omega) sR (by omega))
      have := inner n 0 0 [] us h (by omega) (by omega) (by omega) rfl (by simpa using s) BS.nil hb
      simpa using this
    · have hge : n ≤ bs := by simp at q; omega
      have := hb.first
      rw [List.take_of_length_le (by omega)] at this
      exact this

theorem f72_2_ok : ∀ (k x qq : Nat) (D R : List Tab) (h : AH), n - x ≤ k → x ≤ n → x = qq * 20 → D.length = x → SS w0 h0 ad n c us0 h (D ++ R) → BS 20 D →
    f72_2 w0 K (some ad) n c ((n : Nat) : Int) (20 : Int) ((x : Nat) : Int) ((x + 20 : Nat) : Int) h := by
  have last : ∀ (x qq : Nat) (D R : List Tab) (h : AH), n - x ≤ 20 → x ≤ n → x = qq * 20 → D.length = x → SS w0 h0 ad n c us0 h (D ++ R) → BS 20 D →
      EvC Go.Proofs.Try.prog w0 80 #[.slice (some ad) n c, .int .i64 ((x : Nat) : Int), .int .i64 ((n : Nat) : Int), .func (.func 53) #[] #[]] (fun v h' => v = .tuple #[] ∧ f72_7 w0 K (some ad) n c ((n : Nat) : Int) (20 : Int) h') h := fun x qq D R h h1 h2 h3 h4 s hD => by
    have hl := s.len
    rw [List.length_append] at hl
    refine f80_spec hok hn (P := D) (M := R) (Z := []) (by simpa using s) (fun h' M' s' p' q' => ⟨rfl, ?_⟩) h4.symm (by omega)
    have lM := p'.length_eq
    exact f72_7_ok hok hn hk n 20 h' (D ++ M') (by omega) (by omega) (by omega) (by simpa using s') (hD.append (q := qq) (by omega) q' (by omega))
  intro k
  induction k with
  | zero =>
    intro x qq D R h hk' hxn hxq hDl s hD
    exact f72_2_in _ _ _ _ _ _ _ _ (brB_of (fun z => by simp at z; omega) fun _ => last x qq D R h (by omega) hxn hxq hDl s hD)
  | succ k ihk =>
    intro x qq D R h hk' hxn hxq hDl s hD
    have hl := s.len
    rw [List.length_append] at hl
    refine f72_2_in _ _ _ _ _ _ _ _ (brB_of (fun z => ?_) fun z => last x qq D R h (by simp at z; omega) hxn hxq hDl s hD)
    have hxb : x + 20 ≤ n := by simp at z; omega
    have eR : R = R.take 20 ++ R.drop 20 := (List.take_append_drop _ _).symm
    have lA : (R.take 20).length = 20 := by simp; omega
    generalize R.take 20 = M at *
    generalize R.drop 20 = Z at *
    subst eR
    refine f80_spec hok hn (P := D) (M := M) (Z := Z) (by simpa using s) (fun h' M' s' p' q' => ⟨rfl, ?_⟩) hDl.symm (by omega)
    have lM := p'.length_eq
    have : IntKind.i64.wrap (((x + 20 : Nat) : Int) + (20 : Int)) = ((x + 20 + 20 : Nat) : Int) := by rw [wrap64 (by omega) (by omega)]; omega
    rw [this]
    exact ihk (x + 20) (qq + 1) (D ++ M') Z h' (by omega) hxb (by omega) (by simp; omega) (by simpa using s') (hD.append (q := qq) (by omega) q' (by omega))
end

/-- slices.SortStableFunc sorts. -/
theorem f59_sorts {w0 : World} {L : List Dat} : SortsTo w0 L := fun K h a n c us so hok hl hdat hk => by
  have hl5 := so.len5
  cases a with
  | none =>
    have hus : us = [] := List.eq_nil_of_length_eq_zero (by have := so.2.2; omega)
    subst hus
    refine f59_sorted (us := []) (so.ts (by omega) fun t ht => by cases ht) (fun i j t u _ ht => by simp at ht) (by omega) ?_
    exact hk [] h (List.Perm.refl _) (fun i t u ht => by simp at ht) so (Ext.refl _ _) fun t ht => by cases ht
  | some ad =>
    refine f59_go _ _ _ _ (f72_go _ _ _ _ _ ?_)
    have := f72_2_ok (K := fun (v : Value) (h' : AH) => v = .tuple #[] ∧ K (.tuple #[]) h') (h0 := h) (us0 := us) hok (n := n) (c := c) (by omega) (fun h' us' s' p' => ⟨rfl, hk us' h' s'.hp (sorted_of p') s'.so s'.hx fun t ht => s'.ok hok ht⟩)
      n 0 0 [] us h (by omega) (by omega) (by omega) rfl ⟨by simpa using so, Ext.refl _ _, by simp⟩ BS.nil
    simpa using this
end Go.G.Ytpnhlgghpciofaa
