/- insertion sort. -/
import Derived.Test.YtpnhlgghpciofaaLX1
import Derived.Test.YtpnhlgghpciofaaLW
import Derived.Test.YtpnhlgghpciofaaProg
set_option maxRecDepth 100000
namespace Go.G.Ytpnhlgghpciofaa
open Go.RowKit
def LeT (t u : Tab) : Prop := ordR t u ≤ 0
theorem LeT.trans {a b c : Tab} (h1 : LeT a b) (h2 : LeT b c) : LeT a c := ordD_le_trans (a := a.dat) (b := b.dat) (c := c.dat) h1 h2
theorem LeT.of_not {a b : Tab} (h : ¬ ordR a b < 0) : LeT b a := by
  have := ordR_flip a b
  show ordR b a ≤ 0
  omega
theorem swapAdj {l1 l2 : List Tab} {x y : Tab} : ((l1 ++ y :: x :: l2).set (l1.length + 1) y).set l1.length x = l1 ++ x :: y :: l2 := by
  have e1 : l1 ++ y :: x :: l2 = (l1 ++ [y]) ++ x :: l2 := by simp
  have e2 : l1.length + 1 = (l1 ++ [y]).length := by simp
  rw [e1, e2, setMid]
  have e3 : (l1 ++ [y]) ++ y :: l2 = l1 ++ y :: y :: l2 := by simp
  rw [e3, setMid]
theorem swapAdj' {l1 l2 : List Tab} {x y : Tab} : ((l1 ++ y :: x :: l2).set l1.length x).set (l1.length + 1) y = l1 ++ x :: y :: l2 := by
  rw [setMid]
  have e1 : l1 ++ x :: x :: l2 = (l1 ++ [x]) ++ x :: l2 := by simp
  have e2 : l1.length + 1 = (l1 ++ [x]).length := by simp
  rw [e1, e2, setMid]
  simp
theorem getMid1 {l1 l2 : List Tab} {x y : Tab} : (l1 ++ y :: x :: l2)[l1.length + 1]? = some x := by
  have e1 : l1 ++ y :: x :: l2 = (l1 ++ [y]) ++ x :: l2 := by simp
  have e2 : l1.length + 1 = (l1 ++ [y]).length := by simp
  rw [e1, e2, getMid]

section
variable {w0 : World} {K : Value → AH → Prop} {h0 : AH} {ad : Addr} {n c : Nat} {us0 : List Tab}
variable (hok : ∀ t ∈ us0, t.OkX w0 h0 (some ad)) (hn : n ≤ 1000000)
include hok hn

theorem f80_4_ok {P R Z S0 : List Tab} {x : Tab} {hi i : Nat} (hi1 : i ≤ 1000000) (hnext : ∀ h' L G, L ++ G = S0 → SS w0 h0 ad n c us0 h' (P ++ (L ++ x :: G ++ R) ++ Z) → (L ++ x :: G).Pairwise LeT → f80_1 w0 K (some ad) n c ((P.length : Nat) : Int) ((hi : Nat) : Int) ((i + 1 : Nat) : Int) h') :
    ∀ (k : Nat) (L G : List Tab) (h : AH), L.length = k → L ++ G = S0 → S0.Pairwise LeT → (∀ g ∈ G, ordR x g < 0) → SS w0 h0 ad n c us0 h (P ++ (L ++ x :: G ++ R) ++ Z) →
      f80_4 w0 K (some ad) n c ((P.length : Nat) : Int) ((hi : Nat) : Int) ((i : Nat) : Int) ((P.length + L.length : Nat) : Int) h := by
  intro k
  induction k with
  | zero =>
    intro L G h hk hS hp hG s
    have hL : L = [] := List.eq_nil_of_length_eq_zero hk
    subst hL
    refine f80_4_in _ _ _ _ _ _ _ _ (brB_of (fun q => by simp at q) fun _ => ?_)
    rw [wrapS (by omega)]
    refine dup (hnext h [] G hS s ?_)
    rw [List.nil_append] at hS ⊢
    rw [List.pairwise_cons]
    exact ⟨fun g hg => by have := hG g hg; show ordR x g ≤ 0; omega, by rw [hS]; exact hp⟩
  | succ k ih =>
    intro L G h hk hS hp hG s
    obtain ⟨L', y, rfl⟩ : ∃ L' y, L = L' ++ [y] := by
      rcases List.eq_nil_or_concat L with e | ⟨L', b, e⟩
      · rw [e] at hk; simp at hk
      · exact ⟨L', b, by simpa using e⟩
    have hl := s.len
    simp only [List.length_append, List.length_cons, List.length_nil] at hl hk
    have eU : P ++ (L' ++ [y] ++ x :: G ++ R) ++ Z = (P ++ L') ++ y :: x :: (G ++ R ++ Z) := by simp
    have eJ : P.length + (L' ++ [y]).length = (P ++ L').length + 1 := by simp; omega
    have gy : (P ++ (L' ++ [y] ++ x :: G ++ R) ++ Z)[(P ++ L').length]? = some y := by rw [eU]; exact getMid
    have gx : (P ++ (L' ++ [y] ++ x :: G ++ R) ++ Z)[(P ++ L').length + 1]? = some x := by rw [eU]; exact getMid1
    have ax := s.at gx
    have ay := s.at gy
    have ox := s.ok hok (List.mem_of_getElem? gx)
    have oy := s.ok hok (List.mem_of_getElem? gy)
    have hPL : (P ++ L').length = P.length + L'.length := by simp
    have hlen : (P ++ (L' ++ [y] ++ x :: G ++ R) ++ Z).length = n := s.len.symm
    rw [eJ]
    have pj : IntKind.i64.wrap ((((P ++ L').length + 1 : Nat) : Int) - (1 : Int)) = (((P ++ L').length : Nat) : Int) := by rw [predS (by omega) (by omega)]; simp
    have tail := swapTail (C := fun h => f80_4 w0 K (some ad) n c ((P.length : Nat) : Int) ((hi : Nat) : Int) ((i : Nat) : Int) (((P ++ L').length : Nat) : Int) h) (X := (((P ++ L').length + 1 : Nat) : Int)) (Y := (((P ++ L').length : Nat) : Int)) (t := y) (u := x)
      s.so rfl rfl (by omega) (by omega)
    have swapped : ordR x y < 0 → ∀ h', Sl w0 h' 5 (some ad) n c (tabs (((P ++ (L' ++ [y] ++ x :: G ++ R) ++ Z).set ((P ++ L').length + 1) y).set (P ++ L').length x)) → Ext h h' (some ad) → f80_4 w0 K (some ad) n c ((P.length : Nat) : Int) ((hi : Nat) : Int) ((i : Nat) : Int) (((P ++ L').length : Nat) : Int) h' := fun ho h' so' hx' => by
      have s' := s.swap gx gy so' hx'
      rw [eU, swapAdj] at s'
      have := ih L' (y :: G) h' (by omega) (by simpa using hS) hp (fun g hg => ?_) (by simpa using s')
      · rw [hPL]; exact this
      · rcases List.mem_cons.1 hg with rfl | hg
        · exact ho
        · exact hG g hg
    have stop : ¬ ordR x y < 0 → f80_1 w0 K (some ad) n c ((P.length : Nat) : Int) ((hi : Nat) : Int) (IntKind.i64.wrap (((i : Nat) : Int) + 1)) h := fun ho => by
      rw [wrapS (by omega)]
      refine hnext h (L' ++ [y]) G hS s ?_
      have hp' := hp
      rw [← hS, List.pairwise_append] at hp'
      obtain ⟨p1, p2, p3⟩ := hp'
      have hyx : LeT y x := LeT.of_not ho
      rw [List.pairwise_append, List.pairwise_cons]
      refine ⟨p1, ⟨fun g hg => by have := hG g hg; show ordR x g ≤ 0; omega, p2⟩, fun l hl' g hg => ?_⟩
      rcases List.mem_cons.1 hg with rfl | hg
      · rcases List.mem_append.1 hl' with h1 | h1
        · exact LeT.trans ((List.pairwise_append.1 p1).2.2 l h1 y (by simp)) hyx
        · rw [List.mem_singleton.1 h1]; exact hyx
      · exact p3 l hl' g hg
    have ax' : At w0 h (ad.add (Int.toNat (((P ++ L').length + 1 : Nat) : Int) * 5)) x.cells := by rw [Int.toNat_natCast]; exact ax
    have ay' : At w0 h (ad.add (Int.toNat (((P ++ L').length : Nat) : Int) * 5)) y.cells := by rw [Int.toNat_natCast]; exact ay
    refine f80_4_in _ _ _ _ _ _ _ _ (brB_of (fun _ => ?_) fun q => by simp at q; omega)
    rw [pj]
    refine ⟨ad, rfl, by omega, by omega, ad, rfl, by omega, by omega,
      aggAt (t := x) ax' (aggAt (t := y) ay' (f53_spec (t := x) (u := y) ox oy ⟨_, rfl, brB_of (fun q => ?_) fun q => stop (by simpa using q)⟩)),
      aggAt (t := y) ay' (aggAt (t := x) ax' (f53_spec (t := x) (u := y) ox oy ⟨_, rfl, brB_of (fun q => ?_) fun q => stop (by simpa using q)⟩))⟩
    all_goals
      have T := tail (swapped (by simpa using q))
      exact ⟨ad, rfl, by omega, by omega, ad, rfl, by omega, by omega, aggAt (t := y) ay' (aggAt (t := x) ax' T), aggAt (t := x) ax' (aggAt (t := y) ay' T)⟩

/-- slices.insertionSortCmpFunc. -/
theorem f80_spec {P M Z : List Tab} {h : AH} (s : SS w0 h0 ad n c us0 h (P ++ M ++ Z)) (hk : ∀ h' M', SS w0 h0 ad n c us0 h' (P ++ M' ++ Z) → M'.Perm M → M'.Pairwise LeT → K (.tuple #[]) h') {lo hi : Nat} (hlo : lo = P.length) (hhi : hi = P.length + M.length) :
    EvC Go.Proofs.Try.prog w0 80 #[.slice (some ad) n c, .int .i64 ((lo : Nat) : Int), .int .i64 ((hi : Nat) : Int), .func (.func 53) #[] #[]] K h := by
  have hl := s.len
  simp only [List.length_append] at hl
  subst hlo
  have loop : ∀ (R S : List Tab) (i : Nat) (h : AH), i = P.length + S.length → SS w0 h0 ad n c us0 h (P ++ (S ++ R) ++ Z) → S.Pairwise LeT → (S ++ R).Perm M → f80_1 w0 K (some ad) n c ((P.length : Nat) : Int) ((hi : Nat) : Int) ((i : Nat) : Int) h := by
    intro R
    induction R with
    | nil =>
      intro S i h hi' s hp hperm
      have := hperm.length_eq
      simp only [List.length_append, List.length_nil] at this
      refine f80_1_in _ _ _ _ _ _ _ (brB_of (fun q => by simp at q; omega) fun _ => hk h S (by simpa using s) (by simpa using hperm) hp)
    | cons x R ih =>
      intro S i h hi' s hp hperm
      have := hperm.length_eq
      simp only [List.length_append, List.length_cons] at this
      refine f80_1_in _ _ _ _ _ _ _ (brB_of (fun _ => ?_) fun q => by simp at q; omega)
      subst hi'
      refine f80_4_ok hok hn (R := R) (Z := Z) (x := x) (S0 := S) (by omega) (fun h' L G hS s' hp' => ?_) S.length S [] h rfl (by simp) hp (fun g hg => by cases hg) (by simpa using s)
      refine ih (L ++ x :: G) _ h' (by rw [← hS]; simp; omega) s' hp' ?_
      refine List.Perm.trans ?_ hperm
      rw [← hS]
      simp only [List.append_assoc, List.cons_append]
      exact List.Perm.append_left L (List.perm_middle (a := x) (l₁ := G) (l₂ := R)).symm
  refine f80_go _ _ _ _ _ _ ?_
  rw [wrapS (by omega)]
  cases M with
  | nil =>
    refine f80_1_in _ _ _ _ _ _ _ (brB_of (fun q => by simp at q hhi; omega) fun _ => hk h [] s (List.Perm.refl _) (by simp))
  | cons x R => exact loop R [x] _ h (by simp) (by simpa using s) (by simp) (List.Perm.refl _)
end
end Go.G.Ytpnhlgghpciofaa
