/- pick.Next. -/
import Derived.Test.YtpnhlgghpciofaaLH
import Derived.Test.YtpnhlgghpciofaaProg
set_option maxRecDepth 100000
namespace Go.G.Ytpnhlgghpciofaa
open Go.RowKit
def f21_J : Nat → List Nat × Nat := jOf [(10000, [0, 3, 5, 6, 7, 8, 9, 10, 11, 12, 13, 14, 15, 16, 17, 18, 19, 20], 2)]

def f21_10000 (w0 : World) (K : Value → AH → Prop) (x4 : Int) (xb0_0 : Int) (xb0_1 : Int) (xb0_2 : Int) (ab0_3 : Option Go.Addr) (nb0_3 : Nat) (cb0_3 : Nat) (xb1_0 : Int) (xb1_1 : Int) (ab1_2 : Option Go.Addr) (nb1_2 : Nat) (cb1_2 : Nat) (h : AH) : Prop :=
  ∀ j : Nat → Value, LPk Go.Proofs.Try.prog w0 (EvC Go.Proofs.Try.prog w0) f21_J 21 K 10000 [.v (j 0), .bp 0 0, .bp 1 0, .v (j 3), .v (.int .i64 x4), .v (j 5), .v (j 6), .v (j 7), .v (j 8), .v (j 9), .v (j 10), .v (j 11), .v (j 12), .v (j 13), .v (j 14), .v (j 15), .v (j 16), .v (j 17), .v (j 18), .v (j 19), .v (j 20)] [some [(.int .i64 xb0_0), (.int .i64 xb0_1), (.int .i64 xb0_2), (.slice ab0_3 nb0_3 cb0_3)], some [(.int .i64 xb1_0), (.int .i64 xb1_1), (.slice ab1_2 nb1_2 cb1_2)]] h

theorem f21_10000_in {w0 : World} {K : Value → AH → Prop} (x4 : Int) (xb0_0 : Int) (xb0_1 : Int) (xb0_2 : Int) (ab0_3 : Option Go.Addr) (nb0_3 : Nat) (cb0_3 : Nat) (xb1_0 : Int) (xb1_1 : Int) (ab1_2 : Option Go.Addr) (nb1_2 : Nat) (cb1_2 : Nat) (h : AH)
  (hv : (EvC Go.Proofs.Try.prog w0 19 #[(Go.Value.agg #[(Go.Value.int .i64 xb0_0), (Go.Value.int .i64 xb0_1), (Go.Value.int .i64 xb0_2), (Go.Value.slice ab0_3 nb0_3 cb0_3)]), (Go.Value.int .i64 x4)] (fun x'13 h'14 => (∃ t'15 : Bool, ((x'13 = (Go.Value.bool t'15)) ∧ (brB (!t'15) (brB (decide (((Go.IntKind.wrap .i64 (x4 + (1 : Int))) < (4 : Int)))) (f21_10000 w0 K (Go.IntKind.wrap .i64 (x4 + (1 : Int))) xb0_0 xb0_1 xb0_2 ab0_3 nb0_3 cb0_3 xb1_0 xb1_1 ab1_2 nb1_2 cb1_2 h'14) (K (Go.Value.tuple #[(Go.Value.agg #[(Go.Value.int .i64 (0 : Int)), (Go.Value.int .i64 (0 : Int)), (Go.Value.slice none 0 0)]), (Go.Value.bool false)]) h'14)) (EvC Go.Proofs.Try.prog w0 49 #[(Go.Value.agg #[(Go.Value.int .i64 xb0_0), (Go.Value.int .i64 xb0_1), (Go.Value.int .i64 xb0_2), (Go.Value.slice ab0_3 nb0_3 cb0_3)]), (Go.Value.int .i64 x4)] (fun x'16 h'17 => (∃ i'18 : Int, (∃ i'19 : Int, (∃ p'20 : Option Go.Addr, (∃ n'21 : Nat, (∃ n'22 : Nat, ((x'16 = (Go.Value.agg #[(Go.Value.int .i64 i'18), (Go.Value.int .i64 i'19), (Go.Value.slice p'20 n'21 n'22)])) ∧ (K (Go.Value.tuple #[(Go.Value.agg #[(Go.Value.int .i64 i'18), (Go.Value.int .i64 i'19), (Go.Value.slice p'20 n'21 n'22)]), (Go.Value.bool true)]) h'17)))))))) h'14))))) h)) :
  f21_10000 w0 K x4 xb0_0 xb0_1 xb0_2 ab0_3 nb0_3 cb0_3 xb1_0 xb1_1 ab1_2 nb1_2 cb1_2 h := fun j => LP_intro (P := Go.Proofs.Try.prog) (Eq.mp (by kernel_rfl) hv)

theorem f21_go {w0 : World} {K : Value → AH → Prop} (x0_0 : Int) (x0_1 : Int) (x0_2 : Int) (a0_3 : Option Go.Addr) (n0_3 : Nat) (c0_3 : Nat) (h : AH)
  (hv : (EvC Go.Proofs.Try.prog w0 31 #[(Go.Value.agg #[(Go.Value.int .i64 x0_0), (Go.Value.int .i64 x0_1), (Go.Value.int .i64 x0_2), (Go.Value.slice a0_3 n0_3 c0_3)])] (fun x'0 h'1 => (∃ t'2 : Bool, ((x'0 = (Go.Value.bool t'2)) ∧ (brB (!t'2) (K (Go.Value.tuple #[(Go.Value.agg #[(Go.Value.int .i64 (0 : Int)), (Go.Value.int .i64 (0 : Int)), (Go.Value.slice none 0 0)]), (Go.Value.bool false)]) h'1) (EvC Go.Proofs.Try.prog w0 19 #[(Go.Value.agg #[(Go.Value.int .i64 x0_0), (Go.Value.int .i64 x0_1), (Go.Value.int .i64 x0_2), (Go.Value.slice a0_3 n0_3 c0_3)]), (Go.Value.int .i64 (0 : Int))] (fun x'3 h'4 => (∃ t'5 : Bool, ((x'3 = (Go.Value.bool t'5)) ∧ (brB (!t'5) (f21_10000 w0 K (1 : Int) x0_0 x0_1 x0_2 a0_3 n0_3 c0_3 (0 : Int) (0 : Int) none 0 0 h'4) (EvC Go.Proofs.Try.prog w0 49 #[(Go.Value.agg #[(Go.Value.int .i64 x0_0), (Go.Value.int .i64 x0_1), (Go.Value.int .i64 x0_2), (Go.Value.slice a0_3 n0_3 c0_3)]), (Go.Value.int .i64 (0 : Int))] (fun x'6 h'7 => (∃ i'8 : Int, (∃ i'9 : Int, (∃ p'10 : Option Go.Addr, (∃ n'11 : Nat, (∃ n'12 : Nat, ((x'6 = (Go.Value.agg #[(Go.Value.int .i64 i'8), (Go.Value.int .i64 i'9), (Go.Value.slice p'10 n'11 n'12)])) ∧ (K (Go.Value.tuple #[(Go.Value.agg #[(Go.Value.int .i64 i'8), (Go.Value.int .i64 i'9), (Go.Value.slice p'10 n'11 n'12)]), (Go.Value.bool true)]) h'7)))))))) h'4))))) h'1))))) h)) :
  EvC Go.Proofs.Try.prog w0 21 ([(.agg #[(.int .i64 x0_0), (.int .i64 x0_1), (.int .i64 x0_2), (.slice a0_3 n0_3 c0_3)])]).toArray K h := EvC_intro (P := Go.Proofs.Try.prog) f21_J (Eq.mp (by kernel_rfl) hv)
/-- The level of the next job. -/
def nextR (lo nx sq : Int) (ts : List Tab) : Option Int := if mayV lo nx sq ts then (if fullR ts 0 then some 0 else if fullR ts 1 then some 1 else if fullR ts 2 then some 2 else none) else none
theorem fullR_ne {ts : List Tab} {x : Int} (h : fullR ts x = true) : atD (ts.map Tab.dat) x ≠ [] := by
  rw [← at_dat]
  intro q
  have q' := List.map_eq_nil_iff.1 q
  unfold fullR at h
  split at h
  · rename_i e; subst e; rw [q'] at h; simp at h
  split at h
  · rename_i e; subst e; rw [q'] at h; simp [sizes] at h
  split at h
  · rename_i e; subst e; rw [q'] at h; simp [sizes] at h
  · cases h

section
variable {w0 : World} {K : Value → AH → Prop} {h0 : AH} {a : Option Addr} {n c : Nat} {ts : List Tab} {lo nx sq : Int}

/-- pick.Next. -/
theorem f21_spec (s : TS w0 h0 a n c ts) (hk0 : ∀ h', nextR lo nx sq ts = none → Ext h0 h' none → K (.tuple #[.agg #[.int .i64 0, .int .i64 0, .slice none 0 0], .bool false]) h')
    (hk1 : ∀ x a' n' c' h', nextR lo nx sq ts = some x → Sl w0 h' 1 a' n' c' (ints (jobD (ts.map Tab.dat) x)) → Ext h0 h' none → K (.tuple #[.agg #[.int .i64 x, .int .i64 (x + 1), .slice a' n' c'], .bool true]) h') :
    EvC Go.Proofs.Try.prog w0 21 #[.agg #[.int .i64 lo, .int .i64 nx, .int .i64 sq, .slice a n c]] K h0 := by
  refine f21_go _ _ _ _ _ _ _ (f31_spec s fun h1 x1 => ⟨_, rfl, brB_of (fun q => hk0 h1 ?_ x1) fun q => ?_⟩)
  · have : mayV lo nx sq ts = false := by simpa using q
    unfold nextR; rw [this]; rfl
  have hm : mayV lo nx sq ts = true := by simpa using q
  have hsz : ∀ t ∈ ts, 1 ≤ t.siz ∧ t.siz ≤ 4194304 := fun t ht => mayT_siz (mayV_all hm t ht)
  have hn : n ≤ 1000000 := by have := mayV_len hm; have := s.len; omega
  have job : ∀ (x : Int) (h : AH), 0 ≤ x ∧ x ≤ 4 → fullR ts x = true → nextR lo nx sq ts = some x → Ext h0 h none → EvC Go.Proofs.Try.prog w0 49 #[.agg #[.int .i64 lo, .int .i64 nx, .int .i64 sq, .slice a n c], .int .i64 x]
      (fun v h' => ∃ i j : Int, ∃ p : Option Addr, ∃ m d : Nat, v = .agg #[.int .i64 i, .int .i64 j, .slice p m d] ∧ K (.tuple #[.agg #[.int .i64 i, .int .i64 j, .slice p m d], .bool true]) h') h := fun x h hx hf hnx ex =>
    f49_spec (s.ext ex) hn hx (fullR_ne hf) fun a' n' c' h' s' x' => ⟨_, _, _, _, _, rfl, hk1 x a' n' c' h' hnx s' (ex.trans x')⟩
  refine f19_spec (s.ext x1) hn hsz fun h2 x2 => ⟨_, rfl, brB_of (fun q0 => ?_) fun q0 => ?_⟩
  · have q0' : fullR ts 0 = false := by simpa using q0
    refine f21_10000_in _ _ _ _ _ _ _ _ _ _ _ _ _ (f19_spec (s.ext (x1.trans x2)) hn hsz fun h3 x3 => ⟨_, rfl, brB_of (fun q1 => ?_) fun q1 => ?_⟩)
    · have q1' : fullR ts 1 = false := by simpa using q1
      have e1 : IntKind.i64.wrap ((1 : Int) + 1) = 2 := wrap64 (by omega) (by omega)
      rw [e1]
      refine brB_of (fun _ => ?_) fun q => by simp at q
      refine f21_10000_in _ _ _ _ _ _ _ _ _ _ _ _ _ (f19_spec (s.ext ((x1.trans x2).trans x3)) hn hsz fun h4 x4 => ⟨_, rfl, brB_of (fun q2 => ?_) fun q2 => ?_⟩)
      · have q2' : fullR ts 2 = false := by simpa using q2
        have e2 : IntKind.i64.wrap ((2 : Int) + 1) = 3 := wrap64 (by omega) (by omega)
        rw [e2]
        refine brB_of (fun _ => ?_) fun q => by simp at q
        refine f21_10000_in _ _ _ _ _ _ _ _ _ _ _ _ _ (f19_spec (s.ext (((x1.trans x2).trans x3).trans x4)) hn hsz fun h5 x5 => ⟨_, rfl, brB_of (fun q3 => ?_) fun q3 => ?_⟩)
        · have e3 : IntKind.i64.wrap ((3 : Int) + 1) = 4 := wrap64 (by omega) (by omega)
          rw [e3]
          refine brB_of (fun q => by simp at q) fun _ => hk0 h5 ?_ ((((x1.trans x2).trans x3).trans x4).trans x5)
          unfold nextR; rw [hm, q0', q1', q2']; rfl
        · simp [fullR] at q3
      · have q2' : fullR ts 2 = true := by simpa using q2
        exact job 2 h4 (by omega) q2' (by unfold nextR; rw [hm, q0', q1', q2']; rfl) (((x1.trans x2).trans x3).trans x4)
    · have q1' : fullR ts 1 = true := by simpa using q1
      exact job 1 h3 (by omega) q1' (by unfold nextR; rw [hm, q0', q1']; rfl) ((x1.trans x2).trans x3)
  · have q0' : fullR ts 0 = true := by simpa using q0
    exact job 0 h2 (by omega) q0' (by unfold nextR; rw [hm, q0']; rfl) (x1.trans x2)
end
end Go.G.Ytpnhlgghpciofaa
