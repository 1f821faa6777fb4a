/- LevelApplies by the evaluator. -/
import Derived.Test.YtpnhlgghpciofaaLX5
import Derived.Test.YtpnhlgghpciofaaProg
set_option maxRecDepth 100000
namespace Go.G.Ytpnhlgghpciofaa
open Go.RowKit
def f35_J : Nat → List Nat × Nat := jOf []



theorem f35_go {w0 : World} {K : Value → AH → Prop} (x0_0 : Int) (x0_1 : Int) (x0_2 : Int) (a0_3 : Option Go.Addr) (n0_3 : Nat) (c0_3 : Nat) (x1_0 : Int) (x1_1 : Int) (x1_2 : Int) (a1_3 : Option Go.Addr) (n1_3 : Nat) (c1_3 : Nat) (h : AH)
  (hv : (brB (x0_0 == x1_0) (brB (x0_1 == x1_1) (brB (x0_2 == x1_2) (EvC Go.Proofs.Try.prog w0 37 #[(Go.Value.slice a0_3 n0_3 c0_3), (Go.Value.slice a1_3 n1_3 c1_3)] (fun x'0 h'1 => (∃ t'2 : Bool, ((x'0 = (Go.Value.bool t'2)) ∧ (K (Go.Value.bool t'2) h'1)))) h) (K (Go.Value.bool false) h)) (K (Go.Value.bool false) h)) (K (Go.Value.bool false) h))) :
  EvC Go.Proofs.Try.prog w0 35 ([(.agg #[(.int .i64 x0_0), (.int .i64 x0_1), (.int .i64 x0_2), (.slice a0_3 n0_3 c0_3)]), (.agg #[(.int .i64 x1_0), (.int .i64 x1_1), (.int .i64 x1_2), (.slice a1_3 n1_3 c1_3)])]).toArray K h := EvC_intro (P := Go.Proofs.Try.prog) f35_J (Eq.mp (by kernel_rfl) hv)
def f9_J : Nat → List Nat × Nat := jOf [(2, [0, 1, 4, 5, 6, 7, 8, 9, 10, 11, 12, 13, 14, 15, 16, 17, 18, 19, 20, 21, 22, 23, 25, 26, 27, 28, 29, 30, 31, 32, 33, 34, 35, 36, 37, 38, 39, 40, 41, 42, 43, 44, 45, 46, 47, 48], 2), (3, [0, 1, 4, 5, 6, 7, 8, 9, 10, 11, 12, 13, 14, 15, 16, 17, 18, 19, 20, 21, 22, 23, 24, 25, 26, 27, 28, 29, 30, 31, 32, 33, 34, 35, 36, 37, 38, 39, 40, 41, 42, 43, 44, 45, 46, 47, 48], 2)]

def f9_2 (w0 : World) (K : Value → AH → Prop) (x24 : Bool) (xb0_0 : Int) (xb0_1 : Int) (xb0_2 : Int) (ab0_3 : Option Go.Addr) (nb0_3 : Nat) (cb0_3 : Nat) (xb1_0 : Int) (xb1_1 : Int) (xb1_2 : Int) (ab1_3 : Option Go.Addr) (nb1_3 : Nat) (cb1_3 : Nat) (ab1_4 : Option Go.Addr) (nb1_4 : Nat) (cb1_4 : Nat) (h : AH) : Prop :=
  ∀ j : Nat → Value, LPk Go.Proofs.Try.prog w0 (EvC Go.Proofs.Try.prog w0) f9_J 9 K 2 [.v (j 0), .v (j 1), .bp 0 0, .bp 1 0, .v (j 4), .v (j 5), .v (j 6), .v (j 7), .v (j 8), .v (j 9), .v (j 10), .v (j 11), .v (j 12), .v (j 13), .v (j 14), .v (j 15), .v (j 16), .v (j 17), .v (j 18), .v (j 19), .v (j 20), .v (j 21), .v (j 22), .v (j 23), .v (.bool x24), .v (j 25), .v (j 26), .v (j 27), .v (j 28), .v (j 29), .v (j 30), .v (j 31), .v (j 32), .v (j 33), .v (j 34), .v (j 35), .v (j 36), .v (j 37), .v (j 38), .v (j 39), .v (j 40), .v (j 41), .v (j 42), .v (j 43), .v (j 44), .v (j 45), .v (j 46), .v (j 47), .v (j 48)] [some [(.int .i64 xb0_0), (.int .i64 xb0_1), (.int .i64 xb0_2), (.slice ab0_3 nb0_3 cb0_3)], some [(.int .i64 xb1_0), (.int .i64 xb1_1), (.int .i64 xb1_2), (.slice ab1_3 nb1_3 cb1_3), (.slice ab1_4 nb1_4 cb1_4)]] h

def f9_3 (w0 : World) (K : Value → AH → Prop) (xb0_0 : Int) (xb0_1 : Int) (xb0_2 : Int) (ab0_3 : Option Go.Addr) (nb0_3 : Nat) (cb0_3 : Nat) (xb1_0 : Int) (xb1_1 : Int) (xb1_2 : Int) (ab1_3 : Option Go.Addr) (nb1_3 : Nat) (cb1_3 : Nat) (ab1_4 : Option Go.Addr) (nb1_4 : Nat) (cb1_4 : Nat) (h : AH) : Prop :=
  ∀ j : Nat → Value, LPk Go.Proofs.Try.prog w0 (EvC Go.Proofs.Try.prog w0) f9_J 9 K 3 [.v (j 0), .v (j 1), .bp 0 0, .bp 1 0, .v (j 4), .v (j 5), .v (j 6), .v (j 7), .v (j 8), .v (j 9), .v (j 10), .v (j 11), .v (j 12), .v (j 13), .v (j 14), .v (j 15), .v (j 16), .v (j 17), .v (j 18), .v (j 19), .v (j 20), .v (j 21), .v (j 22), .v (j 23), .v (j 24), .v (j 25), .v (j 26), .v (j 27), .v (j 28), .v (j 29), .v (j 30), .v (j 31), .v (j 32), .v (j 33), .v (j 34), .v (j 35), .v (j 36), .v (j 37), .v (j 38), .v (j 39), .v (j 40), .v (j 41), .v (j 42), .v (j 43), .v (j 44), .v (j 45), .v (j 46), .v (j 47), .v (j 48)] [some [(.int .i64 xb0_0), (.int .i64 xb0_1), (.int .i64 xb0_2), (.slice ab0_3 nb0_3 cb0_3)], some [(.int .i64 xb1_0), (.int .i64 xb1_1), (.int .i64 xb1_2), (.slice ab1_3 nb1_3 cb1_3), (.slice ab1_4 nb1_4 cb1_4)]] h

theorem f9_2_in {w0 : World} {K : Value → AH → Prop} (x24 : Bool) (xb0_0 : Int) (xb0_1 : Int) (xb0_2 : Int) (ab0_3 : Option Go.Addr) (nb0_3 : Nat) (cb0_3 : Nat) (xb1_0 : Int) (xb1_1 : Int) (xb1_2 : Int) (ab1_3 : Option Go.Addr) (nb1_3 : Nat) (cb1_3 : Nat) (ab1_4 : Option Go.Addr) (nb1_4 : Nat) (cb1_4 : Nat) (h : AH)
  (hv : (brB x24 (EvC Go.Proofs.Try.prog w0 30 #[] (fun x'6 h'7 => (∃ t'8 : Bool, ((x'6 = (Go.Value.bool t'8)) ∧ (K (Go.Value.bool t'8) h'7)))) h) (f9_3 w0 K xb0_0 xb0_1 xb0_2 ab0_3 nb0_3 cb0_3 xb1_0 xb1_1 xb1_2 ab1_3 nb1_3 cb1_3 ab1_4 nb1_4 cb1_4 h))) :
  f9_2 w0 K x24 xb0_0 xb0_1 xb0_2 ab0_3 nb0_3 cb0_3 xb1_0 xb1_1 xb1_2 ab1_3 nb1_3 cb1_3 ab1_4 nb1_4 cb1_4 h := fun j => LP_intro (P := Go.Proofs.Try.prog) (Eq.mp (by kernel_rfl) hv)

theorem f9_3_in {w0 : World} {K : Value → AH → Prop} (xb0_0 : Int) (xb0_1 : Int) (xb0_2 : Int) (ab0_3 : Option Go.Addr) (nb0_3 : Nat) (cb0_3 : Nat) (xb1_0 : Int) (xb1_1 : Int) (xb1_2 : Int) (ab1_3 : Option Go.Addr) (nb1_3 : Nat) (cb1_3 : Nat) (ab1_4 : Option Go.Addr) (nb1_4 : Nat) (cb1_4 : Nat) (h : AH)
  (hv : (EvC Go.Proofs.Try.prog w0 33 #[(Go.Value.agg #[(Go.Value.int .i64 xb0_0), (Go.Value.int .i64 xb0_1), (Go.Value.int .i64 xb0_2), (Go.Value.slice ab0_3 nb0_3 cb0_3)]), (Go.Value.agg #[(Go.Value.int .i64 xb1_0), (Go.Value.int .i64 xb1_1), (Go.Value.int .i64 xb1_2), (Go.Value.slice ab1_3 nb1_3 cb1_3), (Go.Value.slice ab1_4 nb1_4 cb1_4)])] (fun x'9 h'10 => (∃ i'11 : Int, (∃ i'12 : Int, (∃ i'13 : Int, (∃ p'14 : Option Go.Addr, (∃ n'15 : Nat, (∃ n'16 : Nat, (∃ i'17 : Int, ((x'9 = (Go.Value.tuple #[(Go.Value.agg #[(Go.Value.int .i64 i'11), (Go.Value.int .i64 i'12), (Go.Value.int .i64 i'13), (Go.Value.slice p'14 n'15 n'16)]), (Go.Value.int .i64 i'17)])) ∧ (EvC Go.Proofs.Try.prog w0 34 #[(Go.Value.agg #[(Go.Value.int .i64 xb0_0), (Go.Value.int .i64 xb0_1), (Go.Value.int .i64 xb0_2), (Go.Value.slice ab0_3 nb0_3 cb0_3)]), (Go.Value.agg #[(Go.Value.int .i64 xb1_0), (Go.Value.int .i64 xb1_1), (Go.Value.int .i64 xb1_2), (Go.Value.slice ab1_3 nb1_3 cb1_3), (Go.Value.slice ab1_4 nb1_4 cb1_4)])] (fun x'18 h'19 => (∃ i'20 : Int, (∃ i'21 : Int, (∃ i'22 : Int, (∃ p'23 : Option Go.Addr, (∃ n'24 : Nat, (∃ n'25 : Nat, (∃ i'26 : Int, ((x'18 = (Go.Value.tuple #[(Go.Value.agg #[(Go.Value.int .i64 i'20), (Go.Value.int .i64 i'21), (Go.Value.int .i64 i'22), (Go.Value.slice p'23 n'24 n'25)]), (Go.Value.int .i64 i'26)])) ∧ (EvC Go.Proofs.Try.prog w0 35 #[(Go.Value.agg #[(Go.Value.int .i64 i'11), (Go.Value.int .i64 i'12), (Go.Value.int .i64 i'13), (Go.Value.slice p'14 n'15 n'16)]), (Go.Value.agg #[(Go.Value.int .i64 i'20), (Go.Value.int .i64 i'21), (Go.Value.int .i64 i'22), (Go.Value.slice p'23 n'24 n'25)])] (fun x'27 h'28 => (∃ t'29 : Bool, ((x'27 = (Go.Value.bool t'29)) ∧ (brB t'29 (brB (i'17 == i'26) (EvC Go.Proofs.Try.prog w0 30 #[] (fun x'30 h'31 => (∃ t'32 : Bool, ((x'30 = (Go.Value.bool t'32)) ∧ (K (Go.Value.bool t'32) h'31)))) h'28) (K (Go.Value.bool false) h'28)) (K (Go.Value.bool false) h'28))))) h'19)))))))))) h'10)))))))))) h)) :
  f9_3 w0 K xb0_0 xb0_1 xb0_2 ab0_3 nb0_3 cb0_3 xb1_0 xb1_1 xb1_2 ab1_3 nb1_3 cb1_3 ab1_4 nb1_4 cb1_4 h := fun j => LP_intro (P := Go.Proofs.Try.prog) (Eq.mp (by kernel_rfl) hv)

theorem f9_go {w0 : World} {K : Value → AH → Prop} (x0_0 : Int) (x0_1 : Int) (x0_2 : Int) (a0_3 : Option Go.Addr) (n0_3 : Nat) (c0_3 : Nat) (x1_0 : Int) (x1_1 : Int) (x1_2 : Int) (a1_3 : Option Go.Addr) (n1_3 : Nat) (c1_3 : Nat) (a1_4 : Option Go.Addr) (n1_4 : Nat) (c1_4 : Nat) (h : AH)
  (hv : (EvC Go.Proofs.Try.prog w0 29 #[(Go.Value.slice a0_3 n0_3 c0_3)] (fun x'0 h'1 => (∃ t'2 : Bool, ((x'0 = (Go.Value.bool t'2)) ∧ (brB (!t'2) (f9_2 w0 K true x0_0 x0_1 x0_2 a0_3 n0_3 c0_3 x1_0 x1_1 x1_2 a1_3 n1_3 c1_3 a1_4 n1_4 c1_4 h'1) (EvC Go.Proofs.Try.prog w0 29 #[(Go.Value.slice a1_3 n1_3 c1_3)] (fun x'3 h'4 => (∃ t'5 : Bool, ((x'3 = (Go.Value.bool t'5)) ∧ (brB (!t'5) (f9_2 w0 K true x0_0 x0_1 x0_2 a0_3 n0_3 c0_3 x1_0 x1_1 x1_2 a1_3 n1_3 c1_3 a1_4 n1_4 c1_4 h'4) (f9_2 w0 K (decide (((300 : Int) < ((n1_4 : Nat) : Int)))) x0_0 x0_1 x0_2 a0_3 n0_3 c0_3 x1_0 x1_1 x1_2 a1_3 n1_3 c1_3 a1_4 n1_4 c1_4 h'4))))) h'1))))) h)) :
  EvC Go.Proofs.Try.prog w0 9 ([(.agg #[(.int .i64 x0_0), (.int .i64 x0_1), (.int .i64 x0_2), (.slice a0_3 n0_3 c0_3)]), (.agg #[(.int .i64 x1_0), (.int .i64 x1_1), (.int .i64 x1_2), (.slice a1_3 n1_3 c1_3), (.slice a1_4 n1_4 c1_4)])]).toArray K h := EvC_intro (P := Go.Proofs.Try.prog) f9_J (Eq.mp (by kernel_rfl) hv)
theorem edit_of {W : World} {cs : List Value} (h : OkT Go.Proofs.Try.prog W 5 51 cs) : ∃ (lo nx sq : Int) (a : Option Addr) (n c : Nat) (ts : List Tab) (b : Option Addr) (m d : Nat) (rem : List Int), cs = [.int .i64 lo, .int .i64 nx, .int .i64 sq, .slice a n c, .slice b m d] ∧ True ∧ True ∧ True ∧ (∀ h, TS W h a n c ts) ∧ ∀ h, IS W h b m d rem := by
  obtain ⟨e, rfl, he⟩ := edit_ed h
  exact ⟨e.lo, e.nx, e.sq, e.ap, e.an, e.ac, e.add, e.rp, e.rn, e.rc, e.rem, rfl, trivial, trivial, trivial, fun h => (he h).1, fun h => (he h).2⟩

/-- level.Apply. -/
theorem f33_apply {w0 : World} {K : Value → AH → Prop} {h0 : AH} {v : Ver} {lo nx sq : Int} {a b e : Option Addr} {n c m d p g : Nat} {add : List Tab} {rem : List Int}
    (hk : ∀ a' n' c' h' ts', TS w0 h' a' n' c' ts' → ts'.map Tab.dat = (applyR v lo nx sq add rem).1.ts.map Tab.dat → Ext h0 h' none →
      K (.tuple #[.agg #[.int .i64 (applyR v lo nx sq add rem).1.lo, .int .i64 (applyR v lo nx sq add rem).1.nx, .int .i64 (applyR v lo nx sq add rem).1.sq, .slice a' n' c'], .int .i64 (applyR v lo nx sq add rem).2]) h')
    (sv : TS w0 h0 a n c v.ts) (sa : TS w0 h0 b m d add) (sr : IS w0 h0 e p g rem) :
    EvC Go.Proofs.Try.prog w0 33 #[.agg #[.int .i64 v.lo, .int .i64 v.nx, .int .i64 v.sq, .slice a n c], .agg #[.int .i64 lo, .int .i64 nx, .int .i64 sq, .slice b m d, .slice e p g]] K h0 :=
  f33_spec hk sv sa sr (fun _ => f59_sorts) fun h1 => apply_plain (by rw [Bool.and_eq_true] at h1; exact h1.1)

/-- ref SameVersion, of the same. -/
theorem f35_spec {w0 : World} {K : Value → AH → Prop} {h : AH} {lo nx sq : Int} {a b : Option Addr} {n c m d : Nat} {us ws : List Tab} (s : TS w0 h a n c us) (r : TS w0 h b m d ws) (hd : us.map Tab.dat = ws.map Tab.dat) (hk : K (.bool true) h) :
    EvC Go.Proofs.Try.prog w0 35 #[.agg #[.int .i64 lo, .int .i64 nx, .int .i64 sq, .slice a n c], .agg #[.int .i64 lo, .int .i64 nx, .int .i64 sq, .slice b m d]] K h :=
  f35_go _ _ _ _ _ _ _ _ _ _ _ _ _ (brB_of (fun _ => brB_of (fun _ => brB_of (fun _ => f37_spec s r hd ⟨_, rfl, hk⟩) fun q => by simp at q) fun q => by simp at q) fun q => by simp at q)

/-- LevelApplies holds. -/
theorem f9_spec {w0 : World} {K : Value → AH → Prop} {h0 : AH} {v : Ver} {lo nx sq : Int} {a b e : Option Addr} {n c m d p g : Nat} {add : List Tab} {rem : List Int} (sv : TS w0 h0 a n c v.ts) (sa : TS w0 h0 b m d add) (sr : IS w0 h0 e p g rem)
    (hk : ∀ h', Ext h0 h' none → K (.bool true) h') :
    EvC Go.Proofs.Try.prog w0 9 #[.agg #[.int .i64 v.lo, .int .i64 v.nx, .int .i64 v.sq, .slice a n c], .agg #[.int .i64 lo, .int .i64 nx, .int .i64 sq, .slice b m d, .slice e p g]] K h0 := by
  have yes : ∀ z : Bool, f9_2 w0 K z v.lo v.nx v.sq a n c lo nx sq b m d e p g h0 := fun z => by
    refine f9_2_in _ _ _ _ _ _ _ _ _ _ _ _ _ _ _ _ _ (brB_of (fun _ => f30_spec fun h' x' => ⟨_, rfl, hk h' x'⟩) fun _ => f9_3_in _ _ _ _ _ _ _ _ _ _ _ _ _ _ _ _ ?_)
    refine f33_apply (v := v) (fun a1 n1 c1 h1 us1 s1 d1 x1 => ⟨_, _, _, _, _, _, _, rfl, f34_spec (v := v) (fun a2 n2 c2 h2 s2 x2 => ⟨_, _, _, _, _, _, _, rfl, ?_⟩) (sv.ext x1) (sa.ext x1) (sr.ext x1)⟩) sv sa sr
    exact f35_spec (s1.ext x2) s2 d1 ⟨_, rfl, brB_of (fun _ => brB_of (fun _ => f30_spec fun h' x' => ⟨_, rfl, hk h' ((x1.trans x2).trans x')⟩) fun q => by simp at q) fun q => by cases q⟩
  exact f9_go _ _ _ _ _ _ _ _ _ _ _ _ _ _ _ _ (f29_spec sv ⟨_, rfl, brB_of (fun _ => yes _) fun _ => f29_spec sa ⟨_, rfl, brB_of (fun _ => yes _) fun _ => yes _⟩⟩)
end Go.G.Ytpnhlgghpciofaa
