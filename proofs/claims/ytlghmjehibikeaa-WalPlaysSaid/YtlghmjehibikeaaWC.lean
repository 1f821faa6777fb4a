/- Batches encoded. -/
import Derived.Test.YtlghmjehibikeaaWB
import Derived.Test.YtlghmjehibikeaaProg
set_option maxRecDepth 100000
namespace Go.G.Ytlghmjehibikeaa
open Go.RowKit
def f79_J : Nat → List Nat × Nat := jOf [(2, [0, 2, 4, 5, 6, 7, 8, 9, 10, 11, 12, 13, 14, 15, 16, 17, 18, 19, 20, 21, 22, 23, 24, 25, 26, 27, 28, 29, 30, 31, 32, 33, 34, 35, 36, 37, 38, 39, 40, 41, 42, 43], 1), (4, [0, 1, 2, 3, 4, 5, 6, 7, 8, 9, 10, 11, 12, 13, 14, 15, 16, 17, 18, 19, 20, 21, 22, 23, 24, 25, 26, 27, 28, 29, 30, 31, 32, 34, 35, 36, 37, 38, 39, 40, 41, 42, 43], 0)]

def f79_2 (w0 : World) (K : Value → AH → Prop) (x3 : Bool) (ab0_0 : Option Go.Addr) (nb0_0 : Nat) (cb0_0 : Nat) (xb0_1 : Bool) (xb0_2 : Int) (ab0_3 : Option Go.Addr) (nb0_3 : Nat) (cb0_3 : Nat) (h : AH) : Prop :=
  ∀ j : Nat → Value, LPk Go.Proofs.Try.prog w0 (EvC Go.Proofs.Try.prog w0) f79_J 79 K 2 [.v (j 0), .bp 0 0, .v (j 2), .v (.bool x3), .v (j 4), .v (j 5), .v (j 6), .v (j 7), .v (j 8), .v (j 9), .v (j 10), .v (j 11), .v (j 12), .v (j 13), .v (j 14), .v (j 15), .v (j 16), .v (j 17), .v (j 18), .v (j 19), .v (j 20), .v (j 21), .v (j 22), .v (j 23), .v (j 24), .v (j 25), .v (j 26), .v (j 27), .v (j 28), .v (j 29), .v (j 30), .v (j 31), .v (j 32), .v (j 33), .v (j 34), .v (j 35), .v (j 36), .v (j 37), .v (j 38), .v (j 39), .v (j 40), .v (j 41), .v (j 42), .v (j 43)] [some [(.slice ab0_0 nb0_0 cb0_0), (.bool xb0_1), (.int .i64 xb0_2), (.slice ab0_3 nb0_3 cb0_3)]] h

def f79_4 (w0 : World) (K : Value → AH → Prop) (x33 : Bool) (h : AH) : Prop :=
  ∀ j : Nat → Value, LPk Go.Proofs.Try.prog w0 (EvC Go.Proofs.Try.prog w0) f79_J 79 K 4 [.v (j 0), .v (j 1), .v (j 2), .v (j 3), .v (j 4), .v (j 5), .v (j 6), .v (j 7), .v (j 8), .v (j 9), .v (j 10), .v (j 11), .v (j 12), .v (j 13), .v (j 14), .v (j 15), .v (j 16), .v (j 17), .v (j 18), .v (j 19), .v (j 20), .v (j 21), .v (j 22), .v (j 23), .v (j 24), .v (j 25), .v (j 26), .v (j 27), .v (j 28), .v (j 29), .v (j 30), .v (j 31), .v (j 32), .v (.bool x33), .v (j 34), .v (j 35), .v (j 36), .v (j 37), .v (j 38), .v (j 39), .v (j 40), .v (j 41), .v (j 42), .v (j 43)] [] h

theorem f79_2_in {w0 : World} {K : Value → AH → Prop} (x3 : Bool) (ab0_0 : Option Go.Addr) (nb0_0 : Nat) (cb0_0 : Nat) (xb0_1 : Bool) (xb0_2 : Int) (ab0_3 : Option Go.Addr) (nb0_3 : Nat) (cb0_3 : Nat) (h : AH)
  (hv : (brB x3 (K (Go.Value.int .i64 (1 : Int)) h) (brB (decide (((512 : Int) < ((nb0_0 : Nat) : Int)))) (f79_4 w0 K true h) (f79_4 w0 K (decide (((2048 : Int) < ((nb0_3 : Nat) : Int)))) h)))) :
  f79_2 w0 K x3 ab0_0 nb0_0 cb0_0 xb0_1 xb0_2 ab0_3 nb0_3 cb0_3 h := fun j => LP_intro (P := Go.Proofs.Try.prog) (Eq.mp (by kernel_rfl) hv)

theorem f79_4_in {w0 : World} {K : Value → AH → Prop} (x33 : Bool) (h : AH)
  (hv : (brB x33 (K (Go.Value.int .i64 (2 : Int)) h) (K (Go.Value.int .i64 (0 : Int)) h))) :
  f79_4 w0 K x33 h := fun j => LP_intro (P := Go.Proofs.Try.prog) (Eq.mp (by kernel_rfl) hv)

theorem f79_go {w0 : World} {K : Value → AH → Prop} (a0_0 : Option Go.Addr) (n0_0 : Nat) (c0_0 : Nat) (x0_1 : Bool) (x0_2 : Int) (a0_3 : Option Go.Addr) (n0_3 : Nat) (c0_3 : Nat) (h : AH)
  (hv : (brB (((n0_0 : Nat) : Int) == (0 : Int)) (f79_2 w0 K true a0_0 n0_0 c0_0 x0_1 x0_2 a0_3 n0_3 c0_3 h) (brB (decide ((x0_2 < (0 : Int)))) (f79_2 w0 K true a0_0 n0_0 c0_0 x0_1 x0_2 a0_3 n0_3 c0_3 h) (brB (decide (((4611686018427387904 : Int) < x0_2))) (f79_2 w0 K true a0_0 n0_0 c0_0 x0_1 x0_2 a0_3 n0_3 c0_3 h) (brB x0_1 (brB (x0_2 != (0 : Int)) (f79_2 w0 K true a0_0 n0_0 c0_0 x0_1 x0_2 a0_3 n0_3 c0_3 h) (f79_2 w0 K (decide (((0 : Int) < ((n0_3 : Nat) : Int)))) a0_0 n0_0 c0_0 x0_1 x0_2 a0_3 n0_3 c0_3 h)) (f79_2 w0 K false a0_0 n0_0 c0_0 x0_1 x0_2 a0_3 n0_3 c0_3 h)))))) :
  EvC Go.Proofs.Try.prog w0 79 ([(.agg #[(.slice a0_0 n0_0 c0_0), (.bool x0_1), (.int .i64 x0_2), (.slice a0_3 n0_3 c0_3)])]).toArray K h := EvC_intro (P := Go.Proofs.Try.prog) f79_J (Eq.mp (by kernel_rfl) hv)
def f64_J : Nat → List Nat × Nat := jOf [(3, [0, 2, 4, 5, 6, 7, 8, 9, 11, 12, 13, 14, 15, 16, 17, 18, 19, 20, 21, 22, 23, 24, 25, 26, 27, 28, 29, 30, 31, 32, 33, 34, 35, 36, 37, 38, 39, 40, 41], 1), (5, [0, 2, 3, 4, 5, 6, 7, 8, 9, 10, 11, 12, 13, 14, 15, 16, 18, 19, 20, 21, 22, 23, 24, 25, 26, 27, 28, 29, 30, 31, 32, 33, 34, 35, 36, 37, 38, 39, 40, 41], 1), (6, [0, 2, 3, 4, 5, 6, 7, 8, 9, 10, 11, 12, 13, 14, 15, 16, 17, 18, 19, 20, 21, 22, 23, 24, 25, 26, 27, 28, 29, 30, 31, 32, 33, 34, 35, 36, 37, 38, 39, 40, 41], 1), (8, [0, 1, 2, 3, 5, 6, 7, 8, 9, 10, 11, 12, 13, 14, 15, 16, 17, 18, 19, 20, 21, 22, 23, 24, 25, 26, 27, 28, 29, 33, 34, 35, 36, 37, 38, 39, 40, 41], 0), (10000, [0, 1, 2, 3, 5, 6, 7, 8, 9, 10, 11, 12, 13, 14, 15, 16, 17, 18, 19, 20, 21, 22, 23, 24, 25, 26, 27, 28, 29, 30, 31, 32, 33, 34, 35, 36, 37, 38, 39, 40, 41], 0)]

def f64_3 (w0 : World) (K : Value → AH → Prop) (x3 : Int) (x10 : Bool) (xb0_0 : Int) (ab0_1 : Option Go.Addr) (nb0_1 : Nat) (cb0_1 : Nat) (h : AH) : Prop :=
  ∀ j : Nat → Value, LPk Go.Proofs.Try.prog w0 (EvC Go.Proofs.Try.prog w0) f64_J 64 K 3 [.v (j 0), .bp 0 0, .v (j 2), .v (.int .i64 x3), .v (j 4), .v (j 5), .v (j 6), .v (j 7), .v (j 8), .v (j 9), .v (.bool x10), .v (j 11), .v (j 12), .v (j 13), .v (j 14), .v (j 15), .v (j 16), .v (j 17), .v (j 18), .v (j 19), .v (j 20), .v (j 21), .v (j 22), .v (j 23), .v (j 24), .v (j 25), .v (j 26), .v (j 27), .v (j 28), .v (j 29), .v (j 30), .v (j 31), .v (j 32), .v (j 33), .v (j 34), .v (j 35), .v (j 36), .v (j 37), .v (j 38), .v (j 39), .v (j 40), .v (j 41)] [some [(.int .i64 xb0_0), (.slice ab0_1 nb0_1 cb0_1)]] h

def f64_5 (w0 : World) (K : Value → AH → Prop) (x17 : Bool) (xb0_0 : Int) (ab0_1 : Option Go.Addr) (nb0_1 : Nat) (cb0_1 : Nat) (h : AH) : Prop :=
  ∀ j : Nat → Value, LPk Go.Proofs.Try.prog w0 (EvC Go.Proofs.Try.prog w0) f64_J 64 K 5 [.v (j 0), .bp 0 0, .v (j 2), .v (j 3), .v (j 4), .v (j 5), .v (j 6), .v (j 7), .v (j 8), .v (j 9), .v (j 10), .v (j 11), .v (j 12), .v (j 13), .v (j 14), .v (j 15), .v (j 16), .v (.bool x17), .v (j 18), .v (j 19), .v (j 20), .v (j 21), .v (j 22), .v (j 23), .v (j 24), .v (j 25), .v (j 26), .v (j 27), .v (j 28), .v (j 29), .v (j 30), .v (j 31), .v (j 32), .v (j 33), .v (j 34), .v (j 35), .v (j 36), .v (j 37), .v (j 38), .v (j 39), .v (j 40), .v (j 41)] [some [(.int .i64 xb0_0), (.slice ab0_1 nb0_1 cb0_1)]] h

def f64_6 (w0 : World) (K : Value → AH → Prop) (xb0_0 : Int) (ab0_1 : Option Go.Addr) (nb0_1 : Nat) (cb0_1 : Nat) (h : AH) : Prop :=
  ∀ j : Nat → Value, LPk Go.Proofs.Try.prog w0 (EvC Go.Proofs.Try.prog w0) f64_J 64 K 6 [.v (j 0), .bp 0 0, .v (j 2), .v (j 3), .v (j 4), .v (j 5), .v (j 6), .v (j 7), .v (j 8), .v (j 9), .v (j 10), .v (j 11), .v (j 12), .v (j 13), .v (j 14), .v (j 15), .v (j 16), .v (j 17), .v (j 18), .v (j 19), .v (j 20), .v (j 21), .v (j 22), .v (j 23), .v (j 24), .v (j 25), .v (j 26), .v (j 27), .v (j 28), .v (j 29), .v (j 30), .v (j 31), .v (j 32), .v (j 33), .v (j 34), .v (j 35), .v (j 36), .v (j 37), .v (j 38), .v (j 39), .v (j 40), .v (j 41)] [some [(.int .i64 xb0_0), (.slice ab0_1 nb0_1 cb0_1)]] h

def f64_8 (w0 : World) (K : Value → AH → Prop) (x4 : Int) (a30 : Option Go.Addr) (n30 : Nat) (c30 : Nat) (x31 : Int) (x32 : Int) (h : AH) : Prop :=
  ∀ j : Nat → Value, LPk Go.Proofs.Try.prog w0 (EvC Go.Proofs.Try.prog w0) f64_J 64 K 8 [.v (j 0), .v (j 1), .v (j 2), .v (j 3), .v (.int .i64 x4), .v (j 5), .v (j 6), .v (j 7), .v (j 8), .v (j 9), .v (j 10), .v (j 11), .v (j 12), .v (j 13), .v (j 14), .v (j 15), .v (j 16), .v (j 17), .v (j 18), .v (j 19), .v (j 20), .v (j 21), .v (j 22), .v (j 23), .v (j 24), .v (j 25), .v (j 26), .v (j 27), .v (j 28), .v (j 29), .v (.slice a30 n30 c30), .v (.int .i64 x31), .v (.int .i64 x32), .v (j 33), .v (j 34), .v (j 35), .v (j 36), .v (j 37), .v (j 38), .v (j 39), .v (j 40), .v (j 41)] [] h

def f64_10000 (w0 : World) (K : Value → AH → Prop) (x4 : Int) (h : AH) : Prop :=
  ∀ j : Nat → Value, LPk Go.Proofs.Try.prog w0 (EvC Go.Proofs.Try.prog w0) f64_J 64 K 10000 [.v (j 0), .v (j 1), .v (j 2), .v (j 3), .v (.int .i64 x4), .v (j 5), .v (j 6), .v (j 7), .v (j 8), .v (j 9), .v (j 10), .v (j 11), .v (j 12), .v (j 13), .v (j 14), .v (j 15), .v (j 16), .v (j 17), .v (j 18), .v (j 19), .v (j 20), .v (j 21), .v (j 22), .v (j 23), .v (j 24), .v (j 25), .v (j 26), .v (j 27), .v (j 28), .v (j 29), .v (j 30), .v (j 31), .v (j 32), .v (j 33), .v (j 34), .v (j 35), .v (j 36), .v (j 37), .v (j 38), .v (j 39), .v (j 40), .v (j 41)] [] h

theorem f64_3_in {w0 : World} {K : Value → AH → Prop} (x3 : Int) (x10 : Bool) (xb0_0 : Int) (ab0_1 : Option Go.Addr) (nb0_1 : Nat) (cb0_1 : Nat) (h : AH)
  (hv : (brB x10 (K (Go.Value.int .i64 (13 : Int)) h) (brB (decide ((xb0_0 < (1 : Int)))) (f64_5 w0 K true xb0_0 ab0_1 nb0_1 cb0_1 h) (f64_5 w0 K (decide (((Go.IntKind.wrap .i64 ((Go.IntKind.wrap .i64 ((4611686018427387904 : Int) - x3)) + (1 : Int))) < xb0_0))) xb0_0 ab0_1 nb0_1 cb0_1 h)))) :
  f64_3 w0 K x3 x10 xb0_0 ab0_1 nb0_1 cb0_1 h := fun j => LP_intro (P := Go.Proofs.Try.prog) (Eq.mp (by kernel_rfl) hv)

theorem f64_5_in {w0 : World} {K : Value → AH → Prop} (x17 : Bool) (xb0_0 : Int) (ab0_1 : Option Go.Addr) (nb0_1 : Nat) (cb0_1 : Nat) (h : AH)
  (hv : (brB x17 (K (Go.Value.int .i64 (1 : Int)) h) (f64_6 w0 K xb0_0 ab0_1 nb0_1 cb0_1 h))) :
  f64_5 w0 K x17 xb0_0 ab0_1 nb0_1 cb0_1 h := fun j => LP_intro (P := Go.Proofs.Try.prog) (Eq.mp (by kernel_rfl) hv)

theorem f64_6_in {w0 : World} {K : Value → AH → Prop} (xb0_0 : Int) (ab0_1 : Option Go.Addr) (nb0_1 : Nat) (cb0_1 : Nat) (h : AH)
  (hv : (f64_8 w0 K (0 : Int) ab0_1 nb0_1 cb0_1 ((nb0_1 : Nat) : Int) (0 : Int) h)) :
  f64_6 w0 K xb0_0 ab0_1 nb0_1 cb0_1 h := fun j => LP_intro (P := Go.Proofs.Try.prog) (Eq.mp (by kernel_rfl) hv)

theorem f64_8_in {w0 : World} {K : Value → AH → Prop} (x4 : Int) (a30 : Option Go.Addr) (n30 : Nat) (c30 : Nat) (x31 : Int) (x32 : Int) (h : AH)
  (hv : (brB (decide ((x32 < x31))) (∃ a'0 : Go.Addr, ((a30 = (some a'0)) ∧ (((0 : Int) ≤ x32) ∧ ((x32 < ((n30 : Nat) : Int)) ∧ (∃ p'1 : Option Go.Addr, (∃ n'2 : Nat, (∃ n'3 : Nat, (∃ t'4 : Bool, (∃ i'5 : Int, (∃ p'6 : Option Go.Addr, (∃ n'7 : Nat, (∃ n'8 : Nat, ((((Array.size #[(Go.Value.slice p'1 n'2 n'3), (Go.Value.bool t'4), (Go.Value.int .i64 i'5), (Go.Value.slice p'6 n'7 n'8)]) = 4) ∧ (At w0 h (Go.Addr.add a'0 ((Int.toNat x32) * 4)) [(Go.Value.slice p'1 n'2 n'3), (Go.Value.bool t'4), (Go.Value.int .i64 i'5), (Go.Value.slice p'6 n'7 n'8)])) ∧ (EvC Go.Proofs.Try.prog w0 79 #[(Go.Value.agg #[(Go.Value.slice p'1 n'2 n'3), (Go.Value.bool t'4), (Go.Value.int .i64 i'5), (Go.Value.slice p'6 n'7 n'8)])] (fun x'9 h'10 => (∃ i'11 : Int, ((x'9 = (Go.Value.int .i64 i'11)) ∧ (brB (i'11 != (0 : Int)) (f64_10000 w0 K i'11 h'10) (f64_8 w0 K i'11 a30 n30 c30 x31 (Go.IntKind.wrap .i64 (x32 + (1 : Int))) h'10))))) h)))))))))))))) (K (Go.Value.int .i64 x4) h))) :
  f64_8 w0 K x4 a30 n30 c30 x31 x32 h := fun j => LP_intro (P := Go.Proofs.Try.prog) (Eq.mp (by kernel_rfl) hv)

theorem f64_10000_in {w0 : World} {K : Value → AH → Prop} (x4 : Int) (h : AH)
  (hv : (K (Go.Value.int .i64 x4) h)) :
  f64_10000 w0 K x4 h := fun j => LP_intro (P := Go.Proofs.Try.prog) (Eq.mp (by kernel_rfl) hv)

theorem f64_go {w0 : World} {K : Value → AH → Prop} (x0_0 : Int) (a0_1 : Option Go.Addr) (n0_1 : Nat) (c0_1 : Nat) (h : AH)
  (hv : (brB (((n0_1 : Nat) : Int) == (0 : Int)) (f64_3 w0 K ((n0_1 : Nat) : Int) true x0_0 a0_1 n0_1 c0_1 h) (f64_3 w0 K ((n0_1 : Nat) : Int) (decide (((400 : Int) < ((n0_1 : Nat) : Int)))) x0_0 a0_1 n0_1 c0_1 h))) :
  EvC Go.Proofs.Try.prog w0 64 ([(.agg #[(.int .i64 x0_0), (.slice a0_1 n0_1 c0_1)])]).toArray K h := EvC_intro (P := Go.Proofs.Try.prog) f64_J (Eq.mp (by kernel_rfl) hv)
def f34_J : Nat → List Nat × Nat := jOf [(7, [0, 1, 2, 3, 4, 6, 7, 8, 9, 10, 11, 12, 13, 14, 15, 16, 17, 18, 19, 20, 21, 22, 23, 27, 28, 29, 30, 31, 32, 33, 34, 35, 36, 37, 38, 39, 40, 41, 42, 43, 44, 45, 46, 47, 48, 49, 50, 51, 52, 53], 0)]

def f34_7 (w0 : World) (K : Value → AH → Prop) (a5 : Option Go.Addr) (n5 : Nat) (c5 : Nat) (a24 : Option Go.Addr) (n24 : Nat) (c24 : Nat) (x25 : Int) (x26 : Int) (h : AH) : Prop :=
  ∀ j : Nat → Value, LPk Go.Proofs.Try.prog w0 (EvC Go.Proofs.Try.prog w0) f34_J 34 K 7 [.v (j 0), .v (j 1), .v (j 2), .v (j 3), .v (j 4), .v (.slice a5 n5 c5), .v (j 6), .v (j 7), .v (j 8), .v (j 9), .v (j 10), .v (j 11), .v (j 12), .v (j 13), .v (j 14), .v (j 15), .v (j 16), .v (j 17), .v (j 18), .v (j 19), .v (j 20), .v (j 21), .v (j 22), .v (j 23), .v (.slice a24 n24 c24), .v (.int .i64 x25), .v (.int .i64 x26), .v (j 27), .v (j 28), .v (j 29), .v (j 30), .v (j 31), .v (j 32), .v (j 33), .v (j 34), .v (j 35), .v (j 36), .v (j 37), .v (j 38), .v (j 39), .v (j 40), .v (j 41), .v (j 42), .v (j 43), .v (j 44), .v (j 45), .v (j 46), .v (j 47), .v (j 48), .v (j 49), .v (j 50), .v (j 51), .v (j 52), .v (j 53)] [] h

theorem f34_7_in {w0 : World} {K : Value → AH → Prop} (a5 : Option Go.Addr) (n5 : Nat) (c5 : Nat) (a24 : Option Go.Addr) (n24 : Nat) (c24 : Nat) (x25 : Int) (x26 : Int) (h : AH)
  (hv : (brB (decide ((x26 < x25))) (∃ a'13 : Go.Addr, ((a24 = (some a'13)) ∧ (((0 : Int) ≤ x26) ∧ ((x26 < ((n24 : Nat) : Int)) ∧ (∃ p'14 : Option Go.Addr, (∃ n'15 : Nat, (∃ n'16 : Nat, (∃ t'17 : Bool, (∃ i'18 : Int, (∃ p'19 : Option Go.Addr, (∃ n'20 : Nat, (∃ n'21 : Nat, ((((Array.size #[(Go.Value.slice p'14 n'15 n'16), (Go.Value.bool t'17), (Go.Value.int .i64 i'18), (Go.Value.slice p'19 n'20 n'21)]) = 4) ∧ (At w0 h (Go.Addr.add a'13 ((Int.toNat x26) * 4)) [(Go.Value.slice p'14 n'15 n'16), (Go.Value.bool t'17), (Go.Value.int .i64 i'18), (Go.Value.slice p'19 n'20 n'21)])) ∧ (brB t'17 (App w0 h 1 1 a5 n5 c5 1 [(Go.Value.int .u8 (1 : Int))] (fun a'22 c'23 h'24 => (EvC Go.Proofs.Try.prog w0 66 #[(Go.Value.slice a'22 (n5 + 1) c'23), (Go.Value.slice p'14 n'15 n'16)] (fun x'25 h'26 => (∃ p'27 : Option Go.Addr, (∃ n'28 : Nat, (∃ n'29 : Nat, ((x'25 = (Go.Value.slice p'27 n'28 n'29)) ∧ (f34_7 w0 K p'27 n'28 n'29 a24 n24 c24 x25 (Go.IntKind.wrap .i64 (x26 + (1 : Int))) h'26)))))) h'24))) (App w0 h 1 1 a5 n5 c5 1 [(Go.Value.int .u8 (0 : Int))] (fun a'30 c'31 h'32 => (EvC Go.Proofs.Try.prog w0 66 #[(Go.Value.slice a'30 (n5 + 1) c'31), (Go.Value.slice p'14 n'15 n'16)] (fun x'33 h'34 => (∃ p'35 : Option Go.Addr, (∃ n'36 : Nat, (∃ n'37 : Nat, ((x'33 = (Go.Value.slice p'35 n'36 n'37)) ∧ (EvC Go.Proofs.Try.prog w0 65 #[(Go.Value.slice p'35 n'36 n'37), (Go.Value.int .u64 (Go.IntKind.wrap .u64 i'18))] (fun x'38 h'39 => (∃ p'40 : Option Go.Addr, (∃ n'41 : Nat, (∃ n'42 : Nat, ((x'38 = (Go.Value.slice p'40 n'41 n'42)) ∧ (EvC Go.Proofs.Try.prog w0 66 #[(Go.Value.slice p'40 n'41 n'42), (Go.Value.slice p'19 n'20 n'21)] (fun x'43 h'44 => (∃ p'45 : Option Go.Addr, (∃ n'46 : Nat, (∃ n'47 : Nat, ((x'43 = (Go.Value.slice p'45 n'46 n'47)) ∧ (f34_7 w0 K p'45 n'46 n'47 a24 n24 c24 x25 (Go.IntKind.wrap .i64 (x26 + (1 : Int))) h'44)))))) h'39)))))) h'34)))))) h'32))))))))))))))))) (K (Go.Value.tuple #[(Go.Value.slice a5 n5 c5), (Go.Value.int .i64 (0 : Int))]) h))) :
  f34_7 w0 K a5 n5 c5 a24 n24 c24 x25 x26 h := fun j => LP_intro (P := Go.Proofs.Try.prog) (Eq.mp (by kernel_rfl) hv)

theorem f34_go {w0 : World} {K : Value → AH → Prop} (x0_0 : Int) (a0_1 : Option Go.Addr) (n0_1 : Nat) (c0_1 : Nat) (h : AH)
  (hv : (EvC Go.Proofs.Try.prog w0 64 #[(Go.Value.agg #[(Go.Value.int .i64 x0_0), (Go.Value.slice a0_1 n0_1 c0_1)])] (fun x'0 h'1 => (∃ i'2 : Int, ((x'0 = (Go.Value.int .i64 i'2)) ∧ (brB (i'2 != (0 : Int)) (K (Go.Value.tuple #[(Go.Value.slice none 0 0), (Go.Value.int .i64 i'2)]) h'1) (EvC Go.Proofs.Try.prog w0 65 #[(Go.Value.slice none 0 0), (Go.Value.int .u64 (Go.IntKind.wrap .u64 x0_0))] (fun x'3 h'4 => (∃ p'5 : Option Go.Addr, (∃ n'6 : Nat, (∃ n'7 : Nat, ((x'3 = (Go.Value.slice p'5 n'6 n'7)) ∧ (EvC Go.Proofs.Try.prog w0 65 #[(Go.Value.slice p'5 n'6 n'7), (Go.Value.int .u64 (Go.IntKind.wrap .u64 ((n0_1 : Nat) : Int)))] (fun x'8 h'9 => (∃ p'10 : Option Go.Addr, (∃ n'11 : Nat, (∃ n'12 : Nat, ((x'8 = (Go.Value.slice p'10 n'11 n'12)) ∧ (f34_7 w0 K p'10 n'11 n'12 a0_1 n0_1 c0_1 ((n0_1 : Nat) : Int) (0 : Int) h'9)))))) h'4)))))) h'1))))) h)) :
  EvC Go.Proofs.Try.prog w0 34 ([(.agg #[(.int .i64 x0_0), (.slice a0_1 n0_1 c0_1)])]).toArray K h := EvC_intro (P := Go.Proofs.Try.prog) f34_J (Eq.mp (by kernel_rfl) hv)
/-! ### batches -/
structure Op where
  key : List UInt8
  gone : Bool
  til : Int
  val : List UInt8
def mayO (o : Op) : Int := if o.key.length = 0 ∨ o.til < 0 ∨ 4611686018427387904 < o.til ∨ (o.gone = true ∧ (o.til ≠ 0 ∨ 0 < o.val.length)) then 1 else if 512 < o.key.length ∨ 2048 < o.val.length then 2 else 0
def mayOs : List Op → Int
  | [] => 0
  | o :: r => if mayO o ≠ 0 then mayO o else mayOs r
def mayB (seq : Int) (l : List Op) : Int := if l.length = 0 ∨ 400 < l.length then 13 else if seq < 1 ∨ 4611686018427387904 - (l.length : Int) + 1 < seq then 1 else mayOs l
def encO (o : Op) : List UInt8 := if o.gone then 1 :: (putV o.key.length ++ o.key) else 0 :: (putV o.key.length ++ (o.key ++ (putV o.til.toNat ++ (putV o.val.length ++ o.val))))
def encB (seq : Int) (l : List Op) : List UInt8 := putV seq.toNat ++ (putV l.length ++ l.flatMap encO)

structure OpM where
  ka : Option Addr
  kc : Nat
  va : Option Addr
  vc : Nat
  o : Op
@[reducible] def OpM.cells (m : OpM) : List Value := [.slice m.ka m.o.key.length m.kc, .bool m.o.gone, .int .i64 m.o.til, .slice m.va m.o.val.length m.vc]
@[reducible] def OpM.agg (m : OpM) : Value := .agg #[.slice m.ka m.o.key.length m.kc, .bool m.o.gone, .int .i64 m.o.til, .slice m.va m.o.val.length m.vc]
def opsC (l : List OpM) : List Value := l.flatMap OpM.cells
/-- These operations are readable. -/
structure OpsOk (w0 : World) (h : AH) (a : Option Addr) (l : List OpM) : Prop where
  rd : Rd w0 h a (opsC l)
  ks : ∀ m ∈ l, Rd w0 h m.ka (u8s m.o.key)
  vs : ∀ m ∈ l, Rd w0 h m.va (u8s m.o.val)
theorem flat_get {α : Type} {enc : α → List Value} {k : Nat} (hk : ∀ x, (enc x).length = k) : ∀ {l : List α} {i : Nat} {x : α}, l[i]? = some x → ∀ j y, (enc x)[j]? = some y → (l.flatMap enc)[i * k + j]? = some y
  | [], _, _, h, _, _, _ => by simp at h
  | z :: l, 0, x, h, j, y, hj => by
    simp at h; subst h
    rw [List.flatMap_cons, Nat.zero_mul, Nat.zero_add, List.getElem?_append_left (List.getElem?_eq_some_iff.1 hj).1]
    exact hj
  | z :: l, i + 1, x, h, j, y, hj => by
    have ih := flat_get hk (l := l) (i := i) (by simpa using h) j y hj
    rw [List.flatMap_cons, Nat.add_mul, Nat.one_mul, List.getElem?_append_right (by rw [hk]; omega), hk, show i * k + k + j - k = i * k + j by omega]
    exact ih
theorem flat_len {α : Type} {enc : α → List Value} {k : Nat} (hk : ∀ x, (enc x).length = k) : ∀ l : List α, (l.flatMap enc).length = l.length * k
  | [] => by simp
  | x :: l => by rw [List.flatMap_cons, List.length_append, hk, flat_len hk l, List.length_cons, Nat.add_mul, Nat.one_mul]; omega
/-- A row of a slice is loaded. -/
theorem rowLoad {w0 : World} {h : AH} {α : Type} {enc : α → List Value} {k : Nat} (hk : ∀ x, (enc x).length = k) (hk0 : 0 < k) {a : Option Addr} {l : List α} {i : Nat} {x : α} (hr : Rd w0 h a (l.flatMap enc)) (hi : l[i]? = some x) :
    ∃ ad, a = some ad ∧ At w0 h (Addr.add ad ((Int.toNat ((i : Nat) : Int)) * k)) (enc x) := by
  have hg := flat_get hk hi
  have h0 : ∃ y, (enc x)[0]? = some y := ⟨_, List.getElem?_eq_getElem (by rw [hk]; exact hk0)⟩
  obtain ⟨y0, h0⟩ := h0
  obtain ⟨ad, had, _⟩ := hr (i * k + 0) _ (hg 0 _ h0)
  refine ⟨ad, had, fun j y hj => ?_⟩
  obtain ⟨ad', had', hc⟩ := hr (i * k + j) _ (hg j _ hj)
  rw [had] at had'
  injection had' with had'
  subst had'
  rw [Int.toNat_natCast, Deep.add_add]; exact hc
section
variable {w0 : World} {K : Value → AH → Prop} {h : AH} {B : List (Nat × AB)}
/-- batch.mayOp. -/
theorem f79_spec {m : OpM} (hk : K (.int .i64 (mayO m.o)) h) : EvC Go.Proofs.Try.prog w0 79 #[m.agg] K h := by
  unfold mayO at hk
  have two : ∀ x : Bool, (x = true ↔ (m.o.key.length = 0 ∨ m.o.til < 0 ∨ 4611686018427387904 < m.o.til ∨ (m.o.gone = true ∧ (m.o.til ≠ 0 ∨ 0 < m.o.val.length)))) → f79_2 w0 K x m.ka m.o.key.length m.kc m.o.gone m.o.til m.va m.o.val.length m.vc h := fun x hx => by
    refine f79_2_in _ _ _ _ _ _ _ _ _ _ (brB_of (fun q => ?_) fun q => ?_)
    · rw [if_pos (hx.1 q)] at hk; exact hk
    · rw [if_neg (fun y => by rw [hx.2 y] at q; cases q)] at hk
      have four : ∀ y : Bool, (y = true ↔ (512 < m.o.key.length ∨ 2048 < m.o.val.length)) → f79_4 w0 K y h := fun y hy => f79_4_in _ _ (brB_of (fun q => by rw [if_pos (hy.1 q)] at hk; exact hk) fun q => by rw [if_neg (fun z => by rw [hy.2 z] at q; cases q)] at hk; exact hk)
      refine brB_of (fun q1 => four _ ?_) fun q1 => four _ ?_
      · have := of_decide_eq_true q1; simp; omega
      · have := of_decide_eq_false q1; simp; omega
  refine f79_go _ _ _ _ _ _ _ _ _ (brB_of (fun q => two _ ?_) fun q => brB_of (fun q1 => two _ ?_) fun q1 => brB_of (fun q2 => two _ ?_) fun q2 => brB_of (fun q3 => brB_of (fun q4 => two _ ?_) fun q4 => two _ ?_) fun q3 => two _ ?_)
  · have : m.o.key.length = 0 := by simpa using q
    simp [this]
  · have := of_decide_eq_true q1; simp [this]
  · have := of_decide_eq_true q2; simp [this]
  · have : m.o.til ≠ 0 := by simpa using q4
    simp [this, q3]
  · have h0 : ¬ m.o.key.length = 0 := by simpa using q
    have h1 := of_decide_eq_false q1
    have h2 := of_decide_eq_false q2
    have h4 : m.o.til = 0 := by simpa using q4
    simp [q3, h4]; intro h; simp [h] at h0
  · have h0 : ¬ m.o.key.length = 0 := by simpa using q
    have h1 := of_decide_eq_false q1
    have h2 := of_decide_eq_false q2
    simp [q3]; refine ⟨fun h => by simp [h] at h0, by omega, by omega⟩
/-- batch.May. -/
theorem f64_spec {seq : Int} {a : Option Addr} {c : Nat} {l : List OpM} (hr : Rd w0 h a (opsC l)) (hk : K (.int .i64 (mayB seq (l.map OpM.o))) h) : EvC Go.Proofs.Try.prog w0 64 #[.agg #[.int .i64 seq, .slice a l.length c]] K h := by
  unfold mayB at hk
  rw [List.length_map] at hk
  have three : ∀ x : Bool, (x = true ↔ (l.length = 0 ∨ 400 < l.length)) → f64_3 w0 K ((l.length : Nat) : Int) x seq a l.length c h := fun x hx => by
    refine f64_3_in _ _ _ _ _ _ _ (brB_of (fun q => ?_) fun q => ?_)
    · rw [if_pos (hx.1 q)] at hk; exact hk
    have hn : ¬ (l.length = 0 ∨ 400 < l.length) := fun y => by rw [hx.2 y] at q; cases q
    rw [if_neg hn] at hk
    have five : ∀ y : Bool, (y = true ↔ (seq < 1 ∨ 4611686018427387904 - (l.length : Int) + 1 < seq)) → f64_5 w0 K y seq a l.length c h := fun y hy => by
      refine f64_5_in _ _ _ _ _ _ (brB_of (fun q => ?_) fun q => ?_)
      · rw [if_pos (hy.1 q)] at hk; exact hk
      rw [if_neg (fun z => by rw [hy.2 z] at q; cases q)] at hk
      have loop : ∀ (rest : List OpM) (i : Nat), l.drop i = rest → i ≤ l.length → K (.int .i64 (mayOs (rest.map OpM.o))) h → f64_8 w0 K (0 : Int) a l.length c ((l.length : Nat) : Int) ((i : Nat) : Int) h := by
        intro rest
        induction rest with
        | nil =>
          intro i hd hi hk
          have := drop_done hd
          exact f64_8_in _ _ _ _ _ _ _ (brB_of (fun q => by simp at q; omega) fun _ => hk)
        | cons m r ih =>
          intro i hd hi hk
          obtain ⟨hget, hd', hlt⟩ := drop_step hd
          obtain ⟨ad, had, hat⟩ := rowLoad (enc := OpM.cells) (k := 4) (fun _ => rfl) (by decide) hr hget
          refine f64_8_in _ _ _ _ _ _ _ (brB_of (fun _ => ⟨ad, had, by omega, by omega, _, _, _, _, _, _, _, _, ⟨rfl, hat⟩, f79_spec ⟨_, rfl, brB_of (fun q => f64_10000_in _ _ ?_) fun q => ?_⟩⟩) fun q => by simp at q; omega)
          · have q' : mayO m.o ≠ 0 := by simpa using q
            rw [List.map_cons] at hk
            unfold mayOs at hk
            rw [if_pos q'] at hk; exact hk
          · have q' : mayO m.o = 0 := by simpa using q
            rw [q', wrapS (by omega)]
            refine ih (i + 1) hd' (by omega) ?_
            rw [List.map_cons] at hk
            unfold mayOs at hk
            rw [if_neg (by rw [q']; simp)] at hk; exact hk
      exact f64_6_in _ _ _ _ _ (loop l 0 rfl (Nat.zero_le _) hk)
    refine brB_of (fun q1 => five _ ?_) fun q1 => five _ ?_
    · have := of_decide_eq_true q1; simp [this]
    · have := of_decide_eq_false q1
      rw [wrap64 (x := (4611686018427387904 : Int) - ((l.length : Nat) : Int)) (by omega) (by omega), wrap64 (by omega) (by omega)]
      simp; omega
  refine f64_go _ _ _ _ _ (brB_of (fun q => three _ ?_) fun q => three _ ?_)
  · have : l.length = 0 := by simpa using q
    simp [this]
  · have : ¬ l.length = 0 := by simpa using q
    rw [decide_eq_true_eq]; omega
theorem mayOs_all : ∀ {l : List Op}, mayOs l = 0 → ∀ o ∈ l, mayO o = 0
  | [], _, o, ho => by cases ho
  | x :: r, h, o, ho => by
    unfold mayOs at h
    split at h
    · rename_i q; exact absurd h q
    · rename_i q
      rcases List.mem_cons.1 ho with rfl | ho
      · simpa using q
      · exact mayOs_all h o ho
theorem mayB_zero {seq : Int} {l : List Op} (h : mayB seq l = 0) : 1 ≤ l.length ∧ l.length ≤ 400 ∧ 1 ≤ seq ∧ seq ≤ 4611686018427387904 - (l.length : Int) + 1 ∧ ∀ o ∈ l, mayO o = 0 := by
  unfold mayB at h
  split at h
  · cases h
  rename_i q
  split at h
  · cases h
  rename_i q1
  exact ⟨by omega, by omega, by omega, by omega, mayOs_all h⟩
theorem mayO_zero {o : Op} (h : mayO o = 0) : 1 ≤ o.key.length ∧ o.key.length ≤ 512 ∧ o.val.length ≤ 2048 ∧ 0 ≤ o.til ∧ o.til ≤ 4611686018427387904 ∧ (o.gone = true → o.til = 0 ∧ o.val = []) := by
  unfold mayO at h
  split at h
  · cases h
  rename_i q
  split at h
  · cases h
  rename_i q1
  refine ⟨by omega, by omega, by omega, by omega, by omega, fun hg => ?_⟩
  have : ¬ (o.til ≠ 0 ∨ 0 < o.val.length) := fun z => q (.inr (.inr (.inr ⟨hg, z⟩)))
  exact ⟨by omega, List.length_eq_zero_iff.1 (by omega)⟩
theorem encO_len {o : Op} (h : mayO o = 0) : (encO o).length ≤ 3000 := by
  obtain ⟨h1, h2, h3, h4, h5, _⟩ := mayO_zero h
  have p1 := putV_len10 (n := o.key.length) (by omega)
  have p2 := putV_len10 (n := o.til.toNat) (by omega)
  have p3 := putV_len10 (n := o.val.length) (by omega)
  unfold encO
  split <;> simp only [List.length_cons, List.length_append] <;> omega
theorem encOs_len : ∀ {l : List Op}, (∀ o ∈ l, mayO o = 0) → (l.flatMap encO).length ≤ 3000 * l.length
  | [], _ => by simp
  | o :: r, h => by
    have h1 := encO_len (h o (List.mem_cons_self ..))
    have h2 := encOs_len (l := r) fun x hx => h x (List.mem_cons_of_mem _ hx)
    rw [List.flatMap_cons, List.length_append, List.length_cons]; omega
theorem encB_len {seq : Int} {l : List Op} (h : mayB seq l = 0) : (encB seq l).length ≤ 1200020 := by
  obtain ⟨h1, h2, h3, h4, h5⟩ := mayB_zero h
  have p1 := putV_len10 (n := seq.toNat) (by omega)
  have p2 := putV_len10 (n := l.length) (by omega)
  have p3 := encOs_len h5
  unfold encB
  rw [List.length_append, List.length_append]; omega
/-- batch.Encode. -/
theorem f34_spec {seq : Int} {a : Option Addr} {c : Nat} {l : List OpM} (w : Own w0 h B) (hO : ∀ h', Own w0 h' B → OpsOk w0 h' a l)
    (hk0 : mayB seq (l.map OpM.o) ≠ 0 → K (.tuple #[.slice none 0 0, .int .i64 (mayB seq (l.map OpM.o))]) h)
    (hk : ∀ h' a' c', mayB seq (l.map OpM.o) = 0 → SlV 1 a' (encB seq (l.map OpM.o)).length c' (u8s (encB seq (l.map OpM.o))) → Own w0 h' (slB a' (u8s (encB seq (l.map OpM.o))) (c' * 1) ++ B) → K (.tuple #[.slice a' (encB seq (l.map OpM.o)).length c', .int .i64 0]) h') :
    EvC Go.Proofs.Try.prog w0 34 #[.agg #[.int .i64 seq, .slice a l.length c]] K h := by
  refine f34_go _ _ _ _ _ (f64_spec (hO h w).rd ⟨_, rfl, brB_of (fun q => hk0 (by simpa using q)) fun q => ?_⟩)
  have q0 : mayB seq (l.map OpM.o) = 0 := by simpa using q
  obtain ⟨g1, g2, g3, g4, g5⟩ := mayB_zero q0
  rw [List.length_map] at g1 g2 g4
  have p1 := putV_len10 (n := seq.toNat) (by omega)
  have p2 := putV_len10 (n := l.length) (by omega)
  rw [wrap64u (by omega) (by omega), show seq = ((seq.toNat : Nat) : Int) by omega]
  refine f65_spec (l := []) w (fun j x hj => by simp [u8s] at hj) (by simp) (by omega) fun h1 a1 c1 v1 w1 => ⟨_, _, _, rfl, ?_⟩
  rw [List.nil_append] at v1 w1 ⊢
  rw [wrap64u (by omega) (by omega)]
  refine f65_spec w1 (v1.rd (cs := []) w1) (by omega) (by omega) fun h2 a2 c2 v2 w2 => ⟨_, _, _, rfl, ?_⟩
  have w2' := w2.cut
  have loop : ∀ (rest : List OpM) (i : Nat) (out : List UInt8) (a3 : Option Addr) (c3 : Nat) (h3 : AH), l.drop i = rest → i ≤ l.length → out.length ≤ 20 + 3000 * i → encB seq (l.map OpM.o) = out ++ (rest.map OpM.o).flatMap encO → SlV 1 a3 out.length c3 (u8s out) → Own w0 h3 (slB a3 (u8s out) (c3 * 1) ++ B) →
      f34_7 w0 K a3 out.length c3 a l.length c ((l.length : Nat) : Int) ((i : Nat) : Int) h3 := by
    intro rest
    induction rest with
    | nil =>
      intro i out a3 c3 h3 hd hi ho he v w
      have := drop_done hd
      have e : encB seq (l.map OpM.o) = out := by rw [he]; simp
      refine f34_7_in _ _ _ _ _ _ _ _ _ (brB_of (fun q => by simp at q; omega) fun _ => ?_)
      have := hk h3 a3 c3 q0 (by rw [e]; exact v) (by rw [e]; exact w)
      rw [e] at this; exact this
    | cons m r ih =>
      intro i out a3 c3 h3 hd hi ho he v w
      obtain ⟨hget, hd', hlt⟩ := drop_step hd
      have hm := List.mem_of_getElem? hget
      have ok := hO h3 w.drop
      have mo := g5 m.o (List.mem_map.2 ⟨m, hm, rfl⟩)
      obtain ⟨k1, k2, k3, k4, k5, k6⟩ := mayO_zero mo
      have hel := encO_len mo
      obtain ⟨ad, had, hat⟩ := rowLoad (enc := OpM.cells) (k := 4) (fun _ => rfl) (by decide) ok.rd hget
      have hkr : ∀ h', Own w0 h' B → Rd w0 h' m.ka (u8s m.o.key) := fun h' w' => (hO h' w').ks m hm
      have hvr : ∀ h', Own w0 h' B → Rd w0 h' m.va (u8s m.o.val) := fun h' w' => (hO h' w').vs m hm
      have hil : i < 400 := by omega
      have q1 := putV_len10 (n := m.o.key.length) (by omega)
      have q2 := putV_len10 (n := m.o.til.toNat) (by omega)
      have fin : ∀ out' a4 c4 h4, out' = out ++ encO m.o → SlV 1 a4 out'.length c4 (u8s out') → Own w0 h4 (slB a4 (u8s out') (c4 * 1) ++ B) → f34_7 w0 K a4 out'.length c4 a l.length c ((l.length : Nat) : Int) (IntKind.i64.wrap (((i : Nat) : Int) + 1)) h4 := fun out' a4 c4 h4 e v4 w4 => by
        rw [wrapS (by omega)]
        refine ih (i + 1) out' a4 c4 h4 hd' (by omega) (by rw [e, List.length_append]; omega) ?_ v4 w4
        rw [he, e]; simp
      refine f34_7_in _ _ _ _ _ _ _ _ _ (brB_of (fun _ => ⟨ad, had, by omega, by omega, _, _, _, _, _, _, _, _, ⟨rfl, hat⟩, brB_of (fun qg => ?_) fun qg => ?_⟩) fun q => by simp at q; omega)
      · refine App_byte (m := 1) v w (by omega) (by decide) fun a4 c4 h4 v4 w4 => ?_
        rw [show out.length + 1 = (out ++ [UInt8.ofNat 1]).length by simp]
        refine f66_spec w4 (v4.rd (cs := []) w4) (fun h' w' => hkr h' w'.drop) (by simp; omega) (by omega) fun h5 a5 c5 v5 w5 => ⟨_, _, _, rfl, ?_⟩
        exact fin _ a5 c5 h5 (by unfold encO; rw [if_pos qg, List.append_assoc]; rfl) v5 w5.cut
      · refine App_byte (m := 0) v w (by omega) (by decide) fun a4 c4 h4 v4 w4 => ?_
        rw [show out.length + 1 = (out ++ [UInt8.ofNat 0]).length by simp]
        refine f66_spec w4 (v4.rd (cs := []) w4) (fun h' w' => hkr h' w'.drop) (by simp; omega) (by omega) fun h5 a5 c5 v5 w5 => ⟨_, _, _, rfl, ?_⟩
        have w5' := w5.cut
        rw [wrap64u (by omega) (by omega), show m.o.til = ((m.o.til.toNat : Nat) : Int) by omega]
        refine f65_spec w5' (v5.rd (cs := []) w5') (by simp; omega) (by omega) fun h6 a6 c6 v6 w6 => ⟨_, _, _, rfl, ?_⟩
        have w6' := w6.cut
        refine f66_spec w6' (v6.rd (cs := []) w6') (fun h' w' => hvr h' w'.drop) (by simp; omega) (by omega) fun h7 a7 c7 v7 w7 => ⟨_, _, _, rfl, ?_⟩
        exact fin _ a7 c7 h7 (by unfold encO; rw [if_neg (by simp [qg])]; simp only [List.append_assoc, List.singleton_append, List.cons_append]; rfl) v7 w7.cut
  exact loop l 0 _ a2 c2 h2 rfl (Nat.zero_le _) (by rw [List.length_append]; omega) (by rw [encB, List.length_map, List.append_assoc]) v2 w2'
end
end Go.G.Ytlghmjehibikeaa
