/- Take, Read. -/
import Derived.Test.YtlghmjehibikeaaWA
import Derived.Test.YtlghmjehibikeaaProg
set_option maxRecDepth 100000
namespace Go.G.Ytlghmjehibikeaa
open Go.RowKit
def f58_J : Nat → List Nat × Nat := jOf [(2, [1, 2, 3, 4, 6, 7, 8, 9, 10, 11, 12, 13, 14, 15, 16, 17, 18, 19, 20, 21, 22, 23, 24, 25, 26, 27, 28, 29, 30, 31, 32, 33, 34, 35, 36, 37, 38, 39, 40, 41, 42, 43, 44, 45, 46, 47, 48, 49, 50, 51, 52, 53, 54, 55, 56, 57, 58, 59, 60, 61, 62, 63, 64, 65, 66, 67], 0), (4, [1, 2, 3, 4, 6, 7, 8, 9, 10, 11, 12, 13, 14, 15, 16, 17, 18, 19, 20, 21, 22, 23, 24, 25, 26, 27, 28, 29, 30, 31, 32, 33, 34, 35, 36, 37, 38, 39, 40, 41, 42, 43, 44, 45, 46, 47, 48, 49, 50, 51, 52, 53, 54, 55, 56, 57, 58, 59, 60, 61, 62, 63, 64, 65, 66, 67], 0), (7, [1, 2, 3, 4, 6, 7, 8, 9, 10, 11, 12, 13, 14, 15, 16, 17, 18, 19, 20, 21, 22, 23, 24, 25, 27, 28, 29, 30, 31, 32, 33, 34, 35, 36, 37, 38, 39, 40, 41, 42, 43, 44, 45, 46, 47, 48, 49, 50, 51, 52, 53, 54, 55, 56, 57, 58, 59, 60, 61, 62, 63, 64, 65, 66, 67], 0), (8, [1, 2, 3, 4, 6, 7, 8, 9, 10, 11, 12, 13, 14, 15, 16, 17, 18, 19, 20, 21, 22, 23, 24, 25, 26, 27, 28, 29, 30, 31, 32, 33, 34, 35, 36, 37, 38, 39, 40, 41, 42, 43, 44, 45, 46, 47, 48, 49, 50, 51, 52, 53, 54, 55, 56, 57, 58, 59, 60, 61, 62, 63, 64, 65, 66, 67], 0), (10, [1, 2, 3, 4, 8, 9, 10, 11, 12, 13, 14, 15, 16, 17, 18, 19, 20, 21, 22, 23, 24, 25, 26, 27, 28, 29, 30, 31, 32, 33, 34, 35, 36, 37, 38, 39, 40, 41, 42, 43, 44, 45, 46, 47, 48, 49, 50, 51, 52, 53, 54, 55, 56, 57, 58, 59, 60, 61, 62, 63, 64, 65, 66, 67], 0)]

def f58_2 (w0 : World) (K : Value → AH → Prop) (a0 : Option Go.Addr) (n0 : Nat) (c0 : Nat) (x5 : Int) (h : AH) : Prop :=
  ∀ j : Nat → Value, LPk Go.Proofs.Try.prog w0 (EvC Go.Proofs.Try.prog w0) f58_J 58 K 2 [.v (.slice a0 n0 c0), .v (j 1), .v (j 2), .v (j 3), .v (j 4), .v (.int .i64 x5), .v (j 6), .v (j 7), .v (j 8), .v (j 9), .v (j 10), .v (j 11), .v (j 12), .v (j 13), .v (j 14), .v (j 15), .v (j 16), .v (j 17), .v (j 18), .v (j 19), .v (j 20), .v (j 21), .v (j 22), .v (j 23), .v (j 24), .v (j 25), .v (j 26), .v (j 27), .v (j 28), .v (j 29), .v (j 30), .v (j 31), .v (j 32), .v (j 33), .v (j 34), .v (j 35), .v (j 36), .v (j 37), .v (j 38), .v (j 39), .v (j 40), .v (j 41), .v (j 42), .v (j 43), .v (j 44), .v (j 45), .v (j 46), .v (j 47), .v (j 48), .v (j 49), .v (j 50), .v (j 51), .v (j 52), .v (j 53), .v (j 54), .v (j 55), .v (j 56), .v (j 57), .v (j 58), .v (j 59), .v (j 60), .v (j 61), .v (j 62), .v (j 63), .v (j 64), .v (j 65), .v (j 66), .v (j 67)] [] h

def f58_4 (w0 : World) (K : Value → AH → Prop) (a0 : Option Go.Addr) (n0 : Nat) (c0 : Nat) (x5 : Int) (h : AH) : Prop :=
  ∀ j : Nat → Value, LPk Go.Proofs.Try.prog w0 (EvC Go.Proofs.Try.prog w0) f58_J 58 K 4 [.v (.slice a0 n0 c0), .v (j 1), .v (j 2), .v (j 3), .v (j 4), .v (.int .i64 x5), .v (j 6), .v (j 7), .v (j 8), .v (j 9), .v (j 10), .v (j 11), .v (j 12), .v (j 13), .v (j 14), .v (j 15), .v (j 16), .v (j 17), .v (j 18), .v (j 19), .v (j 20), .v (j 21), .v (j 22), .v (j 23), .v (j 24), .v (j 25), .v (j 26), .v (j 27), .v (j 28), .v (j 29), .v (j 30), .v (j 31), .v (j 32), .v (j 33), .v (j 34), .v (j 35), .v (j 36), .v (j 37), .v (j 38), .v (j 39), .v (j 40), .v (j 41), .v (j 42), .v (j 43), .v (j 44), .v (j 45), .v (j 46), .v (j 47), .v (j 48), .v (j 49), .v (j 50), .v (j 51), .v (j 52), .v (j 53), .v (j 54), .v (j 55), .v (j 56), .v (j 57), .v (j 58), .v (j 59), .v (j 60), .v (j 61), .v (j 62), .v (j 63), .v (j 64), .v (j 65), .v (j 66), .v (j 67)] [] h

def f58_7 (w0 : World) (K : Value → AH → Prop) (a0 : Option Go.Addr) (n0 : Nat) (c0 : Nat) (x5 : Int) (x26 : Bool) (h : AH) : Prop :=
  ∀ j : Nat → Value, LPk Go.Proofs.Try.prog w0 (EvC Go.Proofs.Try.prog w0) f58_J 58 K 7 [.v (.slice a0 n0 c0), .v (j 1), .v (j 2), .v (j 3), .v (j 4), .v (.int .i64 x5), .v (j 6), .v (j 7), .v (j 8), .v (j 9), .v (j 10), .v (j 11), .v (j 12), .v (j 13), .v (j 14), .v (j 15), .v (j 16), .v (j 17), .v (j 18), .v (j 19), .v (j 20), .v (j 21), .v (j 22), .v (j 23), .v (j 24), .v (j 25), .v (.bool x26), .v (j 27), .v (j 28), .v (j 29), .v (j 30), .v (j 31), .v (j 32), .v (j 33), .v (j 34), .v (j 35), .v (j 36), .v (j 37), .v (j 38), .v (j 39), .v (j 40), .v (j 41), .v (j 42), .v (j 43), .v (j 44), .v (j 45), .v (j 46), .v (j 47), .v (j 48), .v (j 49), .v (j 50), .v (j 51), .v (j 52), .v (j 53), .v (j 54), .v (j 55), .v (j 56), .v (j 57), .v (j 58), .v (j 59), .v (j 60), .v (j 61), .v (j 62), .v (j 63), .v (j 64), .v (j 65), .v (j 66), .v (j 67)] [] h

def f58_8 (w0 : World) (K : Value → AH → Prop) (a0 : Option Go.Addr) (n0 : Nat) (c0 : Nat) (x5 : Int) (h : AH) : Prop :=
  ∀ j : Nat → Value, LPk Go.Proofs.Try.prog w0 (EvC Go.Proofs.Try.prog w0) f58_J 58 K 8 [.v (.slice a0 n0 c0), .v (j 1), .v (j 2), .v (j 3), .v (j 4), .v (.int .i64 x5), .v (j 6), .v (j 7), .v (j 8), .v (j 9), .v (j 10), .v (j 11), .v (j 12), .v (j 13), .v (j 14), .v (j 15), .v (j 16), .v (j 17), .v (j 18), .v (j 19), .v (j 20), .v (j 21), .v (j 22), .v (j 23), .v (j 24), .v (j 25), .v (j 26), .v (j 27), .v (j 28), .v (j 29), .v (j 30), .v (j 31), .v (j 32), .v (j 33), .v (j 34), .v (j 35), .v (j 36), .v (j 37), .v (j 38), .v (j 39), .v (j 40), .v (j 41), .v (j 42), .v (j 43), .v (j 44), .v (j 45), .v (j 46), .v (j 47), .v (j 48), .v (j 49), .v (j 50), .v (j 51), .v (j 52), .v (j 53), .v (j 54), .v (j 55), .v (j 56), .v (j 57), .v (j 58), .v (j 59), .v (j 60), .v (j 61), .v (j 62), .v (j 63), .v (j 64), .v (j 65), .v (j 66), .v (j 67)] [] h

def f58_10 (w0 : World) (K : Value → AH → Prop) (a0 : Option Go.Addr) (n0 : Nat) (c0 : Nat) (x5 : Int) (x6 : Int) (x7 : Int) (h : AH) : Prop :=
  ∀ j : Nat → Value, LPk Go.Proofs.Try.prog w0 (EvC Go.Proofs.Try.prog w0) f58_J 58 K 10 [.v (.slice a0 n0 c0), .v (j 1), .v (j 2), .v (j 3), .v (j 4), .v (.int .i64 x5), .v (.int .u64 x6), .v (.int .i64 x7), .v (j 8), .v (j 9), .v (j 10), .v (j 11), .v (j 12), .v (j 13), .v (j 14), .v (j 15), .v (j 16), .v (j 17), .v (j 18), .v (j 19), .v (j 20), .v (j 21), .v (j 22), .v (j 23), .v (j 24), .v (j 25), .v (j 26), .v (j 27), .v (j 28), .v (j 29), .v (j 30), .v (j 31), .v (j 32), .v (j 33), .v (j 34), .v (j 35), .v (j 36), .v (j 37), .v (j 38), .v (j 39), .v (j 40), .v (j 41), .v (j 42), .v (j 43), .v (j 44), .v (j 45), .v (j 46), .v (j 47), .v (j 48), .v (j 49), .v (j 50), .v (j 51), .v (j 52), .v (j 53), .v (j 54), .v (j 55), .v (j 56), .v (j 57), .v (j 58), .v (j 59), .v (j 60), .v (j 61), .v (j 62), .v (j 63), .v (j 64), .v (j 65), .v (j 66), .v (j 67)] [] h

theorem f58_2_in {w0 : World} {K : Value → AH → Prop} (a0 : Option Go.Addr) (n0 : Nat) (c0 : Nat) (x5 : Int) (h : AH)
  (hv : (brB (decide ((x5 < ((n0 : Nat) : Int)))) (∃ a'0 : Go.Addr, ((a0 = (some a'0)) ∧ (((0 : Int) ≤ x5) ∧ ((x5 < ((n0 : Nat) : Int)) ∧ (∃ i'1 : Int, (((Go.G.cellA w0 h (Go.Addr.add a'0 ((Int.toNat x5) * 1))) = (some (Go.Value.int .u8 i'1))) ∧ (brB (decide (((128 : Int) ≤ i'1))) (f58_2 w0 K a0 n0 c0 (Go.IntKind.wrap .i64 (x5 + (1 : Int))) h) (f58_4 w0 K a0 n0 c0 x5 h)))))))) (f58_4 w0 K a0 n0 c0 x5 h))) :
  f58_2 w0 K a0 n0 c0 x5 h := fun j => LP_intro (P := Go.Proofs.Try.prog) (Eq.mp (by kernel_rfl) hv)

theorem f58_4_in {w0 : World} {K : Value → AH → Prop} (a0 : Option Go.Addr) (n0 : Nat) (c0 : Nat) (x5 : Int) (h : AH)
  (hv : (brB (x5 == ((n0 : Nat) : Int)) (K (Go.Value.tuple #[(Go.Value.int .u64 (0 : Int)), (Go.Value.int .i64 (0 : Int)), (Go.Value.int .i64 (5 : Int))]) h) (brB (decide (((9 : Int) < x5))) (f58_7 w0 K a0 n0 c0 x5 true h) (brB (x5 == (9 : Int)) (∃ a'2 : Go.Addr, ((a0 = (some a'2)) ∧ (((0 : Int) ≤ x5) ∧ ((x5 < ((n0 : Nat) : Int)) ∧ (∃ i'3 : Int, (((Go.G.cellA w0 h (Go.Addr.add a'2 ((Int.toNat x5) * 1))) = (some (Go.Value.int .u8 i'3))) ∧ (brB (decide (((1 : Int) < i'3))) (f58_7 w0 K a0 n0 c0 x5 true h) (brB (decide (((0 : Int) < x5))) (∃ a'4 : Go.Addr, ((a0 = (some a'4)) ∧ (((0 : Int) ≤ x5) ∧ ((x5 < ((n0 : Nat) : Int)) ∧ (∃ i'5 : Int, (((Go.G.cellA w0 h (Go.Addr.add a'4 ((Int.toNat x5) * 1))) = (some (Go.Value.int .u8 i'5))) ∧ (f58_7 w0 K a0 n0 c0 x5 (i'5 == (0 : Int)) h))))))) (f58_7 w0 K a0 n0 c0 x5 false h))))))))) (brB (decide (((0 : Int) < x5))) (∃ a'6 : Go.Addr, ((a0 = (some a'6)) ∧ (((0 : Int) ≤ x5) ∧ ((x5 < ((n0 : Nat) : Int)) ∧ (∃ i'7 : Int, (((Go.G.cellA w0 h (Go.Addr.add a'6 ((Int.toNat x5) * 1))) = (some (Go.Value.int .u8 i'7))) ∧ (f58_7 w0 K a0 n0 c0 x5 (i'7 == (0 : Int)) h))))))) (f58_7 w0 K a0 n0 c0 x5 false h)))))) :
  f58_4 w0 K a0 n0 c0 x5 h := fun j => LP_intro (P := Go.Proofs.Try.prog) (Eq.mp (by kernel_rfl) hv)

theorem f58_7_in {w0 : World} {K : Value → AH → Prop} (a0 : Option Go.Addr) (n0 : Nat) (c0 : Nat) (x5 : Int) (x26 : Bool) (h : AH)
  (hv : (brB x26 (K (Go.Value.tuple #[(Go.Value.int .u64 (0 : Int)), (Go.Value.int .i64 (0 : Int)), (Go.Value.int .i64 (3 : Int))]) h) (f58_8 w0 K a0 n0 c0 x5 h))) :
  f58_7 w0 K a0 n0 c0 x5 x26 h := fun j => LP_intro (P := Go.Proofs.Try.prog) (Eq.mp (by kernel_rfl) hv)

theorem f58_8_in {w0 : World} {K : Value → AH → Prop} (a0 : Option Go.Addr) (n0 : Nat) (c0 : Nat) (x5 : Int) (h : AH)
  (hv : (f58_10 w0 K a0 n0 c0 x5 (0 : Int) x5 h)) :
  f58_8 w0 K a0 n0 c0 x5 h := fun j => LP_intro (P := Go.Proofs.Try.prog) (Eq.mp (by kernel_rfl) hv)

theorem f58_10_in {w0 : World} {K : Value → AH → Prop} (a0 : Option Go.Addr) (n0 : Nat) (c0 : Nat) (x5 : Int) (x6 : Int) (x7 : Int) (h : AH)
  (hv : (brB (decide (((0 : Int) ≤ x7))) (((0 : Int) ≤ (7 : Int)) ∧ (∃ a'8 : Go.Addr, ((a0 = (some a'8)) ∧ (((0 : Int) ≤ x7) ∧ ((x7 < ((n0 : Nat) : Int)) ∧ (∃ i'9 : Int, (((Go.G.cellA w0 h (Go.Addr.add a'8 ((Int.toNat x7) * 1))) = (some (Go.Value.int .u8 i'9))) ∧ (f58_10 w0 K a0 n0 c0 x5 (Go.IntKind.wrap .u64 (((BitVec.toNat ((BitVec.ofInt 64 (Go.IntKind.wrap .u64 (x6 * (128 : Int)))) ||| (BitVec.ofInt 64 (Go.IntKind.wrap .u64 (Go.IntKind.wrap .u8 (((BitVec.toNat ((BitVec.ofInt 8 i'9) &&& (BitVec.ofInt 8 (127 : Int)))) : Nat) : Int)))))) : Nat) : Int)) (Go.IntKind.wrap .i64 (x7 - (1 : Int))) h)))))))) (K (Go.Value.tuple #[(Go.Value.int .u64 x6), (Go.Value.int .i64 (Go.IntKind.wrap .i64 (x5 + (1 : Int)))), (Go.Value.int .i64 (0 : Int))]) h))) :
  f58_10 w0 K a0 n0 c0 x5 x6 x7 h := fun j => LP_intro (P := Go.Proofs.Try.prog) (Eq.mp (by kernel_rfl) hv)

theorem f58_go {w0 : World} {K : Value → AH → Prop} (a0 : Option Go.Addr) (n0 : Nat) (c0 : Nat) (h : AH)
  (hv : (f58_2 w0 K a0 n0 c0 (0 : Int) h)) :
  EvC Go.Proofs.Try.prog w0 58 ([(.slice a0 n0 c0)]).toArray K h := EvC_intro (P := Go.Proofs.Try.prog) f58_J (Eq.mp (by kernel_rfl) hv)
def f57_J : Nat → List Nat × Nat := jOf [(2, [2, 3, 4, 5, 6, 7, 8, 10, 11, 12, 13, 14, 15, 16, 17, 18, 19, 20, 21, 22, 23, 24, 25, 26, 27, 28, 29, 30, 31, 32, 33, 34, 35], 0), (5, [2, 3, 4, 5, 6, 7, 8, 9, 10, 11, 12, 13, 14, 15, 16, 17, 18, 19, 20, 21, 22, 23, 24, 25, 26, 27, 28, 29, 30, 31, 32, 33, 34, 35], 0), (7, [0, 1, 2, 3, 4, 5, 7, 8, 9, 10, 11, 12, 13, 14, 15, 16, 17, 18, 19, 20, 21, 22, 26, 27, 28, 29, 30, 31, 32, 33, 34, 35], 0)]

def f57_2 (w0 : World) (K : Value → AH → Prop) (a0 : Option Go.Addr) (n0 : Nat) (c0 : Nat) (x1 : Int) (x9 : Bool) (h : AH) : Prop :=
  ∀ j : Nat → Value, LPk Go.Proofs.Try.prog w0 (EvC Go.Proofs.Try.prog w0) f57_J 57 K 2 [.v (.slice a0 n0 c0), .v (.int .i64 x1), .v (j 2), .v (j 3), .v (j 4), .v (j 5), .v (j 6), .v (j 7), .v (j 8), .v (.bool x9), .v (j 10), .v (j 11), .v (j 12), .v (j 13), .v (j 14), .v (j 15), .v (j 16), .v (j 17), .v (j 18), .v (j 19), .v (j 20), .v (j 21), .v (j 22), .v (j 23), .v (j 24), .v (j 25), .v (j 26), .v (j 27), .v (j 28), .v (j 29), .v (j 30), .v (j 31), .v (j 32), .v (j 33), .v (j 34), .v (j 35)] [] h

def f57_5 (w0 : World) (K : Value → AH → Prop) (a0 : Option Go.Addr) (n0 : Nat) (c0 : Nat) (x1 : Int) (h : AH) : Prop :=
  ∀ j : Nat → Value, LPk Go.Proofs.Try.prog w0 (EvC Go.Proofs.Try.prog w0) f57_J 57 K 5 [.v (.slice a0 n0 c0), .v (.int .i64 x1), .v (j 2), .v (j 3), .v (j 4), .v (j 5), .v (j 6), .v (j 7), .v (j 8), .v (j 9), .v (j 10), .v (j 11), .v (j 12), .v (j 13), .v (j 14), .v (j 15), .v (j 16), .v (j 17), .v (j 18), .v (j 19), .v (j 20), .v (j 21), .v (j 22), .v (j 23), .v (j 24), .v (j 25), .v (j 26), .v (j 27), .v (j 28), .v (j 29), .v (j 30), .v (j 31), .v (j 32), .v (j 33), .v (j 34), .v (j 35)] [] h

def f57_7 (w0 : World) (K : Value → AH → Prop) (x6 : Int) (a23 : Option Go.Addr) (n23 : Nat) (c23 : Nat) (x24 : Int) (x25 : Int) (h : AH) : Prop :=
  ∀ j : Nat → Value, LPk Go.Proofs.Try.prog w0 (EvC Go.Proofs.Try.prog w0) f57_J 57 K 7 [.v (j 0), .v (j 1), .v (j 2), .v (j 3), .v (j 4), .v (j 5), .v (.int .u64 x6), .v (j 7), .v (j 8), .v (j 9), .v (j 10), .v (j 11), .v (j 12), .v (j 13), .v (j 14), .v (j 15), .v (j 16), .v (j 17), .v (j 18), .v (j 19), .v (j 20), .v (j 21), .v (j 22), .v (.slice a23 n23 c23), .v (.int .i64 x24), .v (.int .i64 x25), .v (j 26), .v (j 27), .v (j 28), .v (j 29), .v (j 30), .v (j 31), .v (j 32), .v (j 33), .v (j 34), .v (j 35)] [] h

theorem f57_2_in {w0 : World} {K : Value → AH → Prop} (a0 : Option Go.Addr) (n0 : Nat) (c0 : Nat) (x1 : Int) (x9 : Bool) (h : AH)
  (hv : (brB x9 (K (Go.Value.tuple #[(Go.Value.int .u64 (0 : Int)), (Go.Value.int .i64 (1 : Int))]) h) (brB (decide ((((n0 : Nat) : Int) < x1))) (K (Go.Value.tuple #[(Go.Value.int .u64 (0 : Int)), (Go.Value.int .i64 (5 : Int))]) h) (f57_5 w0 K a0 n0 c0 x1 h)))) :
  f57_2 w0 K a0 n0 c0 x1 x9 h := fun j => LP_intro (P := Go.Proofs.Try.prog) (Eq.mp (by kernel_rfl) hv)

theorem f57_5_in {w0 : World} {K : Value → AH → Prop} (a0 : Option Go.Addr) (n0 : Nat) (c0 : Nat) (x1 : Int) (h : AH)
  (hv : (((0 : Int) ≤ x1) ∧ ((x1 ≤ ((c0 : Nat) : Int)) ∧ (f57_7 w0 K (0 : Int) a0 (Int.toNat x1) c0 (((Int.toNat x1) : Nat) : Int) (0 : Int) h)))) :
  f57_5 w0 K a0 n0 c0 x1 h := fun j => LP_intro (P := Go.Proofs.Try.prog) (Eq.mp (by kernel_rfl) hv)

theorem f57_7_in {w0 : World} {K : Value → AH → Prop} (x6 : Int) (a23 : Option Go.Addr) (n23 : Nat) (c23 : Nat) (x24 : Int) (x25 : Int) (h : AH)
  (hv : (brB (decide ((x25 < x24))) (∃ a'0 : Go.Addr, ((a23 = (some a'0)) ∧ (((0 : Int) ≤ x25) ∧ ((x25 < ((n23 : Nat) : Int)) ∧ (∃ i'1 : Int, (((Go.G.cellA w0 h (Go.Addr.add a'0 ((Int.toNat x25) * 1))) = (some (Go.Value.int .u8 i'1))) ∧ (((0 : Int) ≤ (8 : Int)) ∧ (f57_7 w0 K (Go.IntKind.wrap .u64 (((BitVec.toNat ((BitVec.ofInt 64 (Go.IntKind.wrap .u64 (x6 * (256 : Int)))) ||| (BitVec.ofInt 64 (Go.IntKind.wrap .u64 i'1)))) : Nat) : Int)) a23 n23 c23 x24 (Go.IntKind.wrap .i64 (x25 + (1 : Int))) h)))))))) (K (Go.Value.tuple #[(Go.Value.int .u64 x6), (Go.Value.int .i64 (0 : Int))]) h))) :
  f57_7 w0 K x6 a23 n23 c23 x24 x25 h := fun j => LP_intro (P := Go.Proofs.Try.prog) (Eq.mp (by kernel_rfl) hv)

theorem f57_go {w0 : World} {K : Value → AH → Prop} (a0 : Option Go.Addr) (n0 : Nat) (c0 : Nat) (x1 : Int) (h : AH)
  (hv : (brB (decide ((x1 < (1 : Int)))) (f57_2 w0 K a0 n0 c0 x1 true h) (f57_2 w0 K a0 n0 c0 x1 (decide (((8 : Int) < x1))) h))) :
  EvC Go.Proofs.Try.prog w0 57 ([(.slice a0 n0 c0), (.int .i64 x1)]).toArray K h := EvC_intro (P := Go.Proofs.Try.prog) f57_J (Eq.mp (by kernel_rfl) hv)
def f32_J : Nat → List Nat × Nat := jOf []



theorem f32_go {w0 : World} {K : Value → AH → Prop} (a0 : Option Go.Addr) (n0 : Nat) (c0 : Nat) (h : AH)
  (hv : (EvC Go.Proofs.Try.prog w0 57 #[(Go.Value.slice a0 n0 c0), (Go.Value.int .i64 (4 : Int))] (fun x'0 h'1 => (∃ i'2 : Int, (∃ i'3 : Int, ((x'0 = (Go.Value.tuple #[(Go.Value.int .u64 i'2), (Go.Value.int .i64 i'3)])) ∧ (brB (i'3 != (0 : Int)) (K (Go.Value.tuple #[(Go.Value.slice none 0 0), (Go.Value.int .i64 (0 : Int)), (Go.Value.int .i64 i'3)]) h'1) (((0 : Int) ≤ (4 : Int)) ∧ (((4 : Int) ≤ ((n0 : Nat) : Int)) ∧ (EvC Go.Proofs.Try.prog w0 58 #[(Go.Value.slice (Go.G.cutA 1 a0 c0 4) (n0 - 4) (c0 - 4))] (fun x'4 h'5 => (∃ i'6 : Int, (∃ i'7 : Int, (∃ i'8 : Int, ((x'4 = (Go.Value.tuple #[(Go.Value.int .u64 i'6), (Go.Value.int .i64 i'7), (Go.Value.int .i64 i'8)])) ∧ (brB (i'8 != (0 : Int)) (K (Go.Value.tuple #[(Go.Value.slice none 0 0), (Go.Value.int .i64 (0 : Int)), (Go.Value.int .i64 i'8)]) h'5) (brB (decide (((1048576 : Int) < i'6))) (K (Go.Value.tuple #[(Go.Value.slice none 0 0), (Go.Value.int .i64 (0 : Int)), (Go.Value.int .i64 (2 : Int))]) h'5) (brB (decide (((Go.IntKind.wrap .u64 (Go.IntKind.wrap .i64 ((Go.IntKind.wrap .i64 (((n0 : Nat) : Int) - (4 : Int))) - i'7))) < i'6))) (K (Go.Value.tuple #[(Go.Value.slice none 0 0), (Go.Value.int .i64 (0 : Int)), (Go.Value.int .i64 (5 : Int))]) h'5) (((0 : Int) ≤ (4 : Int)) ∧ (((4 : Int) ≤ (Go.IntKind.wrap .i64 ((Go.IntKind.wrap .i64 ((4 : Int) + i'7)) + (Go.IntKind.wrap .i64 i'6)))) ∧ (((Go.IntKind.wrap .i64 ((Go.IntKind.wrap .i64 ((4 : Int) + i'7)) + (Go.IntKind.wrap .i64 i'6))) ≤ ((c0 : Nat) : Int)) ∧ (EvC Go.Proofs.Try.prog w0 60 #[(Go.Value.slice (Go.G.cutA 1 a0 c0 4) ((Int.toNat (Go.IntKind.wrap .i64 ((Go.IntKind.wrap .i64 ((4 : Int) + i'7)) + (Go.IntKind.wrap .i64 i'6)))) - 4) (c0 - 4))] (fun x'9 h'10 => (∃ i'11 : Int, ((x'9 = (Go.Value.int .u32 i'11)) ∧ (EvC Go.Proofs.Try.prog w0 59 #[(Go.Value.int .u32 i'11)] (fun x'12 h'13 => (∃ i'14 : Int, ((x'12 = (Go.Value.int .u32 i'14)) ∧ (brB ((Go.IntKind.wrap .u64 i'14) != i'2) (K (Go.Value.tuple #[(Go.Value.slice none 0 0), (Go.Value.int .i64 (0 : Int)), (Go.Value.int .i64 (4 : Int))]) h'13) (((0 : Int) ≤ (Go.IntKind.wrap .i64 ((4 : Int) + i'7))) ∧ (((Go.IntKind.wrap .i64 ((4 : Int) + i'7)) ≤ (Go.IntKind.wrap .i64 ((Go.IntKind.wrap .i64 ((4 : Int) + i'7)) + (Go.IntKind.wrap .i64 i'6)))) ∧ (((Go.IntKind.wrap .i64 ((Go.IntKind.wrap .i64 ((4 : Int) + i'7)) + (Go.IntKind.wrap .i64 i'6))) ≤ ((c0 : Nat) : Int)) ∧ (rowsOf w0 h'13 1 (Go.G.cutA 1 a0 c0 (Int.toNat (Go.IntKind.wrap .i64 ((4 : Int) + i'7)))) ((Int.toNat (Go.IntKind.wrap .i64 ((Go.IntKind.wrap .i64 ((4 : Int) + i'7)) + (Go.IntKind.wrap .i64 i'6)))) - (Int.toNat (Go.IntKind.wrap .i64 ((4 : Int) + i'7)))) (fun ys'15 => (App w0 h'13 1 1 none 0 0 ((Int.toNat (Go.IntKind.wrap .i64 ((Go.IntKind.wrap .i64 ((4 : Int) + i'7)) + (Go.IntKind.wrap .i64 i'6)))) - (Int.toNat (Go.IntKind.wrap .i64 ((4 : Int) + i'7)))) ys'15 (fun a'16 c'17 h'18 => (K (Go.Value.tuple #[(Go.Value.slice a'16 (0 + ((Int.toNat (Go.IntKind.wrap .i64 ((Go.IntKind.wrap .i64 ((4 : Int) + i'7)) + (Go.IntKind.wrap .i64 i'6)))) - (Int.toNat (Go.IntKind.wrap .i64 ((4 : Int) + i'7))))) c'17), (Go.Value.int .i64 (Go.IntKind.wrap .i64 ((Go.IntKind.wrap .i64 ((4 : Int) + i'7)) + (Go.IntKind.wrap .i64 i'6)))), (Go.Value.int .i64 (0 : Int))]) h'18)))))))))))) h'10)))) h'5)))))))))))) h'1)))))))) h)) :
  EvC Go.Proofs.Try.prog w0 32 ([(.slice a0 n0 c0)]).toArray K h := EvC_intro (P := Go.Proofs.Try.prog) f32_J (Eq.mp (by kernel_rfl) hv)
/-! ### vint.Take, vint.Read, frame.Take -/
def valV (l : List UInt8) : Nat := l.foldr (fun b acc => acc * 128 + b.toNat % 128) 0
theorem valV_put : ∀ (k n : Nat), n < 128 ^ (k + 1) → valV (putV n) = n
  | 0, n, h => by
    have h' : n < 128 := by simpa using h
    rw [putV_small h']
    simp [valV, UInt8.toNat_ofNat', Nat.mod_eq_of_lt (show n < 256 by omega)]
    omega
  | k + 1, n, h => by
    by_cases q : n < 128
    · rw [putV_small q]
      simp [valV, UInt8.toNat_ofNat', Nat.mod_eq_of_lt (show n < 256 by omega)]
      omega
    · have ih := valV_put k (n / 128) (by rw [Nat.pow_succ] at h; omega)
      rw [putV_step q]
      unfold valV at ih ⊢
      rw [List.foldr_cons, ih, UInt8.toNat_ofNat', Nat.mod_eq_of_lt (show n % 128 + 128 < 2 ^ 8 by omega)]
      omega
/-- A number's bytes: all but the last have the highest bit; the last is no needless one. -/
theorem putV_form : ∀ (k n : Nat), n < 128 ^ (k + 1) → ∃ (i : List UInt8) (z : UInt8), putV n = i ++ [z] ∧ (∀ b ∈ i, 128 ≤ b.toNat) ∧ z.toNat < 128 ∧ (i ≠ [] → z.toNat ≠ 0) ∧ z.toNat = n / 128 ^ i.length ∧ i.length ≤ k
  | 0, n, h => by
    have h' : n < 128 := by simpa using h
    refine ⟨[], UInt8.ofNat n, putV_small h', (fun b hb => by cases hb), ?_, (fun h => absurd rfl h), ?_, Nat.le_refl _⟩
    · rw [UInt8.toNat_ofNat', Nat.mod_eq_of_lt (by omega)]; omega
    · rw [UInt8.toNat_ofNat', Nat.mod_eq_of_lt (by omega)]; simp
  | k + 1, n, h => by
    by_cases q : n < 128
    · refine ⟨[], UInt8.ofNat n, putV_small q, (fun b hb => by cases hb), ?_, (fun h => absurd rfl h), ?_, Nat.zero_le _⟩
      · rw [UInt8.toNat_ofNat', Nat.mod_eq_of_lt (by omega)]; omega
      · rw [UInt8.toNat_ofNat', Nat.mod_eq_of_lt (by omega)]; simp
    · obtain ⟨i, z, e, h1, h2, h3, h4, h5⟩ := putV_form k (n / 128) (by rw [Nat.pow_succ] at h; omega)
      refine ⟨UInt8.ofNat (n % 128 + 128) :: i, z, by rw [putV_step q, e]; rfl, fun b hb => ?_, h2, fun _ => ?_, ?_, by simp; omega⟩
      · rcases List.mem_cons.1 hb with rfl | hb
        · rw [UInt8.toNat_ofNat', Nat.mod_eq_of_lt (by omega)]; omega
        · exact h1 b hb
      · cases hi : i with
        | nil => rw [hi] at h4; simp at h4; omega
        | cons x y => exact h3 (by rw [hi]; simp)
      · rw [h4, Nat.div_div_eq_div_mul, List.length_cons, Nat.pow_succ, Nat.mul_comm]
theorem and127 (b : UInt8) : IntKind.u8.wrap (((BitVec.toNat ((BitVec.ofInt 8 (b.toNat : Int)) &&& (BitVec.ofInt 8 (127 : Int)))) : Nat) : Int) = ((b.toNat % 128 : Nat) : Int) := by
  have e : ∀ m, m < 256 → (m % 2 ^ 8 &&& 127) = m % 128 := by decide
  rw [ofInt_nat, BitVec.toNat_and, BitVec.toNat_ofNat]
  have e1 : (BitVec.ofInt 8 (127 : Int)).toNat = 127 := by decide
  have hb : b.toNat < 256 := b.toNat_lt
  rw [e1, e b.toNat hb, wrap8]
  congr 1
  omega
theorem or_add {m y k : Nat} (h : y < 2 ^ k) : m * 2 ^ k ||| y = m * 2 ^ k + y := by
  rw [← Nat.shiftLeft_eq, Nat.shiftLeft_add_eq_or_of_lt h]
theorem or64 {m y k : Nat} (h : m * 2 ^ k + y < 18446744073709551616) (hy : y < 2 ^ k) :
    IntKind.u64.wrap (((BitVec.toNat ((BitVec.ofInt 64 (IntKind.u64.wrap (((m : Nat) : Int) * ((2 ^ k : Nat) : Int)))) ||| (BitVec.ofInt 64 (IntKind.u64.wrap ((y : Nat) : Int))))) : Nat) : Int) = ((m * 2 ^ k + y : Nat) : Int) := by
  rw [← Int.natCast_mul, wrap64u (n := ((m * 2 ^ k : Nat) : Int)) (Int.natCast_nonneg _) (by omega), wrap64u (n := ((y : Nat) : Int)) (Int.natCast_nonneg _) (by omega), ofInt_nat, ofInt_nat, BitVec.toNat_or, BitVec.toNat_ofNat, BitVec.toNat_ofNat,
    Nat.mod_eq_of_lt (by omega), Nat.mod_eq_of_lt (by omega), or_add hy, wrap64u (Int.natCast_nonneg _) (by omega)]
theorem byte_at {w0 : World} {h : AH} {a : Option Addr} {l : List UInt8} {i : Nat} {b : UInt8} (hr : Rd w0 h a (u8s l)) (hb : l[i]? = some b) : ∃ ad, a = some ad ∧ cellA w0 h (Addr.add ad ((Int.toNat ((i : Nat) : Int)) * 1)) = some (.int .u8 (b.toNat : Int)) := by
  obtain ⟨ad, had, hc⟩ := hr i _ (u8s_get hb)
  exact ⟨ad, had, by rw [Int.toNat_natCast, Nat.mul_one]; exact hc⟩
section
variable {w0 : World} {K : Value → AH → Prop} {h : AH} {a : Option Addr} {c : Nat} {l : List UInt8}
/-- Past bytes with the highest bit. -/
theorem f58_past (hr : Rd w0 h a (u8s l)) (hl : l.length ≤ 100000000000) (i : List UInt8) (t : List UInt8) (he : l = i ++ t) (hi : ∀ b ∈ i, 128 ≤ b.toNat) (hk : f58_2 w0 K a l.length c ((i.length : Nat) : Int) h) :
    ∀ (k j : Nat), j + k = i.length → f58_2 w0 K a l.length c ((j : Nat) : Int) h
  | 0, j, hj => by rw [show j = i.length by omega]; exact hk
  | k + 1, j, hj => by
    have hil : j < i.length := by omega
    have hg : l[j]? = some i[j] := by rw [he, List.getElem?_append_left hil, List.getElem?_eq_getElem hil]
    have h1 := hi _ (List.getElem_mem hil)
    obtain ⟨ad, had, hc⟩ := byte_at hr hg
    have hlt : i.length ≤ l.length := by rw [he]; simp
    refine f58_2_in _ _ _ _ _ (brB_of (fun _ => ⟨ad, had, by omega, by omega, _, hc, brB_of (fun _ => ?_) fun q => by have := of_decide_eq_false q; omega⟩) fun q => by have := of_decide_eq_false q; omega)
    rw [wrapS (by omega)]
    exact f58_past hr hl i t he hi hk k (j + 1) (by omega)
/-- Take, of too few bytes. -/
theorem f58_short (hr : Rd w0 h a (u8s l)) (hl : l.length ≤ 100000000000) (hi : ∀ b ∈ l, 128 ≤ b.toNat) (hk : K (.tuple #[.int .u64 0, .int .i64 0, .int .i64 5]) h) : EvC Go.Proofs.Try.prog w0 58 #[.slice a l.length c] K h := by
  refine f58_go _ _ _ _ (f58_past hr hl l [] (by simp) hi ?_ l.length 0 (by omega))
  exact f58_2_in _ _ _ _ _ (brB_of (fun q => by have := of_decide_eq_true q; omega) fun _ => f58_4_in _ _ _ _ _ (brB_of (fun _ => hk) fun q => by simp at q))
theorem f58_back (hr : Rd w0 h a (u8s l)) (hl : l.length ≤ 100000000000) (m : List UInt8) (t : List UInt8) (he : l = m ++ t) (hv : valV m < 18446744073709551616) (x5 : Int) (hk : K (.tuple #[.int .u64 ((valV m : Nat) : Int), .int .i64 (IntKind.i64.wrap (x5 + 1)), .int .i64 0]) h) :
    ∀ (j : Nat), j ≤ m.length → f58_10 w0 K a l.length c x5 ((valV (m.drop j) : Nat) : Int) (((j : Nat) : Int) - 1) h
  | 0, _ => by
    refine f58_10_in _ _ _ _ _ _ _ (brB_of (fun q => by have := of_decide_eq_true q; omega) fun _ => ?_)
    rw [List.drop_zero]; exact hk
  | j + 1, hj => by
    have hjl : j < m.length := by omega
    have hg : l[j]? = some m[j] := by rw [he, List.getElem?_append_left hjl, List.getElem?_eq_getElem hjl]
    obtain ⟨ad, had, hc⟩ := byte_at hr hg
    have hlt : m.length ≤ l.length := by rw [he]; simp
    have ed : m.drop j = m[j] :: m.drop (j + 1) := List.drop_eq_getElem_cons hjl
    have ev : valV (m.drop j) = valV (m.drop (j + 1)) * 128 + m[j].toNat % 128 := by rw [ed]; rfl
    have mono : ∀ (x y : List UInt8), valV y ≤ valV (x ++ y) := fun x y => by
      induction x with
      | nil => exact Nat.le_refl _
      | cons b x ih =>
        have : valV (b :: (x ++ y)) = valV (x ++ y) * 128 + b.toNat % 128 := rfl
        rw [List.cons_append, this]; omega
    have hb : valV (m.drop j) < 18446744073709551616 := by
      have := mono (m.take j) (m.drop j)
      rw [List.take_append_drop] at this; omega
    have e1 : (((j + 1 : Nat) : Int) - 1) = ((j : Nat) : Int) := by omega
    rw [e1]
    refine f58_10_in _ _ _ _ _ _ _ (brB_of (fun _ => ⟨by decide, ad, had, by omega, by omega, _, hc, ?_⟩) fun q => by have := of_decide_eq_false q; omega)
    rw [and127]
    have e2 := or64 (m := valV (m.drop (j + 1))) (y := m[j].toNat % 128) (k := 7) (by omega) (by omega)
    rw [show ((2 ^ 7 : Nat) : Int) = (128 : Int) by decide] at e2
    rw [e2, wrap64 (by omega) (by omega), show valV (m.drop (j + 1)) * 2 ^ 7 + m[j].toNat % 128 = valV (m.drop j) by rw [ev]]
    exact f58_back hr hl m t he hv x5 hk j (by omega)
/-- Take, of a number's bytes with others behind. -/
theorem f58_ok {n : Nat} {t : List UInt8} (hr : Rd w0 h a (u8s l)) (hl : l.length ≤ 100000000000) (hn : n < 18446744073709551616) (he : l = putV n ++ t) (hk : K (.tuple #[.int .u64 ((n : Nat) : Int), .int .i64 (((putV n).length : Nat) : Int), .int .i64 0]) h) :
    EvC Go.Proofs.Try.prog w0 58 #[.slice a l.length c] K h := by
  obtain ⟨i, z, ep, h1, h2, h3, h4, h5⟩ := putV_form 9 n (by omega)
  have hval := valV_put 9 n (by omega)
  have he' : l = i ++ (z :: t) := by rw [he, ep]; simp
  have hll : i.length < l.length := by rw [he']; simp
  have hz : l[i.length]? = some z := by rw [he']; simp
  obtain ⟨ad, had, hc⟩ := byte_at hr hz
  have last : f58_8 w0 K a l.length c ((i.length : Nat) : Int) h := by
    refine f58_8_in _ _ _ _ _ ?_
    have := f58_back (c := c) hr hl (putV n) t he (by rw [hval]; exact hn) ((i.length : Nat) : Int) (by rw [hval, wrapS (by omega)]; rw [ep, List.length_append] at hk; exact hk) (putV n).length (Nat.le_refl _)
    rw [List.drop_length] at this
    have e1 : (((putV n).length : Nat) : Int) - 1 = ((i.length : Nat) : Int) := by rw [ep]; simp
    rw [e1] at this
    exact this
  have seven : f58_7 w0 K a l.length c ((i.length : Nat) : Int) false h := f58_7_in _ _ _ _ _ _ (brB_of (fun q => by cases q) fun _ => last)
  have tail : brB (decide (((0 : Int) < ((i.length : Nat) : Int)))) (∃ a' : Addr, (a = some a') ∧ ((0 : Int) ≤ ((i.length : Nat) : Int)) ∧ (((i.length : Nat) : Int) < ((l.length : Nat) : Int)) ∧ (∃ i'7 : Int, ((cellA w0 h (Addr.add a' ((Int.toNat ((i.length : Nat) : Int)) * 1))) = (some (.int .u8 i'7))) ∧ (f58_7 w0 K a l.length c ((i.length : Nat) : Int) (i'7 == (0 : Int)) h)))
      (f58_7 w0 K a l.length c ((i.length : Nat) : Int) false h) := brB_of (fun q => ⟨ad, had, by omega, by omega, _, hc, by
    have hne : i ≠ [] := fun e => by have := of_decide_eq_true q; rw [e] at this; simp at this
    have := h3 hne
    rw [show ((z.toNat : Int) == 0) = false by simp; omega]
    exact seven⟩) fun _ => seven
  refine f58_go _ _ _ _ (f58_past hr hl i (z :: t) he' h1 ?_ i.length 0 (by omega))
  refine f58_2_in _ _ _ _ _ (brB_of (fun _ => ⟨ad, had, by omega, by omega, _, hc, brB_of (fun q => by have := of_decide_eq_true q; omega) fun _ => ?_⟩) fun q => by have := of_decide_eq_false q; omega)
  refine f58_4_in _ _ _ _ _ (brB_of (fun q => by simp at q; omega) fun _ => brB_of (fun q => by have := of_decide_eq_true q; omega) fun _ => brB_of (fun q => ⟨ad, had, by omega, by omega, _, hc, brB_of (fun q1 => ?_) fun _ => tail⟩) fun _ => tail)
  exfalso
  have q9 : i.length = 9 := by simp at q; omega
  have := of_decide_eq_true q1
  rw [q9] at h4
  have : n / 128 ^ 9 < 2 := by omega
  omega
end
/-! ### vint.Read -/
def rdV (l : List UInt8) : Nat := l.foldl (fun m b => m * 256 + b.toNat) 0
section
variable {w0 : World} {K : Value → AH → Prop} {h : AH} {a : Option Addr} {c : Nat} {l : List UInt8}
theorem rd_fold_lt : ∀ (l : List UInt8) (m : Nat), l.foldl (fun m b => m * 256 + b.toNat) m < (m + 1) * 256 ^ l.length
  | [], m => by simp
  | b :: l, m => by
    have := rd_fold_lt l (m * 256 + b.toNat)
    have hb := b.toNat_lt
    rw [List.foldl_cons, List.length_cons, Nat.pow_succ]
    refine Nat.lt_of_lt_of_le this ?_
    rw [show (m + 1) * (256 ^ l.length * 256) = ((m + 1) * 256) * 256 ^ l.length by rw [Nat.mul_comm (256 ^ l.length), ← Nat.mul_assoc]]
    exact Nat.mul_le_mul_right _ (by omega)
theorem f57_ok (hr : Rd w0 h a (u8s l)) (hl : l.length ≤ 100000000000) (hc : l.length ≤ c) (h4 : 4 ≤ l.length) (hk : K (.tuple #[.int .u64 ((rdV (l.take 4) : Nat) : Int), .int .i64 0]) h) : EvC Go.Proofs.Try.prog w0 57 #[.slice a l.length c, .int .i64 4] K h := by
  have loop : ∀ (rest : List UInt8) (i m : Nat), (l.take 4).drop i = rest → i ≤ 4 → m < 256 ^ i → K (.tuple #[.int .u64 ((rest.foldl (fun m b => m * 256 + b.toNat) m : Nat) : Int), .int .i64 0]) h → f57_7 w0 K ((m : Nat) : Int) a 4 c (4 : Int) ((i : Nat) : Int) h := by
    intro rest
    induction rest with
    | nil =>
      intro i m hd hi hm hk
      have := drop_done hd
      simp at this
      exact f57_7_in _ _ _ _ _ _ _ (brB_of (fun q => by have := of_decide_eq_true q; omega) fun _ => hk)
    | cons b r ih =>
      intro i m hd hi hm hk
      obtain ⟨hget, hd', hlt⟩ := drop_step hd
      have hi4 : i < 4 := by simp at hlt; omega
      have hg : l[i]? = some b := by rw [List.getElem?_take, if_pos hi4] at hget; exact hget
      obtain ⟨ad, had, hcell⟩ := byte_at hr hg
      have hb := b.toNat_lt
      have hp : 256 ^ i ≤ 256 ^ 3 := Nat.pow_le_pow_right (by decide) (by omega)
      refine f57_7_in _ _ _ _ _ _ _ (brB_of (fun _ => ⟨ad, had, by omega, by omega, _, hcell, by decide, ?_⟩) fun q => by have := of_decide_eq_false q; omega)
      have e2 := or64 (m := m) (y := b.toNat) (k := 8) (by omega) (by omega)
      rw [show ((2 ^ 8 : Nat) : Int) = (256 : Int) by decide] at e2
      rw [e2, wrapS (by omega)]
      refine ih (i + 1) _ hd' (by omega) ?_ hk
      rw [Nat.pow_succ]
      have : m * 256 + 256 ≤ 256 ^ i * 256 := by
        have := Nat.mul_le_mul_right 256 (show m + 1 ≤ 256 ^ i by omega)
        omega
      omega
  refine f57_go _ _ _ _ _ (brB_of (fun q => by cases q) fun _ => f57_2_in _ _ _ _ _ _ (brB_of (fun q => by cases q) fun _ => brB_of (fun q => by have := of_decide_eq_true q; omega) fun _ => f57_5_in _ _ _ _ _ ⟨by decide, by omega, ?_⟩))
  exact loop (l.take 4) 0 0 rfl (by omega) (by decide) hk
theorem f57_short (h4 : l.length < 4) (hk : K (.tuple #[.int .u64 0, .int .i64 5]) h) : EvC Go.Proofs.Try.prog w0 57 #[.slice a l.length c, .int .i64 4] K h :=
  f57_go _ _ _ _ _ (brB_of (fun q => by cases q) fun _ => f57_2_in _ _ _ _ _ _ (brB_of (fun q => by cases q) fun _ => brB_of (fun _ => hk) fun q => by have := of_decide_eq_false q; omega))
end
theorem rd_fixed {n : Nat} (h : n < 4294967296) : rdV (fixedV n 4) = n := by
  simp only [rdV, fixedV, List.foldl_cons, List.foldl_nil, UInt8.toNat_ofNat']
  omega
/-- What is cut off a slice that is readable. -/
theorem rd_cut {w0 : World} {h : AH} {a : Option Addr} {c : Nat} {l x y : List UInt8} (hr : Rd w0 h a (u8s l)) (he : l = x ++ y) (hc : l.length ≤ c) : Rd w0 h (cutA 1 a c x.length) (u8s y) := by
  rw [he, u8s_app] at hr
  refine hr.cut (by rw [u8s_length, Nat.mul_one]) fun hne q => ?_
  rw [he, List.length_append] at hc
  cases y with
  | nil => exact hne rfl
  | cons b y => simp at hc; omega
theorem rd_take {w0 : World} {h : AH} {a : Option Addr} {l x y : List UInt8} (hr : Rd w0 h a (u8s l)) (he : l = x ++ y) : Rd w0 h a (u8s x) := by
  rw [he, u8s_app] at hr; exact hr.front
section
variable {w0 : World} {K : Value → AH → Prop} {h : AH} {B : List (Nat × AB)} {a : Option Addr} {c : Nat} {l r t : List UInt8}
/-- frame.Take, of a whole frame. -/
theorem f32_ok (w : Own w0 h B) (hr : ∀ h', Own w0 h' B → Rd w0 h' a (u8s l)) (hl : l.length ≤ 10000000000) (hc : l.length ≤ c) (hrl : r.length ≤ 1048576) (he : l = frameB r ++ t)
    (hk : ∀ h' a' c', SlV 1 a' r.length c' (u8s r) → Own w0 h' (slB a' (u8s r) (c' * 1) ++ B) → K (.tuple #[.slice a' r.length c', .int .i64 (((frameB r).length : Nat) : Int), .int .i64 0]) h') :
    EvC Go.Proofs.Try.prog w0 32 #[.slice a l.length c] K h := by
  have hp := putV_len10 (n := r.length) (by omega)
  obtain ⟨es, hs⟩ := sumB_rg r
  have hfl := fixedV_len (sumB r) 4
  have hrest : (restB r).length = (putV r.length).length + r.length := by unfold restB; rw [List.length_append]
  have hfr : (frameB r).length = 4 + (putV r.length).length + r.length := by unfold frameB; rw [List.length_append, hfl, hrest]; omega
  have hll : l.length = (frameB r).length + t.length := by rw [he, List.length_append]
  generalize hF : (frameB r).length = F at hfr hll hk
  have e1 : l = fixedV (sumB r) 4 ++ (restB r ++ t) := by rw [he, frameB, List.append_assoc]
  have e2 : restB r ++ t = putV r.length ++ (r ++ t) := by unfold restB; rw [List.append_assoc]
  have e3 : l = (fixedV (sumB r) 4 ++ putV r.length) ++ (r ++ t) := by rw [e1, e2, List.append_assoc]
  have rd := hr h w
  have htk : l.take 4 = fixedV (sumB r) 4 := by rw [e1]; exact List.take_left' hfl
  refine f32_go _ _ _ _ (f57_ok rd (by omega) hc (by omega) ⟨_, _, rfl, brB_of (fun q => by cases q) fun _ => ⟨by decide, by omega, ?_⟩⟩)
  have r1 := rd_cut rd e1 hc
  rw [hfl] at r1
  have hn1 : l.length - 4 = (restB r ++ t).length := by rw [List.length_append]; omega
  rw [hn1]
  refine f58_ok r1 (by rw [List.length_append]; omega) (by omega) e2 ⟨_, _, _, rfl, brB_of (fun q => by cases q) fun _ => brB_of (fun q => by have := of_decide_eq_true q; omega) fun _ => ?_⟩
  have ea : IntKind.i64.wrap (((l.length : Nat) : Int) - (4 : Int)) = ((l.length - 4 : Nat) : Int) := by rw [wrap64 (by omega) (by omega)]; omega
  have eb : IntKind.i64.wrap (((l.length - 4 : Nat) : Int) - (((putV r.length).length : Nat) : Int)) = ((l.length - 4 - (putV r.length).length : Nat) : Int) := by rw [wrap64 (by omega) (by omega)]; omega
  have ec : IntKind.i64.wrap ((4 : Int) + (((putV r.length).length : Nat) : Int)) = ((4 + (putV r.length).length : Nat) : Int) := by rw [wrap64 (by omega) (by omega)]; omega
  have ed : IntKind.i64.wrap (((4 + (putV r.length).length : Nat) : Int) + (IntKind.i64.wrap ((r.length : Nat) : Int))) = ((F : Nat) : Int) := by rw [wrap64 (x := ((r.length : Nat) : Int)) (by omega) (by omega), wrap64 (by omega) (by omega)]; omega
  rw [ea, eb, ec, ed, wrap64u (by omega) (by omega), Int.toNat_natCast, Int.toNat_natCast]
  refine brB_of (fun q => by have := of_decide_eq_true q; omega) fun _ => ⟨by decide, by omega, by omega, ?_⟩
  have r2 : Rd w0 h (cutA 1 a c 4) (u8s (restB r)) := rd_take r1 rfl
  have hn2 : F - 4 = (restB r).length := by omega
  rw [hn2]
  refine f60_spec r2 (by omega) ⟨_, rfl, f59_spec ⟨_, rfl, ?_⟩⟩
  rw [← es, wrap64u (by omega) (by omega), htk, rd_fixed hs]
  generalize ((sumB r : Nat) : Int) = S
  refine brB_of (fun q => by simp at q) fun _ => ?_
  refine ⟨by omega, by omega, by omega, ?_⟩
  have r3 := rd_cut rd e3 hc
  rw [List.length_append, hfl] at r3
  have hn3 : F - (4 + (putV r.length).length) = r.length := by omega
  rw [hn3]
  refine rowsOf_of (rd_take r3 rfl) (by rw [u8s_length, Nat.mul_one]) (App_copy w (by omega) fun a' c' h' v' w' => ?_)
  rw [Nat.zero_add]
  exact hk h' a' c' v' w'
/-- frame.Take, of a frame that is cut off. -/
theorem f32_short (hr : Rd w0 h a (u8s l)) (hc : l.length ≤ c) (hrl : r.length ≤ 1048576) (he : frameB r = l ++ t) (ht : t ≠ [])
    (hk : ∀ e : Int, e ≠ 0 → K (.tuple #[.slice none 0 0, .int .i64 0, .int .i64 e]) h) : EvC Go.Proofs.Try.prog w0 32 #[.slice a l.length c] K h := by
  have hp := putV_len10 (n := r.length) (by omega)
  have hfl := fixedV_len (sumB r) 4
  have hrest : (restB r).length = (putV r.length).length + r.length := by unfold restB; rw [List.length_append]
  have hfr : (frameB r).length = 4 + (putV r.length).length + r.length := by unfold frameB; rw [List.length_append, hfl, hrest]; omega
  have htl : 0 < t.length := List.length_pos_iff.2 ht
  have hll : (frameB r).length = l.length + t.length := by rw [he, List.length_append]
  by_cases q4 : l.length < 4
  · exact f32_go _ _ _ _ (f57_short q4 ⟨_, _, rfl, brB_of (fun _ => hk 5 (by decide)) fun q => by cases q⟩)
  have e1 : ∃ y, l = fixedV (sumB r) 4 ++ y ∧ restB r = y ++ t := by
    have h1 : (frameB r).take 4 = fixedV (sumB r) 4 := List.take_left' hfl
    have h2 : (frameB r).drop 4 = restB r := List.drop_left' hfl
    refine ⟨l.drop 4, ?_, ?_⟩
    · rw [← h1, he, List.take_append_of_le_length (by omega), List.take_append_drop]
    · rw [← h2, he, List.drop_append_of_le_length (by omega)]
  obtain ⟨y, ey, er⟩ := e1
  have hyl : l.length = 4 + y.length := by rw [ey, List.length_append, hfl]
  have r1 := rd_cut hr ey hc
  rw [hfl] at r1
  refine f32_go _ _ _ _ (f57_ok hr (by omega) hc (by omega) ⟨_, _, rfl, brB_of (fun q => by cases q) fun _ => ⟨by decide, by omega, ?_⟩⟩)
  have hn1 : l.length - 4 = y.length := by omega
  rw [hn1]
  have hrl2 : (restB r).length = y.length + t.length := by rw [er, List.length_append]
  by_cases qv : y.length < (putV r.length).length
  · -- the number is cut off
    obtain ⟨i, z, ep, h1, _⟩ := putV_form 9 r.length (by omega)
    have hyi : ∀ b ∈ y, 128 ≤ b.toNat := fun b hb => by
      have e2 : y = (restB r).take y.length := by rw [er, List.take_left]
      have e3 : (restB r).take y.length = i.take y.length := by
        unfold restB
        rw [ep, List.length_append] at qv
        rw [ep, List.append_assoc, List.take_append_of_le_length (by simp at qv; omega)]
      rw [e2, e3] at hb
      exact h1 b (List.mem_of_mem_take hb)
    exact f58_short r1 (by omega) hyi ⟨_, _, _, rfl, brB_of (fun _ => hk 5 (by decide)) fun q => by cases q⟩
  · -- the bytes are cut off
    have e2 : ∃ x, y = putV r.length ++ x := by
      refine ⟨y.drop (putV r.length).length, ?_⟩
      have : y.take (putV r.length).length = putV r.length := by
        have h1 : (restB r).take (putV r.length).length = putV r.length := List.take_left
        rw [er, List.take_append_of_le_length (by omega)] at h1
        exact h1
      conv => lhs; rw [← List.take_append_drop (putV r.length).length y, this]
    obtain ⟨x, ex⟩ := e2
    refine f58_ok r1 (by omega) (by omega) ex ⟨_, _, _, rfl, brB_of (fun q => by cases q) fun _ => brB_of (fun _ => hk 2 (by decide)) fun _ => ?_⟩
    have ea : IntKind.i64.wrap (((l.length : Nat) : Int) - (4 : Int)) = ((l.length - 4 : Nat) : Int) := by rw [wrap64 (by omega) (by omega)]; omega
    have eb : IntKind.i64.wrap (((l.length - 4 : Nat) : Int) - (((putV r.length).length : Nat) : Int)) = ((l.length - 4 - (putV r.length).length : Nat) : Int) := by rw [wrap64 (by omega) (by omega)]; omega
    rw [ea, eb, wrap64u (by omega) (by omega)]
    refine brB_of (fun _ => hk 5 (by decide)) fun q => ?_
    have := of_decide_eq_false q
    omega
end
end Go.G.Ytlghmjehibikeaa
