/- WalFaults by the evaluator. -/
import Derived.Test.YtlghmjehibikeaaLWalCrashes
import Derived.Test.YtlghmjehibikeaaProg
set_option maxRecDepth 100000
namespace Go.G.Ytlghmjehibikeaa
open Go.RowKit
def f8_J : Nat → List Nat × Nat := jOf [(10, [1, 2, 3, 4, 5, 6, 9, 15, 16, 17, 18, 19, 20, 21, 22, 23, 24, 25, 26, 27, 28, 29, 30, 31, 32, 33, 34, 35, 36, 37, 38, 39, 40, 41, 42, 43, 44, 45, 46, 47, 48, 49, 50, 51, 52, 53, 54, 55, 56, 57, 58, 59, 60, 61, 62, 63, 64, 65, 66, 67, 68, 69, 70, 71, 72, 73, 74, 75, 76, 77, 78, 79, 80, 81, 82, 83, 84, 85, 86, 87, 88, 89, 90, 91, 92, 93, 94, 95, 96, 97, 98, 99, 100, 101, 102, 103, 104, 105, 106, 107, 108, 109, 110, 111, 112, 113, 114, 115, 116], 0), (12, [1, 2, 3, 4, 5, 6, 9, 15, 16, 17, 18, 19, 20, 21, 22, 23, 24, 25, 26, 27, 28, 29, 30, 31, 32, 33, 34, 35, 36, 37, 38, 39, 40, 41, 42, 43, 44, 45, 46, 47, 48, 49, 50, 51, 52, 53, 54, 55, 56, 57, 58, 59, 60, 61, 62, 63, 64, 65, 66, 67, 68, 69, 70, 71, 72, 73, 74, 75, 76, 77, 78, 79, 80, 81, 82, 83, 84, 85, 86, 87, 88, 89, 90, 91, 92, 93, 94, 95, 96, 97, 98, 99, 100, 101, 102, 103, 104, 105, 106, 107, 108, 109, 110, 111, 112, 113, 114, 115, 116], 0), (23, [0, 1, 2, 3, 4, 5, 6, 8, 9, 11, 12, 14, 15, 16, 17, 18, 19, 20, 21, 22, 23, 24, 25, 26, 27, 28, 29, 30, 31, 32, 33, 34, 35, 36, 37, 38, 39, 40, 41, 42, 43, 44, 45, 46, 47, 48, 49, 50, 51, 52, 53, 54, 55, 56, 57, 58, 59, 60, 61, 62, 63, 64, 65, 66, 67, 68, 69, 70, 71, 72, 73, 74, 75, 76, 77, 78, 79, 80, 81, 82, 83, 84, 85, 86, 87, 88, 89, 90, 91, 92, 93, 94, 95, 96, 97, 98, 99, 100, 101, 102, 103, 104, 105, 106, 107, 108, 109, 110, 111, 112, 113, 114, 115, 116], 0), (15, [1, 2, 3, 4, 5, 6, 9, 17, 18, 19, 20, 21, 22, 23, 24, 25, 26, 27, 28, 29, 30, 31, 32, 33, 34, 35, 36, 37, 38, 39, 40, 41, 42, 43, 44, 45, 46, 47, 48, 49, 50, 51, 52, 53, 54, 55, 57, 58, 59, 60, 61, 62, 63, 64, 65, 66, 67, 68, 69, 70, 71, 72, 73, 74, 75, 76, 77, 78, 79, 80, 81, 82, 83, 84, 85, 86, 87, 88, 89, 90, 91, 92, 93, 94, 95, 96, 97, 98, 99, 100, 101, 102, 103, 104, 105, 106, 107, 108, 109, 110, 111, 112, 113, 114, 115, 116], 1), (16, [1, 2, 3, 4, 5, 6, 9, 17, 18, 19, 20, 21, 22, 23, 24, 25, 26, 27, 28, 29, 30, 31, 32, 33, 34, 35, 36, 37, 38, 39, 40, 41, 42, 43, 44, 45, 46, 47, 48, 49, 50, 51, 52, 53, 54, 55, 57, 58, 59, 60, 61, 62, 63, 64, 65, 66, 67, 68, 69, 70, 71, 72, 73, 74, 75, 76, 77, 78, 79, 80, 81, 82, 83, 84, 85, 86, 87, 88, 89, 90, 91, 92, 93, 94, 95, 96, 97, 98, 99, 100, 101, 102, 103, 104, 105, 106, 107, 108, 109, 110, 111, 112, 113, 114, 115, 116], 1)]

def f8_10 (w0 : World) (K : Value → AH → Prop) (a0 : Option Go.Addr) (n0 : Nat) (c0 : Nat) (x7 : Option Go.Addr) (x8 : Option Go.Addr) (a10 : Option Go.Addr) (n10 : Nat) (c10 : Nat) (x11 : Int) (x12 : Bool) (a13 : Option Go.Addr) (n13 : Nat) (c13 : Nat) (x14 : Int) (h : AH) : Prop :=
  ∀ j : Nat → Value, LPk Go.Proofs.Try.prog w0 (EvC Go.Proofs.Try.prog w0) f8_J 8 K 10 [.v (.slice a0 n0 c0), .v (j 1), .v (j 2), .v (j 3), .v (j 4), .v (j 5), .v (j 6), .v (.pointer x7), .v (.pointer x8), .v (j 9), .v (.slice a10 n10 c10), .v (.int .i64 x11), .v (.bool x12), .v (.slice a13 n13 c13), .v (.int .i64 x14), .v (j 15), .v (j 16), .v (j 17), .v (j 18), .v (j 19), .v (j 20), .v (j 21), .v (j 22), .v (j 23), .v (j 24), .v (j 25), .v (j 26), .v (j 27), .v (j 28), .v (j 29), .v (j 30), .v (j 31), .v (j 32), .v (j 33), .v (j 34), .v (j 35), .v (j 36), .v (j 37), .v (j 38), .v (j 39), .v (j 40), .v (j 41), .v (j 42), .v (j 43), .v (j 44), .v (j 45), .v (j 46), .v (j 47), .v (j 48), .v (j 49), .v (j 50), .v (j 51), .v (j 52), .v (j 53), .v (j 54), .v (j 55), .v (j 56), .v (j 57), .v (j 58), .v (j 59), .v (j 60), .v (j 61), .v (j 62), .v (j 63), .v (j 64), .v (j 65), .v (j 66), .v (j 67), .v (j 68), .v (j 69), .v (j 70), .v (j 71), .v (j 72), .v (j 73), .v (j 74), .v (j 75), .v (j 76), .v (j 77), .v (j 78), .v (j 79), .v (j 80), .v (j 81), .v (j 82), .v (j 83), .v (j 84), .v (j 85), .v (j 86), .v (j 87), .v (j 88), .v (j 89), .v (j 90), .v (j 91), .v (j 92), .v (j 93), .v (j 94), .v (j 95), .v (j 96), .v (j 97), .v (j 98), .v (j 99), .v (j 100), .v (j 101), .v (j 102), .v (j 103), .v (j 104), .v (j 105), .v (j 106), .v (j 107), .v (j 108), .v (j 109), .v (j 110), .v (j 111), .v (j 112), .v (j 113), .v (j 114), .v (j 115), .v (j 116)] [] h

def f8_12 (w0 : World) (K : Value → AH → Prop) (a0 : Option Go.Addr) (n0 : Nat) (c0 : Nat) (x7 : Option Go.Addr) (x8 : Option Go.Addr) (a10 : Option Go.Addr) (n10 : Nat) (c10 : Nat) (x11 : Int) (x12 : Bool) (a13 : Option Go.Addr) (n13 : Nat) (c13 : Nat) (x14 : Int) (h : AH) : Prop :=
  ∀ j : Nat → Value, LPk Go.Proofs.Try.prog w0 (EvC Go.Proofs.Try.prog w0) f8_J 8 K 12 [.v (.slice a0 n0 c0), .v (j 1), .v (j 2), .v (j 3), .v (j 4), .v (j 5), .v (j 6), .v (.pointer x7), .v (.pointer x8), .v (j 9), .v (.slice a10 n10 c10), .v (.int .i64 x11), .v (.bool x12), .v (.slice a13 n13 c13), .v (.int .i64 x14), .v (j 15), .v (j 16), .v (j 17), .v (j 18), .v (j 19), .v (j 20), .v (j 21), .v (j 22), .v (j 23), .v (j 24), .v (j 25), .v (j 26), .v (j 27), .v (j 28), .v (j 29), .v (j 30), .v (j 31), .v (j 32), .v (j 33), .v (j 34), .v (j 35), .v (j 36), .v (j 37), .v (j 38), .v (j 39), .v (j 40), .v (j 41), .v (j 42), .v (j 43), .v (j 44), .v (j 45), .v (j 46), .v (j 47), .v (j 48), .v (j 49), .v (j 50), .v (j 51), .v (j 52), .v (j 53), .v (j 54), .v (j 55), .v (j 56), .v (j 57), .v (j 58), .v (j 59), .v (j 60), .v (j 61), .v (j 62), .v (j 63), .v (j 64), .v (j 65), .v (j 66), .v (j 67), .v (j 68), .v (j 69), .v (j 70), .v (j 71), .v (j 72), .v (j 73), .v (j 74), .v (j 75), .v (j 76), .v (j 77), .v (j 78), .v (j 79), .v (j 80), .v (j 81), .v (j 82), .v (j 83), .v (j 84), .v (j 85), .v (j 86), .v (j 87), .v (j 88), .v (j 89), .v (j 90), .v (j 91), .v (j 92), .v (j 93), .v (j 94), .v (j 95), .v (j 96), .v (j 97), .v (j 98), .v (j 99), .v (j 100), .v (j 101), .v (j 102), .v (j 103), .v (j 104), .v (j 105), .v (j 106), .v (j 107), .v (j 108), .v (j 109), .v (j 110), .v (j 111), .v (j 112), .v (j 113), .v (j 114), .v (j 115), .v (j 116)] [] h

def f8_23 (w0 : World) (K : Value → AH → Prop) (x7 : Option Go.Addr) (a10 : Option Go.Addr) (n10 : Nat) (c10 : Nat) (a13 : Option Go.Addr) (n13 : Nat) (c13 : Nat) (h : AH) : Prop :=
  ∀ j : Nat → Value, LPk Go.Proofs.Try.prog w0 (EvC Go.Proofs.Try.prog w0) f8_J 8 K 23 [.v (j 0), .v (j 1), .v (j 2), .v (j 3), .v (j 4), .v (j 5), .v (j 6), .v (.pointer x7), .v (j 8), .v (j 9), .v (.slice a10 n10 c10), .v (j 11), .v (j 12), .v (.slice a13 n13 c13), .v (j 14), .v (j 15), .v (j 16), .v (j 17), .v (j 18), .v (j 19), .v (j 20), .v (j 21), .v (j 22), .v (j 23), .v (j 24), .v (j 25), .v (j 26), .v (j 27), .v (j 28), .v (j 29), .v (j 30), .v (j 31), .v (j 32), .v (j 33), .v (j 34), .v (j 35), .v (j 36), .v (j 37), .v (j 38), .v (j 39), .v (j 40), .v (j 41), .v (j 42), .v (j 43), .v (j 44), .v (j 45), .v (j 46), .v (j 47), .v (j 48), .v (j 49), .v (j 50), .v (j 51), .v (j 52), .v (j 53), .v (j 54), .v (j 55), .v (j 56), .v (j 57), .v (j 58), .v (j 59), .v (j 60), .v (j 61), .v (j 62), .v (j 63), .v (j 64), .v (j 65), .v (j 66), .v (j 67), .v (j 68), .v (j 69), .v (j 70), .v (j 71), .v (j 72), .v (j 73), .v (j 74), .v (j 75), .v (j 76), .v (j 77), .v (j 78), .v (j 79), .v (j 80), .v (j 81), .v (j 82), .v (j 83), .v (j 84), .v (j 85), .v (j 86), .v (j 87), .v (j 88), .v (j 89), .v (j 90), .v (j 91), .v (j 92), .v (j 93), .v (j 94), .v (j 95), .v (j 96), .v (j 97), .v (j 98), .v (j 99), .v (j 100), .v (j 101), .v (j 102), .v (j 103), .v (j 104), .v (j 105), .v (j 106), .v (j 107), .v (j 108), .v (j 109), .v (j 110), .v (j 111), .v (j 112), .v (j 113), .v (j 114), .v (j 115), .v (j 116)] [] h

def f8_15 (w0 : World) (K : Value → AH → Prop) (a0 : Option Go.Addr) (n0 : Nat) (c0 : Nat) (x7 : Option Go.Addr) (x8 : Option Go.Addr) (a10 : Option Go.Addr) (n10 : Nat) (c10 : Nat) (x11 : Int) (x12 : Bool) (a13 : Option Go.Addr) (n13 : Nat) (c13 : Nat) (x14 : Int) (x16 : Int) (x56 : Bool) (xb0_0 : Int) (ab0_1 : Option Go.Addr) (nb0_1 : Nat) (cb0_1 : Nat) (h : AH) : Prop :=
  ∀ j : Nat → Value, LPk Go.Proofs.Try.prog w0 (EvC Go.Proofs.Try.prog w0) f8_J 8 K 15 [.v (.slice a0 n0 c0), .v (j 1), .v (j 2), .v (j 3), .v (j 4), .v (j 5), .v (j 6), .v (.pointer x7), .v (.pointer x8), .v (j 9), .v (.slice a10 n10 c10), .v (.int .i64 x11), .v (.bool x12), .v (.slice a13 n13 c13), .v (.int .i64 x14), .bp 0 0, .v (.int .i64 x16), .v (j 17), .v (j 18), .v (j 19), .v (j 20), .v (j 21), .v (j 22), .v (j 23), .v (j 24), .v (j 25), .v (j 26), .v (j 27), .v (j 28), .v (j 29), .v (j 30), .v (j 31), .v (j 32), .v (j 33), .v (j 34), .v (j 35), .v (j 36), .v (j 37), .v (j 38), .v (j 39), .v (j 40), .v (j 41), .v (j 42), .v (j 43), .v (j 44), .v (j 45), .v (j 46), .v (j 47), .v (j 48), .v (j 49), .v (j 50), .v (j 51), .v (j 52), .v (j 53), .v (j 54), .v (j 55), .v (.bool x56), .v (j 57), .v (j 58), .v (j 59), .v (j 60), .v (j 61), .v (j 62), .v (j 63), .v (j 64), .v (j 65), .v (j 66), .v (j 67), .v (j 68), .v (j 69), .v (j 70), .v (j 71), .v (j 72), .v (j 73), .v (j 74), .v (j 75), .v (j 76), .v (j 77), .v (j 78), .v (j 79), .v (j 80), .v (j 81), .v (j 82), .v (j 83), .v (j 84), .v (j 85), .v (j 86), .v (j 87), .v (j 88), .v (j 89), .v (j 90), .v (j 91), .v (j 92), .v (j 93), .v (j 94), .v (j 95), .v (j 96), .v (j 97), .v (j 98), .v (j 99), .v (j 100), .v (j 101), .v (j 102), .v (j 103), .v (j 104), .v (j 105), .v (j 106), .v (j 107), .v (j 108), .v (j 109), .v (j 110), .v (j 111), .v (j 112), .v (j 113), .v (j 114), .v (j 115), .v (j 116)] [some [(.int .i64 xb0_0), (.slice ab0_1 nb0_1 cb0_1)]] h

def f8_16 (w0 : World) (K : Value → AH → Prop) (a0 : Option Go.Addr) (n0 : Nat) (c0 : Nat) (x7 : Option Go.Addr) (x8 : Option Go.Addr) (a10 : Option Go.Addr) (n10 : Nat) (c10 : Nat) (x11 : Int) (x12 : Bool) (a13 : Option Go.Addr) (n13 : Nat) (c13 : Nat) (x14 : Int) (x16 : Int) (x56 : Bool) (xb0_0 : Int) (ab0_1 : Option Go.Addr) (nb0_1 : Nat) (cb0_1 : Nat) (h : AH) : Prop :=
  ∀ j : Nat → Value, LPk Go.Proofs.Try.prog w0 (EvC Go.Proofs.Try.prog w0) f8_J 8 K 16 [.v (.slice a0 n0 c0), .v (j 1), .v (j 2), .v (j 3), .v (j 4), .v (j 5), .v (j 6), .v (.pointer x7), .v (.pointer x8), .v (j 9), .v (.slice a10 n10 c10), .v (.int .i64 x11), .v (.bool x12), .v (.slice a13 n13 c13), .v (.int .i64 x14), .bp 0 0, .v (.int .i64 x16), .v (j 17), .v (j 18), .v (j 19), .v (j 20), .v (j 21), .v (j 22), .v (j 23), .v (j 24), .v (j 25), .v (j 26), .v (j 27), .v (j 28), .v (j 29), .v (j 30), .v (j 31), .v (j 32), .v (j 33), .v (j 34), .v (j 35), .v (j 36), .v (j 37), .v (j 38), .v (j 39), .v (j 40), .v (j 41), .v (j 42), .v (j 43), .v (j 44), .v (j 45), .v (j 46), .v (j 47), .v (j 48), .v (j 49), .v (j 50), .v (j 51), .v (j 52), .v (j 53), .v (j 54), .v (j 55), .v (.bool x56), .v (j 57), .v (j 58), .v (j 59), .v (j 60), .v (j 61), .v (j 62), .v (j 63), .v (j 64), .v (j 65), .v (j 66), .v (j 67), .v (j 68), .v (j 69), .v (j 70), .v (j 71), .v (j 72), .v (j 73), .v (j 74), .v (j 75), .v (j 76), .v (j 77), .v (j 78), .v (j 79), .v (j 80), .v (j 81), .v (j 82), .v (j 83), .v (j 84), .v (j 85), .v (j 86), .v (j 87), .v (j 88), .v (j 89), .v (j 90), .v (j 91), .v (j 92), .v (j 93), .v (j 94), .v (j 95), .v (j 96), .v (j 97), .v (j 98), .v (j 99), .v (j 100), .v (j 101), .v (j 102), .v (j 103), .v (j 104), .v (j 105), .v (j 106), .v (j 107), .v (j 108), .v (j 109), .v (j 110), .v (j 111), .v (j 112), .v (j 113), .v (j 114), .v (j 115), .v (j 116)] [some [(.int .i64 xb0_0), (.slice ab0_1 nb0_1 cb0_1)]] h

theorem f8_10_in {w0 : World} {K : Value → AH → Prop} (a0 : Option Go.Addr) (n0 : Nat) (c0 : Nat) (x7 : Option Go.Addr) (x8 : Option Go.Addr) (a10 : Option Go.Addr) (n10 : Nat) (c10 : Nat) (x11 : Int) (x12 : Bool) (a13 : Option Go.Addr) (n13 : Nat) (c13 : Nat) (x14 : Int) (h : AH)
  (hv : (brB (decide ((x14 < ((n0 : Nat) : Int)))) (brB (decide ((x14 < (20 : Int)))) (f8_12 w0 K a0 n0 c0 x7 x8 a10 n10 c10 x11 x12 a13 n13 c13 x14 h) (f8_23 w0 K x7 a10 n10 c10 a13 n13 c13 h)) (f8_23 w0 K x7 a10 n10 c10 a13 n13 c13 h))) :
  f8_10 w0 K a0 n0 c0 x7 x8 a10 n10 c10 x11 x12 a13 n13 c13 x14 h := fun j => LP_intro (P := Go.Proofs.Try.prog) (Eq.mp (by kernel_rfl) hv)

theorem f8_12_in {w0 : World} {K : Value → AH → Prop} (a0 : Option Go.Addr) (n0 : Nat) (c0 : Nat) (x7 : Option Go.Addr) (x8 : Option Go.Addr) (a10 : Option Go.Addr) (n10 : Nat) (c10 : Nat) (x11 : Int) (x12 : Bool) (a13 : Option Go.Addr) (n13 : Nat) (c13 : Nat) (x14 : Int) (h : AH)
  (hv : (∃ a'9 : Go.Addr, ((a0 = (some a'9)) ∧ (((0 : Int) ≤ x14) ∧ ((x14 < ((n0 : Nat) : Int)) ∧ (∃ i'10 : Int, (((Go.G.cellA w0 h (Go.Addr.add a'9 ((Int.toNat x14) * 1))) = (some (Go.Value.int .i64 i'10))) ∧ (((5 : Int) ≠ (0 : Int)) ∧ (((5 : Int) ≠ (0 : Int)) ∧ (EvC Go.Proofs.Try.prog w0 13 #[(Go.Value.int .i64 x11), (Go.Value.int .i64 (Go.IntKind.wrap .i64 ((Int.tmod (Go.IntKind.wrap .i64 ((Int.tmod i'10 (5 : Int)) + (5 : Int))) (5 : Int)) + (1 : Int))))] (fun x'11 h'12 => (∃ i'13 : Int, (∃ p'14 : Option Go.Addr, (∃ n'15 : Nat, (∃ n'16 : Nat, ((x'11 = (Go.Value.agg #[(Go.Value.int .i64 i'13), (Go.Value.slice p'14 n'15 n'16)])) ∧ (EvC Go.Proofs.Try.prog w0 12 #[(Go.Value.pointer x8), (Go.Value.agg #[(Go.Value.int .i64 i'13), (Go.Value.slice p'14 n'15 n'16)])] (fun x'17 h'18 => (∃ i'19 : Int, ((x'17 = (Go.Value.int .i64 i'19)) ∧ (brB x12 (f8_15 w0 K a0 n0 c0 x7 x8 a10 n10 c10 x11 x12 a13 n13 c13 x14 i'19 (i'19 != (12 : Int)) i'13 p'14 n'15 n'16 h'18) (f8_15 w0 K a0 n0 c0 x7 x8 a10 n10 c10 x11 x12 a13 n13 c13 x14 i'19 false i'13 p'14 n'15 n'16 h'18))))) h'12))))))) h)))))))))) :
  f8_12 w0 K a0 n0 c0 x7 x8 a10 n10 c10 x11 x12 a13 n13 c13 x14 h := fun j => LP_intro (P := Go.Proofs.Try.prog) (Eq.mp (by kernel_rfl) hv)

theorem f8_23_in {w0 : World} {K : Value → AH → Prop} (x7 : Option Go.Addr) (a10 : Option Go.Addr) (n10 : Nat) (c10 : Nat) (a13 : Option Go.Addr) (n13 : Nat) (c13 : Nat) (h : AH)
  (hv : (EvC Go.Proofs.Try.prog w0 27 #[(Go.Value.pointer x7), (Go.Value.slice none 0 0)] (fun x'20 h'21 => ((x'20 = (Go.Value.tuple #[])) ∧ (EvC Go.Proofs.Try.prog w0 11 #[(Go.Value.pointer x7), (Go.Value.string (ByteArray.mk #[(119 : UInt8)]))] (fun x'22 h'23 => (∃ p'24 : Option Go.Addr, (∃ p'25 : Option Go.Addr, (∃ n'26 : Nat, (∃ n'27 : Nat, (∃ i'28 : Int, ((x'22 = (Go.Value.tuple #[(Go.Value.pointer p'24), (Go.Value.slice p'25 n'26 n'27), (Go.Value.int .i64 i'28)])) ∧ (newB w0 h'23 (Go.G.AB.cells [] 0) (fun b'29 h'30 => (rowsOf w0 h'30 2 a10 n10 (fun ys'31 => (App w0 h'30 2 32 (some (Go.Addr.mk b'29 0 none)) 0 0 n10 ys'31 (fun a'32 c'33 h'34 => (rowsOf w0 h'34 2 a13 n13 (fun ys'35 => (App w0 h'34 2 32 a'32 (0 + n10) c'33 n13 ys'35 (fun a'36 c'37 h'38 => (brB (i'28 == (0 : Int)) (EvC Go.Proofs.Try.prog w0 16 #[(Go.Value.slice p'25 n'26 n'27), (Go.Value.slice a10 n10 c10)] (fun x'39 h'40 => (∃ t'41 : Bool, ((x'39 = (Go.Value.bool t'41)) ∧ (brB t'41 (EvC Go.Proofs.Try.prog w0 15 #[] (fun x'42 h'43 => (∃ t'44 : Bool, ((x'42 = (Go.Value.bool t'44)) ∧ (K (Go.Value.bool t'44) h'43)))) h'40) (EvC Go.Proofs.Try.prog w0 16 #[(Go.Value.slice p'25 n'26 n'27), (Go.Value.slice a'36 ((0 + n10) + n13) c'37)] (fun x'45 h'46 => (∃ t'47 : Bool, ((x'45 = (Go.Value.bool t'47)) ∧ (brB t'47 (EvC Go.Proofs.Try.prog w0 15 #[] (fun x'48 h'49 => (∃ t'50 : Bool, ((x'48 = (Go.Value.bool t'50)) ∧ (K (Go.Value.bool t'50) h'49)))) h'46) (K (Go.Value.bool false) h'46))))) h'40))))) h'38) (K (Go.Value.bool false) h'38))))))))))))))))))) h'21))) h)) :
  f8_23 w0 K x7 a10 n10 c10 a13 n13 c13 h := fun j => LP_intro (P := Go.Proofs.Try.prog) (Eq.mp (by kernel_rfl) hv)

theorem f8_15_in {w0 : World} {K : Value → AH → Prop} (a0 : Option Go.Addr) (n0 : Nat) (c0 : Nat) (x7 : Option Go.Addr) (x8 : Option Go.Addr) (a10 : Option Go.Addr) (n10 : Nat) (c10 : Nat) (x11 : Int) (x12 : Bool) (a13 : Option Go.Addr) (n13 : Nat) (c13 : Nat) (x14 : Int) (x16 : Int) (x56 : Bool) (xb0_0 : Int) (ab0_1 : Option Go.Addr) (nb0_1 : Nat) (cb0_1 : Nat) (h : AH)
  (hv : (brB x56 (f8_16 w0 K a0 n0 c0 x7 x8 a10 n10 c10 x11 x12 a13 n13 c13 x14 x16 true xb0_0 ab0_1 nb0_1 cb0_1 h) (brB (!x12) (brB (x16 != (0 : Int)) (f8_16 w0 K a0 n0 c0 x7 x8 a10 n10 c10 x11 x12 a13 n13 c13 x14 x16 (x16 != (9 : Int)) xb0_0 ab0_1 nb0_1 cb0_1 h) (f8_16 w0 K a0 n0 c0 x7 x8 a10 n10 c10 x11 x12 a13 n13 c13 x14 x16 false xb0_0 ab0_1 nb0_1 cb0_1 h)) (f8_16 w0 K a0 n0 c0 x7 x8 a10 n10 c10 x11 x12 a13 n13 c13 x14 x16 false xb0_0 ab0_1 nb0_1 cb0_1 h)))) :
  f8_15 w0 K a0 n0 c0 x7 x8 a10 n10 c10 x11 x12 a13 n13 c13 x14 x16 x56 xb0_0 ab0_1 nb0_1 cb0_1 h := fun j => LP_intro (P := Go.Proofs.Try.prog) (Eq.mp (by kernel_rfl) hv)

theorem f8_16_in {w0 : World} {K : Value → AH → Prop} (a0 : Option Go.Addr) (n0 : Nat) (c0 : Nat) (x7 : Option Go.Addr) (x8 : Option Go.Addr) (a10 : Option Go.Addr) (n10 : Nat) (c10 : Nat) (x11 : Int) (x12 : Bool) (a13 : Option Go.Addr) (n13 : Nat) (c13 : Nat) (x14 : Int) (x16 : Int) (x56 : Bool) (xb0_0 : Int) (ab0_1 : Option Go.Addr) (nb0_1 : Nat) (cb0_1 : Nat) (h : AH)
  (hv : (brB x56 (K (Go.Value.bool false) h) (brB (x16 == (0 : Int)) (App w0 h 2 32 a10 n10 c10 1 [(Go.Value.int .i64 xb0_0), (Go.Value.slice ab0_1 nb0_1 cb0_1)] (fun a'51 c'52 h'53 => (f8_10 w0 K a0 n0 c0 x7 x8 a'51 (n10 + 1) c'52 (Go.IntKind.wrap .i64 (x11 + ((nb0_1 : Nat) : Int))) x12 a13 n13 c13 (Go.IntKind.wrap .i64 (x14 + (1 : Int))) h'53))) (brB (!x12) (newB w0 h (Go.G.AB.cells [(Go.Value.int .i64 xb0_0), (Go.Value.slice ab0_1 nb0_1 cb0_1)] (List.length [(Go.Value.int .i64 xb0_0), (Go.Value.slice ab0_1 nb0_1 cb0_1)])) (fun b'54 h'55 => (f8_10 w0 K a0 n0 c0 x7 x8 a10 n10 c10 x11 true (some (Go.Addr.mk b'54 0 none)) 1 1 (Go.IntKind.wrap .i64 (x14 + (1 : Int))) h'55))) (f8_10 w0 K a0 n0 c0 x7 x8 a10 n10 c10 x11 x12 a13 n13 c13 (Go.IntKind.wrap .i64 (x14 + (1 : Int))) h))))) :
  f8_16 w0 K a0 n0 c0 x7 x8 a10 n10 c10 x11 x12 a13 n13 c13 x14 x16 x56 xb0_0 ab0_1 nb0_1 cb0_1 h := fun j => LP_intro (P := Go.Proofs.Try.prog) (Eq.mp (by kernel_rfl) hv)

theorem f8_go {w0 : World} {K : Value → AH → Prop} (a0 : Option Go.Addr) (n0 : Nat) (c0 : Nat) (x1 : Int) (x2 : Int) (h : AH)
  (hv : (EvC Go.Proofs.Try.prog w0 9 #[(Go.Value.int .i64 (1048576 : Int))] (fun x'0 h'1 => (∃ p'2 : Option Go.Addr, ((x'0 = (Go.Value.pointer p'2)) ∧ (EvC Go.Proofs.Try.prog w0 10 #[(Go.Value.pointer p'2), (Go.Value.string (ByteArray.mk #[(119 : UInt8)]))] (fun x'3 h'4 => (∃ p'5 : Option Go.Addr, (∃ i'6 : Int, ((x'3 = (Go.Value.tuple #[(Go.Value.pointer p'5), (Go.Value.int .i64 i'6)])) ∧ (brB (i'6 != (0 : Int)) (K (Go.Value.bool false) h'4) (EvC Go.Proofs.Try.prog w0 28 #[(Go.Value.pointer p'2), (Go.Value.int .i64 x1), (Go.Value.int .i64 x2)] (fun x'7 h'8 => ((x'7 = (Go.Value.tuple #[])) ∧ (f8_10 w0 K a0 n0 c0 p'2 p'5 none 0 0 (1 : Int) false none 0 0 (0 : Int) h'8))) h'4)))))) h'1)))) h)) :
  EvC Go.Proofs.Try.prog w0 8 ([(.slice a0 n0 c0), (.int .i64 x1), (.int .i64 x2)]).toArray K h := EvC_intro (P := Go.Proofs.Try.prog) f8_J (Eq.mp (by kernel_rfl) hv)
/-! ### WalFaults -/
section
variable {w0 : World} {K : Value → AH → Prop}
theorem f8_spec {a : Option Addr} {c : Nat} {l : List Int} {x y : Int} (hl : PickOk w0 a c l) (hll : l.length ≤ 1000000000000000) (hx : x ≤ 9223372036854775807) (hy : y ≤ 9223372036854775807) (hk : ∀ h, K (.bool true) h) :
    EvC Go.Proofs.Try.prog w0 8 #[.slice a l.length c, .int .i64 x, .int .i64 y] K (fun _ => none) := by
  have tail : ∀ (bd : Nat) (s : Ds) (D : PD) (m m1 : List BaM) (ma a1 : Option Addr) (mc c1 : Nat) (u : List UInt8) (h : AH), D.bd = bd → PRep s D → s.calls < 1000000 → W1 s (fileB (m.map BaM.bat) ++ u) (fileB (m.map BaM.bat)).length → (fileB (m.map BaM.bat)).length ≤ 4194304 → m.length ≤ 20 → m1.length ≤ 1 →
      (∀ b ∈ m.map BaM.bat, okB b) → chainB 0 (m.map BaM.bat) → SlV 2 ma m.length mc (batC m) → BsV m → SlV 2 a1 m1.length c1 (batC m1) → BsV m1 → Own w0 h (D.blocks s ++ (slB ma (batC m) (mc * 2) ++ (ownB m ++ (slB a1 (batC m1) (c1 * 2) ++ ownB m1)))) →
      f8_23 w0 K (some ⟨bd, 0, none⟩) ma m.length mc a1 m1.length c1 h := fun bd s D m m1 ma a1 mc c1 u h hbd r hc hw hlen hm hm1 hok hch v vs v1 vs1 w => by
    subst hbd
    refine f8_23_in _ _ _ _ _ _ _ _ (f27_spec (l := []) r w (by omega) PickOk.nil fun h1 D1 b1 r1 w1 => ⟨rfl, ?_⟩)
    obtain ⟨k', k1, k2, e, ek⟩ := crash_w hw []
    rw [ek rfl, List.take_left'] at e
    · rw [← b1]
      refine f11_spec (bs := m.map BaM.bat) (tl := []) r1 w1 (by rw [List.append_nil]; exact e) (by rw [List.append_nil]; exact hlen) (by simp; omega) hok hch (Or.inl rfl) fun h2 lb a2 c2 ms he gv gvs w2 => ⟨_, _, _, _, _, rfl, ?_⟩
      have w3 : Own w0 h2 (slB a2 (batC ms) (c2 * 2) ++ (ownB ms ++ (slB ma (batC m) (mc * 2) ++ (ownB m ++ (slB a1 (batC m1) (c1 * 2) ++ ownB m1))))) := by
        refine partO w2 (List.Sublist.trans ?_ (List.sublist_cons_self ..))
        exact List.Sublist.append_left (List.Sublist.append_left (List.sublist_append_right _ _) _) _
      exact tell_all (G := fun h' => EvC Go.Proofs.Try.prog w0 15 #[] (fun x'51 h'52 => (∃ t'53 : Bool, ((x'51 = (.bool t'53)) ∧ (K (.bool t'53) h'52)))) h') (F := K (.bool false)) w3 gv gvs v vs v1 vs1 (by omega) (by omega) (by rw [he]; exact hok) (Or.inl he) (fun h' w' => f15_spec w' fun h4 _ => ⟨_, rfl, hk h4⟩) fun a3 c3 h3 g => brB_of (fun _ => g) fun z => by cases z
    · rfl
  -- what stands at the loop's head: `m1` is the first batch that was refused, if there is one
  have loop : ∀ (bd lb k i : Nat), i + k = l.length → i ≤ 20 → ∀ (s : Ds) (D : PD) (L : Lg) (m m1 : List BaM) (ma a1 : Option Addr) (mc c1 : Nat) (u : List UInt8) (seq : Int) (h : AH), D.bd = bd → PRep s D → Nf s → W1 s (fileB (m.map BaM.bat) ++ u) (fileB (m.map BaM.bat)).length → m1.length ≤ 1 → (L.failed = false → u = [] ∧ m1 = [] ∧ a1 = none ∧ c1 = 0) → SlV 2 a1 m1.length c1 (batC m1) → BsV m1 → Lk s L m ma mc seq i → Own w0 h (LgO lb bd L :: (D.blocks s ++ (slB ma (batC m) (mc * 2) ++ (ownB m ++ (slB a1 (batC m1) (c1 * 2) ++ ownB m1))))) →
      f8_10 w0 K a l.length c (some ⟨bd, 0, none⟩) (some ⟨lb, 0, none⟩) ma m.length mc seq L.failed a1 m1.length c1 ((i : Nat) : Int) h := fun bd lb k => by
    induction k with
    | zero =>
      intro i hi hi2 s D L m m1 ma a1 mc c1 u seq h hbd r nf hw hm1 hL v1 vs1 t w
      have tl := t.fl
      have tm := t.ml
      have tc := t.ca
      exact f8_10_in _ _ _ _ _ _ _ _ _ _ _ _ _ _ _ (brB_of (fun z => by have := of_decide_eq_true z; omega) fun _ => tail bd s D m m1 ma a1 mc c1 u h hbd r (by omega) hw (by omega) (by omega) hm1 t.ok t.ch t.v t.vs v1 vs1 w.tail)
    | succ k ih =>
      intro i hi hi2 s D L m m1 ma a1 mc c1 u seq h hbd r nf hw hm1 hL v1 vs1 t w
      have tl := t.fl
      have tm := t.ml
      have tc := t.ca
      have t1 := t.s1
      have t2 := t.s2
      have fin : f8_23 w0 K (some ⟨bd, 0, none⟩) ma m.length mc a1 m1.length c1 h := tail bd s D m m1 ma a1 mc c1 u h hbd r (by omega) hw (by omega) (by omega) hm1 t.ok t.ch t.v t.vs v1 vs1 w.tail
      refine f8_10_in _ _ _ _ _ _ _ _ _ _ _ _ _ _ _ (brB_of (fun _ => brB_of (fun z => ?_) fun _ => fin) fun z => by have := of_decide_eq_false z; omega)
      have hi3 : i < 20 := by have := of_decide_eq_true z; omega
      have hg : l[i]? = some l[i] := List.getElem?_eq_getElem _
      obtain ⟨ad, had, cc⟩ := hl.rd h i (.int .i64 l[i]) (by simp [i64s, hg])
      refine f8_12_in _ _ _ _ _ _ _ _ _ _ _ _ _ _ _ ⟨ad, had, by omega, by omega, _, by rw [Int.toNat_natCast, Nat.mul_one]; exact cc, by decide, by decide, ?_⟩
      obtain ⟨kk, k1, k5, ek⟩ := k_of5 l[i]
      rw [ek]
      have lin := lastB_in t.ok
      rw [← t.last] at lin
      have hF := one_len (seq := seq) (n := kk) (by omega) t1 (by omega)
      have ho := one_ok (seq := seq) k1 (by omega) t1 (by omega)
      refine one_raw (K2 := fun e i'13 p'14 n'15 n'16 h'18 => brB L.failed (f8_15 w0 K a l.length c (some ⟨bd, 0, none⟩) (some ⟨lb, 0, none⟩) ma m.length mc seq L.failed a1 m1.length c1 ((i : Nat) : Int) e (e != (12 : Int)) i'13 p'14 n'15 n'16 h'18)
        (f8_15 w0 K a l.length c (some ⟨bd, 0, none⟩) (some ⟨lb, 0, none⟩) ma m.length mc seq L.failed a1 m1.length c1 ((i : Nat) : Int) e false i'13 p'14 n'15 n'16 h'18)) hbd r w (by omega) k5 lin (by rw [t.size]; omega) fun h1 D1 oa oc os e ov ovs b1 r1 w1 => ?_
      have hol : os.length = kk := by have := congrArg List.length e; simpa [oneS_len] using this
      cases hf : L.failed with
      | true =>
        have ea : appendW L s seq (oneS kk) = (12, L, s) := by
          unfold appendW
          rw [if_neg (by rw [ho.1]; simp), if_neg (by intro z; exact z.2 (t.sq z.1)), if_neg (by have := ho.2; simp only at this; omega), if_neg (by rw [t.torn]; simp), if_pos hf]
        rw [ea] at r1 w1 ⊢
        refine brB_of (fun _ => f8_15_in _ _ _ _ _ _ _ _ _ _ _ _ _ _ _ _ _ _ _ _ _ (brB_of (fun z => by cases z) fun _ => brB_of (fun z => by cases z) fun _ => ?_)) fun z => by cases z
        refine f8_16_in _ _ _ _ _ _ _ _ _ _ _ _ _ _ _ _ _ _ _ _ _ (brB_of (fun z => by cases z) fun _ => brB_of (fun z => by cases z) fun _ => brB_of (fun z => by cases z) fun _ => ?_)
        rw [wrapS (by omega)]
        have t' : Lk s L m ma mc seq (i + 1) := ⟨t.nm, t.last, t.size, t.torn, t.ok, t.ch, t.v, t.vs, t.sq, t.s1, by omega, by omega, by omega, by omega⟩
        have := ih (i + 1) (by omega) (by omega) s D1 L m m1 ma a1 mc c1 u seq h1 b1 r1 nf hw hm1 hL v1 vs1 t' (by
          refine partO w1 (List.Sublist.cons_cons _ (List.Sublist.append_left ?_ _))
          exact List.Sublist.trans (List.sublist_append_right _ _) (List.sublist_append_right _ _))
        rw [hf] at this
        exact this
      | false =>
        obtain ⟨rfl, rfl, rfl, rfl⟩ := hL hf
        rw [List.append_nil] at hw
        have hcc := appendW_calls (s := s) t.nm ho t.sq t.torn hf
        obtain ⟨nf1, hcase⟩ := appendW_nf nf hw t.nm ho t.sq t.torn hf (by omega)
        refine brB_of (fun z => by cases z) fun _ => f8_15_in _ _ _ _ _ _ _ _ _ _ _ _ _ _ _ _ _ _ _ _ _ (brB_of (fun z => by cases z) fun _ => brB_of (fun _ => ?_) fun z => by cases z)
        rcases hcase with ⟨e0, eL, hw1⟩ | ⟨e0, eL, u', hw1⟩
        · rw [e0]
          refine brB_of (fun z => by cases z) fun _ => f8_16_in _ _ _ _ _ _ _ _ _ _ _ _ _ _ _ _ _ _ _ _ _ (brB_of (fun z => by cases z) fun _ => brB_of (fun _ => ?_) fun z => by cases z)
          have w2 : Own w0 h1 ((LgO lb bd (appendW L s seq (oneS kk)).2.1 :: (D1.blocks (appendW L s seq (oneS kk)).2.2 ++ (slB oa (opsC os) (oc * 4) ++ ownO os))) ++ (slB ma (batC m) (mc * 2) ++ ownB m)) := by
            simpa [slB, ownB] using w1
          refine App_mid t.v w2 (by omega) (by omega) rfl (row2_cell ⟨seq, oa, oc, os⟩) fun a8 c8 h8 v8 w8 => ?_
          have eo : batC m ++ [.int .i64 seq, .slice oa os.length oc] = batC (m ++ [(⟨seq, oa, oc, os⟩ : BaM)]) := by simp [batC]
          rw [eo] at v8 w8
          rw [wrapS (by omega), wrap64 (by omega) (by omega), hol]
          have t' := t.more k1 k5 (by omega) e eL v8 ov ovs hcc
          have eb : (m ++ [(⟨seq, oa, oc, os⟩ : BaM)]).map BaM.bat = m.map BaM.bat ++ [(seq, oneS kk)] := by simp [BaM.bat, e]
          have ef : fileB ((m ++ [(⟨seq, oa, oc, os⟩ : BaM)]).map BaM.bat) = fileB (m.map BaM.bat) ++ frameB (encB seq (oneS kk)) := by rw [eb, fileB_app]
          have hf1 : (appendW L s seq (oneS kk)).2.1.failed = false := by rw [eL]; exact hf
          have := ih (i + 1) (by omega) (by omega) _ D1 (appendW L s seq (oneS kk)).2.1 (m ++ [⟨seq, oa, oc, os⟩]) [] a8 none c8 0 [] (seq + kk) h8 b1 r1 nf1 (by rw [ef, List.append_nil]; exact hw1) (Nat.zero_le _) (fun _ => ⟨rfl, rfl, rfl, rfl⟩) SlV.nil (fun _ z => by cases z) t' (by
            have eow : ownB (m ++ [(⟨seq, oa, oc, os⟩ : BaM)]) = ownB m ++ (slB oa (opsC os) (oc * 4) ++ ownO os) := by simp [ownB]
            rw [eow]
            refine w8.perm ?_
            have p1 := List.perm_append_comm (l₁ := slB oa (opsC os) (oc * 4) ++ ownO os) (l₂ := slB a8 (batC (m ++ [(⟨seq, oa, oc, os⟩ : BaM)])) (c8 * 2) ++ ownB m)
            have p2 := List.Perm.cons (LgO lb bd (appendW L s seq (oneS kk)).2.1) (List.Perm.append_left (D1.blocks (appendW L s seq (oneS kk)).2.2) p1)
            have e9 : slB none (batC ([] : List BaM)) (0 * 2) ++ ownB [] = [] := rfl
            rw [e9, List.append_nil]
            simpa only [List.append_assoc, List.cons_append] using p2)
          have el : (m ++ [(⟨seq, oa, oc, os⟩ : BaM)]).length = m.length + 1 := by simp
          rw [el, hf1] at this
          exact this
        · rw [e0]
          refine brB_of (fun _ => f8_16_in _ _ _ _ _ _ _ _ _ _ _ _ _ _ _ _ _ _ _ _ _ (brB_of (fun z => by cases z) fun _ => brB_of (fun z => by cases z) fun _ => brB_of (fun _ => ?_) fun z => by cases z)) fun z => by cases z
          intro bb hb0 hbn
          have w2 := w1.new (o := .cells [.int .i64 seq, .slice oa os.length oc] 2) hb0 hbn
          rw [wrapS (by omega)]
          have hf1 : (appendW L s seq (oneS kk)).2.1.failed = true := by rw [eL]
          have t' : Lk (appendW L s seq (oneS kk)).2.2 (appendW L s seq (oneS kk)).2.1 m ma mc seq (i + 1) := by
            rw [eL]
            exact ⟨t.nm, t.last, t.size, t.torn, t.ok, t.ch, t.v, t.vs, t.sq, t.s1, by omega, by omega, by omega, by omega⟩
          have := ih (i + 1) (by omega) (by omega) _ D1 (appendW L s seq (oneS kk)).2.1 m [⟨seq, oa, oc, os⟩] ma (some ⟨bb, 0, none⟩) mc 1 u' seq _ b1 r1 nf1 hw1 (Nat.le_refl _) (fun z => by rw [hf1] at z; cases z) ⟨rfl, Nat.le_refl _, rfl, rfl⟩ (fun y hy => by rw [List.mem_singleton] at hy; subst hy; exact ⟨ov, ovs⟩) t' (by
            refine w2.perm ?_
            have eow : ownB [(⟨seq, oa, oc, os⟩ : BaM)] = slB oa (opsC os) (oc * 4) ++ ownO os := by simp [ownB]
            have eslb : slB (some ⟨bb, 0, none⟩) (batC [(⟨seq, oa, oc, os⟩ : BaM)]) (1 * 2) = [(bb, AB.cells [.int .i64 seq, .slice oa os.length oc] 2)] := by simp [slB, batC]
            have e9 : slB none (batC ([] : List BaM)) (0 * 2) ++ ownB [] = [] := rfl
            rw [eow, eslb, e9, List.append_nil]
            have p0 := List.perm_append_comm (l₁ := (bb, AB.cells [.int .i64 seq, .slice oa os.length oc] 2) :: (slB oa (opsC os) (oc * 4) ++ ownO os)) (l₂ := slB ma (batC m) (mc * 2) ++ ownB m)
            have p1 := (List.perm_middle (a := (bb, AB.cells [.int .i64 seq, .slice oa os.length oc] 2)) (l₁ := D1.blocks (appendW L s seq (oneS kk)).2.2) (l₂ := (slB oa (opsC os) (oc * 4) ++ ownO os) ++ (slB ma (batC m) (mc * 2) ++ ownB m))).symm.trans (List.Perm.append_left _ p0)
            have p2 := (List.Perm.swap (LgO lb bd (appendW L s seq (oneS kk)).2.1) (bb, AB.cells [.int .i64 seq, .slice oa os.length oc] 2) (D1.blocks (appendW L s seq (oneS kk)).2.2 ++ ((slB oa (opsC os) (oc * 4) ++ ownO os) ++ (slB ma (batC m) (mc * 2) ++ ownB m)))).trans (List.Perm.cons _ p1)
            simpa only [List.append_assoc, List.cons_append, List.nil_append] using p2)
          rw [hf1] at this
          exact this
  have wB : Own w0 (fun _ => none) [] := ⟨by simp, fun _ h => (by cases h), fun _ h => (by cases h)⟩
  obtain ⟨g1, g2, g3, g4, g5, g6, g7⟩ := create_w
  refine f8_go _ _ _ _ _ _ (f9_spec (room := 1048576) (by omega) wB fun h1 D r1 w1 => ⟨_, rfl, ?_⟩)
  refine f10_spec (n := nW) r1 w1 (by show (0 : Int) < _; decide) (fun z => absurd g1 z) (fun _ z => absurd g2 z) fun _ _ h2 D2 lb b2 r2 w2 => ⟨_, _, rfl, brB_of (fun z => by cases z) fun _ => ?_⟩
  rw [← b2] at w2 ⊢
  have w3 : Own w0 h2 (D2.blocks sW ++ [LgO lb D2.bd ⟨nW, 0, 0, false, false⟩]) := by
    have := w2.perm (List.perm_middle (l₁ := D2.blocks sW)).symm
    exact this
  refine f28_spec r2 w3 hx hy fun h3 r3 w4 => ⟨rfl, ?_⟩
  have w5 : Own w0 h3 (LgO lb D2.bd ⟨nW, 0, 0, false, false⟩ :: (D2.blocks (faultS x y sW) ++ [])) := w4.perm List.perm_middle
  have ew : W1 (faultS x y sW) [] 0 := ⟨faultS_ok g3.ok hx hy, g3.dir, g3.was, g3.fs, g3.room⟩
  have ez : Nf (faultS x y sW) := ⟨g4, g5⟩
  exact loop D2.bd lb l.length 0 (by omega) (by omega) (faultS x y sW) D2 ⟨nW, 0, 0, false, false⟩ [] [] none none 0 0 [] 1 h3 rfl r3 ez ew (Nat.zero_le _) (fun _ => ⟨rfl, rfl, rfl, rfl⟩) SlV.nil (fun _ z => (by cases z)) ⟨rfl, rfl, rfl, rfl, fun _ z => (by cases z), trivial, SlV.nil, fun _ z => (by cases z), fun z => (by cases z), by decide, by decide, by decide, Nat.le_refl _, by show sW.calls ≤ _; rw [g7]; decide⟩ w5
end
end Go.G.Ytlghmjehibikeaa
