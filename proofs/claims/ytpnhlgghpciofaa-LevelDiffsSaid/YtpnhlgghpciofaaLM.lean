/- edit.May; slices.Contains. -/
import Derived.Test.YtpnhlgghpciofaaLG
import Derived.Test.YtpnhlgghpciofaaProg
set_option maxRecDepth 100000
namespace Go.G.Ytpnhlgghpciofaa
open Go.RowKit
def f70_J : Nat → List Nat × Nat := jOf []



theorem f70_go {w0 : World} {K : Value → AH → Prop} (x0 : Int) (h : AH)
  (hv : (brB (decide (((0 : Int) ≤ x0))) (K (Go.Value.bool (decide ((x0 ≤ (4611686018427387904 : Int))))) h) (K (Go.Value.bool false) h))) :
  EvC Go.Proofs.Try.prog w0 70 ([(.int .i64 x0)]).toArray K h := EvC_intro (P := Go.Proofs.Try.prog) f70_J (Eq.mp (by kernel_rfl) hv)
def f71_J : Nat → List Nat × Nat := jOf [(2, [2, 3, 4, 5, 6, 9, 10, 11, 12, 13, 14, 15, 16, 17, 18], 0)]

def f71_2 (w0 : World) (K : Value → AH → Prop) (a0 : Option Go.Addr) (n0 : Nat) (c0 : Nat) (x1 : Int) (x7 : Int) (x8 : Int) (h : AH) : Prop :=
  ∀ j : Nat → Value, LPk Go.Proofs.Try.prog w0 (EvC Go.Proofs.Try.prog w0) f71_J 71 K 2 [.v (.slice a0 n0 c0), .v (.int .i64 x1), .v (j 2), .v (j 3), .v (j 4), .v (j 5), .v (j 6), .v (.int .i64 x7), .v (.int .i64 x8), .v (j 9), .v (j 10), .v (j 11), .v (j 12), .v (j 13), .v (j 14), .v (j 15), .v (j 16), .v (j 17), .v (j 18)] [] h

theorem f71_2_in {w0 : World} {K : Value → AH → Prop} (a0 : Option Go.Addr) (n0 : Nat) (c0 : Nat) (x1 : Int) (x7 : Int) (x8 : Int) (h : AH)
  (hv : (brB (decide ((x8 < x7))) (∃ a'0 : Go.Addr, ((a0 = (some a'0)) ∧ (((0 : Int) ≤ x8) ∧ ((x8 < ((n0 : Nat) : Int)) ∧ (∃ i'1 : Int, (((Go.G.cellA w0 h (Go.Addr.add a'0 ((Int.toNat x8) * 1))) = (some (Go.Value.int .i64 i'1))) ∧ (brB (x1 == i'1) (K (Go.Value.int .i64 x8) h) (f71_2 w0 K a0 n0 c0 x1 x7 (Go.IntKind.wrap .i64 (x8 + (1 : Int))) h)))))))) (K (Go.Value.int .i64 (-1 : Int)) h))) :
  f71_2 w0 K a0 n0 c0 x1 x7 x8 h := fun j => LP_intro (P := Go.Proofs.Try.prog) (Eq.mp (by kernel_rfl) hv)

theorem f71_go {w0 : World} {K : Value → AH → Prop} (a0 : Option Go.Addr) (n0 : Nat) (c0 : Nat) (x1 : Int) (h : AH)
  (hv : (f71_2 w0 K a0 n0 c0 x1 ((n0 : Nat) : Int) (0 : Int) h)) :
  EvC Go.Proofs.Try.prog w0 71 ([(.slice a0 n0 c0), (.int .i64 x1)]).toArray K h := EvC_intro (P := Go.Proofs.Try.prog) f71_J (Eq.mp (by kernel_rfl) hv)
def f57_J : Nat → List Nat × Nat := jOf []



theorem f57_go {w0 : World} {K : Value → AH → Prop} (a0 : Option Go.Addr) (n0 : Nat) (c0 : Nat) (x1 : Int) (h : AH)
  (hv : (EvC Go.Proofs.Try.prog w0 71 #[(Go.Value.slice a0 n0 c0), (Go.Value.int .i64 x1)] (fun x'0 h'1 => (∃ i'2 : Int, ((x'0 = (Go.Value.int .i64 i'2)) ∧ (K (Go.Value.bool (decide (((0 : Int) ≤ i'2)))) h'1)))) h)) :
  EvC Go.Proofs.Try.prog w0 57 ([(.slice a0 n0 c0), (.int .i64 x1)]).toArray K h := EvC_intro (P := Go.Proofs.Try.prog) f57_J (Eq.mp (by kernel_rfl) hv)
def f56_J : Nat → List Nat × Nat := jOf [(2, [0, 2, 3, 4, 5, 6, 7, 8, 9, 10, 11, 12, 13, 14, 15, 16, 17, 18, 19, 20, 21, 22, 23, 24, 25, 26, 27, 28, 29, 30, 31, 32, 33, 34, 35, 37, 38, 39, 40, 41, 42, 43, 44, 45, 46, 47, 48, 49, 50, 51, 52, 53, 54, 55, 56, 57, 58, 59, 60, 61, 62, 63, 64, 65, 66, 67, 68, 69, 70, 71, 72, 73, 74, 75, 76, 77, 78, 79], 1), (3, [0, 2, 3, 4, 5, 6, 7, 8, 9, 10, 11, 12, 13, 14, 15, 16, 17, 18, 19, 20, 21, 22, 23, 24, 25, 26, 27, 28, 29, 30, 31, 32, 33, 34, 35, 36, 37, 38, 39, 40, 41, 42, 43, 44, 45, 46, 47, 48, 49, 50, 51, 52, 53, 54, 55, 56, 57, 58, 59, 60, 61, 62, 63, 64, 65, 66, 67, 68, 69, 70, 71, 72, 73, 74, 75, 76, 77, 78, 79], 1), (5, [0, 2, 5, 6, 7, 8, 9, 10, 11, 12, 13, 14, 15, 16, 17, 18, 19, 20, 21, 22, 23, 24, 25, 26, 27, 28, 29, 30, 31, 32, 33, 34, 35, 36, 37, 38, 39, 43, 44, 45, 46, 47, 48, 49, 50, 51, 52, 53, 54, 55, 56, 57, 58, 59, 60, 61, 62, 63, 64, 65, 66, 67, 68, 69, 70, 71, 72, 73, 74, 75, 76, 77, 78, 79], 1), (8, [0, 2, 5, 7, 8, 9, 10, 11, 12, 13, 14, 15, 16, 17, 18, 19, 20, 21, 22, 23, 24, 25, 26, 27, 28, 29, 30, 31, 32, 33, 34, 35, 36, 37, 38, 39, 43, 44, 45, 46, 47, 48, 49, 50, 51, 52, 53, 55, 56, 57, 58, 59, 60, 61, 62, 63, 64, 65, 66, 67, 68, 69, 70, 71, 72, 73, 74, 75, 76, 77, 78, 79], 2), (12, [0, 1, 2, 3, 5, 6, 7, 8, 9, 10, 11, 12, 13, 14, 15, 16, 17, 18, 19, 20, 21, 22, 23, 24, 25, 26, 27, 28, 29, 30, 31, 32, 33, 34, 35, 36, 37, 38, 39, 40, 41, 42, 43, 44, 45, 46, 47, 48, 49, 50, 51, 52, 53, 54, 55, 56, 57, 58, 59, 63, 64, 65, 66, 67, 68, 69, 70, 71, 72, 73, 74, 75, 76, 77, 78, 79], 0), (15, [0, 1, 2, 3, 5, 6, 7, 9, 10, 11, 12, 13, 14, 15, 16, 17, 18, 19, 20, 21, 22, 23, 24, 25, 26, 27, 28, 29, 30, 31, 32, 33, 34, 35, 36, 37, 38, 39, 40, 41, 42, 43, 44, 45, 46, 47, 48, 49, 50, 51, 52, 53, 54, 55, 56, 57, 58, 59, 63, 64, 65, 66, 67, 68, 69, 70, 71, 72, 73, 74, 75, 77, 78, 79], 0)]

def f56_2 (w0 : World) (K : Value → AH → Prop) (x36 : Bool) (xb0_0 : Int) (xb0_1 : Int) (xb0_2 : Int) (ab0_3 : Option Go.Addr) (nb0_3 : Nat) (cb0_3 : Nat) (ab0_4 : Option Go.Addr) (nb0_4 : Nat) (cb0_4 : Nat) (h : AH) : Prop :=
  ∀ j : Nat → Value, LPk Go.Proofs.Try.prog w0 (EvC Go.Proofs.Try.prog w0) f56_J 56 K 2 [.v (j 0), .bp 0 0, .v (j 2), .v (j 3), .v (j 4), .v (j 5), .v (j 6), .v (j 7), .v (j 8), .v (j 9), .v (j 10), .v (j 11), .v (j 12), .v (j 13), .v (j 14), .v (j 15), .v (j 16), .v (j 17), .v (j 18), .v (j 19), .v (j 20), .v (j 21), .v (j 22), .v (j 23), .v (j 24), .v (j 25), .v (j 26), .v (j 27), .v (j 28), .v (j 29), .v (j 30), .v (j 31), .v (j 32), .v (j 33), .v (j 34), .v (j 35), .v (.bool x36), .v (j 37), .v (j 38), .v (j 39), .v (j 40), .v (j 41), .v (j 42), .v (j 43), .v (j 44), .v (j 45), .v (j 46), .v (j 47), .v (j 48), .v (j 49), .v (j 50), .v (j 51), .v (j 52), .v (j 53), .v (j 54), .v (j 55), .v (j 56), .v (j 57), .v (j 58), .v (j 59), .v (j 60), .v (j 61), .v (j 62), .v (j 63), .v (j 64), .v (j 65), .v (j 66), .v (j 67), .v (j 68), .v (j 69), .v (j 70), .v (j 71), .v (j 72), .v (j 73), .v (j 74), .v (j 75), .v (j 76), .v (j 77), .v (j 78), .v (j 79)] [some [(.int .i64 xb0_0), (.int .i64 xb0_1), (.int .i64 xb0_2), (.slice ab0_3 nb0_3 cb0_3), (.slice ab0_4 nb0_4 cb0_4)]] h

def f56_3 (w0 : World) (K : Value → AH → Prop) (xb0_0 : Int) (xb0_1 : Int) (xb0_2 : Int) (ab0_3 : Option Go.Addr) (nb0_3 : Nat) (cb0_3 : Nat) (ab0_4 : Option Go.Addr) (nb0_4 : Nat) (cb0_4 : Nat) (h : AH) : Prop :=
  ∀ j : Nat → Value, LPk Go.Proofs.Try.prog w0 (EvC Go.Proofs.Try.prog w0) f56_J 56 K 3 [.v (j 0), .bp 0 0, .v (j 2), .v (j 3), .v (j 4), .v (j 5), .v (j 6), .v (j 7), .v (j 8), .v (j 9), .v (j 10), .v (j 11), .v (j 12), .v (j 13), .v (j 14), .v (j 15), .v (j 16), .v (j 17), .v (j 18), .v (j 19), .v (j 20), .v (j 21), .v (j 22), .v (j 23), .v (j 24), .v (j 25), .v (j 26), .v (j 27), .v (j 28), .v (j 29), .v (j 30), .v (j 31), .v (j 32), .v (j 33), .v (j 34), .v (j 35), .v (j 36), .v (j 37), .v (j 38), .v (j 39), .v (j 40), .v (j 41), .v (j 42), .v (j 43), .v (j 44), .v (j 45), .v (j 46), .v (j 47), .v (j 48), .v (j 49), .v (j 50), .v (j 51), .v (j 52), .v (j 53), .v (j 54), .v (j 55), .v (j 56), .v (j 57), .v (j 58), .v (j 59), .v (j 60), .v (j 61), .v (j 62), .v (j 63), .v (j 64), .v (j 65), .v (j 66), .v (j 67), .v (j 68), .v (j 69), .v (j 70), .v (j 71), .v (j 72), .v (j 73), .v (j 74), .v (j 75), .v (j 76), .v (j 77), .v (j 78), .v (j 79)] [some [(.int .i64 xb0_0), (.int .i64 xb0_1), (.int .i64 xb0_2), (.slice ab0_3 nb0_3 cb0_3), (.slice ab0_4 nb0_4 cb0_4)]] h

def f56_5 (w0 : World) (K : Value → AH → Prop) (x3 : Option Nat) (x4 : Option Nat) (a40 : Option Go.Addr) (n40 : Nat) (c40 : Nat) (x41 : Int) (x42 : Int) (xb0_0 : Int) (xb0_1 : Int) (xb0_2 : Int) (ab0_3 : Option Go.Addr) (nb0_3 : Nat) (cb0_3 : Nat) (ab0_4 : Option Go.Addr) (nb0_4 : Nat) (cb0_4 : Nat) (h : AH) : Prop :=
  ∀ j : Nat → Value, LPk Go.Proofs.Try.prog w0 (EvC Go.Proofs.Try.prog w0) f56_J 56 K 5 [.v (j 0), .bp 0 0, .v (j 2), .v (.map x3), .v (.map x4), .v (j 5), .v (j 6), .v (j 7), .v (j 8), .v (j 9), .v (j 10), .v (j 11), .v (j 12), .v (j 13), .v (j 14), .v (j 15), .v (j 16), .v (j 17), .v (j 18), .v (j 19), .v (j 20), .v (j 21), .v (j 22), .v (j 23), .v (j 24), .v (j 25), .v (j 26), .v (j 27), .v (j 28), .v (j 29), .v (j 30), .v (j 31), .v (j 32), .v (j 33), .v (j 34), .v (j 35), .v (j 36), .v (j 37), .v (j 38), .v (j 39), .v (.slice a40 n40 c40), .v (.int .i64 x41), .v (.int .i64 x42), .v (j 43), .v (j 44), .v (j 45), .v (j 46), .v (j 47), .v (j 48), .v (j 49), .v (j 50), .v (j 51), .v (j 52), .v (j 53), .v (j 54), .v (j 55), .v (j 56), .v (j 57), .v (j 58), .v (j 59), .v (j 60), .v (j 61), .v (j 62), .v (j 63), .v (j 64), .v (j 65), .v (j 66), .v (j 67), .v (j 68), .v (j 69), .v (j 70), .v (j 71), .v (j 72), .v (j 73), .v (j 74), .v (j 75), .v (j 76), .v (j 77), .v (j 78), .v (j 79)] [some [(.int .i64 xb0_0), (.int .i64 xb0_1), (.int .i64 xb0_2), (.slice ab0_3 nb0_3 cb0_3), (.slice ab0_4 nb0_4 cb0_4)]] h

def f56_8 (w0 : World) (K : Value → AH → Prop) (x3 : Option Nat) (x4 : Option Nat) (a40 : Option Go.Addr) (n40 : Nat) (c40 : Nat) (x41 : Int) (x42 : Int) (x54 : Bool) (xb0_0 : Int) (xb0_1 : Int) (xb0_2 : Int) (ab0_3 : Option Go.Addr) (nb0_3 : Nat) (cb0_3 : Nat) (ab0_4 : Option Go.Addr) (nb0_4 : Nat) (cb0_4 : Nat) (xb1_0 : Int) (xb1_1 : Int) (xb1_2 : Int) (ab1_3 : Option Go.Addr) (nb1_3 : Nat) (cb1_3 : Nat) (ab1_4 : Option Go.Addr) (nb1_4 : Nat) (cb1_4 : Nat) (h : AH) : Prop :=
  ∀ j : Nat → Value, LPk Go.Proofs.Try.prog w0 (EvC Go.Proofs.Try.prog w0) f56_J 56 K 8 [.v (j 0), .bp 0 0, .v (j 2), .v (.map x3), .v (.map x4), .v (j 5), .bp 1 0, .v (j 7), .v (j 8), .v (j 9), .v (j 10), .v (j 11), .v (j 12), .v (j 13), .v (j 14), .v (j 15), .v (j 16), .v (j 17), .v (j 18), .v (j 19), .v (j 20), .v (j 21), .v (j 22), .v (j 23), .v (j 24), .v (j 25), .v (j 26), .v (j 27), .v (j 28), .v (j 29), .v (j 30), .v (j 31), .v (j 32), .v (j 33), .v (j 34), .v (j 35), .v (j 36), .v (j 37), .v (j 38), .v (j 39), .v (.slice a40 n40 c40), .v (.int .i64 x41), .v (.int .i64 x42), .v (j 43), .v (j 44), .v (j 45), .v (j 46), .v (j 47), .v (j 48), .v (j 49), .v (j 50), .v (j 51), .v (j 52), .v (j 53), .v (.bool x54), .v (j 55), .v (j 56), .v (j 57), .v (j 58), .v (j 59), .v (j 60), .v (j 61), .v (j 62), .v (j 63), .v (j 64), .v (j 65), .v (j 66), .v (j 67), .v (j 68), .v (j 69), .v (j 70), .v (j 71), .v (j 72), .v (j 73), .v (j 74), .v (j 75), .v (j 76), .v (j 77), .v (j 78), .v (j 79)] [some [(.int .i64 xb0_0), (.int .i64 xb0_1), (.int .i64 xb0_2), (.slice ab0_3 nb0_3 cb0_3), (.slice ab0_4 nb0_4 cb0_4)], some [(.int .i64 xb1_0), (.int .i64 xb1_1), (.int .i64 xb1_2), (.slice ab1_3 nb1_3 cb1_3), (.slice ab1_4 nb1_4 cb1_4)]] h

def f56_12 (w0 : World) (K : Value → AH → Prop) (x4 : Option Nat) (a60 : Option Go.Addr) (n60 : Nat) (c60 : Nat) (x61 : Int) (x62 : Int) (h : AH) : Prop :=
  ∀ j : Nat → Value, LPk Go.Proofs.Try.prog w0 (EvC Go.Proofs.Try.prog w0) f56_J 56 K 12 [.v (j 0), .v (j 1), .v (j 2), .v (j 3), .v (.map x4), .v (j 5), .v (j 6), .v (j 7), .v (j 8), .v (j 9), .v (j 10), .v (j 11), .v (j 12), .v (j 13), .v (j 14), .v (j 15), .v (j 16), .v (j 17), .v (j 18), .v (j 19), .v (j 20), .v (j 21), .v (j 22), .v (j 23), .v (j 24), .v (j 25), .v (j 26), .v (j 27), .v (j 28), .v (j 29), .v (j 30), .v (j 31), .v (j 32), .v (j 33), .v (j 34), .v (j 35), .v (j 36), .v (j 37), .v (j 38), .v (j 39), .v (j 40), .v (j 41), .v (j 42), .v (j 43), .v (j 44), .v (j 45), .v (j 46), .v (j 47), .v (j 48), .v (j 49), .v (j 50), .v (j 51), .v (j 52), .v (j 53), .v (j 54), .v (j 55), .v (j 56), .v (j 57), .v (j 58), .v (j 59), .v (.slice a60 n60 c60), .v (.int .i64 x61), .v (.int .i64 x62), .v (j 63), .v (j 64), .v (j 65), .v (j 66), .v (j 67), .v (j 68), .v (j 69), .v (j 70), .v (j 71), .v (j 72), .v (j 73), .v (j 74), .v (j 75), .v (j 76), .v (j 77), .v (j 78), .v (j 79)] [] h

def f56_15 (w0 : World) (K : Value → AH → Prop) (x4 : Option Nat) (x8 : Int) (a60 : Option Go.Addr) (n60 : Nat) (c60 : Nat) (x61 : Int) (x62 : Int) (x76 : Bool) (h : AH) : Prop :=
  ∀ j : Nat → Value, LPk Go.Proofs.Try.prog w0 (EvC Go.Proofs.Try.prog w0) f56_J 56 K 15 [.v (j 0), .v (j 1), .v (j 2), .v (j 3), .v (.map x4), .v (j 5), .v (j 6), .v (j 7), .v (.int .i64 x8), .v (j 9), .v (j 10), .v (j 11), .v (j 12), .v (j 13), .v (j 14), .v (j 15), .v (j 16), .v (j 17), .v (j 18), .v (j 19), .v (j 20), .v (j 21), .v (j 22), .v (j 23), .v (j 24), .v (j 25), .v (j 26), .v (j 27), .v (j 28), .v (j 29), .v (j 30), .v (j 31), .v (j 32), .v (j 33), .v (j 34), .v (j 35), .v (j 36), .v (j 37), .v (j 38), .v (j 39), .v (j 40), .v (j 41), .v (j 42), .v (j 43), .v (j 44), .v (j 45), .v (j 46), .v (j 47), .v (j 48), .v (j 49), .v (j 50), .v (j 51), .v (j 52), .v (j 53), .v (j 54), .v (j 55), .v (j 56), .v (j 57), .v (j 58), .v (j 59), .v (.slice a60 n60 c60), .v (.int .i64 x61), .v (.int .i64 x62), .v (j 63), .v (j 64), .v (j 65), .v (j 66), .v (j 67), .v (j 68), .v (j 69), .v (j 70), .v (j 71), .v (j 72), .v (j 73), .v (j 74), .v (j 75), .v (.bool x76), .v (j 77), .v (j 78), .v (j 79)] [] h

theorem f56_2_in {w0 : World} {K : Value → AH → Prop} (x36 : Bool) (xb0_0 : Int) (xb0_1 : Int) (xb0_2 : Int) (ab0_3 : Option Go.Addr) (nb0_3 : Nat) (cb0_3 : Nat) (ab0_4 : Option Go.Addr) (nb0_4 : Nat) (cb0_4 : Nat) (h : AH)
  (hv : (brB x36 (K (Go.Value.bool false) h) (f56_3 w0 K xb0_0 xb0_1 xb0_2 ab0_3 nb0_3 cb0_3 ab0_4 nb0_4 cb0_4 h))) :
  f56_2 w0 K x36 xb0_0 xb0_1 xb0_2 ab0_3 nb0_3 cb0_3 ab0_4 nb0_4 cb0_4 h := fun j => LP_intro (P := Go.Proofs.Try.prog) (Eq.mp (by kernel_rfl) hv)

theorem f56_3_in {w0 : World} {K : Value → AH → Prop} (xb0_0 : Int) (xb0_1 : Int) (xb0_2 : Int) (ab0_3 : Option Go.Addr) (nb0_3 : Nat) (cb0_3 : Nat) (ab0_4 : Option Go.Addr) (nb0_4 : Nat) (cb0_4 : Nat) (h : AH)
  (hv : (newB w0 h (Go.G.AB.map []) (fun b'9 h'10 => (newB w0 h'10 (Go.G.AB.map []) (fun b'11 h'12 => (f56_5 w0 K (some b'9) (some b'11) ab0_3 nb0_3 cb0_3 ((nb0_3 : Nat) : Int) (0 : Int) xb0_0 xb0_1 xb0_2 ab0_3 nb0_3 cb0_3 ab0_4 nb0_4 cb0_4 h'12)))))) :
  f56_3 w0 K xb0_0 xb0_1 xb0_2 ab0_3 nb0_3 cb0_3 ab0_4 nb0_4 cb0_4 h := fun j => LP_intro (P := Go.Proofs.Try.prog) (Eq.mp (by kernel_rfl) hv)

theorem f56_5_in {w0 : World} {K : Value → AH → Prop} (x3 : Option Nat) (x4 : Option Nat) (a40 : Option Go.Addr) (n40 : Nat) (c40 : Nat) (x41 : Int) (x42 : Int) (xb0_0 : Int) (xb0_1 : Int) (xb0_2 : Int) (ab0_3 : Option Go.Addr) (nb0_3 : Nat) (cb0_3 : Nat) (ab0_4 : Option Go.Addr) (nb0_4 : Nat) (cb0_4 : Nat) (h : AH)
  (hv : (brB (decide ((x42 < x41))) (∃ a'13 : Go.Addr, ((a40 = (some a'13)) ∧ (((0 : Int) ≤ x42) ∧ ((x42 < ((n40 : Nat) : Int)) ∧ (∃ i'14 : Int, (∃ i'15 : Int, (∃ i'16 : Int, (∃ p'17 : Option Go.Addr, (∃ n'18 : Nat, (∃ n'19 : Nat, (∃ p'20 : Option Go.Addr, (∃ n'21 : Nat, (∃ n'22 : Nat, ((((Array.size #[(Go.Value.int .i64 i'14), (Go.Value.int .i64 i'15), (Go.Value.int .i64 i'16), (Go.Value.slice p'17 n'18 n'19), (Go.Value.slice p'20 n'21 n'22)]) = 5) ∧ (At w0 h (Go.Addr.add a'13 ((Int.toNat x42) * 5)) [(Go.Value.int .i64 i'14), (Go.Value.int .i64 i'15), (Go.Value.int .i64 i'16), (Go.Value.slice p'17 n'18 n'19), (Go.Value.slice p'20 n'21 n'22)])) ∧ (EvC Go.Proofs.Try.prog w0 52 #[(Go.Value.agg #[(Go.Value.int .i64 i'14), (Go.Value.int .i64 i'15), (Go.Value.int .i64 i'16), (Go.Value.slice p'17 n'18 n'19), (Go.Value.slice p'20 n'21 n'22)])] (fun x'23 h'24 => (∃ t'25 : Bool, ((x'23 = (Go.Value.bool t'25)) ∧ (brB (!t'25) (f56_8 w0 K x3 x4 a40 n40 c40 x41 x42 true xb0_0 xb0_1 xb0_2 ab0_3 nb0_3 cb0_3 ab0_4 nb0_4 cb0_4 i'14 i'15 i'16 p'17 n'18 n'19 p'20 n'21 n'22 h'24) (((Go.G.plainKey Go.Proofs.Try.prog 77 (Go.Value.int .i64 i'14)) = true) ∧ (mapAt Go.Proofs.Try.prog w0 h'24 x3 77 (fun es'26 => (∃ t'27 : Bool, (((Go.Value.bool t'27) = (Option.getD (Go.G.getM (Go.Value.int .i64 i'14) es'26) (Go.Value.bool false))) ∧ (f56_8 w0 K x3 x4 a40 n40 c40 x41 x42 t'27 xb0_0 xb0_1 xb0_2 ab0_3 nb0_3 cb0_3 ab0_4 nb0_4 cb0_4 i'14 i'15 i'16 p'17 n'18 n'19 p'20 n'21 n'22 h'24)))))))))) h))))))))))))))) (f56_12 w0 K x4 ab0_4 nb0_4 cb0_4 ((nb0_4 : Nat) : Int) (0 : Int) h))) :
  f56_5 w0 K x3 x4 a40 n40 c40 x41 x42 xb0_0 xb0_1 xb0_2 ab0_3 nb0_3 cb0_3 ab0_4 nb0_4 cb0_4 h := fun j => LP_intro (P := Go.Proofs.Try.prog) (Eq.mp (by kernel_rfl) hv)

theorem f56_8_in {w0 : World} {K : Value → AH → Prop} (x3 : Option Nat) (x4 : Option Nat) (a40 : Option Go.Addr) (n40 : Nat) (c40 : Nat) (x41 : Int) (x42 : Int) (x54 : Bool) (xb0_0 : Int) (xb0_1 : Int) (xb0_2 : Int) (ab0_3 : Option Go.Addr) (nb0_3 : Nat) (cb0_3 : Nat) (ab0_4 : Option Go.Addr) (nb0_4 : Nat) (cb0_4 : Nat) (xb1_0 : Int) (xb1_1 : Int) (xb1_2 : Int) (ab1_3 : Option Go.Addr) (nb1_3 : Nat) (cb1_3 : Nat) (ab1_4 : Option Go.Addr) (nb1_4 : Nat) (cb1_4 : Nat) (h : AH)
  (hv : (brB x54 (K (Go.Value.bool false) h) (((Go.G.plainKey Go.Proofs.Try.prog 77 (Go.Value.int .i64 xb1_0)) = true) ∧ (∃ n'28 : Nat, ((x3 = (some n'28)) ∧ (mapAt Go.Proofs.Try.prog w0 h (some n'28) 77 (fun es'29 => (f56_5 w0 K x3 x4 a40 n40 c40 x41 (Go.IntKind.wrap .i64 (x42 + (1 : Int))) xb0_0 xb0_1 xb0_2 ab0_3 nb0_3 cb0_3 ab0_4 nb0_4 cb0_4 (Go.G.AH.putm h n'28 (Go.G.putM (Go.Value.int .i64 xb1_0) (Go.Value.bool true) es'29)))))))))) :
  f56_8 w0 K x3 x4 a40 n40 c40 x41 x42 x54 xb0_0 xb0_1 xb0_2 ab0_3 nb0_3 cb0_3 ab0_4 nb0_4 cb0_4 xb1_0 xb1_1 xb1_2 ab1_3 nb1_3 cb1_3 ab1_4 nb1_4 cb1_4 h := fun j => LP_intro (P := Go.Proofs.Try.prog) (Eq.mp (by kernel_rfl) hv)

theorem f56_12_in {w0 : World} {K : Value → AH → Prop} (x4 : Option Nat) (a60 : Option Go.Addr) (n60 : Nat) (c60 : Nat) (x61 : Int) (x62 : Int) (h : AH)
  (hv : (brB (decide ((x62 < x61))) (∃ a'30 : Go.Addr, ((a60 = (some a'30)) ∧ (((0 : Int) ≤ x62) ∧ ((x62 < ((n60 : Nat) : Int)) ∧ (∃ i'31 : Int, (((Go.G.cellA w0 h (Go.Addr.add a'30 ((Int.toNat x62) * 1))) = (some (Go.Value.int .i64 i'31))) ∧ (brB (decide ((i'31 < (1 : Int)))) (f56_15 w0 K x4 i'31 a60 n60 c60 x61 x62 true h) (brB (decide (((1099511627776 : Int) < i'31))) (f56_15 w0 K x4 i'31 a60 n60 c60 x61 x62 true h) (((Go.G.plainKey Go.Proofs.Try.prog 77 (Go.Value.int .i64 i'31)) = true) ∧ (mapAt Go.Proofs.Try.prog w0 h x4 77 (fun es'32 => (∃ t'33 : Bool, (((Go.Value.bool t'33) = (Option.getD (Go.G.getM (Go.Value.int .i64 i'31) es'32) (Go.Value.bool false))) ∧ (f56_15 w0 K x4 i'31 a60 n60 c60 x61 x62 t'33 h)))))))))))))) (K (Go.Value.bool true) h))) :
  f56_12 w0 K x4 a60 n60 c60 x61 x62 h := fun j => LP_intro (P := Go.Proofs.Try.prog) (Eq.mp (by kernel_rfl) hv)

theorem f56_15_in {w0 : World} {K : Value → AH → Prop} (x4 : Option Nat) (x8 : Int) (a60 : Option Go.Addr) (n60 : Nat) (c60 : Nat) (x61 : Int) (x62 : Int) (x76 : Bool) (h : AH)
  (hv : (brB x76 (K (Go.Value.bool false) h) (((Go.G.plainKey Go.Proofs.Try.prog 77 (Go.Value.int .i64 x8)) = true) ∧ (∃ n'34 : Nat, ((x4 = (some n'34)) ∧ (mapAt Go.Proofs.Try.prog w0 h (some n'34) 77 (fun es'35 => (f56_12 w0 K x4 a60 n60 c60 x61 (Go.IntKind.wrap .i64 (x62 + (1 : Int))) (Go.G.AH.putm h n'34 (Go.G.putM (Go.Value.int .i64 x8) (Go.Value.bool true) es'35)))))))))) :
  f56_15 w0 K x4 x8 a60 n60 c60 x61 x62 x76 h := fun j => LP_intro (P := Go.Proofs.Try.prog) (Eq.mp (by kernel_rfl) hv)

theorem f56_go {w0 : World} {K : Value → AH → Prop} (x0_0 : Int) (x0_1 : Int) (x0_2 : Int) (a0_3 : Option Go.Addr) (n0_3 : Nat) (c0_3 : Nat) (a0_4 : Option Go.Addr) (n0_4 : Nat) (c0_4 : Nat) (h : AH)
  (hv : (EvC Go.Proofs.Try.prog w0 70 #[(Go.Value.int .i64 x0_0)] (fun x'0 h'1 => (∃ t'2 : Bool, ((x'0 = (Go.Value.bool t'2)) ∧ (brB (!t'2) (f56_2 w0 K true x0_0 x0_1 x0_2 a0_3 n0_3 c0_3 a0_4 n0_4 c0_4 h'1) (EvC Go.Proofs.Try.prog w0 70 #[(Go.Value.int .i64 x0_1)] (fun x'3 h'4 => (∃ t'5 : Bool, ((x'3 = (Go.Value.bool t'5)) ∧ (brB (!t'5) (f56_2 w0 K true x0_0 x0_1 x0_2 a0_3 n0_3 c0_3 a0_4 n0_4 c0_4 h'4) (EvC Go.Proofs.Try.prog w0 70 #[(Go.Value.int .i64 x0_2)] (fun x'6 h'7 => (∃ t'8 : Bool, ((x'6 = (Go.Value.bool t'8)) ∧ (brB (!t'8) (f56_2 w0 K true x0_0 x0_1 x0_2 a0_3 n0_3 c0_3 a0_4 n0_4 c0_4 h'7) (brB (decide (((200 : Int) < ((n0_3 : Nat) : Int)))) (f56_2 w0 K true x0_0 x0_1 x0_2 a0_3 n0_3 c0_3 a0_4 n0_4 c0_4 h'7) (f56_2 w0 K (decide (((200 : Int) < ((n0_4 : Nat) : Int)))) x0_0 x0_1 x0_2 a0_3 n0_3 c0_3 a0_4 n0_4 c0_4 h'7)))))) h'4))))) h'1))))) h)) :
  EvC Go.Proofs.Try.prog w0 56 ([(.agg #[(.int .i64 x0_0), (.int .i64 x0_1), (.int .i64 x0_2), (.slice a0_3 n0_3 c0_3), (.slice a0_4 n0_4 c0_4)])]).toArray K h := EvC_intro (P := Go.Proofs.Try.prog) f56_J (Eq.mp (by kernel_rfl) hv)
theorem f70_spec {w0 : World} {K : Value → AH → Prop} {h : AH} {x : Int} (hk : K (.bool (in62 x)) h) : EvC Go.Proofs.Try.prog w0 70 #[.int .i64 x] K h := by
  refine f70_go _ _ (brB_of (fun q => ?_) fun q => ?_)
  · have : 0 ≤ x := by simpa using q
    simpa [in62, this] using hk
  · have : ¬ 0 ≤ x := by simpa using q
    have e : in62 x = false := by simp only [in62]; rw [decide_eq_false this]; rfl
    rw [e] at hk; exact hk

section
variable {w0 : World} {K : Value → AH → Prop} {h0 : AH} {lo nx sq : Int} {a b : Option Addr} {n c m d : Nat} {add : List Tab} {rem : List Int}

theorem f56_12_ok (r : IS w0 h0 b m d rem) {q : Nat} (hq : w0.heap.size ≤ q) (hqn : h0 q = none) : ∀ (rest : List Int) (i : Nat) (h : AH), rem.drop i = rest → i ≤ m → Ext h0 h none → h q = some (.map (setM (rem.take i))) →
    (∀ h', Ext h0 h' none → K (.bool (uniqN (rem.take i) rest)) h') → f56_12 w0 K (some q) b m d ((m : Nat) : Int) ((i : Nat) : Int) h := by
  have hl := r.len
  have hsm := r.sm
  intro rest
  induction rest with
  | nil =>
    intro i h hd hi hx hm hk
    have := drop_done hd
    exact f56_12_in _ _ _ _ _ _ _ (brB_of (fun q => by simp at q; omega) fun _ => hk h hx)
  | cons x rs ih =>
    intro i h hd hi hx hm hk
    obtain ⟨hget, hd', hlt⟩ := drop_step hd
    have htake : rem.take (i + 1) = rem.take i ++ [x] := by rw [List.take_add_one, hget]; rfl
    have step : ∀ t : Bool, (t = true → uniqN (rem.take i) (x :: rs) = false) → (t = false → 1 ≤ x ∧ x ≤ 1099511627776 ∧ ((rem.take i).any fun y => y == x) = false) → f56_15 w0 K (some q) x b m d ((m : Nat) : Int) ((i : Nat) : Int) t h := fun t h1 h2 => by
      refine f56_15_in _ _ _ _ _ _ _ _ _ (brB_of (fun e => ?_) fun e => ⟨plain_int, q, rfl, mapAt_set hq hm ?_⟩)
      · have := hk h hx
        rw [h1 e] at this; exact this
      · obtain ⟨g1, g2, g3⟩ := h2 e
        rw [wrapS (by omega), putM_set g3, ← htake]
        refine ih (i + 1) _ hd' (by omega) (fun k o hko hne pl => ?_) (put_same _ _ _) fun h' hx' => ?_
        · have : k ≠ q := fun e => by subst e; rw [hqn] at hko; cases hko
          exact putm_old (hx k o hko hne pl) this pl
        · have : uniqN (rem.take i) (x :: rs) = uniqN (rem.take (i + 1)) rs := by
            rw [htake]; simp only [uniqN]; rw [g3]; simp [g1, g2]
          rw [← this]; exact hk h' hx'
    refine f56_12_in _ _ _ _ _ _ _ (brB_of (fun _ => intLoad (r.ext hx).rs.rd hl hget ?_) fun q => by simp at q; omega)
    refine brB_of (fun e => step _ (fun _ => ?_) (fun e => by cases e)) fun e => brB_of (fun e2 => step _ (fun _ => ?_) (fun e => by cases e)) fun e2 => ⟨plain_int, mapAt_set hq hm ⟨_, getM_set.symm, step _ (fun e3 => ?_) fun e3 => ?_⟩⟩
    all_goals simp only [decide_eq_true_eq, decide_eq_false_iff_not] at *
    · have : ¬ 1 ≤ x := by omega
      simp [uniqN, this]
    · have : ¬ x ≤ 1099511627776 := by omega
      simp [uniqN, this]
    · simp only [uniqN]; rw [e3]; simp
    · exact ⟨by omega, by omega, e3⟩

theorem f56_5_ok (s : TS w0 h0 a n c add) (r : IS w0 h0 b m d rem) {p q : Nat} (hp : w0.heap.size ≤ p) (hpn : h0 p = none) (hq : w0.heap.size ≤ q) (hqn : h0 q = none) (hpq : p ≠ q)
    (hk0 : uniqT [] add = false → ∀ h', Ext h0 h' none → K (.bool false) h') (hk1 : uniqT [] add = true → ∀ h', Ext h0 h' none → K (.bool (uniqN [] rem)) h') :
    ∀ (rest : List Tab) (i : Nat) (h : AH), add.drop i = rest → i ≤ n → Ext h0 h none → h p = some (.map (setM ((add.take i).map Tab.num))) → h q = some (.map (setM [])) → uniqT [] add = uniqT (add.take i) rest →
      f56_5 w0 K (some p) (some q) a n c ((n : Nat) : Int) ((i : Nat) : Int) lo nx sq a n c b m d h := by
  have hl := s.len
  have hsm := s.sm
  intro rest
  induction rest with
  | nil =>
    intro i h hd hi hx hm hm2 he
    have := drop_done hd
    exact f56_5_in _ _ _ _ _ _ _ _ _ _ _ _ _ _ _ _ _ (brB_of (fun q => by simp at q; omega) fun _ => f56_12_ok r hq hqn rem 0 h rfl (by omega) hx hm2 (hk1 he))
  | cons t rs ih =>
    intro i h hd hi hx hm hm2 he
    obtain ⟨hget, hd', hlt⟩ := drop_step hd
    have htake : add.take (i + 1) = add.take i ++ [t] := by rw [List.take_add_one, hget]; rfl
    have o := (s.ext hx).ok t (List.mem_of_getElem? hget)
    have step : ∀ v : Bool, (v = true → uniqT (add.take i) (t :: rs) = false) → (v = false → mayT t = true ∧ ((add.take i).any fun u => u.num == t.num) = false) →
        f56_8 w0 K (some p) (some q) a n c ((n : Nat) : Int) ((i : Nat) : Int) v lo nx sq a n c b m d t.num t.lev t.siz t.lp t.ln t.lc t.mp t.mn t.mc h := fun v h1 h2 => by
      refine f56_8_in _ _ _ _ _ _ _ _ _ _ _ _ _ _ _ _ _ _ _ _ _ _ _ _ _ _ _ (brB_of (fun e => hk0 (by rw [he, h1 e]) h hx) fun e => ⟨plain_int, p, rfl, mapAt_set hp hm ?_⟩)
      obtain ⟨g1, g2⟩ := h2 e
      have hput : putM (.int .i64 t.num) (.bool true) (setM ((add.take i).map Tab.num)) = setM ((add.take (i + 1)).map Tab.num) := by
        rw [putM_set (by rw [any_nums]; exact g2), htake]; simp
      rw [wrapS (by omega), hput]
      refine ih (i + 1) _ hd' (by omega) (fun k o hko hne pl => ?_) (put_same _ _ _) (putm_old hm2 (Ne.symm hpq) rfl) ?_
      · have : k ≠ p := fun e => by subst e; rw [hpn] at hko; cases hko
        exact putm_old (hx k o hko hne pl) this pl
      · rw [he, htake]; simp only [uniqT]; rw [g2]; simp [g1]
    refine f56_5_in _ _ _ _ _ _ _ _ _ _ _ _ _ _ _ _ _ (brB_of (fun _ => tabLoad (s.ext hx).rs.rd hl hget ?_) fun q => by simp at q; omega)
    refine f52_spec (t := t) o ⟨_, rfl, brB_of (fun e => step _ (fun _ => ?_) (fun e => by cases e)) fun e => ⟨plain_int, mapAt_set hp hm ⟨_, getM_set.symm, step _ (fun e2 => ?_) fun e2 => ?_⟩⟩⟩
    · have : mayT t = false := by simpa using e
      simp [uniqT, this]
    · rw [any_nums] at e2
      simp only [uniqT]; rw [e2]; simp
    · rw [any_nums] at e2
      exact ⟨by simpa using e, e2⟩

/-- edit.May. -/
theorem f56_spec (s : TS w0 h0 a n c add) (r : IS w0 h0 b m d rem) (hk : ∀ h', Ext h0 h' none → K (.bool (mayE lo nx sq add rem)) h') :
    EvC Go.Proofs.Try.prog w0 56 #[.agg #[.int .i64 lo, .int .i64 nx, .int .i64 sq, .slice a n c, .slice b m d]] K h0 := by
  have hadd := s.len
  have hrem := r.len
  have hk' := hk h0 (Ext.refl _ _)
  have step : ∀ v : Bool, (v = true → mayE lo nx sq add rem = false) → (v = false → mayE lo nx sq add rem = (uniqT [] add && uniqN [] rem)) → f56_2 w0 K v lo nx sq a n c b m d h0 := fun v h1 h2 => by
    refine f56_2_in _ _ _ _ _ _ _ _ _ _ _ (brB_of (fun e => by rw [h1 e] at hk'; exact hk') fun e => f56_3_in _ _ _ _ _ _ _ _ _ _ fun p hp hpn => fun q hq hqn => ?_)
    have hpq : p ≠ q := fun e => by subst e; rw [put_same] at hqn; cases hqn
    have hqn' : h0 q = none := by rw [put_other _ _ (Ne.symm hpq)] at hqn; exact hqn
    have e1 := h2 e
    refine f56_5_ok s r hp hpn hq hqn' hpq (fun u h' x' => ?_) (fun u h' x' => ?_) add 0 _ rfl (by omega) ((Ext_put hpn).trans (Ext_put hqn)) (by rw [put_other _ _ hpq, put_same]; rfl) (put_same _ _ _) rfl
    · have := hk h' x'
      rw [e1, u] at this; exact this
    · have := hk h' x'
      rw [e1, u, Bool.true_and] at this; exact this
  refine f56_go _ _ _ _ _ _ _ _ _ _ (f70_spec ⟨_, rfl, brB_of (fun q0 => step _ (fun _ => ?_) (fun e => by cases e)) fun q0 => f70_spec ⟨_, rfl, brB_of (fun q1 => step _ (fun _ => ?_) (fun e => by cases e)) fun q1 => f70_spec ⟨_, rfl, brB_of (fun q2 => step _ (fun _ => ?_) (fun e => by cases e)) fun q2 =>
    brB_of (fun q3 => step _ (fun _ => ?_) (fun e => by cases e)) fun q3 => step _ (fun q4 => ?_) fun q4 => ?_⟩⟩⟩)
  · have : in62 lo = false := by simpa using q0
    simp [mayE, this]
  · have : in62 nx = false := by simpa using q1
    simp [mayE, this]
  · have : in62 sq = false := by simpa using q2
    simp [mayE, this]
  · have : ¬ add.length ≤ 200 := by simp at q3; omega
    simp [mayE, this]
  · have : ¬ rem.length ≤ 200 := by simp at q4; omega
    simp [mayE, this]
  · have g0 : in62 lo = true := by simpa using q0
    have g1 : in62 nx = true := by simpa using q1
    have g2 : in62 sq = true := by simpa using q2
    have g3 : add.length ≤ 200 := by simp at q3; omega
    have g4 : rem.length ≤ 200 := by simp at q4; omega
    simp [mayE, g0, g1, g2, g3, g4]
end

theorem f71_loop {w0 : World} {K : Value → AH → Prop} {h : AH} {a : Option Addr} {n c : Nat} {xs : List Int} {x : Int} (s : IS w0 h a n c xs) (hk1 : (xs.any fun y => y == x) = true → ∀ i : Nat, K (.int .i64 i) h) (hk0 : (xs.any fun y => y == x) = false → K (.int .i64 (-1)) h) :
    ∀ (rest : List Int) (i : Nat), xs.drop i = rest → i ≤ n → (xs.any fun y => y == x) = rest.any (fun y => y == x) → f71_2 w0 K a n c x ((n : Nat) : Int) ((i : Nat) : Int) h := by
  have hl := s.len
  have hsm := s.sm
  intro rest
  induction rest with
  | nil =>
    intro i hd hi he
    have := drop_done hd
    exact f71_2_in _ _ _ _ _ _ _ (brB_of (fun q => by simp at q; omega) fun _ => hk0 he)
  | cons y r ih =>
    intro i hd hi he
    obtain ⟨hget, hd', hlt⟩ := drop_step hd
    refine f71_2_in _ _ _ _ _ _ _ (brB_of (fun _ => intLoad s.rs.rd hl hget (brB_of (fun q => ?_) fun q => ?_)) fun q => by simp at q; omega)
    · have e : (y == x) = true := by simp only [beq_iff_eq] at q ⊢; exact q.symm
      exact hk1 (by rw [he, List.any_cons, e]; rfl) i
    · have e : (y == x) = false := by simp only [beq_eq_false_iff_ne] at q ⊢; exact Ne.symm q
      rw [wrapS (by omega)]
      exact ih (i + 1) hd' (by omega) (by rw [he, List.any_cons, e]; rfl)
/-- slices.Contains. -/
theorem f57_spec {w0 : World} {K : Value → AH → Prop} {h : AH} {a : Option Addr} {n c : Nat} {xs : List Int} {x : Int} (s : IS w0 h a n c xs) (hk : K (.bool (xs.any fun y => y == x)) h) : EvC Go.Proofs.Try.prog w0 57 #[.slice a n c, .int .i64 x] K h :=
  f57_go _ _ _ _ _ (f71_go _ _ _ _ _ (f71_loop s (fun e i => ⟨_, rfl, by rw [e] at hk; simpa using hk⟩) (fun e => ⟨_, rfl, by rw [e] at hk; simpa using hk⟩) xs 0 rfl (by omega) rfl))
end Go.G.Ytpnhlgghpciofaa
