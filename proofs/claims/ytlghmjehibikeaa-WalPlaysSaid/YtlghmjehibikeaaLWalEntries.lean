/- WalEntries by the evaluator. -/
import Derived.Test.YtlghmjehibikeaaWI
import Derived.Test.YtlghmjehibikeaaLT
import Derived.Test.YtlghmjehibikeaaProg
set_option maxRecDepth 100000
namespace Go.G.Ytlghmjehibikeaa
open Go.RowKit
def f39_J : Nat → List Nat × Nat := jOf [(2, [0, 2, 3, 4, 5, 6, 7, 8, 9, 10, 11, 12, 13, 15, 16, 17, 18, 19, 20, 21, 22, 23, 24, 25, 26, 27, 28, 29, 30, 31, 32, 33, 34, 35, 36, 37, 38, 39, 40, 41, 42, 43, 44, 45, 46, 47, 48, 49, 50, 51, 52, 53, 54, 55, 56, 57, 58, 59, 60, 61, 62, 63, 64, 65, 66, 67, 68, 69, 70, 71, 72, 73, 74], 1), (3, [0, 2, 3, 4, 5, 6, 7, 8, 9, 10, 11, 12, 13, 14, 15, 16, 17, 18, 19, 20, 21, 22, 23, 24, 25, 26, 27, 28, 29, 30, 31, 32, 33, 34, 35, 36, 37, 38, 39, 40, 41, 42, 43, 44, 45, 46, 47, 48, 49, 50, 51, 52, 53, 54, 55, 56, 57, 58, 59, 60, 61, 62, 63, 64, 65, 66, 67, 68, 69, 70, 71, 72, 73, 74], 1), (4, [0, 2, 3, 4, 5, 6, 7, 8, 9, 10, 11, 12, 13, 14, 15, 16, 17, 18, 19, 20, 21, 22, 23, 24, 25, 26, 28, 29, 30, 31, 32, 33, 34, 35, 36, 37, 38, 39, 40, 41, 42, 43, 44, 45, 46, 47, 48, 49, 50, 51, 52, 53, 54, 55, 56, 57, 58, 59, 60, 61, 62, 63, 64, 65, 66, 67, 68, 69, 70, 71, 72, 73, 74], 1), (5, [0, 2, 3, 4, 5, 6, 7, 8, 9, 10, 11, 12, 13, 14, 15, 16, 17, 18, 19, 20, 21, 22, 23, 24, 25, 26, 27, 28, 29, 30, 31, 32, 33, 34, 35, 36, 37, 38, 39, 40, 41, 42, 43, 44, 45, 46, 47, 48, 49, 50, 51, 52, 53, 54, 55, 56, 57, 58, 59, 60, 61, 62, 63, 64, 65, 66, 67, 68, 69, 70, 71, 72, 73, 74], 1), (6, [0, 1, 2, 3, 4, 5, 6, 7, 8, 9, 10, 11, 12, 13, 14, 15, 16, 17, 18, 19, 20, 21, 22, 23, 24, 25, 26, 27, 28, 32, 33, 34, 35, 36, 37, 38, 39, 40, 41, 42, 43, 44, 45, 46, 47, 48, 49, 50, 51, 52, 53, 54, 55, 56, 57, 58, 59, 60, 61, 62, 63, 64, 65, 66, 67, 68, 69, 70, 71, 72, 73, 74], 0), (9, [0, 1, 2, 3, 5, 6, 7, 8, 9, 10, 11, 12, 13, 14, 15, 16, 17, 18, 19, 20, 21, 22, 23, 24, 25, 26, 27, 28, 32, 33, 34, 35, 36, 37, 38, 39, 40, 41, 42, 43, 44, 45, 46, 47, 48, 49, 50, 51, 52, 53, 54, 55, 56, 57, 58, 59, 60, 61, 62, 64, 65, 66, 67, 68, 69, 70, 71, 72, 73, 74], 1), (10, [0, 1, 2, 3, 5, 6, 7, 8, 9, 10, 11, 12, 13, 14, 15, 16, 17, 18, 19, 20, 21, 22, 23, 24, 25, 26, 27, 28, 32, 33, 34, 35, 36, 37, 38, 39, 40, 41, 42, 43, 44, 45, 46, 47, 48, 49, 50, 51, 52, 53, 54, 55, 56, 57, 58, 59, 60, 61, 62, 63, 64, 65, 66, 67, 68, 69, 70, 71, 72, 73, 74], 1), (11, [0, 1, 2, 3, 4, 5, 6, 7, 8, 9, 10, 11, 12, 13, 14, 15, 16, 17, 18, 19, 20, 21, 22, 23, 24, 25, 26, 27, 28, 32, 33, 34, 35, 36, 37, 38, 39, 40, 41, 42, 43, 44, 45, 46, 47, 48, 49, 50, 51, 52, 53, 54, 55, 56, 57, 58, 59, 60, 61, 62, 63, 64, 65, 66, 67, 68, 69, 70, 71, 72, 74], 0)]

def f39_2 (w0 : World) (K : Value → AH → Prop) (x14 : Bool) (xb0_0 : Int) (ab0_1 : Option Go.Addr) (nb0_1 : Nat) (cb0_1 : Nat) (h : AH) : Prop :=
  ∀ j : Nat → Value, LPk Go.Proofs.Try.prog w0 (EvC Go.Proofs.Try.prog w0) f39_J 39 K 2 [.v (j 0), .bp 0 0, .v (j 2), .v (j 3), .v (j 4), .v (j 5), .v (j 6), .v (j 7), .v (j 8), .v (j 9), .v (j 10), .v (j 11), .v (j 12), .v (j 13), .v (.bool x14), .v (j 15), .v (j 16), .v (j 17), .v (j 18), .v (j 19), .v (j 20), .v (j 21), .v (j 22), .v (j 23), .v (j 24), .v (j 25), .v (j 26), .v (j 27), .v (j 28), .v (j 29), .v (j 30), .v (j 31), .v (j 32), .v (j 33), .v (j 34), .v (j 35), .v (j 36), .v (j 37), .v (j 38), .v (j 39), .v (j 40), .v (j 41), .v (j 42), .v (j 43), .v (j 44), .v (j 45), .v (j 46), .v (j 47), .v (j 48), .v (j 49), .v (j 50), .v (j 51), .v (j 52), .v (j 53), .v (j 54), .v (j 55), .v (j 56), .v (j 57), .v (j 58), .v (j 59), .v (j 60), .v (j 61), .v (j 62), .v (j 63), .v (j 64), .v (j 65), .v (j 66), .v (j 67), .v (j 68), .v (j 69), .v (j 70), .v (j 71), .v (j 72), .v (j 73), .v (j 74)] [some [(.int .i64 xb0_0), (.slice ab0_1 nb0_1 cb0_1)]] h

def f39_3 (w0 : World) (K : Value → AH → Prop) (xb0_0 : Int) (ab0_1 : Option Go.Addr) (nb0_1 : Nat) (cb0_1 : Nat) (h : AH) : Prop :=
  ∀ j : Nat → Value, LPk Go.Proofs.Try.prog w0 (EvC Go.Proofs.Try.prog w0) f39_J 39 K 3 [.v (j 0), .bp 0 0, .v (j 2), .v (j 3), .v (j 4), .v (j 5), .v (j 6), .v (j 7), .v (j 8), .v (j 9), .v (j 10), .v (j 11), .v (j 12), .v (j 13), .v (j 14), .v (j 15), .v (j 16), .v (j 17), .v (j 18), .v (j 19), .v (j 20), .v (j 21), .v (j 22), .v (j 23), .v (j 24), .v (j 25), .v (j 26), .v (j 27), .v (j 28), .v (j 29), .v (j 30), .v (j 31), .v (j 32), .v (j 33), .v (j 34), .v (j 35), .v (j 36), .v (j 37), .v (j 38), .v (j 39), .v (j 40), .v (j 41), .v (j 42), .v (j 43), .v (j 44), .v (j 45), .v (j 46), .v (j 47), .v (j 48), .v (j 49), .v (j 50), .v (j 51), .v (j 52), .v (j 53), .v (j 54), .v (j 55), .v (j 56), .v (j 57), .v (j 58), .v (j 59), .v (j 60), .v (j 61), .v (j 62), .v (j 63), .v (j 64), .v (j 65), .v (j 66), .v (j 67), .v (j 68), .v (j 69), .v (j 70), .v (j 71), .v (j 72), .v (j 73), .v (j 74)] [some [(.int .i64 xb0_0), (.slice ab0_1 nb0_1 cb0_1)]] h

def f39_4 (w0 : World) (K : Value → AH → Prop) (x27 : Bool) (xb0_0 : Int) (ab0_1 : Option Go.Addr) (nb0_1 : Nat) (cb0_1 : Nat) (h : AH) : Prop :=
  ∀ j : Nat → Value, LPk Go.Proofs.Try.prog w0 (EvC Go.Proofs.Try.prog w0) f39_J 39 K 4 [.v (j 0), .bp 0 0, .v (j 2), .v (j 3), .v (j 4), .v (j 5), .v (j 6), .v (j 7), .v (j 8), .v (j 9), .v (j 10), .v (j 11), .v (j 12), .v (j 13), .v (j 14), .v (j 15), .v (j 16), .v (j 17), .v (j 18), .v (j 19), .v (j 20), .v (j 21), .v (j 22), .v (j 23), .v (j 24), .v (j 25), .v (j 26), .v (.bool x27), .v (j 28), .v (j 29), .v (j 30), .v (j 31), .v (j 32), .v (j 33), .v (j 34), .v (j 35), .v (j 36), .v (j 37), .v (j 38), .v (j 39), .v (j 40), .v (j 41), .v (j 42), .v (j 43), .v (j 44), .v (j 45), .v (j 46), .v (j 47), .v (j 48), .v (j 49), .v (j 50), .v (j 51), .v (j 52), .v (j 53), .v (j 54), .v (j 55), .v (j 56), .v (j 57), .v (j 58), .v (j 59), .v (j 60), .v (j 61), .v (j 62), .v (j 63), .v (j 64), .v (j 65), .v (j 66), .v (j 67), .v (j 68), .v (j 69), .v (j 70), .v (j 71), .v (j 72), .v (j 73), .v (j 74)] [some [(.int .i64 xb0_0), (.slice ab0_1 nb0_1 cb0_1)]] h

def f39_5 (w0 : World) (K : Value → AH → Prop) (xb0_0 : Int) (ab0_1 : Option Go.Addr) (nb0_1 : Nat) (cb0_1 : Nat) (h : AH) : Prop :=
  ∀ j : Nat → Value, LPk Go.Proofs.Try.prog w0 (EvC Go.Proofs.Try.prog w0) f39_J 39 K 5 [.v (j 0), .bp 0 0, .v (j 2), .v (j 3), .v (j 4), .v (j 5), .v (j 6), .v (j 7), .v (j 8), .v (j 9), .v (j 10), .v (j 11), .v (j 12), .v (j 13), .v (j 14), .v (j 15), .v (j 16), .v (j 17), .v (j 18), .v (j 19), .v (j 20), .v (j 21), .v (j 22), .v (j 23), .v (j 24), .v (j 25), .v (j 26), .v (j 27), .v (j 28), .v (j 29), .v (j 30), .v (j 31), .v (j 32), .v (j 33), .v (j 34), .v (j 35), .v (j 36), .v (j 37), .v (j 38), .v (j 39), .v (j 40), .v (j 41), .v (j 42), .v (j 43), .v (j 44), .v (j 45), .v (j 46), .v (j 47), .v (j 48), .v (j 49), .v (j 50), .v (j 51), .v (j 52), .v (j 53), .v (j 54), .v (j 55), .v (j 56), .v (j 57), .v (j 58), .v (j 59), .v (j 60), .v (j 61), .v (j 62), .v (j 63), .v (j 64), .v (j 65), .v (j 66), .v (j 67), .v (j 68), .v (j 69), .v (j 70), .v (j 71), .v (j 72), .v (j 73), .v (j 74)] [some [(.int .i64 xb0_0), (.slice ab0_1 nb0_1 cb0_1)]] h

def f39_6 (w0 : World) (K : Value → AH → Prop) (a29 : Option Go.Addr) (n29 : Nat) (c29 : Nat) (x30 : Int) (x31 : Int) (h : AH) : Prop :=
  ∀ j : Nat → Value, LPk Go.Proofs.Try.prog w0 (EvC Go.Proofs.Try.prog w0) f39_J 39 K 6 [.v (j 0), .v (j 1), .v (j 2), .v (j 3), .v (j 4), .v (j 5), .v (j 6), .v (j 7), .v (j 8), .v (j 9), .v (j 10), .v (j 11), .v (j 12), .v (j 13), .v (j 14), .v (j 15), .v (j 16), .v (j 17), .v (j 18), .v (j 19), .v (j 20), .v (j 21), .v (j 22), .v (j 23), .v (j 24), .v (j 25), .v (j 26), .v (j 27), .v (j 28), .v (.slice a29 n29 c29), .v (.int .i64 x30), .v (.int .i64 x31), .v (j 32), .v (j 33), .v (j 34), .v (j 35), .v (j 36), .v (j 37), .v (j 38), .v (j 39), .v (j 40), .v (j 41), .v (j 42), .v (j 43), .v (j 44), .v (j 45), .v (j 46), .v (j 47), .v (j 48), .v (j 49), .v (j 50), .v (j 51), .v (j 52), .v (j 53), .v (j 54), .v (j 55), .v (j 56), .v (j 57), .v (j 58), .v (j 59), .v (j 60), .v (j 61), .v (j 62), .v (j 63), .v (j 64), .v (j 65), .v (j 66), .v (j 67), .v (j 68), .v (j 69), .v (j 70), .v (j 71), .v (j 72), .v (j 73), .v (j 74)] [] h

def f39_9 (w0 : World) (K : Value → AH → Prop) (a29 : Option Go.Addr) (n29 : Nat) (c29 : Nat) (x30 : Int) (x31 : Int) (x63 : Bool) (ab0_0 : Option Go.Addr) (nb0_0 : Nat) (cb0_0 : Nat) (xb0_1 : Bool) (xb0_2 : Int) (ab0_3 : Option Go.Addr) (nb0_3 : Nat) (cb0_3 : Nat) (h : AH) : Prop :=
  ∀ j : Nat → Value, LPk Go.Proofs.Try.prog w0 (EvC Go.Proofs.Try.prog w0) f39_J 39 K 9 [.v (j 0), .v (j 1), .v (j 2), .v (j 3), .bp 0 0, .v (j 5), .v (j 6), .v (j 7), .v (j 8), .v (j 9), .v (j 10), .v (j 11), .v (j 12), .v (j 13), .v (j 14), .v (j 15), .v (j 16), .v (j 17), .v (j 18), .v (j 19), .v (j 20), .v (j 21), .v (j 22), .v (j 23), .v (j 24), .v (j 25), .v (j 26), .v (j 27), .v (j 28), .v (.slice a29 n29 c29), .v (.int .i64 x30), .v (.int .i64 x31), .v (j 32), .v (j 33), .v (j 34), .v (j 35), .v (j 36), .v (j 37), .v (j 38), .v (j 39), .v (j 40), .v (j 41), .v (j 42), .v (j 43), .v (j 44), .v (j 45), .v (j 46), .v (j 47), .v (j 48), .v (j 49), .v (j 50), .v (j 51), .v (j 52), .v (j 53), .v (j 54), .v (j 55), .v (j 56), .v (j 57), .v (j 58), .v (j 59), .v (j 60), .v (j 61), .v (j 62), .v (.bool x63), .v (j 64), .v (j 65), .v (j 66), .v (j 67), .v (j 68), .v (j 69), .v (j 70), .v (j 71), .v (j 72), .v (j 73), .v (j 74)] [some [(.slice ab0_0 nb0_0 cb0_0), (.bool xb0_1), (.int .i64 xb0_2), (.slice ab0_3 nb0_3 cb0_3)]] h

def f39_10 (w0 : World) (K : Value → AH → Prop) (a29 : Option Go.Addr) (n29 : Nat) (c29 : Nat) (x30 : Int) (x31 : Int) (ab0_0 : Option Go.Addr) (nb0_0 : Nat) (cb0_0 : Nat) (xb0_1 : Bool) (xb0_2 : Int) (ab0_3 : Option Go.Addr) (nb0_3 : Nat) (cb0_3 : Nat) (h : AH) : Prop :=
  ∀ j : Nat → Value, LPk Go.Proofs.Try.prog w0 (EvC Go.Proofs.Try.prog w0) f39_J 39 K 10 [.v (j 0), .v (j 1), .v (j 2), .v (j 3), .bp 0 0, .v (j 5), .v (j 6), .v (j 7), .v (j 8), .v (j 9), .v (j 10), .v (j 11), .v (j 12), .v (j 13), .v (j 14), .v (j 15), .v (j 16), .v (j 17), .v (j 18), .v (j 19), .v (j 20), .v (j 21), .v (j 22), .v (j 23), .v (j 24), .v (j 25), .v (j 26), .v (j 27), .v (j 28), .v (.slice a29 n29 c29), .v (.int .i64 x30), .v (.int .i64 x31), .v (j 32), .v (j 33), .v (j 34), .v (j 35), .v (j 36), .v (j 37), .v (j 38), .v (j 39), .v (j 40), .v (j 41), .v (j 42), .v (j 43), .v (j 44), .v (j 45), .v (j 46), .v (j 47), .v (j 48), .v (j 49), .v (j 50), .v (j 51), .v (j 52), .v (j 53), .v (j 54), .v (j 55), .v (j 56), .v (j 57), .v (j 58), .v (j 59), .v (j 60), .v (j 61), .v (j 62), .v (j 63), .v (j 64), .v (j 65), .v (j 66), .v (j 67), .v (j 68), .v (j 69), .v (j 70), .v (j 71), .v (j 72), .v (j 73), .v (j 74)] [some [(.slice ab0_0 nb0_0 cb0_0), (.bool xb0_1), (.int .i64 xb0_2), (.slice ab0_3 nb0_3 cb0_3)]] h

def f39_11 (w0 : World) (K : Value → AH → Prop) (a29 : Option Go.Addr) (n29 : Nat) (c29 : Nat) (x30 : Int) (x31 : Int) (x73 : Bool) (h : AH) : Prop :=
  ∀ j : Nat → Value, LPk Go.Proofs.Try.prog w0 (EvC Go.Proofs.Try.prog w0) f39_J 39 K 11 [.v (j 0), .v (j 1), .v (j 2), .v (j 3), .v (j 4), .v (j 5), .v (j 6), .v (j 7), .v (j 8), .v (j 9), .v (j 10), .v (j 11), .v (j 12), .v (j 13), .v (j 14), .v (j 15), .v (j 16), .v (j 17), .v (j 18), .v (j 19), .v (j 20), .v (j 21), .v (j 22), .v (j 23), .v (j 24), .v (j 25), .v (j 26), .v (j 27), .v (j 28), .v (.slice a29 n29 c29), .v (.int .i64 x30), .v (.int .i64 x31), .v (j 32), .v (j 33), .v (j 34), .v (j 35), .v (j 36), .v (j 37), .v (j 38), .v (j 39), .v (j 40), .v (j 41), .v (j 42), .v (j 43), .v (j 44), .v (j 45), .v (j 46), .v (j 47), .v (j 48), .v (j 49), .v (j 50), .v (j 51), .v (j 52), .v (j 53), .v (j 54), .v (j 55), .v (j 56), .v (j 57), .v (j 58), .v (j 59), .v (j 60), .v (j 61), .v (j 62), .v (j 63), .v (j 64), .v (j 65), .v (j 66), .v (j 67), .v (j 68), .v (j 69), .v (j 70), .v (j 71), .v (j 72), .v (.bool x73), .v (j 74)] [] h

theorem f39_2_in {w0 : World} {K : Value → AH → Prop} (x14 : Bool) (xb0_0 : Int) (ab0_1 : Option Go.Addr) (nb0_1 : Nat) (cb0_1 : Nat) (h : AH)
  (hv : (brB x14 (K (Go.Value.int .i64 (13 : Int)) h) (f39_3 w0 K xb0_0 ab0_1 nb0_1 cb0_1 h))) :
  f39_2 w0 K x14 xb0_0 ab0_1 nb0_1 cb0_1 h := fun j => LP_intro (P := Go.Proofs.Try.prog) (Eq.mp (by kernel_rfl) hv)

theorem f39_3_in {w0 : World} {K : Value → AH → Prop} (xb0_0 : Int) (ab0_1 : Option Go.Addr) (nb0_1 : Nat) (cb0_1 : Nat) (h : AH)
  (hv : (brB (decide ((xb0_0 < (1 : Int)))) (f39_4 w0 K true xb0_0 ab0_1 nb0_1 cb0_1 h) (f39_4 w0 K (decide (((Go.IntKind.wrap .i64 ((4611686018427387904 : Int) - (Go.IntKind.wrap .i64 (((nb0_1 : Nat) : Int) - (1 : Int))))) < xb0_0))) xb0_0 ab0_1 nb0_1 cb0_1 h))) :
  f39_3 w0 K xb0_0 ab0_1 nb0_1 cb0_1 h := fun j => LP_intro (P := Go.Proofs.Try.prog) (Eq.mp (by kernel_rfl) hv)

theorem f39_4_in {w0 : World} {K : Value → AH → Prop} (x27 : Bool) (xb0_0 : Int) (ab0_1 : Option Go.Addr) (nb0_1 : Nat) (cb0_1 : Nat) (h : AH)
  (hv : (brB x27 (K (Go.Value.int .i64 (1 : Int)) h) (f39_5 w0 K xb0_0 ab0_1 nb0_1 cb0_1 h))) :
  f39_4 w0 K x27 xb0_0 ab0_1 nb0_1 cb0_1 h := fun j => LP_intro (P := Go.Proofs.Try.prog) (Eq.mp (by kernel_rfl) hv)

theorem f39_5_in {w0 : World} {K : Value → AH → Prop} (xb0_0 : Int) (ab0_1 : Option Go.Addr) (nb0_1 : Nat) (cb0_1 : Nat) (h : AH)
  (hv : (f39_6 w0 K ab0_1 nb0_1 cb0_1 ((nb0_1 : Nat) : Int) (0 : Int) h)) :
  f39_5 w0 K xb0_0 ab0_1 nb0_1 cb0_1 h := fun j => LP_intro (P := Go.Proofs.Try.prog) (Eq.mp (by kernel_rfl) hv)

theorem f39_6_in {w0 : World} {K : Value → AH → Prop} (a29 : Option Go.Addr) (n29 : Nat) (c29 : Nat) (x30 : Int) (x31 : Int) (h : AH)
  (hv : (brB (decide ((x31 < x30))) (∃ a'0 : Go.Addr, ((a29 = (some a'0)) ∧ (((0 : Int) ≤ x31) ∧ ((x31 < ((n29 : Nat) : Int)) ∧ (∃ p'1 : Option Go.Addr, (∃ n'2 : Nat, (∃ n'3 : Nat, (∃ t'4 : Bool, (∃ i'5 : Int, (∃ p'6 : Option Go.Addr, (∃ n'7 : Nat, (∃ n'8 : Nat, ((((Array.size #[(Go.Value.slice p'1 n'2 n'3), (Go.Value.bool t'4), (Go.Value.int .i64 i'5), (Go.Value.slice p'6 n'7 n'8)]) = 4) ∧ (At w0 h (Go.Addr.add a'0 ((Int.toNat x31) * 4)) [(Go.Value.slice p'1 n'2 n'3), (Go.Value.bool t'4), (Go.Value.int .i64 i'5), (Go.Value.slice p'6 n'7 n'8)])) ∧ (brB (((n'2 : Nat) : Int) == (0 : Int)) (f39_9 w0 K a29 n29 c29 x30 x31 true p'1 n'2 n'3 t'4 i'5 p'6 n'7 n'8 h) (brB (decide ((i'5 < (0 : Int)))) (f39_9 w0 K a29 n29 c29 x30 x31 true p'1 n'2 n'3 t'4 i'5 p'6 n'7 n'8 h) (brB (decide (((4611686018427387904 : Int) < i'5))) (f39_9 w0 K a29 n29 c29 x30 x31 true p'1 n'2 n'3 t'4 i'5 p'6 n'7 n'8 h) (brB t'4 (brB (i'5 != (0 : Int)) (f39_9 w0 K a29 n29 c29 x30 x31 true p'1 n'2 n'3 t'4 i'5 p'6 n'7 n'8 h) (f39_9 w0 K a29 n29 c29 x30 x31 (decide (((0 : Int) < ((n'7 : Nat) : Int)))) p'1 n'2 n'3 t'4 i'5 p'6 n'7 n'8 h)) (f39_9 w0 K a29 n29 c29 x30 x31 false p'1 n'2 n'3 t'4 i'5 p'6 n'7 n'8 h)))))))))))))))))) (K (Go.Value.int .i64 (0 : Int)) h))) :
  f39_6 w0 K a29 n29 c29 x30 x31 h := fun j => LP_intro (P := Go.Proofs.Try.prog) (Eq.mp (by kernel_rfl) hv)

theorem f39_9_in {w0 : World} {K : Value → AH → Prop} (a29 : Option Go.Addr) (n29 : Nat) (c29 : Nat) (x30 : Int) (x31 : Int) (x63 : Bool) (ab0_0 : Option Go.Addr) (nb0_0 : Nat) (cb0_0 : Nat) (xb0_1 : Bool) (xb0_2 : Int) (ab0_3 : Option Go.Addr) (nb0_3 : Nat) (cb0_3 : Nat) (h : AH)
  (hv : (brB x63 (K (Go.Value.int .i64 (1 : Int)) h) (f39_10 w0 K a29 n29 c29 x30 x31 ab0_0 nb0_0 cb0_0 xb0_1 xb0_2 ab0_3 nb0_3 cb0_3 h))) :
  f39_9 w0 K a29 n29 c29 x30 x31 x63 ab0_0 nb0_0 cb0_0 xb0_1 xb0_2 ab0_3 nb0_3 cb0_3 h := fun j => LP_intro (P := Go.Proofs.Try.prog) (Eq.mp (by kernel_rfl) hv)

theorem f39_10_in {w0 : World} {K : Value → AH → Prop} (a29 : Option Go.Addr) (n29 : Nat) (c29 : Nat) (x30 : Int) (x31 : Int) (ab0_0 : Option Go.Addr) (nb0_0 : Nat) (cb0_0 : Nat) (xb0_1 : Bool) (xb0_2 : Int) (ab0_3 : Option Go.Addr) (nb0_3 : Nat) (cb0_3 : Nat) (h : AH)
  (hv : (brB (decide (((512 : Int) < ((nb0_0 : Nat) : Int)))) (f39_11 w0 K a29 n29 c29 x30 x31 true h) (f39_11 w0 K a29 n29 c29 x30 x31 (decide (((2048 : Int) < ((nb0_3 : Nat) : Int)))) h))) :
  f39_10 w0 K a29 n29 c29 x30 x31 ab0_0 nb0_0 cb0_0 xb0_1 xb0_2 ab0_3 nb0_3 cb0_3 h := fun j => LP_intro (P := Go.Proofs.Try.prog) (Eq.mp (by kernel_rfl) hv)

theorem f39_11_in {w0 : World} {K : Value → AH → Prop} (a29 : Option Go.Addr) (n29 : Nat) (c29 : Nat) (x30 : Int) (x31 : Int) (x73 : Bool) (h : AH)
  (hv : (brB x73 (K (Go.Value.int .i64 (2 : Int)) h) (f39_6 w0 K a29 n29 c29 x30 (Go.IntKind.wrap .i64 (x31 + (1 : Int))) h))) :
  f39_11 w0 K a29 n29 c29 x30 x31 x73 h := fun j => LP_intro (P := Go.Proofs.Try.prog) (Eq.mp (by kernel_rfl) hv)

theorem f39_go {w0 : World} {K : Value → AH → Prop} (x0_0 : Int) (a0_1 : Option Go.Addr) (n0_1 : Nat) (c0_1 : Nat) (h : AH)
  (hv : (brB (decide ((((n0_1 : Nat) : Int) < (1 : Int)))) (f39_2 w0 K true x0_0 a0_1 n0_1 c0_1 h) (f39_2 w0 K (decide (((400 : Int) < ((n0_1 : Nat) : Int)))) x0_0 a0_1 n0_1 c0_1 h))) :
  EvC Go.Proofs.Try.prog w0 39 ([(.agg #[(.int .i64 x0_0), (.slice a0_1 n0_1 c0_1)])]).toArray K h := EvC_intro (P := Go.Proofs.Try.prog) f39_J (Eq.mp (by kernel_rfl) hv)
def f17_J : Nat → List Nat × Nat := jOf [(6, [0, 2, 3, 4, 6, 7, 8, 9, 10, 11, 12, 13, 17, 18, 19, 20, 21, 22, 23, 24, 25, 26, 27, 28, 29, 30, 31, 32, 33, 34, 35, 36, 37, 38], 1)]

def f17_6 (w0 : World) (K : Value → AH → Prop) (a5 : Option Go.Addr) (n5 : Nat) (c5 : Nat) (a14 : Option Go.Addr) (n14 : Nat) (c14 : Nat) (x15 : Int) (x16 : Int) (xb0_0 : Int) (ab0_1 : Option Go.Addr) (nb0_1 : Nat) (cb0_1 : Nat) (h : AH) : Prop :=
  ∀ j : Nat → Value, LPk Go.Proofs.Try.prog w0 (EvC Go.Proofs.Try.prog w0) f17_J 17 K 6 [.v (j 0), .bp 0 0, .v (j 2), .v (j 3), .v (j 4), .v (.slice a5 n5 c5), .v (j 6), .v (j 7), .v (j 8), .v (j 9), .v (j 10), .v (j 11), .v (j 12), .v (j 13), .v (.slice a14 n14 c14), .v (.int .i64 x15), .v (.int .i64 x16), .v (j 17), .v (j 18), .v (j 19), .v (j 20), .v (j 21), .v (j 22), .v (j 23), .v (j 24), .v (j 25), .v (j 26), .v (j 27), .v (j 28), .v (j 29), .v (j 30), .v (j 31), .v (j 32), .v (j 33), .v (j 34), .v (j 35), .v (j 36), .v (j 37), .v (j 38)] [some [(.int .i64 xb0_0), (.slice ab0_1 nb0_1 cb0_1)]] h

theorem f17_6_in {w0 : World} {K : Value → AH → Prop} (a5 : Option Go.Addr) (n5 : Nat) (c5 : Nat) (a14 : Option Go.Addr) (n14 : Nat) (c14 : Nat) (x15 : Int) (x16 : Int) (xb0_0 : Int) (ab0_1 : Option Go.Addr) (nb0_1 : Nat) (cb0_1 : Nat) (h : AH)
  (hv : (brB (decide ((x16 < x15))) (∃ a'3 : Go.Addr, ((a14 = (some a'3)) ∧ (((0 : Int) ≤ x16) ∧ ((x16 < ((n14 : Nat) : Int)) ∧ (∃ p'4 : Option Go.Addr, (∃ n'5 : Nat, (∃ n'6 : Nat, (∃ t'7 : Bool, (∃ i'8 : Int, (∃ p'9 : Option Go.Addr, (∃ n'10 : Nat, (∃ n'11 : Nat, ((((Array.size #[(Go.Value.slice p'4 n'5 n'6), (Go.Value.bool t'7), (Go.Value.int .i64 i'8), (Go.Value.slice p'9 n'10 n'11)]) = 4) ∧ (At w0 h (Go.Addr.add a'3 ((Int.toNat x16) * 4)) [(Go.Value.slice p'4 n'5 n'6), (Go.Value.bool t'7), (Go.Value.int .i64 i'8), (Go.Value.slice p'9 n'10 n'11)])) ∧ (App w0 h 5 72 a5 n5 c5 1 [(Go.Value.slice p'4 n'5 n'6), (Go.Value.int .i64 (Go.IntKind.wrap .i64 (xb0_0 + x16))), (Go.Value.bool t'7), (Go.Value.int .i64 i'8), (Go.Value.slice p'9 n'10 n'11)] (fun a'12 c'13 h'14 => (f17_6 w0 K a'12 (n5 + 1) c'13 a14 n14 c14 x15 (Go.IntKind.wrap .i64 (x16 + (1 : Int))) xb0_0 ab0_1 nb0_1 cb0_1 h'14)))))))))))))))) (K (Go.Value.tuple #[(Go.Value.slice a5 n5 c5), (Go.Value.int .i64 (0 : Int))]) h))) :
  f17_6 w0 K a5 n5 c5 a14 n14 c14 x15 x16 xb0_0 ab0_1 nb0_1 cb0_1 h := fun j => LP_intro (P := Go.Proofs.Try.prog) (Eq.mp (by kernel_rfl) hv)

theorem f17_go {w0 : World} {K : Value → AH → Prop} (x0_0 : Int) (a0_1 : Option Go.Addr) (n0_1 : Nat) (c0_1 : Nat) (h : AH)
  (hv : (EvC Go.Proofs.Try.prog w0 39 #[(Go.Value.agg #[(Go.Value.int .i64 x0_0), (Go.Value.slice a0_1 n0_1 c0_1)])] (fun x'0 h'1 => (∃ i'2 : Int, ((x'0 = (Go.Value.int .i64 i'2)) ∧ (brB (i'2 != (0 : Int)) (K (Go.Value.tuple #[(Go.Value.slice none 0 0), (Go.Value.int .i64 i'2)]) h'1) (f17_6 w0 K none 0 0 a0_1 n0_1 c0_1 ((n0_1 : Nat) : Int) (0 : Int) x0_0 a0_1 n0_1 c0_1 h'1))))) h)) :
  EvC Go.Proofs.Try.prog w0 17 ([(.agg #[(.int .i64 x0_0), (.slice a0_1 n0_1 c0_1)])]).toArray K h := EvC_intro (P := Go.Proofs.Try.prog) f17_J (Eq.mp (by kernel_rfl) hv)
def f5_J : Nat → List Nat × Nat := jOf [(8, [0, 2, 3, 4, 7, 9, 10, 11, 12, 13, 14, 15, 16, 17, 18, 19, 20, 21, 22, 23, 24, 25, 26, 27, 28, 29, 30, 31, 32, 33, 34, 35, 39, 40, 41, 42, 43, 44, 45, 46, 47, 48, 49, 50, 51, 52, 53, 54, 55, 56, 57, 58, 59, 60, 61, 62, 63, 64, 65, 66, 67, 68, 69, 70, 71, 72, 73, 74, 75, 76, 77, 78, 79, 80, 81, 82, 83, 84, 85, 86, 87, 88, 89, 90, 91, 92, 93, 94, 95, 96, 97, 98, 99, 100, 101, 102, 103, 104, 105, 106, 107, 108, 109, 110, 111, 112, 113, 114, 115], 0), (16, [0, 2, 3, 4, 6, 7, 9, 10, 11, 12, 13, 14, 15, 16, 17, 18, 19, 20, 21, 22, 23, 24, 25, 26, 27, 28, 29, 30, 31, 32, 33, 34, 35, 36, 37, 38, 39, 40, 41, 42, 43, 44, 45, 46, 47, 48, 49, 50, 51, 52, 53, 54, 55, 56, 57, 58, 59, 60, 61, 62, 63, 64, 65, 66, 67, 68, 69, 70, 71, 72, 73, 74, 75, 76, 77, 78, 79, 80, 81, 82, 83, 84, 85, 86, 87, 88, 89, 90, 91, 92, 93, 94, 95, 96, 97, 98, 99, 100, 101, 102, 103, 104, 105, 106, 107, 108, 109, 110, 111, 112, 113, 114, 115], 0), (21, [0, 1, 2, 3, 4, 5, 6, 7, 9, 10, 11, 14, 16, 17, 18, 19, 20, 21, 22, 23, 24, 25, 26, 27, 28, 29, 30, 31, 32, 33, 34, 35, 36, 37, 38, 39, 40, 41, 42, 43, 44, 45, 46, 47, 48, 49, 50, 51, 52, 53, 54, 55, 56, 57, 58, 59, 60, 61, 62, 63, 64, 65, 66, 67, 68, 69, 70, 74, 75, 76, 77, 78, 79, 80, 81, 82, 83, 84, 85, 86, 87, 88, 89, 90, 91, 92, 93, 94, 95, 96, 97, 98, 99, 100, 101, 102, 103, 104, 105, 106, 107, 108, 109, 110, 111, 112, 113, 114, 115], 0), (27, [0, 1, 2, 3, 4, 5, 6, 7, 9, 10, 11, 14, 16, 17, 18, 19, 20, 21, 22, 23, 24, 25, 26, 27, 28, 29, 30, 31, 32, 33, 34, 35, 36, 37, 38, 39, 40, 41, 42, 43, 44, 45, 46, 47, 48, 49, 50, 51, 52, 53, 54, 55, 56, 57, 58, 59, 60, 61, 62, 63, 64, 65, 66, 67, 68, 69, 70, 74, 75, 76, 77, 78, 79, 80, 81, 82, 83, 87, 88, 89, 90, 91, 92, 93, 94, 95, 96, 97, 98, 99, 100, 101, 102, 103, 104, 105, 106, 107, 108, 109, 110, 111, 112, 113, 114, 115], 0)]

def f5_8 (w0 : World) (K : Value → AH → Prop) (x1 : Int) (x5 : Option Go.Addr) (x6 : Option Go.Addr) (x8 : Int) (a36 : Option Go.Addr) (n36 : Nat) (c36 : Nat) (x37 : Int) (x38 : Int) (h : AH) : Prop :=
  ∀ j : Nat → Value, LPk Go.Proofs.Try.prog w0 (EvC Go.Proofs.Try.prog w0) f5_J 5 K 8 [.v (j 0), .v (.int .i64 x1), .v (j 2), .v (j 3), .v (j 4), .v (.pointer x5), .v (.pointer x6), .v (j 7), .v (.int .i64 x8), .v (j 9), .v (j 10), .v (j 11), .v (j 12), .v (j 13), .v (j 14), .v (j 15), .v (j 16), .v (j 17), .v (j 18), .v (j 19), .v (j 20), .v (j 21), .v (j 22), .v (j 23), .v (j 24), .v (j 25), .v (j 26), .v (j 27), .v (j 28), .v (j 29), .v (j 30), .v (j 31), .v (j 32), .v (j 33), .v (j 34), .v (j 35), .v (.slice a36 n36 c36), .v (.int .i64 x37), .v (.int .i64 x38), .v (j 39), .v (j 40), .v (j 41), .v (j 42), .v (j 43), .v (j 44), .v (j 45), .v (j 46), .v (j 47), .v (j 48), .v (j 49), .v (j 50), .v (j 51), .v (j 52), .v (j 53), .v (j 54), .v (j 55), .v (j 56), .v (j 57), .v (j 58), .v (j 59), .v (j 60), .v (j 61), .v (j 62), .v (j 63), .v (j 64), .v (j 65), .v (j 66), .v (j 67), .v (j 68), .v (j 69), .v (j 70), .v (j 71), .v (j 72), .v (j 73), .v (j 74), .v (j 75), .v (j 76), .v (j 77), .v (j 78), .v (j 79), .v (j 80), .v (j 81), .v (j 82), .v (j 83), .v (j 84), .v (j 85), .v (j 86), .v (j 87), .v (j 88), .v (j 89), .v (j 90), .v (j 91), .v (j 92), .v (j 93), .v (j 94), .v (j 95), .v (j 96), .v (j 97), .v (j 98), .v (j 99), .v (j 100), .v (j 101), .v (j 102), .v (j 103), .v (j 104), .v (j 105), .v (j 106), .v (j 107), .v (j 108), .v (j 109), .v (j 110), .v (j 111), .v (j 112), .v (j 113), .v (j 114), .v (j 115)] [] h

def f5_16 (w0 : World) (K : Value → AH → Prop) (x1 : Int) (x5 : Option Go.Addr) (x8 : Int) (h : AH) : Prop :=
  ∀ j : Nat → Value, LPk Go.Proofs.Try.prog w0 (EvC Go.Proofs.Try.prog w0) f5_J 5 K 16 [.v (j 0), .v (.int .i64 x1), .v (j 2), .v (j 3), .v (j 4), .v (.pointer x5), .v (j 6), .v (j 7), .v (.int .i64 x8), .v (j 9), .v (j 10), .v (j 11), .v (j 12), .v (j 13), .v (j 14), .v (j 15), .v (j 16), .v (j 17), .v (j 18), .v (j 19), .v (j 20), .v (j 21), .v (j 22), .v (j 23), .v (j 24), .v (j 25), .v (j 26), .v (j 27), .v (j 28), .v (j 29), .v (j 30), .v (j 31), .v (j 32), .v (j 33), .v (j 34), .v (j 35), .v (j 36), .v (j 37), .v (j 38), .v (j 39), .v (j 40), .v (j 41), .v (j 42), .v (j 43), .v (j 44), .v (j 45), .v (j 46), .v (j 47), .v (j 48), .v (j 49), .v (j 50), .v (j 51), .v (j 52), .v (j 53), .v (j 54), .v (j 55), .v (j 56), .v (j 57), .v (j 58), .v (j 59), .v (j 60), .v (j 61), .v (j 62), .v (j 63), .v (j 64), .v (j 65), .v (j 66), .v (j 67), .v (j 68), .v (j 69), .v (j 70), .v (j 71), .v (j 72), .v (j 73), .v (j 74), .v (j 75), .v (j 76), .v (j 77), .v (j 78), .v (j 79), .v (j 80), .v (j 81), .v (j 82), .v (j 83), .v (j 84), .v (j 85), .v (j 86), .v (j 87), .v (j 88), .v (j 89), .v (j 90), .v (j 91), .v (j 92), .v (j 93), .v (j 94), .v (j 95), .v (j 96), .v (j 97), .v (j 98), .v (j 99), .v (j 100), .v (j 101), .v (j 102), .v (j 103), .v (j 104), .v (j 105), .v (j 106), .v (j 107), .v (j 108), .v (j 109), .v (j 110), .v (j 111), .v (j 112), .v (j 113), .v (j 114), .v (j 115)] [] h

def f5_21 (w0 : World) (K : Value → AH → Prop) (x8 : Int) (x12 : Option Go.Addr) (a13 : Option Go.Addr) (n13 : Nat) (c13 : Nat) (x15 : Int) (a71 : Option Go.Addr) (n71 : Nat) (c71 : Nat) (x72 : Int) (x73 : Int) (h : AH) : Prop :=
  ∀ j : Nat → Value, LPk Go.Proofs.Try.prog w0 (EvC Go.Proofs.Try.prog w0) f5_J 5 K 21 [.v (j 0), .v (j 1), .v (j 2), .v (j 3), .v (j 4), .v (j 5), .v (j 6), .v (j 7), .v (.int .i64 x8), .v (j 9), .v (j 10), .v (j 11), .v (.pointer x12), .v (.slice a13 n13 c13), .v (j 14), .v (.int .i64 x15), .v (j 16), .v (j 17), .v (j 18), .v (j 19), .v (j 20), .v (j 21), .v (j 22), .v (j 23), .v (j 24), .v (j 25), .v (j 26), .v (j 27), .v (j 28), .v (j 29), .v (j 30), .v (j 31), .v (j 32), .v (j 33), .v (j 34), .v (j 35), .v (j 36), .v (j 37), .v (j 38), .v (j 39), .v (j 40), .v (j 41), .v (j 42), .v (j 43), .v (j 44), .v (j 45), .v (j 46), .v (j 47), .v (j 48), .v (j 49), .v (j 50), .v (j 51), .v (j 52), .v (j 53), .v (j 54), .v (j 55), .v (j 56), .v (j 57), .v (j 58), .v (j 59), .v (j 60), .v (j 61), .v (j 62), .v (j 63), .v (j 64), .v (j 65), .v (j 66), .v (j 67), .v (j 68), .v (j 69), .v (j 70), .v (.slice a71 n71 c71), .v (.int .i64 x72), .v (.int .i64 x73), .v (j 74), .v (j 75), .v (j 76), .v (j 77), .v (j 78), .v (j 79), .v (j 80), .v (j 81), .v (j 82), .v (j 83), .v (j 84), .v (j 85), .v (j 86), .v (j 87), .v (j 88), .v (j 89), .v (j 90), .v (j 91), .v (j 92), .v (j 93), .v (j 94), .v (j 95), .v (j 96), .v (j 97), .v (j 98), .v (j 99), .v (j 100), .v (j 101), .v (j 102), .v (j 103), .v (j 104), .v (j 105), .v (j 106), .v (j 107), .v (j 108), .v (j 109), .v (j 110), .v (j 111), .v (j 112), .v (j 113), .v (j 114), .v (j 115)] [] h

def f5_27 (w0 : World) (K : Value → AH → Prop) (x8 : Int) (x12 : Option Go.Addr) (a13 : Option Go.Addr) (n13 : Nat) (c13 : Nat) (x15 : Int) (a71 : Option Go.Addr) (n71 : Nat) (c71 : Nat) (x72 : Int) (x73 : Int) (a84 : Option Go.Addr) (n84 : Nat) (c84 : Nat) (x85 : Int) (x86 : Int) (h : AH) : Prop :=
  ∀ j : Nat → Value, LPk Go.Proofs.Try.prog w0 (EvC Go.Proofs.Try.prog w0) f5_J 5 K 27 [.v (j 0), .v (j 1), .v (j 2), .v (j 3), .v (j 4), .v (j 5), .v (j 6), .v (j 7), .v (.int .i64 x8), .v (j 9), .v (j 10), .v (j 11), .v (.pointer x12), .v (.slice a13 n13 c13), .v (j 14), .v (.int .i64 x15), .v (j 16), .v (j 17), .v (j 18), .v (j 19), .v (j 20), .v (j 21), .v (j 22), .v (j 23), .v (j 24), .v (j 25), .v (j 26), .v (j 27), .v (j 28), .v (j 29), .v (j 30), .v (j 31), .v (j 32), .v (j 33), .v (j 34), .v (j 35), .v (j 36), .v (j 37), .v (j 38), .v (j 39), .v (j 40), .v (j 41), .v (j 42), .v (j 43), .v (j 44), .v (j 45), .v (j 46), .v (j 47), .v (j 48), .v (j 49), .v (j 50), .v (j 51), .v (j 52), .v (j 53), .v (j 54), .v (j 55), .v (j 56), .v (j 57), .v (j 58), .v (j 59), .v (j 60), .v (j 61), .v (j 62), .v (j 63), .v (j 64), .v (j 65), .v (j 66), .v (j 67), .v (j 68), .v (j 69), .v (j 70), .v (.slice a71 n71 c71), .v (.int .i64 x72), .v (.int .i64 x73), .v (j 74), .v (j 75), .v (j 76), .v (j 77), .v (j 78), .v (j 79), .v (j 80), .v (j 81), .v (j 82), .v (j 83), .v (.slice a84 n84 c84), .v (.int .i64 x85), .v (.int .i64 x86), .v (j 87), .v (j 88), .v (j 89), .v (j 90), .v (j 91), .v (j 92), .v (j 93), .v (j 94), .v (j 95), .v (j 96), .v (j 97), .v (j 98), .v (j 99), .v (j 100), .v (j 101), .v (j 102), .v (j 103), .v (j 104), .v (j 105), .v (j 106), .v (j 107), .v (j 108), .v (j 109), .v (j 110), .v (j 111), .v (j 112), .v (j 113), .v (j 114), .v (j 115)] [] h

theorem f5_8_in {w0 : World} {K : Value → AH → Prop} (x1 : Int) (x5 : Option Go.Addr) (x6 : Option Go.Addr) (x8 : Int) (a36 : Option Go.Addr) (n36 : Nat) (c36 : Nat) (x37 : Int) (x38 : Int) (h : AH)
  (hv : (brB (decide ((x38 < x37))) (∃ a'7 : Go.Addr, ((a36 = (some a'7)) ∧ (((0 : Int) ≤ x38) ∧ ((x38 < ((n36 : Nat) : Int)) ∧ (∃ i'8 : Int, (((Go.G.cellA w0 h (Go.Addr.add a'7 ((Int.toNat x38) * 1))) = (some (Go.Value.int .i64 i'8))) ∧ (brB (decide (((20 : Int) ≤ x38))) (f5_16 w0 K x1 x5 x8 h) (((5 : Int) ≠ (0 : Int)) ∧ (EvC Go.Proofs.Try.prog w0 13 #[(Go.Value.int .i64 x8), (Go.Value.int .i64 (Go.IntKind.wrap .i64 ((Go.IntKind.wrap .i64 (Int.tmod (Go.IntKind.wrap .u64 i'8) (5 : Int))) + (1 : Int))))] (fun x'9 h'10 => (∃ i'11 : Int, (∃ p'12 : Option Go.Addr, (∃ n'13 : Nat, (∃ n'14 : Nat, ((x'9 = (Go.Value.agg #[(Go.Value.int .i64 i'11), (Go.Value.slice p'12 n'13 n'14)])) ∧ (EvC Go.Proofs.Try.prog w0 12 #[(Go.Value.pointer x6), (Go.Value.agg #[(Go.Value.int .i64 i'11), (Go.Value.slice p'12 n'13 n'14)])] (fun x'15 h'16 => (∃ i'17 : Int, ((x'15 = (Go.Value.int .i64 i'17)) ∧ (brB (i'17 != (0 : Int)) (K (Go.Value.bool false) h'16) (f5_8 w0 K x1 x5 x6 (Go.IntKind.wrap .i64 (x8 + ((n'13 : Nat) : Int))) a36 n36 c36 x37 (Go.IntKind.wrap .i64 (x38 + (1 : Int))) h'16))))) h'10))))))) h))))))))) (f5_16 w0 K x1 x5 x8 h))) :
  f5_8 w0 K x1 x5 x6 x8 a36 n36 c36 x37 x38 h := fun j => LP_intro (P := Go.Proofs.Try.prog) (Eq.mp (by kernel_rfl) hv)

theorem f5_16_in {w0 : World} {K : Value → AH → Prop} (x1 : Int) (x5 : Option Go.Addr) (x8 : Int) (h : AH)
  (hv : (EvC Go.Proofs.Try.prog w0 11 #[(Go.Value.pointer x5), (Go.Value.string (ByteArray.mk #[(119 : UInt8)]))] (fun x'18 h'19 => (∃ p'20 : Option Go.Addr, (∃ p'21 : Option Go.Addr, (∃ n'22 : Nat, (∃ n'23 : Nat, (∃ i'24 : Int, ((x'18 = (Go.Value.tuple #[(Go.Value.pointer p'20), (Go.Value.slice p'21 n'22 n'23), (Go.Value.int .i64 i'24)])) ∧ (brB (i'24 != (0 : Int)) (K (Go.Value.bool false) h'19) (f5_21 w0 K x8 p'20 p'21 n'22 n'23 x1 p'21 n'22 n'23 ((n'22 : Nat) : Int) (0 : Int) h'19))))))))) h)) :
  f5_16 w0 K x1 x5 x8 h := fun j => LP_intro (P := Go.Proofs.Try.prog) (Eq.mp (by kernel_rfl) hv)

theorem f5_21_in {w0 : World} {K : Value → AH → Prop} (x8 : Int) (x12 : Option Go.Addr) (a13 : Option Go.Addr) (n13 : Nat) (c13 : Nat) (x15 : Int) (a71 : Option Go.Addr) (n71 : Nat) (c71 : Nat) (x72 : Int) (x73 : Int) (h : AH)
  (hv : (brB (decide ((x73 < x72))) (∃ a'25 : Go.Addr, ((a71 = (some a'25)) ∧ (((0 : Int) ≤ x73) ∧ ((x73 < ((n71 : Nat) : Int)) ∧ (∃ i'26 : Int, (∃ p'27 : Option Go.Addr, (∃ n'28 : Nat, (∃ n'29 : Nat, ((((Array.size #[(Go.Value.int .i64 i'26), (Go.Value.slice p'27 n'28 n'29)]) = 2) ∧ (At w0 h (Go.Addr.add a'25 ((Int.toNat x73) * 2)) [(Go.Value.int .i64 i'26), (Go.Value.slice p'27 n'28 n'29)])) ∧ (EvC Go.Proofs.Try.prog w0 17 #[(Go.Value.agg #[(Go.Value.int .i64 i'26), (Go.Value.slice p'27 n'28 n'29)])] (fun x'30 h'31 => (∃ p'32 : Option Go.Addr, (∃ n'33 : Nat, (∃ n'34 : Nat, (∃ i'35 : Int, ((x'30 = (Go.Value.tuple #[(Go.Value.slice p'32 n'33 n'34), (Go.Value.int .i64 i'35)])) ∧ (brB (i'35 != (0 : Int)) (K (Go.Value.bool false) h'31) (f5_27 w0 K x8 x12 a13 n13 c13 x15 a71 n71 c71 x72 x73 p'32 n'33 n'34 ((n'33 : Nat) : Int) (0 : Int) h'31)))))))) h)))))))))) (brB (x15 == x8) (brB (((n13 : Nat) : Int) == (0 : Int)) (EvC Go.Proofs.Try.prog w0 15 #[] (fun x'36 h'37 => (∃ t'38 : Bool, ((x'36 = (Go.Value.bool t'38)) ∧ (K (Go.Value.bool t'38) h'37)))) h) (EvC Go.Proofs.Try.prog w0 14 #[(Go.Value.pointer x12)] (fun x'39 h'40 => (∃ i'41 : Int, ((x'39 = (Go.Value.int .i64 i'41)) ∧ (brB (i'41 == (Go.IntKind.wrap .i64 (x8 - (1 : Int)))) (EvC Go.Proofs.Try.prog w0 15 #[] (fun x'42 h'43 => (∃ t'44 : Bool, ((x'42 = (Go.Value.bool t'44)) ∧ (K (Go.Value.bool t'44) h'43)))) h'40) (K (Go.Value.bool false) h'40))))) h)) (K (Go.Value.bool false) h)))) :
  f5_21 w0 K x8 x12 a13 n13 c13 x15 a71 n71 c71 x72 x73 h := fun j => LP_intro (P := Go.Proofs.Try.prog) (Eq.mp (by kernel_rfl) hv)

theorem f5_27_in {w0 : World} {K : Value → AH → Prop} (x8 : Int) (x12 : Option Go.Addr) (a13 : Option Go.Addr) (n13 : Nat) (c13 : Nat) (x15 : Int) (a71 : Option Go.Addr) (n71 : Nat) (c71 : Nat) (x72 : Int) (x73 : Int) (a84 : Option Go.Addr) (n84 : Nat) (c84 : Nat) (x85 : Int) (x86 : Int) (h : AH)
  (hv : (brB (decide ((x86 < x85))) (∃ a'45 : Go.Addr, ((a84 = (some a'45)) ∧ (((0 : Int) ≤ x86) ∧ ((x86 < ((n84 : Nat) : Int)) ∧ (∃ p'46 : Option Go.Addr, (∃ n'47 : Nat, (∃ n'48 : Nat, (∃ i'49 : Int, (∃ t'50 : Bool, (∃ i'51 : Int, (∃ p'52 : Option Go.Addr, (∃ n'53 : Nat, (∃ n'54 : Nat, ((((Array.size #[(Go.Value.slice p'46 n'47 n'48), (Go.Value.int .i64 i'49), (Go.Value.bool t'50), (Go.Value.int .i64 i'51), (Go.Value.slice p'52 n'53 n'54)]) = 5) ∧ (At w0 h (Go.Addr.add a'45 ((Int.toNat x86) * 5)) [(Go.Value.slice p'46 n'47 n'48), (Go.Value.int .i64 i'49), (Go.Value.bool t'50), (Go.Value.int .i64 i'51), (Go.Value.slice p'52 n'53 n'54)])) ∧ (brB (i'49 != x15) (K (Go.Value.bool false) h) (f5_27 w0 K x8 x12 a13 n13 c13 (Go.IntKind.wrap .i64 (x15 + (1 : Int))) a71 n71 c71 x72 x73 a84 n84 c84 x85 (Go.IntKind.wrap .i64 (x86 + (1 : Int))) h)))))))))))))))) (f5_21 w0 K x8 x12 a13 n13 c13 x15 a71 n71 c71 x72 (Go.IntKind.wrap .i64 (x73 + (1 : Int))) h))) :
  f5_27 w0 K x8 x12 a13 n13 c13 x15 a71 n71 c71 x72 x73 a84 n84 c84 x85 x86 h := fun j => LP_intro (P := Go.Proofs.Try.prog) (Eq.mp (by kernel_rfl) hv)

theorem f5_go {w0 : World} {K : Value → AH → Prop} (a0 : Option Go.Addr) (n0 : Nat) (c0 : Nat) (x1 : Int) (h : AH)
  (hv : (((2305843009213693952 : Int) ≠ (0 : Int)) ∧ (EvC Go.Proofs.Try.prog w0 9 #[(Go.Value.int .i64 (4194304 : Int))] (fun x'0 h'1 => (∃ p'2 : Option Go.Addr, ((x'0 = (Go.Value.pointer p'2)) ∧ (EvC Go.Proofs.Try.prog w0 10 #[(Go.Value.pointer p'2), (Go.Value.string (ByteArray.mk #[(119 : UInt8)]))] (fun x'3 h'4 => (∃ p'5 : Option Go.Addr, (∃ i'6 : Int, ((x'3 = (Go.Value.tuple #[(Go.Value.pointer p'5), (Go.Value.int .i64 i'6)])) ∧ (brB (i'6 != (0 : Int)) (K (Go.Value.bool false) h'4) (f5_8 w0 K (Go.IntKind.wrap .i64 ((Go.IntKind.wrap .i64 (Int.tmod (Go.IntKind.wrap .u64 x1) (2305843009213693952 : Int))) + (1 : Int))) p'2 p'5 (Go.IntKind.wrap .i64 ((Go.IntKind.wrap .i64 (Int.tmod (Go.IntKind.wrap .u64 x1) (2305843009213693952 : Int))) + (1 : Int))) a0 n0 c0 ((n0 : Nat) : Int) (0 : Int) h'4)))))) h'1)))) h))) :
  EvC Go.Proofs.Try.prog w0 5 ([(.slice a0 n0 c0), (.int .i64 x1)]).toArray K h := EvC_intro (P := Go.Proofs.Try.prog) f5_J (Eq.mp (by kernel_rfl) hv)
/-! ### WalEntries -/
section
variable {w0 : World} {K : Value → AH → Prop} {h : AH} {B : List (Nat × AB)}
/-- The document's MayBatch. -/
theorem f39_spec {seq : Int} {a : Option Addr} {c : Nat} {l : List OpM} (hr : Rd w0 h a (opsC l)) (hk : K (.int .i64 (mayB seq (l.map OpM.o))) h) : EvC Go.Proofs.Try.prog w0 39 #[.agg #[.int .i64 seq, .slice a l.length c]] K h := by
  unfold mayB at hk
  rw [List.length_map] at hk
  have two : ∀ x : Bool, (x = true ↔ (l.length = 0 ∨ 400 < l.length)) → f39_2 w0 K x seq a l.length c h := fun x hx => by
    refine f39_2_in _ _ _ _ _ _ (brB_of (fun q => ?_) fun q => ?_)
    · rw [if_pos (hx.1 q)] at hk; exact hk
    have hn : ¬ (l.length = 0 ∨ 400 < l.length) := fun y => by rw [hx.2 y] at q; cases q
    rw [if_neg hn] at hk
    have four : ∀ y : Bool, (y = true ↔ (seq < 1 ∨ 4611686018427387904 - (l.length : Int) + 1 < seq)) → f39_4 w0 K y seq a l.length c h := fun y hy => by
      refine f39_4_in _ _ _ _ _ _ (brB_of (fun q => ?_) fun q => ?_)
      · rw [if_pos (hy.1 q)] at hk; exact hk
      rw [if_neg (fun z => by rw [hy.2 z] at q; cases q)] at hk
      have loop : ∀ (rest : List OpM) (i : Nat), l.drop i = rest → i ≤ l.length → K (.int .i64 (mayOs (rest.map OpM.o))) h → f39_6 w0 K a l.length c ((l.length : Nat) : Int) ((i : Nat) : Int) h := by
        intro rest
        induction rest with
        | nil =>
          intro i hd hi hk
          have := drop_done hd
          exact f39_6_in _ _ _ _ _ _ (brB_of (fun q => by simp at q; omega) fun _ => hk)
        | cons m r ih =>
          intro i hd hi hk
          obtain ⟨hget, hd', hlt⟩ := drop_step hd
          obtain ⟨ad, had, hat⟩ := rowLoad (enc := OpM.cells) (k := 4) (fun _ => rfl) (by decide) hr hget
          have hk2 : K (.int .i64 (if mayO m.o ≠ 0 then mayO m.o else mayOs (r.map OpM.o))) h := hk
          have nine : ∀ x : Bool, (x = true ↔ (m.o.key.length = 0 ∨ m.o.til < 0 ∨ 4611686018427387904 < m.o.til ∨ (m.o.gone = true ∧ (m.o.til ≠ 0 ∨ 0 < m.o.val.length)))) →
              f39_9 w0 K a l.length c ((l.length : Nat) : Int) ((i : Nat) : Int) x m.ka m.o.key.length m.kc m.o.gone m.o.til m.va m.o.val.length m.vc h := fun x hx => by
            refine f39_9_in _ _ _ _ _ _ _ _ _ _ _ _ _ _ _ (brB_of (fun q => ?_) fun q => ?_)
            · have em : mayO m.o = 1 := by unfold mayO; rw [if_pos (hx.1 q)]
              rw [em, if_pos (by decide)] at hk2; exact hk2
            have hn2 : ¬ _ := fun z => by rw [hx.2 z] at q; cases q
            have eleven : ∀ y : Bool, (y = true ↔ (512 < m.o.key.length ∨ 2048 < m.o.val.length)) → f39_11 w0 K a l.length c ((l.length : Nat) : Int) ((i : Nat) : Int) y h := fun y hy => by
              refine f39_11_in _ _ _ _ _ _ _ (brB_of (fun q => ?_) fun q => ?_)
              · have em : mayO m.o = 2 := by unfold mayO; rw [if_neg hn2, if_pos (hy.1 q)]
                rw [em, if_pos (by decide)] at hk2; exact hk2
              have em : mayO m.o = 0 := by unfold mayO; rw [if_neg hn2, if_neg (fun z => by rw [hy.2 z] at q; cases q)]
              rw [em, if_neg (by decide)] at hk2
              rw [wrapS (by omega)]
              exact ih (i + 1) hd' (by omega) hk2
            refine f39_10_in _ _ _ _ _ _ _ _ _ _ _ _ _ _ (brB_of (fun q1 => eleven _ ?_) fun q1 => eleven _ ?_)
            · have := of_decide_eq_true q1; simp; omega
            · have := of_decide_eq_false q1; simp; omega
          refine f39_6_in _ _ _ _ _ _ (brB_of (fun _ => ⟨ad, had, by omega, by omega, _, _, _, _, _, _, _, _, ⟨rfl, hat⟩, ?_⟩) fun q => by simp at q; omega)
          refine brB_of (fun q1 => nine _ ?_) fun q1 => brB_of (fun q2 => nine _ ?_) fun q2 => brB_of (fun q3 => nine _ ?_) fun q3 => brB_of (fun q4 => brB_of (fun q5 => nine _ ?_) fun q5 => nine _ ?_) fun q4 => nine _ ?_
          all_goals simp only [beq_iff_eq, beq_eq_false_iff_ne, decide_eq_true_eq, decide_eq_false_iff_not, bne_iff_ne, bne_eq_false_iff_eq] at *
          · simp only [true_iff]; omega
          · simp only [true_iff]; omega
          · simp only [true_iff]; omega
          · simp only [true_iff]; exact Or.inr (Or.inr (Or.inr ⟨q4, Or.inl q5⟩))
          · simp only [q4, true_and]; omega
          · refine ⟨fun z => (by cases z), fun z => ?_⟩
            rcases z with z | z | z | z
            · omega
            · omega
            · omega
            · rw [q4] at z; cases z.1
      exact f39_5_in _ _ _ _ _ (loop l 0 rfl (Nat.zero_le _) hk)
    refine f39_3_in _ _ _ _ _ (brB_of (fun q1 => four _ ?_) fun q1 => four _ ?_)
    · have := of_decide_eq_true q1; simp [this]
    · have := of_decide_eq_false q1
      rw [wrap64 (x := ((l.length : Nat) : Int) - 1) (by omega) (by omega), wrap64 (by omega) (by omega)]
      simp; omega
  refine f39_go _ _ _ _ _ (brB_of (fun q => two _ ?_) fun q => two _ ?_)
  · have := of_decide_eq_true q; simp only [true_iff]; omega
  · have := of_decide_eq_false q; rw [decide_eq_true_eq]; omega
/-! entries -/
@[reducible] def enC (e : Int × OpM) : List Value := [.slice e.2.ka e.2.o.key.length e.2.kc, .int .i64 e.1, .bool e.2.o.gone, .int .i64 e.2.o.til, .slice e.2.va e.2.o.val.length e.2.vc]
def ensC (l : List (Int × OpM)) : List Value := l.flatMap enC
def ensOf : Int → List OpM → List (Int × OpM)
  | _, [] => []
  | x, m :: r => (x, m) :: ensOf (x + 1) r
theorem ensOf_len (x : Int) (l : List OpM) : (ensOf x l).length = l.length := by
  induction l generalizing x with
  | nil => rfl
  | cons m r ih => simp [ensOf, ih]
theorem ensOf_snoc (x : Int) (l : List OpM) (m : OpM) : ensOf x (l ++ [m]) = ensOf x l ++ [(x + l.length, m)] := by
  induction l generalizing x with
  | nil => simp [ensOf]
  | cons y r ih => simp [ensOf, ih]; omega
theorem ensOf_get {l : List OpM} {x : Int} {i : Nat} {m : OpM} (h : l[i]? = some m) : (ensOf x l)[i]? = some (x + i, m) := by
  induction l generalizing x i with
  | nil => simp at h
  | cons y r ih =>
    cases i with
    | zero => simp at h; simp [ensOf, h]
    | succ i => simp at h; have := ih (x := x + 1) h; simp [ensOf, this]; omega
theorem enC_cell (e : Int × OpM) : ∀ y ∈ enC e, y.oneCell' = true := by
  intro y hy
  simp at hy
  rcases hy with rfl | rfl | rfl | rfl | rfl <;> rfl
/-- The document's Entries. -/
theorem f17_spec {seq : Int} {a : Option Addr} {c : Nat} {l : List OpM} (hm : mayB seq (l.map OpM.o) = 0) (w : Own w0 h B) (hO : ∀ h', Own w0 h' B → OpsOk w0 h' a l)
    (hk : ∀ h' a' c', SlV 5 a' l.length c' (ensC (ensOf seq l)) → Own w0 h' (slB a' (ensC (ensOf seq l)) (c' * 5) ++ B) → K (.tuple #[.slice a' l.length c', .int .i64 0]) h') : EvC Go.Proofs.Try.prog w0 17 #[.agg #[.int .i64 seq, .slice a l.length c]] K h := by
  obtain ⟨g1, g2, g3, g4, g5⟩ := mayB_zero hm
  rw [List.length_map] at g1 g2 g4
  have loop : ∀ (rest done : List OpM) (a' : Option Addr) (c' : Nat) (h' : AH), l = done ++ rest → SlV 5 a' done.length c' (ensC (ensOf seq done)) → Own w0 h' (slB a' (ensC (ensOf seq done)) (c' * 5) ++ B) →
      f17_6 w0 K a' done.length c' a l.length c ((l.length : Nat) : Int) ((done.length : Nat) : Int) seq a l.length c h' := by
    intro rest
    induction rest with
    | nil =>
      intro done a' c' h' hl v w'
      rw [List.append_nil] at hl
      subst hl
      exact f17_6_in _ _ _ _ _ _ _ _ _ _ _ _ _ (brB_of (fun q => by simp at q) fun _ => hk h' a' c' v w')
    | cons m r ih =>
      intro done a' c' h' hl v w'
      have hll : l.length = done.length + r.length + 1 := by rw [hl]; simp; omega
      have hget : l[done.length]? = some m := by rw [hl]; simp
      obtain ⟨ad, had, hat⟩ := rowLoad (enc := OpM.cells) (k := 4) (fun _ => rfl) (by decide) (hO h' w'.drop).rd hget
      refine f17_6_in _ _ _ _ _ _ _ _ _ _ _ _ _ (brB_of (fun _ => ⟨ad, had, by omega, by omega, _, _, _, _, _, _, _, _, ⟨rfl, hat⟩, ?_⟩) fun q => by have := of_decide_eq_false q; omega)
      rw [wrap64 (x := seq + ((done.length : Nat) : Int)) (by omega) (by omega), wrapS (by omega)]
      refine App_slB v w' (by omega) (by omega) rfl (enC_cell (seq + done.length, m)) fun a8 c8 h8 v8 w8 => ?_
      have e1 : ensC (ensOf seq done) ++ [.slice m.ka m.o.key.length m.kc, .int .i64 (seq + ((done.length : Nat) : Int)), .bool m.o.gone, .int .i64 m.o.til, .slice m.va m.o.val.length m.vc] = ensC (ensOf seq (done ++ [m])) := by rw [ensOf_snoc]; simp [ensC]
      rw [e1] at v8 w8
      have e2 : done.length + 1 = (done ++ [m]).length := by simp
      rw [e2] at v8 ⊢
      exact ih (done ++ [m]) a8 c8 h8 (by rw [hl]; simp) v8 w8
  refine f17_go _ _ _ _ _ (f39_spec (hO h w).rd ⟨_, rfl, brB_of (fun q => by rw [hm] at q; cases q) fun _ => ?_⟩)
  exact loop l [] none 0 h rfl SlV.nil w
end
section
variable {w0 : World} {K : Value → AH → Prop}
def totB : List Bat → Nat
  | [] => 0
  | b :: r => b.2.length + totB r
/-- Each begins behind the one ahead of it. -/
def seqB : Int → List Bat → Prop
  | _, [] => True
  | x, b :: r => b.1 = x ∧ seqB (x + b.2.length) r
theorem totB_app (l : List Bat) (b : Bat) : totB (l ++ [b]) = totB l + b.2.length := by
  induction l with
  | nil => simp [totB]
  | cons x l ih => simp [totB, ih]; omega
theorem seqB_app {l : List Bat} {x : Int} {b : Bat} (h : seqB x l) (hb : b.1 = x + totB l) : seqB x (l ++ [b]) := by
  induction l generalizing x with
  | nil => exact ⟨by simpa [totB] using hb, trivial⟩
  | cons y l ih => exact ⟨h.1, ih h.2 (by rw [hb]; simp [totB]; omega)⟩
theorem f5_spec {a : Option Addr} {c : Nat} {l : List Int} {x : Int} (hl : PickOk w0 a c l) (hll : l.length ≤ 1000000000000000) (hk : ∀ h, K (.bool true) h) : EvC Go.Proofs.Try.prog w0 5 #[.slice a l.length c, .int .i64 x] K (fun _ => none) := by
  obtain ⟨x1, hx1, hx2, ex⟩ : ∃ x1 : Int, 1 ≤ x1 ∧ x1 ≤ 2305843009213693952 ∧ IntKind.i64.wrap (IntKind.i64.wrap (Int.tmod (IntKind.u64.wrap x) (2305843009213693952 : Int)) + 1) = x1 := by
    have h0 : 0 ≤ IntKind.u64.wrap x := by simp only [IntKind.wrap, IntKind.signed, IntKind.bits]; exact Int.emod_nonneg _ (by decide)
    rw [Int.tmod_eq_emod_of_nonneg h0]
    have h1 := Int.emod_nonneg (IntKind.u64.wrap x) (show (2305843009213693952 : Int) ≠ 0 by decide)
    have h2 := Int.emod_lt_of_pos (IntKind.u64.wrap x) (show (0 : Int) < 2305843009213693952 by decide)
    generalize IntKind.u64.wrap x % (2305843009213693952 : Int) = y at *
    exact ⟨y + 1, by omega, by omega, by rw [wrap64 (x := y) (by omega) (by omega), wrap64 (by omega) (by omega)]⟩
  -- what is told, once it is opened again
  have tell : ∀ (h : AH) (lb bd : Nat) (L : Lg) (bs : List Bat) (ra : Option Addr) (rc : Nat) (ms : List BaM) (B : List (Nat × AB)), ms.map BaM.bat = bs → SlV 2 ra ms.length rc (batC ms) → BsV ms → (∀ b ∈ bs, okB b) → ms.length ≤ 100 → totB bs ≤ 1000 → seqB x1 bs → L.last = lastB 0 bs →
      (bs ≠ [] → lastB 0 bs = x1 + totB bs - 1) → Own w0 h (LgO lb bd L :: (slB ra (batC ms) (rc * 2) ++ (ownB ms ++ B))) →
      f5_21 w0 K (x1 + totB bs) (some ⟨lb, 0, none⟩) ra ms.length rc x1 ra ms.length rc ((ms.length : Nat) : Int) (0 : Int) h := fun h lb bd L bs ra rc ms B he v vs hok hml htot hsq hla hlb w => by
    have loop : ∀ (rest done : List BaM) (h : AH) (B : List (Nat × AB)), ms = done ++ rest → seqB (x1 + totB (done.map BaM.bat)) (rest.map BaM.bat) → totB (done.map BaM.bat) + totB (rest.map BaM.bat) = totB bs → Own w0 h (LgO lb bd L :: (slB ra (batC ms) (rc * 2) ++ (ownB ms ++ B))) →
        f5_21 w0 K (x1 + totB bs) (some ⟨lb, 0, none⟩) ra ms.length rc (x1 + totB (done.map BaM.bat)) ra ms.length rc ((ms.length : Nat) : Int) ((done.length : Nat) : Int) h := by
      intro rest
      induction rest with
      | nil =>
        intro done h B hm hs ht w
        have e1 : totB (done.map BaM.bat) = totB bs := by simpa [totB] using ht
        rw [List.append_nil] at hm
        subst hm
        refine f5_21_in _ _ _ _ _ _ _ _ _ _ _ _ (brB_of (fun q => by simp at q) fun _ => ?_)
        rw [e1]
        refine brB_of (fun _ => brB_of (fun _ => ?_) fun q => ?_) fun q => by simp at q
        · exact f15_spec w fun h1 _ => ⟨_, rfl, hk h1⟩
        · have hne : bs ≠ [] := by rintro rfl; simp at he; rw [he] at q; simp at q
          refine f14_spec w ⟨_, rfl, ?_⟩
          have hlast := hlb hne
          refine brB_of (fun _ => f15_spec w fun h1 _ => ⟨_, rfl, hk h1⟩) fun z => ?_
          rw [hla, hlast, wrap64 (by omega) (by omega)] at z
          simp at z
      | cons m r ih =>
        intro done h B hm hs ht w
        have hget : ms[done.length]? = some m := by rw [hm]; simp
        have hmem : m ∈ ms := by rw [hm]; simp
        have hmo := hok m.bat (by rw [← he]; exact List.mem_map.2 ⟨m, hmem, rfl⟩)
        have hbo : ∀ h', Own w0 h' (LgO lb bd L :: (slB ra (batC ms) (rc * 2) ++ (ownB ms ++ B))) → BatsOk w0 h' ra ms := fun h' w' => batsOk_own (C := []) v vs w'.tail
        have hrd := (hbo h w).rd
        obtain ⟨ad, had, hat⟩ := rowLoad (enc := BaM.cells) (k := 2) (fun _ => rfl) (by decide) hrd hget
        have hll : ms.length = done.length + r.length + 1 := by rw [hm]; simp; omega
        obtain ⟨hs1, hs2⟩ := hs
        have hb2 : m.bat.2.length = m.os.length := by simp [BaM.bat]
        have e2 : totB ((done ++ [m]).map BaM.bat) = totB (done.map BaM.bat) + m.os.length := by rw [List.map_append]; show totB (_ ++ [m.bat]) = _; rw [totB_app, hb2]
        have e3 : totB ((m :: r).map BaM.bat) = m.os.length + totB (r.map BaM.bat) := by show m.bat.2.length + _ = _; rw [hb2]
        refine f5_21_in _ _ _ _ _ _ _ _ _ _ _ _ (brB_of (fun _ => ⟨ad, had, by omega, by omega, _, _, _, _, ⟨rfl, hat⟩, ?_⟩) fun q => by have := of_decide_eq_false q; omega)
        refine f17_spec (B := LgO lb bd L :: (slB ra (batC ms) (rc * 2) ++ (ownB ms ++ B))) hmo.1 w (fun h' w' => (hbo h' w').os m hmem) fun h1 ea ec ev w1 => ⟨_, _, _, _, rfl, brB_of (fun z => by cases z) fun _ => ?_⟩
        have er := ev.rd (cs := []) w1
        have hs1' : m.seq = x1 + totB (done.map BaM.bat) := hs1
        have inner : ∀ (k i : Nat), i + k = m.os.length → f5_27 w0 K (x1 + totB bs) (some ⟨lb, 0, none⟩) ra ms.length rc (x1 + totB (done.map BaM.bat) + i) ra ms.length rc ((ms.length : Nat) : Int) ((done.length : Nat) : Int) ea m.os.length ec ((m.os.length : Nat) : Int) ((i : Nat) : Int) h1 := fun k => by
          induction k with
          | zero =>
            intro i hi
            refine f5_27_in _ _ _ _ _ _ _ _ _ _ _ _ _ _ _ _ _ (brB_of (fun q => by have := of_decide_eq_true q; omega) fun _ => ?_)
            rw [wrapS (by omega)]
            have := ih (done ++ [m]) h1 B (by rw [hm]; simp) (by rw [e2]; have := hs2; rw [hb2] at this; have e4 : x1 + ((totB (done.map BaM.bat) + m.os.length : Nat) : Int) = x1 + totB (done.map BaM.bat) + (m.os.length : Nat) := by omega
                                                                 rw [e4]; exact this) (by rw [e2]; omega) w1.drop
            rw [e2, List.length_append] at this
            have e5 : x1 + ((totB (done.map BaM.bat) + m.os.length : Nat) : Int) = x1 + totB (done.map BaM.bat) + ((i : Nat) : Int) := by omega
            rw [e5] at this
            exact this
          | succ k ih2 =>
            intro i hi
            have hg : m.os[i]? = some m.os[i] := List.getElem?_eq_getElem _
            obtain ⟨ae, hae, hat2⟩ := rowLoad (enc := enC) (k := 5) (fun _ => rfl) (by decide) er (ensOf_get (x := m.seq) hg)
            refine f5_27_in _ _ _ _ _ _ _ _ _ _ _ _ _ _ _ _ _ (brB_of (fun _ => ⟨ae, hae, by omega, by omega, _, _, _, _, _, _, _, _, _, ⟨rfl, hat2⟩, brB_of (fun z => ?_) fun _ => ?_⟩) fun q => by have := of_decide_eq_false q; omega)
            · rw [hs1'] at z; simp at z
            · rw [wrapS (by omega), wrap64 (by omega) (by omega)]
              have := ih2 (i + 1) (by omega)
              have e6 : x1 + totB (done.map BaM.bat) + ((i + 1 : Nat) : Int) = x1 + totB (done.map BaM.bat) + (i : Int) + 1 := by omega
              rw [e6] at this
              exact this
        have := inner m.os.length 0 (by omega)
        simpa using this
    have := loop ms [] h B rfl (by simpa [totB, he] using hsq) (by rw [he]; simp [totB]) w
    simpa [totB] using this
  -- appended, one behind the other
  have step : ∀ (k i : Nat), i + k = l.length → i ≤ 20 → ∀ (bd lb : Nat) (s : Ds) (D : PD) (L : Lg) (bs : List Bat) (h : AH), D.bd = bd → PRep s D → Qu s → LogAt s bs L → L.name = ⟨#[119]⟩ → bs.length = i → totB bs ≤ 5 * i → seqB x1 bs → (bs ≠ [] → lastB 0 bs = x1 + totB bs - 1) → (fileB bs).length ≤ 200 * i → usedS s ≤ 200 * i → s.room = 4194304 → s.calls ≤ 2 + 2 * i →
      Own w0 h (LgO lb bd L :: (D.blocks s ++ [])) → f5_8 w0 K x1 (some ⟨bd, 0, none⟩) (some ⟨lb, 0, none⟩) (x1 + totB bs) a l.length c ((l.length : Nat) : Int) ((i : Nat) : Int) h := fun k => by
    have done : ∀ (i : Nat), i ≤ 20 → ∀ (bd lb : Nat) (s : Ds) (D : PD) (L : Lg) (bs : List Bat) (h : AH), D.bd = bd → PRep s D → Qu s → LogAt s bs L → L.name = ⟨#[119]⟩ → bs.length = i → totB bs ≤ 5 * i → seqB x1 bs → (bs ≠ [] → lastB 0 bs = x1 + totB bs - 1) → (fileB bs).length ≤ 200 * i →
        Own w0 h (LgO lb bd L :: (D.blocks s ++ [])) → f5_16 w0 K x1 (some ⟨bd, 0, none⟩) (x1 + totB bs) h := fun i hi bd lb s D L bs h hbd r q la hn hbl htot hsq hlb hf w => by
      refine f5_16_in _ _ _ _ ?_
      refine f11_log (B := []) hbd r w.tail q (by rw [← hn]; exact la.data) la.ok la.ch (by omega) (by omega) fun h1 lb1 a1 c1 ms e v vs la1 w1 => ⟨_, _, _, _, _, rfl, brB_of (fun z => by cases z) fun _ => ?_⟩
      have hml : ms.length = bs.length := by have := congrArg List.length e; simpa using this
      exact tell h1 lb1 bd _ bs a1 c1 ms _ e v vs la.ok (by omega) (by omega) hsq rfl hlb w1
    induction k with
    | zero => exact fun i hi hi2 bd lb s D L bs h hbd r q la hn hbl htot hsq hlb hf hu hr hc w => f5_8_in _ _ _ _ _ _ _ _ _ _ (brB_of (fun z => by have := of_decide_eq_true z; omega) fun _ => done i hi2 bd lb s D L bs h hbd r q la hn hbl htot hsq hlb hf w)
    | succ k ih =>
      intro i hi hi2 bd lb s D L bs h hbd r q la hn hbl htot hsq hlb hf hu hr hc w
      have hg : l[i]? = some l[i] := List.getElem?_eq_getElem _
      obtain ⟨ad, had, c1⟩ := hl.rd h i (.int .i64 l[i]) (by simp [i64s, hg])
      refine f5_8_in _ _ _ _ _ _ _ _ _ _ (brB_of (fun _ => ⟨ad, had, by omega, by omega, _, by rw [Int.toNat_natCast, Nat.mul_one]; exact c1, ?_⟩) fun z => by have := of_decide_eq_false z; omega)
      refine brB_of (fun _ => done i hi2 bd lb s D L bs h hbd r q la hn hbl htot hsq hlb hf w) fun z => ⟨by decide, ?_⟩
      have hi3 : i < 20 := by have := of_decide_eq_false z; omega
      obtain ⟨kk, k1, k5, ek⟩ := k_of l[i] 5 (by omega) (by omega)
      have ek' : IntKind.i64.wrap (IntKind.i64.wrap (Int.tmod (IntKind.u64.wrap l[i]) (5 : Int)) + 1) = (kk : Int) := ek
      rw [ek']
      refine one_log (K2 := fun e i' p1 n1 c' h'' => brB (e != (0 : Int)) (K (.bool false) h'') (f5_8 w0 K x1 (some ⟨bd, 0, none⟩) (some ⟨lb, 0, none⟩) (IntKind.i64.wrap ((x1 + totB bs) + ((n1 : Nat) : Int))) a l.length c ((l.length : Nat) : Int) (IntKind.i64.wrap (((i : Nat) : Int) + 1)) h'')) hbd r w (by omega) q la k1 k5 ?_ (by omega) (by omega) (by omega) (by omega) fun h' s' D' L' a' c' os e v vs b' r' q' n' l' o' u' z' m' c' w' => brB_of (fun z => by cases z) fun _ => ?_
      · intro h0
        have : bs ≠ [] := by rintro rfl; simp [lastB] at h0
        rw [hlb this]; omega
      have hol : os.length = kk := by have := congrArg List.length e; simpa [oneS_len] using this
      have e1 : totB (bs ++ [(x1 + totB bs, oneS kk)]) = totB bs + kk := by rw [totB_app, oneS_len]
      rw [wrapS (by omega), wrap64 (by omega) (by omega), hol]
      have := ih (i + 1) (by omega) (by omega) bd lb s' D' L' (bs ++ [(x1 + totB bs, oneS kk)]) h' b' r' q' l' (n'.trans hn) (by rw [List.length_append, hbl]; rfl) (by rw [e1]; omega) (seqB_app hsq rfl) (fun _ => by rw [lastB_app, e1, oneS_len]; simp only; omega) (by omega) (by omega) (by omega) (by omega) (by
        refine partO w' ?_
        exact List.Sublist.cons_cons _ (List.Sublist.append_left (List.nil_sublist _) _))
      rw [e1] at this
      have e2 : x1 + ((totB bs + kk : Nat) : Int) = x1 + totB bs + (kk : Int) := by omega
      rw [e2] at this
      exact this
  have wB : Own w0 (fun _ => none) [] := ⟨by simp, fun _ h => (by cases h), fun _ h => (by cases h)⟩
  refine f5_go _ _ _ _ _ ⟨by decide, f9_spec (room := 4194304) (by omega) wB fun h1 D r1 w1 => ⟨_, rfl, ?_⟩⟩
  have hcn : (newS 4194304).calls = 0 := rfl
  have hrm : (newS 4194304).room = 4194304 := rfl
  have hus : usedS (newS 4194304) = 0 := rfl
  refine f10_log rfl r1 w1 (by omega) (newS_q _ (by omega)) (by decide) rfl fun h2 s2 D2 lb2 b2 r2 q2 l2 o2 u2 m2 c2 w2 => ⟨_, _, rfl, brB_of (fun z => by cases z) fun _ => ?_⟩
  rw [ex]
  have := step l.length 0 (by omega) (by omega) D.bd lb2 s2 D2 _ [] h2 b2 r2 q2 l2 rfl rfl (by decide) trivial (fun z => absurd rfl z) (by decide) (by omega) (by omega) (by omega) w2
  simpa [totB] using this
end
end Go.G.Ytlghmjehibikeaa
