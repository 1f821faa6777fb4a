/- level.May. -/
import Derived.Test.YtpnhlgghpciofaaLF
import Derived.Test.YtpnhlgghpciofaaProg
set_option maxRecDepth 100000
namespace Go.G.Ytpnhlgghpciofaa
open Go.RowKit
def f31_J : Nat → List Nat × Nat := jOf [(2, [0, 2, 3, 4, 5, 6, 7, 8, 9, 10, 11, 12, 13, 14, 17, 18, 19, 20, 21, 22, 23, 24, 25, 26, 27, 28, 29, 30, 31, 32, 33, 34, 35, 36, 37, 38, 39, 40, 41, 42, 43, 44, 45, 46, 47, 48, 49, 50, 51, 52, 53, 54, 55, 56, 57, 58, 59, 60, 61, 62, 63, 64, 65, 66, 67, 68, 69, 70, 71, 72, 73, 74, 75, 76, 77, 78, 79, 80, 81, 82, 83, 84, 85, 86, 87, 88, 89, 90], 1), (5, [0, 2, 3, 4, 5, 6, 7, 8, 9, 10, 11, 12, 13, 14, 17, 18, 19, 20, 21, 22, 23, 25, 26, 27, 28, 29, 30, 31, 32, 33, 34, 35, 36, 37, 38, 39, 40, 41, 42, 43, 44, 45, 46, 47, 48, 49, 50, 51, 52, 53, 54, 55, 56, 57, 58, 59, 60, 61, 62, 63, 64, 65, 66, 67, 68, 69, 70, 71, 72, 73, 74, 75, 76, 77, 78, 79, 80, 81, 82, 83, 84, 85, 86, 87, 88, 89, 90], 1), (11, [0, 2, 3, 4, 6, 7, 8, 9, 10, 11, 12, 13, 14, 15, 16, 17, 18, 19, 20, 21, 22, 23, 24, 25, 26, 27, 28, 29, 30, 31, 35, 36, 37, 38, 39, 40, 41, 42, 43, 44, 45, 46, 47, 48, 49, 50, 51, 52, 53, 54, 55, 56, 57, 58, 59, 60, 61, 62, 63, 64, 65, 66, 67, 68, 69, 70, 71, 72, 73, 74, 75, 76, 77, 78, 79, 80, 81, 82, 83, 84, 85, 86, 87, 88, 89, 90], 1), (14, [0, 2, 3, 4, 8, 9, 10, 11, 12, 13, 14, 15, 16, 17, 18, 19, 20, 21, 22, 23, 24, 25, 26, 27, 28, 29, 30, 31, 35, 36, 37, 38, 39, 40, 41, 42, 43, 44, 45, 46, 47, 48, 49, 50, 51, 52, 53, 55, 56, 57, 58, 59, 60, 61, 62, 63, 64, 65, 66, 67, 68, 69, 70, 71, 72, 73, 74, 75, 76, 77, 78, 79, 80, 81, 82, 83, 84, 85, 86, 87, 88, 89, 90], 2), (15, [0, 2, 3, 4, 8, 9, 10, 11, 12, 13, 14, 15, 16, 17, 18, 19, 20, 21, 22, 23, 24, 25, 26, 27, 28, 29, 30, 31, 35, 36, 37, 38, 39, 40, 41, 42, 43, 44, 45, 46, 47, 48, 49, 50, 51, 52, 53, 54, 55, 56, 57, 58, 59, 60, 61, 62, 63, 64, 65, 66, 67, 68, 69, 70, 71, 72, 73, 74, 75, 76, 77, 78, 79, 80, 81, 82, 83, 84, 85, 86, 87, 88, 89, 90], 2), (19, [0, 2, 3, 4, 6, 7, 8, 9, 10, 11, 12, 13, 14, 15, 16, 17, 18, 19, 20, 21, 22, 23, 24, 25, 26, 27, 28, 29, 30, 31, 35, 36, 37, 38, 39, 40, 41, 42, 43, 44, 45, 46, 47, 48, 49, 50, 51, 52, 53, 54, 55, 56, 57, 58, 59, 60, 61, 62, 63, 64, 65, 66, 67, 68, 69, 70, 71, 72, 73, 74, 75, 76, 77, 78, 79, 80, 81, 82, 83, 84, 85, 86, 87, 88, 90], 1)]

def f31_2 (w0 : World) (K : Value → AH → Prop) (x15_0 : Int) (x15_1 : Int) (x15_2 : Int) (x16 : Int) (xb0_0 : Int) (xb0_1 : Int) (xb0_2 : Int) (ab0_3 : Option Go.Addr) (nb0_3 : Nat) (cb0_3 : Nat) (h : AH) : Prop :=
  ∀ j : Nat → Value, LPk Go.Proofs.Try.prog w0 (EvC Go.Proofs.Try.prog w0) f31_J 31 K 2 [.v (j 0), .bp 0 0, .v (j 2), .v (j 3), .v (j 4), .v (j 5), .v (j 6), .v (j 7), .v (j 8), .v (j 9), .v (j 10), .v (j 11), .v (j 12), .v (j 13), .v (j 14), .v (.agg #[(.int .i64 x15_0), (.int .i64 x15_1), (.int .i64 x15_2)]), .v (.int .i64 x16), .v (j 17), .v (j 18), .v (j 19), .v (j 20), .v (j 21), .v (j 22), .v (j 23), .v (j 24), .v (j 25), .v (j 26), .v (j 27), .v (j 28), .v (j 29), .v (j 30), .v (j 31), .v (j 32), .v (j 33), .v (j 34), .v (j 35), .v (j 36), .v (j 37), .v (j 38), .v (j 39), .v (j 40), .v (j 41), .v (j 42), .v (j 43), .v (j 44), .v (j 45), .v (j 46), .v (j 47), .v (j 48), .v (j 49), .v (j 50), .v (j 51), .v (j 52), .v (j 53), .v (j 54), .v (j 55), .v (j 56), .v (j 57), .v (j 58), .v (j 59), .v (j 60), .v (j 61), .v (j 62), .v (j 63), .v (j 64), .v (j 65), .v (j 66), .v (j 67), .v (j 68), .v (j 69), .v (j 70), .v (j 71), .v (j 72), .v (j 73), .v (j 74), .v (j 75), .v (j 76), .v (j 77), .v (j 78), .v (j 79), .v (j 80), .v (j 81), .v (j 82), .v (j 83), .v (j 84), .v (j 85), .v (j 86), .v (j 87), .v (j 88), .v (j 89), .v (j 90)] [some [(.int .i64 xb0_0), (.int .i64 xb0_1), (.int .i64 xb0_2), (.slice ab0_3 nb0_3 cb0_3)]] h

def f31_5 (w0 : World) (K : Value → AH → Prop) (x15_0 : Int) (x15_1 : Int) (x15_2 : Int) (x16 : Int) (x24 : Bool) (xb0_0 : Int) (xb0_1 : Int) (xb0_2 : Int) (ab0_3 : Option Go.Addr) (nb0_3 : Nat) (cb0_3 : Nat) (h : AH) : Prop :=
  ∀ j : Nat → Value, LPk Go.Proofs.Try.prog w0 (EvC Go.Proofs.Try.prog w0) f31_J 31 K 5 [.v (j 0), .bp 0 0, .v (j 2), .v (j 3), .v (j 4), .v (j 5), .v (j 6), .v (j 7), .v (j 8), .v (j 9), .v (j 10), .v (j 11), .v (j 12), .v (j 13), .v (j 14), .v (.agg #[(.int .i64 x15_0), (.int .i64 x15_1), (.int .i64 x15_2)]), .v (.int .i64 x16), .v (j 17), .v (j 18), .v (j 19), .v (j 20), .v (j 21), .v (j 22), .v (j 23), .v (.bool x24), .v (j 25), .v (j 26), .v (j 27), .v (j 28), .v (j 29), .v (j 30), .v (j 31), .v (j 32), .v (j 33), .v (j 34), .v (j 35), .v (j 36), .v (j 37), .v (j 38), .v (j 39), .v (j 40), .v (j 41), .v (j 42), .v (j 43), .v (j 44), .v (j 45), .v (j 46), .v (j 47), .v (j 48), .v (j 49), .v (j 50), .v (j 51), .v (j 52), .v (j 53), .v (j 54), .v (j 55), .v (j 56), .v (j 57), .v (j 58), .v (j 59), .v (j 60), .v (j 61), .v (j 62), .v (j 63), .v (j 64), .v (j 65), .v (j 66), .v (j 67), .v (j 68), .v (j 69), .v (j 70), .v (j 71), .v (j 72), .v (j 73), .v (j 74), .v (j 75), .v (j 76), .v (j 77), .v (j 78), .v (j 79), .v (j 80), .v (j 81), .v (j 82), .v (j 83), .v (j 84), .v (j 85), .v (j 86), .v (j 87), .v (j 88), .v (j 89), .v (j 90)] [some [(.int .i64 xb0_0), (.int .i64 xb0_1), (.int .i64 xb0_2), (.slice ab0_3 nb0_3 cb0_3)]] h

def f31_11 (w0 : World) (K : Value → AH → Prop) (x5 : Option Nat) (a32 : Option Go.Addr) (n32 : Nat) (c32 : Nat) (x33 : Int) (x34 : Int) (xb0_0 : Int) (xb0_1 : Int) (xb0_2 : Int) (ab0_3 : Option Go.Addr) (nb0_3 : Nat) (cb0_3 : Nat) (h : AH) : Prop :=
  ∀ j : Nat → Value, LPk Go.Proofs.Try.prog w0 (EvC Go.Proofs.Try.prog w0) f31_J 31 K 11 [.v (j 0), .bp 0 0, .v (j 2), .v (j 3), .v (j 4), .v (.map x5), .v (j 6), .v (j 7), .v (j 8), .v (j 9), .v (j 10), .v (j 11), .v (j 12), .v (j 13), .v (j 14), .v (j 15), .v (j 16), .v (j 17), .v (j 18), .v (j 19), .v (j 20), .v (j 21), .v (j 22), .v (j 23), .v (j 24), .v (j 25), .v (j 26), .v (j 27), .v (j 28), .v (j 29), .v (j 30), .v (j 31), .v (.slice a32 n32 c32), .v (.int .i64 x33), .v (.int .i64 x34), .v (j 35), .v (j 36), .v (j 37), .v (j 38), .v (j 39), .v (j 40), .v (j 41), .v (j 42), .v (j 43), .v (j 44), .v (j 45), .v (j 46), .v (j 47), .v (j 48), .v (j 49), .v (j 50), .v (j 51), .v (j 52), .v (j 53), .v (j 54), .v (j 55), .v (j 56), .v (j 57), .v (j 58), .v (j 59), .v (j 60), .v (j 61), .v (j 62), .v (j 63), .v (j 64), .v (j 65), .v (j 66), .v (j 67), .v (j 68), .v (j 69), .v (j 70), .v (j 71), .v (j 72), .v (j 73), .v (j 74), .v (j 75), .v (j 76), .v (j 77), .v (j 78), .v (j 79), .v (j 80), .v (j 81), .v (j 82), .v (j 83), .v (j 84), .v (j 85), .v (j 86), .v (j 87), .v (j 88), .v (j 89), .v (j 90)] [some [(.int .i64 xb0_0), (.int .i64 xb0_1), (.int .i64 xb0_2), (.slice ab0_3 nb0_3 cb0_3)]] h

def f31_14 (w0 : World) (K : Value → AH → Prop) (x5 : Option Nat) (x6 : Int) (a32 : Option Go.Addr) (n32 : Nat) (c32 : Nat) (x33 : Int) (x34 : Int) (x54 : Bool) (xb0_0 : Int) (xb0_1 : Int) (xb0_2 : Int) (ab0_3 : Option Go.Addr) (nb0_3 : Nat) (cb0_3 : Nat) (xb1_0 : Int) (xb1_1 : Int) (xb1_2 : Int) (ab1_3 : Option Go.Addr) (nb1_3 : Nat) (cb1_3 : Nat) (ab1_4 : Option Go.Addr) (nb1_4 : Nat) (cb1_4 : Nat) (h : AH) : Prop :=
  ∀ j : Nat → Value, LPk Go.Proofs.Try.prog w0 (EvC Go.Proofs.Try.prog w0) f31_J 31 K 14 [.v (j 0), .bp 0 0, .v (j 2), .v (j 3), .v (j 4), .v (.map x5), .v (.int .i64 x6), .bp 1 0, .v (j 8), .v (j 9), .v (j 10), .v (j 11), .v (j 12), .v (j 13), .v (j 14), .v (j 15), .v (j 16), .v (j 17), .v (j 18), .v (j 19), .v (j 20), .v (j 21), .v (j 22), .v (j 23), .v (j 24), .v (j 25), .v (j 26), .v (j 27), .v (j 28), .v (j 29), .v (j 30), .v (j 31), .v (.slice a32 n32 c32), .v (.int .i64 x33), .v (.int .i64 x34), .v (j 35), .v (j 36), .v (j 37), .v (j 38), .v (j 39), .v (j 40), .v (j 41), .v (j 42), .v (j 43), .v (j 44), .v (j 45), .v (j 46), .v (j 47), .v (j 48), .v (j 49), .v (j 50), .v (j 51), .v (j 52), .v (j 53), .v (.bool x54), .v (j 55), .v (j 56), .v (j 57), .v (j 58), .v (j 59), .v (j 60), .v (j 61), .v (j 62), .v (j 63), .v (j 64), .v (j 65), .v (j 66), .v (j 67), .v (j 68), .v (j 69), .v (j 70), .v (j 71), .v (j 72), .v (j 73), .v (j 74), .v (j 75), .v (j 76), .v (j 77), .v (j 78), .v (j 79), .v (j 80), .v (j 81), .v (j 82), .v (j 83), .v (j 84), .v (j 85), .v (j 86), .v (j 87), .v (j 88), .v (j 89), .v (j 90)] [some [(.int .i64 xb0_0), (.int .i64 xb0_1), (.int .i64 xb0_2), (.slice ab0_3 nb0_3 cb0_3)], some [(.int .i64 xb1_0), (.int .i64 xb1_1), (.int .i64 xb1_2), (.slice ab1_3 nb1_3 cb1_3), (.slice ab1_4 nb1_4 cb1_4)]] h

def f31_15 (w0 : World) (K : Value → AH → Prop) (x5 : Option Nat) (x6 : Int) (a32 : Option Go.Addr) (n32 : Nat) (c32 : Nat) (x33 : Int) (x34 : Int) (xb0_0 : Int) (xb0_1 : Int) (xb0_2 : Int) (ab0_3 : Option Go.Addr) (nb0_3 : Nat) (cb0_3 : Nat) (xb1_0 : Int) (xb1_1 : Int) (xb1_2 : Int) (ab1_3 : Option Go.Addr) (nb1_3 : Nat) (cb1_3 : Nat) (ab1_4 : Option Go.Addr) (nb1_4 : Nat) (cb1_4 : Nat) (h : AH) : Prop :=
  ∀ j : Nat → Value, LPk Go.Proofs.Try.prog w0 (EvC Go.Proofs.Try.prog w0) f31_J 31 K 15 [.v (j 0), .bp 0 0, .v (j 2), .v (j 3), .v (j 4), .v (.map x5), .v (.int .i64 x6), .bp 1 0, .v (j 8), .v (j 9), .v (j 10), .v (j 11), .v (j 12), .v (j 13), .v (j 14), .v (j 15), .v (j 16), .v (j 17), .v (j 18), .v (j 19), .v (j 20), .v (j 21), .v (j 22), .v (j 23), .v (j 24), .v (j 25), .v (j 26), .v (j 27), .v (j 28), .v (j 29), .v (j 30), .v (j 31), .v (.slice a32 n32 c32), .v (.int .i64 x33), .v (.int .i64 x34), .v (j 35), .v (j 36), .v (j 37), .v (j 38), .v (j 39), .v (j 40), .v (j 41), .v (j 42), .v (j 43), .v (j 44), .v (j 45), .v (j 46), .v (j 47), .v (j 48), .v (j 49), .v (j 50), .v (j 51), .v (j 52), .v (j 53), .v (j 54), .v (j 55), .v (j 56), .v (j 57), .v (j 58), .v (j 59), .v (j 60), .v (j 61), .v (j 62), .v (j 63), .v (j 64), .v (j 65), .v (j 66), .v (j 67), .v (j 68), .v (j 69), .v (j 70), .v (j 71), .v (j 72), .v (j 73), .v (j 74), .v (j 75), .v (j 76), .v (j 77), .v (j 78), .v (j 79), .v (j 80), .v (j 81), .v (j 82), .v (j 83), .v (j 84), .v (j 85), .v (j 86), .v (j 87), .v (j 88), .v (j 89), .v (j 90)] [some [(.int .i64 xb0_0), (.int .i64 xb0_1), (.int .i64 xb0_2), (.slice ab0_3 nb0_3 cb0_3)], some [(.int .i64 xb1_0), (.int .i64 xb1_1), (.int .i64 xb1_2), (.slice ab1_3 nb1_3 cb1_3), (.slice ab1_4 nb1_4 cb1_4)]] h

def f31_19 (w0 : World) (K : Value → AH → Prop) (x5 : Option Nat) (a32 : Option Go.Addr) (n32 : Nat) (c32 : Nat) (x33 : Int) (x34 : Int) (x89 : Bool) (xb0_0 : Int) (xb0_1 : Int) (xb0_2 : Int) (ab0_3 : Option Go.Addr) (nb0_3 : Nat) (cb0_3 : Nat) (h : AH) : Prop :=
  ∀ j : Nat → Value, LPk Go.Proofs.Try.prog w0 (EvC Go.Proofs.Try.prog w0) f31_J 31 K 19 [.v (j 0), .bp 0 0, .v (j 2), .v (j 3), .v (j 4), .v (.map x5), .v (j 6), .v (j 7), .v (j 8), .v (j 9), .v (j 10), .v (j 11), .v (j 12), .v (j 13), .v (j 14), .v (j 15), .v (j 16), .v (j 17), .v (j 18), .v (j 19), .v (j 20), .v (j 21), .v (j 22), .v (j 23), .v (j 24), .v (j 25), .v (j 26), .v (j 27), .v (j 28), .v (j 29), .v (j 30), .v (j 31), .v (.slice a32 n32 c32), .v (.int .i64 x33), .v (.int .i64 x34), .v (j 35), .v (j 36), .v (j 37), .v (j 38), .v (j 39), .v (j 40), .v (j 41), .v (j 42), .v (j 43), .v (j 44), .v (j 45), .v (j 46), .v (j 47), .v (j 48), .v (j 49), .v (j 50), .v (j 51), .v (j 52), .v (j 53), .v (j 54), .v (j 55), .v (j 56), .v (j 57), .v (j 58), .v (j 59), .v (j 60), .v (j 61), .v (j 62), .v (j 63), .v (j 64), .v (j 65), .v (j 66), .v (j 67), .v (j 68), .v (j 69), .v (j 70), .v (j 71), .v (j 72), .v (j 73), .v (j 74), .v (j 75), .v (j 76), .v (j 77), .v (j 78), .v (j 79), .v (j 80), .v (j 81), .v (j 82), .v (j 83), .v (j 84), .v (j 85), .v (j 86), .v (j 87), .v (j 88), .v (.bool x89), .v (j 90)] [some [(.int .i64 xb0_0), (.int .i64 xb0_1), (.int .i64 xb0_2), (.slice ab0_3 nb0_3 cb0_3)]] h

theorem f31_2_in {w0 : World} {K : Value → AH → Prop} (x15_0 : Int) (x15_1 : Int) (x15_2 : Int) (x16 : Int) (xb0_0 : Int) (xb0_1 : Int) (xb0_2 : Int) (ab0_3 : Option Go.Addr) (nb0_3 : Nat) (cb0_3 : Nat) (h : AH)
  (hv : (brB (decide ((x16 < (3 : Int)))) (((0 : Int) ≤ x16) ∧ ((x16 < (3 : Int)) ∧ (∃ i'0 : Int, ((Go.G.elemIs Go.Proofs.Try.prog 2 [(Go.Value.int .i64 x15_0), (Go.Value.int .i64 x15_1), (Go.Value.int .i64 x15_2)] (Int.toNat x16) (Go.Value.int .i64 i'0)) ∧ (brB (decide ((i'0 < (0 : Int)))) (f31_5 w0 K x15_0 x15_1 x15_2 x16 true xb0_0 xb0_1 xb0_2 ab0_3 nb0_3 cb0_3 h) (f31_5 w0 K x15_0 x15_1 x15_2 x16 (decide (((4611686018427387904 : Int) < i'0))) xb0_0 xb0_1 xb0_2 ab0_3 nb0_3 cb0_3 h)))))) (brB (decide (((200 : Int) < ((nb0_3 : Nat) : Int)))) (K (Go.Value.bool false) h) (newB w0 h (Go.G.AB.map []) (fun b'1 h'2 => (f31_11 w0 K (some b'1) ab0_3 nb0_3 cb0_3 ((nb0_3 : Nat) : Int) (0 : Int) xb0_0 xb0_1 xb0_2 ab0_3 nb0_3 cb0_3 h'2)))))) :
  f31_2 w0 K x15_0 x15_1 x15_2 x16 xb0_0 xb0_1 xb0_2 ab0_3 nb0_3 cb0_3 h := fun j => LP_intro (P := Go.Proofs.Try.prog) (Eq.mp (by kernel_rfl) hv)

theorem f31_5_in {w0 : World} {K : Value → AH → Prop} (x15_0 : Int) (x15_1 : Int) (x15_2 : Int) (x16 : Int) (x24 : Bool) (xb0_0 : Int) (xb0_1 : Int) (xb0_2 : Int) (ab0_3 : Option Go.Addr) (nb0_3 : Nat) (cb0_3 : Nat) (h : AH)
  (hv : (brB x24 (K (Go.Value.bool false) h) (f31_2 w0 K x15_0 x15_1 x15_2 (Go.IntKind.wrap .i64 (x16 + (1 : Int))) xb0_0 xb0_1 xb0_2 ab0_3 nb0_3 cb0_3 h))) :
  f31_5 w0 K x15_0 x15_1 x15_2 x16 x24 xb0_0 xb0_1 xb0_2 ab0_3 nb0_3 cb0_3 h := fun j => LP_intro (P := Go.Proofs.Try.prog) (Eq.mp (by kernel_rfl) hv)

theorem f31_11_in {w0 : World} {K : Value → AH → Prop} (x5 : Option Nat) (a32 : Option Go.Addr) (n32 : Nat) (c32 : Nat) (x33 : Int) (x34 : Int) (xb0_0 : Int) (xb0_1 : Int) (xb0_2 : Int) (ab0_3 : Option Go.Addr) (nb0_3 : Nat) (cb0_3 : Nat) (h : AH)
  (hv : (brB (decide ((x34 < x33))) (∃ a'3 : Go.Addr, ((a32 = (some a'3)) ∧ (((0 : Int) ≤ x34) ∧ ((x34 < ((n32 : Nat) : Int)) ∧ (∃ i'4 : Int, (∃ i'5 : Int, (∃ i'6 : Int, (∃ p'7 : Option Go.Addr, (∃ n'8 : Nat, (∃ n'9 : Nat, (∃ p'10 : Option Go.Addr, (∃ n'11 : Nat, (∃ n'12 : Nat, ((((Array.size #[(Go.Value.int .i64 i'4), (Go.Value.int .i64 i'5), (Go.Value.int .i64 i'6), (Go.Value.slice p'7 n'8 n'9), (Go.Value.slice p'10 n'11 n'12)]) = 5) ∧ (At w0 h (Go.Addr.add a'3 ((Int.toNat x34) * 5)) [(Go.Value.int .i64 i'4), (Go.Value.int .i64 i'5), (Go.Value.int .i64 i'6), (Go.Value.slice p'7 n'8 n'9), (Go.Value.slice p'10 n'11 n'12)])) ∧ (EvC Go.Proofs.Try.prog w0 52 #[(Go.Value.agg #[(Go.Value.int .i64 i'4), (Go.Value.int .i64 i'5), (Go.Value.int .i64 i'6), (Go.Value.slice p'7 n'8 n'9), (Go.Value.slice p'10 n'11 n'12)])] (fun x'13 h'14 => (∃ t'15 : Bool, ((x'13 = (Go.Value.bool t'15)) ∧ (brB (!t'15) (f31_14 w0 K x5 x34 a32 n32 c32 x33 x34 true xb0_0 xb0_1 xb0_2 ab0_3 nb0_3 cb0_3 i'4 i'5 i'6 p'7 n'8 n'9 p'10 n'11 n'12 h'14) (((Go.G.plainKey Go.Proofs.Try.prog 77 (Go.Value.int .i64 i'4)) = true) ∧ (mapAt Go.Proofs.Try.prog w0 h'14 x5 77 (fun es'16 => (∃ t'17 : Bool, (((Go.Value.bool t'17) = (Option.getD (Go.G.getM (Go.Value.int .i64 i'4) es'16) (Go.Value.bool false))) ∧ (brB t'17 (f31_14 w0 K x5 x34 a32 n32 c32 x33 x34 true xb0_0 xb0_1 xb0_2 ab0_3 nb0_3 cb0_3 i'4 i'5 i'6 p'7 n'8 n'9 p'10 n'11 n'12 h'14) (f31_14 w0 K x5 x34 a32 n32 c32 x33 x34 (decide ((xb0_1 ≤ i'4))) xb0_0 xb0_1 xb0_2 ab0_3 nb0_3 cb0_3 i'4 i'5 i'6 p'7 n'8 n'9 p'10 n'11 n'12 h'14))))))))))) h))))))))))))))) (K (Go.Value.bool true) h))) :
  f31_11 w0 K x5 a32 n32 c32 x33 x34 xb0_0 xb0_1 xb0_2 ab0_3 nb0_3 cb0_3 h := fun j => LP_intro (P := Go.Proofs.Try.prog) (Eq.mp (by kernel_rfl) hv)

theorem f31_14_in {w0 : World} {K : Value → AH → Prop} (x5 : Option Nat) (x6 : Int) (a32 : Option Go.Addr) (n32 : Nat) (c32 : Nat) (x33 : Int) (x34 : Int) (x54 : Bool) (xb0_0 : Int) (xb0_1 : Int) (xb0_2 : Int) (ab0_3 : Option Go.Addr) (nb0_3 : Nat) (cb0_3 : Nat) (xb1_0 : Int) (xb1_1 : Int) (xb1_2 : Int) (ab1_3 : Option Go.Addr) (nb1_3 : Nat) (cb1_3 : Nat) (ab1_4 : Option Go.Addr) (nb1_4 : Nat) (cb1_4 : Nat) (h : AH)
  (hv : (brB x54 (K (Go.Value.bool false) h) (f31_15 w0 K x5 x6 a32 n32 c32 x33 x34 xb0_0 xb0_1 xb0_2 ab0_3 nb0_3 cb0_3 xb1_0 xb1_1 xb1_2 ab1_3 nb1_3 cb1_3 ab1_4 nb1_4 cb1_4 h))) :
  f31_14 w0 K x5 x6 a32 n32 c32 x33 x34 x54 xb0_0 xb0_1 xb0_2 ab0_3 nb0_3 cb0_3 xb1_0 xb1_1 xb1_2 ab1_3 nb1_3 cb1_3 ab1_4 nb1_4 cb1_4 h := fun j => LP_intro (P := Go.Proofs.Try.prog) (Eq.mp (by kernel_rfl) hv)

theorem f31_15_in {w0 : World} {K : Value → AH → Prop} (x5 : Option Nat) (x6 : Int) (a32 : Option Go.Addr) (n32 : Nat) (c32 : Nat) (x33 : Int) (x34 : Int) (xb0_0 : Int) (xb0_1 : Int) (xb0_2 : Int) (ab0_3 : Option Go.Addr) (nb0_3 : Nat) (cb0_3 : Nat) (xb1_0 : Int) (xb1_1 : Int) (xb1_2 : Int) (ab1_3 : Option Go.Addr) (nb1_3 : Nat) (cb1_3 : Nat) (ab1_4 : Option Go.Addr) (nb1_4 : Nat) (cb1_4 : Nat) (h : AH)
  (hv : (((Go.G.plainKey Go.Proofs.Try.prog 77 (Go.Value.int .i64 xb1_0)) = true) ∧ (∃ n'18 : Nat, ((x5 = (some n'18)) ∧ (mapAt Go.Proofs.Try.prog w0 h (some n'18) 77 (fun es'19 => (brB (x6 == (0 : Int)) (f31_11 w0 K x5 a32 n32 c32 x33 (Go.IntKind.wrap .i64 (x34 + (1 : Int))) xb0_0 xb0_1 xb0_2 ab0_3 nb0_3 cb0_3 (Go.G.AH.putm h n'18 (Go.G.putM (Go.Value.int .i64 xb1_0) (Go.Value.bool true) es'19))) (∃ a'20 : Go.Addr, ((ab0_3 = (some a'20)) ∧ (((0 : Int) ≤ (Go.IntKind.wrap .i64 (x6 - (1 : Int)))) ∧ (((Go.IntKind.wrap .i64 (x6 - (1 : Int))) < ((nb0_3 : Nat) : Int)) ∧ (∃ i'21 : Int, (∃ i'22 : Int, (∃ i'23 : Int, (∃ p'24 : Option Go.Addr, (∃ n'25 : Nat, (∃ n'26 : Nat, (∃ p'27 : Option Go.Addr, (∃ n'28 : Nat, (∃ n'29 : Nat, ((((Array.size #[(Go.Value.int .i64 i'21), (Go.Value.int .i64 i'22), (Go.Value.int .i64 i'23), (Go.Value.slice p'24 n'25 n'26), (Go.Value.slice p'27 n'28 n'29)]) = 5) ∧ (At w0 (Go.G.AH.putm h n'18 (Go.G.putM (Go.Value.int .i64 xb1_0) (Go.Value.bool true) es'19)) (Go.Addr.add a'20 ((Int.toNat (Go.IntKind.wrap .i64 (x6 - (1 : Int)))) * 5)) [(Go.Value.int .i64 i'21), (Go.Value.int .i64 i'22), (Go.Value.int .i64 i'23), (Go.Value.slice p'24 n'25 n'26), (Go.Value.slice p'27 n'28 n'29)])) ∧ (EvC Go.Proofs.Try.prog w0 53 #[(Go.Value.agg #[(Go.Value.int .i64 i'21), (Go.Value.int .i64 i'22), (Go.Value.int .i64 i'23), (Go.Value.slice p'24 n'25 n'26), (Go.Value.slice p'27 n'28 n'29)]), (Go.Value.agg #[(Go.Value.int .i64 xb1_0), (Go.Value.int .i64 xb1_1), (Go.Value.int .i64 xb1_2), (Go.Value.slice ab1_3 nb1_3 cb1_3), (Go.Value.slice ab1_4 nb1_4 cb1_4)])] (fun x'30 h'31 => (∃ i'32 : Int, ((x'30 = (Go.Value.int .i64 i'32)) ∧ (brB (decide (((0 : Int) ≤ i'32))) (f31_19 w0 K x5 a32 n32 c32 x33 x34 true xb0_0 xb0_1 xb0_2 ab0_3 nb0_3 cb0_3 h'31) (brB (decide (((0 : Int) < xb1_1))) (brB (i'22 == xb1_1) (EvC Go.Proofs.Try.prog w0 50 #[(Go.Value.slice ab1_3 nb1_3 cb1_3), (Go.Value.slice p'27 n'28 n'29)] (fun x'33 h'34 => (∃ i'35 : Int, ((x'33 = (Go.Value.int .i64 i'35)) ∧ (f31_19 w0 K x5 a32 n32 c32 x33 x34 (decide ((i'35 ≤ (0 : Int)))) xb0_0 xb0_1 xb0_2 ab0_3 nb0_3 cb0_3 h'34)))) h'31) (f31_19 w0 K x5 a32 n32 c32 x33 x34 false xb0_0 xb0_1 xb0_2 ab0_3 nb0_3 cb0_3 h'31)) (f31_19 w0 K x5 a32 n32 c32 x33 x34 false xb0_0 xb0_1 xb0_2 ab0_3 nb0_3 cb0_3 h'31)))))) (Go.G.AH.putm h n'18 (Go.G.putM (Go.Value.int .i64 xb1_0) (Go.Value.bool true) es'19)))))))))))))))))))))))) :
  f31_15 w0 K x5 x6 a32 n32 c32 x33 x34 xb0_0 xb0_1 xb0_2 ab0_3 nb0_3 cb0_3 xb1_0 xb1_1 xb1_2 ab1_3 nb1_3 cb1_3 ab1_4 nb1_4 cb1_4 h := fun j => LP_intro (P := Go.Proofs.Try.prog) (Eq.mp (by kernel_rfl) hv)

theorem f31_19_in {w0 : World} {K : Value → AH → Prop} (x5 : Option Nat) (a32 : Option Go.Addr) (n32 : Nat) (c32 : Nat) (x33 : Int) (x34 : Int) (x89 : Bool) (xb0_0 : Int) (xb0_1 : Int) (xb0_2 : Int) (ab0_3 : Option Go.Addr) (nb0_3 : Nat) (cb0_3 : Nat) (h : AH)
  (hv : (brB x89 (K (Go.Value.bool false) h) (f31_11 w0 K x5 a32 n32 c32 x33 (Go.IntKind.wrap .i64 (x34 + (1 : Int))) xb0_0 xb0_1 xb0_2 ab0_3 nb0_3 cb0_3 h))) :
  f31_19 w0 K x5 a32 n32 c32 x33 x34 x89 xb0_0 xb0_1 xb0_2 ab0_3 nb0_3 cb0_3 h := fun j => LP_intro (P := Go.Proofs.Try.prog) (Eq.mp (by kernel_rfl) hv)

theorem f31_go {w0 : World} {K : Value → AH → Prop} (x0_0 : Int) (x0_1 : Int) (x0_2 : Int) (a0_3 : Option Go.Addr) (n0_3 : Nat) (c0_3 : Nat) (h : AH)
  (hv : (f31_2 w0 K x0_0 x0_1 x0_2 (0 : Int) x0_0 x0_1 x0_2 a0_3 n0_3 c0_3 h)) :
  EvC Go.Proofs.Try.prog w0 31 ([(.agg #[(.int .i64 x0_0), (.int .i64 x0_1), (.int .i64 x0_2), (.slice a0_3 n0_3 c0_3)])]).toArray K h := EvC_intro (P := Go.Proofs.Try.prog) f31_J (Eq.mp (by kernel_rfl) hv)
section
variable {w0 : World} {K : Value → AH → Prop} {h0 : AH} {lo nx sq : Int} {a : Option Addr} {n c : Nat} {ts : List Tab}

theorem any_nums {l : List Tab} {x : Int} : ((l.map Tab.num).any fun y => y == x) = l.any fun u => u.num == x := by
  rw [List.any_map]; rfl

theorem f31_11_ok (s : TS w0 h0 a n c ts) {b : Nat} (hb : w0.heap.size ≤ b) (hbn : h0 b = none) : ∀ (rest : List Tab) (i : Nat) (h : AH), ts.drop i = rest → i ≤ n → Ext h0 h none → h b = some (.map (setM ((ts.take i).map Tab.num))) →
    (∀ h', Ext h0 h' none → K (.bool (mayL nx (ts.take i) rest)) h') → f31_11 w0 K (some b) a n c ((n : Nat) : Int) ((i : Nat) : Int) lo nx sq a n c h := by
  intro rest
  induction rest with
  | nil =>
    intro i h hd hi hx hm hk
    have := drop_done hd
    have := s.len
    exact f31_11_in _ _ _ _ _ _ _ _ _ _ _ _ _ (brB_of (fun q => by simp at q; omega) fun _ => hk h hx)
  | cons t r ih =>
    intro i h hd hi hx hm hk
    obtain ⟨hget, hd', hlt⟩ := drop_step hd
    have hsl := s.len
    have hsm := s.sm
    have hcap := s.cap
    have htake : ts.take (i + 1) = ts.take i ++ [t] := by rw [List.take_add_one, hget]; rfl
    have sx := s.ext hx
    have ot := sx.ok t (List.mem_of_getElem? hget)
    have step : ∀ q : Bool, (q = true → (mayT t && decide (t.num < nx) && !((ts.take i).any fun u => u.num == t.num)) = false) → (q = false → (mayT t && decide (t.num < nx) && !((ts.take i).any fun u => u.num == t.num)) = true) →
        f31_14 w0 K (some b) ((i : Nat) : Int) a n c ((n : Nat) : Int) ((i : Nat) : Int) q lo nx sq a n c t.num t.lev t.siz t.lp t.ln t.lc t.mp t.mn t.mc h := fun q h1 h0' => by
      refine f31_14_in _ _ _ _ _ _ _ _ _ _ _ _ _ _ _ _ _ _ _ _ _ _ _ _ (brB_of (fun e => ?_) fun e => ?_)
      · have : mayL nx (ts.take i) (t :: r) = false := by
          simp only [mayL]; rw [h1 e]; rfl
        rw [this] at hk; exact hk h hx
      have g := h0' e
      have hno : ((ts.take i).any fun u => u.num == t.num) = false := by
        simp only [Bool.and_eq_true, Bool.not_eq_true'] at g; exact g.2
      have hput : putM (.int .i64 t.num) (.bool true) (setM ((ts.take i).map Tab.num)) = setM ((ts.take (i + 1)).map Tab.num) := by
        rw [putM_set (by rw [any_nums]; exact hno), htake]; simp
      have hx2 : Ext h0 (h.putm b (setM ((ts.take (i + 1)).map Tab.num))) none := fun k o hko hne pl => by
        have : k ≠ b := fun e => by subst e; rw [hbn] at hko; cases hko
        exact putm_old (hx k o hko hne pl) this pl
      have hkf : (nextTo (ts.take i).getLast? t = false) → ∀ h', Ext h0 h' none → K (.bool false) h' := fun q h' hx' => by
        have : mayL nx (ts.take i) (t :: r) = false := by
          simp only [mayL]; rw [g]; simp [q]
        have hk := hk h' hx'
        rw [this] at hk; exact hk
      have hkt : (nextTo (ts.take i).getLast? t = true) → f31_11 w0 K (some b) a n c ((n : Nat) : Int) ((i + 1 : Nat) : Int) lo nx sq a n c (h.putm b (setM ((ts.take (i + 1)).map Tab.num))) := fun q => by
        refine ih (i + 1) _ hd' (by omega) hx2 (put_same _ _ _) fun h' hx' => ?_
        have : mayL nx (ts.take i) (t :: r) = mayL nx (ts.take (i + 1)) r := by
          rw [htake]; simp only [mayL]; rw [g]; simp [q]
        rw [← this]; exact hk h' hx'
      refine f31_15_in _ _ _ _ _ _ _ _ _ _ _ _ _ _ _ _ _ _ _ _ _ _ _ ⟨plain_int, b, rfl, mapAt_set hb hm (brB_of (fun q0 => ?_) fun q0 => ?_)⟩
      · rw [wrapS (by omega), hput]
        have hz : i = 0 := by simp at q0; omega
        exact hkt (by subst hz; rfl)
      · rw [hput]
        have hpos : 0 < i := by simp at q0; omega
        have hp : ts[i - 1]? = some ts[i - 1] := List.getElem?_eq_getElem (by omega)
        have hlast : (ts.take i).getLast? = some ts[i - 1] := by
          rw [List.getLast?_take, if_neg (by omega), hp]; rfl
        rw [hlast] at hkf hkt
        simp only [nextTo, aheadR_ord] at hkf hkt
        rw [wrap64 (x := ((i : Nat) : Int) - 1) (by omega) (by omega), show ((i : Nat) : Int) - 1 = ((i - 1 : Nat) : Int) by omega]
        refine tabLoad (s.ext hx2).rs.rd s.len hp ?_
        generalize hpd : ts[i - 1] = p at *
        have op := (s.ext hx2).ok p (List.mem_of_getElem? hp)
        have ot2 := (s.ext hx2).ok t (List.mem_of_getElem? hget)
        have fin : ∀ v : Bool, (v = true → (decide (ordR p t < 0) && !(p.lev == t.lev && decide (0 < t.lev) && decide (0 ≤ cmpL p.mb t.lb))) = false) → (v = false → (decide (ordR p t < 0) && !(p.lev == t.lev && decide (0 < t.lev) && decide (0 ≤ cmpL p.mb t.lb))) = true) →
            f31_19 w0 K (some b) a n c ((n : Nat) : Int) ((i : Nat) : Int) v lo nx sq a n c (h.putm b (setM ((ts.take (i + 1)).map Tab.num))) := fun v h1 h0'' => by
          refine f31_19_in _ _ _ _ _ _ _ _ _ _ _ _ _ _ (brB_of (fun e => hkf (h1 e) _ hx2) fun e => ?_)
          rw [wrapS (by omega)]
          exact hkt (h0'' e)
        refine f53_spec (t := p) (u := t) op ot2 ⟨_, rfl, brB_of (fun q1 => fin _ (fun _ => ?_) (fun e => by cases e)) fun q1 => ?_⟩
        · have : ¬ ordR p t < 0 := by simp at q1; omega
          simp [this]
        · have ho : ordR p t < 0 := by simp at q1; omega
          refine brB_of (fun q2 => brB_of (fun q3 => ?_) fun q3 => fin _ (fun e => by cases e) fun _ => ?_) fun q2 => fin _ (fun e => by cases e) fun _ => ?_
          · refine f50_spec ot2.lb.rd op.mb.rd ot2.ln op.mn ⟨_, rfl, fin _ (fun q4 => ?_) fun q4 => ?_⟩
            · have : 0 ≤ cmpL p.mb t.lb := by have := cmpL_flip p.mb t.lb; simp at q4; omega
              rw [q2, q3]; simp [this]
            · have : ¬ 0 ≤ cmpL p.mb t.lb := by have := cmpL_flip p.mb t.lb; simp at q4; omega
              simp [this, ho]
          · rw [q3]; simp [ho]
          · rw [q2]; simp [ho]
    refine f31_11_in _ _ _ _ _ _ _ _ _ _ _ _ _ (brB_of (fun _ => tabLoad sx.rs.rd s.len hget ?_) fun q => by simp at q; omega)
    refine f52_spec (t := t) ot ⟨_, rfl, brB_of (fun q => step _ (fun _ => ?_) (fun e => by cases e)) fun q => ⟨plain_int, mapAt_set hb hm ⟨_, getM_set.symm, brB_of (fun q2 => step _ (fun _ => ?_) (fun e => by cases e)) fun q2 => step _ (fun q3 => ?_) fun q3 => ?_⟩⟩⟩
    · have : mayT t = false := by simpa using q
      rw [this]; rfl
    · rw [any_nums] at q2
      rw [q2]; simp
    · have : ¬ t.num < nx := by simp at q3; omega
      simp [this]
    · have h1 : mayT t = true := by simpa using q
      have : t.num < nx := by simp at q3; omega
      rw [any_nums] at q2
      rw [q2]
      simp [this, h1]

theorem f31_2_ok (s : TS w0 h0 a n c ts) (hk : ∀ h', Ext h0 h' none → K (.bool (mayV lo nx sq ts)) h') :
    ∀ k i : Nat, i + k = 3 → (0 < i → in62 lo = true) → (1 < i → in62 nx = true) → (2 < i → in62 sq = true) → f31_2 w0 K lo nx sq ((i : Nat) : Int) lo nx sq a n c h0 := by
  intro k
  have hk0 := hk h0 (Ext.refl _ _)
  induction k with
  | zero =>
    intro i hi g0 g1 g2
    have hts := s.len
    refine f31_2_in _ _ _ _ _ _ _ _ _ _ _ (brB_of (fun q => by simp at q; omega) fun _ => brB_of (fun q => ?_) fun q b hb hbn => f31_11_ok s hb hbn _ 0 _ rfl (by omega) (Ext_put hbn) (put_same _ _ _) fun h' hx' => ?_)
    · have : ¬ ts.length ≤ 200 := by simp at q; omega
      have : mayV lo nx sq ts = false := by simp [mayV, this]
      rw [this] at hk0; exact hk0
    · have : ts.length ≤ 200 := by simp at q; omega
      have : mayV lo nx sq ts = mayL nx (ts.take 0) (ts.drop 0) := by simp [mayV, this, g0 (by omega), g1 (by omega), g2 (by omega)]
      rw [← this]; exact hk h' hx'
  | succ k ih =>
    intro i hi g0 g1 g2
    have step : ∀ v : Int, (in62 v = false → mayV lo nx sq ts = false) → (in62 v = true → f31_2 w0 K lo nx sq ((i + 1 : Nat) : Int) lo nx sq a n c h0) →
        brB (decide (v < (0 : Int))) (f31_5 w0 K lo nx sq ((i : Nat) : Int) true lo nx sq a n c h0) (f31_5 w0 K lo nx sq ((i : Nat) : Int) (decide ((4611686018427387904 : Int) < v)) lo nx sq a n c h0) := fun v h0' h1 => by
      have fin : ∀ q : Bool, (q = true → in62 v = false) → (q = false → in62 v = true) → f31_5 w0 K lo nx sq ((i : Nat) : Int) q lo nx sq a n c h0 := fun q e1 e0 => by
        refine f31_5_in _ _ _ _ _ _ _ _ _ _ _ _ (brB_of (fun e => ?_) fun e => ?_)
        · rw [h0' (e1 e)] at hk0; exact hk0
        · rw [wrapS (by omega)]; exact h1 (e0 e)
      refine brB_of (fun q => fin _ (fun _ => ?_) (fun e => by cases e)) fun q => fin _ (fun q2 => ?_) fun q2 => ?_
      all_goals simp only [decide_eq_true_eq, decide_eq_false_iff_not] at *
      · have : ¬ 0 ≤ v := by omega
        simp [in62, this]
      · have : ¬ v ≤ 4611686018427387904 := by omega
        simp [in62, this]
      · simp [in62]; omega
    refine f31_2_in _ _ _ _ _ _ _ _ _ _ _ (brB_of (fun _ => elem3 (fun e => step _ (fun q => ?_) fun q => ?_) (fun e => step _ (fun q => ?_) fun q => ?_) (fun e => step _ (fun q => ?_) fun q => ?_) (by omega)) fun q => by simp at q; omega)
    · simp [mayV, q]
    · exact ih (i + 1) (by omega) (fun _ => q) (fun z => by omega) fun z => by omega
    · simp [mayV, q]
    · exact ih (i + 1) (by omega) (fun _ => g0 (by omega)) (fun _ => q) fun z => by omega
    · simp [mayV, q]
    · exact ih (i + 1) (by omega) (fun _ => g0 (by omega)) (fun _ => g1 (by omega)) fun _ => q

/-- level.May. -/
theorem f31_spec (s : TS w0 h0 a n c ts) (hk : ∀ h', Ext h0 h' none → K (.bool (mayV lo nx sq ts)) h') : EvC Go.Proofs.Try.prog w0 31 #[.agg #[.int .i64 lo, .int .i64 nx, .int .i64 sq, .slice a n c]] K h0 :=
  f31_go _ _ _ _ _ _ _ (f31_2_ok s hk 3 0 rfl (fun e => by omega) (fun e => by omega) fun e => by omega)
end
end Go.G.Ytpnhlgghpciofaa
