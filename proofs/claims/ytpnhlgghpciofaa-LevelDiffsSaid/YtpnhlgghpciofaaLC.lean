/- What the document's answers compute of versions: May. -/
import Derived.Test.YtpnhlgghpciofaaLB
import Derived.Test.YtpnhlgghpciofaaProg
set_option maxRecDepth 100000
namespace Go.G.Ytpnhlgghpciofaa
open Go.RowKit
def f32_J : Nat → List Nat × Nat := jOf [(2, [0, 2, 3, 4, 5, 6, 7, 8, 9, 10, 11, 12, 13, 14, 15, 18, 19, 20, 21, 22, 23, 24, 25, 26, 27, 28, 29, 30, 31, 32, 33, 34, 35, 36, 37, 38, 39, 40, 41, 42, 43, 44, 45, 46, 47, 48, 49, 50, 51, 52, 53, 54, 55, 56, 57, 58, 59, 60, 61, 62, 63, 64, 65, 66, 67, 68, 69, 70, 71, 72, 73, 74, 75, 76, 77, 78, 79, 80, 81, 82, 83, 84, 85, 86, 87, 88, 89, 90, 91, 92, 93, 94, 95, 96], 1), (5, [0, 2, 3, 4, 5, 6, 7, 8, 9, 10, 11, 12, 13, 14, 15, 18, 19, 20, 21, 22, 23, 24, 26, 27, 28, 29, 30, 31, 32, 33, 34, 35, 36, 37, 38, 39, 40, 41, 42, 43, 44, 45, 46, 47, 48, 49, 50, 51, 52, 53, 54, 55, 56, 57, 58, 59, 60, 61, 62, 63, 64, 65, 66, 67, 68, 69, 70, 71, 72, 73, 74, 75, 76, 77, 78, 79, 80, 81, 82, 83, 84, 85, 86, 87, 88, 89, 90, 91, 92, 93, 94, 95, 96], 1), (10, [0, 2, 3, 4, 5, 6, 7, 8, 9, 10, 11, 12, 13, 14, 15, 16, 17, 18, 19, 20, 21, 22, 23, 24, 25, 26, 27, 28, 29, 30, 31, 35, 36, 37, 38, 39, 40, 41, 42, 43, 44, 45, 46, 47, 48, 49, 50, 51, 52, 53, 54, 55, 56, 57, 58, 59, 60, 61, 62, 63, 64, 65, 66, 67, 68, 69, 70, 71, 72, 73, 74, 75, 76, 77, 78, 79, 80, 81, 82, 83, 84, 85, 86, 87, 88, 89, 90, 91, 92, 93, 94, 95, 96], 1), (13, [0, 2, 3, 4, 7, 8, 9, 10, 11, 12, 13, 14, 15, 16, 17, 18, 19, 20, 21, 22, 23, 24, 25, 26, 27, 28, 29, 30, 31, 35, 36, 37, 38, 39, 40, 41, 42, 43, 44, 45, 46, 47, 49, 50, 51, 52, 53, 54, 55, 56, 57, 58, 59, 60, 61, 62, 63, 64, 65, 66, 67, 68, 69, 70, 71, 72, 73, 74, 75, 76, 77, 78, 79, 80, 81, 82, 83, 84, 85, 86, 87, 88, 89, 90, 91, 92, 93, 94, 95, 96], 2), (14, [0, 2, 3, 4, 7, 8, 9, 10, 11, 12, 13, 14, 15, 16, 17, 18, 19, 20, 21, 22, 23, 24, 25, 26, 27, 28, 29, 30, 31, 35, 36, 37, 38, 39, 40, 41, 42, 43, 44, 45, 46, 47, 48, 49, 50, 51, 52, 53, 54, 55, 56, 57, 58, 59, 60, 61, 62, 63, 64, 65, 66, 67, 68, 69, 70, 71, 72, 73, 74, 75, 76, 77, 78, 79, 80, 81, 82, 83, 84, 85, 86, 87, 88, 89, 90, 91, 92, 93, 94, 95, 96], 2), (15, [0, 2, 3, 4, 7, 8, 9, 10, 11, 12, 13, 14, 15, 16, 17, 18, 19, 20, 21, 22, 23, 24, 25, 26, 27, 28, 29, 30, 31, 35, 36, 37, 38, 39, 40, 41, 42, 43, 44, 45, 46, 47, 48, 49, 50, 51, 55, 56, 57, 58, 59, 60, 61, 62, 63, 64, 65, 66, 67, 68, 69, 70, 71, 72, 73, 74, 75, 76, 77, 78, 79, 80, 81, 82, 83, 84, 85, 86, 87, 88, 89, 90, 91, 92, 93, 94, 95, 96], 2), (23, [0, 2, 3, 4, 5, 6, 7, 8, 9, 10, 11, 12, 13, 14, 15, 16, 17, 18, 19, 20, 21, 22, 23, 24, 25, 26, 27, 28, 29, 30, 31, 35, 36, 37, 38, 39, 40, 41, 42, 43, 44, 45, 46, 47, 48, 49, 50, 51, 52, 53, 54, 55, 56, 57, 58, 59, 60, 61, 62, 63, 64, 65, 66, 67, 68, 69, 70, 71, 72, 73, 74, 75, 76, 77, 78, 79, 80, 81, 82, 83, 84, 85, 86, 87, 88, 89, 90, 91, 92, 93, 94, 96], 1)]

def f32_2 (w0 : World) (K : Value → AH → Prop) (x16_0 : Int) (x16_1 : Int) (x16_2 : Int) (x17 : Int) (xb0_0 : Int) (xb0_1 : Int) (xb0_2 : Int) (ab0_3 : Option Go.Addr) (nb0_3 : Nat) (cb0_3 : Nat) (h : AH) : Prop :=
  ∀ j : Nat → Value, LPk Go.Proofs.Try.prog w0 (EvC Go.Proofs.Try.prog w0) f32_J 32 K 2 [.v (j 0), .bp 0 0, .v (j 2), .v (j 3), .v (j 4), .v (j 5), .v (j 6), .v (j 7), .v (j 8), .v (j 9), .v (j 10), .v (j 11), .v (j 12), .v (j 13), .v (j 14), .v (j 15), .v (.agg #[(.int .i64 x16_0), (.int .i64 x16_1), (.int .i64 x16_2)]), .v (.int .i64 x17), .v (j 18), .v (j 19), .v (j 20), .v (j 21), .v (j 22), .v (j 23), .v (j 24), .v (j 25), .v (j 26), .v (j 27), .v (j 28), .v (j 29), .v (j 30), .v (j 31), .v (j 32), .v (j 33), .v (j 34), .v (j 35), .v (j 36), .v (j 37), .v (j 38), .v (j 39), .v (j 40), .v (j 41), .v (j 42), .v (j 43), .v (j 44), .v (j 45), .v (j 46), .v (j 47), .v (j 48), .v (j 49), .v (j 50), .v (j 51), .v (j 52), .v (j 53), .v (j 54), .v (j 55), .v (j 56), .v (j 57), .v (j 58), .v (j 59), .v (j 60), .v (j 61), .v (j 62), .v (j 63), .v (j 64), .v (j 65), .v (j 66), .v (j 67), .v (j 68), .v (j 69), .v (j 70), .v (j 71), .v (j 72), .v (j 73), .v (j 74), .v (j 75), .v (j 76), .v (j 77), .v (j 78), .v (j 79), .v (j 80), .v (j 81), .v (j 82), .v (j 83), .v (j 84), .v (j 85), .v (j 86), .v (j 87), .v (j 88), .v (j 89), .v (j 90), .v (j 91), .v (j 92), .v (j 93), .v (j 94), .v (j 95), .v (j 96)] [some [(.int .i64 xb0_0), (.int .i64 xb0_1), (.int .i64 xb0_2), (.slice ab0_3 nb0_3 cb0_3)]] h

def f32_5 (w0 : World) (K : Value → AH → Prop) (x16_0 : Int) (x16_1 : Int) (x16_2 : Int) (x17 : Int) (x25 : Bool) (xb0_0 : Int) (xb0_1 : Int) (xb0_2 : Int) (ab0_3 : Option Go.Addr) (nb0_3 : Nat) (cb0_3 : Nat) (h : AH) : Prop :=
  ∀ j : Nat → Value, LPk Go.Proofs.Try.prog w0 (EvC Go.Proofs.Try.prog w0) f32_J 32 K 5 [.v (j 0), .bp 0 0, .v (j 2), .v (j 3), .v (j 4), .v (j 5), .v (j 6), .v (j 7), .v (j 8), .v (j 9), .v (j 10), .v (j 11), .v (j 12), .v (j 13), .v (j 14), .v (j 15), .v (.agg #[(.int .i64 x16_0), (.int .i64 x16_1), (.int .i64 x16_2)]), .v (.int .i64 x17), .v (j 18), .v (j 19), .v (j 20), .v (j 21), .v (j 22), .v (j 23), .v (j 24), .v (.bool x25), .v (j 26), .v (j 27), .v (j 28), .v (j 29), .v (j 30), .v (j 31), .v (j 32), .v (j 33), .v (j 34), .v (j 35), .v (j 36), .v (j 37), .v (j 38), .v (j 39), .v (j 40), .v (j 41), .v (j 42), .v (j 43), .v (j 44), .v (j 45), .v (j 46), .v (j 47), .v (j 48), .v (j 49), .v (j 50), .v (j 51), .v (j 52), .v (j 53), .v (j 54), .v (j 55), .v (j 56), .v (j 57), .v (j 58), .v (j 59), .v (j 60), .v (j 61), .v (j 62), .v (j 63), .v (j 64), .v (j 65), .v (j 66), .v (j 67), .v (j 68), .v (j 69), .v (j 70), .v (j 71), .v (j 72), .v (j 73), .v (j 74), .v (j 75), .v (j 76), .v (j 77), .v (j 78), .v (j 79), .v (j 80), .v (j 81), .v (j 82), .v (j 83), .v (j 84), .v (j 85), .v (j 86), .v (j 87), .v (j 88), .v (j 89), .v (j 90), .v (j 91), .v (j 92), .v (j 93), .v (j 94), .v (j 95), .v (j 96)] [some [(.int .i64 xb0_0), (.int .i64 xb0_1), (.int .i64 xb0_2), (.slice ab0_3 nb0_3 cb0_3)]] h

def f32_10 (w0 : World) (K : Value → AH → Prop) (a32 : Option Go.Addr) (n32 : Nat) (c32 : Nat) (x33 : Int) (x34 : Int) (xb0_0 : Int) (xb0_1 : Int) (xb0_2 : Int) (ab0_3 : Option Go.Addr) (nb0_3 : Nat) (cb0_3 : Nat) (h : AH) : Prop :=
  ∀ j : Nat → Value, LPk Go.Proofs.Try.prog w0 (EvC Go.Proofs.Try.prog w0) f32_J 32 K 10 [.v (j 0), .bp 0 0, .v (j 2), .v (j 3), .v (j 4), .v (j 5), .v (j 6), .v (j 7), .v (j 8), .v (j 9), .v (j 10), .v (j 11), .v (j 12), .v (j 13), .v (j 14), .v (j 15), .v (j 16), .v (j 17), .v (j 18), .v (j 19), .v (j 20), .v (j 21), .v (j 22), .v (j 23), .v (j 24), .v (j 25), .v (j 26), .v (j 27), .v (j 28), .v (j 29), .v (j 30), .v (j 31), .v (.slice a32 n32 c32), .v (.int .i64 x33), .v (.int .i64 x34), .v (j 35), .v (j 36), .v (j 37), .v (j 38), .v (j 39), .v (j 40), .v (j 41), .v (j 42), .v (j 43), .v (j 44), .v (j 45), .v (j 46), .v (j 47), .v (j 48), .v (j 49), .v (j 50), .v (j 51), .v (j 52), .v (j 53), .v (j 54), .v (j 55), .v (j 56), .v (j 57), .v (j 58), .v (j 59), .v (j 60), .v (j 61), .v (j 62), .v (j 63), .v (j 64), .v (j 65), .v (j 66), .v (j 67), .v (j 68), .v (j 69), .v (j 70), .v (j 71), .v (j 72), .v (j 73), .v (j 74), .v (j 75), .v (j 76), .v (j 77), .v (j 78), .v (j 79), .v (j 80), .v (j 81), .v (j 82), .v (j 83), .v (j 84), .v (j 85), .v (j 86), .v (j 87), .v (j 88), .v (j 89), .v (j 90), .v (j 91), .v (j 92), .v (j 93), .v (j 94), .v (j 95), .v (j 96)] [some [(.int .i64 xb0_0), (.int .i64 xb0_1), (.int .i64 xb0_2), (.slice ab0_3 nb0_3 cb0_3)]] h

def f32_13 (w0 : World) (K : Value → AH → Prop) (x5 : Int) (a32 : Option Go.Addr) (n32 : Nat) (c32 : Nat) (x33 : Int) (x34 : Int) (x48 : Bool) (xb0_0 : Int) (xb0_1 : Int) (xb0_2 : Int) (ab0_3 : Option Go.Addr) (nb0_3 : Nat) (cb0_3 : Nat) (xb1_0 : Int) (xb1_1 : Int) (xb1_2 : Int) (ab1_3 : Option Go.Addr) (nb1_3 : Nat) (cb1_3 : Nat) (ab1_4 : Option Go.Addr) (nb1_4 : Nat) (cb1_4 : Nat) (h : AH) : Prop :=
  ∀ j : Nat → Value, LPk Go.Proofs.Try.prog w0 (EvC Go.Proofs.Try.prog w0) f32_J 32 K 13 [.v (j 0), .bp 0 0, .v (j 2), .v (j 3), .v (j 4), .v (.int .i64 x5), .bp 1 0, .v (j 7), .v (j 8), .v (j 9), .v (j 10), .v (j 11), .v (j 12), .v (j 13), .v (j 14), .v (j 15), .v (j 16), .v (j 17), .v (j 18), .v (j 19), .v (j 20), .v (j 21), .v (j 22), .v (j 23), .v (j 24), .v (j 25), .v (j 26), .v (j 27), .v (j 28), .v (j 29), .v (j 30), .v (j 31), .v (.slice a32 n32 c32), .v (.int .i64 x33), .v (.int .i64 x34), .v (j 35), .v (j 36), .v (j 37), .v (j 38), .v (j 39), .v (j 40), .v (j 41), .v (j 42), .v (j 43), .v (j 44), .v (j 45), .v (j 46), .v (j 47), .v (.bool x48), .v (j 49), .v (j 50), .v (j 51), .v (j 52), .v (j 53), .v (j 54), .v (j 55), .v (j 56), .v (j 57), .v (j 58), .v (j 59), .v (j 60), .v (j 61), .v (j 62), .v (j 63), .v (j 64), .v (j 65), .v (j 66), .v (j 67), .v (j 68), .v (j 69), .v (j 70), .v (j 71), .v (j 72), .v (j 73), .v (j 74), .v (j 75), .v (j 76), .v (j 77), .v (j 78), .v (j 79), .v (j 80), .v (j 81), .v (j 82), .v (j 83), .v (j 84), .v (j 85), .v (j 86), .v (j 87), .v (j 88), .v (j 89), .v (j 90), .v (j 91), .v (j 92), .v (j 93), .v (j 94), .v (j 95), .v (j 96)] [some [(.int .i64 xb0_0), (.int .i64 xb0_1), (.int .i64 xb0_2), (.slice ab0_3 nb0_3 cb0_3)], some [(.int .i64 xb1_0), (.int .i64 xb1_1), (.int .i64 xb1_2), (.slice ab1_3 nb1_3 cb1_3), (.slice ab1_4 nb1_4 cb1_4)]] h

def f32_14 (w0 : World) (K : Value → AH → Prop) (x5 : Int) (a32 : Option Go.Addr) (n32 : Nat) (c32 : Nat) (x33 : Int) (x34 : Int) (xb0_0 : Int) (xb0_1 : Int) (xb0_2 : Int) (ab0_3 : Option Go.Addr) (nb0_3 : Nat) (cb0_3 : Nat) (xb1_0 : Int) (xb1_1 : Int) (xb1_2 : Int) (ab1_3 : Option Go.Addr) (nb1_3 : Nat) (cb1_3 : Nat) (ab1_4 : Option Go.Addr) (nb1_4 : Nat) (cb1_4 : Nat) (h : AH) : Prop :=
  ∀ j : Nat → Value, LPk Go.Proofs.Try.prog w0 (EvC Go.Proofs.Try.prog w0) f32_J 32 K 14 [.v (j 0), .bp 0 0, .v (j 2), .v (j 3), .v (j 4), .v (.int .i64 x5), .bp 1 0, .v (j 7), .v (j 8), .v (j 9), .v (j 10), .v (j 11), .v (j 12), .v (j 13), .v (j 14), .v (j 15), .v (j 16), .v (j 17), .v (j 18), .v (j 19), .v (j 20), .v (j 21), .v (j 22), .v (j 23), .v (j 24), .v (j 25), .v (j 26), .v (j 27), .v (j 28), .v (j 29), .v (j 30), .v (j 31), .v (.slice a32 n32 c32), .v (.int .i64 x33), .v (.int .i64 x34), .v (j 35), .v (j 36), .v (j 37), .v (j 38), .v (j 39), .v (j 40), .v (j 41), .v (j 42), .v (j 43), .v (j 44), .v (j 45), .v (j 46), .v (j 47), .v (j 48), .v (j 49), .v (j 50), .v (j 51), .v (j 52), .v (j 53), .v (j 54), .v (j 55), .v (j 56), .v (j 57), .v (j 58), .v (j 59), .v (j 60), .v (j 61), .v (j 62), .v (j 63), .v (j 64), .v (j 65), .v (j 66), .v (j 67), .v (j 68), .v (j 69), .v (j 70), .v (j 71), .v (j 72), .v (j 73), .v (j 74), .v (j 75), .v (j 76), .v (j 77), .v (j 78), .v (j 79), .v (j 80), .v (j 81), .v (j 82), .v (j 83), .v (j 84), .v (j 85), .v (j 86), .v (j 87), .v (j 88), .v (j 89), .v (j 90), .v (j 91), .v (j 92), .v (j 93), .v (j 94), .v (j 95), .v (j 96)] [some [(.int .i64 xb0_0), (.int .i64 xb0_1), (.int .i64 xb0_2), (.slice ab0_3 nb0_3 cb0_3)], some [(.int .i64 xb1_0), (.int .i64 xb1_1), (.int .i64 xb1_2), (.slice ab1_3 nb1_3 cb1_3), (.slice ab1_4 nb1_4 cb1_4)]] h

def f32_15 (w0 : World) (K : Value → AH → Prop) (x5 : Int) (a32 : Option Go.Addr) (n32 : Nat) (c32 : Nat) (x33 : Int) (x34 : Int) (a52 : Option Go.Addr) (n52 : Nat) (c52 : Nat) (x53 : Int) (x54 : Int) (xb0_0 : Int) (xb0_1 : Int) (xb0_2 : Int) (ab0_3 : Option Go.Addr) (nb0_3 : Nat) (cb0_3 : Nat) (xb1_0 : Int) (xb1_1 : Int) (xb1_2 : Int) (ab1_3 : Option Go.Addr) (nb1_3 : Nat) (cb1_3 : Nat) (ab1_4 : Option Go.Addr) (nb1_4 : Nat) (cb1_4 : Nat) (h : AH) : Prop :=
  ∀ j : Nat → Value, LPk Go.Proofs.Try.prog w0 (EvC Go.Proofs.Try.prog w0) f32_J 32 K 15 [.v (j 0), .bp 0 0, .v (j 2), .v (j 3), .v (j 4), .v (.int .i64 x5), .bp 1 0, .v (j 7), .v (j 8), .v (j 9), .v (j 10), .v (j 11), .v (j 12), .v (j 13), .v (j 14), .v (j 15), .v (j 16), .v (j 17), .v (j 18), .v (j 19), .v (j 20), .v (j 21), .v (j 22), .v (j 23), .v (j 24), .v (j 25), .v (j 26), .v (j 27), .v (j 28), .v (j 29), .v (j 30), .v (j 31), .v (.slice a32 n32 c32), .v (.int .i64 x33), .v (.int .i64 x34), .v (j 35), .v (j 36), .v (j 37), .v (j 38), .v (j 39), .v (j 40), .v (j 41), .v (j 42), .v (j 43), .v (j 44), .v (j 45), .v (j 46), .v (j 47), .v (j 48), .v (j 49), .v (j 50), .v (j 51), .v (.slice a52 n52 c52), .v (.int .i64 x53), .v (.int .i64 x54), .v (j 55), .v (j 56), .v (j 57), .v (j 58), .v (j 59), .v (j 60), .v (j 61), .v (j 62), .v (j 63), .v (j 64), .v (j 65), .v (j 66), .v (j 67), .v (j 68), .v (j 69), .v (j 70), .v (j 71), .v (j 72), .v (j 73), .v (j 74), .v (j 75), .v (j 76), .v (j 77), .v (j 78), .v (j 79), .v (j 80), .v (j 81), .v (j 82), .v (j 83), .v (j 84), .v (j 85), .v (j 86), .v (j 87), .v (j 88), .v (j 89), .v (j 90), .v (j 91), .v (j 92), .v (j 93), .v (j 94), .v (j 95), .v (j 96)] [some [(.int .i64 xb0_0), (.int .i64 xb0_1), (.int .i64 xb0_2), (.slice ab0_3 nb0_3 cb0_3)], some [(.int .i64 xb1_0), (.int .i64 xb1_1), (.int .i64 xb1_2), (.slice ab1_3 nb1_3 cb1_3), (.slice ab1_4 nb1_4 cb1_4)]] h

def f32_23 (w0 : World) (K : Value → AH → Prop) (a32 : Option Go.Addr) (n32 : Nat) (c32 : Nat) (x33 : Int) (x34 : Int) (x95 : Bool) (xb0_0 : Int) (xb0_1 : Int) (xb0_2 : Int) (ab0_3 : Option Go.Addr) (nb0_3 : Nat) (cb0_3 : Nat) (h : AH) : Prop :=
  ∀ j : Nat → Value, LPk Go.Proofs.Try.prog w0 (EvC Go.Proofs.Try.prog w0) f32_J 32 K 23 [.v (j 0), .bp 0 0, .v (j 2), .v (j 3), .v (j 4), .v (j 5), .v (j 6), .v (j 7), .v (j 8), .v (j 9), .v (j 10), .v (j 11), .v (j 12), .v (j 13), .v (j 14), .v (j 15), .v (j 16), .v (j 17), .v (j 18), .v (j 19), .v (j 20), .v (j 21), .v (j 22), .v (j 23), .v (j 24), .v (j 25), .v (j 26), .v (j 27), .v (j 28), .v (j 29), .v (j 30), .v (j 31), .v (.slice a32 n32 c32), .v (.int .i64 x33), .v (.int .i64 x34), .v (j 35), .v (j 36), .v (j 37), .v (j 38), .v (j 39), .v (j 40), .v (j 41), .v (j 42), .v (j 43), .v (j 44), .v (j 45), .v (j 46), .v (j 47), .v (j 48), .v (j 49), .v (j 50), .v (j 51), .v (j 52), .v (j 53), .v (j 54), .v (j 55), .v (j 56), .v (j 57), .v (j 58), .v (j 59), .v (j 60), .v (j 61), .v (j 62), .v (j 63), .v (j 64), .v (j 65), .v (j 66), .v (j 67), .v (j 68), .v (j 69), .v (j 70), .v (j 71), .v (j 72), .v (j 73), .v (j 74), .v (j 75), .v (j 76), .v (j 77), .v (j 78), .v (j 79), .v (j 80), .v (j 81), .v (j 82), .v (j 83), .v (j 84), .v (j 85), .v (j 86), .v (j 87), .v (j 88), .v (j 89), .v (j 90), .v (j 91), .v (j 92), .v (j 93), .v (j 94), .v (.bool x95), .v (j 96)] [some [(.int .i64 xb0_0), (.int .i64 xb0_1), (.int .i64 xb0_2), (.slice ab0_3 nb0_3 cb0_3)]] h

theorem f32_2_in {w0 : World} {K : Value → AH → Prop} (x16_0 : Int) (x16_1 : Int) (x16_2 : Int) (x17 : Int) (xb0_0 : Int) (xb0_1 : Int) (xb0_2 : Int) (ab0_3 : Option Go.Addr) (nb0_3 : Nat) (cb0_3 : Nat) (h : AH)
  (hv : (brB (decide ((x17 < (3 : Int)))) (((0 : Int) ≤ x17) ∧ ((x17 < (3 : Int)) ∧ (∃ i'0 : Int, ((Go.G.elemIs Go.Proofs.Try.prog 2 [(Go.Value.int .i64 x16_0), (Go.Value.int .i64 x16_1), (Go.Value.int .i64 x16_2)] (Int.toNat x17) (Go.Value.int .i64 i'0)) ∧ (brB (decide ((i'0 < (0 : Int)))) (f32_5 w0 K x16_0 x16_1 x16_2 x17 true xb0_0 xb0_1 xb0_2 ab0_3 nb0_3 cb0_3 h) (f32_5 w0 K x16_0 x16_1 x16_2 x17 (decide (((4611686018427387904 : Int) < i'0))) xb0_0 xb0_1 xb0_2 ab0_3 nb0_3 cb0_3 h)))))) (brB (decide (((200 : Int) < ((nb0_3 : Nat) : Int)))) (K (Go.Value.bool false) h) (f32_10 w0 K ab0_3 nb0_3 cb0_3 ((nb0_3 : Nat) : Int) (0 : Int) xb0_0 xb0_1 xb0_2 ab0_3 nb0_3 cb0_3 h)))) :
  f32_2 w0 K x16_0 x16_1 x16_2 x17 xb0_0 xb0_1 xb0_2 ab0_3 nb0_3 cb0_3 h := fun j => LP_intro (P := Go.Proofs.Try.prog) (Eq.mp (by kernel_rfl) hv)

theorem f32_5_in {w0 : World} {K : Value → AH → Prop} (x16_0 : Int) (x16_1 : Int) (x16_2 : Int) (x17 : Int) (x25 : Bool) (xb0_0 : Int) (xb0_1 : Int) (xb0_2 : Int) (ab0_3 : Option Go.Addr) (nb0_3 : Nat) (cb0_3 : Nat) (h : AH)
  (hv : (brB x25 (K (Go.Value.bool false) h) (f32_2 w0 K x16_0 x16_1 x16_2 (Go.IntKind.wrap .i64 (x17 + (1 : Int))) xb0_0 xb0_1 xb0_2 ab0_3 nb0_3 cb0_3 h))) :
  f32_5 w0 K x16_0 x16_1 x16_2 x17 x25 xb0_0 xb0_1 xb0_2 ab0_3 nb0_3 cb0_3 h := fun j => LP_intro (P := Go.Proofs.Try.prog) (Eq.mp (by kernel_rfl) hv)

theorem f32_10_in {w0 : World} {K : Value → AH → Prop} (a32 : Option Go.Addr) (n32 : Nat) (c32 : Nat) (x33 : Int) (x34 : Int) (xb0_0 : Int) (xb0_1 : Int) (xb0_2 : Int) (ab0_3 : Option Go.Addr) (nb0_3 : Nat) (cb0_3 : Nat) (h : AH)
  (hv : (brB (decide ((x34 < x33))) (∃ a'1 : Go.Addr, ((a32 = (some a'1)) ∧ (((0 : Int) ≤ x34) ∧ ((x34 < ((n32 : Nat) : Int)) ∧ (∃ i'2 : Int, (∃ i'3 : Int, (∃ i'4 : Int, (∃ p'5 : Option Go.Addr, (∃ n'6 : Nat, (∃ n'7 : Nat, (∃ p'8 : Option Go.Addr, (∃ n'9 : Nat, (∃ n'10 : Nat, ((((Array.size #[(Go.Value.int .i64 i'2), (Go.Value.int .i64 i'3), (Go.Value.int .i64 i'4), (Go.Value.slice p'5 n'6 n'7), (Go.Value.slice p'8 n'9 n'10)]) = 5) ∧ (At w0 h (Go.Addr.add a'1 ((Int.toNat x34) * 5)) [(Go.Value.int .i64 i'2), (Go.Value.int .i64 i'3), (Go.Value.int .i64 i'4), (Go.Value.slice p'5 n'6 n'7), (Go.Value.slice p'8 n'9 n'10)])) ∧ (EvC Go.Proofs.Try.prog w0 54 #[(Go.Value.agg #[(Go.Value.int .i64 i'2), (Go.Value.int .i64 i'3), (Go.Value.int .i64 i'4), (Go.Value.slice p'5 n'6 n'7), (Go.Value.slice p'8 n'9 n'10)])] (fun x'11 h'12 => (∃ t'13 : Bool, ((x'11 = (Go.Value.bool t'13)) ∧ (brB (!t'13) (f32_13 w0 K x34 a32 n32 c32 x33 x34 true xb0_0 xb0_1 xb0_2 ab0_3 nb0_3 cb0_3 i'2 i'3 i'4 p'5 n'6 n'7 p'8 n'9 n'10 h'12) (f32_13 w0 K x34 a32 n32 c32 x33 x34 (decide ((xb0_1 ≤ i'2))) xb0_0 xb0_1 xb0_2 ab0_3 nb0_3 cb0_3 i'2 i'3 i'4 p'5 n'6 n'7 p'8 n'9 n'10 h'12))))) h))))))))))))))) (K (Go.Value.bool true) h))) :
  f32_10 w0 K a32 n32 c32 x33 x34 xb0_0 xb0_1 xb0_2 ab0_3 nb0_3 cb0_3 h := fun j => LP_intro (P := Go.Proofs.Try.prog) (Eq.mp (by kernel_rfl) hv)

theorem f32_13_in {w0 : World} {K : Value → AH → Prop} (x5 : Int) (a32 : Option Go.Addr) (n32 : Nat) (c32 : Nat) (x33 : Int) (x34 : Int) (x48 : Bool) (xb0_0 : Int) (xb0_1 : Int) (xb0_2 : Int) (ab0_3 : Option Go.Addr) (nb0_3 : Nat) (cb0_3 : Nat) (xb1_0 : Int) (xb1_1 : Int) (xb1_2 : Int) (ab1_3 : Option Go.Addr) (nb1_3 : Nat) (cb1_3 : Nat) (ab1_4 : Option Go.Addr) (nb1_4 : Nat) (cb1_4 : Nat) (h : AH)
  (hv : (brB x48 (K (Go.Value.bool false) h) (f32_14 w0 K x5 a32 n32 c32 x33 x34 xb0_0 xb0_1 xb0_2 ab0_3 nb0_3 cb0_3 xb1_0 xb1_1 xb1_2 ab1_3 nb1_3 cb1_3 ab1_4 nb1_4 cb1_4 h))) :
  f32_13 w0 K x5 a32 n32 c32 x33 x34 x48 xb0_0 xb0_1 xb0_2 ab0_3 nb0_3 cb0_3 xb1_0 xb1_1 xb1_2 ab1_3 nb1_3 cb1_3 ab1_4 nb1_4 cb1_4 h := fun j => LP_intro (P := Go.Proofs.Try.prog) (Eq.mp (by kernel_rfl) hv)

theorem f32_14_in {w0 : World} {K : Value → AH → Prop} (x5 : Int) (a32 : Option Go.Addr) (n32 : Nat) (c32 : Nat) (x33 : Int) (x34 : Int) (xb0_0 : Int) (xb0_1 : Int) (xb0_2 : Int) (ab0_3 : Option Go.Addr) (nb0_3 : Nat) (cb0_3 : Nat) (xb1_0 : Int) (xb1_1 : Int) (xb1_2 : Int) (ab1_3 : Option Go.Addr) (nb1_3 : Nat) (cb1_3 : Nat) (ab1_4 : Option Go.Addr) (nb1_4 : Nat) (cb1_4 : Nat) (h : AH)
  (hv : (((0 : Int) ≤ x5) ∧ ((x5 ≤ ((cb0_3 : Nat) : Int)) ∧ (f32_15 w0 K x5 a32 n32 c32 x33 x34 ab0_3 (Int.toNat x5) cb0_3 (((Int.toNat x5) : Nat) : Int) (0 : Int) xb0_0 xb0_1 xb0_2 ab0_3 nb0_3 cb0_3 xb1_0 xb1_1 xb1_2 ab1_3 nb1_3 cb1_3 ab1_4 nb1_4 cb1_4 h)))) :
  f32_14 w0 K x5 a32 n32 c32 x33 x34 xb0_0 xb0_1 xb0_2 ab0_3 nb0_3 cb0_3 xb1_0 xb1_1 xb1_2 ab1_3 nb1_3 cb1_3 ab1_4 nb1_4 cb1_4 h := fun j => LP_intro (P := Go.Proofs.Try.prog) (Eq.mp (by kernel_rfl) hv)

theorem f32_15_in {w0 : World} {K : Value → AH → Prop} (x5 : Int) (a32 : Option Go.Addr) (n32 : Nat) (c32 : Nat) (x33 : Int) (x34 : Int) (a52 : Option Go.Addr) (n52 : Nat) (c52 : Nat) (x53 : Int) (x54 : Int) (xb0_0 : Int) (xb0_1 : Int) (xb0_2 : Int) (ab0_3 : Option Go.Addr) (nb0_3 : Nat) (cb0_3 : Nat) (xb1_0 : Int) (xb1_1 : Int) (xb1_2 : Int) (ab1_3 : Option Go.Addr) (nb1_3 : Nat) (cb1_3 : Nat) (ab1_4 : Option Go.Addr) (nb1_4 : Nat) (cb1_4 : Nat) (h : AH)
  (hv : (brB (decide ((x54 < x53))) (∃ a'14 : Go.Addr, ((a52 = (some a'14)) ∧ (((0 : Int) ≤ x54) ∧ ((x54 < ((n52 : Nat) : Int)) ∧ (∃ i'15 : Int, (∃ i'16 : Int, (∃ i'17 : Int, (∃ p'18 : Option Go.Addr, (∃ n'19 : Nat, (∃ n'20 : Nat, (∃ p'21 : Option Go.Addr, (∃ n'22 : Nat, (∃ n'23 : Nat, ((((Array.size #[(Go.Value.int .i64 i'15), (Go.Value.int .i64 i'16), (Go.Value.int .i64 i'17), (Go.Value.slice p'18 n'19 n'20), (Go.Value.slice p'21 n'22 n'23)]) = 5) ∧ (At w0 h (Go.Addr.add a'14 ((Int.toNat x54) * 5)) [(Go.Value.int .i64 i'15), (Go.Value.int .i64 i'16), (Go.Value.int .i64 i'17), (Go.Value.slice p'18 n'19 n'20), (Go.Value.slice p'21 n'22 n'23)])) ∧ (brB (i'15 == xb1_0) (K (Go.Value.bool false) h) (f32_15 w0 K x5 a32 n32 c32 x33 x34 a52 n52 c52 x53 (Go.IntKind.wrap .i64 (x54 + (1 : Int))) xb0_0 xb0_1 xb0_2 ab0_3 nb0_3 cb0_3 xb1_0 xb1_1 xb1_2 ab1_3 nb1_3 cb1_3 ab1_4 nb1_4 cb1_4 h)))))))))))))))) (brB (decide (((0 : Int) < x5))) (∃ a'24 : Go.Addr, ((ab0_3 = (some a'24)) ∧ (((0 : Int) ≤ (Go.IntKind.wrap .i64 (x5 - (1 : Int)))) ∧ (((Go.IntKind.wrap .i64 (x5 - (1 : Int))) < ((nb0_3 : Nat) : Int)) ∧ (∃ i'25 : Int, (∃ i'26 : Int, (∃ i'27 : Int, (∃ p'28 : Option Go.Addr, (∃ n'29 : Nat, (∃ n'30 : Nat, (∃ p'31 : Option Go.Addr, (∃ n'32 : Nat, (∃ n'33 : Nat, ((((Array.size #[(Go.Value.int .i64 i'25), (Go.Value.int .i64 i'26), (Go.Value.int .i64 i'27), (Go.Value.slice p'28 n'29 n'30), (Go.Value.slice p'31 n'32 n'33)]) = 5) ∧ (At w0 h (Go.Addr.add a'24 ((Int.toNat (Go.IntKind.wrap .i64 (x5 - (1 : Int)))) * 5)) [(Go.Value.int .i64 i'25), (Go.Value.int .i64 i'26), (Go.Value.int .i64 i'27), (Go.Value.slice p'28 n'29 n'30), (Go.Value.slice p'31 n'32 n'33)])) ∧ (EvC Go.Proofs.Try.prog w0 55 #[(Go.Value.agg #[(Go.Value.int .i64 i'25), (Go.Value.int .i64 i'26), (Go.Value.int .i64 i'27), (Go.Value.slice p'28 n'29 n'30), (Go.Value.slice p'31 n'32 n'33)]), (Go.Value.agg #[(Go.Value.int .i64 xb1_0), (Go.Value.int .i64 xb1_1), (Go.Value.int .i64 xb1_2), (Go.Value.slice ab1_3 nb1_3 cb1_3), (Go.Value.slice ab1_4 nb1_4 cb1_4)])] (fun x'34 h'35 => (∃ t'36 : Bool, ((x'34 = (Go.Value.bool t'36)) ∧ (brB (!t'36) (f32_23 w0 K a32 n32 c32 x33 x34 true xb0_0 xb0_1 xb0_2 ab0_3 nb0_3 cb0_3 h'35) (brB (i'26 == xb1_1) (brB (decide (((0 : Int) < xb1_1))) (EvC Go.Proofs.Try.prog w0 45 #[(Go.Value.slice p'31 n'32 n'33), (Go.Value.slice ab1_3 nb1_3 cb1_3)] (fun x'37 h'38 => (∃ i'39 : Int, ((x'37 = (Go.Value.int .i64 i'39)) ∧ (f32_23 w0 K a32 n32 c32 x33 x34 (decide (((0 : Int) ≤ i'39))) xb0_0 xb0_1 xb0_2 ab0_3 nb0_3 cb0_3 h'38)))) h'35) (f32_23 w0 K a32 n32 c32 x33 x34 false xb0_0 xb0_1 xb0_2 ab0_3 nb0_3 cb0_3 h'35)) (f32_23 w0 K a32 n32 c32 x33 x34 false xb0_0 xb0_1 xb0_2 ab0_3 nb0_3 cb0_3 h'35)))))) h))))))))))))))) (f32_10 w0 K a32 n32 c32 x33 (Go.IntKind.wrap .i64 (x34 + (1 : Int))) xb0_0 xb0_1 xb0_2 ab0_3 nb0_3 cb0_3 h)))) :
  f32_15 w0 K x5 a32 n32 c32 x33 x34 a52 n52 c52 x53 x54 xb0_0 xb0_1 xb0_2 ab0_3 nb0_3 cb0_3 xb1_0 xb1_1 xb1_2 ab1_3 nb1_3 cb1_3 ab1_4 nb1_4 cb1_4 h := fun j => LP_intro (P := Go.Proofs.Try.prog) (Eq.mp (by kernel_rfl) hv)

theorem f32_23_in {w0 : World} {K : Value → AH → Prop} (a32 : Option Go.Addr) (n32 : Nat) (c32 : Nat) (x33 : Int) (x34 : Int) (x95 : Bool) (xb0_0 : Int) (xb0_1 : Int) (xb0_2 : Int) (ab0_3 : Option Go.Addr) (nb0_3 : Nat) (cb0_3 : Nat) (h : AH)
  (hv : (brB x95 (K (Go.Value.bool false) h) (f32_10 w0 K a32 n32 c32 x33 (Go.IntKind.wrap .i64 (x34 + (1 : Int))) xb0_0 xb0_1 xb0_2 ab0_3 nb0_3 cb0_3 h))) :
  f32_23 w0 K a32 n32 c32 x33 x34 x95 xb0_0 xb0_1 xb0_2 ab0_3 nb0_3 cb0_3 h := fun j => LP_intro (P := Go.Proofs.Try.prog) (Eq.mp (by kernel_rfl) hv)

theorem f32_go {w0 : World} {K : Value → AH → Prop} (x0_0 : Int) (x0_1 : Int) (x0_2 : Int) (a0_3 : Option Go.Addr) (n0_3 : Nat) (c0_3 : Nat) (h : AH)
  (hv : (f32_2 w0 K x0_0 x0_1 x0_2 (0 : Int) x0_0 x0_1 x0_2 a0_3 n0_3 c0_3 h)) :
  EvC Go.Proofs.Try.prog w0 32 ([(.agg #[(.int .i64 x0_0), (.int .i64 x0_1), (.int .i64 x0_2), (.slice a0_3 n0_3 c0_3)])]).toArray K h := EvC_intro (P := Go.Proofs.Try.prog) f32_J (Eq.mp (by kernel_rfl) hv)
section
variable {w0 : World} {K : Value → AH → Prop} {h : AH} {lo nx sq : Int} {a : Option Addr} {n c : Nat} {ts : List Tab}

theorem f32_15_ok (s : TS w0 h a n c ts) {t : Tab} {i : Nat} (hget : ts[i]? = some t)
    (hk0 : (!((ts.take i).any fun u => u.num == t.num) && nextTo (ts.take i).getLast? t) = false → K (.bool false) h)
    (hk1 : (!((ts.take i).any fun u => u.num == t.num) && nextTo (ts.take i).getLast? t) = true → f32_10 w0 K a n c ((n : Nat) : Int) ((i + 1 : Nat) : Int) lo nx sq a n c h) :
    ∀ (rest : List Tab) (j : Nat), (ts.take i).drop j = rest → j ≤ i → (((ts.take i).any fun z => z.num == t.num) = rest.any fun z => z.num == t.num) →
      f32_15 w0 K ((i : Nat) : Int) a n c ((n : Nat) : Int) ((i : Nat) : Int) a i c ((i : Nat) : Int) ((j : Nat) : Int) lo nx sq a n c t.num t.lev t.siz t.lp t.ln t.lc t.mp t.mn t.mc h := by
  have hlt0 := (List.getElem?_eq_some_iff.1 hget).1
  have hsl0 := s.len
  have hsm0 := s.sm
  have s1 := s.take (i := i) (by omega)
  intro rest
  induction rest with
  | nil =>
    intro j hd hj he
    have hna : ((ts.take i).any fun z => z.num == t.num) = false := by rw [he]; rfl
    rw [hna] at hk0 hk1
    simp only [Bool.not_false, Bool.true_and] at hk0 hk1
    have := drop_done hd
    have := s1.len
    refine f32_15_in _ _ _ _ _ _ _ _ _ _ _ _ _ _ _ _ _ _ _ _ _ _ _ _ _ _ _ (brB_of (fun q => by simp at q; omega) fun _ => brB_of (fun q => ?_) fun q => ?_)
    · have hpos : 0 < i := by simp at q; omega
      have hp : ts[i - 1]? = some ts[i - 1] := List.getElem?_eq_getElem (by omega)
      have hlast : (ts.take i).getLast? = some ts[i - 1] := by
        rw [List.getLast?_take, if_neg (by omega), hp]; rfl
      rw [hlast] at hk0 hk1
      simp only [nextTo] at hk0 hk1
      rw [wrap64 (x := ((i : Nat) : Int) - 1) (by omega) (by omega), show ((i : Nat) : Int) - 1 = ((i - 1 : Nat) : Int) by omega]
      refine tabLoad s.rs.rd s.len hp ?_
      generalize hpd : ts[i - 1] = p at *
      have op := s.ok p (List.mem_of_getElem? hp)
      have ot := s.ok t (List.mem_of_getElem? hget)
      have fin : ∀ b : Bool, (b = true → (aheadR p t && !(p.lev == t.lev && decide (0 < t.lev) && decide (0 ≤ cmpL p.mb t.lb))) = false) → (b = false → (aheadR p t && !(p.lev == t.lev && decide (0 < t.lev) && decide (0 ≤ cmpL p.mb t.lb))) = true) →
          f32_23 w0 K a n c ((n : Nat) : Int) ((i : Nat) : Int) b lo nx sq a n c h := fun b h1 h0 => by
        refine f32_23_in _ _ _ _ _ _ _ _ _ _ _ _ _ (brB_of (fun e => hk0 (h1 e)) fun e => ?_)
        rw [wrapS (by omega)]
        exact hk1 (h0 e)
      refine f55_spec (t := p) (u := t) op ot ⟨_, rfl, brB_of (fun q1 => fin _ (fun _ => ?_) (fun e => by cases e)) fun q1 => ?_⟩
      · simp only [Bool.not_eq_true'] at q1
        simp [q1]
      · simp only [Bool.not_eq_false'] at q1
        refine brB_of (fun q2 => brB_of (fun q3 => ?_) fun q3 => fin _ (fun e => by cases e) fun _ => ?_) fun q2 => fin _ (fun e => by cases e) fun _ => ?_
        · refine f45_spec op.mb.rd ot.lb.rd op.mn ot.ln ⟨_, rfl, fin _ (fun q4 => ?_) fun q4 => ?_⟩
          · rw [q1, q2, q3, q4]; rfl
          · rw [q1, q2, q3, q4]; rfl
        · rw [q1, q2, q3]; rfl
        · rw [q1, q2]; rfl
    · have hz : i = 0 := by simp at q; omega
      subst hz
      rw [wrapS (by omega)]
      exact hk1 (by simp [nextTo])
  | cons z rs ih =>
    intro j hd hj he
    obtain ⟨hg, hd', hlt⟩ := drop_step hd
    have hsl := s1.len
    refine f32_15_in _ _ _ _ _ _ _ _ _ _ _ _ _ _ _ _ _ _ _ _ _ _ _ _ _ _ _ (brB_of (fun _ => tabLoad s1.rs.rd s1.len hg ?_) fun q => by simp at q; omega)
    refine brB_of (fun q => hk0 ?_) fun q => ?_
    · rw [he, List.any_cons, q]; rfl
    · rw [wrapS (by omega)]
      exact ih (j + 1) hd' (by omega) (by rw [he, List.any_cons, q]; rfl)

theorem f32_10_ok (s : TS w0 h a n c ts) : ∀ (rest : List Tab) (i : Nat), ts.drop i = rest → i ≤ n → K (.bool (mayL nx (ts.take i) rest)) h → f32_10 w0 K a n c ((n : Nat) : Int) ((i : Nat) : Int) lo nx sq a n c h := by
  intro rest
  induction rest with
  | nil =>
    intro i hd hi hk
    have := drop_done hd
    have := s.len
    exact f32_10_in _ _ _ _ _ _ _ _ _ _ _ _ (brB_of (fun q => by simp at q; omega) fun _ => hk)
  | cons t r ih =>
    intro i hd hi hk
    obtain ⟨hget, hd', hlt⟩ := drop_step hd
    have hsl := s.len
    have hsm := s.sm
    have hcap := s.cap
    have htake : ts.take (i + 1) = ts.take i ++ [t] := by rw [List.take_add_one, hget]; rfl
    have step : ∀ b : Bool, (b = true → (mayT t && decide (t.num < nx)) = false) → (b = false → (mayT t && decide (t.num < nx)) = true) →
        f32_13 w0 K ((i : Nat) : Int) a n c ((n : Nat) : Int) ((i : Nat) : Int) b lo nx sq a n c t.num t.lev t.siz t.lp t.ln t.lc t.mp t.mn t.mc h := fun b h1 h0 => by
      refine f32_13_in _ _ _ _ _ _ _ _ _ _ _ _ _ _ _ _ _ _ _ _ _ _ _ (brB_of (fun e => ?_) fun e => f32_14_in _ _ _ _ _ _ _ _ _ _ _ _ _ _ _ _ _ _ _ _ _ _ ⟨by omega, by omega, ?_⟩)
      · have : mayL nx (ts.take i) (t :: r) = false := by
          simp only [mayL]; rw [h1 e]; rfl
        rw [this] at hk; exact hk
      · rw [Int.toNat_natCast]
        refine f32_15_ok s hget (fun q => ?_) (fun q => ?_) _ 0 rfl (by omega) rfl
        · have : mayL nx (ts.take i) (t :: r) = false := by
            simp only [mayL]; rw [h0 e]; simp only [Bool.true_and]; rw [q]; rfl
          rw [this] at hk; exact hk
        · refine ih (i + 1) hd' (by omega) ?_
          have : mayL nx (ts.take i) (t :: r) = mayL nx (ts.take (i + 1)) r := by
            rw [htake]; simp only [mayL]; rw [h0 e]; simp only [Bool.true_and]; rw [q]; rfl
          rw [← this]; exact hk
    refine f32_10_in _ _ _ _ _ _ _ _ _ _ _ _ (brB_of (fun _ => tabLoad s.rs.rd s.len hget ?_) fun q => by simp at q; omega)
    refine f54_spec (t := t) (s.ok t (List.mem_of_getElem? hget)) ⟨_, rfl, brB_of (fun q => step _ (fun _ => ?_) (fun e => by cases e)) fun q => step _ (fun q2 => ?_) fun q2 => ?_⟩
    · have : mayT t = false := by simpa using q
      rw [this]; rfl
    · have : ¬ t.num < nx := by simp at q2; omega
      simp [this]
    · have h1 : mayT t = true := by simpa using q
      have : t.num < nx := by simp at q2; omega
      simp [this, h1]

theorem f32_2_ok (s : TS w0 h a n c ts) (hk : K (.bool (mayV lo nx sq ts)) h) :
    ∀ k i : Nat, i + k = 3 → (0 < i → in62 lo = true) → (1 < i → in62 nx = true) → (2 < i → in62 sq = true) → f32_2 w0 K lo nx sq ((i : Nat) : Int) lo nx sq a n c h := by
  intro k
  induction k with
  | zero =>
    intro i hi g0 g1 g2
    have hts := s.len
    refine f32_2_in _ _ _ _ _ _ _ _ _ _ _ (brB_of (fun q => by simp at q; omega) fun _ => brB_of (fun q => ?_) fun q => f32_10_ok s _ 0 rfl (by omega) ?_)
    · have : ¬ ts.length ≤ 200 := by simp at q; omega
      have : mayV lo nx sq ts = false := by simp [mayV, this]
      rw [this] at hk; exact hk
    · have : ts.length ≤ 200 := by simp at q; omega
      have : mayV lo nx sq ts = mayL nx (ts.take 0) (ts.drop 0) := by simp [mayV, this, g0 (by omega), g1 (by omega), g2 (by omega)]
      rw [← this]; exact hk
  | succ k ih =>
    intro i hi g0 g1 g2
    have step : ∀ v : Int, (in62 v = false → mayV lo nx sq ts = false) → (in62 v = true → f32_2 w0 K lo nx sq ((i + 1 : Nat) : Int) lo nx sq a n c h) →
        brB (decide (v < (0 : Int))) (f32_5 w0 K lo nx sq ((i : Nat) : Int) true lo nx sq a n c h) (f32_5 w0 K lo nx sq ((i : Nat) : Int) (decide ((4611686018427387904 : Int) < v)) lo nx sq a n c h) := fun v h0 h1 => by
      have fin : ∀ q : Bool, (q = true → in62 v = false) → (q = false → in62 v = true) → f32_5 w0 K lo nx sq ((i : Nat) : Int) q lo nx sq a n c h := fun q e1 e0 => by
        refine f32_5_in _ _ _ _ _ _ _ _ _ _ _ _ (brB_of (fun e => ?_) fun e => ?_)
        · rw [h0 (e1 e)] at hk; exact hk
        · rw [wrapS (by omega)]; exact h1 (e0 e)
      refine brB_of (fun q => fin _ (fun _ => ?_) (fun e => by cases e)) fun q => fin _ (fun q2 => ?_) fun q2 => ?_
      all_goals simp only [decide_eq_true_eq, decide_eq_false_iff_not] at *
      · have : ¬ 0 ≤ v := by omega
        simp [in62, this]
      · have : ¬ v ≤ 4611686018427387904 := by omega
        simp [in62, this]
      · simp [in62]; omega
    refine f32_2_in _ _ _ _ _ _ _ _ _ _ _ (brB_of (fun _ => elem3 (fun e => step _ (fun q => ?_) fun q => ?_) (fun e => step _ (fun q => ?_) fun q => ?_) (fun e => step _ (fun q => ?_) fun q => ?_) (by omega)) fun q => by simp at q; omega)
    · simp [mayV, q]
    · exact ih (i + 1) (by omega) (fun _ => q) (fun z => by omega) fun z => by omega
    · simp [mayV, q]
    · exact ih (i + 1) (by omega) (fun _ => g0 (by omega)) (fun _ => q) fun z => by omega
    · simp [mayV, q]
    · exact ih (i + 1) (by omega) (fun _ => g0 (by omega)) (fun _ => g1 (by omega)) fun _ => q

/-- ref May. -/
theorem f32_spec (s : TS w0 h a n c ts) (hk : K (.bool (mayV lo nx sq ts)) h) : EvC Go.Proofs.Try.prog w0 32 #[.agg #[.int .i64 lo, .int .i64 nx, .int .i64 sq, .slice a n c]] K h :=
  f32_go _ _ _ _ _ _ _ (f32_2_ok s hk 3 0 rfl (fun e => by omega) (fun e => by omega) fun e => by omega)
end
end Go.G.Ytpnhlgghpciofaa
