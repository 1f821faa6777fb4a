/- SchemaKeys. -/
import Derived.Test.YtilifcggegabfaaDoorCB
import Derived.Test.YtilifcggegabfaaDoorProg
set_option maxRecDepth 100000
namespace Go.G.YtilifcggegabfaaDoor
open Go.RowKit
def f3_J : Nat → List Nat × Nat := jOf [(2, [0, 2, 3, 4, 5, 6, 7, 8, 9, 10, 11, 12, 13, 14, 15, 17, 18, 19, 20, 21, 22, 23, 24, 25, 26, 27, 28, 29, 30, 31, 32, 33, 34, 35, 36, 37, 38, 39, 40, 41, 42, 43, 44, 45, 46, 47, 48, 49, 50, 51, 52, 53, 54, 55, 56, 57, 58, 59, 60, 61, 62, 63, 64, 65, 66, 67, 68, 69, 70, 71, 72, 73, 74, 75, 76, 77, 78, 79, 80, 81, 82, 83, 84, 85, 86, 87, 88, 89, 90, 91, 92, 93, 94, 95, 96, 97, 98, 99, 100, 101, 102, 103, 104, 105, 106, 107, 108, 109, 110, 111, 112, 113, 114, 115, 116, 117, 118, 119, 120, 121], 1), (3, [0, 2, 3, 4, 5, 6, 7, 8, 9, 10, 11, 12, 13, 14, 15, 16, 17, 18, 19, 20, 21, 22, 23, 24, 25, 26, 27, 28, 29, 30, 31, 32, 33, 34, 35, 36, 37, 38, 39, 40, 41, 42, 43, 44, 45, 46, 47, 48, 49, 50, 51, 52, 53, 54, 55, 56, 57, 58, 59, 60, 61, 62, 63, 64, 65, 66, 67, 68, 69, 70, 71, 72, 73, 74, 75, 76, 77, 78, 79, 80, 81, 82, 83, 84, 85, 86, 87, 88, 89, 90, 91, 92, 93, 94, 95, 96, 97, 98, 99, 100, 101, 102, 103, 104, 105, 106, 107, 108, 109, 110, 111, 112, 113, 114, 115, 116, 117, 118, 119, 120, 121], 1), (7, [0, 2, 5, 6, 7, 8, 9, 10, 11, 12, 13, 14, 15, 16, 17, 18, 19, 20, 21, 22, 23, 24, 25, 26, 27, 28, 29, 30, 31, 32, 33, 34, 35, 36, 37, 38, 39, 40, 41, 42, 43, 44, 45, 46, 47, 48, 49, 50, 51, 52, 53, 54, 55, 56, 57, 58, 59, 60, 61, 62, 63, 64, 65, 66, 67, 68, 69, 70, 71, 72, 73, 74, 75, 76, 77, 78, 79, 80, 81, 82, 83, 84, 85, 86, 87, 88, 89, 90, 91, 92, 93, 94, 95, 96, 97, 98, 99, 100, 101, 102, 103, 104, 105, 106, 107, 108, 109, 110, 111, 112, 113, 114, 115, 116, 117, 118, 119, 120, 121], 1), (8, [0, 1, 2, 5, 6, 7, 8, 9, 10, 11, 12, 13, 14, 15, 16, 17, 18, 19, 20, 21, 22, 23, 24, 25, 26, 27, 28, 32, 33, 34, 35, 36, 37, 38, 39, 40, 41, 42, 43, 44, 45, 46, 47, 48, 49, 50, 51, 52, 53, 54, 55, 56, 57, 58, 59, 60, 61, 62, 63, 64, 65, 66, 67, 68, 69, 70, 71, 72, 73, 74, 75, 76, 77, 78, 79, 80, 81, 82, 83, 84, 85, 86, 87, 88, 89, 90, 91, 92, 93, 94, 95, 96, 97, 98, 99, 100, 101, 102, 103, 104, 105, 106, 107, 108, 109, 110, 111, 112, 113, 114, 115, 116, 117, 118, 119, 120, 121], 0), (15, [0, 1, 2, 4, 5, 6, 7, 8, 9, 10, 11, 12, 13, 14, 15, 16, 17, 18, 19, 20, 21, 22, 23, 24, 25, 26, 27, 28, 29, 30, 31, 32, 33, 34, 35, 36, 37, 38, 39, 40, 41, 42, 43, 44, 45, 46, 47, 48, 49, 50, 51, 52, 53, 54, 55, 56, 57, 61, 62, 63, 64, 65, 66, 67, 68, 69, 70, 71, 72, 73, 74, 75, 76, 77, 78, 79, 80, 81, 82, 83, 84, 85, 86, 87, 88, 89, 90, 91, 92, 93, 94, 95, 96, 97, 98, 99, 100, 101, 102, 103, 104, 105, 106, 107, 108, 109, 110, 111, 112, 113, 114, 115, 116, 117, 118, 119, 120, 121], 0), (18, [0, 1, 2, 4, 5, 6, 7, 8, 9, 10, 11, 12, 13, 14, 15, 16, 17, 18, 19, 20, 21, 22, 23, 24, 25, 26, 27, 28, 29, 30, 31, 32, 33, 34, 35, 36, 37, 38, 39, 40, 41, 42, 43, 44, 45, 46, 47, 48, 49, 50, 51, 52, 53, 54, 55, 56, 57, 61, 62, 63, 64, 65, 66, 67, 68, 69, 70, 71, 72, 73, 74, 75, 76, 77, 78, 79, 80, 81, 82, 83, 84, 85, 86, 87, 88, 89, 90, 91, 92, 93, 94, 95, 96, 97, 98, 99, 100, 101, 102, 103, 104, 105, 106, 107, 108, 109, 110, 111, 112, 113, 114, 115, 116, 117, 118, 120, 121], 0)]

def f3_2 (w0 : World) (K : Value → AH → Prop) (x16 : Bool) (xb0_0 : Int) (ab0_1 : Option Go.Addr) (nb0_1 : Nat) (cb0_1 : Nat) (ab0_2 : Option Go.Addr) (nb0_2 : Nat) (cb0_2 : Nat) (h : AH) : Prop :=
  ∀ j : Nat → Value, LPk Go.Proofs.Tryd.prog w0 (EvC Go.Proofs.Tryd.prog w0) f3_J 3 K 2 [.v (j 0), .bp 0 0, .v (j 2), .v (j 3), .v (j 4), .v (j 5), .v (j 6), .v (j 7), .v (j 8), .v (j 9), .v (j 10), .v (j 11), .v (j 12), .v (j 13), .v (j 14), .v (j 15), .v (.bool x16), .v (j 17), .v (j 18), .v (j 19), .v (j 20), .v (j 21), .v (j 22), .v (j 23), .v (j 24), .v (j 25), .v (j 26), .v (j 27), .v (j 28), .v (j 29), .v (j 30), .v (j 31), .v (j 32), .v (j 33), .v (j 34), .v (j 35), .v (j 36), .v (j 37), .v (j 38), .v (j 39), .v (j 40), .v (j 41), .v (j 42), .v (j 43), .v (j 44), .v (j 45), .v (j 46), .v (j 47), .v (j 48), .v (j 49), .v (j 50), .v (j 51), .v (j 52), .v (j 53), .v (j 54), .v (j 55), .v (j 56), .v (j 57), .v (j 58), .v (j 59), .v (j 60), .v (j 61), .v (j 62), .v (j 63), .v (j 64), .v (j 65), .v (j 66), .v (j 67), .v (j 68), .v (j 69), .v (j 70), .v (j 71), .v (j 72), .v (j 73), .v (j 74), .v (j 75), .v (j 76), .v (j 77), .v (j 78), .v (j 79), .v (j 80), .v (j 81), .v (j 82), .v (j 83), .v (j 84), .v (j 85), .v (j 86), .v (j 87), .v (j 88), .v (j 89), .v (j 90), .v (j 91), .v (j 92), .v (j 93), .v (j 94), .v (j 95), .v (j 96), .v (j 97), .v (j 98), .v (j 99), .v (j 100), .v (j 101), .v (j 102), .v (j 103), .v (j 104), .v (j 105), .v (j 106), .v (j 107), .v (j 108), .v (j 109), .v (j 110), .v (j 111), .v (j 112), .v (j 113), .v (j 114), .v (j 115), .v (j 116), .v (j 117), .v (j 118), .v (j 119), .v (j 120), .v (j 121)] [some [(.int .i64 xb0_0), (.slice ab0_1 nb0_1 cb0_1), (.slice ab0_2 nb0_2 cb0_2)]] h

def f3_3 (w0 : World) (K : Value → AH → Prop) (xb0_0 : Int) (ab0_1 : Option Go.Addr) (nb0_1 : Nat) (cb0_1 : Nat) (ab0_2 : Option Go.Addr) (nb0_2 : Nat) (cb0_2 : Nat) (h : AH) : Prop :=
  ∀ j : Nat → Value, LPk Go.Proofs.Tryd.prog w0 (EvC Go.Proofs.Tryd.prog w0) f3_J 3 K 3 [.v (j 0), .bp 0 0, .v (j 2), .v (j 3), .v (j 4), .v (j 5), .v (j 6), .v (j 7), .v (j 8), .v (j 9), .v (j 10), .v (j 11), .v (j 12), .v (j 13), .v (j 14), .v (j 15), .v (j 16), .v (j 17), .v (j 18), .v (j 19), .v (j 20), .v (j 21), .v (j 22), .v (j 23), .v (j 24), .v (j 25), .v (j 26), .v (j 27), .v (j 28), .v (j 29), .v (j 30), .v (j 31), .v (j 32), .v (j 33), .v (j 34), .v (j 35), .v (j 36), .v (j 37), .v (j 38), .v (j 39), .v (j 40), .v (j 41), .v (j 42), .v (j 43), .v (j 44), .v (j 45), .v (j 46), .v (j 47), .v (j 48), .v (j 49), .v (j 50), .v (j 51), .v (j 52), .v (j 53), .v (j 54), .v (j 55), .v (j 56), .v (j 57), .v (j 58), .v (j 59), .v (j 60), .v (j 61), .v (j 62), .v (j 63), .v (j 64), .v (j 65), .v (j 66), .v (j 67), .v (j 68), .v (j 69), .v (j 70), .v (j 71), .v (j 72), .v (j 73), .v (j 74), .v (j 75), .v (j 76), .v (j 77), .v (j 78), .v (j 79), .v (j 80), .v (j 81), .v (j 82), .v (j 83), .v (j 84), .v (j 85), .v (j 86), .v (j 87), .v (j 88), .v (j 89), .v (j 90), .v (j 91), .v (j 92), .v (j 93), .v (j 94), .v (j 95), .v (j 96), .v (j 97), .v (j 98), .v (j 99), .v (j 100), .v (j 101), .v (j 102), .v (j 103), .v (j 104), .v (j 105), .v (j 106), .v (j 107), .v (j 108), .v (j 109), .v (j 110), .v (j 111), .v (j 112), .v (j 113), .v (j 114), .v (j 115), .v (j 116), .v (j 117), .v (j 118), .v (j 119), .v (j 120), .v (j 121)] [some [(.int .i64 xb0_0), (.slice ab0_1 nb0_1 cb0_1), (.slice ab0_2 nb0_2 cb0_2)]] h

def f3_7 (w0 : World) (K : Value → AH → Prop) (a3 : Option Go.Addr) (n3 : Nat) (c3 : Nat) (x4 : Int) (xb0_0 : Int) (ab0_1 : Option Go.Addr) (nb0_1 : Nat) (cb0_1 : Nat) (ab0_2 : Option Go.Addr) (nb0_2 : Nat) (cb0_2 : Nat) (h : AH) : Prop :=
  ∀ j : Nat → Value, LPk Go.Proofs.Tryd.prog w0 (EvC Go.Proofs.Tryd.prog w0) f3_J 3 K 7 [.v (j 0), .bp 0 0, .v (j 2), .v (.slice a3 n3 c3), .v (.int .i64 x4), .v (j 5), .v (j 6), .v (j 7), .v (j 8), .v (j 9), .v (j 10), .v (j 11), .v (j 12), .v (j 13), .v (j 14), .v (j 15), .v (j 16), .v (j 17), .v (j 18), .v (j 19), .v (j 20), .v (j 21), .v (j 22), .v (j 23), .v (j 24), .v (j 25), .v (j 26), .v (j 27), .v (j 28), .v (j 29), .v (j 30), .v (j 31), .v (j 32), .v (j 33), .v (j 34), .v (j 35), .v (j 36), .v (j 37), .v (j 38), .v (j 39), .v (j 40), .v (j 41), .v (j 42), .v (j 43), .v (j 44), .v (j 45), .v (j 46), .v (j 47), .v (j 48), .v (j 49), .v (j 50), .v (j 51), .v (j 52), .v (j 53), .v (j 54), .v (j 55), .v (j 56), .v (j 57), .v (j 58), .v (j 59), .v (j 60), .v (j 61), .v (j 62), .v (j 63), .v (j 64), .v (j 65), .v (j 66), .v (j 67), .v (j 68), .v (j 69), .v (j 70), .v (j 71), .v (j 72), .v (j 73), .v (j 74), .v (j 75), .v (j 76), .v (j 77), .v (j 78), .v (j 79), .v (j 80), .v (j 81), .v (j 82), .v (j 83), .v (j 84), .v (j 85), .v (j 86), .v (j 87), .v (j 88), .v (j 89), .v (j 90), .v (j 91), .v (j 92), .v (j 93), .v (j 94), .v (j 95), .v (j 96), .v (j 97), .v (j 98), .v (j 99), .v (j 100), .v (j 101), .v (j 102), .v (j 103), .v (j 104), .v (j 105), .v (j 106), .v (j 107), .v (j 108), .v (j 109), .v (j 110), .v (j 111), .v (j 112), .v (j 113), .v (j 114), .v (j 115), .v (j 116), .v (j 117), .v (j 118), .v (j 119), .v (j 120), .v (j 121)] [some [(.int .i64 xb0_0), (.slice ab0_1 nb0_1 cb0_1), (.slice ab0_2 nb0_2 cb0_2)]] h

def f3_8 (w0 : World) (K : Value → AH → Prop) (a3 : Option Go.Addr) (n3 : Nat) (c3 : Nat) (x4 : Int) (a29 : Option Go.Addr) (n29 : Nat) (c29 : Nat) (x30 : Int) (x31 : Int) (h : AH) : Prop :=
  ∀ j : Nat → Value, LPk Go.Proofs.Tryd.prog w0 (EvC Go.Proofs.Tryd.prog w0) f3_J 3 K 8 [.v (j 0), .v (j 1), .v (j 2), .v (.slice a3 n3 c3), .v (.int .i64 x4), .v (j 5), .v (j 6), .v (j 7), .v (j 8), .v (j 9), .v (j 10), .v (j 11), .v (j 12), .v (j 13), .v (j 14), .v (j 15), .v (j 16), .v (j 17), .v (j 18), .v (j 19), .v (j 20), .v (j 21), .v (j 22), .v (j 23), .v (j 24), .v (j 25), .v (j 26), .v (j 27), .v (j 28), .v (.slice a29 n29 c29), .v (.int .i64 x30), .v (.int .i64 x31), .v (j 32), .v (j 33), .v (j 34), .v (j 35), .v (j 36), .v (j 37), .v (j 38), .v (j 39), .v (j 40), .v (j 41), .v (j 42), .v (j 43), .v (j 44), .v (j 45), .v (j 46), .v (j 47), .v (j 48), .v (j 49), .v (j 50), .v (j 51), .v (j 52), .v (j 53), .v (j 54), .v (j 55), .v (j 56), .v (j 57), .v (j 58), .v (j 59), .v (j 60), .v (j 61), .v (j 62), .v (j 63), .v (j 64), .v (j 65), .v (j 66), .v (j 67), .v (j 68), .v (j 69), .v (j 70), .v (j 71), .v (j 72), .v (j 73), .v (j 74), .v (j 75), .v (j 76), .v (j 77), .v (j 78), .v (j 79), .v (j 80), .v (j 81), .v (j 82), .v (j 83), .v (j 84), .v (j 85), .v (j 86), .v (j 87), .v (j 88), .v (j 89), .v (j 90), .v (j 91), .v (j 92), .v (j 93), .v (j 94), .v (j 95), .v (j 96), .v (j 97), .v (j 98), .v (j 99), .v (j 100), .v (j 101), .v (j 102), .v (j 103), .v (j 104), .v (j 105), .v (j 106), .v (j 107), .v (j 108), .v (j 109), .v (j 110), .v (j 111), .v (j 112), .v (j 113), .v (j 114), .v (j 115), .v (j 116), .v (j 117), .v (j 118), .v (j 119), .v (j 120), .v (j 121)] [] h

def f3_15 (w0 : World) (K : Value → AH → Prop) (a3 : Option Go.Addr) (n3 : Nat) (c3 : Nat) (a58 : Option Go.Addr) (n58 : Nat) (c58 : Nat) (x59 : Int) (x60 : Int) (h : AH) : Prop :=
  ∀ j : Nat → Value, LPk Go.Proofs.Tryd.prog w0 (EvC Go.Proofs.Tryd.prog w0) f3_J 3 K 15 [.v (j 0), .v (j 1), .v (j 2), .v (.slice a3 n3 c3), .v (j 4), .v (j 5), .v (j 6), .v (j 7), .v (j 8), .v (j 9), .v (j 10), .v (j 11), .v (j 12), .v (j 13), .v (j 14), .v (j 15), .v (j 16), .v (j 17), .v (j 18), .v (j 19), .v (j 20), .v (j 21), .v (j 22), .v (j 23), .v (j 24), .v (j 25), .v (j 26), .v (j 27), .v (j 28), .v (j 29), .v (j 30), .v (j 31), .v (j 32), .v (j 33), .v (j 34), .v (j 35), .v (j 36), .v (j 37), .v (j 38), .v (j 39), .v (j 40), .v (j 41), .v (j 42), .v (j 43), .v (j 44), .v (j 45), .v (j 46), .v (j 47), .v (j 48), .v (j 49), .v (j 50), .v (j 51), .v (j 52), .v (j 53), .v (j 54), .v (j 55), .v (j 56), .v (j 57), .v (.slice a58 n58 c58), .v (.int .i64 x59), .v (.int .i64 x60), .v (j 61), .v (j 62), .v (j 63), .v (j 64), .v (j 65), .v (j 66), .v (j 67), .v (j 68), .v (j 69), .v (j 70), .v (j 71), .v (j 72), .v (j 73), .v (j 74), .v (j 75), .v (j 76), .v (j 77), .v (j 78), .v (j 79), .v (j 80), .v (j 81), .v (j 82), .v (j 83), .v (j 84), .v (j 85), .v (j 86), .v (j 87), .v (j 88), .v (j 89), .v (j 90), .v (j 91), .v (j 92), .v (j 93), .v (j 94), .v (j 95), .v (j 96), .v (j 97), .v (j 98), .v (j 99), .v (j 100), .v (j 101), .v (j 102), .v (j 103), .v (j 104), .v (j 105), .v (j 106), .v (j 107), .v (j 108), .v (j 109), .v (j 110), .v (j 111), .v (j 112), .v (j 113), .v (j 114), .v (j 115), .v (j 116), .v (j 117), .v (j 118), .v (j 119), .v (j 120), .v (j 121)] [] h

def f3_18 (w0 : World) (K : Value → AH → Prop) (a3 : Option Go.Addr) (n3 : Nat) (c3 : Nat) (a58 : Option Go.Addr) (n58 : Nat) (c58 : Nat) (x59 : Int) (x60 : Int) (x119 : Bool) (h : AH) : Prop :=
  ∀ j : Nat → Value, LPk Go.Proofs.Tryd.prog w0 (EvC Go.Proofs.Tryd.prog w0) f3_J 3 K 18 [.v (j 0), .v (j 1), .v (j 2), .v (.slice a3 n3 c3), .v (j 4), .v (j 5), .v (j 6), .v (j 7), .v (j 8), .v (j 9), .v (j 10), .v (j 11), .v (j 12), .v (j 13), .v (j 14), .v (j 15), .v (j 16), .v (j 17), .v (j 18), .v (j 19), .v (j 20), .v (j 21), .v (j 22), .v (j 23), .v (j 24), .v (j 25), .v (j 26), .v (j 27), .v (j 28), .v (j 29), .v (j 30), .v (j 31), .v (j 32), .v (j 33), .v (j 34), .v (j 35), .v (j 36), .v (j 37), .v (j 38), .v (j 39), .v (j 40), .v (j 41), .v (j 42), .v (j 43), .v (j 44), .v (j 45), .v (j 46), .v (j 47), .v (j 48), .v (j 49), .v (j 50), .v (j 51), .v (j 52), .v (j 53), .v (j 54), .v (j 55), .v (j 56), .v (j 57), .v (.slice a58 n58 c58), .v (.int .i64 x59), .v (.int .i64 x60), .v (j 61), .v (j 62), .v (j 63), .v (j 64), .v (j 65), .v (j 66), .v (j 67), .v (j 68), .v (j 69), .v (j 70), .v (j 71), .v (j 72), .v (j 73), .v (j 74), .v (j 75), .v (j 76), .v (j 77), .v (j 78), .v (j 79), .v (j 80), .v (j 81), .v (j 82), .v (j 83), .v (j 84), .v (j 85), .v (j 86), .v (j 87), .v (j 88), .v (j 89), .v (j 90), .v (j 91), .v (j 92), .v (j 93), .v (j 94), .v (j 95), .v (j 96), .v (j 97), .v (j 98), .v (j 99), .v (j 100), .v (j 101), .v (j 102), .v (j 103), .v (j 104), .v (j 105), .v (j 106), .v (j 107), .v (j 108), .v (j 109), .v (j 110), .v (j 111), .v (j 112), .v (j 113), .v (j 114), .v (j 115), .v (j 116), .v (j 117), .v (j 118), .v (.bool x119), .v (j 120), .v (j 121)] [] h

theorem f3_2_in {w0 : World} {K : Value → AH → Prop} (x16 : Bool) (xb0_0 : Int) (ab0_1 : Option Go.Addr) (nb0_1 : Nat) (cb0_1 : Nat) (ab0_2 : Option Go.Addr) (nb0_2 : Nat) (cb0_2 : Nat) (h : AH)
  (hv : (brB x16 (EvC Go.Proofs.Tryd.prog w0 12 #[] (fun x'6 h'7 => (∃ t'8 : Bool, ((x'6 = (Go.Value.bool t'8)) ∧ (K (Go.Value.bool t'8) h'7)))) h) (f3_3 w0 K xb0_0 ab0_1 nb0_1 cb0_1 ab0_2 nb0_2 cb0_2 h))) :
  f3_2 w0 K x16 xb0_0 ab0_1 nb0_1 cb0_1 ab0_2 nb0_2 cb0_2 h := fun j => LP_intro (P := Go.Proofs.Tryd.prog) (Eq.mp (by kernel_rfl) hv)

theorem f3_3_in {w0 : World} {K : Value → AH → Prop} (xb0_0 : Int) (ab0_1 : Option Go.Addr) (nb0_1 : Nat) (cb0_1 : Nat) (ab0_2 : Option Go.Addr) (nb0_2 : Nat) (cb0_2 : Nat) (h : AH)
  (hv : (EvC Go.Proofs.Tryd.prog w0 13 #[(Go.Value.agg #[(Go.Value.int .i64 xb0_0), (Go.Value.slice ab0_1 nb0_1 cb0_1), (Go.Value.slice ab0_2 nb0_2 cb0_2)])] (fun x'9 h'10 => (∃ p'11 : Option Go.Addr, (∃ n'12 : Nat, (∃ n'13 : Nat, ((x'9 = (Go.Value.slice p'11 n'12 n'13)) ∧ (brB (decide (((0 : Int) < xb0_0))) (f3_7 w0 K p'11 n'12 n'13 (Go.IntKind.wrap .i64 (((nb0_1 : Nat) : Int) + (1 : Int))) xb0_0 ab0_1 nb0_1 cb0_1 ab0_2 nb0_2 cb0_2 h'10) (f3_7 w0 K p'11 n'12 n'13 ((nb0_1 : Nat) : Int) xb0_0 ab0_1 nb0_1 cb0_1 ab0_2 nb0_2 cb0_2 h'10))))))) h)) :
  f3_3 w0 K xb0_0 ab0_1 nb0_1 cb0_1 ab0_2 nb0_2 cb0_2 h := fun j => LP_intro (P := Go.Proofs.Tryd.prog) (Eq.mp (by kernel_rfl) hv)

theorem f3_7_in {w0 : World} {K : Value → AH → Prop} (a3 : Option Go.Addr) (n3 : Nat) (c3 : Nat) (x4 : Int) (xb0_0 : Int) (ab0_1 : Option Go.Addr) (nb0_1 : Nat) (cb0_1 : Nat) (ab0_2 : Option Go.Addr) (nb0_2 : Nat) (cb0_2 : Nat) (h : AH)
  (hv : (f3_8 w0 K a3 n3 c3 x4 ab0_2 nb0_2 cb0_2 ((nb0_2 : Nat) : Int) (0 : Int) h)) :
  f3_7 w0 K a3 n3 c3 x4 xb0_0 ab0_1 nb0_1 cb0_1 ab0_2 nb0_2 cb0_2 h := fun j => LP_intro (P := Go.Proofs.Tryd.prog) (Eq.mp (by kernel_rfl) hv)

theorem f3_8_in {w0 : World} {K : Value → AH → Prop} (a3 : Option Go.Addr) (n3 : Nat) (c3 : Nat) (x4 : Int) (a29 : Option Go.Addr) (n29 : Nat) (c29 : Nat) (x30 : Int) (x31 : Int) (h : AH)
  (hv : (brB (decide ((x31 < x30))) (∃ a'14 : Go.Addr, ((a29 = (some a'14)) ∧ (((0 : Int) ≤ x31) ∧ ((x31 < ((n29 : Nat) : Int)) ∧ (∃ s'15 : ByteArray, (∃ p'16 : Option Go.Addr, (∃ n'17 : Nat, (∃ n'18 : Nat, (∃ p'19 : Option Go.Addr, (∃ n'20 : Nat, (∃ n'21 : Nat, (∃ p'22 : Option Go.Addr, (∃ n'23 : Nat, (∃ n'24 : Nat, (∃ p'25 : Option Go.Addr, (∃ n'26 : Nat, (∃ n'27 : Nat, (∃ i'28 : Int, (∃ i'29 : Int, (∃ i'30 : Int, ((((Array.size #[(Go.Value.string s'15), (Go.Value.slice p'16 n'17 n'18), (Go.Value.slice p'19 n'20 n'21), (Go.Value.slice p'22 n'23 n'24), (Go.Value.slice p'25 n'26 n'27), (Go.Value.int .i64 i'28), (Go.Value.int .i64 i'29), (Go.Value.int .i64 i'30)]) = 8) ∧ (At w0 h (Go.Addr.add a'14 ((Int.toNat x31) * 8)) [(Go.Value.string s'15), (Go.Value.slice p'16 n'17 n'18), (Go.Value.slice p'19 n'20 n'21), (Go.Value.slice p'22 n'23 n'24), (Go.Value.slice p'25 n'26 n'27), (Go.Value.int .i64 i'28), (Go.Value.int .i64 i'29), (Go.Value.int .i64 i'30)])) ∧ (f3_8 w0 K a3 n3 c3 (Go.IntKind.wrap .i64 (x4 + (Go.IntKind.wrap .i64 ((Go.IntKind.wrap .i64 ((Go.IntKind.wrap .i64 ((Go.IntKind.wrap .i64 ((1 : Int) + ((n'17 : Nat) : Int))) + ((n'20 : Nat) : Int))) + ((n'23 : Nat) : Int))) + ((n'26 : Nat) : Int))))) a29 n29 c29 x30 (Go.IntKind.wrap .i64 (x31 + (1 : Int))) h)))))))))))))))))))))) (brB (((n3 : Nat) : Int) != x4) (K (Go.Value.bool false) h) (f3_15 w0 K a3 n3 c3 a3 n3 c3 ((n3 : Nat) : Int) (0 : Int) h)))) :
  f3_8 w0 K a3 n3 c3 x4 a29 n29 c29 x30 x31 h := fun j => LP_intro (P := Go.Proofs.Tryd.prog) (Eq.mp (by kernel_rfl) hv)

theorem f3_15_in {w0 : World} {K : Value → AH → Prop} (a3 : Option Go.Addr) (n3 : Nat) (c3 : Nat) (a58 : Option Go.Addr) (n58 : Nat) (c58 : Nat) (x59 : Int) (x60 : Int) (h : AH)
  (hv : (brB (decide ((x60 < x59))) (∃ a'31 : Go.Addr, ((a58 = (some a'31)) ∧ (((0 : Int) ≤ x60) ∧ ((x60 < ((n58 : Nat) : Int)) ∧ (∃ p'32 : Option Go.Addr, (∃ n'33 : Nat, (∃ n'34 : Nat, (∃ i'35 : Int, (∃ t'36 : Bool, (∃ i'37 : Int, (∃ p'38 : Option Go.Addr, (∃ n'39 : Nat, (∃ n'40 : Nat, ((((Array.size #[(Go.Value.slice p'32 n'33 n'34), (Go.Value.int .i64 i'35), (Go.Value.bool t'36), (Go.Value.int .i64 i'37), (Go.Value.slice p'38 n'39 n'40)]) = 5) ∧ (At w0 h (Go.Addr.add a'31 ((Int.toNat x60) * 5)) [(Go.Value.slice p'32 n'33 n'34), (Go.Value.int .i64 i'35), (Go.Value.bool t'36), (Go.Value.int .i64 i'37), (Go.Value.slice p'38 n'39 n'40)])) ∧ (brB (((n'33 : Nat) : Int) == (0 : Int)) (f3_18 w0 K a3 n3 c3 a58 n58 c58 x59 x60 true h) (∃ a'41 : Go.Addr, ((p'32 = (some a'41)) ∧ (((0 : Int) ≤ (0 : Int)) ∧ (((0 : Int) < ((n'33 : Nat) : Int)) ∧ (∃ i'42 : Int, (((Go.G.cellA w0 h (Go.Addr.add a'41 0)) = (some (Go.Value.int .u8 i'42))) ∧ (brB (decide ((i'42 < (1 : Int)))) (f3_18 w0 K a3 n3 c3 a58 n58 c58 x59 x60 true h) (∃ a'43 : Go.Addr, ((p'32 = (some a'43)) ∧ (((0 : Int) ≤ (0 : Int)) ∧ (((0 : Int) < ((n'33 : Nat) : Int)) ∧ (∃ i'44 : Int, (((Go.G.cellA w0 h (Go.Addr.add a'43 0)) = (some (Go.Value.int .u8 i'44))) ∧ (brB (decide (((7 : Int) < i'44))) (f3_18 w0 K a3 n3 c3 a58 n58 c58 x59 x60 true h) (brB (decide (((512 : Int) < ((n'33 : Nat) : Int)))) (f3_18 w0 K a3 n3 c3 a58 n58 c58 x59 x60 true h) (brB (decide (((2048 : Int) < ((n'39 : Nat) : Int)))) (f3_18 w0 K a3 n3 c3 a58 n58 c58 x59 x60 true h) (brB t'36 (f3_18 w0 K a3 n3 c3 a58 n58 c58 x59 x60 true h) (brB (i'35 != (0 : Int)) (f3_18 w0 K a3 n3 c3 a58 n58 c58 x59 x60 true h) (brB (decide (((0 : Int) < x60))) (∃ a'45 : Go.Addr, ((a3 = (some a'45)) ∧ (((0 : Int) ≤ (Go.IntKind.wrap .i64 (x60 - (1 : Int)))) ∧ (((Go.IntKind.wrap .i64 (x60 - (1 : Int))) < ((n3 : Nat) : Int)) ∧ (∃ p'46 : Option Go.Addr, (∃ n'47 : Nat, (∃ n'48 : Nat, (((Go.G.cellA w0 h (Go.Addr.add (Go.Addr.add a'45 ((Int.toNat (Go.IntKind.wrap .i64 (x60 - (1 : Int)))) * 5)) 0)) = (some (Go.Value.slice p'46 n'47 n'48))) ∧ (EvC Go.Proofs.Tryd.prog w0 14 #[(Go.Value.slice p'46 n'47 n'48), (Go.Value.slice p'32 n'33 n'34)] (fun x'49 h'50 => (∃ i'51 : Int, ((x'49 = (Go.Value.int .i64 i'51)) ∧ (f3_18 w0 K a3 n3 c3 a58 n58 c58 x59 x60 (decide (((0 : Int) ≤ i'51))) h'50)))) h))))))))) (f3_18 w0 K a3 n3 c3 a58 n58 c58 x59 x60 false h))))))))))))))))))))))))))))))))))) (EvC Go.Proofs.Tryd.prog w0 12 #[] (fun x'52 h'53 => (∃ t'54 : Bool, ((x'52 = (Go.Value.bool t'54)) ∧ (K (Go.Value.bool t'54) h'53)))) h))) :
  f3_15 w0 K a3 n3 c3 a58 n58 c58 x59 x60 h := fun j => LP_intro (P := Go.Proofs.Tryd.prog) (Eq.mp (by kernel_rfl) hv)

theorem f3_18_in {w0 : World} {K : Value → AH → Prop} (a3 : Option Go.Addr) (n3 : Nat) (c3 : Nat) (a58 : Option Go.Addr) (n58 : Nat) (c58 : Nat) (x59 : Int) (x60 : Int) (x119 : Bool) (h : AH)
  (hv : (brB x119 (K (Go.Value.bool false) h) (f3_15 w0 K a3 n3 c3 a58 n58 c58 x59 (Go.IntKind.wrap .i64 (x60 + (1 : Int))) h))) :
  f3_18 w0 K a3 n3 c3 a58 n58 c58 x59 x60 x119 h := fun j => LP_intro (P := Go.Proofs.Tryd.prog) (Eq.mp (by kernel_rfl) hv)

theorem f3_go {w0 : World} {K : Value → AH → Prop} (x0_0 : Int) (a0_1 : Option Go.Addr) (n0_1 : Nat) (c0_1 : Nat) (a0_2 : Option Go.Addr) (n0_2 : Nat) (c0_2 : Nat) (h : AH)
  (hv : (EvC Go.Proofs.Tryd.prog w0 10 #[(Go.Value.agg #[(Go.Value.int .i64 x0_0), (Go.Value.slice a0_1 n0_1 c0_1), (Go.Value.slice a0_2 n0_2 c0_2)])] (fun x'0 h'1 => (∃ t'2 : Bool, ((x'0 = (Go.Value.bool t'2)) ∧ (brB (!t'2) (f3_2 w0 K true x0_0 a0_1 n0_1 c0_1 a0_2 n0_2 c0_2 h'1) (EvC Go.Proofs.Tryd.prog w0 11 #[(Go.Value.agg #[(Go.Value.int .i64 x0_0), (Go.Value.slice a0_1 n0_1 c0_1), (Go.Value.slice a0_2 n0_2 c0_2)])] (fun x'3 h'4 => (∃ t'5 : Bool, ((x'3 = (Go.Value.bool t'5)) ∧ (f3_2 w0 K (!t'5) x0_0 a0_1 n0_1 c0_1 a0_2 n0_2 c0_2 h'4)))) h'1))))) h)) :
  EvC Go.Proofs.Tryd.prog w0 3 ([(.agg #[(.int .i64 x0_0), (.slice a0_1 n0_1 c0_1), (.slice a0_2 n0_2 c0_2)])]).toArray K h := EvC_intro (P := Go.Proofs.Tryd.prog) f3_J (Eq.mp (by kernel_rfl) hv)
/-! ### SchemaKeys -/
def cntS (x : SesM) : Nat := 1 + x.subs.length + x.queue.length + x.fl.length + x.ids.length
theorem ses_count : ∀ l : List SesM, l.length + ((subsD l).length + ((quesD l).length + ((flsD l).length + (idsD l).length))) = (l.map cntS).sum
  | [] => rfl
  | x :: l => by
    have ih := ses_count l
    simp only [subsD, quesD, flsD, idsD, List.flatMap_cons, List.length_append, List.length_map, queE_len, List.length_cons, List.map_cons, List.sum_cons, cntS] at ih ⊢
    omega
theorem ents_count {s : StM} : (entsD s).length = (if 0 < s.clock then 1 else 0) + s.ret.length + (s.ses.map cntS).sum := by
  have h := ses_count s.ses
  have hc : (clockE s).length = if 0 < s.clock then 1 else 0 := by unfold clockE; split <;> rfl
  simp only [entsD, List.length_append, List.length_map, hc]
  omega
theorem msgL_len {m : MsgM} (h : MayMsg m) : (msgL m).length ≤ 400 := by
  have h1 := name_le h.topic
  have h2 := h.pay
  have p1 := putV_len10 (n := m.topic.size) (by omega)
  have p2 := putV_len10 (n := m.pay.length) (by omega)
  have := slen m.topic
  simp only [msgL, List.length_cons, List.length_append]
  omega
structure EntOk (e : EDat) : Prop where
  head : ∃ k r, e.1 = k :: r ∧ 1 ≤ k.toNat ∧ k.toNat ≤ 7
  len : e.1.length ≤ 512
  val : e.2.2.length ≤ 2048
theorem partE_len (l : List UInt8) : (partE l).length ≤ 2 * l.length + 2 := by
  have := partL_len l
  simp only [partE, List.length_append, List.length_cons, List.length_nil]; omega
theorem ents_ok {s : StM} (hm : MaySt s) : ∀ e ∈ entsD s, EntOk e := by
  intro e he
  unfold entsD at he
  simp only [List.mem_append] at he
  have hcl := hm.clock
  rcases he with he | he | he | he | he | he | he
  · unfold clockE at he
    split at he
    · rw [List.mem_singleton] at he; subst he
      have := putV_len10 (n := s.clock.toNat) (by omega)
      exact ⟨⟨1, [], rfl, by decide, by decide⟩, by simp, by show (putV _).length ≤ _; omega⟩
    · cases he
  · obtain ⟨m, hx, rfl⟩ := List.mem_map.1 he
    have mm := (hm.ret m hx).may
    have := keyL_len 2 m.topic
    have := name_le mm.topic
    have := msgL_len mm
    exact ⟨⟨2, _, rfl, by decide, by decide⟩, by show (keyL _ _).length ≤ _; omega, by show (msgL m).length ≤ _; omega⟩
  · obtain ⟨x, hx, rfl⟩ := List.mem_map.1 he
    have mx := hm.ses x hx
    have := keyL_len 3 x.client
    have := client_le mx.client
    have n1 := mx.next
    have q1 := mx.head
    have r1 := mx.sent
    have l1 := putV_len10 (n := x.next.toNat) (by omega)
    have l2 := putV_len10 (n := x.head.toNat) (by omega)
    have l3 := putV_len10 (n := x.sent.toNat) (by omega)
    exact ⟨⟨3, _, rfl, by decide, by decide⟩, by show (keyL _ _).length ≤ _; omega, by show (putV _ ++ putV _ ++ putV _).length ≤ _; simp only [List.length_append]; omega⟩
  · obtain ⟨x, hx, he⟩ := List.mem_flatMap.1 he
    obtain ⟨m, hy, rfl⟩ := List.mem_map.1 he
    have mx := hm.ses x hx
    have := keyL_len 4 x.client
    have := client_le mx.client
    have := filter_le (mx.subs m hy).filter
    have := partE_len m.filter.data.toList
    have := slen m.filter
    exact ⟨⟨4, _, rfl, by decide, by decide⟩, by show (keyL _ _ ++ partE _).length ≤ _; rw [List.length_append]; omega, by show [UInt8.ofNat _].length ≤ _; simp⟩
  · obtain ⟨x, hx, he⟩ := List.mem_flatMap.1 he
    obtain ⟨k, m, _, _, hy, rfl⟩ := queE_mem he
    have mx := hm.ses x hx
    have := keyL_len 5 x.client
    have := client_le mx.client
    have := msgL_len (mx.queue m hy).may
    have := numL_len (x.head + (k : Nat))
    exact ⟨⟨5, _, rfl, by decide, by decide⟩, by show (keyL _ _ ++ numL _).length ≤ _; rw [List.length_append]; omega, by show (msgL m).length ≤ _; omega⟩
  · obtain ⟨x, hx, he⟩ := List.mem_flatMap.1 he
    obtain ⟨m, hy, rfl⟩ := List.mem_map.1 he
    have mx := hm.ses x hx
    have := keyL_len 6 x.client
    have := client_le mx.client
    have := msgL_len (mx.fl m hy).may
    have i2 := (mx.fl m hy).id2
    have := putV_len10 (n := m.id.toNat) (by omega)
    have := numL_len m.order
    exact ⟨⟨6, _, rfl, by decide, by decide⟩, by show (keyL _ _ ++ numL _).length ≤ _; rw [List.length_append]; omega, by show (putV _ ++ [_] ++ msgL _).length ≤ _; simp only [List.length_append, List.length_cons, List.length_nil]; omega⟩
  · obtain ⟨x, hx, he⟩ := List.mem_flatMap.1 he
    obtain ⟨m, hy, rfl⟩ := List.mem_map.1 he
    have mx := hm.ses x hx
    have := keyL_len 7 x.client
    have := client_le mx.client
    have := numL_len m
    exact ⟨⟨7, _, rfl, by decide, by decide⟩, by show (keyL _ _ ++ numL _).length ≤ _; rw [List.length_append]; omega, by show ([] : List UInt8).length ≤ _; simp⟩
section
variable {w0 : World} {K : Value → AH → Prop} {h : AH} {B : List (Nat × AB)}
theorem f3_15s {s : StM} {C : List (Nat × AB)} {a : Option Addr} {c : Nat} {es : List EntM} (T : TabOk w0) (hm : MaySt s) (o : Out (entsD s) a c es) (r : EntsRd w0 C a c es) (hk : ∀ h, K (.bool true) h) :
    ∀ (n i : Nat), i + n = es.length → ∀ h, Own w0 h C → f3_15 w0 K a es.length c a es.length c ((es.length : Nat) : Int) ((i : Nat) : Int) h := fun n => by
  have el := o.len
  have bl := entsD_len hm
  induction n with
  | zero => exact fun i hi h w => f3_15_in _ _ _ _ _ _ _ _ _ (brB_of (fun z => by have := of_decide_eq_true z; omega) fun _ => awake_sc T w hk)
  | succ n ih =>
    intro i hi h w
    have g1 : es[i]? = some es[i] := List.getElem?_eq_getElem _
    generalize es[i] = e at g1
    have hf := List.mem_of_getElem? g1
    obtain ⟨ad, had, hat⟩ := rowLoad (enc := EntM.cells) (k := 5) (fun _ => rfl) (by decide) (r.rd h [] w) g1
    have ok := ents_ok hm e.dat (by rw [← o.dat]; exact List.mem_map_of_mem hf)
    obtain ⟨k, rest, hkr, k1, k7⟩ := ok.head
    have hlen := ok.len
    have hval := ok.val
    have hkr' : e.key = k :: rest := hkr
    have rk := (r.each e hf h [] w).1
    obtain ⟨kd, hkd, hkt⟩ := rk 0 (.int .u8 ((k.toNat : Nat) : Int)) (by rw [hkr']; rfl)
    have hl0 : e.key.length = rest.length + 1 := by rw [hkr']; rfl
    have hl5 : e.key.length ≤ 512 := hlen
    have hv5 : e.val.length ≤ 2048 := hval
    have nxt : f3_18 w0 K a es.length c a es.length c ((es.length : Nat) : Int) ((i : Nat) : Int) false h := f3_18_in _ _ _ _ _ _ _ _ _ _ (brB_of (fun z => by cases z) fun _ => by rw [wrapS (by omega)]; exact ih (i + 1) (by omega) h w)
    refine f3_15_in _ _ _ _ _ _ _ _ _ (brB_of (fun _ => ⟨ad, had, by omega, by omega, _, _, _, _, _, _, _, _, _, ⟨rfl, hat⟩, ?_⟩) fun z => by have := of_decide_eq_false z; omega)
    refine brB_of (fun z => by simp at z; rw [z] at hl0; simp at hl0) fun _ => ⟨kd, hkd, by decide, by omega, _, hkt, brB_of (fun z => by have := of_decide_eq_true z; omega) fun _ => ⟨kd, hkd, by decide, by omega, _, hkt, brB_of (fun z => by have := of_decide_eq_true z; omega) fun _ => ?_⟩⟩
    refine brB_of (fun z => by have := of_decide_eq_true z; omega) fun _ => brB_of (fun z => by have := of_decide_eq_true z; omega) fun _ => brB_of (fun z => by cases z) fun _ => brB_of (fun z => by simp at z) fun _ => brB_of (fun z => ?_) fun _ => nxt
    have h0 : 0 < i := by have := of_decide_eq_true z; omega
    obtain ⟨j, rfl⟩ : ∃ j, i = j + 1 := ⟨i - 1, by omega⟩
    have g0 : es[j]? = some (es[j]'(by omega)) := List.getElem?_eq_getElem _
    generalize es[j]'(by omega) = f at g0
    obtain ⟨bd, hbd, hbt⟩ := rowLoad (enc := EntM.cells) (k := 5) (fun _ => rfl) (by decide) (r.rd h [] w) g0
    have e1 : IntKind.i64.wrap (((j + 1 : Nat) : Int) - 1) = ((j : Nat) : Int) := by rw [wrap64 (by omega) (by omega)]; omega
    rw [e1]
    have hlt : f.key < e.key := by
      have pw := ents_rise hm
      rw [← o.dat] at pw
      have := Rise.of_pairwise pw j f.dat e.dat (by simp [g0]) (by simp [g1])
      exact this
    have hc := cmpL_neg.2 hlt
    refine ⟨bd, hbd, by omega, by omega, _, _, _, hbt 0 _ rfl, f14_spec ((r.each f (List.mem_of_getElem? g0) h [] w).1) rk rfl rfl ⟨_, rfl, ?_⟩⟩
    have e2 : (decide ((0 : Int) ≤ cmpL f.key e.key)) = false := by simp; omega
    rw [e2]
    exact nxt
/-- SchemaKeys. -/
theorem f3_spec {s : StM} (T : TabOk w0) (k : s.Ok w0) (hk : ∀ h, K (.bool true) h) : EvC Go.Proofs.Tryd.prog w0 3 #[s.agg2] K (fun _ => none) := by
  have w0' : Own w0 (fun _ => none) [] := Own.nil
  refine f3_go _ _ _ _ _ _ _ _ (f10_spec k ⟨_, rfl, brB_of (fun _ => f3_2_in _ _ _ _ _ _ _ _ _ (brB_of (fun _ => awake_sc T w0' hk) fun z => by cases z)) fun z => by cases z⟩ fun lt => ⟨_, rfl, brB_of (fun z => by cases z) fun _ => ?_⟩)
  refine f11_spec (s := s) T w0' (fun h' w' => st_arg k lt) fun t h1 ht w1 => ⟨t, rfl, f3_2_in _ _ _ _ _ _ _ _ _ (brB_of (fun _ => awake_sc T w1 hk) fun z => ?_)⟩
  have hm := ht.1 (by simpa using z)
  refine f3_3_in _ _ _ _ _ _ _ _ (f13_spec (s := s) T w1 (fun h' D w' => st_arg k lt) (fun hn => absurd hm hn) fun _ h2 a c es o w2 => ⟨a, es.length, c, rfl, ?_⟩)
  have r : EntsRd w0 (outB a c es ++ []) a c es := ents_rd o fun p hp => List.mem_append_left _ hp
  have tot := ents_count (s := s)
  have bl := entsD_len hm
  have el := o.len
  have lss := lt.ses
  have lrr := lt.ret
  have loop : ∀ (n i acc : Nat), i + n = s.ses.length → acc + ((s.ses.drop i).map cntS).sum = (entsD s).length → f3_8 w0 K a es.length c ((acc : Nat) : Int) s.sa s.ses.length s.sc ((s.ses.length : Nat) : Int) ((i : Nat) : Int) h2 := fun n => by
    induction n with
    | zero =>
      intro i acc hi ha
      rw [List.drop_eq_nil_of_le (by omega)] at ha
      simp at ha
      refine f3_8_in _ _ _ _ _ _ _ _ _ _ (brB_of (fun z => by have := of_decide_eq_true z; omega) fun _ => brB_of (fun z => ?_) fun _ => f3_15s T hm o r hk es.length 0 (by omega) h2 w2)
      rw [ha, el] at z; simp at z
    | succ n ih =>
      intro i acc hi ha
      have g1 : s.ses[i]? = some s.ses[i] := List.getElem?_eq_getElem _
      generalize s.ses[i] = x at g1
      obtain ⟨ad, had, hat⟩ := rowLoad (enc := SesM.cells) (k := 8) (fun _ => rfl) (by decide) (st_arg (h := h2) k lt).ses g1
      rw [drop_cons g1, List.map_cons, List.sum_cons] at ha
      have le := lt.each x (List.mem_of_getElem? g1)
      refine f3_8_in _ _ _ _ _ _ _ _ _ _ (brB_of (fun _ => ⟨ad, had, by omega, by omega, _, _, _, _, _, _, _, _, _, _, _, _, _, _, _, _, ⟨rfl, hat⟩, ?_⟩) fun z => by have := of_decide_eq_false z; omega)
      have e1 : IntKind.i64.wrap (((acc : Nat) : Int) + IntKind.i64.wrap ((IntKind.i64.wrap ((IntKind.i64.wrap ((IntKind.i64.wrap ((1 : Int) + ((x.subs.length : Nat) : Int))) + ((x.queue.length : Nat) : Int))) + ((x.fl.length : Nat) : Int))) + ((x.ids.length : Nat) : Int))) = ((acc + cntS x : Nat) : Int) := by
        rw [wrap64 (x := (1 : Int) + _) (by omega) (by omega), wrap64 (x := (1 : Int) + _ + _) (by omega) (by omega), wrap64 (x := (1 : Int) + _ + _ + _) (by omega) (by omega), wrap64 (x := (1 : Int) + _ + _ + _ + _) (by omega) (by omega), wrap64 (by omega) (by omega)]
        unfold cntS; omega
      rw [e1, wrapS (by omega)]
      exact ih (i + 1) (acc + cntS x) (by omega) (by omega)
  refine brB_of (fun z => ?_) fun z => ?_
  · have z' := of_decide_eq_true z
    rw [if_pos z'] at tot
    refine f3_7_in _ _ _ _ _ _ _ _ _ _ _ _ ?_
    rw [wrapS (by omega)]
    exact loop s.ses.length 0 (s.ret.length + 1) (by omega) (by rw [List.drop_zero]; omega)
  · have z' := of_decide_eq_false z
    rw [if_neg z'] at tot
    refine f3_7_in _ _ _ _ _ _ _ _ _ _ _ _ ?_
    exact loop s.ses.length 0 s.ret.length (by omega) (by rw [List.drop_zero]; omega)
end
end Go.G.YtilifcggegabfaaDoor
