/- The document's states: may they be? -/
import Derived.Test.YtilifcggegabfaaDoorSP
import Derived.Test.YtilifcggegabfaaDoorProg
set_option maxRecDepth 100000
namespace Go.G.YtilifcggegabfaaDoor
open Go.RowKit
def f34_J : Nat → List Nat × Nat := jOf [(2, [0, 2, 3, 4, 5, 6, 7, 8, 9, 10, 11, 12, 13, 14, 15, 16, 17, 18, 19, 20, 21, 22, 23, 24, 25, 27, 28, 29, 30, 31, 32, 33, 34, 35, 36, 37, 38, 39, 40, 41, 42, 43, 44, 45, 46, 47, 48, 49, 50, 51, 52, 53, 54, 55, 56, 57, 58, 59, 60, 61, 62, 63, 64, 65, 66, 67, 68, 69, 70, 71, 72, 73, 74, 75, 76, 77, 78, 79, 80, 81, 82, 83, 84, 85, 86, 87, 88, 89, 90, 91, 92, 93, 94, 95, 96, 97, 98, 99, 100, 101, 102], 1), (3, [0, 2, 3, 4, 5, 6, 7, 8, 9, 10, 11, 12, 13, 14, 15, 16, 17, 18, 19, 20, 21, 22, 23, 24, 25, 26, 27, 28, 29, 30, 31, 32, 33, 34, 35, 36, 37, 38, 39, 40, 41, 42, 43, 44, 45, 46, 47, 48, 49, 50, 51, 52, 53, 54, 55, 56, 57, 58, 59, 60, 61, 62, 63, 64, 65, 66, 67, 68, 69, 70, 71, 72, 73, 74, 75, 76, 77, 78, 79, 80, 81, 82, 83, 84, 85, 86, 87, 88, 89, 90, 91, 92, 93, 94, 95, 96, 97, 98, 99, 100, 101, 102], 1), (4, [0, 2, 3, 4, 5, 6, 7, 8, 9, 10, 11, 12, 13, 14, 15, 16, 17, 18, 19, 20, 21, 22, 23, 24, 25, 26, 27, 31, 32, 33, 34, 35, 36, 37, 38, 39, 40, 41, 42, 43, 44, 45, 46, 47, 48, 49, 50, 51, 52, 53, 54, 55, 56, 57, 58, 59, 60, 61, 62, 63, 64, 65, 66, 67, 68, 69, 70, 71, 72, 73, 74, 75, 76, 77, 78, 79, 80, 81, 82, 83, 84, 85, 86, 87, 88, 89, 90, 91, 92, 93, 94, 95, 96, 97, 98, 99, 100, 101, 102], 1), (7, [0, 2, 3, 4, 5, 6, 7, 8, 9, 10, 11, 12, 13, 14, 15, 16, 17, 18, 19, 20, 21, 22, 23, 24, 25, 26, 27, 31, 32, 33, 34, 35, 36, 37, 38, 39, 40, 41, 42, 43, 44, 45, 46, 47, 48, 49, 50, 51, 52, 53, 54, 55, 56, 57, 58, 59, 60, 61, 62, 63, 64, 65, 66, 67, 68, 69, 70, 72, 73, 74, 75, 76, 77, 78, 79, 80, 81, 82, 83, 84, 85, 86, 87, 88, 89, 90, 91, 92, 93, 94, 95, 96, 97, 98, 99, 100, 101, 102], 1), (10, [0, 2, 3, 4, 5, 6, 7, 8, 9, 10, 11, 12, 13, 14, 15, 16, 17, 18, 19, 20, 21, 22, 23, 24, 25, 26, 27, 28, 29, 30, 31, 32, 33, 34, 35, 36, 37, 38, 39, 40, 41, 42, 43, 44, 45, 46, 47, 48, 49, 50, 51, 52, 53, 54, 55, 56, 57, 58, 59, 60, 61, 62, 63, 64, 65, 66, 67, 68, 69, 70, 71, 72, 73, 77, 78, 79, 80, 81, 82, 83, 84, 85, 86, 87, 88, 89, 90, 91, 92, 93, 94, 95, 96, 97, 98, 99, 100, 101, 102], 1), (13, [0, 2, 3, 4, 5, 6, 7, 8, 9, 10, 11, 12, 13, 14, 15, 16, 17, 18, 19, 20, 21, 22, 23, 24, 25, 26, 27, 28, 29, 30, 31, 32, 33, 34, 35, 36, 37, 38, 39, 40, 41, 42, 43, 44, 45, 46, 47, 48, 49, 50, 51, 52, 53, 54, 55, 56, 57, 58, 59, 60, 61, 62, 63, 64, 65, 66, 67, 68, 69, 70, 71, 72, 73, 77, 78, 79, 80, 81, 82, 83, 84, 85, 86, 87, 88, 89, 90, 91, 92, 93, 94, 95, 96, 97, 98, 99, 100, 102], 1)]

def f34_2 (w0 : World) (K : Value → AH → Prop) (x26 : Bool) (xb0_0 : Int) (ab0_1 : Option Go.Addr) (nb0_1 : Nat) (cb0_1 : Nat) (ab0_2 : Option Go.Addr) (nb0_2 : Nat) (cb0_2 : Nat) (h : AH) : Prop :=
  ∀ j : Nat → Value, LPk Go.Proofs.Tryd.prog w0 (EvC Go.Proofs.Tryd.prog w0) f34_J 34 K 2 [.v (j 0), .bp 0 0, .v (j 2), .v (j 3), .v (j 4), .v (j 5), .v (j 6), .v (j 7), .v (j 8), .v (j 9), .v (j 10), .v (j 11), .v (j 12), .v (j 13), .v (j 14), .v (j 15), .v (j 16), .v (j 17), .v (j 18), .v (j 19), .v (j 20), .v (j 21), .v (j 22), .v (j 23), .v (j 24), .v (j 25), .v (.bool x26), .v (j 27), .v (j 28), .v (j 29), .v (j 30), .v (j 31), .v (j 32), .v (j 33), .v (j 34), .v (j 35), .v (j 36), .v (j 37), .v (j 38), .v (j 39), .v (j 40), .v (j 41), .v (j 42), .v (j 43), .v (j 44), .v (j 45), .v (j 46), .v (j 47), .v (j 48), .v (j 49), .v (j 50), .v (j 51), .v (j 52), .v (j 53), .v (j 54), .v (j 55), .v (j 56), .v (j 57), .v (j 58), .v (j 59), .v (j 60), .v (j 61), .v (j 62), .v (j 63), .v (j 64), .v (j 65), .v (j 66), .v (j 67), .v (j 68), .v (j 69), .v (j 70), .v (j 71), .v (j 72), .v (j 73), .v (j 74), .v (j 75), .v (j 76), .v (j 77), .v (j 78), .v (j 79), .v (j 80), .v (j 81), .v (j 82), .v (j 83), .v (j 84), .v (j 85), .v (j 86), .v (j 87), .v (j 88), .v (j 89), .v (j 90), .v (j 91), .v (j 92), .v (j 93), .v (j 94), .v (j 95), .v (j 96), .v (j 97), .v (j 98), .v (j 99), .v (j 100), .v (j 101), .v (j 102)] [some [(.int .i64 xb0_0), (.slice ab0_1 nb0_1 cb0_1), (.slice ab0_2 nb0_2 cb0_2)]] h

def f34_3 (w0 : World) (K : Value → AH → Prop) (xb0_0 : Int) (ab0_1 : Option Go.Addr) (nb0_1 : Nat) (cb0_1 : Nat) (ab0_2 : Option Go.Addr) (nb0_2 : Nat) (cb0_2 : Nat) (h : AH) : Prop :=
  ∀ j : Nat → Value, LPk Go.Proofs.Tryd.prog w0 (EvC Go.Proofs.Tryd.prog w0) f34_J 34 K 3 [.v (j 0), .bp 0 0, .v (j 2), .v (j 3), .v (j 4), .v (j 5), .v (j 6), .v (j 7), .v (j 8), .v (j 9), .v (j 10), .v (j 11), .v (j 12), .v (j 13), .v (j 14), .v (j 15), .v (j 16), .v (j 17), .v (j 18), .v (j 19), .v (j 20), .v (j 21), .v (j 22), .v (j 23), .v (j 24), .v (j 25), .v (j 26), .v (j 27), .v (j 28), .v (j 29), .v (j 30), .v (j 31), .v (j 32), .v (j 33), .v (j 34), .v (j 35), .v (j 36), .v (j 37), .v (j 38), .v (j 39), .v (j 40), .v (j 41), .v (j 42), .v (j 43), .v (j 44), .v (j 45), .v (j 46), .v (j 47), .v (j 48), .v (j 49), .v (j 50), .v (j 51), .v (j 52), .v (j 53), .v (j 54), .v (j 55), .v (j 56), .v (j 57), .v (j 58), .v (j 59), .v (j 60), .v (j 61), .v (j 62), .v (j 63), .v (j 64), .v (j 65), .v (j 66), .v (j 67), .v (j 68), .v (j 69), .v (j 70), .v (j 71), .v (j 72), .v (j 73), .v (j 74), .v (j 75), .v (j 76), .v (j 77), .v (j 78), .v (j 79), .v (j 80), .v (j 81), .v (j 82), .v (j 83), .v (j 84), .v (j 85), .v (j 86), .v (j 87), .v (j 88), .v (j 89), .v (j 90), .v (j 91), .v (j 92), .v (j 93), .v (j 94), .v (j 95), .v (j 96), .v (j 97), .v (j 98), .v (j 99), .v (j 100), .v (j 101), .v (j 102)] [some [(.int .i64 xb0_0), (.slice ab0_1 nb0_1 cb0_1), (.slice ab0_2 nb0_2 cb0_2)]] h

def f34_4 (w0 : World) (K : Value → AH → Prop) (a28 : Option Go.Addr) (n28 : Nat) (c28 : Nat) (x29 : Int) (x30 : Int) (xb0_0 : Int) (ab0_1 : Option Go.Addr) (nb0_1 : Nat) (cb0_1 : Nat) (ab0_2 : Option Go.Addr) (nb0_2 : Nat) (cb0_2 : Nat) (h : AH) : Prop :=
  ∀ j : Nat → Value, LPk Go.Proofs.Tryd.prog w0 (EvC Go.Proofs.Tryd.prog w0) f34_J 34 K 4 [.v (j 0), .bp 0 0, .v (j 2), .v (j 3), .v (j 4), .v (j 5), .v (j 6), .v (j 7), .v (j 8), .v (j 9), .v (j 10), .v (j 11), .v (j 12), .v (j 13), .v (j 14), .v (j 15), .v (j 16), .v (j 17), .v (j 18), .v (j 19), .v (j 20), .v (j 21), .v (j 22), .v (j 23), .v (j 24), .v (j 25), .v (j 26), .v (j 27), .v (.slice a28 n28 c28), .v (.int .i64 x29), .v (.int .i64 x30), .v (j 31), .v (j 32), .v (j 33), .v (j 34), .v (j 35), .v (j 36), .v (j 37), .v (j 38), .v (j 39), .v (j 40), .v (j 41), .v (j 42), .v (j 43), .v (j 44), .v (j 45), .v (j 46), .v (j 47), .v (j 48), .v (j 49), .v (j 50), .v (j 51), .v (j 52), .v (j 53), .v (j 54), .v (j 55), .v (j 56), .v (j 57), .v (j 58), .v (j 59), .v (j 60), .v (j 61), .v (j 62), .v (j 63), .v (j 64), .v (j 65), .v (j 66), .v (j 67), .v (j 68), .v (j 69), .v (j 70), .v (j 71), .v (j 72), .v (j 73), .v (j 74), .v (j 75), .v (j 76), .v (j 77), .v (j 78), .v (j 79), .v (j 80), .v (j 81), .v (j 82), .v (j 83), .v (j 84), .v (j 85), .v (j 86), .v (j 87), .v (j 88), .v (j 89), .v (j 90), .v (j 91), .v (j 92), .v (j 93), .v (j 94), .v (j 95), .v (j 96), .v (j 97), .v (j 98), .v (j 99), .v (j 100), .v (j 101), .v (j 102)] [some [(.int .i64 xb0_0), (.slice ab0_1 nb0_1 cb0_1), (.slice ab0_2 nb0_2 cb0_2)]] h

def f34_7 (w0 : World) (K : Value → AH → Prop) (a28 : Option Go.Addr) (n28 : Nat) (c28 : Nat) (x29 : Int) (x30 : Int) (x71 : Bool) (xb0_0 : Int) (ab0_1 : Option Go.Addr) (nb0_1 : Nat) (cb0_1 : Nat) (ab0_2 : Option Go.Addr) (nb0_2 : Nat) (cb0_2 : Nat) (h : AH) : Prop :=
  ∀ j : Nat → Value, LPk Go.Proofs.Tryd.prog w0 (EvC Go.Proofs.Tryd.prog w0) f34_J 34 K 7 [.v (j 0), .bp 0 0, .v (j 2), .v (j 3), .v (j 4), .v (j 5), .v (j 6), .v (j 7), .v (j 8), .v (j 9), .v (j 10), .v (j 11), .v (j 12), .v (j 13), .v (j 14), .v (j 15), .v (j 16), .v (j 17), .v (j 18), .v (j 19), .v (j 20), .v (j 21), .v (j 22), .v (j 23), .v (j 24), .v (j 25), .v (j 26), .v (j 27), .v (.slice a28 n28 c28), .v (.int .i64 x29), .v (.int .i64 x30), .v (j 31), .v (j 32), .v (j 33), .v (j 34), .v (j 35), .v (j 36), .v (j 37), .v (j 38), .v (j 39), .v (j 40), .v (j 41), .v (j 42), .v (j 43), .v (j 44), .v (j 45), .v (j 46), .v (j 47), .v (j 48), .v (j 49), .v (j 50), .v (j 51), .v (j 52), .v (j 53), .v (j 54), .v (j 55), .v (j 56), .v (j 57), .v (j 58), .v (j 59), .v (j 60), .v (j 61), .v (j 62), .v (j 63), .v (j 64), .v (j 65), .v (j 66), .v (j 67), .v (j 68), .v (j 69), .v (j 70), .v (.bool x71), .v (j 72), .v (j 73), .v (j 74), .v (j 75), .v (j 76), .v (j 77), .v (j 78), .v (j 79), .v (j 80), .v (j 81), .v (j 82), .v (j 83), .v (j 84), .v (j 85), .v (j 86), .v (j 87), .v (j 88), .v (j 89), .v (j 90), .v (j 91), .v (j 92), .v (j 93), .v (j 94), .v (j 95), .v (j 96), .v (j 97), .v (j 98), .v (j 99), .v (j 100), .v (j 101), .v (j 102)] [some [(.int .i64 xb0_0), (.slice ab0_1 nb0_1 cb0_1), (.slice ab0_2 nb0_2 cb0_2)]] h

def f34_10 (w0 : World) (K : Value → AH → Prop) (a74 : Option Go.Addr) (n74 : Nat) (c74 : Nat) (x75 : Int) (x76 : Int) (xb0_0 : Int) (ab0_1 : Option Go.Addr) (nb0_1 : Nat) (cb0_1 : Nat) (ab0_2 : Option Go.Addr) (nb0_2 : Nat) (cb0_2 : Nat) (h : AH) : Prop :=
  ∀ j : Nat → Value, LPk Go.Proofs.Tryd.prog w0 (EvC Go.Proofs.Tryd.prog w0) f34_J 34 K 10 [.v (j 0), .bp 0 0, .v (j 2), .v (j 3), .v (j 4), .v (j 5), .v (j 6), .v (j 7), .v (j 8), .v (j 9), .v (j 10), .v (j 11), .v (j 12), .v (j 13), .v (j 14), .v (j 15), .v (j 16), .v (j 17), .v (j 18), .v (j 19), .v (j 20), .v (j 21), .v (j 22), .v (j 23), .v (j 24), .v (j 25), .v (j 26), .v (j 27), .v (j 28), .v (j 29), .v (j 30), .v (j 31), .v (j 32), .v (j 33), .v (j 34), .v (j 35), .v (j 36), .v (j 37), .v (j 38), .v (j 39), .v (j 40), .v (j 41), .v (j 42), .v (j 43), .v (j 44), .v (j 45), .v (j 46), .v (j 47), .v (j 48), .v (j 49), .v (j 50), .v (j 51), .v (j 52), .v (j 53), .v (j 54), .v (j 55), .v (j 56), .v (j 57), .v (j 58), .v (j 59), .v (j 60), .v (j 61), .v (j 62), .v (j 63), .v (j 64), .v (j 65), .v (j 66), .v (j 67), .v (j 68), .v (j 69), .v (j 70), .v (j 71), .v (j 72), .v (j 73), .v (.slice a74 n74 c74), .v (.int .i64 x75), .v (.int .i64 x76), .v (j 77), .v (j 78), .v (j 79), .v (j 80), .v (j 81), .v (j 82), .v (j 83), .v (j 84), .v (j 85), .v (j 86), .v (j 87), .v (j 88), .v (j 89), .v (j 90), .v (j 91), .v (j 92), .v (j 93), .v (j 94), .v (j 95), .v (j 96), .v (j 97), .v (j 98), .v (j 99), .v (j 100), .v (j 101), .v (j 102)] [some [(.int .i64 xb0_0), (.slice ab0_1 nb0_1 cb0_1), (.slice ab0_2 nb0_2 cb0_2)]] h

def f34_13 (w0 : World) (K : Value → AH → Prop) (a74 : Option Go.Addr) (n74 : Nat) (c74 : Nat) (x75 : Int) (x76 : Int) (x101 : Bool) (xb0_0 : Int) (ab0_1 : Option Go.Addr) (nb0_1 : Nat) (cb0_1 : Nat) (ab0_2 : Option Go.Addr) (nb0_2 : Nat) (cb0_2 : Nat) (h : AH) : Prop :=
  ∀ j : Nat → Value, LPk Go.Proofs.Tryd.prog w0 (EvC Go.Proofs.Tryd.prog w0) f34_J 34 K 13 [.v (j 0), .bp 0 0, .v (j 2), .v (j 3), .v (j 4), .v (j 5), .v (j 6), .v (j 7), .v (j 8), .v (j 9), .v (j 10), .v (j 11), .v (j 12), .v (j 13), .v (j 14), .v (j 15), .v (j 16), .v (j 17), .v (j 18), .v (j 19), .v (j 20), .v (j 21), .v (j 22), .v (j 23), .v (j 24), .v (j 25), .v (j 26), .v (j 27), .v (j 28), .v (j 29), .v (j 30), .v (j 31), .v (j 32), .v (j 33), .v (j 34), .v (j 35), .v (j 36), .v (j 37), .v (j 38), .v (j 39), .v (j 40), .v (j 41), .v (j 42), .v (j 43), .v (j 44), .v (j 45), .v (j 46), .v (j 47), .v (j 48), .v (j 49), .v (j 50), .v (j 51), .v (j 52), .v (j 53), .v (j 54), .v (j 55), .v (j 56), .v (j 57), .v (j 58), .v (j 59), .v (j 60), .v (j 61), .v (j 62), .v (j 63), .v (j 64), .v (j 65), .v (j 66), .v (j 67), .v (j 68), .v (j 69), .v (j 70), .v (j 71), .v (j 72), .v (j 73), .v (.slice a74 n74 c74), .v (.int .i64 x75), .v (.int .i64 x76), .v (j 77), .v (j 78), .v (j 79), .v (j 80), .v (j 81), .v (j 82), .v (j 83), .v (j 84), .v (j 85), .v (j 86), .v (j 87), .v (j 88), .v (j 89), .v (j 90), .v (j 91), .v (j 92), .v (j 93), .v (j 94), .v (j 95), .v (j 96), .v (j 97), .v (j 98), .v (j 99), .v (j 100), .v (.bool x101), .v (j 102)] [some [(.int .i64 xb0_0), (.slice ab0_1 nb0_1 cb0_1), (.slice ab0_2 nb0_2 cb0_2)]] h

theorem f34_2_in {w0 : World} {K : Value → AH → Prop} (x26 : Bool) (xb0_0 : Int) (ab0_1 : Option Go.Addr) (nb0_1 : Nat) (cb0_1 : Nat) (ab0_2 : Option Go.Addr) (nb0_2 : Nat) (cb0_2 : Nat) (h : AH)
  (hv : (brB x26 (K (Go.Value.bool false) h) (f34_3 w0 K xb0_0 ab0_1 nb0_1 cb0_1 ab0_2 nb0_2 cb0_2 h))) :
  f34_2 w0 K x26 xb0_0 ab0_1 nb0_1 cb0_1 ab0_2 nb0_2 cb0_2 h := fun j => LP_intro (P := Go.Proofs.Tryd.prog) (Eq.mp (by kernel_rfl) hv)

theorem f34_3_in {w0 : World} {K : Value → AH → Prop} (xb0_0 : Int) (ab0_1 : Option Go.Addr) (nb0_1 : Nat) (cb0_1 : Nat) (ab0_2 : Option Go.Addr) (nb0_2 : Nat) (cb0_2 : Nat) (h : AH)
  (hv : (f34_4 w0 K ab0_1 nb0_1 cb0_1 ((nb0_1 : Nat) : Int) (0 : Int) xb0_0 ab0_1 nb0_1 cb0_1 ab0_2 nb0_2 cb0_2 h)) :
  f34_3 w0 K xb0_0 ab0_1 nb0_1 cb0_1 ab0_2 nb0_2 cb0_2 h := fun j => LP_intro (P := Go.Proofs.Tryd.prog) (Eq.mp (by kernel_rfl) hv)

theorem f34_4_in {w0 : World} {K : Value → AH → Prop} (a28 : Option Go.Addr) (n28 : Nat) (c28 : Nat) (x29 : Int) (x30 : Int) (xb0_0 : Int) (ab0_1 : Option Go.Addr) (nb0_1 : Nat) (cb0_1 : Nat) (ab0_2 : Option Go.Addr) (nb0_2 : Nat) (cb0_2 : Nat) (h : AH)
  (hv : (brB (decide ((x30 < x29))) (∃ a'0 : Go.Addr, ((a28 = (some a'0)) ∧ (((0 : Int) ≤ x30) ∧ ((x30 < ((n28 : Nat) : Int)) ∧ (∃ s'1 : ByteArray, (∃ p'2 : Option Go.Addr, (∃ n'3 : Nat, (∃ n'4 : Nat, (∃ i'5 : Int, (∃ t'6 : Bool, (∃ i'7 : Int, ((((Array.size #[(Go.Value.string s'1), (Go.Value.slice p'2 n'3 n'4), (Go.Value.int .i64 i'5), (Go.Value.bool t'6), (Go.Value.int .i64 i'7)]) = 5) ∧ (At w0 h (Go.Addr.add a'0 ((Int.toNat x30) * 5)) [(Go.Value.string s'1), (Go.Value.slice p'2 n'3 n'4), (Go.Value.int .i64 i'5), (Go.Value.bool t'6), (Go.Value.int .i64 i'7)])) ∧ (EvC Go.Proofs.Tryd.prog w0 56 #[(Go.Value.agg #[(Go.Value.string s'1), (Go.Value.slice p'2 n'3 n'4), (Go.Value.int .i64 i'5), (Go.Value.bool t'6), (Go.Value.int .i64 i'7)])] (fun x'8 h'9 => (∃ t'10 : Bool, ((x'8 = (Go.Value.bool t'10)) ∧ (brB (!t'10) (f34_7 w0 K a28 n28 c28 x29 x30 true xb0_0 ab0_1 nb0_1 cb0_1 ab0_2 nb0_2 cb0_2 h'9) (brB (!t'6) (f34_7 w0 K a28 n28 c28 x29 x30 true xb0_0 ab0_1 nb0_1 cb0_1 ab0_2 nb0_2 cb0_2 h'9) (brB (((n'3 : Nat) : Int) == (0 : Int)) (f34_7 w0 K a28 n28 c28 x29 x30 true xb0_0 ab0_1 nb0_1 cb0_1 ab0_2 nb0_2 cb0_2 h'9) (brB (decide ((i'7 ≤ xb0_0))) (f34_7 w0 K a28 n28 c28 x29 x30 true xb0_0 ab0_1 nb0_1 cb0_1 ab0_2 nb0_2 cb0_2 h'9) (brB (decide (((0 : Int) < x30))) (∃ a'11 : Go.Addr, ((ab0_1 = (some a'11)) ∧ (((0 : Int) ≤ (Go.IntKind.wrap .i64 (x30 - (1 : Int)))) ∧ (((Go.IntKind.wrap .i64 (x30 - (1 : Int))) < ((nb0_1 : Nat) : Int)) ∧ (∃ s'12 : ByteArray, (((Go.G.cellA w0 h'9 (Go.Addr.add (Go.Addr.add a'11 ((Int.toNat (Go.IntKind.wrap .i64 (x30 - (1 : Int)))) * 5)) 0)) = (some (Go.Value.string s'12))) ∧ (f34_7 w0 K a28 n28 c28 x29 x30 (!(Go.Op.bytesLess (ByteArray.toList s'12) (ByteArray.toList s'1))) xb0_0 ab0_1 nb0_1 cb0_1 ab0_2 nb0_2 cb0_2 h'9))))))) (f34_7 w0 K a28 n28 c28 x29 x30 false xb0_0 ab0_1 nb0_1 cb0_1 ab0_2 nb0_2 cb0_2 h'9))))))))) h))))))))))))) (f34_10 w0 K ab0_2 nb0_2 cb0_2 ((nb0_2 : Nat) : Int) (0 : Int) xb0_0 ab0_1 nb0_1 cb0_1 ab0_2 nb0_2 cb0_2 h))) :
  f34_4 w0 K a28 n28 c28 x29 x30 xb0_0 ab0_1 nb0_1 cb0_1 ab0_2 nb0_2 cb0_2 h := fun j => LP_intro (P := Go.Proofs.Tryd.prog) (Eq.mp (by kernel_rfl) hv)

theorem f34_7_in {w0 : World} {K : Value → AH → Prop} (a28 : Option Go.Addr) (n28 : Nat) (c28 : Nat) (x29 : Int) (x30 : Int) (x71 : Bool) (xb0_0 : Int) (ab0_1 : Option Go.Addr) (nb0_1 : Nat) (cb0_1 : Nat) (ab0_2 : Option Go.Addr) (nb0_2 : Nat) (cb0_2 : Nat) (h : AH)
  (hv : (brB x71 (K (Go.Value.bool false) h) (f34_4 w0 K a28 n28 c28 x29 (Go.IntKind.wrap .i64 (x30 + (1 : Int))) xb0_0 ab0_1 nb0_1 cb0_1 ab0_2 nb0_2 cb0_2 h))) :
  f34_7 w0 K a28 n28 c28 x29 x30 x71 xb0_0 ab0_1 nb0_1 cb0_1 ab0_2 nb0_2 cb0_2 h := fun j => LP_intro (P := Go.Proofs.Tryd.prog) (Eq.mp (by kernel_rfl) hv)

theorem f34_10_in {w0 : World} {K : Value → AH → Prop} (a74 : Option Go.Addr) (n74 : Nat) (c74 : Nat) (x75 : Int) (x76 : Int) (xb0_0 : Int) (ab0_1 : Option Go.Addr) (nb0_1 : Nat) (cb0_1 : Nat) (ab0_2 : Option Go.Addr) (nb0_2 : Nat) (cb0_2 : Nat) (h : AH)
  (hv : (brB (decide ((x76 < x75))) (∃ a'13 : Go.Addr, ((a74 = (some a'13)) ∧ (((0 : Int) ≤ x76) ∧ ((x76 < ((n74 : Nat) : Int)) ∧ (∃ s'14 : ByteArray, (∃ p'15 : Option Go.Addr, (∃ n'16 : Nat, (∃ n'17 : Nat, (∃ p'18 : Option Go.Addr, (∃ n'19 : Nat, (∃ n'20 : Nat, (∃ p'21 : Option Go.Addr, (∃ n'22 : Nat, (∃ n'23 : Nat, (∃ p'24 : Option Go.Addr, (∃ n'25 : Nat, (∃ n'26 : Nat, (∃ i'27 : Int, (∃ i'28 : Int, (∃ i'29 : Int, ((((Array.size #[(Go.Value.string s'14), (Go.Value.slice p'15 n'16 n'17), (Go.Value.slice p'18 n'19 n'20), (Go.Value.slice p'21 n'22 n'23), (Go.Value.slice p'24 n'25 n'26), (Go.Value.int .i64 i'27), (Go.Value.int .i64 i'28), (Go.Value.int .i64 i'29)]) = 8) ∧ (At w0 h (Go.Addr.add a'13 ((Int.toNat x76) * 8)) [(Go.Value.string s'14), (Go.Value.slice p'15 n'16 n'17), (Go.Value.slice p'18 n'19 n'20), (Go.Value.slice p'21 n'22 n'23), (Go.Value.slice p'24 n'25 n'26), (Go.Value.int .i64 i'27), (Go.Value.int .i64 i'28), (Go.Value.int .i64 i'29)])) ∧ (EvC Go.Proofs.Tryd.prog w0 57 #[(Go.Value.agg #[(Go.Value.string s'14), (Go.Value.slice p'15 n'16 n'17), (Go.Value.slice p'18 n'19 n'20), (Go.Value.slice p'21 n'22 n'23), (Go.Value.slice p'24 n'25 n'26), (Go.Value.int .i64 i'27), (Go.Value.int .i64 i'28), (Go.Value.int .i64 i'29)]), (Go.Value.int .i64 xb0_0)] (fun x'30 h'31 => (∃ t'32 : Bool, ((x'30 = (Go.Value.bool t'32)) ∧ (brB (!t'32) (f34_13 w0 K a74 n74 c74 x75 x76 true xb0_0 ab0_1 nb0_1 cb0_1 ab0_2 nb0_2 cb0_2 h'31) (brB (decide (((0 : Int) < x76))) (∃ a'33 : Go.Addr, ((ab0_2 = (some a'33)) ∧ (((0 : Int) ≤ (Go.IntKind.wrap .i64 (x76 - (1 : Int)))) ∧ (((Go.IntKind.wrap .i64 (x76 - (1 : Int))) < ((nb0_2 : Nat) : Int)) ∧ (∃ s'34 : ByteArray, (((Go.G.cellA w0 h'31 (Go.Addr.add (Go.Addr.add a'33 ((Int.toNat (Go.IntKind.wrap .i64 (x76 - (1 : Int)))) * 8)) 0)) = (some (Go.Value.string s'34))) ∧ (f34_13 w0 K a74 n74 c74 x75 x76 (!(Go.Op.bytesLess (ByteArray.toList s'34) (ByteArray.toList s'14))) xb0_0 ab0_1 nb0_1 cb0_1 ab0_2 nb0_2 cb0_2 h'31))))))) (f34_13 w0 K a74 n74 c74 x75 x76 false xb0_0 ab0_1 nb0_1 cb0_1 ab0_2 nb0_2 cb0_2 h'31)))))) h)))))))))))))))))))))) (K (Go.Value.bool true) h))) :
  f34_10 w0 K a74 n74 c74 x75 x76 xb0_0 ab0_1 nb0_1 cb0_1 ab0_2 nb0_2 cb0_2 h := fun j => LP_intro (P := Go.Proofs.Tryd.prog) (Eq.mp (by kernel_rfl) hv)

theorem f34_13_in {w0 : World} {K : Value → AH → Prop} (a74 : Option Go.Addr) (n74 : Nat) (c74 : Nat) (x75 : Int) (x76 : Int) (x101 : Bool) (xb0_0 : Int) (ab0_1 : Option Go.Addr) (nb0_1 : Nat) (cb0_1 : Nat) (ab0_2 : Option Go.Addr) (nb0_2 : Nat) (cb0_2 : Nat) (h : AH)
  (hv : (brB x101 (K (Go.Value.bool false) h) (f34_10 w0 K a74 n74 c74 x75 (Go.IntKind.wrap .i64 (x76 + (1 : Int))) xb0_0 ab0_1 nb0_1 cb0_1 ab0_2 nb0_2 cb0_2 h))) :
  f34_13 w0 K a74 n74 c74 x75 x76 x101 xb0_0 ab0_1 nb0_1 cb0_1 ab0_2 nb0_2 cb0_2 h := fun j => LP_intro (P := Go.Proofs.Tryd.prog) (Eq.mp (by kernel_rfl) hv)

theorem f34_go {w0 : World} {K : Value → AH → Prop} (x0_0 : Int) (a0_1 : Option Go.Addr) (n0_1 : Nat) (c0_1 : Nat) (a0_2 : Option Go.Addr) (n0_2 : Nat) (c0_2 : Nat) (h : AH)
  (hv : (brB (decide ((x0_0 < (0 : Int)))) (f34_2 w0 K true x0_0 a0_1 n0_1 c0_1 a0_2 n0_2 c0_2 h) (brB (decide (((1099511627776 : Int) < x0_0))) (f34_2 w0 K true x0_0 a0_1 n0_1 c0_1 a0_2 n0_2 c0_2 h) (brB (decide (((64 : Int) < ((n0_1 : Nat) : Int)))) (f34_2 w0 K true x0_0 a0_1 n0_1 c0_1 a0_2 n0_2 c0_2 h) (f34_2 w0 K (decide (((16 : Int) < ((n0_2 : Nat) : Int)))) x0_0 a0_1 n0_1 c0_1 a0_2 n0_2 c0_2 h))))) :
  EvC Go.Proofs.Tryd.prog w0 34 ([(.agg #[(.int .i64 x0_0), (.slice a0_1 n0_1 c0_1), (.slice a0_2 n0_2 c0_2)])]).toArray K h := EvC_intro (P := Go.Proofs.Tryd.prog) f34_J (Eq.mp (by kernel_rfl) hv)
section
variable {w0 : World} {K : Value → AH → Prop} {h : AH} {B : List (Nat × AB)}
/-- The document's May. -/
theorem f34_spec {s : StM} (w : Own w0 h B) (hR : ∀ h', Own w0 h' B → StRd w0 h' s) (hk : ∀ b h', (b = true ↔ MaySt s) → Own w0 h' B → K (.bool b) h') :
    EvC Go.Proofs.Tryd.prog w0 34 #[s.agg2] K h := by
  have no : ∀ h1, ¬ MaySt s → Own w0 h1 B → K (.bool false) h1 := fun h1 hn w1 => hk false h1 ⟨fun z => by (cases z), fun p => absurd p hn⟩ w1
  have r0 := hR h w
  have lrl := r0.rl
  have lsl := r0.sl
  have s10 : ((∀ x ∈ s.ses, MaySes s.clock x) → Rise (fun a b : SesM => sLt a.client b.client) s.ses → MaySt s) → ∀ (n i : Nat), i + n = s.ses.length → ∀ h1, Own w0 h1 B → (∀ x ∈ s.ses.take i, MaySes s.clock x) → (∀ j u v, j + 1 < i → s.ses[j]? = some u → s.ses[j + 1]? = some v → sLt u.client v.client) →
      f34_10 w0 K s.sa s.ses.length s.sc ((s.ses.length : Nat) : Int) ((i : Nat) : Int) s.clock s.ra s.ret.length s.rc s.sa s.ses.length s.sc h1 := fun hq n => by
    induction n with
    | zero =>
      intro i hi h1 w1 hm hr
      rw [List.take_of_length_le (by omega)] at hm
      exact f34_10_in _ _ _ _ _ _ _ _ _ _ _ _ _ (brB_of (fun z => by have := of_decide_eq_true z; omega) fun _ => hk true h1 ⟨fun _ => hq hm (rise_all (by omega) hr), fun _ => rfl⟩ w1)
    | succ n ih =>
      intro i hi h1 w1 hm hr
      have g1 : s.ses[i]? = some s.ses[i] := List.getElem?_eq_getElem _
      generalize s.ses[i] = x at g1
      have hf := List.mem_of_getElem? g1
      obtain ⟨ad, had, hat⟩ := rowLoad (enc := SesM.cells) (k := 8) (fun _ => rfl) (by decide) (hR h1 w1).ses g1
      have s13 : ∀ h2 v, Own w0 h2 B → (v = true → ¬ MaySt s) → (v = false → MaySes s.clock x ∧ ∀ g, 0 < i → s.ses[i - 1]? = some g → sLt g.client x.client) →
          f34_13 w0 K s.sa s.ses.length s.sc ((s.ses.length : Nat) : Int) ((i : Nat) : Int) v s.clock s.ra s.ret.length s.rc s.sa s.ses.length s.sc h2 := fun h2 v w2 h1' h2' => by
        refine f34_13_in _ _ _ _ _ _ _ _ _ _ _ _ _ _ (brB_of (fun z => no h2 (h1' z) w2) fun z => ?_)
        obtain ⟨q1, q2⟩ := h2' z
        rw [wrapS (by omega)]
        exact ih (i + 1) (by omega) h2 w2 (all_step g1 hm q1) (rise_one (lt := fun a b : SesM => sLt a.client b.client) g1 q2 hr)
      refine f34_10_in _ _ _ _ _ _ _ _ _ _ _ _ _ (brB_of (fun _ => ⟨ad, had, by omega, by omega, _, _, _, _, _, _, _, _, _, _, _, _, _, _, _, _, ⟨rfl, hat⟩, ?_⟩) fun z => by have := of_decide_eq_false z; omega)
      refine f57_spec (x := x) w1 (fun h' w' => (hR h' w').sesk x hf) fun t h2 ht w2 => ⟨t, rfl, brB_of (fun z => s13 h2 _ w2 (fun _ p => ?_) fun z => by cases z) fun z => brB_of (fun z2 => ?_) fun z2 => s13 h2 _ w2 (fun z => by cases z) fun _ => ⟨ht.1 (by simpa using z), fun g h0 => by simp at z2; omega⟩⟩
      · have := ht.2 (p.ses x hf); rw [this] at z; cases z
      · have h0 : 0 < i := by simp at z2; omega
        obtain ⟨k, rfl⟩ : ∃ k, i = k + 1 := ⟨i - 1, by omega⟩
        have g0 : s.ses[k]? = some (s.ses[k]'(by omega)) := List.getElem?_eq_getElem _
        generalize s.ses[k]'(by omega) = g at g0
        obtain ⟨bd, hbd, hbt⟩ := rowLoad (enc := SesM.cells) (k := 8) (fun _ => rfl) (by decide) (hR h2 w2).ses g0
        have e1 : IntKind.i64.wrap (((k + 1 : Nat) : Int) - 1) = ((k : Nat) : Int) := by rw [wrap64 (by omega) (by omega)]; omega
        rw [e1]
        refine ⟨bd, hbd, by omega, by omega, g.client, hbt 0 _ rfl, s13 h2 _ w2 (fun z4 p => ?_) fun z4 => ⟨ht.1 (by simpa using z), fun g' _ hg' => ?_⟩⟩
        · have q : Op.bytesLess g.client.toList x.client.toList = true := p.sesr k _ _ g0 g1
          rw [q] at z4; cases z4
        · have e2 : s.ses[k + 1 - 1]? = some g := g0
          rw [e2] at hg'; injection hg' with hg'; subst hg'
          show Op.bytesLess g.client.toList x.client.toList = true
          simpa using z4
  have s4 : ((∀ m ∈ s.ret, MayRet s.clock m) → Rise (fun a b : MsgM => sLt a.topic b.topic) s.ret → (∀ x ∈ s.ses, MaySes s.clock x) → Rise (fun a b : SesM => sLt a.client b.client) s.ses → MaySt s) → ∀ (n i : Nat), i + n = s.ret.length → ∀ h1, Own w0 h1 B → (∀ m ∈ s.ret.take i, MayRet s.clock m) → (∀ j u v, j + 1 < i → s.ret[j]? = some u → s.ret[j + 1]? = some v → sLt u.topic v.topic) →
      f34_4 w0 K s.ra s.ret.length s.rc ((s.ret.length : Nat) : Int) ((i : Nat) : Int) s.clock s.ra s.ret.length s.rc s.sa s.ses.length s.sc h1 := fun hq n => by
    induction n with
    | zero =>
      intro i hi h1 w1 hm hr
      rw [List.take_of_length_le (by omega)] at hm
      exact f34_4_in _ _ _ _ _ _ _ _ _ _ _ _ _ (brB_of (fun z => by have := of_decide_eq_true z; omega) fun _ => s10 (hq hm (rise_all (by omega) hr)) s.ses.length 0 (by omega) h1 w1 (fun _ z => by simp at z) fun j u v hj => by omega)
    | succ n ih =>
      intro i hi h1 w1 hm hr
      have g1 : s.ret[i]? = some s.ret[i] := List.getElem?_eq_getElem _
      generalize s.ret[i] = f at g1
      have hf := List.mem_of_getElem? g1
      obtain ⟨ad, had, hat⟩ := rowLoad (enc := MsgM.cells) (k := 5) (fun _ => rfl) (by decide) (hR h1 w1).ret.1 g1
      have s7 : ∀ h2 v, Own w0 h2 B → (v = true → ¬ MaySt s) → (v = false → MayRet s.clock f ∧ ∀ g, 0 < i → s.ret[i - 1]? = some g → sLt g.topic f.topic) →
          f34_7 w0 K s.ra s.ret.length s.rc ((s.ret.length : Nat) : Int) ((i : Nat) : Int) v s.clock s.ra s.ret.length s.rc s.sa s.ses.length s.sc h2 := fun h2 v w2 h1' h2' => by
        refine f34_7_in _ _ _ _ _ _ _ _ _ _ _ _ _ _ (brB_of (fun z => no h2 (h1' z) w2) fun z => ?_)
        obtain ⟨q1, q2⟩ := h2' z
        rw [wrapS (by omega)]
        exact ih (i + 1) (by omega) h2 w2 (all_step g1 hm q1) (rise_one (lt := fun a b : MsgM => sLt a.topic b.topic) g1 q2 hr)
      refine f34_4_in _ _ _ _ _ _ _ _ _ _ _ _ _ (brB_of (fun _ => ⟨ad, had, by omega, by omega, _, _, _, _, _, _, _, ⟨rfl, hat⟩, ?_⟩) fun z => by have := of_decide_eq_false z; omega)
      refine f56_spec (m := f) w1 fun t h2 ht w2 => ⟨t, rfl, brB_of (fun z1 => s7 h2 _ w2 (fun _ p => ?_) fun z => by cases z) fun z1 => brB_of (fun z2 => s7 h2 _ w2 (fun _ p => ?_) fun z => by cases z) fun z2 => brB_of (fun z3 => s7 h2 _ w2 (fun _ p => ?_) fun z => by cases z) fun z3 =>
        brB_of (fun z4 => s7 h2 _ w2 (fun _ p => ?_) fun z => by cases z) fun z4 => ?_⟩
      · have := ht.2 (p.ret f hf).may; rw [this] at z1; cases z1
      · have := (p.ret f hf).ret; rw [this] at z2; cases z2
      · have := (p.ret f hf).pay; exact this (by simpa using z3)
      · have := (p.ret f hf).til; simp at z4; omega
      have hmay : MayRet s.clock f := ⟨ht.1 (by simpa using z1), by simpa using z2, fun e => by rw [e] at z3; simp at z3, by simpa using z4⟩
      refine brB_of (fun z5 => ?_) fun z5 => s7 h2 _ w2 (fun z => by cases z) fun _ => ⟨hmay, fun g h0 => by simp at z5; omega⟩
      have h0 : 0 < i := by simp at z5; omega
      obtain ⟨k, rfl⟩ : ∃ k, i = k + 1 := ⟨i - 1, by omega⟩
      have g0 : s.ret[k]? = some (s.ret[k]'(by omega)) := List.getElem?_eq_getElem _
      generalize s.ret[k]'(by omega) = g at g0
      obtain ⟨bd, hbd, hbt⟩ := rowLoad (enc := MsgM.cells) (k := 5) (fun _ => rfl) (by decide) (hR h2 w2).ret.1 g0
      have e1 : IntKind.i64.wrap (((k + 1 : Nat) : Int) - 1) = ((k : Nat) : Int) := by rw [wrap64 (by omega) (by omega)]; omega
      rw [e1]
      refine ⟨bd, hbd, by omega, by omega, g.topic, hbt 0 _ rfl, s7 h2 _ w2 (fun z6 p => ?_) fun z6 => ⟨hmay, fun g' _ hg' => ?_⟩⟩
      · have q : Op.bytesLess g.topic.toList f.topic.toList = true := p.retr k _ _ g0 g1
        rw [q] at z6; cases z6
      · have e2 : s.ret[k + 1 - 1]? = some g := g0
        rw [e2] at hg'; injection hg' with hg'; subst hg'
        show Op.bytesLess g.topic.toList f.topic.toList = true
        simpa using z6
  have s2 : ∀ h1 v, Own w0 h1 B → (v = true → ¬ MaySt s) → (v = false → 0 ≤ s.clock ∧ s.clock ≤ 1099511627776 ∧ s.ret.length ≤ 64 ∧ s.ses.length ≤ 16) → f34_2 w0 K v s.clock s.ra s.ret.length s.rc s.sa s.ses.length s.sc h1 := fun h1 v w1 h1' h2' => by
    refine f34_2_in _ _ _ _ _ _ _ _ _ (brB_of (fun z => no h1 (h1' z) w1) fun z => ?_)
    obtain ⟨q1, q2, q3, q4⟩ := h2' z
    exact f34_3_in _ _ _ _ _ _ _ _ (s4 (fun a1 a2 a3 a4 => ⟨q1, q2, q3, q4, a1, a2, a3, a4⟩) s.ret.length 0 (by omega) h1 w1 (fun _ z => by simp at z) fun j u v hj => by omega)
  refine f34_go _ _ _ _ _ _ _ _ (brB_of (fun z1 => s2 h _ w (fun _ p => ?_) fun z => by cases z) fun z1 => brB_of (fun z2 => s2 h _ w (fun _ p => ?_) fun z => by cases z) fun z2 => brB_of (fun z3 => s2 h _ w (fun _ p => ?_) fun z => by cases z) fun z3 =>
    s2 h _ w (fun z4 p => ?_) fun z4 => ⟨by simpa using z1, by simpa using z2, by simp at z3; omega, by simp at z4; omega⟩)
  · have := p.clock0; simp at z1; omega
  · have := p.clock; simp at z2; omega
  · have := p.rl; simp at z3; omega
  · have := p.sl; simp at z4; omega
end
end Go.G.YtilifcggegabfaaDoor
