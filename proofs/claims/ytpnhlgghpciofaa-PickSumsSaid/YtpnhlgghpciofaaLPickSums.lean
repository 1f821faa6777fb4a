/- Printed by a tool of this work, and the specs by hand. -/
import Derived.Test.YtpnhlgghpciofaaLA
set_option maxRecDepth 100000
namespace Go.G.Ytpnhlgghpciofaa
open Go.RowKit
def f4_J : Nat → List Nat × Nat := jOf [(3, [0, 1, 2, 4, 5, 6, 7, 8, 9, 10, 11, 12, 16, 17, 18, 19, 20, 21, 22, 23, 24, 25, 26, 27, 28, 29, 30, 31, 32, 33, 34, 35, 36, 37, 38, 39, 40, 41, 42, 43, 44, 45, 46, 47, 48, 49, 50, 51, 52, 53, 54, 55, 56, 57, 58, 59, 60, 61, 62, 63, 64, 65, 66, 67, 68, 69, 70, 71, 72, 73, 74, 75, 76, 77, 78, 79, 80, 81, 82, 83, 84, 85, 86, 87, 88, 89, 90, 91], 0), (11, [0, 1, 2, 4, 5, 8, 9, 10, 11, 12, 13, 14, 15, 16, 17, 18, 19, 20, 21, 22, 23, 24, 25, 26, 27, 28, 29, 30, 34, 35, 36, 37, 38, 39, 40, 41, 42, 43, 44, 45, 46, 47, 48, 49, 50, 51, 52, 53, 54, 55, 56, 57, 58, 59, 60, 61, 62, 63, 64, 65, 66, 67, 68, 69, 70, 71, 72, 73, 74, 75, 76, 77, 78, 79, 80, 81, 82, 83, 84, 85, 86, 87, 88, 89, 90, 91], 0), (14, [0, 1, 2, 4, 5, 10, 11, 12, 13, 14, 15, 16, 17, 18, 19, 20, 21, 22, 23, 24, 25, 26, 27, 28, 29, 30, 34, 35, 36, 37, 38, 39, 40, 41, 42, 43, 44, 45, 46, 48, 49, 50, 51, 52, 53, 54, 55, 56, 57, 58, 59, 60, 61, 62, 63, 64, 65, 66, 67, 68, 69, 70, 71, 72, 73, 74, 75, 76, 77, 78, 79, 80, 81, 82, 83, 84, 85, 86, 87, 88, 89, 90, 91], 0), (15, [0, 1, 2, 4, 5, 10, 11, 12, 13, 14, 15, 16, 17, 18, 19, 20, 21, 22, 23, 24, 25, 26, 27, 28, 29, 30, 34, 35, 36, 37, 38, 39, 40, 41, 42, 43, 44, 45, 46, 47, 48, 49, 50, 51, 52, 53, 54, 55, 56, 57, 58, 59, 60, 61, 62, 63, 64, 65, 66, 67, 68, 69, 70, 71, 72, 73, 74, 75, 76, 77, 78, 79, 80, 81, 82, 83, 84, 85, 86, 87, 88, 89, 90, 91], 0), (17, [0, 1, 2, 4, 5, 11, 12, 13, 14, 15, 16, 17, 18, 19, 20, 21, 22, 23, 24, 25, 26, 27, 28, 29, 30, 34, 35, 36, 37, 38, 39, 40, 41, 42, 43, 44, 45, 46, 47, 48, 49, 50, 51, 52, 56, 57, 58, 59, 60, 61, 62, 63, 64, 65, 66, 67, 68, 69, 70, 71, 72, 73, 74, 75, 76, 77, 78, 79, 80, 81, 82, 83, 84, 85, 86, 87, 88, 89, 90, 91], 0), (21, [0, 1, 2, 4, 5, 11, 12, 13, 14, 15, 16, 17, 18, 19, 20, 21, 22, 23, 24, 25, 26, 27, 28, 29, 30, 34, 35, 36, 37, 38, 39, 40, 41, 42, 43, 44, 45, 46, 47, 48, 49, 50, 51, 52, 56, 57, 58, 59, 60, 61, 62, 63, 64, 65, 66, 67, 68, 69, 71, 72, 73, 74, 75, 76, 77, 78, 79, 80, 81, 82, 83, 84, 85, 86, 87, 88, 89, 90, 91], 0), (24, [0, 1, 2, 4, 5, 8, 10, 11, 12, 13, 14, 15, 16, 17, 18, 19, 20, 21, 22, 23, 24, 25, 26, 27, 28, 29, 30, 34, 35, 36, 37, 38, 39, 40, 41, 42, 43, 44, 45, 46, 47, 48, 49, 50, 51, 52, 53, 54, 55, 56, 57, 58, 59, 60, 61, 62, 63, 64, 65, 66, 67, 68, 69, 70, 71, 72, 73, 74, 75, 76, 77, 78, 79, 81, 82, 83, 84, 85, 86, 87, 88, 89, 90, 91], 0)]

def f4_3 (w0 : World) (K : Value → AH → Prop) (a3 : Option Go.Addr) (n3 : Nat) (c3 : Nat) (a13 : Option Go.Addr) (n13 : Nat) (c13 : Nat) (x14 : Int) (x15 : Int) (h : AH) : Prop :=
  ∀ j : Nat → Value, LPk Go.Proofs.Try.prog w0 (EvC Go.Proofs.Try.prog w0) f4_J 4 K 3 [.v (j 0), .v (j 1), .v (j 2), .v (.slice a3 n3 c3), .v (j 4), .v (j 5), .v (j 6), .v (j 7), .v (j 8), .v (j 9), .v (j 10), .v (j 11), .v (j 12), .v (.slice a13 n13 c13), .v (.int .i64 x14), .v (.int .i64 x15), .v (j 16), .v (j 17), .v (j 18), .v (j 19), .v (j 20), .v (j 21), .v (j 22), .v (j 23), .v (j 24), .v (j 25), .v (j 26), .v (j 27), .v (j 28), .v (j 29), .v (j 30), .v (j 31), .v (j 32), .v (j 33), .v (j 34), .v (j 35), .v (j 36), .v (j 37), .v (j 38), .v (j 39), .v (j 40), .v (j 41), .v (j 42), .v (j 43), .v (j 44), .v (j 45), .v (j 46), .v (j 47), .v (j 48), .v (j 49), .v (j 50), .v (j 51), .v (j 52), .v (j 53), .v (j 54), .v (j 55), .v (j 56), .v (j 57), .v (j 58), .v (j 59), .v (j 60), .v (j 61), .v (j 62), .v (j 63), .v (j 64), .v (j 65), .v (j 66), .v (j 67), .v (j 68), .v (j 69), .v (j 70), .v (j 71), .v (j 72), .v (j 73), .v (j 74), .v (j 75), .v (j 76), .v (j 77), .v (j 78), .v (j 79), .v (j 80), .v (j 81), .v (j 82), .v (j 83), .v (j 84), .v (j 85), .v (j 86), .v (j 87), .v (j 88), .v (j 89), .v (j 90), .v (j 91)] [] h

def f4_11 (w0 : World) (K : Value → AH → Prop) (a3 : Option Go.Addr) (n3 : Nat) (c3 : Nat) (x6 : Int) (a7 : Option Go.Addr) (n7 : Nat) (c7 : Nat) (a31 : Option Go.Addr) (n31 : Nat) (c31 : Nat) (x32 : Int) (x33 : Int) (h : AH) : Prop :=
  ∀ j : Nat → Value, LPk Go.Proofs.Try.prog w0 (EvC Go.Proofs.Try.prog w0) f4_J 4 K 11 [.v (j 0), .v (j 1), .v (j 2), .v (.slice a3 n3 c3), .v (j 4), .v (j 5), .v (.int .i64 x6), .v (.slice a7 n7 c7), .v (j 8), .v (j 9), .v (j 10), .v (j 11), .v (j 12), .v (j 13), .v (j 14), .v (j 15), .v (j 16), .v (j 17), .v (j 18), .v (j 19), .v (j 20), .v (j 21), .v (j 22), .v (j 23), .v (j 24), .v (j 25), .v (j 26), .v (j 27), .v (j 28), .v (j 29), .v (j 30), .v (.slice a31 n31 c31), .v (.int .i64 x32), .v (.int .i64 x33), .v (j 34), .v (j 35), .v (j 36), .v (j 37), .v (j 38), .v (j 39), .v (j 40), .v (j 41), .v (j 42), .v (j 43), .v (j 44), .v (j 45), .v (j 46), .v (j 47), .v (j 48), .v (j 49), .v (j 50), .v (j 51), .v (j 52), .v (j 53), .v (j 54), .v (j 55), .v (j 56), .v (j 57), .v (j 58), .v (j 59), .v (j 60), .v (j 61), .v (j 62), .v (j 63), .v (j 64), .v (j 65), .v (j 66), .v (j 67), .v (j 68), .v (j 69), .v (j 70), .v (j 71), .v (j 72), .v (j 73), .v (j 74), .v (j 75), .v (j 76), .v (j 77), .v (j 78), .v (j 79), .v (j 80), .v (j 81), .v (j 82), .v (j 83), .v (j 84), .v (j 85), .v (j 86), .v (j 87), .v (j 88), .v (j 89), .v (j 90), .v (j 91)] [] h

def f4_14 (w0 : World) (K : Value → AH → Prop) (a3 : Option Go.Addr) (n3 : Nat) (c3 : Nat) (x6 : Int) (a7 : Option Go.Addr) (n7 : Nat) (c7 : Nat) (x8 : Int) (x9 : Int) (a31 : Option Go.Addr) (n31 : Nat) (c31 : Nat) (x32 : Int) (x33 : Int) (x47 : Bool) (h : AH) : Prop :=
  ∀ j : Nat → Value, LPk Go.Proofs.Try.prog w0 (EvC Go.Proofs.Try.prog w0) f4_J 4 K 14 [.v (j 0), .v (j 1), .v (j 2), .v (.slice a3 n3 c3), .v (j 4), .v (j 5), .v (.int .i64 x6), .v (.slice a7 n7 c7), .v (.int .i64 x8), .v (.int .i64 x9), .v (j 10), .v (j 11), .v (j 12), .v (j 13), .v (j 14), .v (j 15), .v (j 16), .v (j 17), .v (j 18), .v (j 19), .v (j 20), .v (j 21), .v (j 22), .v (j 23), .v (j 24), .v (j 25), .v (j 26), .v (j 27), .v (j 28), .v (j 29), .v (j 30), .v (.slice a31 n31 c31), .v (.int .i64 x32), .v (.int .i64 x33), .v (j 34), .v (j 35), .v (j 36), .v (j 37), .v (j 38), .v (j 39), .v (j 40), .v (j 41), .v (j 42), .v (j 43), .v (j 44), .v (j 45), .v (j 46), .v (.bool x47), .v (j 48), .v (j 49), .v (j 50), .v (j 51), .v (j 52), .v (j 53), .v (j 54), .v (j 55), .v (j 56), .v (j 57), .v (j 58), .v (j 59), .v (j 60), .v (j 61), .v (j 62), .v (j 63), .v (j 64), .v (j 65), .v (j 66), .v (j 67), .v (j 68), .v (j 69), .v (j 70), .v (j 71), .v (j 72), .v (j 73), .v (j 74), .v (j 75), .v (j 76), .v (j 77), .v (j 78), .v (j 79), .v (j 80), .v (j 81), .v (j 82), .v (j 83), .v (j 84), .v (j 85), .v (j 86), .v (j 87), .v (j 88), .v (j 89), .v (j 90), .v (j 91)] [] h

def f4_15 (w0 : World) (K : Value → AH → Prop) (a3 : Option Go.Addr) (n3 : Nat) (c3 : Nat) (x6 : Int) (a7 : Option Go.Addr) (n7 : Nat) (c7 : Nat) (x8 : Int) (x9 : Int) (a31 : Option Go.Addr) (n31 : Nat) (c31 : Nat) (x32 : Int) (x33 : Int) (h : AH) : Prop :=
  ∀ j : Nat → Value, LPk Go.Proofs.Try.prog w0 (EvC Go.Proofs.Try.prog w0) f4_J 4 K 15 [.v (j 0), .v (j 1), .v (j 2), .v (.slice a3 n3 c3), .v (j 4), .v (j 5), .v (.int .i64 x6), .v (.slice a7 n7 c7), .v (.int .i64 x8), .v (.int .i64 x9), .v (j 10), .v (j 11), .v (j 12), .v (j 13), .v (j 14), .v (j 15), .v (j 16), .v (j 17), .v (j 18), .v (j 19), .v (j 20), .v (j 21), .v (j 22), .v (j 23), .v (j 24), .v (j 25), .v (j 26), .v (j 27), .v (j 28), .v (j 29), .v (j 30), .v (.slice a31 n31 c31), .v (.int .i64 x32), .v (.int .i64 x33), .v (j 34), .v (j 35), .v (j 36), .v (j 37), .v (j 38), .v (j 39), .v (j 40), .v (j 41), .v (j 42), .v (j 43), .v (j 44), .v (j 45), .v (j 46), .v (j 47), .v (j 48), .v (j 49), .v (j 50), .v (j 51), .v (j 52), .v (j 53), .v (j 54), .v (j 55), .v (j 56), .v (j 57), .v (j 58), .v (j 59), .v (j 60), .v (j 61), .v (j 62), .v (j 63), .v (j 64), .v (j 65), .v (j 66), .v (j 67), .v (j 68), .v (j 69), .v (j 70), .v (j 71), .v (j 72), .v (j 73), .v (j 74), .v (j 75), .v (j 76), .v (j 77), .v (j 78), .v (j 79), .v (j 80), .v (j 81), .v (j 82), .v (j 83), .v (j 84), .v (j 85), .v (j 86), .v (j 87), .v (j 88), .v (j 89), .v (j 90), .v (j 91)] [] h

def f4_17 (w0 : World) (K : Value → AH → Prop) (a3 : Option Go.Addr) (n3 : Nat) (c3 : Nat) (x6 : Int) (a7 : Option Go.Addr) (n7 : Nat) (c7 : Nat) (x8 : Int) (x9 : Int) (x10 : Int) (a31 : Option Go.Addr) (n31 : Nat) (c31 : Nat) (x32 : Int) (x33 : Int) (a53 : Option Go.Addr) (n53 : Nat) (c53 : Nat) (x54 : Int) (x55 : Int) (h : AH) : Prop :=
  ∀ j : Nat → Value, LPk Go.Proofs.Try.prog w0 (EvC Go.Proofs.Try.prog w0) f4_J 4 K 17 [.v (j 0), .v (j 1), .v (j 2), .v (.slice a3 n3 c3), .v (j 4), .v (j 5), .v (.int .i64 x6), .v (.slice a7 n7 c7), .v (.int .i64 x8), .v (.int .i64 x9), .v (.int .i64 x10), .v (j 11), .v (j 12), .v (j 13), .v (j 14), .v (j 15), .v (j 16), .v (j 17), .v (j 18), .v (j 19), .v (j 20), .v (j 21), .v (j 22), .v (j 23), .v (j 24), .v (j 25), .v (j 26), .v (j 27), .v (j 28), .v (j 29), .v (j 30), .v (.slice a31 n31 c31), .v (.int .i64 x32), .v (.int .i64 x33), .v (j 34), .v (j 35), .v (j 36), .v (j 37), .v (j 38), .v (j 39), .v (j 40), .v (j 41), .v (j 42), .v (j 43), .v (j 44), .v (j 45), .v (j 46), .v (j 47), .v (j 48), .v (j 49), .v (j 50), .v (j 51), .v (j 52), .v (.slice a53 n53 c53), .v (.int .i64 x54), .v (.int .i64 x55), .v (j 56), .v (j 57), .v (j 58), .v (j 59), .v (j 60), .v (j 61), .v (j 62), .v (j 63), .v (j 64), .v (j 65), .v (j 66), .v (j 67), .v (j 68), .v (j 69), .v (j 70), .v (j 71), .v (j 72), .v (j 73), .v (j 74), .v (j 75), .v (j 76), .v (j 77), .v (j 78), .v (j 79), .v (j 80), .v (j 81), .v (j 82), .v (j 83), .v (j 84), .v (j 85), .v (j 86), .v (j 87), .v (j 88), .v (j 89), .v (j 90), .v (j 91)] [] h

def f4_21 (w0 : World) (K : Value → AH → Prop) (a3 : Option Go.Addr) (n3 : Nat) (c3 : Nat) (x6 : Int) (a7 : Option Go.Addr) (n7 : Nat) (c7 : Nat) (x8 : Int) (x9 : Int) (x10 : Int) (a31 : Option Go.Addr) (n31 : Nat) (c31 : Nat) (x32 : Int) (x33 : Int) (a53 : Option Go.Addr) (n53 : Nat) (c53 : Nat) (x54 : Int) (x55 : Int) (x70 : Bool) (h : AH) : Prop :=
  ∀ j : Nat → Value, LPk Go.Proofs.Try.prog w0 (EvC Go.Proofs.Try.prog w0) f4_J 4 K 21 [.v (j 0), .v (j 1), .v (j 2), .v (.slice a3 n3 c3), .v (j 4), .v (j 5), .v (.int .i64 x6), .v (.slice a7 n7 c7), .v (.int .i64 x8), .v (.int .i64 x9), .v (.int .i64 x10), .v (j 11), .v (j 12), .v (j 13), .v (j 14), .v (j 15), .v (j 16), .v (j 17), .v (j 18), .v (j 19), .v (j 20), .v (j 21), .v (j 22), .v (j 23), .v (j 24), .v (j 25), .v (j 26), .v (j 27), .v (j 28), .v (j 29), .v (j 30), .v (.slice a31 n31 c31), .v (.int .i64 x32), .v (.int .i64 x33), .v (j 34), .v (j 35), .v (j 36), .v (j 37), .v (j 38), .v (j 39), .v (j 40), .v (j 41), .v (j 42), .v (j 43), .v (j 44), .v (j 45), .v (j 46), .v (j 47), .v (j 48), .v (j 49), .v (j 50), .v (j 51), .v (j 52), .v (.slice a53 n53 c53), .v (.int .i64 x54), .v (.int .i64 x55), .v (j 56), .v (j 57), .v (j 58), .v (j 59), .v (j 60), .v (j 61), .v (j 62), .v (j 63), .v (j 64), .v (j 65), .v (j 66), .v (j 67), .v (j 68), .v (j 69), .v (.bool x70), .v (j 71), .v (j 72), .v (j 73), .v (j 74), .v (j 75), .v (j 76), .v (j 77), .v (j 78), .v (j 79), .v (j 80), .v (j 81), .v (j 82), .v (j 83), .v (j 84), .v (j 85), .v (j 86), .v (j 87), .v (j 88), .v (j 89), .v (j 90), .v (j 91)] [] h

def f4_24 (w0 : World) (K : Value → AH → Prop) (a3 : Option Go.Addr) (n3 : Nat) (c3 : Nat) (x6 : Int) (a7 : Option Go.Addr) (n7 : Nat) (c7 : Nat) (x9 : Int) (a31 : Option Go.Addr) (n31 : Nat) (c31 : Nat) (x32 : Int) (x33 : Int) (x80 : Bool) (h : AH) : Prop :=
  ∀ j : Nat → Value, LPk Go.Proofs.Try.prog w0 (EvC Go.Proofs.Try.prog w0) f4_J 4 K 24 [.v (j 0), .v (j 1), .v (j 2), .v (.slice a3 n3 c3), .v (j 4), .v (j 5), .v (.int .i64 x6), .v (.slice a7 n7 c7), .v (j 8), .v (.int .i64 x9), .v (j 10), .v (j 11), .v (j 12), .v (j 13), .v (j 14), .v (j 15), .v (j 16), .v (j 17), .v (j 18), .v (j 19), .v (j 20), .v (j 21), .v (j 22), .v (j 23), .v (j 24), .v (j 25), .v (j 26), .v (j 27), .v (j 28), .v (j 29), .v (j 30), .v (.slice a31 n31 c31), .v (.int .i64 x32), .v (.int .i64 x33), .v (j 34), .v (j 35), .v (j 36), .v (j 37), .v (j 38), .v (j 39), .v (j 40), .v (j 41), .v (j 42), .v (j 43), .v (j 44), .v (j 45), .v (j 46), .v (j 47), .v (j 48), .v (j 49), .v (j 50), .v (j 51), .v (j 52), .v (j 53), .v (j 54), .v (j 55), .v (j 56), .v (j 57), .v (j 58), .v (j 59), .v (j 60), .v (j 61), .v (j 62), .v (j 63), .v (j 64), .v (j 65), .v (j 66), .v (j 67), .v (j 68), .v (j 69), .v (j 70), .v (j 71), .v (j 72), .v (j 73), .v (j 74), .v (j 75), .v (j 76), .v (j 77), .v (j 78), .v (j 79), .v (.bool x80), .v (j 81), .v (j 82), .v (j 83), .v (j 84), .v (j 85), .v (j 86), .v (j 87), .v (j 88), .v (j 89), .v (j 90), .v (j 91)] [] h

theorem f4_3_in {w0 : World} {K : Value → AH → Prop} (a3 : Option Go.Addr) (n3 : Nat) (c3 : Nat) (a13 : Option Go.Addr) (n13 : Nat) (c13 : Nat) (x14 : Int) (x15 : Int) (h : AH)
  (hv : (brB (decide ((x15 < x14))) (∃ a'0 : Go.Addr, ((a13 = (some a'0)) ∧ (((0 : Int) ≤ x15) ∧ ((x15 < ((n13 : Nat) : Int)) ∧ (∃ i'1 : Int, (((Go.G.cellA w0 h (Go.Addr.add a'0 ((Int.toNat x15) * 1))) = (some (Go.Value.int .u16 i'1))) ∧ (brB (decide ((x15 < (300 : Int)))) (App w0 h 1 8 a3 n3 c3 1 [(Go.Value.int .i64 (Go.IntKind.wrap .i64 ((Go.IntKind.wrap .i64 i'1) + (1 : Int))))] (fun a'2 c'3 h'4 => (f4_3 w0 K a'2 (n3 + 1) c'3 a13 n13 c13 x14 (Go.IntKind.wrap .i64 (x15 + (1 : Int))) h'4))) (f4_3 w0 K a3 n3 c3 a13 n13 c13 x14 (Go.IntKind.wrap .i64 (x15 + (1 : Int))) h)))))))) (EvC Go.Proofs.Try.prog w0 15 #[(Go.Value.slice a3 n3 c3)] (fun x'5 h'6 => (∃ p'7 : Option Go.Addr, (∃ n'8 : Nat, (∃ n'9 : Nat, ((x'5 = (Go.Value.slice p'7 n'8 n'9)) ∧ (f4_11 w0 K a3 n3 c3 (0 : Int) p'7 n'8 n'9 p'7 n'8 n'9 ((n'8 : Nat) : Int) (0 : Int) h'6)))))) h))) :
  f4_3 w0 K a3 n3 c3 a13 n13 c13 x14 x15 h := fun j => LP_intro (P := Go.Proofs.Try.prog) (Eq.mp (by kernel_rfl) hv)

theorem f4_11_in {w0 : World} {K : Value → AH → Prop} (a3 : Option Go.Addr) (n3 : Nat) (c3 : Nat) (x6 : Int) (a7 : Option Go.Addr) (n7 : Nat) (c7 : Nat) (a31 : Option Go.Addr) (n31 : Nat) (c31 : Nat) (x32 : Int) (x33 : Int) (h : AH)
  (hv : (brB (decide ((x33 < x32))) (∃ a'10 : Go.Addr, ((a31 = (some a'10)) ∧ (((0 : Int) ≤ x33) ∧ ((x33 < ((n31 : Nat) : Int)) ∧ (∃ i'11 : Int, (((Go.G.cellA w0 h (Go.Addr.add a'10 ((Int.toNat x33) * 1))) = (some (Go.Value.int .i64 i'11))) ∧ (brB (decide ((i'11 < (1 : Int)))) (f4_14 w0 K a3 n3 c3 x6 a7 n7 c7 x33 i'11 a31 n31 c31 x32 x33 true h) (f4_14 w0 K a3 n3 c3 x6 a7 n7 c7 x33 i'11 a31 n31 c31 x32 x33 (decide (((Go.IntKind.wrap .i64 (((n3 : Nat) : Int) - x6)) < i'11))) h)))))))) (brB (x6 == ((n3 : Nat) : Int)) (EvC Go.Proofs.Try.prog w0 17 #[] (fun x'12 h'13 => (∃ t'14 : Bool, ((x'12 = (Go.Value.bool t'14)) ∧ (K (Go.Value.bool t'14) h'13)))) h) (K (Go.Value.bool false) h)))) :
  f4_11 w0 K a3 n3 c3 x6 a7 n7 c7 a31 n31 c31 x32 x33 h := fun j => LP_intro (P := Go.Proofs.Try.prog) (Eq.mp (by kernel_rfl) hv)

theorem f4_14_in {w0 : World} {K : Value → AH → Prop} (a3 : Option Go.Addr) (n3 : Nat) (c3 : Nat) (x6 : Int) (a7 : Option Go.Addr) (n7 : Nat) (c7 : Nat) (x8 : Int) (x9 : Int) (a31 : Option Go.Addr) (n31 : Nat) (c31 : Nat) (x32 : Int) (x33 : Int) (x47 : Bool) (h : AH)
  (hv : (brB x47 (K (Go.Value.bool false) h) (f4_15 w0 K a3 n3 c3 x6 a7 n7 c7 x8 x9 a31 n31 c31 x32 x33 h))) :
  f4_14 w0 K a3 n3 c3 x6 a7 n7 c7 x8 x9 a31 n31 c31 x32 x33 x47 h := fun j => LP_intro (P := Go.Proofs.Try.prog) (Eq.mp (by kernel_rfl) hv)

theorem f4_15_in {w0 : World} {K : Value → AH → Prop} (a3 : Option Go.Addr) (n3 : Nat) (c3 : Nat) (x6 : Int) (a7 : Option Go.Addr) (n7 : Nat) (c7 : Nat) (x8 : Int) (x9 : Int) (a31 : Option Go.Addr) (n31 : Nat) (c31 : Nat) (x32 : Int) (x33 : Int) (h : AH)
  (hv : (((0 : Int) ≤ x6) ∧ ((x6 ≤ (Go.IntKind.wrap .i64 (x6 + x9))) ∧ (((Go.IntKind.wrap .i64 (x6 + x9)) ≤ ((c3 : Nat) : Int)) ∧ (f4_17 w0 K a3 n3 c3 x6 a7 n7 c7 x8 x9 (0 : Int) a31 n31 c31 x32 x33 (Go.G.cutA 1 a3 c3 (Int.toNat x6)) ((Int.toNat (Go.IntKind.wrap .i64 (x6 + x9))) - (Int.toNat x6)) (c3 - (Int.toNat x6)) ((((Int.toNat (Go.IntKind.wrap .i64 (x6 + x9))) - (Int.toNat x6)) : Nat) : Int) (0 : Int) h))))) :
  f4_15 w0 K a3 n3 c3 x6 a7 n7 c7 x8 x9 a31 n31 c31 x32 x33 h := fun j => LP_intro (P := Go.Proofs.Try.prog) (Eq.mp (by kernel_rfl) hv)

theorem f4_17_in {w0 : World} {K : Value → AH → Prop} (a3 : Option Go.Addr) (n3 : Nat) (c3 : Nat) (x6 : Int) (a7 : Option Go.Addr) (n7 : Nat) (c7 : Nat) (x8 : Int) (x9 : Int) (x10 : Int) (a31 : Option Go.Addr) (n31 : Nat) (c31 : Nat) (x32 : Int) (x33 : Int) (a53 : Option Go.Addr) (n53 : Nat) (c53 : Nat) (x54 : Int) (x55 : Int) (h : AH)
  (hv : (brB (decide ((x55 < x54))) (∃ a'15 : Go.Addr, ((a53 = (some a'15)) ∧ (((0 : Int) ≤ x55) ∧ ((x55 < ((n53 : Nat) : Int)) ∧ (∃ i'16 : Int, (((Go.G.cellA w0 h (Go.Addr.add a'15 ((Int.toNat x55) * 1))) = (some (Go.Value.int .i64 i'16))) ∧ (brB (decide (((1024 : Int) ≤ (Go.IntKind.wrap .i64 (x10 + i'16))))) (f4_21 w0 K a3 n3 c3 x6 a7 n7 c7 x8 x9 (Go.IntKind.wrap .i64 (x10 + i'16)) a31 n31 c31 x32 x33 a53 n53 c53 x54 x55 (decide (((Go.IntKind.wrap .i64 (x55 + (1 : Int))) < x9))) h) (f4_21 w0 K a3 n3 c3 x6 a7 n7 c7 x8 x9 (Go.IntKind.wrap .i64 (x10 + i'16)) a31 n31 c31 x32 x33 a53 n53 c53 x54 x55 false h)))))))) (brB (decide ((x10 < (1024 : Int)))) (f4_24 w0 K a3 n3 c3 x6 a7 n7 c7 x9 a31 n31 c31 x32 x33 (decide (((Go.IntKind.wrap .i64 (x8 + (1 : Int))) < ((n7 : Nat) : Int)))) h) (f4_24 w0 K a3 n3 c3 x6 a7 n7 c7 x9 a31 n31 c31 x32 x33 false h)))) :
  f4_17 w0 K a3 n3 c3 x6 a7 n7 c7 x8 x9 x10 a31 n31 c31 x32 x33 a53 n53 c53 x54 x55 h := fun j => LP_intro (P := Go.Proofs.Try.prog) (Eq.mp (by kernel_rfl) hv)

theorem f4_21_in {w0 : World} {K : Value → AH → Prop} (a3 : Option Go.Addr) (n3 : Nat) (c3 : Nat) (x6 : Int) (a7 : Option Go.Addr) (n7 : Nat) (c7 : Nat) (x8 : Int) (x9 : Int) (x10 : Int) (a31 : Option Go.Addr) (n31 : Nat) (c31 : Nat) (x32 : Int) (x33 : Int) (a53 : Option Go.Addr) (n53 : Nat) (c53 : Nat) (x54 : Int) (x55 : Int) (x70 : Bool) (h : AH)
  (hv : (brB x70 (K (Go.Value.bool false) h) (f4_17 w0 K a3 n3 c3 x6 a7 n7 c7 x8 x9 x10 a31 n31 c31 x32 x33 a53 n53 c53 x54 (Go.IntKind.wrap .i64 (x55 + (1 : Int))) h))) :
  f4_21 w0 K a3 n3 c3 x6 a7 n7 c7 x8 x9 x10 a31 n31 c31 x32 x33 a53 n53 c53 x54 x55 x70 h := fun j => LP_intro (P := Go.Proofs.Try.prog) (Eq.mp (by kernel_rfl) hv)

theorem f4_24_in {w0 : World} {K : Value → AH → Prop} (a3 : Option Go.Addr) (n3 : Nat) (c3 : Nat) (x6 : Int) (a7 : Option Go.Addr) (n7 : Nat) (c7 : Nat) (x9 : Int) (a31 : Option Go.Addr) (n31 : Nat) (c31 : Nat) (x32 : Int) (x33 : Int) (x80 : Bool) (h : AH)
  (hv : (brB x80 (K (Go.Value.bool false) h) (f4_11 w0 K a3 n3 c3 (Go.IntKind.wrap .i64 (x6 + x9)) a7 n7 c7 a31 n31 c31 x32 (Go.IntKind.wrap .i64 (x33 + (1 : Int))) h))) :
  f4_24 w0 K a3 n3 c3 x6 a7 n7 c7 x9 a31 n31 c31 x32 x33 x80 h := fun j => LP_intro (P := Go.Proofs.Try.prog) (Eq.mp (by kernel_rfl) hv)

theorem f4_go {w0 : World} {K : Value → AH → Prop} (a0 : Option Go.Addr) (n0 : Nat) (c0 : Nat) (h : AH)
  (hv : (f4_3 w0 K none 0 0 a0 n0 c0 ((n0 : Nat) : Int) (0 : Int) h)) :
  EvC Go.Proofs.Try.prog w0 4 ([(.slice a0 n0 c0)]).toArray K h := EvC_intro (P := Go.Proofs.Try.prog) f4_J (Eq.mp (by kernel_rfl) hv)
def u16s (l : List Int) : List Value := l.map (.int .u16)

theorem splits_some : ∀ (l : List Int) (cnt room : Int), (∀ v ∈ l, 1 ≤ v) → ∃ s, splits cnt room l = some s
  | [], cnt, room, _ => ⟨_, rfl⟩
  | v :: r, cnt, room, h => by
    have hv : ¬ v < 1 := by have := h v (.head _); omega
    obtain ⟨s, hs⟩ := splits_some r 0 1024 (fun x hx => h x (.tail _ hx))
    obtain ⟨s', hs'⟩ := splits_some r (cnt + 1) (room - v) (fun x hx => h x (.tail _ hx))
    simp only [splits, if_neg hv, hs, hs']
    split <;> exact ⟨_, rfl⟩

theorem splits_nil : ∀ (l : List Int) (cnt room : Int), 0 ≤ cnt → splits cnt room l = some [] → l = []
  | [], _, _, _, _ => rfl
  | v :: r, cnt, room, h0, h => by
    simp only [splits] at h
    split at h
    · cases h
    · split at h
      · cases hq : splits 0 1024 r with
        | none => rw [hq] at h; cases h
        | some s => rw [hq] at h; simp at h
      · have h1 := splits_nil r (cnt + 1) (room - v) (by omega) h
        subst h1
        have : 0 < cnt + 1 := by omega
        simp [splits, this] at h

theorem splits_head : ∀ (l : List Int) (cnt room n : Int) (ns : List Int), (∀ v ∈ l, 1 ≤ v) → 0 ≤ cnt → 1 ≤ room → splits cnt room l = some (n :: ns) →
    ∃ k : Nat, n = cnt + k ∧ k ≤ l.length ∧ (0 < cnt ∨ 0 < k) ∧ (∀ j, j < k → (l.take j).sum < room) ∧ splits 0 1024 (l.drop k) = some ns ∧ (room ≤ (l.take k).sum ∨ ns = [])
  | [], cnt, room, n, ns, _, h0, h1, h => by
    simp only [splits, Option.some.injEq] at h
    split at h
    · rename_i hc
      simp only [List.cons.injEq] at h
      exact ⟨0, by omega, by simp, .inl hc, by simp, by rw [← h.2]; rfl, .inr h.2.symm⟩
    · cases h
  | v :: r, cnt, room, n, ns, hall, h0, h1, h => by
    have hv : ¬ v < 1 := by have := hall v (.head _); omega
    simp only [splits, if_neg hv] at h
    split at h
    · rename_i hr
      cases hq : splits 0 1024 r with
      | none => rw [hq] at h; cases h
      | some s =>
        rw [hq] at h
        simp only [Option.map_some, Option.some.injEq, List.cons.injEq] at h
        refine ⟨1, by omega, by simp, .inr (by omega), fun j hj => ?_, ?_, .inl (by simpa using hr)⟩
        · have : j = 0 := by omega
          subst this; simp; omega
        · simp [hq, h.2]
    · rename_i hr
      obtain ⟨k, e1, e2, _, e3, e4, e5⟩ := splits_head r (cnt + 1) (room - v) n ns (fun x hx => hall x (.tail _ hx)) (by omega) (by omega) h
      refine ⟨k + 1, by omega, by simp; omega, .inr (by omega), fun j hj => ?_, by simpa using e4, ?_⟩
      · cases j with
        | zero => simp; omega
        | succ j =>
          have := e3 j (by omega)
          simp only [List.take_succ_cons, List.sum_cons]
          omega
      · rcases e5 with e5 | e5
        · left; simp only [List.take_succ_cons, List.sum_cons]; omega
        · exact .inr e5

theorem cutA_add {a : Option Addr} {ad : Addr} {c l j : Nat} (ha : a = some ad) (hne : c ≠ l) : ∃ ad', cutA 1 a c l = some ad' ∧ ad'.add j = ad.add (l + j) := by
  subst ha
  refine ⟨ad.add (l * 1), by simp [cutA, hne], ?_⟩
  unfold Addr.add
  by_cases h1 : l = 0
  · subst h1; simp
  · by_cases h2 : j = 0
    · subst h2; simp [h1]
    · have : ¬ l + j = 0 := by omega
      simp [h1, h2]
      omega

section
variable {w0 : World} {K : Value → AH → Prop} {h0 h : AH} {L s : List Int} {a3 a7 a31 : Option Addr} {c3 c7 c31 n7 : Nat}
variable (hk : ∀ h', Ext h0 h' none → K (.bool true) h') (hx : Ext h0 h none) (hL : Sl w0 h 1 a3 L.length c3 (ints L)) (hs : Sl w0 h 1 a31 s.length c31 (ints s)) (hn7 : n7 = s.length)
  (hall : ∀ v ∈ L, 1 ≤ v ∧ v ≤ 65536) (hlen : L.length ≤ 300)
include hk hx hL hs hn7 hall hlen

theorem f4_11_ok : ∀ (todo done : List Int) (at' : Nat), s = done ++ todo → at' ≤ L.length → splits 0 1024 (L.drop at') = some todo → (done.length ≤ at') →
    f4_11 w0 K a3 L.length c3 ((at' : Nat) : Int) a7 n7 c7 a31 s.length c31 ((s.length : Nat) : Int) ((done.length : Nat) : Int) h := by
  intro todo
  induction todo with
  | nil =>
    intro done at' hsd hat hsp hdl
    have hnil := splits_nil _ _ _ (by omega) hsp
    have hat' : at' = L.length := by
      have := congrArg List.length hnil
      simp at this
      omega
    subst hat'
    have : s.length = done.length := by rw [hsd]; simp
    refine f4_11_in _ _ _ _ _ _ _ _ _ _ _ _ _ (brB_of (fun t => by simp at t; omega) fun _ => brB_of (fun _ => ?_) fun t => by simp at t)
    exact f17_spec fun h' hx' => ⟨true, rfl, hk h' (hx.trans hx')⟩
  | cons n ns ih =>
    intro done at' hsd hat hsp hdl
    have hsl' : s.length = done.length + (ns.length + 1) := by rw [hsd]; simp
    have hnth : s[done.length]? = some n := by rw [hsd]; simp
    have hdrop : ∀ v ∈ L.drop at', 1 ≤ v := fun v hv => (hall v (List.mem_of_mem_drop hv)).1
    obtain ⟨k, e1, e2, e3, e4, e5, e6⟩ := splits_head _ _ _ _ _ hdrop (by omega) (by omega) hsp
    have e2' : at' + k ≤ L.length := by simp at e2; omega
    have hkpos : 0 < k := by omega
    have hnk : n = k := by omega
    have hsum : (done.length : Nat) ≤ at' := hdl
    have hlc : L.length ≤ c3 := hL.2.1
    -- the inner loop
    have inner : ∀ (m j : Nat), j + m = k → f4_17 w0 K a3 L.length c3 ((at' : Nat) : Int) a7 n7 c7 ((done.length : Nat) : Int) n (((L.drop at').take j).sum) a31 s.length c31 ((s.length : Nat) : Int) ((done.length : Nat) : Int)
        (cutA 1 a3 c3 at') k (c3 - at') ((k : Nat) : Int) ((j : Nat) : Int) h := by
      intro m
      induction m with
      | zero =>
        intro j hj
        have hjk : j = k := by omega
        subst hjk
        refine f4_17_in _ _ _ _ _ _ _ _ _ _ _ _ _ _ _ _ _ _ _ _ _ (brB_of (fun t => by simp at t) fun _ => ?_)
        have fin : ∀ t : Bool, t = false → f4_24 w0 K a3 L.length c3 ((at' : Nat) : Int) a7 n7 c7 n a31 s.length c31 ((s.length : Nat) : Int) ((done.length : Nat) : Int) t h := by
          intro t ht
          refine f4_24_in _ _ _ _ _ _ _ _ _ _ _ _ _ _ _ (brB_of (fun q => by rw [ht] at q; cases q) fun _ => ?_)
          have w1 : IntKind.i64.wrap (((at' : Nat) : Int) + n) = ((at' + j : Nat) : Int) := by rw [wrap64 (by omega) (by omega)]; omega
          have w2 : IntKind.i64.wrap (((done.length : Nat) : Int) + 1) = (((done ++ [n]).length : Nat) : Int) := by rw [wrap64 (by omega) (by omega)]; simp
          rw [w1, w2]
          exact ih (done ++ [n]) (at' + j) (by rw [hsd]; simp) e2' (by rw [← List.drop_drop]; exact e5) (by simp; omega)
        refine brB_of (fun t => fin _ ?_) fun _ => fin _ rfl
        have ht : ((L.drop at').take j).sum < 1024 := by simpa using t
        rcases e6 with e6 | e6
        · omega
        · subst e6
          have : IntKind.i64.wrap (((done.length : Nat) : Int) + 1) = ((done.length : Nat) : Int) + 1 := wrap64 (by omega) (by omega)
          rw [this, hn7]
          simp at hsl' ⊢
          omega
      | succ m ih2 =>
        intro j hj
        have hjlt : at' + j < L.length := by omega
        have hget : L[at' + j]? = some L[at' + j] := List.getElem?_eq_getElem hjlt
        obtain ⟨ad, had, hc⟩ := hL.rd _ _ (ints_get hget)
        obtain ⟨ad', hcut, hadd⟩ := cutA_add (c := c3) (l := at') (j := j) had (by omega)
        have hb := hall _ (List.mem_of_getElem? hget)
        have htake : ((L.drop at').take (j + 1)).sum = ((L.drop at').take j).sum + L[at' + j] := by
          rw [List.take_add_one, List.sum_append]
          simp [hjlt]
        have hlt := e4 j (by omega)
        have hnn : 0 ≤ ((L.drop at').take j).sum := by
          have : ∀ l : List Int, (∀ v ∈ l, 1 ≤ v) → 0 ≤ l.sum := by
            intro l
            induction l with
            | nil => intro _; simp
            | cons x l ihl => intro hx; have := ihl (fun v hv => hx v (.tail _ hv)); have := hx x (.head _); simp; omega
          exact this _ fun v hv => hdrop v (List.mem_of_mem_take hv)
        refine f4_17_in _ _ _ _ _ _ _ _ _ _ _ _ _ _ _ _ _ _ _ _ _ (brB_of (fun _ => ⟨ad', hcut, by omega, by omega, L[at' + j], ?_, ?_⟩) fun t => by simp at t; omega)
        · simp only [Int.toNat_natCast, Nat.mul_one]
          rw [hadd]; exact hc
        have w1 : IntKind.i64.wrap (((L.drop at').take j).sum + L[at' + j]) = ((L.drop at').take (j + 1)).sum := by rw [wrap64 (by omega) (by omega), htake]
        have w2 : IntKind.i64.wrap (((j : Nat) : Int) + 1) = ((j + 1 : Nat) : Int) := by rw [wrap64 (by omega) (by omega)]; simp
        rw [w1, w2]
        have fin : ∀ t : Bool, t = false → f4_21 w0 K a3 L.length c3 ((at' : Nat) : Int) a7 n7 c7 ((done.length : Nat) : Int) n (((L.drop at').take (j + 1)).sum) a31 s.length c31 ((s.length : Nat) : Int) ((done.length : Nat) : Int)
            (cutA 1 a3 c3 at') k (c3 - at') ((k : Nat) : Int) ((j : Nat) : Int) t h := by
          intro t ht
          refine f4_21_in _ _ _ _ _ _ _ _ _ _ _ _ _ _ _ _ _ _ _ _ _ _ (brB_of (fun q => by rw [ht] at q; cases q) fun _ => ?_)
          rw [w2]
          exact ih2 (j + 1) (by omega)
        refine brB_of (fun t => fin _ ?_) fun _ => fin _ rfl
        have ht : 1024 ≤ ((L.drop at').take (j + 1)).sum := by simpa using t
        have : ¬ j + 1 < k := fun q => by have := e4 (j + 1) q; omega
        simp
        omega
    obtain ⟨ad, had, hc⟩ := hs.rd _ _ (ints_get hnth)
    have w3 : IntKind.i64.wrap (((L.length : Nat) : Int) - ((at' : Nat) : Int)) = ((L.length : Nat) : Int) - ((at' : Nat) : Int) := wrap64 (by omega) (by omega)
    have w4 : IntKind.i64.wrap (((at' : Nat) : Int) + n) = ((at' + k : Nat) : Int) := by rw [wrap64 (by omega) (by omega)]; omega
    refine f4_11_in _ _ _ _ _ _ _ _ _ _ _ _ _ (brB_of (fun _ => ⟨ad, had, by omega, by omega, n, by simpa using hc, brB_of (fun t => by simp at t; omega) fun _ => ?_⟩) fun t => by simp at t; omega)
    refine f4_14_in _ _ _ _ _ _ _ _ _ _ _ _ _ _ _ _ (brB_of (fun t => by rw [w3] at t; simp at t; omega) fun _ => ?_)
    refine f4_15_in _ _ _ _ _ _ _ _ _ _ _ _ _ _ _ ⟨by omega, by rw [w4]; omega, by rw [w4]; omega, ?_⟩
    rw [w4]
    have hi := inner k 0 (by omega)
    have e7 : Int.toNat ((at' + k : Nat) : Int) - Int.toNat ((at' : Nat) : Int) = k := by omega
    rw [e7, Int.toNat_natCast]
    exact hi
end

theorem f4_3_ok {w0 : World} {K : Value → AH → Prop} {h0 : AH} {ws : List Int} {a13 : Option Addr} {c13 : Nat} (hk : ∀ h', Ext h0 h' none → K (.bool true) h') (hw : Rs w0 h0 a13 (u16s ws))
    (hin : ∀ x ∈ ws, 0 ≤ x ∧ x ≤ 65535) (hlen : ws.length ≤ 9000000000000000) :
    ∀ (rest pre : List Int) (a3 : Option Addr) (n3 c3 : Nat) (h : AH), ws = pre ++ rest → n3 = min pre.length 300 → Sl w0 h 1 a3 n3 c3 (ints ((pre.take 300).map (· + 1))) → Ext h0 h none → New h0 a3 →
      f4_3 w0 K a3 n3 c3 a13 ws.length c13 ((ws.length : Nat) : Int) ((pre.length : Nat) : Int) h := by
  intro rest
  induction rest with
  | nil =>
    intro pre a3 n3 c3 h hws hn hs hx hnew
    have hl : ws.length = pre.length := by rw [hws]; simp
    refine f4_3_in _ _ _ _ _ _ _ _ _ (brB_of (fun t => by simp at t; omega) fun _ => ?_)
    have hL : n3 = ((pre.take 300).map (· + 1)).length := by simp; omega
    have hall : ∀ v ∈ (pre.take 300).map (· + 1), 1 ≤ v ∧ v ≤ 65536 := fun v hv => by
      obtain ⟨x, hx, rfl⟩ := List.mem_map.1 hv
      have := hin x (by rw [hws]; simp; exact List.mem_of_mem_take hx)
      omega
    have hlen3 : ((pre.take 300).map (· + 1)).length ≤ 300 := by simp; omega
    generalize hLdef : (pre.take 300).map (· + 1) = L at *
    subst hL
    refine f15_spec (ws := L) hs.rs (by omega) (fun x hx => by have := hall x hx; omega) fun a n c h' hs' hx' hnew' => ⟨a, n, c, rfl, ?_⟩
    obtain ⟨s, hsp⟩ := splits_some L 0 1024 (fun v hv => (hall v hv).1)
    have he : splitsOf L = s := by simp [splitsOf, hsp]
    rw [he] at hs'
    have hn : n = s.length := by have := hs'.1; simp [ints] at this; omega
    subst hn
    exact f4_11_ok hk (hx.trans hx') (hs.ext hx') hs' rfl hall hlen3 s [] 0 rfl (by omega) (by simpa using hsp) (by simp)
  | cons v r ih =>
    intro pre a3 n3 c3 h hws hn hs hx hnew
    have hl : ws.length = pre.length + (r.length + 1) := by rw [hws]; simp
    have hv : ws[pre.length]? = some v := by rw [hws]; simp
    have hvb := hin v (by rw [hws]; simp)
    have hget : (u16s ws)[pre.length]? = some (.int .u16 v) := by simp [u16s, hv]
    obtain ⟨ad, had, hc⟩ := (hw h hx) _ _ hget
    have w1 : IntKind.i64.wrap (((pre.length : Nat) : Int) + 1) = (((pre ++ [v]).length : Nat) : Int) := by rw [wrap64 (by omega) (by omega)]; simp
    refine f4_3_in _ _ _ _ _ _ _ _ _ (brB_of (fun _ => ⟨ad, had, by omega, by omega, v, by simpa using hc, brB_of (fun t => ?_) fun t => ?_⟩) fun t => by simp at t; omega)
    · have hlt : pre.length < 300 := by simp at t; omega
      have w2 : IntKind.i64.wrap (IntKind.i64.wrap v + 1) = v + 1 := by rw [wrap64 (x := v) (by omega) (by omega), wrap64 (by omega) (by omega)]
      rw [w1, w2]
      refine App_own hs (by omega) (by omega) (by simp) (by simp [Value.oneCell']) fun a' c' h' hs' hx' hf' => ?_
      refine ih (pre ++ [v]) a' (n3 + 1) c' h' (by rw [hws]; simp) (by simp; omega) ?_ (hx.past hnew hx') (hnew.grown hx hf')
      have e1 : pre.take 300 = pre := List.take_of_length_le (by omega)
      have e2 : (pre ++ [v]).take 300 = pre ++ [v] := List.take_of_length_le (by simp; omega)
      rw [e1] at hs'
      rw [e2]
      simpa [ints] using hs'
    · have hge : ¬ pre.length < 300 := by simp at t; omega
      rw [w1]
      refine ih (pre ++ [v]) a3 n3 c3 h (by rw [hws]; simp) (by simp; omega) ?_ hx hnew
      have e2 : (pre ++ [v]).take 300 = pre.take 300 := by rw [List.take_append_of_le_length (by omega)]
      rw [e2]; exact hs

/-- PickSums holds. -/
theorem f4_spec {w0 : World} {K : Value → AH → Prop} {h : AH} {ws : List Int} {a : Option Addr} {c : Nat} (hk : ∀ h', Ext h h' none → K (.bool true) h') (hw : Rs w0 h a (u16s ws))
    (hin : ∀ x ∈ ws, 0 ≤ x ∧ x ≤ 65535) (hlen : ws.length ≤ 9000000000000000) : EvC Go.Proofs.Try.prog w0 4 #[.slice a ws.length c] K h :=
  f4_go _ _ _ _ (f4_3_ok hk hw hin hlen ws [] none 0 0 h rfl (by simp) (by simpa [ints] using Sl.nil) (Ext.refl _ _) New.none)
end Go.G.Ytpnhlgghpciofaa
