/- SchemaLess. -/
import Derived.Test.YtilifcggegabfaaDoorCB
import Derived.Test.YtilifcggegabfaaDoorProg
set_option maxRecDepth 100000
namespace Go.G.YtilifcggegabfaaDoor
open Go.RowKit
open Value (string slice int bool agg)
def f7_J : Nat → List Nat × Nat := jOf [(2, [0, 3, 4, 5, 6, 7, 8, 9, 10, 11, 12, 13, 14, 15, 16, 17, 18, 19, 20, 21, 22, 23, 24, 25, 27, 28, 29, 30, 31, 32, 33, 34, 35, 36, 37, 38, 39, 40, 41, 42, 43, 44, 45, 46, 47, 48, 49, 50, 51, 52, 53, 54, 55, 56, 57, 58, 59, 60, 61, 62, 63, 64, 65, 66, 67, 68, 69, 70, 71, 72, 73, 74, 75, 76, 77, 78, 79, 80, 81, 82, 83, 84, 85, 86, 87, 88, 89, 90, 91, 92, 93, 94, 95, 96, 97, 98, 99, 100, 101, 102, 103, 104, 105, 106, 107, 108, 109, 110, 111, 112, 113, 114, 115, 116, 117, 118, 119, 120, 121], 1), (3, [0, 3, 4, 5, 6, 7, 8, 9, 10, 11, 12, 13, 14, 15, 16, 17, 18, 19, 20, 21, 22, 23, 24, 25, 26, 27, 28, 29, 30, 31, 32, 33, 34, 35, 36, 37, 38, 39, 40, 41, 42, 43, 44, 45, 46, 47, 48, 49, 50, 51, 52, 53, 54, 55, 56, 57, 58, 59, 60, 61, 62, 63, 64, 65, 66, 67, 68, 69, 70, 71, 72, 73, 74, 75, 76, 77, 78, 79, 80, 81, 82, 83, 84, 85, 86, 87, 88, 89, 90, 91, 92, 93, 94, 95, 96, 97, 98, 99, 100, 101, 102, 103, 104, 105, 106, 107, 108, 109, 110, 111, 112, 113, 114, 115, 116, 117, 118, 119, 120, 121], 1), (9, [0, 1, 3, 4, 7, 8, 9, 10, 11, 12, 13, 14, 15, 16, 17, 18, 19, 20, 21, 22, 23, 24, 25, 26, 27, 28, 29, 30, 31, 32, 33, 34, 35, 36, 37, 38, 39, 40, 41, 42, 43, 44, 45, 46, 47, 48, 49, 50, 51, 52, 53, 54, 55, 56, 57, 58, 59, 60, 61, 62, 63, 64, 65, 66, 67, 68, 69, 70, 71, 72, 73, 74, 75, 76, 77, 78, 79, 80, 81, 83, 84, 85, 86, 87, 88, 89, 90, 91, 92, 93, 94, 95, 96, 97, 98, 99, 100, 101, 102, 103, 104, 105, 106, 107, 108, 109, 110, 111, 112, 113, 114, 115, 116, 117, 118, 119, 120, 121], 2), (10, [0, 1, 3, 4, 7, 8, 9, 10, 11, 12, 13, 14, 15, 16, 17, 18, 19, 20, 21, 22, 23, 24, 25, 26, 27, 28, 29, 30, 31, 32, 33, 34, 35, 36, 37, 38, 39, 40, 41, 42, 43, 44, 45, 46, 47, 48, 49, 50, 51, 52, 53, 54, 55, 56, 57, 58, 59, 60, 61, 62, 63, 64, 65, 66, 67, 68, 69, 70, 71, 72, 73, 74, 75, 76, 77, 78, 79, 80, 81, 82, 83, 84, 85, 86, 87, 88, 89, 90, 91, 92, 93, 94, 95, 96, 97, 98, 99, 100, 101, 102, 103, 104, 105, 106, 107, 108, 109, 110, 111, 112, 113, 114, 115, 116, 117, 118, 119, 120, 121], 2), (11, [0, 1, 3, 4, 7, 8, 9, 10, 11, 12, 13, 14, 15, 16, 17, 18, 19, 20, 21, 22, 23, 24, 25, 26, 27, 28, 29, 30, 31, 32, 33, 34, 35, 36, 37, 38, 39, 40, 41, 42, 43, 44, 45, 46, 47, 48, 49, 50, 51, 52, 53, 54, 55, 56, 57, 58, 59, 60, 61, 62, 63, 64, 65, 66, 67, 68, 69, 70, 71, 72, 73, 74, 75, 76, 77, 78, 79, 80, 81, 82, 86, 87, 88, 89, 90, 91, 92, 93, 94, 95, 96, 97, 98, 99, 100, 101, 102, 103, 104, 105, 106, 107, 108, 109, 110, 111, 112, 113, 114, 115, 116, 117, 118, 119, 120, 121], 2), (14, [0, 1, 3, 4, 7, 8, 9, 10, 11, 12, 13, 14, 15, 16, 17, 18, 19, 20, 21, 22, 23, 24, 25, 26, 27, 28, 29, 30, 31, 32, 33, 34, 35, 36, 37, 38, 39, 40, 41, 42, 43, 44, 45, 46, 47, 48, 49, 50, 51, 52, 53, 54, 55, 56, 57, 58, 59, 60, 61, 62, 63, 64, 65, 66, 67, 68, 69, 70, 71, 72, 73, 74, 75, 76, 77, 78, 79, 80, 81, 82, 86, 87, 88, 89, 90, 91, 92, 93, 94, 95, 96, 97, 98, 99, 100, 101, 103, 104, 105, 106, 107, 108, 109, 110, 111, 112, 113, 114, 115, 116, 117, 118, 119, 120, 121], 2)]

def f7_2 (w0 : World) (K : Value → AH → Prop) (a : Int) (b : Bool) (c : Int) (d : Option Addr) (e : Nat) (g : Nat) (i : Option Addr) (k : Nat) (m : Nat) (h : AH) : Prop :=
  ∀ j : Nat → Value, LPk Proofs.Tryd.prog w0 (EvC Proofs.Tryd.prog w0) f7_J 7 K 2 [.v (j 0), .v (.int .i64 a), .bp 0 0, .v (j 3), .v (j 4), .v (j 5), .v (j 6), .v (j 7), .v (j 8), .v (j 9), .v (j 10), .v (j 11), .v (j 12), .v (j 13), .v (j 14), .v (j 15), .v (j 16), .v (j 17), .v (j 18), .v (j 19), .v (j 20), .v (j 21), .v (j 22), .v (j 23), .v (j 24), .v (j 25), .v (.bool b), .v (j 27), .v (j 28), .v (j 29), .v (j 30), .v (j 31), .v (j 32), .v (j 33), .v (j 34), .v (j 35), .v (j 36), .v (j 37), .v (j 38), .v (j 39), .v (j 40), .v (j 41), .v (j 42), .v (j 43), .v (j 44), .v (j 45), .v (j 46), .v (j 47), .v (j 48), .v (j 49), .v (j 50), .v (j 51), .v (j 52), .v (j 53), .v (j 54), .v (j 55), .v (j 56), .v (j 57), .v (j 58), .v (j 59), .v (j 60), .v (j 61), .v (j 62), .v (j 63), .v (j 64), .v (j 65), .v (j 66), .v (j 67), .v (j 68), .v (j 69), .v (j 70), .v (j 71), .v (j 72), .v (j 73), .v (j 74), .v (j 75), .v (j 76), .v (j 77), .v (j 78), .v (j 79), .v (j 80), .v (j 81), .v (j 82), .v (j 83), .v (j 84), .v (j 85), .v (j 86), .v (j 87), .v (j 88), .v (j 89), .v (j 90), .v (j 91), .v (j 92), .v (j 93), .v (j 94), .v (j 95), .v (j 96), .v (j 97), .v (j 98), .v (j 99), .v (j 100), .v (j 101), .v (j 102), .v (j 103), .v (j 104), .v (j 105), .v (j 106), .v (j 107), .v (j 108), .v (j 109), .v (j 110), .v (j 111), .v (j 112), .v (j 113), .v (j 114), .v (j 115), .v (j 116), .v (j 117), .v (j 118), .v (j 119), .v (j 120), .v (j 121)] [some [(.int .i64 c), (.slice d e g), (.slice i k m)]] h

def f7_3 (w0 : World) (K : Value → AH → Prop) (a : Int) (b : Int) (c : Option Addr) (d : Nat) (e : Nat) (g : Option Addr) (i : Nat) (k : Nat) (h : AH) : Prop :=
  ∀ j : Nat → Value, LPk Proofs.Tryd.prog w0 (EvC Proofs.Tryd.prog w0) f7_J 7 K 3 [.v (j 0), .v (.int .i64 a), .bp 0 0, .v (j 3), .v (j 4), .v (j 5), .v (j 6), .v (j 7), .v (j 8), .v (j 9), .v (j 10), .v (j 11), .v (j 12), .v (j 13), .v (j 14), .v (j 15), .v (j 16), .v (j 17), .v (j 18), .v (j 19), .v (j 20), .v (j 21), .v (j 22), .v (j 23), .v (j 24), .v (j 25), .v (j 26), .v (j 27), .v (j 28), .v (j 29), .v (j 30), .v (j 31), .v (j 32), .v (j 33), .v (j 34), .v (j 35), .v (j 36), .v (j 37), .v (j 38), .v (j 39), .v (j 40), .v (j 41), .v (j 42), .v (j 43), .v (j 44), .v (j 45), .v (j 46), .v (j 47), .v (j 48), .v (j 49), .v (j 50), .v (j 51), .v (j 52), .v (j 53), .v (j 54), .v (j 55), .v (j 56), .v (j 57), .v (j 58), .v (j 59), .v (j 60), .v (j 61), .v (j 62), .v (j 63), .v (j 64), .v (j 65), .v (j 66), .v (j 67), .v (j 68), .v (j 69), .v (j 70), .v (j 71), .v (j 72), .v (j 73), .v (j 74), .v (j 75), .v (j 76), .v (j 77), .v (j 78), .v (j 79), .v (j 80), .v (j 81), .v (j 82), .v (j 83), .v (j 84), .v (j 85), .v (j 86), .v (j 87), .v (j 88), .v (j 89), .v (j 90), .v (j 91), .v (j 92), .v (j 93), .v (j 94), .v (j 95), .v (j 96), .v (j 97), .v (j 98), .v (j 99), .v (j 100), .v (j 101), .v (j 102), .v (j 103), .v (j 104), .v (j 105), .v (j 106), .v (j 107), .v (j 108), .v (j 109), .v (j 110), .v (j 111), .v (j 112), .v (j 113), .v (j 114), .v (j 115), .v (j 116), .v (j 117), .v (j 118), .v (j 119), .v (j 120), .v (j 121)] [some [(.int .i64 b), (.slice c d e), (.slice g i k)]] h

def f7_9 (w0 : World) (K : Value → AH → Prop) (a : Option Addr) (b : Nat) (c : Nat) (d : Bool) (e : Int) (g : Option Addr) (i : Nat) (k : Nat) (m : Option Addr) (n : Nat) (o : Nat) (p : Int) (q : Option Addr) (r : Nat) (s : Nat) (t : Option Addr) (u : Nat) (x : Nat) (h : AH) : Prop :=
  ∀ j : Nat → Value, LPk Proofs.Tryd.prog w0 (EvC Proofs.Tryd.prog w0) f7_J 7 K 9 [.v (j 0), .v (j 1), .bp 0 0, .v (j 3), .v (j 4), .bp 1 0, .v (.slice a b c), .v (j 7), .v (j 8), .v (j 9), .v (j 10), .v (j 11), .v (j 12), .v (j 13), .v (j 14), .v (j 15), .v (j 16), .v (j 17), .v (j 18), .v (j 19), .v (j 20), .v (j 21), .v (j 22), .v (j 23), .v (j 24), .v (j 25), .v (j 26), .v (j 27), .v (j 28), .v (j 29), .v (j 30), .v (j 31), .v (j 32), .v (j 33), .v (j 34), .v (j 35), .v (j 36), .v (j 37), .v (j 38), .v (j 39), .v (j 40), .v (j 41), .v (j 42), .v (j 43), .v (j 44), .v (j 45), .v (j 46), .v (j 47), .v (j 48), .v (j 49), .v (j 50), .v (j 51), .v (j 52), .v (j 53), .v (j 54), .v (j 55), .v (j 56), .v (j 57), .v (j 58), .v (j 59), .v (j 60), .v (j 61), .v (j 62), .v (j 63), .v (j 64), .v (j 65), .v (j 66), .v (j 67), .v (j 68), .v (j 69), .v (j 70), .v (j 71), .v (j 72), .v (j 73), .v (j 74), .v (j 75), .v (j 76), .v (j 77), .v (j 78), .v (j 79), .v (j 80), .v (j 81), .v (.bool d), .v (j 83), .v (j 84), .v (j 85), .v (j 86), .v (j 87), .v (j 88), .v (j 89), .v (j 90), .v (j 91), .v (j 92), .v (j 93), .v (j 94), .v (j 95), .v (j 96), .v (j 97), .v (j 98), .v (j 99), .v (j 100), .v (j 101), .v (j 102), .v (j 103), .v (j 104), .v (j 105), .v (j 106), .v (j 107), .v (j 108), .v (j 109), .v (j 110), .v (j 111), .v (j 112), .v (j 113), .v (j 114), .v (j 115), .v (j 116), .v (j 117), .v (j 118), .v (j 119), .v (j 120), .v (j 121)] [some [(.int .i64 e), (.slice g i k), (.slice m n o)], some [(.int .i64 p), (.slice q r s), (.slice t u x)]] h

def f7_10 (w0 : World) (K : Value → AH → Prop) (a : Option Addr) (b : Nat) (c : Nat) (d : Int) (e : Option Addr) (g : Nat) (i : Nat) (k : Option Addr) (m : Nat) (n : Nat) (o : Int) (p : Option Addr) (q : Nat) (r : Nat) (s : Option Addr) (t : Nat) (u : Nat) (h : AH) : Prop :=
  ∀ j : Nat → Value, LPk Proofs.Tryd.prog w0 (EvC Proofs.Tryd.prog w0) f7_J 7 K 10 [.v (j 0), .v (j 1), .bp 0 0, .v (j 3), .v (j 4), .bp 1 0, .v (.slice a b c), .v (j 7), .v (j 8), .v (j 9), .v (j 10), .v (j 11), .v (j 12), .v (j 13), .v (j 14), .v (j 15), .v (j 16), .v (j 17), .v (j 18), .v (j 19), .v (j 20), .v (j 21), .v (j 22), .v (j 23), .v (j 24), .v (j 25), .v (j 26), .v (j 27), .v (j 28), .v (j 29), .v (j 30), .v (j 31), .v (j 32), .v (j 33), .v (j 34), .v (j 35), .v (j 36), .v (j 37), .v (j 38), .v (j 39), .v (j 40), .v (j 41), .v (j 42), .v (j 43), .v (j 44), .v (j 45), .v (j 46), .v (j 47), .v (j 48), .v (j 49), .v (j 50), .v (j 51), .v (j 52), .v (j 53), .v (j 54), .v (j 55), .v (j 56), .v (j 57), .v (j 58), .v (j 59), .v (j 60), .v (j 61), .v (j 62), .v (j 63), .v (j 64), .v (j 65), .v (j 66), .v (j 67), .v (j 68), .v (j 69), .v (j 70), .v (j 71), .v (j 72), .v (j 73), .v (j 74), .v (j 75), .v (j 76), .v (j 77), .v (j 78), .v (j 79), .v (j 80), .v (j 81), .v (j 82), .v (j 83), .v (j 84), .v (j 85), .v (j 86), .v (j 87), .v (j 88), .v (j 89), .v (j 90), .v (j 91), .v (j 92), .v (j 93), .v (j 94), .v (j 95), .v (j 96), .v (j 97), .v (j 98), .v (j 99), .v (j 100), .v (j 101), .v (j 102), .v (j 103), .v (j 104), .v (j 105), .v (j 106), .v (j 107), .v (j 108), .v (j 109), .v (j 110), .v (j 111), .v (j 112), .v (j 113), .v (j 114), .v (j 115), .v (j 116), .v (j 117), .v (j 118), .v (j 119), .v (j 120), .v (j 121)] [some [(.int .i64 d), (.slice e g i), (.slice k m n)], some [(.int .i64 o), (.slice p q r), (.slice s t u)]] h

def f7_11 (w0 : World) (K : Value → AH → Prop) (a : Option Addr) (b : Nat) (c : Nat) (d : Option Addr) (e : Nat) (g : Nat) (i : Int) (k : Int) (m : Int) (n : Option Addr) (o : Nat) (p : Nat) (q : Option Addr) (r : Nat) (s : Nat) (t : Int) (u : Option Addr) (x : Nat) (y : Nat) (z : Option Addr) (A : Nat) (B : Nat) (h : AH) : Prop :=
  ∀ j : Nat → Value, LPk Proofs.Tryd.prog w0 (EvC Proofs.Tryd.prog w0) f7_J 7 K 11 [.v (j 0), .v (j 1), .bp 0 0, .v (j 3), .v (j 4), .bp 1 0, .v (.slice a b c), .v (j 7), .v (j 8), .v (j 9), .v (j 10), .v (j 11), .v (j 12), .v (j 13), .v (j 14), .v (j 15), .v (j 16), .v (j 17), .v (j 18), .v (j 19), .v (j 20), .v (j 21), .v (j 22), .v (j 23), .v (j 24), .v (j 25), .v (j 26), .v (j 27), .v (j 28), .v (j 29), .v (j 30), .v (j 31), .v (j 32), .v (j 33), .v (j 34), .v (j 35), .v (j 36), .v (j 37), .v (j 38), .v (j 39), .v (j 40), .v (j 41), .v (j 42), .v (j 43), .v (j 44), .v (j 45), .v (j 46), .v (j 47), .v (j 48), .v (j 49), .v (j 50), .v (j 51), .v (j 52), .v (j 53), .v (j 54), .v (j 55), .v (j 56), .v (j 57), .v (j 58), .v (j 59), .v (j 60), .v (j 61), .v (j 62), .v (j 63), .v (j 64), .v (j 65), .v (j 66), .v (j 67), .v (j 68), .v (j 69), .v (j 70), .v (j 71), .v (j 72), .v (j 73), .v (j 74), .v (j 75), .v (j 76), .v (j 77), .v (j 78), .v (j 79), .v (j 80), .v (j 81), .v (j 82), .v (.slice d e g), .v (.int .i64 i), .v (.int .i64 k), .v (j 86), .v (j 87), .v (j 88), .v (j 89), .v (j 90), .v (j 91), .v (j 92), .v (j 93), .v (j 94), .v (j 95), .v (j 96), .v (j 97), .v (j 98), .v (j 99), .v (j 100), .v (j 101), .v (j 102), .v (j 103), .v (j 104), .v (j 105), .v (j 106), .v (j 107), .v (j 108), .v (j 109), .v (j 110), .v (j 111), .v (j 112), .v (j 113), .v (j 114), .v (j 115), .v (j 116), .v (j 117), .v (j 118), .v (j 119), .v (j 120), .v (j 121)] [some [(.int .i64 m), (.slice n o p), (.slice q r s)], some [(.int .i64 t), (.slice u x y), (.slice z A B)]] h

def f7_14 (w0 : World) (K : Value → AH → Prop) (a : Option Addr) (b : Nat) (c : Nat) (d : Option Addr) (e : Nat) (g : Nat) (i : Int) (k : Int) (m : Bool) (n : Int) (o : Option Addr) (p : Nat) (q : Nat) (r : Option Addr) (s : Nat) (t : Nat) (u : Int) (x : Option Addr) (y : Nat) (z : Nat) (A : Option Addr) (B : Nat) (C : Nat) (h : AH) : Prop :=
  ∀ j : Nat → Value, LPk Proofs.Tryd.prog w0 (EvC Proofs.Tryd.prog w0) f7_J 7 K 14 [.v (j 0), .v (j 1), .bp 0 0, .v (j 3), .v (j 4), .bp 1 0, .v (.slice a b c), .v (j 7), .v (j 8), .v (j 9), .v (j 10), .v (j 11), .v (j 12), .v (j 13), .v (j 14), .v (j 15), .v (j 16), .v (j 17), .v (j 18), .v (j 19), .v (j 20), .v (j 21), .v (j 22), .v (j 23), .v (j 24), .v (j 25), .v (j 26), .v (j 27), .v (j 28), .v (j 29), .v (j 30), .v (j 31), .v (j 32), .v (j 33), .v (j 34), .v (j 35), .v (j 36), .v (j 37), .v (j 38), .v (j 39), .v (j 40), .v (j 41), .v (j 42), .v (j 43), .v (j 44), .v (j 45), .v (j 46), .v (j 47), .v (j 48), .v (j 49), .v (j 50), .v (j 51), .v (j 52), .v (j 53), .v (j 54), .v (j 55), .v (j 56), .v (j 57), .v (j 58), .v (j 59), .v (j 60), .v (j 61), .v (j 62), .v (j 63), .v (j 64), .v (j 65), .v (j 66), .v (j 67), .v (j 68), .v (j 69), .v (j 70), .v (j 71), .v (j 72), .v (j 73), .v (j 74), .v (j 75), .v (j 76), .v (j 77), .v (j 78), .v (j 79), .v (j 80), .v (j 81), .v (j 82), .v (.slice d e g), .v (.int .i64 i), .v (.int .i64 k), .v (j 86), .v (j 87), .v (j 88), .v (j 89), .v (j 90), .v (j 91), .v (j 92), .v (j 93), .v (j 94), .v (j 95), .v (j 96), .v (j 97), .v (j 98), .v (j 99), .v (j 100), .v (j 101), .v (.bool m), .v (j 103), .v (j 104), .v (j 105), .v (j 106), .v (j 107), .v (j 108), .v (j 109), .v (j 110), .v (j 111), .v (j 112), .v (j 113), .v (j 114), .v (j 115), .v (j 116), .v (j 117), .v (j 118), .v (j 119), .v (j 120), .v (j 121)] [some [(.int .i64 n), (.slice o p q), (.slice r s t)], some [(.int .i64 u), (.slice x y z), (.slice A B C)]] h

theorem f7_2_in {w0 : World} {K : Value → AH → Prop} (a : Int) (b : Bool) (c : Int) (d : Option Addr) (e : Nat) (g : Nat) (i : Option Addr) (k : Nat) (m : Nat) (h : AH)
  (hv : (brB b (EvC Proofs.Tryd.prog w0 12 #[] (fun o p => (∃ n : Bool, ((o = (bool n)) ∧ (K (bool n) p)))) h) (f7_3 w0 K a c d e g i k m h))) :
  f7_2 w0 K a b c d e g i k m h := fun j => LP_intro (P := Proofs.Tryd.prog) (Eq.mp (by kernel_rfl) hv)

theorem f7_3_in {w0 : World} {K : Value → AH → Prop} (b : Int) (c : Int) (d : Option Addr) (e : Nat) (g : Nat) (i : Option Addr) (a : Nat) (k : Nat) (h : AH)
  (hv : (((IntKind.wrap .u64 ((a : Nat) : Int)) ≠ (0 : Int)) ∧ (((0 : Int) ≤ (IntKind.wrap .i64 (Int.tmod (IntKind.wrap .u64 b) (IntKind.wrap .u64 ((a : Nat) : Int))))) ∧ (((IntKind.wrap .i64 (Int.tmod (IntKind.wrap .u64 b) (IntKind.wrap .u64 ((a : Nat) : Int)))) ≤ ((k : Nat) : Int)) ∧ (((0 : Int) ≤ (IntKind.wrap .i64 ((IntKind.wrap .i64 (Int.tmod (IntKind.wrap .u64 b) (IntKind.wrap .u64 ((a : Nat) : Int)))) + (1 : Int)))) ∧ (((IntKind.wrap .i64 ((IntKind.wrap .i64 (Int.tmod (IntKind.wrap .u64 b) (IntKind.wrap .u64 ((a : Nat) : Int)))) + (1 : Int))) ≤ ((a : Nat) : Int)) ∧ (rowsOf w0 h 8 i (Int.toNat (IntKind.wrap .i64 (Int.tmod (IntKind.wrap .u64 b) (IntKind.wrap .u64 ((a : Nat) : Int))))) (fun U => (App w0 h 8 136 none 0 0 (Int.toNat (IntKind.wrap .i64 (Int.tmod (IntKind.wrap .u64 b) (IntKind.wrap .u64 ((a : Nat) : Int))))) U (fun V Y x => (rowsOf w0 x 8 (cutA 8 i k (Int.toNat (IntKind.wrap .i64 ((IntKind.wrap .i64 (Int.tmod (IntKind.wrap .u64 b) (IntKind.wrap .u64 ((a : Nat) : Int)))) + (1 : Int))))) (a - (Int.toNat (IntKind.wrap .i64 ((IntKind.wrap .i64 (Int.tmod (IntKind.wrap .u64 b) (IntKind.wrap .u64 ((a : Nat) : Int)))) + (1 : Int))))) (fun Z => (App w0 x 8 136 V (0 + (Int.toNat (IntKind.wrap .i64 (Int.tmod (IntKind.wrap .u64 b) (IntKind.wrap .u64 ((a : Nat) : Int)))))) Y (a - (Int.toNat (IntKind.wrap .i64 ((IntKind.wrap .i64 (Int.tmod (IntKind.wrap .u64 b) (IntKind.wrap .u64 ((a : Nat) : Int)))) + (1 : Int))))) Z (fun n o a0 => (EvC Proofs.Tryd.prog w0 19 #[(agg #[(int .i64 c), (slice d e g), (slice i a k)]), (agg #[(int .i64 c), (slice d e g), (slice n ((0 + (Int.toNat (IntKind.wrap .i64 (Int.tmod (IntKind.wrap .u64 b) (IntKind.wrap .u64 ((a : Nat) : Int)))))) + (a - (Int.toNat (IntKind.wrap .i64 ((IntKind.wrap .i64 (Int.tmod (IntKind.wrap .u64 b) (IntKind.wrap .u64 ((a : Nat) : Int)))) + (1 : Int)))))) o)])] (fun a1 p => (∃ q : Option Addr, (∃ m : Nat, (∃ r : Nat, (∃ y : Int, ((a1 = (Value.tuple #[(slice q m r), (int .i64 y)])) ∧ (∃ z : Addr, ((i = (some z)) ∧ (((0 : Int) ≤ (IntKind.wrap .i64 (Int.tmod (IntKind.wrap .u64 b) (IntKind.wrap .u64 ((a : Nat) : Int))))) ∧ (((IntKind.wrap .i64 (Int.tmod (IntKind.wrap .u64 b) (IntKind.wrap .u64 ((a : Nat) : Int)))) < ((a : Nat) : Int)) ∧ (∃ A : ByteArray, (∃ B : Option Addr, (∃ s : Nat, (∃ C : Nat, (∃ D : Option Addr, (∃ t : Nat, (∃ E : Nat, (∃ F : Option Addr, (∃ u : Nat, (∃ L : Nat, (∃ M : Option Addr, (∃ v : Nat, (∃ N : Nat, (∃ Q : Int, (∃ R : Int, (∃ T : Int, ((((Array.size #[(string A), (slice B s C), (slice D t E), (slice F u L), (slice M v N), (int .i64 Q), (int .i64 R), (int .i64 T)]) = 8) ∧ (At w0 p (Addr.add z ((Int.toNat (IntKind.wrap .i64 (Int.tmod (IntKind.wrap .u64 b) (IntKind.wrap .u64 ((a : Nat) : Int))))) * 8)) [(string A), (slice B s C), (slice D t E), (slice F u L), (slice M v N), (int .i64 Q), (int .i64 R), (int .i64 T)])) ∧ (brB (y != (0 : Int)) (f7_9 w0 K q m r true c d e g i a k c d e g n ((0 + (Int.toNat (IntKind.wrap .i64 (Int.tmod (IntKind.wrap .u64 b) (IntKind.wrap .u64 ((a : Nat) : Int)))))) + (a - (Int.toNat (IntKind.wrap .i64 ((IntKind.wrap .i64 (Int.tmod (IntKind.wrap .u64 b) (IntKind.wrap .u64 ((a : Nat) : Int)))) + (1 : Int)))))) o p) (f7_9 w0 K q m r (((m : Nat) : Int) != (IntKind.wrap .i64 ((IntKind.wrap .i64 ((IntKind.wrap .i64 ((IntKind.wrap .i64 ((1 : Int) + ((s : Nat) : Int))) + ((t : Nat) : Int))) + ((u : Nat) : Int))) + ((v : Nat) : Int)))) c d e g i a k c d e g n ((0 + (Int.toNat (IntKind.wrap .i64 (Int.tmod (IntKind.wrap .u64 b) (IntKind.wrap .u64 ((a : Nat) : Int)))))) + (a - (Int.toNat (IntKind.wrap .i64 ((IntKind.wrap .i64 (Int.tmod (IntKind.wrap .u64 b) (IntKind.wrap .u64 ((a : Nat) : Int)))) + (1 : Int)))))) o p))))))))))))))))))))))))))))) a0))))))))))))))) :
  f7_3 w0 K b c d e g i a k h := fun j => LP_intro (P := Proofs.Tryd.prog) (Eq.mp (by kernel_rfl) hv)

theorem f7_9_in {w0 : World} {K : Value → AH → Prop} (a : Option Addr) (b : Nat) (c : Nat) (d : Bool) (e : Int) (g : Option Addr) (i : Nat) (k : Nat) (m : Option Addr) (n : Nat) (o : Nat) (p : Int) (q : Option Addr) (r : Nat) (s : Nat) (t : Option Addr) (u : Nat) (v : Nat) (h : AH)
  (hv : (brB d (K (bool false) h) (f7_10 w0 K a b c e g i k m n o p q r s t u v h))) :
  f7_9 w0 K a b c d e g i k m n o p q r s t u v h := fun j => LP_intro (P := Proofs.Tryd.prog) (Eq.mp (by kernel_rfl) hv)

theorem f7_10_in {w0 : World} {K : Value → AH → Prop} (b : Option Addr) (a : Nat) (c : Nat) (d : Int) (e : Option Addr) (g : Nat) (i : Nat) (k : Option Addr) (m : Nat) (n : Nat) (o : Int) (p : Option Addr) (q : Nat) (r : Nat) (s : Option Addr) (t : Nat) (u : Nat) (h : AH)
  (hv : (f7_11 w0 K b a c b a c ((a : Nat) : Int) (0 : Int) d e g i k m n o p q r s t u h)) :
  f7_10 w0 K b a c d e g i k m n o p q r s t u h := fun j => LP_intro (P := Proofs.Tryd.prog) (Eq.mp (by kernel_rfl) hv)

theorem f7_11_in {w0 : World} {K : Value → AH → Prop} (y : Option Addr) (b : Nat) (z : Nat) (c : Option Addr) (d : Nat) (A : Nat) (e : Int) (a : Int) (g : Int) (i : Option Addr) (k : Nat) (m : Nat) (n : Option Addr) (o : Nat) (p : Nat) (q : Int) (r : Option Addr) (s : Nat) (t : Nat) (u : Option Addr) (v : Nat) (x : Nat) (h : AH)
  (hv : (brB (decide ((a < e))) (∃ F : Addr, ((c = (some F)) ∧ (((0 : Int) ≤ a) ∧ ((a < ((d : Nat) : Int)) ∧ (∃ G : Option Addr, (∃ L : Nat, (∃ M : Nat, (∃ B : Bool, (∃ C : Int, (∃ N : Option Addr, (∃ D : Nat, (∃ Q : Nat, ((((Array.size #[(slice G L M), (bool B), (int .i64 C), (slice N D Q)]) = 4) ∧ (At w0 h (Addr.add F ((Int.toNat a) * 4)) [(slice G L M), (bool B), (int .i64 C), (slice N D Q)])) ∧ (brB (!B) (f7_14 w0 K y b z c d A e a true g i k m n o p q r s t u v x h) (brB (C != (0 : Int)) (f7_14 w0 K y b z c d A e a true g i k m n o p q r s t u v x h) (f7_14 w0 K y b z c d A e a (decide (((0 : Int) < ((D : Nat) : Int)))) g i k m n o p q r s t u v x h)))))))))))))))) (EvC Proofs.Tryd.prog w0 19 #[(agg #[(int .i64 q), (slice r s t), (slice u v x)]), (agg #[(int .i64 g), (slice i k m), (slice n o p)])] (fun V E => (∃ Y : Option Addr, (∃ R : Nat, (∃ Z : Nat, (∃ T : Int, ((V = (Value.tuple #[(slice Y R Z), (int .i64 T)])) ∧ (brB (T == (0 : Int)) (brB (((R : Nat) : Int) == ((b : Nat) : Int)) (EvC Proofs.Tryd.prog w0 12 #[] (fun a0 a1 => (∃ U : Bool, ((a0 = (bool U)) ∧ (K (bool U) a1)))) E) (K (bool false) E)) (K (bool false) E)))))))) h))) :
  f7_11 w0 K y b z c d A e a g i k m n o p q r s t u v x h := fun j => LP_intro (P := Proofs.Tryd.prog) (Eq.mp (by kernel_rfl) hv)

theorem f7_14_in {w0 : World} {K : Value → AH → Prop} (a : Option Addr) (b : Nat) (c : Nat) (d : Option Addr) (e : Nat) (g : Nat) (i : Int) (k : Int) (m : Bool) (n : Int) (o : Option Addr) (p : Nat) (q : Nat) (r : Option Addr) (s : Nat) (t : Nat) (u : Int) (v : Option Addr) (x : Nat) (y : Nat) (z : Option Addr) (A : Nat) (B : Nat) (h : AH)
  (hv : (brB m (K (bool false) h) (f7_11 w0 K a b c d e g i (IntKind.wrap .i64 (k + (1 : Int))) n o p q r s t u v x y z A B h))) :
  f7_14 w0 K a b c d e g i k m n o p q r s t u v x y z A B h := fun j => LP_intro (P := Proofs.Tryd.prog) (Eq.mp (by kernel_rfl) hv)

theorem f7_go {w0 : World} {K : Value → AH → Prop} (b : Int) (c : Option Addr) (d : Nat) (e : Nat) (g : Option Addr) (a : Nat) (i : Nat) (k : Int) (h : AH)
  (hv : (EvC Proofs.Tryd.prog w0 10 #[(agg #[(int .i64 b), (slice c d e), (slice g a i)])] (fun q m => (∃ n : Bool, ((q = (bool n)) ∧ (brB (!n) (f7_2 w0 K k true b c d e g a i m) (EvC Proofs.Tryd.prog w0 11 #[(agg #[(int .i64 b), (slice c d e), (slice g a i)])] (fun r o => (∃ p : Bool, ((r = (bool p)) ∧ (brB (!p) (f7_2 w0 K k true b c d e g a i o) (f7_2 w0 K k (((a : Nat) : Int) == (0 : Int)) b c d e g a i o))))) m))))) h)) :
  EvC Proofs.Tryd.prog w0 7 ([(.agg #[(.int .i64 b), (.slice c d e), (.slice g a i)]), (.int .i64 k)]).toArray K h := EvC_intro (P := Proofs.Tryd.prog) f7_J (Eq.mp (by kernel_rfl) hv)
/-! ### how many entries -/
def cntS (x : SesM) : Nat := 1 + x.subs.length + x.queue.length + x.fl.length + x.ids.length
theorem ses_count : ∀ l : List SesM, l.length + ((subsD l).length + ((quesD l).length + ((flsD l).length + (idsD l).length))) = (l.map cntS).sum
  | [] => rfl
  | x :: l => by
    have ih := ses_count l
    simp only [subsD, quesD, flsD, idsD, List.flatMap_cons, List.length_append, List.length_map, queE_len, List.length_cons, List.map_cons, List.sum_cons, cntS] at ih ⊢
    omega
theorem ents_count {s : StM} : (entsD s).length = (if 0 < s.clock then 1 else 0) + s.ret.length + (s.ses.map cntS).sum := by
  have h := ses_count s.ses
  have hc : (clockE s).length = if 0 < s.clock then 1 else 0 := by unfold clockE; split <;> rfl
  simp only [entsD, List.length_append, List.length_map, hc]
  omega
/-! ### SchemaLess -/
theorem sub_flat {f : SesM → List EDat} {l m : List SesM} (h : l.Sublist m) : (l.flatMap f).Sublist (m.flatMap f) := by
  induction h with
  | slnil => exact .slnil
  | cons a _ ih => rw [List.flatMap_cons]; exact ih.trans (List.sublist_append_right ..)
  | cons_cons a _ ih => rw [List.flatMap_cons, List.flatMap_cons]; exact (List.Sublist.refl _).append ih
def dropS (s : StM) (k : Nat) (a : Option Addr) (c : Nat) : StM := { s with sa := a, sc := c, ses := s.ses.take k ++ s.ses.drop (k + 1) }
theorem drop_sub {α : Type} : ∀ (l : List α) (k : Nat), (l.take k ++ l.drop (k + 1)).Sublist l
  | [], k => by simp
  | x :: l, 0 => by simp
  | x :: l, k + 1 => by
    simp only [List.take_succ_cons, List.drop_succ_cons, List.cons_append]
    exact (drop_sub l k).cons_cons x
theorem ents_sub (s : StM) (k : Nat) (a : Option Addr) (c : Nat) : (entsD (dropS s k a c)).Sublist (entsD s) := by
  have h := drop_sub s.ses k
  have e : clockE (dropS s k a c) = clockE s := rfl
  unfold entsD
  rw [e]
  exact (List.Sublist.refl _).append ((List.Sublist.refl _).append ((h.map _).append ((sub_flat h).append ((sub_flat h).append ((sub_flat h).append (sub_flat h))))))
theorem chg_less : ∀ {l m : List EDat}, m.Sublist l → l.Pairwise KLt → (chg l m).length + m.length = l.length ∧ (∀ o ∈ chg l m, o.2.1 = true ∧ o.2.2.1 = 0 ∧ o.2.2.2 = []) ∧ (chg m l).length + m.length = l.length := by
  intro l m h
  induction h with
  | slnil => intro _; simp [chg]
  | @cons m l a hs ih =>
    intro hp
    obtain ⟨ha, hp'⟩ := List.pairwise_cons.1 hp
    obtain ⟨h1, h2, h3⟩ := ih hp'
    cases m with
    | nil =>
      rw [chg_nil_r]
      refine ⟨by simp, fun o ho => ?_, by simp [chg]⟩
      obtain ⟨e, _, rfl⟩ := List.mem_map.1 ho
      exact ⟨rfl, rfl, rfl⟩
    | cons y m' =>
      have hy : a.1 < y.1 := ha y (hs.subset (List.mem_cons_self ..))
      have c1 : cmpL a.1 y.1 < 0 := cmpL_neg.2 hy
      have c2 : 0 < cmpL y.1 a.1 := cmpL_pos.2 hy
      rw [chg, if_pos c1]
      refine ⟨by simp only [List.length_cons] at h1 ⊢; omega, fun o ho => ?_, ?_⟩
      · rcases List.mem_cons.1 ho with rfl | ho
        · exact ⟨rfl, rfl, rfl⟩
        · exact h2 o ho
      · rw [chg, if_neg (by omega), if_pos c2]
        simp only [List.length_cons] at h3 ⊢; omega
  | @cons_cons m l a hs ih =>
    intro hp
    obtain ⟨ha, hp'⟩ := List.pairwise_cons.1 hp
    obtain ⟨h1, h2, h3⟩ := ih hp'
    have e1 : chg (a :: l) (a :: m) = chg l m := by rw [chg, cmpL_same, if_neg (by omega), if_neg (by omega), if_pos ⟨rfl, rfl⟩]; rfl
    have e2 : chg (a :: m) (a :: l) = chg m l := by rw [chg, cmpL_same, if_neg (by omega), if_neg (by omega), if_pos ⟨rfl, rfl⟩]; rfl
    rw [e1, e2]
    exact ⟨by simp only [List.length_cons]; omega, h2, by simp only [List.length_cons]; omega⟩
theorem may_drop {s : StM} (hm : MaySt s) (k : Nat) (a : Option Addr) (c : Nat) : MaySt (dropS s k a c) where
  clock0 := hm.clock0
  clock := hm.clock
  rl := hm.rl
  sl := Nat.le_trans (drop_sub s.ses k).length_le hm.sl
  ret := hm.ret
  retr := hm.retr
  ses := fun x hx => hm.ses x ((drop_sub s.ses k).subset hx)
  sesr := .of_pairwise ((Rise.pair (lt := fun a b : SesM => sLt a.client b.client) (fun _ _ _ => sLt_trans) hm.sesr).sublist (drop_sub s.ses k))
theorem drop_count {s : StM} {k : Nat} {x : SesM} (a : Option Addr) (c : Nat) (hx : s.ses[k]? = some x) : (entsD s).length = (entsD (dropS s k a c)).length + cntS x := by
  rw [ents_count, ents_count]
  have e : s.ses = s.ses.take k ++ x :: s.ses.drop (k + 1) := by
    rw [← drop_cons hx, List.take_append_drop]
  have e2 : (s.ses.map cntS).sum = ((s.ses.take k ++ s.ses.drop (k + 1)).map cntS).sum + cntS x := by
    conv => lhs; rw [e]
    simp only [List.map_append, List.map_cons, List.sum_append, List.sum_cons]; omega
  show _ + s.ret.length + _ = _ + s.ret.length + ((s.ses.take k ++ s.ses.drop (k + 1)).map cntS).sum + _
  rw [e2]
  show _ = (if 0 < s.clock then 1 else 0) + s.ret.length + _ + _
  omega
theorem rd_pre {w0 : World} {h : AH} {a : Option Addr} {x y : List Value} (r : Rd w0 h a (x ++ y)) : Rd w0 h a x := fun j v hj => r j v (by rw [List.getElem?_append_left (List.getElem?_eq_some_iff.1 hj).1]; exact hj)
theorem modZ {x : Int} {n : Nat} (hn : 0 < n) (hb : n ≤ 1000) : ∃ k : Nat, k < n ∧ IntKind.i64.wrap (Int.tmod (IntKind.u64.wrap x) (IntKind.u64.wrap ((n : Nat) : Int))) = ((k : Nat) : Int) := by
  have e : IntKind.u64.wrap ((n : Nat) : Int) = ((n : Nat) : Int) := wrap64u (by omega) (by omega)
  have u0 : 0 ≤ IntKind.u64.wrap x := by
    simp [IntKind.wrap, IntKind.signed, IntKind.bits]; omega
  rw [e]
  have h1 := Int.tmod_lt_of_pos (IntKind.u64.wrap x) (b := ((n : Nat) : Int)) (by omega)
  have h2 := Int.tmod_nonneg ((n : Nat) : Int) u0
  refine ⟨(Int.tmod (IntKind.u64.wrap x) ((n : Nat) : Int)).toNat, by omega, ?_⟩
  rw [wrap64 (by omega) (by omega)]; omega
section
variable {w0 : World} {K : Value → AH → Prop} {h : AH} {B : List (Nat × AB)}
theorem f7_11s {s t : StM} {a : Option Addr} {c : Nat} {os : List OpM} (hl : os.length ≤ 20000) (hg : ∀ o ∈ os, o.gone = true ∧ o.til = 0 ∧ o.val = []) (r : ∀ h' D, Own w0 h' (D ++ B) → OpsRd w0 h' a os)
    (hend : ∀ h', Own w0 h' B → EvC Go.Proofs.Tryd.prog w0 19 #[t.agg2, s.agg2] (fun x'49 h'50 => ∃ (p'51 : Option Addr) (n'52 n'53 : Nat) (i'54 : Int), x'49 = .tuple #[.slice p'51 n'52 n'53, .int .i64 i'54] ∧ brB (i'54 == (0 : Int)) (brB (((n'52 : Nat) : Int) == ((os.length : Nat) : Int)) (EvC Go.Proofs.Tryd.prog w0 12 #[] (fun x'24 h'25 => (∃ t'26 : Bool, ((x'24 = (.bool t'26)) ∧ (K (.bool t'26) h'25)))) h'50) (K (.bool false) h'50)) (K (.bool false) h'50)) h') :
    ∀ (n i : Nat), i + n = os.length → ∀ h, Own w0 h B → f7_11 w0 K a os.length c a os.length c ((os.length : Nat) : Int) ((i : Nat) : Int) s.clock s.ra s.ret.length s.rc s.sa s.ses.length s.sc t.clock t.ra t.ret.length t.rc t.sa t.ses.length t.sc h := fun n => by
  induction n with
  | zero => exact fun i hi h w => f7_11_in _ _ _ _ _ _ _ _ _ _ _ _ _ _ _ _ _ _ _ _ _ _ _ (brB_of (fun z => by have := of_decide_eq_true z; omega) fun _ => hend h w)
  | succ n ih =>
    intro i hi h w
    have g1 : os[i]? = some os[i] := List.getElem?_eq_getElem _
    generalize os[i] = e at g1
    have hf := List.mem_of_getElem? g1
    obtain ⟨ad, had, hat⟩ := rowLoad (enc := OpM.cells) (k := 4) (fun _ => rfl) (by decide) (r h [] w).rd g1
    obtain ⟨e1, e2, e3⟩ := hg e hf
    have nxt : f7_14 w0 K a os.length c a os.length c ((os.length : Nat) : Int) ((i : Nat) : Int) false s.clock s.ra s.ret.length s.rc s.sa s.ses.length s.sc t.clock t.ra t.ret.length t.rc t.sa t.ses.length t.sc h := f7_14_in _ _ _ _ _ _ _ _ _ _ _ _ _ _ _ _ _ _ _ _ _ _ _ _ (brB_of (fun z => by cases z) fun _ => by rw [wrapS (by omega)]; exact ih (i + 1) (by omega) h w)
    refine f7_11_in _ _ _ _ _ _ _ _ _ _ _ _ _ _ _ _ _ _ _ _ _ _ _ (brB_of (fun _ => ⟨ad, had, by omega, by omega, _, _, _, _, _, _, _, _, ⟨rfl, hat⟩, ?_⟩) fun z => by have := of_decide_eq_false z; omega)
    refine brB_of (fun z => by rw [e1] at z; simp at z) fun _ => brB_of (fun z => by rw [e2] at z; simp at z) fun _ => ?_
    rw [show (decide ((0 : Int) < ((e.val.length : Nat) : Int))) = false by rw [e3]; simp]
    exact nxt
theorem f7_3s {s : StM} {q : Int} (T : TabOk w0) (k : s.Ok w0) (lt : LightS s) (hm : MaySt s) (hne : 0 < s.ses.length) (w : Own w0 h B) (hk : ∀ h, K (.bool true) h) : f7_3 w0 K q s.clock s.ra s.ret.length s.rc s.sa s.ses.length s.sc h := by
  have lss := lt.ses
  have lsc := k.slc
  obtain ⟨κ, hκ, eκ⟩ := modZ (x := q) (n := s.ses.length) hne (by omega)
  have eu : IntKind.u64.wrap ((s.ses.length : Nat) : Int) = ((s.ses.length : Nat) : Int) := wrap64u (by omega) (by omega)
  have g1 : s.ses[κ]? = some s.ses[κ] := List.getElem?_eq_getElem _
  generalize s.ses[κ] = x at g1
  have hx := List.mem_of_getElem? g1
  have ek1 : IntKind.i64.wrap (((κ : Nat) : Int) + 1) = ((κ + 1 : Nat) : Int) := wrapS (by omega)
  refine f7_3_in _ _ _ _ _ _ _ _ _ ?_
  rw [eκ, ek1, Int.toNat_natCast, Int.toNat_natCast]
  refine ⟨by rw [eu]; omega, by omega, by omega, by omega, by omega, ?_⟩
  have len1 : ((s.ses.take κ).flatMap SesM.cells).length = κ * 8 := by rw [flat_len (enc := SesM.cells) (k := 8) (fun _ => rfl), List.length_take, Nat.min_eq_left (by omega)]
  have len2 : ((s.ses.drop (κ + 1)).flatMap SesM.cells).length = (s.ses.length - (κ + 1)) * 8 := by rw [flat_len (enc := SesM.cells) (k := 8) (fun _ => rfl), List.length_drop]
  have len3 : ((s.ses.take (κ + 1)).flatMap SesM.cells).length = (κ + 1) * 8 := by rw [flat_len (enc := SesM.cells) (k := 8) (fun _ => rfl), List.length_take, Nat.min_eq_left (by omega)]
  have rows : ∀ h', Rd w0 h' s.sa (s.ses.flatMap SesM.cells) := fun h' => k.ses.rd h'
  have r1 : ∀ h', Rd w0 h' s.sa ((s.ses.take κ).flatMap SesM.cells) := fun h' => by
    have := rows h'
    rw [← List.take_append_drop κ s.ses, List.flatMap_append] at this
    exact rd_pre this
  have r2 : ∀ h', Rd w0 h' (cutA 8 s.sa s.sc (κ + 1)) ((s.ses.drop (κ + 1)).flatMap SesM.cells) := fun h' => by
    have := rows h'
    rw [← List.take_append_drop (κ + 1) s.ses, List.flatMap_append] at this
    refine this.cut len3 fun hn e => ?_
    have : s.ses.drop (κ + 1) = [] := List.drop_eq_nil_of_le (by omega)
    rw [this] at hn; exact hn rfl
  have cells1 : ∀ (l : List SesM), ∀ y ∈ l.flatMap SesM.cells, y.oneCell' = true := fun l y hy => by
    obtain ⟨m, _, hm⟩ := List.mem_flatMap.1 hy
    exact ses_cell m y hm
  refine rowsOf_of (r1 h) len1 (App_new w (by omega) (by omega) len1 (cells1 _) fun a1 c1 h1 v1 w1 => ?_)
  refine rowsOf_of (r2 h1) len2 ?_
  rw [Nat.zero_add]
  refine App_slB v1 w1 (by omega) (by omega) len2 (cells1 _) fun a2 c2 h2 v2 w2 => ?_
  rw [← List.flatMap_append] at v2 w2
  have el : κ + (s.ses.length - (κ + 1)) = (dropS s κ a2 c2).ses.length := by
    show _ = (s.ses.take κ ++ s.ses.drop (κ + 1)).length
    rw [List.length_append, List.length_take, List.length_drop, Nat.min_eq_left (by omega)]
  rw [el] at v2 ⊢
  generalize ht : dropS s κ a2 c2 = t at v2
  have hts : t.ses = s.ses.take κ ++ s.ses.drop (κ + 1) := by rw [← ht]; rfl
  have hta : t.sa = a2 ∧ t.sc = c2 := by rw [← ht]; exact ⟨rfl, rfl⟩
  have htc : t.clock = s.clock ∧ t.ra = s.ra ∧ t.ret = s.ret ∧ t.rc = s.rc := by rw [← ht]; exact ⟨rfl, rfl, rfl, rfl⟩
  have mt : MaySt t := by rw [← ht]; exact may_drop hm κ a2 c2
  have sub := ents_sub s κ a2 c2
  rw [ht] at sub
  have cnt := drop_count a2 c2 g1
  rw [ht] at cnt
  obtain ⟨q1, q2, q3⟩ := chg_less sub (ents_rise hm)
  have mx := hm.ses x hx
  have b1 := mx.sl
  have b2 := mx.ql
  have b3 := mx.fll
  have b4 := mx.il
  have hcnt : cntS x ≤ 200 := by unfold cntS; omega
  have rt : ∀ h' D, Own w0 h' (D ++ (slB a2 ((s.ses.take κ ++ s.ses.drop (κ + 1)).flatMap SesM.cells) (c2 * 8) ++ B)) → StRd w0 h' t := fun h' D w' => by
    have rs := st_arg (h := h') k lt
    refine ⟨by rw [htc.2.2.1]; exact rs.rl, by rw [htc.2.1, htc.2.2.1]; exact rs.ret, by have := mt.sl; omega, ?_, fun y hy => rs.sesk y ((drop_sub s.ses κ).subset (by rw [hts] at hy; exact hy))⟩
    rw [hta.1, hts]
    rw [hts] at v2
    exact v2.rd w'
  have ta : (Value.agg #[.int .i64 s.clock, .slice s.ra s.ret.length s.rc, .slice a2 t.ses.length c2]) = t.agg2 := by
    show _ = Value.agg #[.int .i64 t.clock, .slice t.ra t.ret.length t.rc, .slice t.sa t.ses.length t.sc]
    rw [htc.1, htc.2.1, htc.2.2.1, htc.2.2.2, hta.1, hta.2]
  rw [ta]
  refine f19_spec (a := s) (b := t) T w2 (fun h' D w' => st_arg k lt) rt (fun hb => ?_) (fun _ _ hl => by omega) fun _ _ _ h3 a' c' os C hd ro w3 => ⟨_, _, _, _, rfl, ?_⟩
  · rcases hb with hb | hb
    · exact absurd hm hb
    · exact absurd mt hb
  have ol : os.length = cntS x := by
    have := congrArg List.length hd
    rw [List.length_map] at this; omega
  obtain ⟨ad, had, hat⟩ := rowLoad (enc := SesM.cells) (k := 8) (fun _ => rfl) (by decide) (rows h3) g1
  refine ⟨ad, had, by omega, by omega, _, _, _, _, _, _, _, _, _, _, _, _, _, _, _, _, ⟨rfl, hat⟩, brB_of (fun z => by simp at z) fun _ => ?_⟩
  have e1 : IntKind.i64.wrap ((IntKind.i64.wrap ((IntKind.i64.wrap ((IntKind.i64.wrap ((1 : Int) + ((x.subs.length : Nat) : Int))) + ((x.queue.length : Nat) : Int))) + ((x.fl.length : Nat) : Int))) + ((x.ids.length : Nat) : Int)) = ((os.length : Nat) : Int) := by
    rw [ol, wrap64 (x := (1 : Int) + _) (by omega) (by omega), wrap64 (x := (1 : Int) + _ + _) (by omega) (by omega), wrap64 (x := (1 : Int) + _ + _ + _) (by omega) (by omega), wrap64 (x := (1 : Int) + _ + _ + _ + _) (by omega) (by omega)]
    unfold cntS; omega
  rw [e1]
  have hg : ∀ o ∈ os, o.gone = true ∧ o.til = 0 ∧ o.val = [] := fun o ho => by
    have := q2 o.dat (by rw [← hd]; exact List.mem_map_of_mem ho)
    exact this
  refine f7_9_in _ _ _ _ _ _ _ _ _ _ _ _ _ _ _ _ _ _ _ (brB_of (fun z => by simp at z) fun _ => f7_10_in _ _ _ _ _ _ _ _ _ _ _ _ _ _ _ _ _ _ ?_)
  have fin := f7_11s (s := s) (t := t) (a := a') (c := c') (K := K) (B := C ++ (slB a2 ((s.ses.take κ ++ s.ses.drop (κ + 1)).flatMap SesM.cells) (c2 * 8) ++ B)) (by omega) hg ro (fun h' w' => ?_) os.length 0 (by omega) h3 w3
  · rw [htc.1, htc.2.1, htc.2.2.1, htc.2.2.2, hta.1, hta.2] at fin
    exact fin
  · refine f19_spec (a := t) (b := s) T w' (fun h'' D w'' => rt h'' (D ++ C) (by rw [List.append_assoc]; exact w'')) (fun h' D w' => st_arg k lt) (fun hb => ?_) (fun _ _ hl => by omega) fun _ _ _ h4 a4 c4 os4 C4 hd4 _ w4 => ⟨_, _, _, _, rfl, ?_⟩
    · rcases hb with hb | hb
      · exact absurd mt hb
      · exact absurd hm hb
    have ol4 : os4.length = os.length := by
      have := congrArg List.length hd4
      rw [List.length_map] at this; omega
    exact brB_of (fun _ => brB_of (fun _ => awake_sc T w4 hk) fun z => by rw [ol4] at z; simp at z) fun z => by simp at z
/-- SchemaLess. -/
theorem f7_spec {s : StM} {q : Int} (T : TabOk w0) (k : s.Ok w0) (hk : ∀ h, K (.bool true) h) : EvC Go.Proofs.Tryd.prog w0 7 #[s.agg2, .int .i64 q] K (fun _ => none) := by
  have w0' : Own w0 (fun _ => none) [] := Own.nil
  refine f7_go _ _ _ _ _ _ _ _ _ (f10_spec k ⟨_, rfl, brB_of (fun _ => f7_2_in _ _ _ _ _ _ _ _ _ _ (brB_of (fun _ => awake_sc T w0' hk) fun z => by cases z)) fun z => by cases z⟩ fun lt => ⟨_, rfl, brB_of (fun z => by cases z) fun _ => ?_⟩)
  refine f11_spec (s := s) T w0' (fun h' w' => st_arg k lt) fun t h1 ht w1 => ⟨t, rfl, brB_of (fun _ => f7_2_in _ _ _ _ _ _ _ _ _ _ (brB_of (fun _ => awake_sc T w1 hk) fun z => by cases z)) fun z => ?_⟩
  have hm := ht.1 (by simpa using z)
  refine f7_2_in _ _ _ _ _ _ _ _ _ _ (brB_of (fun _ => awake_sc T w1 hk) fun z2 => ?_)
  exact f7_3s T k lt hm (by have : ¬ ((s.ses.length : Nat) : Int) = 0 := by simpa using z2
                            omega) w1 hk
end
end Go.G.YtilifcggegabfaaDoor
