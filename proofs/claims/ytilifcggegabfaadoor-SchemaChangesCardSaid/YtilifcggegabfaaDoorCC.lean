/- The document's Changes; SchemaChanges. -/
import Derived.Test.YtilifcggegabfaaDoorCB
import Derived.Test.YtilifcggegabfaaDoorEE
import Derived.Test.YtilifcggegabfaaDoorProg
set_option maxRecDepth 100000
namespace Go.G.YtilifcggegabfaaDoor
open Go.RowKit
open Value (string slice int bool agg)
def f20_J : Nat → List Nat × Nat := jOf [(2, [0, 1, 4, 5, 6, 7, 8, 9, 10, 11, 12, 13, 14, 15, 16, 18, 19, 20, 21, 22, 23, 24, 25, 26, 27, 28, 29, 30, 31, 32, 33, 34, 35, 36, 37, 38, 39, 40, 41, 42, 43, 44, 45, 46, 47, 48, 49, 50, 51, 52, 53, 54, 55, 56, 57, 58, 59, 60, 61, 62, 63, 64, 65, 66, 67, 68, 69, 70, 71, 72, 73, 74, 75, 76, 77, 78, 79, 80, 81, 82, 83, 84, 85, 86, 87, 88, 89, 90, 91, 92, 93, 94, 95, 96, 97, 98, 99, 100, 101, 102, 103, 104, 105, 106, 107, 108, 109, 110], 2), (3, [0, 1, 4, 5, 6, 7, 8, 9, 10, 11, 12, 13, 14, 15, 16, 17, 18, 19, 20, 21, 22, 23, 24, 25, 26, 27, 28, 29, 30, 31, 32, 33, 34, 35, 36, 37, 38, 39, 40, 41, 42, 43, 44, 45, 46, 47, 48, 49, 50, 51, 52, 53, 54, 55, 56, 57, 58, 59, 60, 61, 62, 63, 64, 65, 66, 67, 68, 69, 70, 71, 72, 73, 74, 75, 76, 77, 78, 79, 80, 81, 82, 83, 84, 85, 86, 87, 88, 89, 90, 91, 92, 93, 94, 95, 96, 97, 98, 99, 100, 101, 102, 103, 104, 105, 106, 107, 108, 109, 110], 2), (5, [0, 1, 2, 3, 4, 5, 9, 10, 11, 12, 13, 14, 15, 16, 17, 18, 19, 20, 21, 22, 23, 24, 25, 26, 27, 28, 29, 30, 31, 32, 33, 34, 35, 36, 37, 38, 39, 40, 41, 42, 43, 44, 45, 46, 47, 48, 49, 50, 51, 52, 53, 54, 55, 56, 57, 58, 59, 60, 61, 62, 63, 64, 65, 66, 67, 68, 69, 70, 71, 72, 73, 74, 75, 76, 77, 78, 79, 80, 81, 82, 83, 84, 85, 86, 87, 88, 89, 90, 91, 92, 93, 94, 95, 96, 97, 98, 99, 100, 101, 102, 103, 104, 105, 106, 107, 108, 109, 110], 0), (6, [0, 1, 2, 3, 4, 5, 9, 10, 11, 12, 13, 14, 15, 16, 17, 18, 19, 20, 21, 22, 23, 24, 25, 26, 27, 28, 29, 30, 31, 32, 33, 34, 35, 36, 37, 38, 39, 40, 41, 42, 43, 44, 45, 46, 47, 48, 49, 50, 51, 52, 53, 54, 55, 56, 57, 58, 59, 60, 61, 62, 63, 64, 65, 66, 67, 68, 69, 70, 71, 72, 73, 74, 75, 76, 77, 78, 79, 80, 81, 82, 83, 84, 85, 86, 87, 88, 89, 90, 91, 92, 93, 94, 95, 96, 97, 98, 99, 100, 101, 102, 103, 104, 105, 106, 107, 108, 109, 110], 0), (20, [0, 1, 2, 3, 4, 5, 6, 7, 9, 10, 11, 12, 13, 14, 15, 16, 17, 18, 19, 20, 21, 22, 23, 24, 25, 26, 27, 28, 29, 30, 31, 32, 33, 34, 35, 36, 37, 38, 39, 40, 41, 42, 43, 44, 45, 46, 47, 48, 49, 50, 51, 52, 53, 54, 55, 56, 57, 58, 59, 60, 61, 62, 63, 64, 65, 66, 67, 68, 69, 70, 71, 72, 73, 74, 75, 76, 77, 78, 79, 80, 81, 82, 83, 84, 85, 86, 87, 88, 89, 90, 91, 92, 93, 94, 95, 96, 97, 98, 99, 100, 101, 102, 103, 104, 105, 106, 107, 108, 109, 110], 0), (12, [0, 1, 2, 3, 4, 5, 10, 11, 12, 13, 14, 15, 16, 17, 18, 19, 20, 21, 22, 23, 24, 25, 26, 27, 28, 29, 30, 31, 32, 33, 34, 35, 36, 37, 38, 39, 40, 41, 42, 43, 44, 45, 46, 47, 48, 49, 50, 51, 52, 53, 54, 55, 56, 57, 58, 59, 60, 61, 62, 63, 64, 65, 66, 67, 68, 69, 70, 71, 72, 73, 74, 75, 76, 77, 78, 79, 80, 81, 82, 83, 84, 85, 86, 87, 88, 89, 90, 91, 92, 93, 94, 95, 96, 97, 98, 99, 100, 101, 102, 103, 104, 105, 106, 107, 108, 109, 110], 0), (16, [0, 1, 2, 3, 4, 5, 10, 11, 12, 13, 14, 15, 16, 17, 18, 19, 20, 21, 22, 23, 24, 25, 26, 27, 28, 29, 30, 31, 32, 33, 34, 35, 36, 37, 38, 39, 40, 41, 42, 43, 44, 45, 46, 47, 48, 49, 50, 51, 52, 53, 54, 55, 56, 57, 58, 59, 60, 61, 62, 63, 64, 65, 66, 67, 68, 69, 70, 71, 72, 73, 74, 75, 76, 77, 78, 79, 80, 81, 82, 83, 84, 85, 86, 87, 88, 89, 90, 91, 92, 93, 94, 95, 96, 97, 98, 99, 100, 101, 102, 103, 104, 105, 106, 107, 108, 109, 110], 0), (15, [0, 1, 2, 3, 4, 5, 10, 11, 12, 13, 14, 15, 16, 17, 18, 19, 20, 21, 22, 23, 24, 25, 26, 27, 28, 29, 30, 31, 32, 33, 34, 35, 36, 37, 38, 39, 40, 41, 42, 43, 44, 45, 46, 47, 48, 49, 50, 51, 52, 53, 54, 55, 56, 57, 58, 59, 60, 61, 62, 63, 64, 65, 66, 67, 68, 69, 70, 71, 72, 73, 74, 75, 76, 77, 78, 79, 80, 81, 83, 84, 85, 86, 87, 88, 89, 90, 91, 92, 93, 94, 95, 96, 97, 98, 99, 100, 101, 102, 103, 104, 105, 106, 107, 108, 109, 110], 0), (18, [0, 1, 2, 3, 4, 5, 10, 11, 12, 13, 14, 15, 16, 17, 18, 19, 20, 21, 22, 23, 24, 25, 26, 27, 28, 29, 30, 31, 32, 33, 34, 35, 36, 37, 38, 39, 40, 41, 42, 43, 44, 45, 46, 47, 48, 49, 50, 51, 52, 53, 54, 55, 56, 57, 58, 59, 60, 61, 62, 63, 64, 65, 66, 67, 68, 69, 70, 71, 72, 73, 74, 75, 76, 77, 78, 79, 80, 81, 82, 83, 84, 85, 86, 87, 88, 89, 90, 91, 92, 93, 94, 95, 96, 97, 98, 99, 100, 101, 102, 103, 104, 105, 106, 107, 108, 109, 110], 0)]

def f20_2 (w0 : World) (K : Value → AH → Prop) (a : Bool) (b : Int) (c : Option Addr) (d : Nat) (e : Nat) (g : Option Addr) (i : Nat) (k : Nat) (m : Int) (n : Option Addr) (o : Nat) (p : Nat) (q : Option Addr) (r : Nat) (s : Nat) (h : AH) : Prop :=
  ∀ j : Nat → Value, LPk Proofs.Tryd.prog w0 (EvC Proofs.Tryd.prog w0) f20_J 20 K 2 [.v (j 0), .v (j 1), .bp 0 0, .bp 1 0, .v (j 4), .v (j 5), .v (j 6), .v (j 7), .v (j 8), .v (j 9), .v (j 10), .v (j 11), .v (j 12), .v (j 13), .v (j 14), .v (j 15), .v (j 16), .v (.bool a), .v (j 18), .v (j 19), .v (j 20), .v (j 21), .v (j 22), .v (j 23), .v (j 24), .v (j 25), .v (j 26), .v (j 27), .v (j 28), .v (j 29), .v (j 30), .v (j 31), .v (j 32), .v (j 33), .v (j 34), .v (j 35), .v (j 36), .v (j 37), .v (j 38), .v (j 39), .v (j 40), .v (j 41), .v (j 42), .v (j 43), .v (j 44), .v (j 45), .v (j 46), .v (j 47), .v (j 48), .v (j 49), .v (j 50), .v (j 51), .v (j 52), .v (j 53), .v (j 54), .v (j 55), .v (j 56), .v (j 57), .v (j 58), .v (j 59), .v (j 60), .v (j 61), .v (j 62), .v (j 63), .v (j 64), .v (j 65), .v (j 66), .v (j 67), .v (j 68), .v (j 69), .v (j 70), .v (j 71), .v (j 72), .v (j 73), .v (j 74), .v (j 75), .v (j 76), .v (j 77), .v (j 78), .v (j 79), .v (j 80), .v (j 81), .v (j 82), .v (j 83), .v (j 84), .v (j 85), .v (j 86), .v (j 87), .v (j 88), .v (j 89), .v (j 90), .v (j 91), .v (j 92), .v (j 93), .v (j 94), .v (j 95), .v (j 96), .v (j 97), .v (j 98), .v (j 99), .v (j 100), .v (j 101), .v (j 102), .v (j 103), .v (j 104), .v (j 105), .v (j 106), .v (j 107), .v (j 108), .v (j 109), .v (j 110)] [some [(.int .i64 b), (.slice c d e), (.slice g i k)], some [(.int .i64 m), (.slice n o p), (.slice q r s)]] h

def f20_3 (w0 : World) (K : Value → AH → Prop) (a : Int) (b : Option Addr) (c : Nat) (d : Nat) (e : Option Addr) (g : Nat) (i : Nat) (k : Int) (m : Option Addr) (n : Nat) (o : Nat) (p : Option Addr) (q : Nat) (r : Nat) (h : AH) : Prop :=
  ∀ j : Nat → Value, LPk Proofs.Tryd.prog w0 (EvC Proofs.Tryd.prog w0) f20_J 20 K 3 [.v (j 0), .v (j 1), .bp 0 0, .bp 1 0, .v (j 4), .v (j 5), .v (j 6), .v (j 7), .v (j 8), .v (j 9), .v (j 10), .v (j 11), .v (j 12), .v (j 13), .v (j 14), .v (j 15), .v (j 16), .v (j 17), .v (j 18), .v (j 19), .v (j 20), .v (j 21), .v (j 22), .v (j 23), .v (j 24), .v (j 25), .v (j 26), .v (j 27), .v (j 28), .v (j 29), .v (j 30), .v (j 31), .v (j 32), .v (j 33), .v (j 34), .v (j 35), .v (j 36), .v (j 37), .v (j 38), .v (j 39), .v (j 40), .v (j 41), .v (j 42), .v (j 43), .v (j 44), .v (j 45), .v (j 46), .v (j 47), .v (j 48), .v (j 49), .v (j 50), .v (j 51), .v (j 52), .v (j 53), .v (j 54), .v (j 55), .v (j 56), .v (j 57), .v (j 58), .v (j 59), .v (j 60), .v (j 61), .v (j 62), .v (j 63), .v (j 64), .v (j 65), .v (j 66), .v (j 67), .v (j 68), .v (j 69), .v (j 70), .v (j 71), .v (j 72), .v (j 73), .v (j 74), .v (j 75), .v (j 76), .v (j 77), .v (j 78), .v (j 79), .v (j 80), .v (j 81), .v (j 82), .v (j 83), .v (j 84), .v (j 85), .v (j 86), .v (j 87), .v (j 88), .v (j 89), .v (j 90), .v (j 91), .v (j 92), .v (j 93), .v (j 94), .v (j 95), .v (j 96), .v (j 97), .v (j 98), .v (j 99), .v (j 100), .v (j 101), .v (j 102), .v (j 103), .v (j 104), .v (j 105), .v (j 106), .v (j 107), .v (j 108), .v (j 109), .v (j 110)] [some [(.int .i64 a), (.slice b c d), (.slice e g i)], some [(.int .i64 k), (.slice m n o), (.slice p q r)]] h

def f20_5 (w0 : World) (K : Value → AH → Prop) (a : Option Addr) (b : Nat) (c : Nat) (d : Option Addr) (e : Nat) (g : Nat) (i : Option Addr) (k : Nat) (m : Nat) (h : AH) : Prop :=
  ∀ j : Nat → Value, LPk Proofs.Tryd.prog w0 (EvC Proofs.Tryd.prog w0) f20_J 20 K 5 [.v (j 0), .v (j 1), .v (j 2), .v (j 3), .v (j 4), .v (j 5), .v (.slice a b c), .v (.slice d e g), .v (.slice i k m), .v (j 9), .v (j 10), .v (j 11), .v (j 12), .v (j 13), .v (j 14), .v (j 15), .v (j 16), .v (j 17), .v (j 18), .v (j 19), .v (j 20), .v (j 21), .v (j 22), .v (j 23), .v (j 24), .v (j 25), .v (j 26), .v (j 27), .v (j 28), .v (j 29), .v (j 30), .v (j 31), .v (j 32), .v (j 33), .v (j 34), .v (j 35), .v (j 36), .v (j 37), .v (j 38), .v (j 39), .v (j 40), .v (j 41), .v (j 42), .v (j 43), .v (j 44), .v (j 45), .v (j 46), .v (j 47), .v (j 48), .v (j 49), .v (j 50), .v (j 51), .v (j 52), .v (j 53), .v (j 54), .v (j 55), .v (j 56), .v (j 57), .v (j 58), .v (j 59), .v (j 60), .v (j 61), .v (j 62), .v (j 63), .v (j 64), .v (j 65), .v (j 66), .v (j 67), .v (j 68), .v (j 69), .v (j 70), .v (j 71), .v (j 72), .v (j 73), .v (j 74), .v (j 75), .v (j 76), .v (j 77), .v (j 78), .v (j 79), .v (j 80), .v (j 81), .v (j 82), .v (j 83), .v (j 84), .v (j 85), .v (j 86), .v (j 87), .v (j 88), .v (j 89), .v (j 90), .v (j 91), .v (j 92), .v (j 93), .v (j 94), .v (j 95), .v (j 96), .v (j 97), .v (j 98), .v (j 99), .v (j 100), .v (j 101), .v (j 102), .v (j 103), .v (j 104), .v (j 105), .v (j 106), .v (j 107), .v (j 108), .v (j 109), .v (j 110)] [] h

def f20_6 (w0 : World) (K : Value → AH → Prop) (a : Option Addr) (b : Nat) (c : Nat) (d : Option Addr) (e : Nat) (g : Nat) (i : Option Addr) (k : Nat) (m : Nat) (h : AH) : Prop :=
  ∀ j : Nat → Value, LPk Proofs.Tryd.prog w0 (EvC Proofs.Tryd.prog w0) f20_J 20 K 6 [.v (j 0), .v (j 1), .v (j 2), .v (j 3), .v (j 4), .v (j 5), .v (.slice a b c), .v (.slice d e g), .v (.slice i k m), .v (j 9), .v (j 10), .v (j 11), .v (j 12), .v (j 13), .v (j 14), .v (j 15), .v (j 16), .v (j 17), .v (j 18), .v (j 19), .v (j 20), .v (j 21), .v (j 22), .v (j 23), .v (j 24), .v (j 25), .v (j 26), .v (j 27), .v (j 28), .v (j 29), .v (j 30), .v (j 31), .v (j 32), .v (j 33), .v (j 34), .v (j 35), .v (j 36), .v (j 37), .v (j 38), .v (j 39), .v (j 40), .v (j 41), .v (j 42), .v (j 43), .v (j 44), .v (j 45), .v (j 46), .v (j 47), .v (j 48), .v (j 49), .v (j 50), .v (j 51), .v (j 52), .v (j 53), .v (j 54), .v (j 55), .v (j 56), .v (j 57), .v (j 58), .v (j 59), .v (j 60), .v (j 61), .v (j 62), .v (j 63), .v (j 64), .v (j 65), .v (j 66), .v (j 67), .v (j 68), .v (j 69), .v (j 70), .v (j 71), .v (j 72), .v (j 73), .v (j 74), .v (j 75), .v (j 76), .v (j 77), .v (j 78), .v (j 79), .v (j 80), .v (j 81), .v (j 82), .v (j 83), .v (j 84), .v (j 85), .v (j 86), .v (j 87), .v (j 88), .v (j 89), .v (j 90), .v (j 91), .v (j 92), .v (j 93), .v (j 94), .v (j 95), .v (j 96), .v (j 97), .v (j 98), .v (j 99), .v (j 100), .v (j 101), .v (j 102), .v (j 103), .v (j 104), .v (j 105), .v (j 106), .v (j 107), .v (j 108), .v (j 109), .v (j 110)] [] h

def f20_20 (w0 : World) (K : Value → AH → Prop) (a : Option Addr) (b : Nat) (c : Nat) (h : AH) : Prop :=
  ∀ j : Nat → Value, LPk Proofs.Tryd.prog w0 (EvC Proofs.Tryd.prog w0) f20_J 20 K 20 [.v (j 0), .v (j 1), .v (j 2), .v (j 3), .v (j 4), .v (j 5), .v (j 6), .v (j 7), .v (.slice a b c), .v (j 9), .v (j 10), .v (j 11), .v (j 12), .v (j 13), .v (j 14), .v (j 15), .v (j 16), .v (j 17), .v (j 18), .v (j 19), .v (j 20), .v (j 21), .v (j 22), .v (j 23), .v (j 24), .v (j 25), .v (j 26), .v (j 27), .v (j 28), .v (j 29), .v (j 30), .v (j 31), .v (j 32), .v (j 33), .v (j 34), .v (j 35), .v (j 36), .v (j 37), .v (j 38), .v (j 39), .v (j 40), .v (j 41), .v (j 42), .v (j 43), .v (j 44), .v (j 45), .v (j 46), .v (j 47), .v (j 48), .v (j 49), .v (j 50), .v (j 51), .v (j 52), .v (j 53), .v (j 54), .v (j 55), .v (j 56), .v (j 57), .v (j 58), .v (j 59), .v (j 60), .v (j 61), .v (j 62), .v (j 63), .v (j 64), .v (j 65), .v (j 66), .v (j 67), .v (j 68), .v (j 69), .v (j 70), .v (j 71), .v (j 72), .v (j 73), .v (j 74), .v (j 75), .v (j 76), .v (j 77), .v (j 78), .v (j 79), .v (j 80), .v (j 81), .v (j 82), .v (j 83), .v (j 84), .v (j 85), .v (j 86), .v (j 87), .v (j 88), .v (j 89), .v (j 90), .v (j 91), .v (j 92), .v (j 93), .v (j 94), .v (j 95), .v (j 96), .v (j 97), .v (j 98), .v (j 99), .v (j 100), .v (j 101), .v (j 102), .v (j 103), .v (j 104), .v (j 105), .v (j 106), .v (j 107), .v (j 108), .v (j 109), .v (j 110)] [] h

def f20_12 (w0 : World) (K : Value → AH → Prop) (a : Option Addr) (b : Nat) (c : Nat) (d : Option Addr) (e : Nat) (g : Nat) (i : Option Addr) (k : Nat) (m : Nat) (n : Int) (h : AH) : Prop :=
  ∀ j : Nat → Value, LPk Proofs.Tryd.prog w0 (EvC Proofs.Tryd.prog w0) f20_J 20 K 12 [.v (j 0), .v (j 1), .v (j 2), .v (j 3), .v (j 4), .v (j 5), .v (.slice a b c), .v (.slice d e g), .v (.slice i k m), .v (.int .i64 n), .v (j 10), .v (j 11), .v (j 12), .v (j 13), .v (j 14), .v (j 15), .v (j 16), .v (j 17), .v (j 18), .v (j 19), .v (j 20), .v (j 21), .v (j 22), .v (j 23), .v (j 24), .v (j 25), .v (j 26), .v (j 27), .v (j 28), .v (j 29), .v (j 30), .v (j 31), .v (j 32), .v (j 33), .v (j 34), .v (j 35), .v (j 36), .v (j 37), .v (j 38), .v (j 39), .v (j 40), .v (j 41), .v (j 42), .v (j 43), .v (j 44), .v (j 45), .v (j 46), .v (j 47), .v (j 48), .v (j 49), .v (j 50), .v (j 51), .v (j 52), .v (j 53), .v (j 54), .v (j 55), .v (j 56), .v (j 57), .v (j 58), .v (j 59), .v (j 60), .v (j 61), .v (j 62), .v (j 63), .v (j 64), .v (j 65), .v (j 66), .v (j 67), .v (j 68), .v (j 69), .v (j 70), .v (j 71), .v (j 72), .v (j 73), .v (j 74), .v (j 75), .v (j 76), .v (j 77), .v (j 78), .v (j 79), .v (j 80), .v (j 81), .v (j 82), .v (j 83), .v (j 84), .v (j 85), .v (j 86), .v (j 87), .v (j 88), .v (j 89), .v (j 90), .v (j 91), .v (j 92), .v (j 93), .v (j 94), .v (j 95), .v (j 96), .v (j 97), .v (j 98), .v (j 99), .v (j 100), .v (j 101), .v (j 102), .v (j 103), .v (j 104), .v (j 105), .v (j 106), .v (j 107), .v (j 108), .v (j 109), .v (j 110)] [] h

def f20_16 (w0 : World) (K : Value → AH → Prop) (a : Option Addr) (b : Nat) (c : Nat) (d : Option Addr) (e : Nat) (g : Nat) (i : Option Addr) (k : Nat) (m : Nat) (n : Int) (h : AH) : Prop :=
  ∀ j : Nat → Value, LPk Proofs.Tryd.prog w0 (EvC Proofs.Tryd.prog w0) f20_J 20 K 16 [.v (j 0), .v (j 1), .v (j 2), .v (j 3), .v (j 4), .v (j 5), .v (.slice a b c), .v (.slice d e g), .v (.slice i k m), .v (.int .i64 n), .v (j 10), .v (j 11), .v (j 12), .v (j 13), .v (j 14), .v (j 15), .v (j 16), .v (j 17), .v (j 18), .v (j 19), .v (j 20), .v (j 21), .v (j 22), .v (j 23), .v (j 24), .v (j 25), .v (j 26), .v (j 27), .v (j 28), .v (j 29), .v (j 30), .v (j 31), .v (j 32), .v (j 33), .v (j 34), .v (j 35), .v (j 36), .v (j 37), .v (j 38), .v (j 39), .v (j 40), .v (j 41), .v (j 42), .v (j 43), .v (j 44), .v (j 45), .v (j 46), .v (j 47), .v (j 48), .v (j 49), .v (j 50), .v (j 51), .v (j 52), .v (j 53), .v (j 54), .v (j 55), .v (j 56), .v (j 57), .v (j 58), .v (j 59), .v (j 60), .v (j 61), .v (j 62), .v (j 63), .v (j 64), .v (j 65), .v (j 66), .v (j 67), .v (j 68), .v (j 69), .v (j 70), .v (j 71), .v (j 72), .v (j 73), .v (j 74), .v (j 75), .v (j 76), .v (j 77), .v (j 78), .v (j 79), .v (j 80), .v (j 81), .v (j 82), .v (j 83), .v (j 84), .v (j 85), .v (j 86), .v (j 87), .v (j 88), .v (j 89), .v (j 90), .v (j 91), .v (j 92), .v (j 93), .v (j 94), .v (j 95), .v (j 96), .v (j 97), .v (j 98), .v (j 99), .v (j 100), .v (j 101), .v (j 102), .v (j 103), .v (j 104), .v (j 105), .v (j 106), .v (j 107), .v (j 108), .v (j 109), .v (j 110)] [] h

def f20_15 (w0 : World) (K : Value → AH → Prop) (a : Option Addr) (b : Nat) (c : Nat) (d : Option Addr) (e : Nat) (g : Nat) (i : Option Addr) (k : Nat) (m : Nat) (n : Int) (o : Bool) (h : AH) : Prop :=
  ∀ j : Nat → Value, LPk Proofs.Tryd.prog w0 (EvC Proofs.Tryd.prog w0) f20_J 20 K 15 [.v (j 0), .v (j 1), .v (j 2), .v (j 3), .v (j 4), .v (j 5), .v (.slice a b c), .v (.slice d e g), .v (.slice i k m), .v (.int .i64 n), .v (j 10), .v (j 11), .v (j 12), .v (j 13), .v (j 14), .v (j 15), .v (j 16), .v (j 17), .v (j 18), .v (j 19), .v (j 20), .v (j 21), .v (j 22), .v (j 23), .v (j 24), .v (j 25), .v (j 26), .v (j 27), .v (j 28), .v (j 29), .v (j 30), .v (j 31), .v (j 32), .v (j 33), .v (j 34), .v (j 35), .v (j 36), .v (j 37), .v (j 38), .v (j 39), .v (j 40), .v (j 41), .v (j 42), .v (j 43), .v (j 44), .v (j 45), .v (j 46), .v (j 47), .v (j 48), .v (j 49), .v (j 50), .v (j 51), .v (j 52), .v (j 53), .v (j 54), .v (j 55), .v (j 56), .v (j 57), .v (j 58), .v (j 59), .v (j 60), .v (j 61), .v (j 62), .v (j 63), .v (j 64), .v (j 65), .v (j 66), .v (j 67), .v (j 68), .v (j 69), .v (j 70), .v (j 71), .v (j 72), .v (j 73), .v (j 74), .v (j 75), .v (j 76), .v (j 77), .v (j 78), .v (j 79), .v (j 80), .v (j 81), .v (.bool o), .v (j 83), .v (j 84), .v (j 85), .v (j 86), .v (j 87), .v (j 88), .v (j 89), .v (j 90), .v (j 91), .v (j 92), .v (j 93), .v (j 94), .v (j 95), .v (j 96), .v (j 97), .v (j 98), .v (j 99), .v (j 100), .v (j 101), .v (j 102), .v (j 103), .v (j 104), .v (j 105), .v (j 106), .v (j 107), .v (j 108), .v (j 109), .v (j 110)] [] h

def f20_18 (w0 : World) (K : Value → AH → Prop) (a : Option Addr) (b : Nat) (c : Nat) (d : Option Addr) (e : Nat) (g : Nat) (i : Option Addr) (k : Nat) (m : Nat) (n : Int) (h : AH) : Prop :=
  ∀ j : Nat → Value, LPk Proofs.Tryd.prog w0 (EvC Proofs.Tryd.prog w0) f20_J 20 K 18 [.v (j 0), .v (j 1), .v (j 2), .v (j 3), .v (j 4), .v (j 5), .v (.slice a b c), .v (.slice d e g), .v (.slice i k m), .v (.int .i64 n), .v (j 10), .v (j 11), .v (j 12), .v (j 13), .v (j 14), .v (j 15), .v (j 16), .v (j 17), .v (j 18), .v (j 19), .v (j 20), .v (j 21), .v (j 22), .v (j 23), .v (j 24), .v (j 25), .v (j 26), .v (j 27), .v (j 28), .v (j 29), .v (j 30), .v (j 31), .v (j 32), .v (j 33), .v (j 34), .v (j 35), .v (j 36), .v (j 37), .v (j 38), .v (j 39), .v (j 40), .v (j 41), .v (j 42), .v (j 43), .v (j 44), .v (j 45), .v (j 46), .v (j 47), .v (j 48), .v (j 49), .v (j 50), .v (j 51), .v (j 52), .v (j 53), .v (j 54), .v (j 55), .v (j 56), .v (j 57), .v (j 58), .v (j 59), .v (j 60), .v (j 61), .v (j 62), .v (j 63), .v (j 64), .v (j 65), .v (j 66), .v (j 67), .v (j 68), .v (j 69), .v (j 70), .v (j 71), .v (j 72), .v (j 73), .v (j 74), .v (j 75), .v (j 76), .v (j 77), .v (j 78), .v (j 79), .v (j 80), .v (j 81), .v (j 82), .v (j 83), .v (j 84), .v (j 85), .v (j 86), .v (j 87), .v (j 88), .v (j 89), .v (j 90), .v (j 91), .v (j 92), .v (j 93), .v (j 94), .v (j 95), .v (j 96), .v (j 97), .v (j 98), .v (j 99), .v (j 100), .v (j 101), .v (j 102), .v (j 103), .v (j 104), .v (j 105), .v (j 106), .v (j 107), .v (j 108), .v (j 109), .v (j 110)] [] h

theorem f20_2_in {w0 : World} {K : Value → AH → Prop} (a : Bool) (b : Int) (c : Option Addr) (d : Nat) (e : Nat) (g : Option Addr) (i : Nat) (k : Nat) (m : Int) (n : Option Addr) (o : Nat) (p : Nat) (q : Option Addr) (r : Nat) (s : Nat) (h : AH)
  (hv : (brB a (K (Value.tuple #[(slice none 0 0), (int .i64 (1 : Int))]) h) (f20_3 w0 K b c d e g i k m n o p q r s h))) :
  f20_2 w0 K a b c d e g i k m n o p q r s h := fun j => LP_intro (P := Proofs.Tryd.prog) (Eq.mp (by kernel_rfl) hv)

theorem f20_3_in {w0 : World} {K : Value → AH → Prop} (a : Int) (b : Option Addr) (c : Nat) (d : Nat) (e : Option Addr) (g : Nat) (i : Nat) (k : Int) (m : Option Addr) (n : Nat) (o : Nat) (p : Option Addr) (q : Nat) (r : Nat) (h : AH)
  (hv : (EvC Proofs.Tryd.prog w0 40 #[(agg #[(int .i64 a), (slice b c d), (slice e g i)])] (fun z A => (∃ s : Option Addr, (∃ t : Nat, (∃ u : Nat, ((z = (slice s t u)) ∧ (EvC Proofs.Tryd.prog w0 40 #[(agg #[(int .i64 k), (slice m n o), (slice p q r)])] (fun B C => (∃ v : Option Addr, (∃ x : Nat, (∃ y : Nat, ((B = (slice v x y)) ∧ (f20_5 w0 K s t u v x y none 0 0 C)))))) A)))))) h)) :
  f20_3 w0 K a b c d e g i k m n o p q r h := fun j => LP_intro (P := Proofs.Tryd.prog) (Eq.mp (by kernel_rfl) hv)

theorem f20_5_in {w0 : World} {K : Value → AH → Prop} (g : Option Addr) (a : Nat) (i : Nat) (k : Option Addr) (b : Nat) (m : Nat) (c : Option Addr) (d : Nat) (e : Nat) (h : AH)
  (hv : (brB (decide (((0 : Int) < ((a : Nat) : Int)))) (f20_6 w0 K g a i k b m c d e h) (brB (decide (((0 : Int) < ((b : Nat) : Int)))) (f20_6 w0 K g a i k b m c d e h) (f20_20 w0 K c d e h)))) :
  f20_5 w0 K g a i k b m c d e h := fun j => LP_intro (P := Proofs.Tryd.prog) (Eq.mp (by kernel_rfl) hv)

theorem f20_6_in {w0 : World} {K : Value → AH → Prop} (c : Option Addr) (a : Nat) (e : Nat) (d : Option Addr) (b : Nat) (g : Nat) (i : Option Addr) (k : Nat) (m : Nat) (h : AH)
  (hv : (brB (((a : Nat) : Int) == (0 : Int)) (f20_12 w0 K c a e d b g i k m (1 : Int) h) (brB (((b : Nat) : Int) == (0 : Int)) (f20_12 w0 K c a e d b g i k m (-1 : Int) h) (∃ n : Addr, ((c = (some n)) ∧ (((0 : Int) ≤ (0 : Int)) ∧ (((0 : Int) < ((a : Nat) : Int)) ∧ (∃ o : Addr, ((d = (some o)) ∧ (((0 : Int) ≤ (0 : Int)) ∧ (((0 : Int) < ((b : Nat) : Int)) ∧ ((∃ p : Option Addr, (∃ q : Nat, (∃ r : Nat, (((cellA w0 h (Addr.add (Addr.add n 0) 0)) = (some (slice p q r))) ∧ (∃ s : Option Addr, (∃ t : Nat, (∃ u : Nat, (((cellA w0 h (Addr.add (Addr.add o 0) 0)) = (some (slice s t u))) ∧ (EvC Proofs.Tryd.prog w0 14 #[(slice p q r), (slice s t u)] (fun E F => (∃ v : Int, ((E = (int .i64 v)) ∧ (f20_12 w0 K c a e d b g i k m v F)))) h))))))))) ∧ (∃ x : Option Addr, (∃ y : Nat, (∃ z : Nat, (((cellA w0 h (Addr.add (Addr.add o 0) 0)) = (some (slice x y z))) ∧ (∃ A : Option Addr, (∃ B : Nat, (∃ C : Nat, (((cellA w0 h (Addr.add (Addr.add n 0) 0)) = (some (slice A B C))) ∧ (EvC Proofs.Tryd.prog w0 14 #[(slice A B C), (slice x y z)] (fun L M => (∃ D : Int, ((L = (int .i64 D)) ∧ (f20_12 w0 K c a e d b g i k m D M)))) h))))))))))))))))))))) :
  f20_6 w0 K c a e d b g i k m h := fun j => LP_intro (P := Proofs.Tryd.prog) (Eq.mp (by kernel_rfl) hv)

theorem f20_20_in {w0 : World} {K : Value → AH → Prop} (b : Option Addr) (a : Nat) (c : Nat) (h : AH)
  (hv : (brB (decide (((400 : Int) < ((a : Nat) : Int)))) (K (Value.tuple #[(slice none 0 0), (int .i64 (13 : Int))]) h) (K (Value.tuple #[(slice b a c), (int .i64 (0 : Int))]) h))) :
  f20_20 w0 K b a c h := fun j => LP_intro (P := Proofs.Tryd.prog) (Eq.mp (by kernel_rfl) hv)

theorem f20_12_in {w0 : World} {K : Value → AH → Prop} (a : Option Addr) (b : Nat) (i : Nat) (c : Option Addr) (d : Nat) (k : Nat) (m : Option Addr) (g : Nat) (n : Nat) (e : Int) (h : AH)
  (hv : (brB (decide ((e < (0 : Int)))) (∃ T : Addr, ((a = (some T)) ∧ (((0 : Int) ≤ (0 : Int)) ∧ (((0 : Int) < ((b : Nat) : Int)) ∧ (∃ U : Option Addr, (∃ V : Nat, (∃ Y : Nat, (((cellA w0 h (Addr.add (Addr.add T 0) 0)) = (some (slice U V Y))) ∧ (App w0 h 4 64 m g n 1 [(slice U V Y), (bool true), (int .i64 (0 : Int)), (slice none 0 0)] (fun d5 d6 d7 => (f20_16 w0 K a b i c d k d5 (g + 1) d6 e d7))))))))))) (brB (decide (((0 : Int) < e))) (f20_15 w0 K a b i c d k m g n e true h) (∃ B : Addr, ((a = (some B)) ∧ (((0 : Int) ≤ (0 : Int)) ∧ (((0 : Int) < ((b : Nat) : Int)) ∧ (∃ C : Addr, ((c = (some C)) ∧ (((0 : Int) ≤ (0 : Int)) ∧ (((0 : Int) < ((d : Nat) : Int)) ∧ ((∃ Z : Int, (((cellA w0 h (Addr.add (Addr.add B 0) 3)) = (some (int .i64 Z))) ∧ (∃ a0 : Int, (((cellA w0 h (Addr.add (Addr.add C 0) 3)) = (some (int .i64 a0))) ∧ (brB (Z != a0) (f20_15 w0 K a b i c d k m g n e true h) (∃ o : Addr, ((a = (some o)) ∧ (((0 : Int) ≤ (0 : Int)) ∧ (((0 : Int) < ((b : Nat) : Int)) ∧ (∃ p : Addr, ((c = (some p)) ∧ (((0 : Int) ≤ (0 : Int)) ∧ (((0 : Int) < ((d : Nat) : Int)) ∧ ((∃ q : Option Addr, (∃ r : Nat, (∃ d8 : Nat, (((cellA w0 h (Addr.add (Addr.add o 0) 4)) = (some (slice q r d8))) ∧ ((rowsOf w0 h 1 q r (fun d9 => (∃ a1 : ByteArray, ((d9 = (intsOf a1)) ∧ (∃ a2 : Option Addr, (∃ a3 : Nat, (∃ e0 : Nat, (((cellA w0 h (Addr.add (Addr.add p 0) 4)) = (some (slice a2 a3 e0))) ∧ (rowsOf w0 h 1 a2 a3 (fun e1 => (∃ a4 : ByteArray, ((e1 = (intsOf a4)) ∧ (f20_15 w0 K a b i c d k m g n e (!(decide ((a1 = a4)))) h))))))))))))) ∧ (∃ D : Option Addr, (∃ E : Nat, (∃ e2 : Nat, (((cellA w0 h (Addr.add (Addr.add p 0) 4)) = (some (slice D E e2))) ∧ ((rowsOf w0 h 1 q r (fun e3 => (∃ a5 : ByteArray, ((e3 = (intsOf a5)) ∧ (rowsOf w0 h 1 D E (fun e4 => (∃ a6 : ByteArray, ((e4 = (intsOf a6)) ∧ (f20_15 w0 K a b i c d k m g n e (!(decide ((a5 = a6)))) h))))))))) ∧ (rowsOf w0 h 1 D E (fun e5 => (∃ a7 : ByteArray, ((e5 = (intsOf a7)) ∧ (rowsOf w0 h 1 q r (fun e6 => (∃ a8 : ByteArray, ((e6 = (intsOf a8)) ∧ (f20_15 w0 K a b i c d k m g n e (!(decide ((a8 = a7)))) h))))))))))))))))))) ∧ (∃ s : Option Addr, (∃ t : Nat, (∃ e7 : Nat, (((cellA w0 h (Addr.add (Addr.add p 0) 4)) = (some (slice s t e7))) ∧ ((∃ F : Option Addr, (∃ L : Nat, (∃ e8 : Nat, (((cellA w0 h (Addr.add (Addr.add o 0) 4)) = (some (slice F L e8))) ∧ ((rowsOf w0 h 1 F L (fun e9 => (∃ a9 : ByteArray, ((e9 = (intsOf a9)) ∧ (rowsOf w0 h 1 s t (fun g0 => (∃ b0 : ByteArray, ((g0 = (intsOf b0)) ∧ (f20_15 w0 K a b i c d k m g n e (!(decide ((a9 = b0)))) h))))))))) ∧ (rowsOf w0 h 1 s t (fun g1 => (∃ b1 : ByteArray, ((g1 = (intsOf b1)) ∧ (rowsOf w0 h 1 F L (fun g2 => (∃ b2 : ByteArray, ((g2 = (intsOf b2)) ∧ (f20_15 w0 K a b i c d k m g n e (!(decide ((b2 = b1)))) h)))))))))))))) ∧ (rowsOf w0 h 1 s t (fun g3 => (∃ b3 : ByteArray, ((g3 = (intsOf b3)) ∧ (∃ b4 : Option Addr, (∃ b5 : Nat, (∃ g4 : Nat, (((cellA w0 h (Addr.add (Addr.add o 0) 4)) = (some (slice b4 b5 g4))) ∧ (rowsOf w0 h 1 b4 b5 (fun g5 => (∃ b6 : ByteArray, ((g5 = (intsOf b6)) ∧ (f20_15 w0 K a b i c d k m g n e (!(decide ((b6 = b3)))) h)))))))))))))))))))))))))))))))) ∧ (∃ b7 : Int, (((cellA w0 h (Addr.add (Addr.add C 0) 3)) = (some (int .i64 b7))) ∧ (∃ b8 : Int, (((cellA w0 h (Addr.add (Addr.add B 0) 3)) = (some (int .i64 b8))) ∧ (brB (b8 != b7) (f20_15 w0 K a b i c d k m g n e true h) (∃ u : Addr, ((a = (some u)) ∧ (((0 : Int) ≤ (0 : Int)) ∧ (((0 : Int) < ((b : Nat) : Int)) ∧ (∃ v : Addr, ((c = (some v)) ∧ (((0 : Int) ≤ (0 : Int)) ∧ (((0 : Int) < ((d : Nat) : Int)) ∧ ((∃ x : Option Addr, (∃ y : Nat, (∃ g6 : Nat, (((cellA w0 h (Addr.add (Addr.add u 0) 4)) = (some (slice x y g6))) ∧ ((rowsOf w0 h 1 x y (fun g7 => (∃ b9 : ByteArray, ((g7 = (intsOf b9)) ∧ (∃ c0 : Option Addr, (∃ c1 : Nat, (∃ g8 : Nat, (((cellA w0 h (Addr.add (Addr.add v 0) 4)) = (some (slice c0 c1 g8))) ∧ (rowsOf w0 h 1 c0 c1 (fun g9 => (∃ c2 : ByteArray, ((g9 = (intsOf c2)) ∧ (f20_15 w0 K a b i c d k m g n e (!(decide ((b9 = c2)))) h))))))))))))) ∧ (∃ M : Option Addr, (∃ N : Nat, (∃ i0 : Nat, (((cellA w0 h (Addr.add (Addr.add v 0) 4)) = (some (slice M N i0))) ∧ ((rowsOf w0 h 1 x y (fun i1 => (∃ c3 : ByteArray, ((i1 = (intsOf c3)) ∧ (rowsOf w0 h 1 M N (fun i2 => (∃ c4 : ByteArray, ((i2 = (intsOf c4)) ∧ (f20_15 w0 K a b i c d k m g n e (!(decide ((c3 = c4)))) h))))))))) ∧ (rowsOf w0 h 1 M N (fun i3 => (∃ c5 : ByteArray, ((i3 = (intsOf c5)) ∧ (rowsOf w0 h 1 x y (fun i4 => (∃ c6 : ByteArray, ((i4 = (intsOf c6)) ∧ (f20_15 w0 K a b i c d k m g n e (!(decide ((c6 = c5)))) h))))))))))))))))))) ∧ (∃ z : Option Addr, (∃ A : Nat, (∃ i5 : Nat, (((cellA w0 h (Addr.add (Addr.add v 0) 4)) = (some (slice z A i5))) ∧ ((∃ Q : Option Addr, (∃ R : Nat, (∃ i6 : Nat, (((cellA w0 h (Addr.add (Addr.add u 0) 4)) = (some (slice Q R i6))) ∧ ((rowsOf w0 h 1 Q R (fun i7 => (∃ c7 : ByteArray, ((i7 = (intsOf c7)) ∧ (rowsOf w0 h 1 z A (fun i9 => (∃ c8 : ByteArray, ((i9 = (intsOf c8)) ∧ (f20_15 w0 K a b i c d k m g n e (!(decide ((c7 = c8)))) h))))))))) ∧ (rowsOf w0 h 1 z A (fun k0 => (∃ c9 : ByteArray, ((k0 = (intsOf c9)) ∧ (rowsOf w0 h 1 Q R (fun k1 => (∃ d0 : ByteArray, ((k1 = (intsOf d0)) ∧ (f20_15 w0 K a b i c d k m g n e (!(decide ((d0 = c9)))) h)))))))))))))) ∧ (rowsOf w0 h 1 z A (fun k2 => (∃ d1 : ByteArray, ((k2 = (intsOf d1)) ∧ (∃ d2 : Option Addr, (∃ d3 : Nat, (∃ k3 : Nat, (((cellA w0 h (Addr.add (Addr.add u 0) 4)) = (some (slice d2 d3 k3))) ∧ (rowsOf w0 h 1 d2 d3 (fun k4 => (∃ d4 : ByteArray, ((k4 = (intsOf d4)) ∧ (f20_15 w0 K a b i c d k m g n e (!(decide ((d4 = d1)))) h)))))))))))))))))))))))))))))))))))))))))))) :
  f20_12 w0 K a b i c d k m g n e h := fun j => LP_intro (P := Proofs.Tryd.prog) (Eq.mp (by kernel_rfl) hv)

theorem f20_16_in {w0 : World} {K : Value → AH → Prop} (d : Option Addr) (a : Nat) (b : Nat) (e : Option Addr) (g : Nat) (i : Nat) (k : Option Addr) (m : Nat) (n : Nat) (c : Int) (h : AH)
  (hv : (brB (decide ((c ≤ (0 : Int)))) (((0 : Int) ≤ (1 : Int)) ∧ (((1 : Int) ≤ ((a : Nat) : Int)) ∧ (f20_18 w0 K (cutA 5 d b 1) (a - 1) (b - 1) e g i k m n c h))) (f20_18 w0 K d a b e g i k m n c h))) :
  f20_16 w0 K d a b e g i k m n c h := fun j => LP_intro (P := Proofs.Tryd.prog) (Eq.mp (by kernel_rfl) hv)

theorem f20_15_in {w0 : World} {K : Value → AH → Prop} (d : Option Addr) (e : Nat) (g : Nat) (b : Option Addr) (c : Nat) (i : Nat) (k : Option Addr) (a : Nat) (m : Nat) (n : Int) (z : Bool) (h : AH)
  (hv : (brB z (∃ o : Addr, ((b = (some o)) ∧ (((0 : Int) ≤ (0 : Int)) ∧ (((0 : Int) < ((c : Nat) : Int)) ∧ (∃ p : Addr, ((b = (some p)) ∧ (((0 : Int) ≤ (0 : Int)) ∧ (((0 : Int) < ((c : Nat) : Int)) ∧ (∃ q : Addr, ((b = (some q)) ∧ (((0 : Int) ≤ (0 : Int)) ∧ (((0 : Int) < ((c : Nat) : Int)) ∧ ((∃ r : Option Addr, (∃ s : Nat, (∃ t : Nat, (((cellA w0 h (Addr.add (Addr.add o 0) 0)) = (some (slice r s t))) ∧ ((∃ A : Int, (((cellA w0 h (Addr.add (Addr.add p 0) 3)) = (some (int .i64 A))) ∧ (∃ B : Option Addr, (∃ C : Nat, (∃ D : Nat, (((cellA w0 h (Addr.add (Addr.add q 0) 4)) = (some (slice B C D))) ∧ (App w0 h 4 64 k a m 1 [(slice r s t), (bool false), (int .i64 A), (slice B C D)] (fun b2 b3 b4 => (f20_16 w0 K d e g b c i b2 (a + 1) b3 n b4))))))))) ∧ (∃ E : Option Addr, (∃ F : Nat, (∃ L : Nat, (((cellA w0 h (Addr.add (Addr.add q 0) 4)) = (some (slice E F L))) ∧ (∃ M : Int, (((cellA w0 h (Addr.add (Addr.add p 0) 3)) = (some (int .i64 M))) ∧ (App w0 h 4 64 k a m 1 [(slice r s t), (bool false), (int .i64 M), (slice E F L)] (fun b5 b6 b7 => (f20_16 w0 K d e g b c i b5 (a + 1) b6 n b7)))))))))))))) ∧ ((∃ u : Int, (((cellA w0 h (Addr.add (Addr.add p 0) 3)) = (some (int .i64 u))) ∧ ((∃ N : Option Addr, (∃ Q : Nat, (∃ R : Nat, (((cellA w0 h (Addr.add (Addr.add o 0) 0)) = (some (slice N Q R))) ∧ (∃ T : Option Addr, (∃ U : Nat, (∃ V : Nat, (((cellA w0 h (Addr.add (Addr.add q 0) 4)) = (some (slice T U V))) ∧ (App w0 h 4 64 k a m 1 [(slice N Q R), (bool false), (int .i64 u), (slice T U V)] (fun b8 b9 c0 => (f20_16 w0 K d e g b c i b8 (a + 1) b9 n c0))))))))))) ∧ (∃ Y : Option Addr, (∃ Z : Nat, (∃ a0 : Nat, (((cellA w0 h (Addr.add (Addr.add q 0) 4)) = (some (slice Y Z a0))) ∧ (∃ a1 : Option Addr, (∃ a2 : Nat, (∃ a3 : Nat, (((cellA w0 h (Addr.add (Addr.add o 0) 0)) = (some (slice a1 a2 a3))) ∧ (App w0 h 4 64 k a m 1 [(slice a1 a2 a3), (bool false), (int .i64 u), (slice Y Z a0)] (fun c1 c2 c3 => (f20_16 w0 K d e g b c i c1 (a + 1) c2 n c3)))))))))))))) ∧ (∃ v : Option Addr, (∃ x : Nat, (∃ y : Nat, (((cellA w0 h (Addr.add (Addr.add q 0) 4)) = (some (slice v x y))) ∧ ((∃ a4 : Option Addr, (∃ a5 : Nat, (∃ a6 : Nat, (((cellA w0 h (Addr.add (Addr.add o 0) 0)) = (some (slice a4 a5 a6))) ∧ (∃ a7 : Int, (((cellA w0 h (Addr.add (Addr.add p 0) 3)) = (some (int .i64 a7))) ∧ (App w0 h 4 64 k a m 1 [(slice a4 a5 a6), (bool false), (int .i64 a7), (slice v x y)] (fun c4 c5 c6 => (f20_16 w0 K d e g b c i c4 (a + 1) c5 n c6))))))))) ∧ (∃ a8 : Int, (((cellA w0 h (Addr.add (Addr.add p 0) 3)) = (some (int .i64 a8))) ∧ (∃ a9 : Option Addr, (∃ b0 : Nat, (∃ b1 : Nat, (((cellA w0 h (Addr.add (Addr.add o 0) 0)) = (some (slice a9 b0 b1))) ∧ (App w0 h 4 64 k a m 1 [(slice a9 b0 b1), (bool false), (int .i64 a8), (slice v x y)] (fun c7 c8 c9 => (f20_16 w0 K d e g b c i c7 (a + 1) c8 n c9)))))))))))))))))))))))))))) (f20_16 w0 K d e g b c i k a m n h))) :
  f20_15 w0 K d e g b c i k a m n z h := fun j => LP_intro (P := Proofs.Tryd.prog) (Eq.mp (by kernel_rfl) hv)

theorem f20_18_in {w0 : World} {K : Value → AH → Prop} (c : Option Addr) (d : Nat) (e : Nat) (g : Option Addr) (a : Nat) (b : Nat) (i : Option Addr) (k : Nat) (m : Nat) (n : Int) (h : AH)
  (hv : (brB (decide (((0 : Int) ≤ n))) (((0 : Int) ≤ (1 : Int)) ∧ (((1 : Int) ≤ ((a : Nat) : Int)) ∧ (f20_5 w0 K c d e (cutA 5 g b 1) (a - 1) (b - 1) i k m h))) (f20_5 w0 K c d e g a b i k m h))) :
  f20_18 w0 K c d e g a b i k m n h := fun j => LP_intro (P := Proofs.Tryd.prog) (Eq.mp (by kernel_rfl) hv)

theorem f20_go {w0 : World} {K : Value → AH → Prop} (a : Int) (b : Option Addr) (c : Nat) (d : Nat) (e : Option Addr) (g : Nat) (i : Nat) (k : Int) (m : Option Addr) (n : Nat) (o : Nat) (p : Option Addr) (q : Nat) (r : Nat) (h : AH)
  (hv : (EvC Proofs.Tryd.prog w0 34 #[(agg #[(int .i64 a), (slice b c d), (slice e g i)])] (fun v s => (∃ t : Bool, ((v = (bool t)) ∧ (brB (!t) (f20_2 w0 K true a b c d e g i k m n o p q r s) (EvC Proofs.Tryd.prog w0 34 #[(agg #[(int .i64 k), (slice m n o), (slice p q r)])] (fun x y => (∃ u : Bool, ((x = (bool u)) ∧ (f20_2 w0 K (!u) a b c d e g i k m n o p q r y)))) s))))) h)) :
  EvC Proofs.Tryd.prog w0 20 ([(.agg #[(.int .i64 a), (.slice b c d), (.slice e g i)]), (.agg #[(.int .i64 k), (.slice m n o), (.slice p q r)])]).toArray K h := EvC_intro (P := Proofs.Tryd.prog) f20_J (Eq.mp (by kernel_rfl) hv)
theorem done_20 {w0 : World} {K : Value → AH → Prop} {C : List (Nat × AB)} {E : List ODat} {h : AH} {ao a7 a8 : Option Addr} {co c7 c8 : Nat} {os : List OpM}
    (hk : E.length ≤ 400 → ∀ h' a' c' (os : List OpM), os.map OpM.dat = E → SlV 4 a' os.length c' (os.flatMap OpM.cells) → (∀ o ∈ os, OpRd w0 C o) → Own w0 h' (slB a' (os.flatMap OpM.cells) (c' * 4) ++ C) → K (.tuple #[.slice a' os.length c', .int .i64 0]) h')
    (hmany : 400 < E.length → ∀ h', Own w0 h' C → K (.tuple #[.slice none 0 0, .int .i64 13]) h') (v : SlV 4 ao os.length co (os.flatMap OpM.cells)) (ro : ∀ o ∈ os, OpRd w0 C o) (hd : os.map OpM.dat = E)
    (w : Own w0 h (slB ao (os.flatMap OpM.cells) (co * 4) ++ C)) : f20_5 w0 K a7 0 c7 a8 0 c8 ao os.length co h := by
  have el : os.length = E.length := by rw [← hd, List.length_map]
  refine f20_5_in _ _ _ _ _ _ _ _ _ _ (brB_of (fun z => by simp at z) fun _ => brB_of (fun z => by simp at z) fun _ => f20_20_in _ _ _ _ (brB_of (fun z => ?_) fun z => ?_))
  · exact hmany (by have := of_decide_eq_true z; omega) h (Own.drop w)
  · exact hk (by have := of_decide_eq_false z; omega) h ao co os hd v ro w
theorem f20_5s {w0 : World} {K : Value → AH → Prop} {C : List (Nat × AB)} {E : List ODat} (hE : E.length ≤ 20000)
    (hk : E.length ≤ 400 → ∀ h' a' c' (os : List OpM), os.map OpM.dat = E → SlV 4 a' os.length c' (os.flatMap OpM.cells) → (∀ o ∈ os, OpRd w0 C o) → Own w0 h' (slB a' (os.flatMap OpM.cells) (c' * 4) ++ C) → K (.tuple #[.slice a' os.length c', .int .i64 0]) h')
    (hmany : 400 < E.length → ∀ h', Own w0 h' C → K (.tuple #[.slice none 0 0, .int .i64 13]) h') :
    ∀ (n : Nat) (l m : List EntM) (a7 a8 : Option Addr) (c7 c8 : Nat), l.length + m.length ≤ n → EntsRd w0 C a7 c7 l → EntsRd w0 C a8 c8 m → ∀ (ao : Option Addr) (co : Nat) (os : List OpM) (h : AH), SlV 4 ao os.length co (os.flatMap OpM.cells) → (∀ o ∈ os, OpRd w0 C o) →
      os.map OpM.dat ++ chg (l.map EntM.dat) (m.map EntM.dat) = E → Own w0 h (slB ao (os.flatMap OpM.cells) (co * 4) ++ C) → f20_5 w0 K a7 l.length c7 a8 m.length c8 ao os.length co h := fun n => by
  induction n with
  | zero =>
    intro l m a7 a8 c7 c8 hn r1 r2 ao co os h v ro hd w
    obtain rfl : l = [] := List.eq_nil_of_length_eq_zero (by omega)
    obtain rfl : m = [] := List.eq_nil_of_length_eq_zero (by omega)
    exact done_20 hk hmany v ro (by simpa [chg] using hd) w
  | succ n ih =>
    intro l m a7 a8 c7 c8 hn r1 r2 ao co os h v ro hd w
    have hol : os.length ≤ 20000 := by
      have := congrArg List.length hd
      rw [List.length_append, List.length_map] at this; omega
    by_cases hb : l = [] ∧ m = []
    · obtain ⟨rfl, rfl⟩ := hb
      exact done_20 hk hmany v ro (by simpa [chg] using hd) w
    -- what one step leaves
    have s17 : ∀ (c : Int) (ao : Option Addr) (co : Nat) (os : List OpM) (h2 : AH),  (∀ x l', l = x :: l' → ∀ y m', m = y :: m' → c = 0 → os.map OpM.dat ++ chg (l'.map EntM.dat) (m'.map EntM.dat) = E) → (c = 0 → l ≠ [] ∧ m ≠ []) → (0 < c → m ≠ []) → (c < 0 → l ≠ []) → (∀ x l', l = x :: l' → c < 0 → os.map OpM.dat ++ chg (l'.map EntM.dat) (m.map EntM.dat) = E) → (∀ y m', m = y :: m' → 0 < c → os.map OpM.dat ++ chg (l.map EntM.dat) (m'.map EntM.dat) = E) →
        SlV 4 ao os.length co (os.flatMap OpM.cells) → (∀ o ∈ os, OpRd w0 C o) → Own w0 h2 (slB ao (os.flatMap OpM.cells) (co * 4) ++ C) → f20_16 w0 K a7 l.length c7 a8 m.length c8 ao os.length co c h2 := fun c ao co os h2 p0 n0 n1 n2 p2 p1 v ro w => by
      refine f20_16_in _ _ _ _ _ _ _ _ _ _ _ (brB_of (fun z => ?_) fun z => ?_)
      · have z' : c ≤ 0 := by simpa using z
        have e1 : l ≠ [] := by
          by_cases q : c = 0
          · exact (n0 q).1
          · exact n2 (by omega)
        obtain ⟨x, l', rfl⟩ := List.exists_cons_of_ne_nil e1
        simp only [List.length_cons] at hn
        refine ⟨by decide, by simp only [List.length_cons]; omega, f20_18_in _ _ _ _ _ _ _ _ _ _ _ (brB_of (fun z2 => ?_) fun z2 => ?_)⟩
        · have z0 : c = 0 := by have : 0 ≤ c := by simpa using z2
                                omega
          obtain ⟨y, m', rfl⟩ := List.exists_cons_of_ne_nil (n0 z0).2
          simp only [List.length_cons] at hn
          refine ⟨by decide, by simp only [List.length_cons]; omega, ?_⟩
          exact ih l' m' _ _ _ _ (by omega) r1.cut r2.cut ao co os h2 v ro (p0 x l' rfl y m' rfl z0) w
        · have z0 : c < 0 := by simpa using z2
          exact ih l' m _ _ _ _ (by omega) r1.cut r2 ao co os h2 v ro (p2 x l' rfl z0) w
      · have z' : 0 < c := by simpa using z
        obtain ⟨y, m', rfl⟩ := List.exists_cons_of_ne_nil (n1 z')
        simp only [List.length_cons] at hn
        refine f20_18_in _ _ _ _ _ _ _ _ _ _ _ (brB_of (fun z2 => ?_) fun z2 => ?_)
        · refine ⟨by decide, by simp only [List.length_cons]; omega, ?_⟩
          exact ih l m' _ _ _ _ (by omega) r1 r2.cut ao co os h2 v ro (p1 y m' rfl z') w
        · simp at z2; omega
    -- a thing is put
    have s16 : ∀ (c : Int) (b : Bool) (h2 : AH), 0 ≤ c → (c = 0 → l ≠ []) → ∀ y m', m = y :: m' → (b = true → (c = 0 → ∀ x l', l = x :: l' → chg (l.map EntM.dat) (m.map EntM.dat) = (y.key, false, y.til, y.val) :: chg (l'.map EntM.dat) (m'.map EntM.dat)) ∧ (0 < c → chg (l.map EntM.dat) (m.map EntM.dat) = (y.key, false, y.til, y.val) :: chg (l.map EntM.dat) (m'.map EntM.dat))) →
        (b = false → c = 0 ∧ ∀ x l', l = x :: l' → chg (l.map EntM.dat) (m.map EntM.dat) = chg (l'.map EntM.dat) (m'.map EntM.dat)) → Own w0 h2 (slB ao (os.flatMap OpM.cells) (co * 4) ++ C) → f20_15 w0 K a7 l.length c7 a8 m.length c8 ao os.length co c b h2 := fun c b h2 hc hl0 y m' hm ht hf w2 => by
      refine f20_15_in _ _ _ _ _ _ _ _ _ _ _ _ (brB_of (fun z => ?_) fun z => ?_)
      · obtain ⟨t0, t1⟩ := ht z
        have rr := r2
        rw [hm] at rr
        obtain ⟨ad, had, k0, k3, k4⟩ := rr.head w2
        have ry := rr.op (y := y) (List.mem_cons_self ..)
        have hml : 0 < m.length := by rw [hm]; simp
        have nxt : ∀ a8' c8' h8, SlV 4 a8' (os.length + 1) c8' (os.flatMap OpM.cells ++ [.slice y.ka y.key.length y.kc, .bool false, .int .i64 y.til, .slice y.va y.val.length y.vc]) → Own w0 h8 (slB a8' (os.flatMap OpM.cells ++ [.slice y.ka y.key.length y.kc, .bool false, .int .i64 y.til, .slice y.va y.val.length y.vc]) (c8' * 4) ++ C) → f20_16 w0 K a7 l.length c7 a8 m.length c8 a8' (os.length + 1) c8' c h8 := fun a8' c8' h8 v8 w8 => by
          generalize hg : (⟨y.ka, y.kc, y.key, false, y.til, y.va, y.vc, y.val⟩ : OpM) = g
          have hgc : [Value.slice y.ka y.key.length y.kc, .bool false, .int .i64 y.til, .slice y.va y.val.length y.vc] = g.cells := by subst hg; rfl
          have hgd : g.dat = (y.key, false, y.til, y.val) := by subst hg; rfl
          rw [hgc, show os.flatMap OpM.cells ++ g.cells = (os ++ [g]).flatMap OpM.cells by simp] at v8 w8
          rw [show os.length + 1 = (os ++ [g]).length by simp]
          refine s17 c a8' c8' (os ++ [g]) h8 (fun x l' el y' m'' em z0 => ?_) (fun z0 => ⟨hl0 z0, by rw [hm]; simp⟩) (fun _ => by rw [hm]; simp) (fun z0 => by omega) (fun x l1 e1 z0 => by omega) (fun y' m'' em z0 => ?_) (by rw [List.length_append]; exact v8) (fun o ho => ?_) w8
          · rw [hm] at em; injection em with e1 e2; subst e1 e2
            rw [List.map_append, List.append_assoc, List.map_cons, List.map_nil, hgd, ← hd, t0 z0 x l' el]; rfl
          · rw [hm] at em; injection em with e1 e2; subst e1 e2
            rw [List.map_append, List.append_assoc, List.map_cons, List.map_nil, hgd, ← hd, t1 z0]; rfl
          · rcases List.mem_append.1 ho with ho | ho
            · exact ro o ho
            · rw [List.mem_singleton] at ho; subst ho; subst hg; exact ry
        have fin : ∀ (Q : Option Addr → Nat → AH → Prop), (∀ a8' c8' h8, f20_16 w0 K a7 l.length c7 a8 m.length c8 a8' (os.length + 1) c8' c h8 → Q a8' c8' h8) → App w0 h2 4 64 ao os.length co 1 [.slice y.ka y.key.length y.kc, .bool false, .int .i64 y.til, .slice y.va y.val.length y.vc] Q := fun Q hQ =>
          App_slB v w2 (by omega) (by omega) rfl (op_cell ⟨y.ka, y.kc, y.key, false, y.til, y.va, y.vc, y.val⟩) fun a' c' h' v' w' => hQ a' c' h' (nxt a' c' h' v' w')
        refine ⟨ad, had, by decide, by omega, ad, had, by decide, by omega, ad, had, by decide, by omega, ?_⟩
        repeat' first
          | exact fin _ fun _ _ _ q => q
          | refine ⟨_, _, _, k0, ?_⟩
          | refine ⟨_, _, _, k4, ?_⟩
          | refine ⟨_, k3, ?_⟩
          | refine ⟨?_, ?_⟩
      · obtain ⟨z0, z1⟩ := hf z
        refine s17 c ao co os h2 (fun x l' el y' m'' em _ => ?_) (fun _ => ⟨hl0 z0, by rw [hm]; simp⟩) (fun _ => by rw [hm]; simp) (fun z0 => by omega) (fun x l1 e1 z0 => by omega) (fun y' m'' em q => by omega) v ro w2
        rw [hm] at em; injection em with e1 e2; subst e1 e2
        rw [← hd, z1 x l' el]
    have s12 : ∀ (c : Int) (h2 : AH), (c < 0 → ∃ x l', l = x :: l' ∧ chg (l.map EntM.dat) (m.map EntM.dat) = (x.key, true, 0, []) :: chg (l'.map EntM.dat) (m.map EntM.dat)) →
        (0 < c → ∃ y m', m = y :: m' ∧ chg (l.map EntM.dat) (m.map EntM.dat) = (y.key, false, y.til, y.val) :: chg (l.map EntM.dat) (m'.map EntM.dat)) →
        (c = 0 → ∃ x l' y m', l = x :: l' ∧ m = y :: m' ∧ chg (l.map EntM.dat) (m.map EntM.dat) = (if x.til = y.til ∧ x.val = y.val then [] else [(y.key, false, y.til, y.val)]) ++ chg (l'.map EntM.dat) (m'.map EntM.dat)) → Own w0 h2 (slB ao (os.flatMap OpM.cells) (co * 4) ++ C) → f20_12 w0 K a7 l.length c7 a8 m.length c8 ao os.length co c h2 := fun c h2 q1 q2 q3 w2 => by
      refine f20_12_in _ _ _ _ _ _ _ _ _ _ _ (brB_of (fun z => ?_) fun z => brB_of (fun z2 => ?_) fun z2 => ?_)
      · have z' : c < 0 := by simpa using z
        obtain ⟨x, l', rfl, hx⟩ := q1 z'
        obtain ⟨ad, had, k0, k3, k4⟩ := r1.head w2
        have ry := r1.op (y := x) (List.mem_cons_self ..)
        simp only [List.length_cons] at hn
        refine ⟨ad, had, by decide, by simp only [List.length_cons]; omega, _, _, _, k0, ?_⟩
        refine App_slB v w2 (by omega) (by omega) rfl (op_cell ⟨x.ka, x.kc, x.key, true, 0, none, 0, []⟩) fun a8' c8' h8 v8 w8 => ?_
        have e2 : os.flatMap OpM.cells ++ [Value.slice x.ka x.key.length x.kc, .bool true, .int .i64 0, .slice none 0 0] = (os ++ [(⟨x.ka, x.kc, x.key, true, 0, none, 0, []⟩ : OpM)]).flatMap OpM.cells := by simp
        rw [e2] at v8 w8
        have e3 : os.length + 1 = (os ++ [(⟨x.ka, x.kc, x.key, true, 0, none, 0, []⟩ : OpM)]).length := by simp
        rw [e3] at v8 ⊢
        have hd8 : (os ++ [(⟨x.ka, x.kc, x.key, true, 0, none, 0, []⟩ : OpM)]).map OpM.dat ++ chg (l'.map EntM.dat) (m.map EntM.dat) = E := by rw [List.map_append, List.append_assoc, ← hd, hx]; rfl
        have ro8 : ∀ o ∈ os ++ [(⟨x.ka, x.kc, x.key, true, 0, none, 0, []⟩ : OpM)], OpRd w0 C o := fun o ho => by
          rcases List.mem_append.1 ho with ho | ho
          · exact ro o ho
          · rw [List.mem_singleton] at ho; subst ho
            exact fun h' D w' => ⟨(ry h' D w').1, rd_nil⟩
        exact s17 c a8' c8' _ h8 (fun x1 l1 e1 y1 m1 e2 z0 => by omega) (fun z0 => by omega) (fun z0 => by omega) (fun _ => by simp) (fun x1 l1 e1 _ => by injection e1 with e1 e2; subst e1 e2; exact hd8) (fun y' m'' em z0 => by omega) v8 ro8 w8
      · have z' : 0 < c := by simpa using z2
        obtain ⟨y, m', hm, hx⟩ := q2 z'
        have t := s16 c true h2 (by omega) (fun z0 => by omega) y m' hm (fun _ => ⟨fun z0 => by omega, fun _ => hx⟩) (fun z0 => by cases z0) w2
        repeat' (with_reducible apply And.intro)
        all_goals exact t
      · have z' : c = 0 := by
          have a1 : ¬ c < 0 := by simpa using z
          have a2 : ¬ 0 < c := by simpa using z2
          omega
        obtain ⟨x, l', y, m', hl, hm, hx⟩ := q3 z'
        have rr1 := r1
        have rr2 := r2
        rw [hl] at rr1
        rw [hm] at rr2
        obtain ⟨ad, had, k0, k3, k4⟩ := rr1.head w2
        obtain ⟨bd, hbd, j0, j3, j4⟩ := rr2.head w2
        have vx := (rr1.op (y := x) (List.mem_cons_self ..) h2 _ w2).2
        have vy := (rr2.op (y := y) (List.mem_cons_self ..) h2 _ w2).2
        have hll : 0 < l.length := by rw [hl]; simp
        have hml : 0 < m.length := by rw [hm]; simp
        have tt : ¬ (x.til = y.til ∧ x.val = y.val) → f20_15 w0 K a7 l.length c7 a8 m.length c8 ao os.length co c true h2 := fun q => s16 c true h2 (by omega) (fun _ => by rw [hl]; simp) y m' hm (fun _ => ⟨fun _ x1 l1 e1 => by rw [hl] at e1; injection e1 with e1 e2; subst e1 e2; rw [hx, if_neg q]; rfl, fun z0 => by omega⟩) (fun z0 => by cases z0) w2
        have ff : x.til = y.til ∧ x.val = y.val → f20_15 w0 K a7 l.length c7 a8 m.length c8 ao os.length co c false h2 := fun q => s16 c false h2 (by omega) (fun _ => by rw [hl]; simp) y m' hm (fun z0 => by cases z0) (fun _ => ⟨z', fun x1 l1 e1 => by rw [hl] at e1; injection e1 with e1 e2; subst e1 e2; rw [hx, if_pos q]; rfl⟩) w2
        have dec : (decide ((⟨x.val.toArray⟩ : ByteArray) = ⟨y.val.toArray⟩)) = decide (x.val = y.val) := by
          rw [Bool.eq_iff_iff, decide_eq_true_eq, decide_eq_true_eq]
          exact ⟨fun e => by simpa using congrArg (fun b : ByteArray => b.data.toList) e, fun e => by rw [e]⟩
        have dec2 : (decide ((⟨y.val.toArray⟩ : ByteArray) = ⟨x.val.toArray⟩)) = decide (x.val = y.val) := by
          rw [← dec, Bool.eq_iff_iff, decide_eq_true_eq, decide_eq_true_eq]
          exact ⟨fun e => e.symm, fun e => e.symm⟩
        have last : x.til = y.til → f20_15 w0 K a7 l.length c7 a8 m.length c8 ao os.length co c (! (decide (x.val = y.val))) h2 := fun q => by
          by_cases e : x.val = y.val
          · rw [decide_eq_true e]; exact ff ⟨q, e⟩
          · rw [decide_eq_false e]; exact tt fun q => e q.2
        refine ⟨ad, had, by decide, by omega, bd, hbd, by decide, by omega, ?_⟩
        have til : ∀ (A : Prop), (¬ x.til = y.til → f20_15 w0 K a7 l.length c7 a8 m.length c8 ao os.length co c true h2) := fun _ q => tt fun e => q e.1
        have val1 : x.til = y.til → EvC Go.Proofs.Tryd.prog w0 39 #[.slice x.va x.val.length x.vc, .slice y.va y.val.length y.vc] (fun x' h' => ∃ t : Bool, x' = .bool t ∧ f20_15 w0 K a7 l.length c7 a8 m.length c8 ao os.length co c (!t) h') h2 := fun q =>
          f39_go _ _ _ _ _ _ _ (rows8 vx rfl (rows8 vy rfl ⟨_, rfl, by rw [dec]; exact last q⟩))
        clear til
        have row1 : x.til = y.til → ∀ (Q : Bool → Prop), (Q (! (decide (x.val = y.val)))) → Q (! (decide (x.val = y.val))) := fun _ _ q => q
        clear row1
        repeat' first
          | (refine ⟨_, k3, _, j3, brB_of (fun q => ?_) fun q => ?_⟩)
          | (refine ⟨_, j3, _, k3, brB_of (fun q => ?_) fun q => ?_⟩)
          | (with_reducible apply And.intro)
        all_goals first
          | (have q' : ¬ x.til = y.til := fun e => by rw [e] at q; simp at q
             have t := tt fun e => q' e.1
             repeat' (with_reducible apply And.intro)
             all_goals exact t)
          | (have q' : x.til = y.til := by first | (simpa using q) | (exact Eq.symm (by simpa using q))
             have la := last q'
             refine ⟨ad, had, by decide, by omega, bd, hbd, by decide, by omega, ?_⟩
             repeat' first
               | exact val1 q'
               | exact la
               | (refine rows8 vx rfl ?_)
               | (refine rows8 vy rfl ?_)
               | (rw [dec]; exact la)
               | (rw [dec2]; exact la)
               | refine ⟨_, _, _, k4, ?_⟩
               | refine ⟨_, _, _, j4, ?_⟩
               | refine ⟨?_, ?_⟩)
    have go6 : f20_6 w0 K a7 l.length c7 a8 m.length c8 ao os.length co h := by
      refine f20_6_in _ _ _ _ _ _ _ _ _ _ (brB_of (fun z => ?_) fun z => brB_of (fun z2 => ?_) fun z2 => ?_)
      · have hl : l = [] := by simpa using z
        subst hl
        have hm : m ≠ [] := fun e => hb ⟨rfl, e⟩
        obtain ⟨y, m', rfl⟩ := List.exists_cons_of_ne_nil hm
        exact s12 1 h (fun z0 => by omega) (fun _ => ⟨y, m', rfl, chg_nil ..⟩) (fun z0 => by omega) w
      · have hm : m = [] := by simpa using z2
        subst hm
        have hl : l ≠ [] := by simpa using z
        obtain ⟨x, l', rfl⟩ := List.exists_cons_of_ne_nil hl
        exact s12 (-1) h (fun _ => ⟨x, l', rfl, chg_nil' ..⟩) (fun z0 => by omega) (fun z0 => by omega) w
      · have hl : l ≠ [] := by simpa using z
        have hm : m ≠ [] := by simpa using z2
        obtain ⟨x, l', rfl⟩ := List.exists_cons_of_ne_nil hl
        obtain ⟨y, m', rfl⟩ := List.exists_cons_of_ne_nil hm
        obtain ⟨ad, had, k0, k3, k4⟩ := r1.head w
        obtain ⟨bd, hbd, j0, j3, j4⟩ := r2.head w
        have kx := (r1.op (y := x) (List.mem_cons_self ..) h _ w).1
        have ky := (r2.op (y := y) (List.mem_cons_self ..) h _ w).1
        have cmp : EvC Go.Proofs.Tryd.prog w0 14 #[.slice x.ka x.key.length x.kc, .slice y.ka y.key.length y.kc] (fun x' h' => ∃ i : Int, x' = .int .i64 i ∧ f20_12 w0 K a7 (x :: l').length c7 a8 (y :: m').length c8 ao os.length co i h') h := by
          refine f14_spec kx ky rfl rfl ⟨_, rfl, s12 _ h (fun z0 => ⟨x, l', rfl, chg_lt z0⟩) (fun z0 => ⟨y, m', rfl, chg_gt z0⟩) (fun z0 => ⟨x, l', y, m', rfl, rfl, chg_eq z0⟩) w⟩
        refine ⟨ad, had, by decide, by simp, bd, hbd, by decide, by simp, ?_⟩
        repeat' first
          | exact cmp
          | refine ⟨_, _, _, k0, ?_⟩
          | refine ⟨_, _, _, j0, ?_⟩
          | refine ⟨?_, ?_⟩
    refine f20_5_in _ _ _ _ _ _ _ _ _ _ (brB_of (fun _ => go6) fun z => brB_of (fun _ => go6) fun z2 => ?_)
    have hl : l = [] := by simpa using z
    have hm : m = [] := by simpa using z2
    exact absurd ⟨hl, hm⟩ hb
def f21_J : Nat → List Nat × Nat := jOf [(4, [0, 2, 3, 4, 5, 6, 7, 8, 9, 10, 11, 12, 16, 17, 18, 19, 20, 21, 22, 23, 24, 25, 26, 27, 28, 29, 30, 31, 32, 33, 34, 35, 36, 37, 38, 39, 40, 41, 42, 43, 44, 45, 46, 47, 48, 49, 50, 51, 52, 53, 54], 0), (8, [0, 2, 3, 4, 5, 6, 7, 8, 9, 10, 11, 12, 16, 17, 18, 19, 20, 21, 22, 23, 24, 25, 26, 27, 28, 29, 30, 31, 32, 33, 34, 35, 36, 37, 38, 39, 40, 41, 42, 43, 44, 45, 46, 47, 48, 49, 50, 51, 52, 54], 0)]

def f21_4 (w0 : World) (K : Value → AH → Prop) (a : Option Addr) (b : Nat) (c : Nat) (d : Option Addr) (e : Nat) (g : Nat) (i : Int) (k : Int) (h : AH) : Prop :=
  ∀ j : Nat → Value, LPk Proofs.Tryd.prog w0 (EvC Proofs.Tryd.prog w0) f21_J 21 K 4 [.v (j 0), .v (.slice a b c), .v (j 2), .v (j 3), .v (j 4), .v (j 5), .v (j 6), .v (j 7), .v (j 8), .v (j 9), .v (j 10), .v (j 11), .v (j 12), .v (.slice d e g), .v (.int .i64 i), .v (.int .i64 k), .v (j 16), .v (j 17), .v (j 18), .v (j 19), .v (j 20), .v (j 21), .v (j 22), .v (j 23), .v (j 24), .v (j 25), .v (j 26), .v (j 27), .v (j 28), .v (j 29), .v (j 30), .v (j 31), .v (j 32), .v (j 33), .v (j 34), .v (j 35), .v (j 36), .v (j 37), .v (j 38), .v (j 39), .v (j 40), .v (j 41), .v (j 42), .v (j 43), .v (j 44), .v (j 45), .v (j 46), .v (j 47), .v (j 48), .v (j 49), .v (j 50), .v (j 51), .v (j 52), .v (j 53), .v (j 54)] [] h

def f21_8 (w0 : World) (K : Value → AH → Prop) (a : Option Addr) (b : Nat) (c : Nat) (d : Option Addr) (e : Nat) (g : Nat) (i : Int) (k : Int) (m : Bool) (h : AH) : Prop :=
  ∀ j : Nat → Value, LPk Proofs.Tryd.prog w0 (EvC Proofs.Tryd.prog w0) f21_J 21 K 8 [.v (j 0), .v (.slice a b c), .v (j 2), .v (j 3), .v (j 4), .v (j 5), .v (j 6), .v (j 7), .v (j 8), .v (j 9), .v (j 10), .v (j 11), .v (j 12), .v (.slice d e g), .v (.int .i64 i), .v (.int .i64 k), .v (j 16), .v (j 17), .v (j 18), .v (j 19), .v (j 20), .v (j 21), .v (j 22), .v (j 23), .v (j 24), .v (j 25), .v (j 26), .v (j 27), .v (j 28), .v (j 29), .v (j 30), .v (j 31), .v (j 32), .v (j 33), .v (j 34), .v (j 35), .v (j 36), .v (j 37), .v (j 38), .v (j 39), .v (j 40), .v (j 41), .v (j 42), .v (j 43), .v (j 44), .v (j 45), .v (j 46), .v (j 47), .v (j 48), .v (j 49), .v (j 50), .v (j 51), .v (j 52), .v (.bool m), .v (j 54)] [] h

theorem f21_4_in {w0 : World} {K : Value → AH → Prop} (b : Option Addr) (c : Nat) (i : Nat) (d : Option Addr) (e : Nat) (k : Nat) (g : Int) (a : Int) (h : AH)
  (hv : (brB (decide ((a < g))) (∃ z : Addr, ((d = (some z)) ∧ (((0 : Int) ≤ a) ∧ ((a < ((e : Nat) : Int)) ∧ (∃ m : Option Addr, (∃ n : Nat, (∃ A : Nat, (∃ o : Bool, (∃ p : Int, (∃ q : Option Addr, (∃ r : Nat, (∃ B : Nat, ((((Array.size #[(slice m n A), (bool o), (int .i64 p), (slice q r B)]) = 4) ∧ (At w0 h (Addr.add z ((Int.toNat a) * 4)) [(slice m n A), (bool o), (int .i64 p), (slice q r B)])) ∧ (∃ C : Addr, ((b = (some C)) ∧ (((0 : Int) ≤ a) ∧ ((a < ((c : Nat) : Int)) ∧ (∃ s : Option Addr, (∃ t : Nat, (∃ D : Nat, (∃ u : Bool, (∃ v : Int, (∃ x : Option Addr, (∃ y : Nat, (∃ E : Nat, ((((Array.size #[(slice s t D), (bool u), (int .i64 v), (slice x y E)]) = 4) ∧ (At w0 h (Addr.add C ((Int.toNat a) * 4)) [(slice s t D), (bool u), (int .i64 v), (slice x y E)])) ∧ (rowsOf w0 h 1 m n (fun Q => (∃ F : ByteArray, ((Q = (intsOf F)) ∧ (rowsOf w0 h 1 s t (fun R => (∃ L : ByteArray, ((R = (intsOf L)) ∧ (brB (!(decide ((F = L)))) (f21_8 w0 K b c i d e k g a true h) (brB (o != u) (f21_8 w0 K b c i d e k g a true h) (brB (p != v) (f21_8 w0 K b c i d e k g a true h) (rowsOf w0 h 1 q r (fun T => (∃ M : ByteArray, ((T = (intsOf M)) ∧ (rowsOf w0 h 1 x y (fun U => (∃ N : ByteArray, ((U = (intsOf N)) ∧ (f21_8 w0 K b c i d e k g a (!(decide ((M = N)))) h)))))))))))))))))))))))))))))))))))))))))))))) (K (bool true) h))) :
  f21_4 w0 K b c i d e k g a h := fun j => LP_intro (P := Proofs.Tryd.prog) (Eq.mp (by kernel_rfl) hv)

theorem f21_8_in {w0 : World} {K : Value → AH → Prop} (a : Option Addr) (b : Nat) (c : Nat) (d : Option Addr) (e : Nat) (g : Nat) (i : Int) (k : Int) (m : Bool) (h : AH)
  (hv : (brB m (K (bool false) h) (f21_4 w0 K a b c d e g i (IntKind.wrap .i64 (k + (1 : Int))) h))) :
  f21_8 w0 K a b c d e g i k m h := fun j => LP_intro (P := Proofs.Tryd.prog) (Eq.mp (by kernel_rfl) hv)

theorem f21_go {w0 : World} {K : Value → AH → Prop} (c : Option Addr) (a : Nat) (d : Nat) (e : Option Addr) (b : Nat) (g : Nat) (h : AH)
  (hv : (brB (((a : Nat) : Int) != ((b : Nat) : Int)) (K (bool false) h) (f21_4 w0 K e b g c a d ((a : Nat) : Int) (0 : Int) h))) :
  EvC Proofs.Tryd.prog w0 21 ([(.slice c a d), (.slice e b g)]).toArray K h := EvC_intro (P := Proofs.Tryd.prog) f21_J (Eq.mp (by kernel_rfl) hv)
def f6_J : Nat → List Nat × Nat := jOf [(2, [0, 1, 4, 5, 6, 7, 8, 9, 10, 11, 12, 13, 14, 15, 17, 18, 19, 20, 21, 22, 23, 24, 25, 26, 27, 28, 29, 30, 31, 32, 33, 34, 35, 36, 37, 38, 39, 40], 2), (3, [0, 1, 4, 5, 6, 7, 8, 9, 10, 11, 12, 13, 14, 15, 16, 17, 18, 19, 20, 21, 22, 23, 24, 25, 26, 27, 28, 29, 30, 31, 32, 33, 34, 35, 36, 37, 38, 39, 40], 2)]

def f6_2 (w0 : World) (K : Value → AH → Prop) (a : Bool) (b : Int) (c : Option Addr) (d : Nat) (e : Nat) (g : Option Addr) (i : Nat) (k : Nat) (m : Int) (n : Option Addr) (o : Nat) (p : Nat) (q : Option Addr) (r : Nat) (s : Nat) (h : AH) : Prop :=
  ∀ j : Nat → Value, LPk Proofs.Tryd.prog w0 (EvC Proofs.Tryd.prog w0) f6_J 6 K 2 [.v (j 0), .v (j 1), .bp 0 0, .bp 1 0, .v (j 4), .v (j 5), .v (j 6), .v (j 7), .v (j 8), .v (j 9), .v (j 10), .v (j 11), .v (j 12), .v (j 13), .v (j 14), .v (j 15), .v (.bool a), .v (j 17), .v (j 18), .v (j 19), .v (j 20), .v (j 21), .v (j 22), .v (j 23), .v (j 24), .v (j 25), .v (j 26), .v (j 27), .v (j 28), .v (j 29), .v (j 30), .v (j 31), .v (j 32), .v (j 33), .v (j 34), .v (j 35), .v (j 36), .v (j 37), .v (j 38), .v (j 39), .v (j 40)] [some [(.int .i64 b), (.slice c d e), (.slice g i k)], some [(.int .i64 m), (.slice n o p), (.slice q r s)]] h

def f6_3 (w0 : World) (K : Value → AH → Prop) (a : Int) (b : Option Addr) (c : Nat) (d : Nat) (e : Option Addr) (g : Nat) (i : Nat) (k : Int) (m : Option Addr) (n : Nat) (o : Nat) (p : Option Addr) (q : Nat) (r : Nat) (h : AH) : Prop :=
  ∀ j : Nat → Value, LPk Proofs.Tryd.prog w0 (EvC Proofs.Tryd.prog w0) f6_J 6 K 3 [.v (j 0), .v (j 1), .bp 0 0, .bp 1 0, .v (j 4), .v (j 5), .v (j 6), .v (j 7), .v (j 8), .v (j 9), .v (j 10), .v (j 11), .v (j 12), .v (j 13), .v (j 14), .v (j 15), .v (j 16), .v (j 17), .v (j 18), .v (j 19), .v (j 20), .v (j 21), .v (j 22), .v (j 23), .v (j 24), .v (j 25), .v (j 26), .v (j 27), .v (j 28), .v (j 29), .v (j 30), .v (j 31), .v (j 32), .v (j 33), .v (j 34), .v (j 35), .v (j 36), .v (j 37), .v (j 38), .v (j 39), .v (j 40)] [some [(.int .i64 a), (.slice b c d), (.slice e g i)], some [(.int .i64 k), (.slice m n o), (.slice p q r)]] h

theorem f6_2_in {w0 : World} {K : Value → AH → Prop} (a : Bool) (b : Int) (c : Option Addr) (d : Nat) (e : Nat) (g : Option Addr) (i : Nat) (k : Nat) (m : Int) (n : Option Addr) (o : Nat) (p : Nat) (q : Option Addr) (r : Nat) (s : Nat) (h : AH)
  (hv : (brB a (EvC Proofs.Tryd.prog w0 12 #[] (fun u v => (∃ t : Bool, ((u = (bool t)) ∧ (K (bool t) v)))) h) (f6_3 w0 K b c d e g i k m n o p q r s h))) :
  f6_2 w0 K a b c d e g i k m n o p q r s h := fun j => LP_intro (P := Proofs.Tryd.prog) (Eq.mp (by kernel_rfl) hv)

theorem f6_3_in {w0 : World} {K : Value → AH → Prop} (a : Int) (b : Option Addr) (c : Nat) (d : Nat) (e : Option Addr) (g : Nat) (i : Nat) (k : Int) (m : Option Addr) (n : Nat) (o : Nat) (p : Option Addr) (q : Nat) (r : Nat) (h : AH)
  (hv : (EvC Proofs.Tryd.prog w0 19 #[(agg #[(int .i64 a), (slice b c d), (slice e g i)]), (agg #[(int .i64 k), (slice m n o), (slice p q r)])] (fun E F => (∃ t : Option Addr, (∃ u : Nat, (∃ v : Nat, (∃ x : Int, ((E = (Value.tuple #[(slice t u v), (int .i64 x)])) ∧ (EvC Proofs.Tryd.prog w0 20 #[(agg #[(int .i64 a), (slice b c d), (slice e g i)]), (agg #[(int .i64 k), (slice m n o), (slice p q r)])] (fun G L => (∃ y : Option Addr, (∃ z : Nat, (∃ A : Nat, (∃ B : Int, ((G = (Value.tuple #[(slice y z A), (int .i64 B)])) ∧ (EvC Proofs.Tryd.prog w0 21 #[(slice t u v), (slice y z A)] (fun M s => (∃ C : Bool, ((M = (bool C)) ∧ (brB C (brB (x == B) (EvC Proofs.Tryd.prog w0 12 #[] (fun N Q => (∃ D : Bool, ((N = (bool D)) ∧ (K (bool D) Q)))) s) (K (bool false) s)) (K (bool false) s))))) L))))))) F))))))) h)) :
  f6_3 w0 K a b c d e g i k m n o p q r h := fun j => LP_intro (P := Proofs.Tryd.prog) (Eq.mp (by kernel_rfl) hv)

theorem f6_go {w0 : World} {K : Value → AH → Prop} (a : Int) (b : Option Addr) (c : Nat) (d : Nat) (e : Option Addr) (g : Nat) (i : Nat) (k : Int) (m : Option Addr) (n : Nat) (o : Nat) (p : Option Addr) (q : Nat) (r : Nat) (h : AH)
  (hv : (EvC Proofs.Tryd.prog w0 10 #[(agg #[(int .i64 a), (slice b c d), (slice e g i)])] (fun v s => (∃ t : Bool, ((v = (bool t)) ∧ (brB (!t) (f6_2 w0 K true a b c d e g i k m n o p q r s) (EvC Proofs.Tryd.prog w0 10 #[(agg #[(int .i64 k), (slice m n o), (slice p q r)])] (fun x y => (∃ u : Bool, ((x = (bool u)) ∧ (f6_2 w0 K (!u) a b c d e g i k m n o p q r y)))) s))))) h)) :
  EvC Proofs.Tryd.prog w0 6 ([(.agg #[(.int .i64 a), (.slice b c d), (.slice e g i)]), (.agg #[(.int .i64 k), (.slice m n o), (.slice p q r)])]).toArray K h := EvC_intro (P := Proofs.Tryd.prog) f6_J (Eq.mp (by kernel_rfl) hv)
/-! ### the document's Changes: what it gives; SchemaChanges -/
section
variable {w0 : World} {K : Value → AH → Prop} {h : AH} {B : List (Nat × AB)}
theorem f20_spec {a b : StM} (w : Own w0 h B) (ha : ∀ h' D, Own w0 h' (D ++ B) → StRd w0 h' a) (hb : ∀ h' D, Own w0 h' (D ++ B) → StRd w0 h' b)
    (hbad : (¬ MaySt a ∨ ¬ MaySt b) → ∀ h', Own w0 h' B → K (.tuple #[.slice none 0 0, .int .i64 1]) h')
    (hmany : MaySt a → MaySt b → 400 < (chg (entsD a) (entsD b)).length → ∀ h' C, Own w0 h' (C ++ B) → K (.tuple #[.slice none 0 0, .int .i64 13]) h')
    (hok : MaySt a → MaySt b → (chg (entsD a) (entsD b)).length ≤ 400 → ∀ h' a' c' (os : List OpM) C, os.map OpM.dat = chg (entsD a) (entsD b) → (∀ h'' D, Own w0 h'' (D ++ (C ++ B)) → OpsRd w0 h'' a' os) → Own w0 h' (C ++ B) → K (.tuple #[.slice a' os.length c', .int .i64 0]) h') :
    EvC Go.Proofs.Tryd.prog w0 20 #[a.agg2, b.agg2] K h := by
  have s3 : MaySt a → MaySt b → ∀ h1, Own w0 h1 B → f20_3 w0 K a.clock a.ra a.ret.length a.rc a.sa a.ses.length a.sc b.clock b.ra b.ret.length b.rc b.sa b.ses.length b.sc h1 := fun ma mb h1 w1 => by
    refine f20_3_in _ _ _ _ _ _ _ _ _ _ _ _ _ _ _ (f40_spec (s := a) w1 ha (fun hn => absurd ma hn) fun _ h2 a1 c1 es1 o1 w2 => ⟨a1, es1.length, c1, rfl, ?_⟩)
    refine f40_spec (s := b) w2 (fun h' D w' => hb h' (D ++ outB a1 c1 es1) (by rw [List.append_assoc]; exact w')) (fun hn => absurd mb hn) fun _ h3 a2 c2 es2 o2 w3 => ⟨a2, es2.length, c2, rfl, ?_⟩
    have l1 := entsD_len ma
    have l2 := entsD_len mb
    have l3 := chg_len (entsD a) (entsD b)
    refine f20_5s (C := outB a2 c2 es2 ++ (outB a1 c1 es1 ++ B)) (E := chg (entsD a) (entsD b)) (by omega) (fun hle h' a' c' os hd v ro w' => ?_) (fun hlt h' w' => ?_) (es1.length + es2.length) es1 es2 a1 a2 c1 c2 (Nat.le_refl _)
      (ents_rd o1 fun p hp => List.mem_append_right _ (List.mem_append_left _ hp)) (ents_rd o2 fun p hp => List.mem_append_left _ hp) none 0 [] h3 SlV.nil (fun _ z => by cases z) (by rw [o1.dat, o2.dat]; rfl) w3
    · have e : slB a' (os.flatMap OpM.cells) (c' * 4) ++ (outB a2 c2 es2 ++ (outB a1 c1 es1 ++ B)) = (slB a' (os.flatMap OpM.cells) (c' * 4) ++ (outB a2 c2 es2 ++ outB a1 c1 es1)) ++ B := by simp only [List.append_assoc]
      refine hok ma mb hle h' a' c' os (slB a' (os.flatMap OpM.cells) (c' * 4) ++ (outB a2 c2 es2 ++ outB a1 c1 es1)) hd (fun h'' D w'' => ?_) (by rw [← e]; exact w')
      rw [← e] at w''
      exact ⟨v.rd w'', fun o ho => ro o ho h'' (D ++ slB a' (os.flatMap OpM.cells) (c' * 4)) (by rw [List.append_assoc]; exact w'')⟩
    · exact hmany ma mb hlt h' (outB a2 c2 es2 ++ outB a1 c1 es1) (by simpa only [List.append_eq, List.append_assoc] using w')
  have s2 : ∀ h1 v, Own w0 h1 B → (v = true → ¬ MaySt a ∨ ¬ MaySt b) → (v = false → MaySt a ∧ MaySt b) → f20_2 w0 K v a.clock a.ra a.ret.length a.rc a.sa a.ses.length a.sc b.clock b.ra b.ret.length b.rc b.sa b.ses.length b.sc h1 := fun h1 v w1 h1' h2' =>
    f20_2_in _ _ _ _ _ _ _ _ _ _ _ _ _ _ _ _ (brB_of (fun z => hbad (h1' z) h1 w1) fun z => s3 (h2' z).1 (h2' z).2 h1 w1)
  refine f20_go _ _ _ _ _ _ _ _ _ _ _ _ _ _ _ (f34_spec (s := a) w (fun h' w' => ha h' [] w') fun t h1 ht w1 => ⟨t, rfl, brB_of (fun z => s2 h1 _ w1 (fun _ => .inl fun p => by have := ht.2 p; rw [this] at z; cases z) fun z => by cases z) fun z => ?_⟩)
  refine f34_spec (s := b) w1 (fun h' w' => hb h' [] w') fun t2 h2 ht2 w2 => ⟨t2, rfl, s2 h2 _ w2 (fun z2 => .inr fun p => by have := ht2.2 p; rw [this] at z2; cases z2) fun z2 => ⟨ht.1 (by simpa using z), ht2.1 (by simpa using z2)⟩⟩
/-- SameOps. -/
theorem f21_spec {a b : Option Addr} {c d : Nat} {l m : List OpM} (ra : OpsRd w0 h a l) (rb : OpsRd w0 h b m) (hl : l.length ≤ 1000000) (e : l.map OpM.dat = m.map OpM.dat) (hk : K (.bool true) h) : EvC Go.Proofs.Tryd.prog w0 21 #[.slice a l.length c, .slice b m.length d] K h := by
  have len : l.length = m.length := by
    have := congrArg List.length e
    simpa using this
  have loop : ∀ (n i : Nat), i + n = l.length → f21_4 w0 K b m.length d a l.length c ((l.length : Nat) : Int) ((i : Nat) : Int) h := fun n => by
    induction n with
    | zero => exact fun i hi => f21_4_in _ _ _ _ _ _ _ _ _ (brB_of (fun z => by have := of_decide_eq_true z; omega) fun _ => hk)
    | succ n ih =>
      intro i hi
      have g1 : l[i]? = some l[i] := List.getElem?_eq_getElem _
      have g2 : m[i]? = some (m[i]'(by omega)) := List.getElem?_eq_getElem _
      generalize l[i] = x at g1
      generalize m[i]'(by omega) = y at g2
      obtain ⟨ad, had, hat⟩ := rowLoad (enc := OpM.cells) (k := 4) (fun _ => rfl) (by decide) ra.rd g1
      obtain ⟨bd, hbd, hbt⟩ := rowLoad (enc := OpM.cells) (k := 4) (fun _ => rfl) (by decide) rb.rd g2
      have hd : x.dat = y.dat := by
        have := congrArg (fun q : List ODat => q[i]?) e
        simpa [g1, g2] using this
      simp only [OpM.dat, Prod.mk.injEq] at hd
      obtain ⟨d1, d2, d3, d4⟩ := hd
      have rx := ra.each x (List.mem_of_getElem? g1)
      have ry := rb.each y (List.mem_of_getElem? g2)
      have nxt : f21_8 w0 K b m.length d a l.length c ((l.length : Nat) : Int) ((i : Nat) : Int) false h := f21_8_in _ _ _ _ _ _ _ _ _ _ (brB_of (fun z => by cases z) fun _ => by rw [wrapS (by omega)]; exact ih (i + 1) (by omega))
      have val : rowsOf w0 h 1 x.va x.val.length fun ys => ∃ s : ByteArray, ys = intsOf s ∧ rowsOf w0 h 1 y.va y.val.length fun ys2 => ∃ s2 : ByteArray, ys2 = intsOf s2 ∧ f21_8 w0 K b m.length d a l.length c ((l.length : Nat) : Int) ((i : Nat) : Int) (!(decide (s = s2))) h :=
        rows8 rx.2 rfl (rows8 ry.2 rfl (by rw [d4]; simpa using nxt))
      have val2 : rowsOf w0 h 1 y.va y.val.length fun ys => ∃ s : ByteArray, ys = intsOf s ∧ rowsOf w0 h 1 x.va x.val.length fun ys2 => ∃ s2 : ByteArray, ys2 = intsOf s2 ∧ f21_8 w0 K b m.length d a l.length c ((l.length : Nat) : Int) ((i : Nat) : Int) (!(decide (s2 = s))) h :=
        rows8 ry.2 rfl (rows8 rx.2 rfl (by rw [d4]; simpa using nxt))
      have rest : brB (x.gone != y.gone) (f21_8 w0 K b m.length d a l.length c ((l.length : Nat) : Int) ((i : Nat) : Int) true h) (brB (x.til != y.til) (f21_8 w0 K b m.length d a l.length c ((l.length : Nat) : Int) ((i : Nat) : Int) true h) (rowsOf w0 h 1 x.va x.val.length fun ys => ∃ s : ByteArray, ys = intsOf s ∧ rowsOf w0 h 1 y.va y.val.length fun ys2 => ∃ s2 : ByteArray, ys2 = intsOf s2 ∧ f21_8 w0 K b m.length d a l.length c ((l.length : Nat) : Int) ((i : Nat) : Int) (!(decide (s = s2))) h)) :=
        brB_of (fun z => by rw [d2] at z; simp at z) fun _ => brB_of (fun z => by rw [d3] at z; simp at z) fun _ => val
      refine f21_4_in _ _ _ _ _ _ _ _ _ (brB_of (fun _ => ⟨ad, had, by omega, by omega, ?_⟩) fun z => by have := of_decide_eq_false z; omega)
      repeat' first
        | exact nxt
        | exact rest
        | exact val
        | exact val2
        | refine ⟨_, _, _, _, _, _, _, _, ⟨rfl, hat⟩, ?_⟩
        | refine ⟨_, _, _, _, _, _, _, _, ⟨rfl, hbt⟩, ?_⟩
        | refine ⟨bd, hbd, by omega, by omega, ?_⟩
        | (refine rows8 rx.1 rfl ?_)
        | (refine rows8 ry.1 rfl ?_)
        | (refine brB_of (fun z => by rw [d1] at z; simp at z) fun _ => ?_)
        | (refine brB_of (fun z => by rw [d2] at z; simp at z) fun _ => ?_)
        | (refine brB_of (fun z => by rw [d3] at z; simp at z) fun _ => ?_)
        | (with_reducible apply And.intro)
  exact f21_go _ _ _ _ _ _ _ (brB_of (fun z => by rw [len] at z; simp at z) fun _ => loop l.length 0 (by omega))
/-- SchemaChanges. -/
theorem f6_spec {s t : StM} (T : TabOk w0) (k : s.Ok w0) (k2 : t.Ok w0) (hk : ∀ h, K (.bool true) h) : EvC Go.Proofs.Tryd.prog w0 6 #[s.agg2, t.agg2] K (fun _ => none) := by
  have w0' : Own w0 (fun _ => none) [] := Own.nil
  have aw : ∀ h1, Own w0 h1 [] → f6_2 w0 K true s.clock s.ra s.ret.length s.rc s.sa s.ses.length s.sc t.clock t.ra t.ret.length t.rc t.sa t.ses.length t.sc h1 := fun h1 w1 => f6_2_in _ _ _ _ _ _ _ _ _ _ _ _ _ _ _ _ (brB_of (fun _ => awake_sc T w1 hk) fun z => by cases z)
  refine f6_go _ _ _ _ _ _ _ _ _ _ _ _ _ _ _ (f10_spec k ⟨_, rfl, brB_of (fun _ => aw _ w0') fun z => by cases z⟩ fun lt => ⟨_, rfl, brB_of (fun z => by cases z) fun _ => ?_⟩)
  refine f10_spec k2 ⟨_, rfl, aw _ w0'⟩ fun lt2 => ⟨_, rfl, f6_2_in _ _ _ _ _ _ _ _ _ _ _ _ _ _ _ _ (brB_of (fun z => by cases z) fun _ => f6_3_in _ _ _ _ _ _ _ _ _ _ _ _ _ _ _ ?_)⟩
  have nilr : ∀ h', OpsRd w0 h' none [] := fun h' => ⟨rd_nil, fun _ z => by cases z⟩
  have fin : ∀ (h' : AH) (C : List (Nat × AB)) (a b : Option Addr) (c d : Nat) (l m : List OpM) (x : Int), Own w0 h' C → OpsRd w0 h' a l → OpsRd w0 h' b m → l.length ≤ 1000000 → l.map OpM.dat = m.map OpM.dat →
      EvC Go.Proofs.Tryd.prog w0 21 #[.slice a l.length c, .slice b m.length d] (fun x'21 h'22 => ∃ t'23 : Bool, x'21 = .bool t'23 ∧ brB t'23 (brB (x == x) (EvC Go.Proofs.Tryd.prog w0 12 #[] (fun x'24 h'25 => (∃ t'26 : Bool, ((x'24 = (.bool t'26)) ∧ (K (.bool t'26) h'25)))) h'22) (K (.bool false) h'22)) (K (.bool false) h'22)) h' := fun h' C a b c d l m x w' ra rb hl e =>
    f21_spec ra rb hl e ⟨_, rfl, brB_of (fun _ => brB_of (fun _ => awake_sc T w' hk) fun z => by simp at z) fun z => by cases z⟩
  refine f19_spec (a := s) (b := t) T w0' (fun h' D w' => st_arg k lt) (fun h' D w' => st_arg k2 lt2) (fun hb h1 w1 => ⟨_, _, _, _, rfl, ?_⟩) (fun ms mt hl h1 C w1 => ⟨_, _, _, _, rfl, ?_⟩) fun ms mt hl h1 a1 c1 os1 C1 hd1 ro1 w1 => ⟨_, _, _, _, rfl, ?_⟩
  · refine f20_spec (a := s) (b := t) w1 (fun h' D w' => st_arg k lt) (fun h' D w' => st_arg k2 lt2) (fun _ h2 w2 => ⟨_, _, _, _, rfl, ?_⟩) (fun ms mt => ?_) fun ms mt => ?_
    · exact fin h2 _ none none 0 0 [] [] 1 w2 (nilr _) (nilr _) (by simp) rfl
    all_goals rcases hb with hb | hb
    · exact absurd ms hb
    · exact absurd mt hb
    · exact absurd ms hb
    · exact absurd mt hb
  · refine f20_spec (a := s) (b := t) w1 (fun h' D w' => st_arg k lt) (fun h' D w' => st_arg k2 lt2) (fun hb => ?_) (fun _ _ _ h2 C2 w2 => ⟨_, _, _, _, rfl, ?_⟩) fun _ _ hl2 => by omega
    · rcases hb with hb | hb
      · exact absurd ms hb
      · exact absurd mt hb
    · exact fin h2 _ none none 0 0 [] [] 13 w2 (nilr _) (nilr _) (by simp) rfl
  · refine f20_spec (a := s) (b := t) w1 (fun h' D w' => st_arg k lt) (fun h' D w' => st_arg k2 lt2) (fun hb => ?_) (fun _ _ hl2 => by omega) fun _ _ _ h2 a2 c2 os2 C2 hd2 ro2 w2 => ⟨_, _, _, _, rfl, ?_⟩
    · rcases hb with hb | hb
      · exact absurd ms hb
      · exact absurd mt hb
    · have l1 : os1.length = (chg (entsD s) (entsD t)).length := by
        have := congrArg List.length hd1
        simpa using this
      exact fin h2 _ a1 a2 c1 c2 os1 os2 0 w2 (ro1 h2 C2 w2) (ro2 h2 [] w2) (by omega) (by rw [hd1, hd2])
end
end Go.G.YtilifcggegabfaaDoor
