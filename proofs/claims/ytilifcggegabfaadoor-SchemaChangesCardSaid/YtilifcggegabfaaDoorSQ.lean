/- The document's states: may they be? -/
import Derived.Test.YtilifcggegabfaaDoorSP
import Derived.Test.YtilifcggegabfaaDoorProg
set_option maxRecDepth 100000
namespace Go.G.YtilifcggegabfaaDoor
open Go.RowKit
open Value (string slice int bool agg)
def f34_J : Nat → List Nat × Nat := jOf [(2, [0, 2, 3, 4, 5, 6, 7, 8, 9, 10, 11, 12, 13, 14, 15, 16, 17, 18, 19, 20, 21, 22, 23, 24, 25, 27, 28, 29, 30, 31, 32, 33, 34, 35, 36, 37, 38, 39, 40, 41, 42, 43, 44, 45, 46, 47, 48, 49, 50, 51, 52, 53, 54, 55, 56, 57, 58, 59, 60, 61, 62, 63, 64, 65, 66, 67, 68, 69, 70, 71, 72, 73, 74, 75, 76, 77, 78, 79, 80, 81, 82, 83, 84, 85, 86, 87, 88, 89, 90, 91, 92, 93, 94, 95, 96, 97, 98, 99, 100, 101, 102], 1), (3, [0, 2, 3, 4, 5, 6, 7, 8, 9, 10, 11, 12, 13, 14, 15, 16, 17, 18, 19, 20, 21, 22, 23, 24, 25, 26, 27, 28, 29, 30, 31, 32, 33, 34, 35, 36, 37, 38, 39, 40, 41, 42, 43, 44, 45, 46, 47, 48, 49, 50, 51, 52, 53, 54, 55, 56, 57, 58, 59, 60, 61, 62, 63, 64, 65, 66, 67, 68, 69, 70, 71, 72, 73, 74, 75, 76, 77, 78, 79, 80, 81, 82, 83, 84, 85, 86, 87, 88, 89, 90, 91, 92, 93, 94, 95, 96, 97, 98, 99, 100, 101, 102], 1), (4, [0, 2, 3, 4, 5, 6, 7, 8, 9, 10, 11, 12, 13, 14, 15, 16, 17, 18, 19, 20, 21, 22, 23, 24, 25, 26, 27, 31, 32, 33, 34, 35, 36, 37, 38, 39, 40, 41, 42, 43, 44, 45, 46, 47, 48, 49, 50, 51, 52, 53, 54, 55, 56, 57, 58, 59, 60, 61, 62, 63, 64, 65, 66, 67, 68, 69, 70, 71, 72, 73, 74, 75, 76, 77, 78, 79, 80, 81, 82, 83, 84, 85, 86, 87, 88, 89, 90, 91, 92, 93, 94, 95, 96, 97, 98, 99, 100, 101, 102], 1), (7, [0, 2, 3, 4, 5, 6, 7, 8, 9, 10, 11, 12, 13, 14, 15, 16, 17, 18, 19, 20, 21, 22, 23, 24, 25, 26, 27, 31, 32, 33, 34, 35, 36, 37, 38, 39, 40, 41, 42, 43, 44, 45, 46, 47, 48, 49, 50, 51, 52, 53, 54, 55, 56, 57, 58, 59, 60, 61, 62, 63, 64, 65, 66, 67, 68, 69, 70, 72, 73, 74, 75, 76, 77, 78, 79, 80, 81, 82, 83, 84, 85, 86, 87, 88, 89, 90, 91, 92, 93, 94, 95, 96, 97, 98, 99, 100, 101, 102], 1), (10, [0, 2, 3, 4, 5, 6, 7, 8, 9, 10, 11, 12, 13, 14, 15, 16, 17, 18, 19, 20, 21, 22, 23, 24, 25, 26, 27, 28, 29, 30, 31, 32, 33, 34, 35, 36, 37, 38, 39, 40, 41, 42, 43, 44, 45, 46, 47, 48, 49, 50, 51, 52, 53, 54, 55, 56, 57, 58, 59, 60, 61, 62, 63, 64, 65, 66, 67, 68, 69, 70, 71, 72, 73, 77, 78, 79, 80, 81, 82, 83, 84, 85, 86, 87, 88, 89, 90, 91, 92, 93, 94, 95, 96, 97, 98, 99, 100, 101, 102], 1), (13, [0, 2, 3, 4, 5, 6, 7, 8, 9, 10, 11, 12, 13, 14, 15, 16, 17, 18, 19, 20, 21, 22, 23, 24, 25, 26, 27, 28, 29, 30, 31, 32, 33, 34, 35, 36, 37, 38, 39, 40, 41, 42, 43, 44, 45, 46, 47, 48, 49, 50, 51, 52, 53, 54, 55, 56, 57, 58, 59, 60, 61, 62, 63, 64, 65, 66, 67, 68, 69, 70, 71, 72, 73, 77, 78, 79, 80, 81, 82, 83, 84, 85, 86, 87, 88, 89, 90, 91, 92, 93, 94, 95, 96, 97, 98, 99, 100, 102], 1)]

def f34_2 (w0 : World) (K : Value → AH → Prop) (a : Bool) (b : Int) (c : Option Addr) (d : Nat) (e : Nat) (g : Option Addr) (i : Nat) (k : Nat) (h : AH) : Prop :=
  ∀ j : Nat → Value, LPk Proofs.Tryd.prog w0 (EvC Proofs.Tryd.prog w0) f34_J 34 K 2 [.v (j 0), .bp 0 0, .v (j 2), .v (j 3), .v (j 4), .v (j 5), .v (j 6), .v (j 7), .v (j 8), .v (j 9), .v (j 10), .v (j 11), .v (j 12), .v (j 13), .v (j 14), .v (j 15), .v (j 16), .v (j 17), .v (j 18), .v (j 19), .v (j 20), .v (j 21), .v (j 22), .v (j 23), .v (j 24), .v (j 25), .v (.bool a), .v (j 27), .v (j 28), .v (j 29), .v (j 30), .v (j 31), .v (j 32), .v (j 33), .v (j 34), .v (j 35), .v (j 36), .v (j 37), .v (j 38), .v (j 39), .v (j 40), .v (j 41), .v (j 42), .v (j 43), .v (j 44), .v (j 45), .v (j 46), .v (j 47), .v (j 48), .v (j 49), .v (j 50), .v (j 51), .v (j 52), .v (j 53), .v (j 54), .v (j 55), .v (j 56), .v (j 57), .v (j 58), .v (j 59), .v (j 60), .v (j 61), .v (j 62), .v (j 63), .v (j 64), .v (j 65), .v (j 66), .v (j 67), .v (j 68), .v (j 69), .v (j 70), .v (j 71), .v (j 72), .v (j 73), .v (j 74), .v (j 75), .v (j 76), .v (j 77), .v (j 78), .v (j 79), .v (j 80), .v (j 81), .v (j 82), .v (j 83), .v (j 84), .v (j 85), .v (j 86), .v (j 87), .v (j 88), .v (j 89), .v (j 90), .v (j 91), .v (j 92), .v (j 93), .v (j 94), .v (j 95), .v (j 96), .v (j 97), .v (j 98), .v (j 99), .v (j 100), .v (j 101), .v (j 102)] [some [(.int .i64 b), (.slice c d e), (.slice g i k)]] h

def f34_3 (w0 : World) (K : Value → AH → Prop) (a : Int) (b : Option Addr) (c : Nat) (d : Nat) (e : Option Addr) (g : Nat) (i : Nat) (h : AH) : Prop :=
  ∀ j : Nat → Value, LPk Proofs.Tryd.prog w0 (EvC Proofs.Tryd.prog w0) f34_J 34 K 3 [.v (j 0), .bp 0 0, .v (j 2), .v (j 3), .v (j 4), .v (j 5), .v (j 6), .v (j 7), .v (j 8), .v (j 9), .v (j 10), .v (j 11), .v (j 12), .v (j 13), .v (j 14), .v (j 15), .v (j 16), .v (j 17), .v (j 18), .v (j 19), .v (j 20), .v (j 21), .v (j 22), .v (j 23), .v (j 24), .v (j 25), .v (j 26), .v (j 27), .v (j 28), .v (j 29), .v (j 30), .v (j 31), .v (j 32), .v (j 33), .v (j 34), .v (j 35), .v (j 36), .v (j 37), .v (j 38), .v (j 39), .v (j 40), .v (j 41), .v (j 42), .v (j 43), .v (j 44), .v (j 45), .v (j 46), .v (j 47), .v (j 48), .v (j 49), .v (j 50), .v (j 51), .v (j 52), .v (j 53), .v (j 54), .v (j 55), .v (j 56), .v (j 57), .v (j 58), .v (j 59), .v (j 60), .v (j 61), .v (j 62), .v (j 63), .v (j 64), .v (j 65), .v (j 66), .v (j 67), .v (j 68), .v (j 69), .v (j 70), .v (j 71), .v (j 72), .v (j 73), .v (j 74), .v (j 75), .v (j 76), .v (j 77), .v (j 78), .v (j 79), .v (j 80), .v (j 81), .v (j 82), .v (j 83), .v (j 84), .v (j 85), .v (j 86), .v (j 87), .v (j 88), .v (j 89), .v (j 90), .v (j 91), .v (j 92), .v (j 93), .v (j 94), .v (j 95), .v (j 96), .v (j 97), .v (j 98), .v (j 99), .v (j 100), .v (j 101), .v (j 102)] [some [(.int .i64 a), (.slice b c d), (.slice e g i)]] h

def f34_4 (w0 : World) (K : Value → AH → Prop) (a : Option Addr) (b : Nat) (c : Nat) (d : Int) (e : Int) (g : Int) (i : Option Addr) (k : Nat) (m : Nat) (n : Option Addr) (o : Nat) (p : Nat) (h : AH) : Prop :=
  ∀ j : Nat → Value, LPk Proofs.Tryd.prog w0 (EvC Proofs.Tryd.prog w0) f34_J 34 K 4 [.v (j 0), .bp 0 0, .v (j 2), .v (j 3), .v (j 4), .v (j 5), .v (j 6), .v (j 7), .v (j 8), .v (j 9), .v (j 10), .v (j 11), .v (j 12), .v (j 13), .v (j 14), .v (j 15), .v (j 16), .v (j 17), .v (j 18), .v (j 19), .v (j 20), .v (j 21), .v (j 22), .v (j 23), .v (j 24), .v (j 25), .v (j 26), .v (j 27), .v (.slice a b c), .v (.int .i64 d), .v (.int .i64 e), .v (j 31), .v (j 32), .v (j 33), .v (j 34), .v (j 35), .v (j 36), .v (j 37), .v (j 38), .v (j 39), .v (j 40), .v (j 41), .v (j 42), .v (j 43), .v (j 44), .v (j 45), .v (j 46), .v (j 47), .v (j 48), .v (j 49), .v (j 50), .v (j 51), .v (j 52), .v (j 53), .v (j 54), .v (j 55), .v (j 56), .v (j 57), .v (j 58), .v (j 59), .v (j 60), .v (j 61), .v (j 62), .v (j 63), .v (j 64), .v (j 65), .v (j 66), .v (j 67), .v (j 68), .v (j 69), .v (j 70), .v (j 71), .v (j 72), .v (j 73), .v (j 74), .v (j 75), .v (j 76), .v (j 77), .v (j 78), .v (j 79), .v (j 80), .v (j 81), .v (j 82), .v (j 83), .v (j 84), .v (j 85), .v (j 86), .v (j 87), .v (j 88), .v (j 89), .v (j 90), .v (j 91), .v (j 92), .v (j 93), .v (j 94), .v (j 95), .v (j 96), .v (j 97), .v (j 98), .v (j 99), .v (j 100), .v (j 101), .v (j 102)] [some [(.int .i64 g), (.slice i k m), (.slice n o p)]] h

def f34_7 (w0 : World) (K : Value → AH → Prop) (a : Option Addr) (b : Nat) (c : Nat) (d : Int) (e : Int) (g : Bool) (i : Int) (k : Option Addr) (m : Nat) (n : Nat) (o : Option Addr) (p : Nat) (q : Nat) (h : AH) : Prop :=
  ∀ j : Nat → Value, LPk Proofs.Tryd.prog w0 (EvC Proofs.Tryd.prog w0) f34_J 34 K 7 [.v (j 0), .bp 0 0, .v (j 2), .v (j 3), .v (j 4), .v (j 5), .v (j 6), .v (j 7), .v (j 8), .v (j 9), .v (j 10), .v (j 11), .v (j 12), .v (j 13), .v (j 14), .v (j 15), .v (j 16), .v (j 17), .v (j 18), .v (j 19), .v (j 20), .v (j 21), .v (j 22), .v (j 23), .v (j 24), .v (j 25), .v (j 26), .v (j 27), .v (.slice a b c), .v (.int .i64 d), .v (.int .i64 e), .v (j 31), .v (j 32), .v (j 33), .v (j 34), .v (j 35), .v (j 36), .v (j 37), .v (j 38), .v (j 39), .v (j 40), .v (j 41), .v (j 42), .v (j 43), .v (j 44), .v (j 45), .v (j 46), .v (j 47), .v (j 48), .v (j 49), .v (j 50), .v (j 51), .v (j 52), .v (j 53), .v (j 54), .v (j 55), .v (j 56), .v (j 57), .v (j 58), .v (j 59), .v (j 60), .v (j 61), .v (j 62), .v (j 63), .v (j 64), .v (j 65), .v (j 66), .v (j 67), .v (j 68), .v (j 69), .v (j 70), .v (.bool g), .v (j 72), .v (j 73), .v (j 74), .v (j 75), .v (j 76), .v (j 77), .v (j 78), .v (j 79), .v (j 80), .v (j 81), .v (j 82), .v (j 83), .v (j 84), .v (j 85), .v (j 86), .v (j 87), .v (j 88), .v (j 89), .v (j 90), .v (j 91), .v (j 92), .v (j 93), .v (j 94), .v (j 95), .v (j 96), .v (j 97), .v (j 98), .v (j 99), .v (j 100), .v (j 101), .v (j 102)] [some [(.int .i64 i), (.slice k m n), (.slice o p q)]] h

def f34_10 (w0 : World) (K : Value → AH → Prop) (a : Option Addr) (b : Nat) (c : Nat) (d : Int) (e : Int) (g : Int) (i : Option Addr) (k : Nat) (m : Nat) (n : Option Addr) (o : Nat) (p : Nat) (h : AH) : Prop :=
  ∀ j : Nat → Value, LPk Proofs.Tryd.prog w0 (EvC Proofs.Tryd.prog w0) f34_J 34 K 10 [.v (j 0), .bp 0 0, .v (j 2), .v (j 3), .v (j 4), .v (j 5), .v (j 6), .v (j 7), .v (j 8), .v (j 9), .v (j 10), .v (j 11), .v (j 12), .v (j 13), .v (j 14), .v (j 15), .v (j 16), .v (j 17), .v (j 18), .v (j 19), .v (j 20), .v (j 21), .v (j 22), .v (j 23), .v (j 24), .v (j 25), .v (j 26), .v (j 27), .v (j 28), .v (j 29), .v (j 30), .v (j 31), .v (j 32), .v (j 33), .v (j 34), .v (j 35), .v (j 36), .v (j 37), .v (j 38), .v (j 39), .v (j 40), .v (j 41), .v (j 42), .v (j 43), .v (j 44), .v (j 45), .v (j 46), .v (j 47), .v (j 48), .v (j 49), .v (j 50), .v (j 51), .v (j 52), .v (j 53), .v (j 54), .v (j 55), .v (j 56), .v (j 57), .v (j 58), .v (j 59), .v (j 60), .v (j 61), .v (j 62), .v (j 63), .v (j 64), .v (j 65), .v (j 66), .v (j 67), .v (j 68), .v (j 69), .v (j 70), .v (j 71), .v (j 72), .v (j 73), .v (.slice a b c), .v (.int .i64 d), .v (.int .i64 e), .v (j 77), .v (j 78), .v (j 79), .v (j 80), .v (j 81), .v (j 82), .v (j 83), .v (j 84), .v (j 85), .v (j 86), .v (j 87), .v (j 88), .v (j 89), .v (j 90), .v (j 91), .v (j 92), .v (j 93), .v (j 94), .v (j 95), .v (j 96), .v (j 97), .v (j 98), .v (j 99), .v (j 100), .v (j 101), .v (j 102)] [some [(.int .i64 g), (.slice i k m), (.slice n o p)]] h

def f34_13 (w0 : World) (K : Value → AH → Prop) (a : Option Addr) (b : Nat) (c : Nat) (d : Int) (e : Int) (g : Bool) (i : Int) (k : Option Addr) (m : Nat) (n : Nat) (o : Option Addr) (p : Nat) (q : Nat) (h : AH) : Prop :=
  ∀ j : Nat → Value, LPk Proofs.Tryd.prog w0 (EvC Proofs.Tryd.prog w0) f34_J 34 K 13 [.v (j 0), .bp 0 0, .v (j 2), .v (j 3), .v (j 4), .v (j 5), .v (j 6), .v (j 7), .v (j 8), .v (j 9), .v (j 10), .v (j 11), .v (j 12), .v (j 13), .v (j 14), .v (j 15), .v (j 16), .v (j 17), .v (j 18), .v (j 19), .v (j 20), .v (j 21), .v (j 22), .v (j 23), .v (j 24), .v (j 25), .v (j 26), .v (j 27), .v (j 28), .v (j 29), .v (j 30), .v (j 31), .v (j 32), .v (j 33), .v (j 34), .v (j 35), .v (j 36), .v (j 37), .v (j 38), .v (j 39), .v (j 40), .v (j 41), .v (j 42), .v (j 43), .v (j 44), .v (j 45), .v (j 46), .v (j 47), .v (j 48), .v (j 49), .v (j 50), .v (j 51), .v (j 52), .v (j 53), .v (j 54), .v (j 55), .v (j 56), .v (j 57), .v (j 58), .v (j 59), .v (j 60), .v (j 61), .v (j 62), .v (j 63), .v (j 64), .v (j 65), .v (j 66), .v (j 67), .v (j 68), .v (j 69), .v (j 70), .v (j 71), .v (j 72), .v (j 73), .v (.slice a b c), .v (.int .i64 d), .v (.int .i64 e), .v (j 77), .v (j 78), .v (j 79), .v (j 80), .v (j 81), .v (j 82), .v (j 83), .v (j 84), .v (j 85), .v (j 86), .v (j 87), .v (j 88), .v (j 89), .v (j 90), .v (j 91), .v (j 92), .v (j 93), .v (j 94), .v (j 95), .v (j 96), .v (j 97), .v (j 98), .v (j 99), .v (j 100), .v (.bool g), .v (j 102)] [some [(.int .i64 i), (.slice k m n), (.slice o p q)]] h

theorem f34_2_in {w0 : World} {K : Value → AH → Prop} (a : Bool) (b : Int) (c : Option Addr) (d : Nat) (e : Nat) (g : Option Addr) (i : Nat) (k : Nat) (h : AH)
  (hv : (brB a (K (bool false) h) (f34_3 w0 K b c d e g i k h))) :
  f34_2 w0 K a b c d e g i k h := fun j => LP_intro (P := Proofs.Tryd.prog) (Eq.mp (by kernel_rfl) hv)

theorem f34_3_in {w0 : World} {K : Value → AH → Prop} (d : Int) (b : Option Addr) (a : Nat) (c : Nat) (e : Option Addr) (g : Nat) (i : Nat) (h : AH)
  (hv : (f34_4 w0 K b a c ((a : Nat) : Int) (0 : Int) d b a c e g i h)) :
  f34_3 w0 K d b a c e g i h := fun j => LP_intro (P := Proofs.Tryd.prog) (Eq.mp (by kernel_rfl) hv)

theorem f34_4_in {w0 : World} {K : Value → AH → Prop} (k : Option Addr) (m : Nat) (p : Nat) (n : Int) (a : Int) (c : Int) (d : Option Addr) (e : Nat) (o : Nat) (g : Option Addr) (b : Nat) (i : Nat) (h : AH)
  (hv : (brB (decide ((a < n))) (∃ z : Addr, ((k = (some z)) ∧ (((0 : Int) ≤ a) ∧ ((a < ((m : Nat) : Int)) ∧ (∃ r : ByteArray, (∃ v : Option Addr, (∃ s : Nat, (∃ x : Nat, (∃ y : Int, (∃ t : Bool, (∃ u : Int, ((((Array.size #[(string r), (slice v s x), (int .i64 y), (bool t), (int .i64 u)]) = 5) ∧ (At w0 h (Addr.add z ((Int.toNat a) * 5)) [(string r), (slice v s x), (int .i64 y), (bool t), (int .i64 u)])) ∧ (EvC Proofs.Tryd.prog w0 56 #[(agg #[(string r), (slice v s x), (int .i64 y), (bool t), (int .i64 u)])] (fun D q => (∃ A : Bool, ((D = (bool A)) ∧ (brB (!A) (f34_7 w0 K k m p n a true c d e o g b i q) (brB (!t) (f34_7 w0 K k m p n a true c d e o g b i q) (brB (((s : Nat) : Int) == (0 : Int)) (f34_7 w0 K k m p n a true c d e o g b i q) (brB (decide ((u ≤ c))) (f34_7 w0 K k m p n a true c d e o g b i q) (brB (decide (((0 : Int) < a))) (∃ B : Addr, ((d = (some B)) ∧ (((0 : Int) ≤ (IntKind.wrap .i64 (a - (1 : Int)))) ∧ (((IntKind.wrap .i64 (a - (1 : Int))) < ((e : Nat) : Int)) ∧ (∃ C : ByteArray, (((cellA w0 q (Addr.add (Addr.add B ((Int.toNat (IntKind.wrap .i64 (a - (1 : Int)))) * 5)) 0)) = (some (string C))) ∧ (f34_7 w0 K k m p n a (!(Op.bytesLess (ByteArray.toList C) (ByteArray.toList r))) c d e o g b i q))))))) (f34_7 w0 K k m p n a false c d e o g b i q))))))))) h))))))))))))) (f34_10 w0 K g b i ((b : Nat) : Int) (0 : Int) c d e o g b i h))) :
  f34_4 w0 K k m p n a c d e o g b i h := fun j => LP_intro (P := Proofs.Tryd.prog) (Eq.mp (by kernel_rfl) hv)

theorem f34_7_in {w0 : World} {K : Value → AH → Prop} (a : Option Addr) (b : Nat) (c : Nat) (d : Int) (e : Int) (g : Bool) (i : Int) (k : Option Addr) (m : Nat) (n : Nat) (o : Option Addr) (p : Nat) (q : Nat) (h : AH)
  (hv : (brB g (K (bool false) h) (f34_4 w0 K a b c d (IntKind.wrap .i64 (e + (1 : Int))) i k m n o p q h))) :
  f34_7 w0 K a b c d e g i k m n o p q h := fun j => LP_intro (P := Proofs.Tryd.prog) (Eq.mp (by kernel_rfl) hv)

theorem f34_10_in {w0 : World} {K : Value → AH → Prop} (b : Option Addr) (c : Nat) (k : Nat) (d : Int) (a : Int) (e : Int) (m : Option Addr) (n : Nat) (o : Nat) (g : Option Addr) (i : Nat) (p : Nat) (h : AH)
  (hv : (brB (decide ((a < d))) (∃ N : Addr, ((b = (some N)) ∧ (((0 : Int) ≤ a) ∧ ((a < ((c : Nat) : Int)) ∧ (∃ q : ByteArray, (∃ s : Option Addr, (∃ t : Nat, (∃ u : Nat, (∃ v : Option Addr, (∃ x : Nat, (∃ y : Nat, (∃ z : Option Addr, (∃ A : Nat, (∃ B : Nat, (∃ C : Option Addr, (∃ D : Nat, (∃ E : Nat, (∃ F : Int, (∃ L : Int, (∃ M : Int, ((((Array.size #[(string q), (slice s t u), (slice v x y), (slice z A B), (slice C D E), (int .i64 F), (int .i64 L), (int .i64 M)]) = 8) ∧ (At w0 h (Addr.add N ((Int.toNat a) * 8)) [(string q), (slice s t u), (slice v x y), (slice z A B), (slice C D E), (int .i64 F), (int .i64 L), (int .i64 M)])) ∧ (EvC Proofs.Tryd.prog w0 57 #[(agg #[(string q), (slice s t u), (slice v x y), (slice z A B), (slice C D E), (int .i64 F), (int .i64 L), (int .i64 M)]), (int .i64 e)] (fun U r => (∃ Q : Bool, ((U = (bool Q)) ∧ (brB (!Q) (f34_13 w0 K b c k d a true e m n o g i p r) (brB (decide (((0 : Int) < a))) (∃ R : Addr, ((g = (some R)) ∧ (((0 : Int) ≤ (IntKind.wrap .i64 (a - (1 : Int)))) ∧ (((IntKind.wrap .i64 (a - (1 : Int))) < ((i : Nat) : Int)) ∧ (∃ T : ByteArray, (((cellA w0 r (Addr.add (Addr.add R ((Int.toNat (IntKind.wrap .i64 (a - (1 : Int)))) * 8)) 0)) = (some (string T))) ∧ (f34_13 w0 K b c k d a (!(Op.bytesLess (ByteArray.toList T) (ByteArray.toList q))) e m n o g i p r))))))) (f34_13 w0 K b c k d a false e m n o g i p r)))))) h)))))))))))))))))))))) (K (bool true) h))) :
  f34_10 w0 K b c k d a e m n o g i p h := fun j => LP_intro (P := Proofs.Tryd.prog) (Eq.mp (by kernel_rfl) hv)

theorem f34_13_in {w0 : World} {K : Value → AH → Prop} (a : Option Addr) (b : Nat) (c : Nat) (d : Int) (e : Int) (g : Bool) (i : Int) (k : Option Addr) (m : Nat) (n : Nat) (o : Option Addr) (p : Nat) (q : Nat) (h : AH)
  (hv : (brB g (K (bool false) h) (f34_10 w0 K a b c d (IntKind.wrap .i64 (e + (1 : Int))) i k m n o p q h))) :
  f34_13 w0 K a b c d e g i k m n o p q h := fun j => LP_intro (P := Proofs.Tryd.prog) (Eq.mp (by kernel_rfl) hv)

theorem f34_go {w0 : World} {K : Value → AH → Prop} (a : Int) (d : Option Addr) (b : Nat) (e : Nat) (g : Option Addr) (c : Nat) (i : Nat) (h : AH)
  (hv : (brB (decide ((a < (0 : Int)))) (f34_2 w0 K true a d b e g c i h) (brB (decide (((1099511627776 : Int) < a))) (f34_2 w0 K true a d b e g c i h) (brB (decide (((64 : Int) < ((b : Nat) : Int)))) (f34_2 w0 K true a d b e g c i h) (f34_2 w0 K (decide (((16 : Int) < ((c : Nat) : Int)))) a d b e g c i h))))) :
  EvC Proofs.Tryd.prog w0 34 ([(.agg #[(.int .i64 a), (.slice d b e), (.slice g c i)])]).toArray K h := EvC_intro (P := Proofs.Tryd.prog) f34_J (Eq.mp (by kernel_rfl) hv)
section
variable {w0 : World} {K : Value → AH → Prop} {h : AH} {B : List (Nat × AB)}
/-- The document's May. -/
theorem f34_spec {s : StM} (w : Own w0 h B) (hR : ∀ h', Own w0 h' B → StRd w0 h' s) (hk : ∀ b h', (b = true ↔ MaySt s) → Own w0 h' B → K (.bool b) h') :
    EvC Go.Proofs.Tryd.prog w0 34 #[s.agg2] K h := by
  have no : ∀ h1, ¬ MaySt s → Own w0 h1 B → K (.bool false) h1 := fun h1 hn w1 => hk false h1 ⟨fun z => by (cases z), fun p => absurd p hn⟩ w1
  have r0 := hR h w
  have lrl := r0.rl
  have lsl := r0.sl
  have s10 : ((∀ x ∈ s.ses, MaySes s.clock x) → Rise (fun a b : SesM => sLt a.client b.client) s.ses → MaySt s) → ∀ (n i : Nat), i + n = s.ses.length → ∀ h1, Own w0 h1 B → (∀ x ∈ s.ses.take i, MaySes s.clock x) → (∀ j u v, j + 1 < i → s.ses[j]? = some u → s.ses[j + 1]? = some v → sLt u.client v.client) →
      f34_10 w0 K s.sa s.ses.length s.sc ((s.ses.length : Nat) : Int) ((i : Nat) : Int) s.clock s.ra s.ret.length s.rc s.sa s.ses.length s.sc h1 := fun hq n => by
    induction n with
    | zero =>
      intro i hi h1 w1 hm hr
      rw [List.take_of_length_le (by omega)] at hm
      exact f34_10_in _ _ _ _ _ _ _ _ _ _ _ _ _ (brB_of (fun z => by have := of_decide_eq_true z; omega) fun _ => hk true h1 ⟨fun _ => hq hm (rise_all (by omega) hr), fun _ => rfl⟩ w1)
    | succ n ih =>
      intro i hi h1 w1 hm hr
      have g1 : s.ses[i]? = some s.ses[i] := List.getElem?_eq_getElem _
      generalize s.ses[i] = x at g1
      have hf := List.mem_of_getElem? g1
      obtain ⟨ad, had, hat⟩ := rowLoad (enc := SesM.cells) (k := 8) (fun _ => rfl) (by decide) (hR h1 w1).ses g1
      have s13 : ∀ h2 v, Own w0 h2 B → (v = true → ¬ MaySt s) → (v = false → MaySes s.clock x ∧ ∀ g, 0 < i → s.ses[i - 1]? = some g → sLt g.client x.client) →
          f34_13 w0 K s.sa s.ses.length s.sc ((s.ses.length : Nat) : Int) ((i : Nat) : Int) v s.clock s.ra s.ret.length s.rc s.sa s.ses.length s.sc h2 := fun h2 v w2 h1' h2' => by
        refine f34_13_in _ _ _ _ _ _ _ _ _ _ _ _ _ _ (brB_of (fun z => no h2 (h1' z) w2) fun z => ?_)
        obtain ⟨q1, q2⟩ := h2' z
        rw [wrapS (by omega)]
        exact ih (i + 1) (by omega) h2 w2 (all_step g1 hm q1) (rise_one (lt := fun a b : SesM => sLt a.client b.client) g1 q2 hr)
      refine f34_10_in _ _ _ _ _ _ _ _ _ _ _ _ _ (brB_of (fun _ => ⟨ad, had, by omega, by omega, _, _, _, _, _, _, _, _, _, _, _, _, _, _, _, _, ⟨rfl, hat⟩, ?_⟩) fun z => by have := of_decide_eq_false z; omega)
      refine f57_spec (x := x) w1 (fun h' w' => (hR h' w').sesk x hf) fun t h2 ht w2 => ⟨t, rfl, brB_of (fun z => s13 h2 _ w2 (fun _ p => ?_) fun z => by cases z) fun z => brB_of (fun z2 => ?_) fun z2 => s13 h2 _ w2 (fun z => by cases z) fun _ => ⟨ht.1 (by simpa using z), fun g h0 => by simp at z2; omega⟩⟩
      · have := ht.2 (p.ses x hf); rw [this] at z; cases z
      · have h0 : 0 < i := by simp at z2; omega
        obtain ⟨k, rfl⟩ : ∃ k, i = k + 1 := ⟨i - 1, by omega⟩
        have g0 : s.ses[k]? = some (s.ses[k]'(by omega)) := List.getElem?_eq_getElem _
        generalize s.ses[k]'(by omega) = g at g0
        obtain ⟨bd, hbd, hbt⟩ := rowLoad (enc := SesM.cells) (k := 8) (fun _ => rfl) (by decide) (hR h2 w2).ses g0
        have e1 : IntKind.i64.wrap (((k + 1 : Nat) : Int) - 1) = ((k : Nat) : Int) := by rw [wrap64 (by omega) (by omega)]; omega
        rw [e1]
        refine ⟨bd, hbd, by omega, by omega, g.client, hbt 0 _ rfl, s13 h2 _ w2 (fun z4 p => ?_) fun z4 => ⟨ht.1 (by simpa using z), fun g' _ hg' => ?_⟩⟩
        · have q : Op.bytesLess g.client.toList x.client.toList = true := p.sesr k _ _ g0 g1
          rw [q] at z4; cases z4
        · have e2 : s.ses[k + 1 - 1]? = some g := g0
          rw [e2] at hg'; injection hg' with hg'; subst hg'
          show Op.bytesLess g.client.toList x.client.toList = true
          simpa using z4
  have s4 : ((∀ m ∈ s.ret, MayRet s.clock m) → Rise (fun a b : MsgM => sLt a.topic b.topic) s.ret → (∀ x ∈ s.ses, MaySes s.clock x) → Rise (fun a b : SesM => sLt a.client b.client) s.ses → MaySt s) → ∀ (n i : Nat), i + n = s.ret.length → ∀ h1, Own w0 h1 B → (∀ m ∈ s.ret.take i, MayRet s.clock m) → (∀ j u v, j + 1 < i → s.ret[j]? = some u → s.ret[j + 1]? = some v → sLt u.topic v.topic) →
      f34_4 w0 K s.ra s.ret.length s.rc ((s.ret.length : Nat) : Int) ((i : Nat) : Int) s.clock s.ra s.ret.length s.rc s.sa s.ses.length s.sc h1 := fun hq n => by
    induction n with
    | zero =>
      intro i hi h1 w1 hm hr
      rw [List.take_of_length_le (by omega)] at hm
      exact f34_4_in _ _ _ _ _ _ _ _ _ _ _ _ _ (brB_of (fun z => by have := of_decide_eq_true z; omega) fun _ => s10 (hq hm (rise_all (by omega) hr)) s.ses.length 0 (by omega) h1 w1 (fun _ z => by simp at z) fun j u v hj => by omega)
    | succ n ih =>
      intro i hi h1 w1 hm hr
      have g1 : s.ret[i]? = some s.ret[i] := List.getElem?_eq_getElem _
      generalize s.ret[i] = f at g1
      have hf := List.mem_of_getElem? g1
      obtain ⟨ad, had, hat⟩ := rowLoad (enc := MsgM.cells) (k := 5) (fun _ => rfl) (by decide) (hR h1 w1).ret.1 g1
      have s7 : ∀ h2 v, Own w0 h2 B → (v = true → ¬ MaySt s) → (v = false → MayRet s.clock f ∧ ∀ g, 0 < i → s.ret[i - 1]? = some g → sLt g.topic f.topic) →
          f34_7 w0 K s.ra s.ret.length s.rc ((s.ret.length : Nat) : Int) ((i : Nat) : Int) v s.clock s.ra s.ret.length s.rc s.sa s.ses.length s.sc h2 := fun h2 v w2 h1' h2' => by
        refine f34_7_in _ _ _ _ _ _ _ _ _ _ _ _ _ _ (brB_of (fun z => no h2 (h1' z) w2) fun z => ?_)
        obtain ⟨q1, q2⟩ := h2' z
        rw [wrapS (by omega)]
        exact ih (i + 1) (by omega) h2 w2 (all_step g1 hm q1) (rise_one (lt := fun a b : MsgM => sLt a.topic b.topic) g1 q2 hr)
      refine f34_4_in _ _ _ _ _ _ _ _ _ _ _ _ _ (brB_of (fun _ => ⟨ad, had, by omega, by omega, _, _, _, _, _, _, _, ⟨rfl, hat⟩, ?_⟩) fun z => by have := of_decide_eq_false z; omega)
      refine f56_spec (m := f) w1 fun t h2 ht w2 => ⟨t, rfl, brB_of (fun z1 => s7 h2 _ w2 (fun _ p => ?_) fun z => by cases z) fun z1 => brB_of (fun z2 => s7 h2 _ w2 (fun _ p => ?_) fun z => by cases z) fun z2 => brB_of (fun z3 => s7 h2 _ w2 (fun _ p => ?_) fun z => by cases z) fun z3 =>
        brB_of (fun z4 => s7 h2 _ w2 (fun _ p => ?_) fun z => by cases z) fun z4 => ?_⟩
      · have := ht.2 (p.ret f hf).may; rw [this] at z1; cases z1
      · have := (p.ret f hf).ret; rw [this] at z2; cases z2
      · have := (p.ret f hf).pay; exact this (by simpa using z3)
      · have := (p.ret f hf).til; simp at z4; omega
      have hmay : MayRet s.clock f := ⟨ht.1 (by simpa using z1), by simpa using z2, fun e => by rw [e] at z3; simp at z3, by simpa using z4⟩
      refine brB_of (fun z5 => ?_) fun z5 => s7 h2 _ w2 (fun z => by cases z) fun _ => ⟨hmay, fun g h0 => by simp at z5; omega⟩
      have h0 : 0 < i := by simp at z5; omega
      obtain ⟨k, rfl⟩ : ∃ k, i = k + 1 := ⟨i - 1, by omega⟩
      have g0 : s.ret[k]? = some (s.ret[k]'(by omega)) := List.getElem?_eq_getElem _
      generalize s.ret[k]'(by omega) = g at g0
      obtain ⟨bd, hbd, hbt⟩ := rowLoad (enc := MsgM.cells) (k := 5) (fun _ => rfl) (by decide) (hR h2 w2).ret.1 g0
      have e1 : IntKind.i64.wrap (((k + 1 : Nat) : Int) - 1) = ((k : Nat) : Int) := by rw [wrap64 (by omega) (by omega)]; omega
      rw [e1]
      refine ⟨bd, hbd, by omega, by omega, g.topic, hbt 0 _ rfl, s7 h2 _ w2 (fun z6 p => ?_) fun z6 => ⟨hmay, fun g' _ hg' => ?_⟩⟩
      · have q : Op.bytesLess g.topic.toList f.topic.toList = true := p.retr k _ _ g0 g1
        rw [q] at z6; cases z6
      · have e2 : s.ret[k + 1 - 1]? = some g := g0
        rw [e2] at hg'; injection hg' with hg'; subst hg'
        show Op.bytesLess g.topic.toList f.topic.toList = true
        simpa using z6
  have s2 : ∀ h1 v, Own w0 h1 B → (v = true → ¬ MaySt s) → (v = false → 0 ≤ s.clock ∧ s.clock ≤ 1099511627776 ∧ s.ret.length ≤ 64 ∧ s.ses.length ≤ 16) → f34_2 w0 K v s.clock s.ra s.ret.length s.rc s.sa s.ses.length s.sc h1 := fun h1 v w1 h1' h2' => by
    refine f34_2_in _ _ _ _ _ _ _ _ _ (brB_of (fun z => no h1 (h1' z) w1) fun z => ?_)
    obtain ⟨q1, q2, q3, q4⟩ := h2' z
    exact f34_3_in _ _ _ _ _ _ _ _ (s4 (fun a1 a2 a3 a4 => ⟨q1, q2, q3, q4, a1, a2, a3, a4⟩) s.ret.length 0 (by omega) h1 w1 (fun _ z => by simp at z) fun j u v hj => by omega)
  refine f34_go _ _ _ _ _ _ _ _ (brB_of (fun z1 => s2 h _ w (fun _ p => ?_) fun z => by cases z) fun z1 => brB_of (fun z2 => s2 h _ w (fun _ p => ?_) fun z => by cases z) fun z2 => brB_of (fun z3 => s2 h _ w (fun _ p => ?_) fun z => by cases z) fun z3 =>
    s2 h _ w (fun z4 p => ?_) fun z4 => ⟨by simpa using z1, by simpa using z2, by simp at z3; omega, by simp at z4; omega⟩)
  · have := p.clock0; simp at z1; omega
  · have := p.clock; simp at z2; omega
  · have := p.rl; simp at z3; omega
  · have := p.sl; simp at z4; omega
end
end Go.G.YtilifcggegabfaaDoor
