/- States: may they be? -/
import Derived.Test.YtilifcggegabfaaDoorSL
import Derived.Test.YtilifcggegabfaaDoorProg
set_option maxRecDepth 100000
namespace Go.G.YtilifcggegabfaaDoor
open Go.RowKit
open Value (string slice int bool agg)
def f11_J : Nat → List Nat × Nat := jOf [(2, [0, 2, 3, 4, 5, 6, 8, 9, 10, 11, 12, 13, 14, 15, 16, 17, 18, 19, 20, 21, 22, 23, 24, 25, 26, 27, 28, 29, 30, 31, 32, 33, 34, 35, 36, 37, 38, 39, 40, 41, 42, 43, 44, 45, 46, 47, 48, 49, 50, 51, 52, 53, 54, 55, 56, 57, 58, 59, 60, 61, 62, 63, 64, 65, 66, 67, 68, 69, 70, 71, 72, 73, 74, 75, 76, 77, 78], 1), (5, [0, 2, 3, 4, 5, 6, 7, 8, 9, 10, 11, 12, 13, 14, 15, 16, 17, 18, 19, 20, 21, 22, 23, 24, 25, 26, 27, 29, 30, 31, 32, 33, 34, 35, 36, 37, 38, 39, 40, 41, 42, 43, 44, 45, 46, 47, 48, 49, 50, 51, 52, 53, 54, 55, 56, 57, 58, 59, 60, 61, 62, 63, 64, 65, 66, 67, 68, 69, 70, 71, 72, 73, 74, 75, 76, 77, 78], 1), (6, [0, 2, 3, 4, 5, 6, 7, 8, 9, 10, 11, 12, 13, 14, 15, 16, 17, 18, 19, 20, 21, 22, 23, 24, 25, 26, 27, 28, 29, 30, 31, 32, 33, 34, 35, 36, 37, 38, 39, 40, 41, 42, 43, 44, 45, 46, 47, 48, 49, 50, 51, 52, 53, 54, 55, 56, 57, 58, 59, 60, 61, 62, 63, 64, 65, 66, 67, 68, 69, 70, 71, 72, 73, 74, 75, 76, 77, 78], 1), (7, [0, 2, 3, 4, 5, 6, 7, 8, 9, 10, 11, 12, 13, 14, 15, 16, 17, 18, 19, 20, 21, 22, 23, 24, 25, 26, 27, 28, 29, 30, 31, 32, 33, 34, 35, 36, 37, 41, 42, 43, 44, 45, 46, 47, 48, 49, 50, 51, 52, 53, 54, 55, 56, 57, 58, 59, 60, 61, 62, 63, 64, 65, 66, 67, 68, 69, 70, 71, 72, 73, 74, 75, 76, 77, 78], 1), (10, [0, 2, 3, 4, 5, 6, 7, 8, 9, 10, 11, 12, 13, 14, 15, 16, 17, 18, 19, 20, 21, 22, 23, 24, 25, 26, 27, 28, 29, 30, 31, 32, 33, 34, 35, 36, 37, 41, 42, 43, 44, 45, 46, 47, 48, 49, 50, 51, 52, 53, 54, 55, 56, 57, 58, 59, 60, 61, 62, 63, 65, 66, 67, 68, 69, 70, 71, 72, 73, 74, 75, 76, 77, 78], 1), (13, [0, 2, 3, 4, 5, 6, 7, 8, 9, 10, 11, 12, 13, 14, 15, 16, 17, 18, 19, 20, 21, 22, 23, 24, 25, 26, 27, 28, 29, 30, 31, 32, 33, 34, 35, 36, 37, 38, 39, 40, 41, 42, 43, 44, 45, 46, 47, 48, 49, 50, 51, 52, 53, 54, 55, 56, 57, 58, 59, 60, 61, 62, 63, 64, 65, 66, 70, 71, 72, 73, 74, 75, 76, 77, 78], 1)]

def f11_2 (w0 : World) (K : Value → AH → Prop) (a : Bool) (b : Int) (c : Option Addr) (d : Nat) (e : Nat) (g : Option Addr) (i : Nat) (k : Nat) (h : AH) : Prop :=
  ∀ j : Nat → Value, LPk Proofs.Tryd.prog w0 (EvC Proofs.Tryd.prog w0) f11_J 11 K 2 [.v (j 0), .bp 0 0, .v (j 2), .v (j 3), .v (j 4), .v (j 5), .v (j 6), .v (.bool a), .v (j 8), .v (j 9), .v (j 10), .v (j 11), .v (j 12), .v (j 13), .v (j 14), .v (j 15), .v (j 16), .v (j 17), .v (j 18), .v (j 19), .v (j 20), .v (j 21), .v (j 22), .v (j 23), .v (j 24), .v (j 25), .v (j 26), .v (j 27), .v (j 28), .v (j 29), .v (j 30), .v (j 31), .v (j 32), .v (j 33), .v (j 34), .v (j 35), .v (j 36), .v (j 37), .v (j 38), .v (j 39), .v (j 40), .v (j 41), .v (j 42), .v (j 43), .v (j 44), .v (j 45), .v (j 46), .v (j 47), .v (j 48), .v (j 49), .v (j 50), .v (j 51), .v (j 52), .v (j 53), .v (j 54), .v (j 55), .v (j 56), .v (j 57), .v (j 58), .v (j 59), .v (j 60), .v (j 61), .v (j 62), .v (j 63), .v (j 64), .v (j 65), .v (j 66), .v (j 67), .v (j 68), .v (j 69), .v (j 70), .v (j 71), .v (j 72), .v (j 73), .v (j 74), .v (j 75), .v (j 76), .v (j 77), .v (j 78)] [some [(.int .i64 b), (.slice c d e), (.slice g i k)]] h

def f11_5 (w0 : World) (K : Value → AH → Prop) (a : Bool) (b : Int) (c : Option Addr) (d : Nat) (e : Nat) (g : Option Addr) (i : Nat) (k : Nat) (h : AH) : Prop :=
  ∀ j : Nat → Value, LPk Proofs.Tryd.prog w0 (EvC Proofs.Tryd.prog w0) f11_J 11 K 5 [.v (j 0), .bp 0 0, .v (j 2), .v (j 3), .v (j 4), .v (j 5), .v (j 6), .v (j 7), .v (j 8), .v (j 9), .v (j 10), .v (j 11), .v (j 12), .v (j 13), .v (j 14), .v (j 15), .v (j 16), .v (j 17), .v (j 18), .v (j 19), .v (j 20), .v (j 21), .v (j 22), .v (j 23), .v (j 24), .v (j 25), .v (j 26), .v (j 27), .v (.bool a), .v (j 29), .v (j 30), .v (j 31), .v (j 32), .v (j 33), .v (j 34), .v (j 35), .v (j 36), .v (j 37), .v (j 38), .v (j 39), .v (j 40), .v (j 41), .v (j 42), .v (j 43), .v (j 44), .v (j 45), .v (j 46), .v (j 47), .v (j 48), .v (j 49), .v (j 50), .v (j 51), .v (j 52), .v (j 53), .v (j 54), .v (j 55), .v (j 56), .v (j 57), .v (j 58), .v (j 59), .v (j 60), .v (j 61), .v (j 62), .v (j 63), .v (j 64), .v (j 65), .v (j 66), .v (j 67), .v (j 68), .v (j 69), .v (j 70), .v (j 71), .v (j 72), .v (j 73), .v (j 74), .v (j 75), .v (j 76), .v (j 77), .v (j 78)] [some [(.int .i64 b), (.slice c d e), (.slice g i k)]] h

def f11_6 (w0 : World) (K : Value → AH → Prop) (a : Int) (b : Option Addr) (c : Nat) (d : Nat) (e : Option Addr) (g : Nat) (i : Nat) (h : AH) : Prop :=
  ∀ j : Nat → Value, LPk Proofs.Tryd.prog w0 (EvC Proofs.Tryd.prog w0) f11_J 11 K 6 [.v (j 0), .bp 0 0, .v (j 2), .v (j 3), .v (j 4), .v (j 5), .v (j 6), .v (j 7), .v (j 8), .v (j 9), .v (j 10), .v (j 11), .v (j 12), .v (j 13), .v (j 14), .v (j 15), .v (j 16), .v (j 17), .v (j 18), .v (j 19), .v (j 20), .v (j 21), .v (j 22), .v (j 23), .v (j 24), .v (j 25), .v (j 26), .v (j 27), .v (j 28), .v (j 29), .v (j 30), .v (j 31), .v (j 32), .v (j 33), .v (j 34), .v (j 35), .v (j 36), .v (j 37), .v (j 38), .v (j 39), .v (j 40), .v (j 41), .v (j 42), .v (j 43), .v (j 44), .v (j 45), .v (j 46), .v (j 47), .v (j 48), .v (j 49), .v (j 50), .v (j 51), .v (j 52), .v (j 53), .v (j 54), .v (j 55), .v (j 56), .v (j 57), .v (j 58), .v (j 59), .v (j 60), .v (j 61), .v (j 62), .v (j 63), .v (j 64), .v (j 65), .v (j 66), .v (j 67), .v (j 68), .v (j 69), .v (j 70), .v (j 71), .v (j 72), .v (j 73), .v (j 74), .v (j 75), .v (j 76), .v (j 77), .v (j 78)] [some [(.int .i64 a), (.slice b c d), (.slice e g i)]] h

def f11_7 (w0 : World) (K : Value → AH → Prop) (a : Option Addr) (b : Nat) (c : Nat) (d : Int) (e : Int) (g : Int) (i : Option Addr) (k : Nat) (m : Nat) (n : Option Addr) (o : Nat) (p : Nat) (h : AH) : Prop :=
  ∀ j : Nat → Value, LPk Proofs.Tryd.prog w0 (EvC Proofs.Tryd.prog w0) f11_J 11 K 7 [.v (j 0), .bp 0 0, .v (j 2), .v (j 3), .v (j 4), .v (j 5), .v (j 6), .v (j 7), .v (j 8), .v (j 9), .v (j 10), .v (j 11), .v (j 12), .v (j 13), .v (j 14), .v (j 15), .v (j 16), .v (j 17), .v (j 18), .v (j 19), .v (j 20), .v (j 21), .v (j 22), .v (j 23), .v (j 24), .v (j 25), .v (j 26), .v (j 27), .v (j 28), .v (j 29), .v (j 30), .v (j 31), .v (j 32), .v (j 33), .v (j 34), .v (j 35), .v (j 36), .v (j 37), .v (.slice a b c), .v (.int .i64 d), .v (.int .i64 e), .v (j 41), .v (j 42), .v (j 43), .v (j 44), .v (j 45), .v (j 46), .v (j 47), .v (j 48), .v (j 49), .v (j 50), .v (j 51), .v (j 52), .v (j 53), .v (j 54), .v (j 55), .v (j 56), .v (j 57), .v (j 58), .v (j 59), .v (j 60), .v (j 61), .v (j 62), .v (j 63), .v (j 64), .v (j 65), .v (j 66), .v (j 67), .v (j 68), .v (j 69), .v (j 70), .v (j 71), .v (j 72), .v (j 73), .v (j 74), .v (j 75), .v (j 76), .v (j 77), .v (j 78)] [some [(.int .i64 g), (.slice i k m), (.slice n o p)]] h

def f11_10 (w0 : World) (K : Value → AH → Prop) (a : Option Addr) (b : Nat) (c : Nat) (d : Int) (e : Int) (g : Bool) (i : Int) (k : Option Addr) (m : Nat) (n : Nat) (o : Option Addr) (p : Nat) (q : Nat) (h : AH) : Prop :=
  ∀ j : Nat → Value, LPk Proofs.Tryd.prog w0 (EvC Proofs.Tryd.prog w0) f11_J 11 K 10 [.v (j 0), .bp 0 0, .v (j 2), .v (j 3), .v (j 4), .v (j 5), .v (j 6), .v (j 7), .v (j 8), .v (j 9), .v (j 10), .v (j 11), .v (j 12), .v (j 13), .v (j 14), .v (j 15), .v (j 16), .v (j 17), .v (j 18), .v (j 19), .v (j 20), .v (j 21), .v (j 22), .v (j 23), .v (j 24), .v (j 25), .v (j 26), .v (j 27), .v (j 28), .v (j 29), .v (j 30), .v (j 31), .v (j 32), .v (j 33), .v (j 34), .v (j 35), .v (j 36), .v (j 37), .v (.slice a b c), .v (.int .i64 d), .v (.int .i64 e), .v (j 41), .v (j 42), .v (j 43), .v (j 44), .v (j 45), .v (j 46), .v (j 47), .v (j 48), .v (j 49), .v (j 50), .v (j 51), .v (j 52), .v (j 53), .v (j 54), .v (j 55), .v (j 56), .v (j 57), .v (j 58), .v (j 59), .v (j 60), .v (j 61), .v (j 62), .v (j 63), .v (.bool g), .v (j 65), .v (j 66), .v (j 67), .v (j 68), .v (j 69), .v (j 70), .v (j 71), .v (j 72), .v (j 73), .v (j 74), .v (j 75), .v (j 76), .v (j 77), .v (j 78)] [some [(.int .i64 i), (.slice k m n), (.slice o p q)]] h

def f11_13 (w0 : World) (K : Value → AH → Prop) (a : Option Addr) (b : Nat) (c : Nat) (d : Int) (e : Int) (g : Int) (i : Option Addr) (k : Nat) (m : Nat) (n : Option Addr) (o : Nat) (p : Nat) (h : AH) : Prop :=
  ∀ j : Nat → Value, LPk Proofs.Tryd.prog w0 (EvC Proofs.Tryd.prog w0) f11_J 11 K 13 [.v (j 0), .bp 0 0, .v (j 2), .v (j 3), .v (j 4), .v (j 5), .v (j 6), .v (j 7), .v (j 8), .v (j 9), .v (j 10), .v (j 11), .v (j 12), .v (j 13), .v (j 14), .v (j 15), .v (j 16), .v (j 17), .v (j 18), .v (j 19), .v (j 20), .v (j 21), .v (j 22), .v (j 23), .v (j 24), .v (j 25), .v (j 26), .v (j 27), .v (j 28), .v (j 29), .v (j 30), .v (j 31), .v (j 32), .v (j 33), .v (j 34), .v (j 35), .v (j 36), .v (j 37), .v (j 38), .v (j 39), .v (j 40), .v (j 41), .v (j 42), .v (j 43), .v (j 44), .v (j 45), .v (j 46), .v (j 47), .v (j 48), .v (j 49), .v (j 50), .v (j 51), .v (j 52), .v (j 53), .v (j 54), .v (j 55), .v (j 56), .v (j 57), .v (j 58), .v (j 59), .v (j 60), .v (j 61), .v (j 62), .v (j 63), .v (j 64), .v (j 65), .v (j 66), .v (.slice a b c), .v (.int .i64 d), .v (.int .i64 e), .v (j 70), .v (j 71), .v (j 72), .v (j 73), .v (j 74), .v (j 75), .v (j 76), .v (j 77), .v (j 78)] [some [(.int .i64 g), (.slice i k m), (.slice n o p)]] h

theorem f11_2_in {w0 : World} {K : Value → AH → Prop} (k : Bool) (i : Int) (a : Option Addr) (b : Nat) (c : Nat) (d : Option Addr) (e : Nat) (g : Nat) (h : AH)
  (hv : (brB k (K (bool false) h) (EvC Proofs.Tryd.prog w0 24 #[(slice a b c), (Value.func (Fn.func 25) #[] #[])] (fun p m => (∃ n : Bool, ((p = (bool n)) ∧ (brB (!n) (f11_5 w0 K true i a b c d e g m) (EvC Proofs.Tryd.prog w0 26 #[(slice d e g), (Value.func (Fn.func 27) #[] #[])] (fun q r => (∃ o : Bool, ((q = (bool o)) ∧ (f11_5 w0 K (!o) i a b c d e g r)))) m))))) h))) :
  f11_2 w0 K k i a b c d e g h := fun j => LP_intro (P := Proofs.Tryd.prog) (Eq.mp (by kernel_rfl) hv)

theorem f11_5_in {w0 : World} {K : Value → AH → Prop} (a : Bool) (b : Int) (c : Option Addr) (d : Nat) (e : Nat) (g : Option Addr) (i : Nat) (k : Nat) (h : AH)
  (hv : (brB a (K (bool false) h) (f11_6 w0 K b c d e g i k h))) :
  f11_5 w0 K a b c d e g i k h := fun j => LP_intro (P := Proofs.Tryd.prog) (Eq.mp (by kernel_rfl) hv)

theorem f11_6_in {w0 : World} {K : Value → AH → Prop} (d : Int) (b : Option Addr) (a : Nat) (c : Nat) (e : Option Addr) (g : Nat) (i : Nat) (h : AH)
  (hv : (f11_7 w0 K b a c ((a : Nat) : Int) (0 : Int) d b a c e g i h)) :
  f11_6 w0 K d b a c e g i h := fun j => LP_intro (P := Proofs.Tryd.prog) (Eq.mp (by kernel_rfl) hv)

theorem f11_7_in {w0 : World} {K : Value → AH → Prop} (g : Option Addr) (i : Nat) (p : Nat) (k : Int) (a : Int) (c : Int) (m : Option Addr) (n : Nat) (o : Nat) (d : Option Addr) (b : Nat) (e : Nat) (h : AH)
  (hv : (brB (decide ((a < k))) (∃ z : Addr, ((g = (some z)) ∧ (((0 : Int) ≤ a) ∧ ((a < ((i : Nat) : Int)) ∧ (∃ u : ByteArray, (∃ v : Option Addr, (∃ q : Nat, (∃ x : Nat, (∃ y : Int, (∃ r : Bool, (∃ s : Int, ((((Array.size #[(string u), (slice v q x), (int .i64 y), (bool r), (int .i64 s)]) = 5) ∧ (At w0 h (Addr.add z ((Int.toNat a) * 5)) [(string u), (slice v q x), (int .i64 y), (bool r), (int .i64 s)])) ∧ (EvC Proofs.Tryd.prog w0 28 #[(agg #[(string u), (slice v q x), (int .i64 y), (bool r), (int .i64 s)])] (fun B t => (∃ A : Bool, ((B = (bool A)) ∧ (brB (!A) (f11_10 w0 K g i p k a true c m n o d b e t) (brB (!r) (f11_10 w0 K g i p k a true c m n o d b e t) (brB (((q : Nat) : Int) == (0 : Int)) (f11_10 w0 K g i p k a true c m n o d b e t) (f11_10 w0 K g i p k a (decide ((s ≤ c))) c m n o d b e t))))))) h))))))))))))) (f11_13 w0 K d b e ((b : Nat) : Int) (0 : Int) c m n o d b e h))) :
  f11_7 w0 K g i p k a c m n o d b e h := fun j => LP_intro (P := Proofs.Tryd.prog) (Eq.mp (by kernel_rfl) hv)

theorem f11_10_in {w0 : World} {K : Value → AH → Prop} (a : Option Addr) (b : Nat) (c : Nat) (d : Int) (e : Int) (g : Bool) (i : Int) (k : Option Addr) (m : Nat) (n : Nat) (o : Option Addr) (p : Nat) (q : Nat) (h : AH)
  (hv : (brB g (K (bool false) h) (f11_7 w0 K a b c d (IntKind.wrap .i64 (e + (1 : Int))) i k m n o p q h))) :
  f11_10 w0 K a b c d e g i k m n o p q h := fun j => LP_intro (P := Proofs.Tryd.prog) (Eq.mp (by kernel_rfl) hv)

theorem f11_13_in {w0 : World} {K : Value → AH → Prop} (b : Option Addr) (c : Nat) (A : Nat) (d : Int) (a : Int) (e : Int) (B : Option Addr) (C : Nat) (D : Nat) (E : Option Addr) (F : Nat) (G : Nat) (h : AH)
  (hv : (brB (decide ((a < d))) (∃ L : Addr, ((b = (some L)) ∧ (((0 : Int) ≤ a) ∧ ((a < ((c : Nat) : Int)) ∧ (∃ g : ByteArray, (∃ i : Option Addr, (∃ k : Nat, (∃ m : Nat, (∃ n : Option Addr, (∃ o : Nat, (∃ p : Nat, (∃ q : Option Addr, (∃ r : Nat, (∃ s : Nat, (∃ t : Option Addr, (∃ u : Nat, (∃ v : Nat, (∃ x : Int, (∃ y : Int, (∃ z : Int, ((((Array.size #[(string g), (slice i k m), (slice n o p), (slice q r s), (slice t u v), (int .i64 x), (int .i64 y), (int .i64 z)]) = 8) ∧ (At w0 h (Addr.add L ((Int.toNat a) * 8)) [(string g), (slice i k m), (slice n o p), (slice q r s), (slice t u v), (int .i64 x), (int .i64 y), (int .i64 z)])) ∧ (EvC Proofs.Tryd.prog w0 29 #[(agg #[(string g), (slice i k m), (slice n o p), (slice q r s), (slice t u v), (int .i64 x), (int .i64 y), (int .i64 z)]), (int .i64 e)] (fun Q M => (∃ N : Bool, ((Q = (bool N)) ∧ (brB (!N) (K (bool false) M) (f11_13 w0 K b c A d (IntKind.wrap .i64 (a + (1 : Int))) e B C D E F G M))))) h)))))))))))))))))))))) (K (bool true) h))) :
  f11_13 w0 K b c A d a e B C D E F G h := fun j => LP_intro (P := Proofs.Tryd.prog) (Eq.mp (by kernel_rfl) hv)

theorem f11_go {w0 : World} {K : Value → AH → Prop} (a : Int) (d : Option Addr) (b : Nat) (e : Nat) (g : Option Addr) (c : Nat) (i : Nat) (h : AH)
  (hv : (brB (decide ((a < (0 : Int)))) (f11_2 w0 K true a d b e g c i h) (brB (decide (((1099511627776 : Int) < a))) (f11_2 w0 K true a d b e g c i h) (brB (decide (((64 : Int) < ((b : Nat) : Int)))) (f11_2 w0 K true a d b e g c i h) (f11_2 w0 K (decide (((16 : Int) < ((c : Nat) : Int)))) a d b e g c i h))))) :
  EvC Proofs.Tryd.prog w0 11 ([(.agg #[(.int .i64 a), (.slice d b e), (.slice g c i)])]).toArray K h := EvC_intro (P := Proofs.Tryd.prog) f11_J (Eq.mp (by kernel_rfl) hv)
/-! ### states: may they be? -/
@[reducible] def StM.agg2 (m : StM) : Value := .agg #[.int .i64 m.clock, .slice m.ra m.ret.length m.rc, .slice m.sa m.ses.length m.sc]
section
variable {w0 : World} {K : Value → AH → Prop} {h : AH} {B : List (Nat × AB)}
/-- schema.May. -/
theorem f11_spec {s : StM} (T : TabOk w0) (w : Own w0 h B) (hR : ∀ h', Own w0 h' B → StRd w0 h' s) (hk : ∀ b h', (b = true ↔ MaySt s) → Own w0 h' B → K (.bool b) h') :
    EvC Go.Proofs.Tryd.prog w0 11 #[s.agg2] K h := by
  have no : ∀ h1, ¬ MaySt s → Own w0 h1 B → K (.bool false) h1 := fun h1 hn w1 => hk false h1 ⟨fun z => by (cases z), fun p => absurd p hn⟩ w1
  have r0 := hR h w
  have lrl := r0.rl
  have lsl := r0.sl
  have s13 : ((∀ x ∈ s.ses, MaySes s.clock x) → MaySt s) → ∀ (n i : Nat), i + n = s.ses.length → ∀ h1, Own w0 h1 B → (∀ x ∈ s.ses.take i, MaySes s.clock x) →
      f11_13 w0 K s.sa s.ses.length s.sc ((s.ses.length : Nat) : Int) ((i : Nat) : Int) s.clock s.ra s.ret.length s.rc s.sa s.ses.length s.sc h1 := fun hq n => by
    induction n with
    | zero =>
      intro i hi h1 w1 hm
      rw [List.take_of_length_le (by omega)] at hm
      exact f11_13_in _ _ _ _ _ _ _ _ _ _ _ _ _ (brB_of (fun z => by have := of_decide_eq_true z; omega) fun _ => hk true h1 ⟨fun _ => hq hm, fun _ => rfl⟩ w1)
    | succ n ih =>
      intro i hi h1 w1 hm
      have g1 : s.ses[i]? = some s.ses[i] := List.getElem?_eq_getElem _
      generalize s.ses[i] = x at g1
      have hf := List.mem_of_getElem? g1
      obtain ⟨ad, had, hat⟩ := rowLoad (enc := SesM.cells) (k := 8) (fun _ => rfl) (by decide) (hR h1 w1).ses g1
      refine f11_13_in _ _ _ _ _ _ _ _ _ _ _ _ _ (brB_of (fun _ => ⟨ad, had, by omega, by omega, _, _, _, _, _, _, _, _, _, _, _, _, _, _, _, _, ⟨rfl, hat⟩, ?_⟩) fun z => by have := of_decide_eq_false z; omega)
      refine f29_spec (x := x) T w1 (fun h' w' => (hR h' w').sesk x hf) fun t h2 ht w2 => ⟨t, rfl, brB_of (fun z => no h2 (fun p => ?_) w2) fun z => ?_⟩
      · have := ht.2 (p.ses x hf); rw [this] at z; cases z
      · rw [wrapS (by omega)]; exact ih (i + 1) (by omega) h2 w2 (all_step g1 hm (ht.1 (by simpa using z)))
  have s7 : ((∀ m ∈ s.ret, MayRet s.clock m) → (∀ x ∈ s.ses, MaySes s.clock x) → MaySt s) → ∀ (n i : Nat), i + n = s.ret.length → ∀ h1, Own w0 h1 B → (∀ m ∈ s.ret.take i, MayRet s.clock m) →
      f11_7 w0 K s.ra s.ret.length s.rc ((s.ret.length : Nat) : Int) ((i : Nat) : Int) s.clock s.ra s.ret.length s.rc s.sa s.ses.length s.sc h1 := fun hq n => by
    induction n with
    | zero =>
      intro i hi h1 w1 hm
      rw [List.take_of_length_le (by omega)] at hm
      exact f11_7_in _ _ _ _ _ _ _ _ _ _ _ _ _ (brB_of (fun z => by have := of_decide_eq_true z; omega) fun _ => s13 (hq hm) s.ses.length 0 (by omega) h1 w1 fun _ z => by simp at z)
    | succ n ih =>
      intro i hi h1 w1 hm
      have g1 : s.ret[i]? = some s.ret[i] := List.getElem?_eq_getElem _
      generalize s.ret[i] = f at g1
      have hf := List.mem_of_getElem? g1
      obtain ⟨ad, had, hat⟩ := rowLoad (enc := MsgM.cells) (k := 5) (fun _ => rfl) (by decide) (hR h1 w1).ret.1 g1
      have s10 : ∀ h2 v, Own w0 h2 B → (v = true → ¬ MaySt s) → (v = false → MayRet s.clock f) →
          f11_10 w0 K s.ra s.ret.length s.rc ((s.ret.length : Nat) : Int) ((i : Nat) : Int) v s.clock s.ra s.ret.length s.rc s.sa s.ses.length s.sc h2 := fun h2 v w2 h1' h2' => by
        refine f11_10_in _ _ _ _ _ _ _ _ _ _ _ _ _ _ (brB_of (fun z => no h2 (h1' z) w2) fun z => ?_)
        rw [wrapS (by omega)]
        exact ih (i + 1) (by omega) h2 w2 (all_step g1 hm (h2' z))
      refine f11_7_in _ _ _ _ _ _ _ _ _ _ _ _ _ (brB_of (fun _ => ⟨ad, had, by omega, by omega, _, _, _, _, _, _, _, ⟨rfl, hat⟩, ?_⟩) fun z => by have := of_decide_eq_false z; omega)
      refine f28_spec (m := f) T w1 fun t h2 ht w2 => ⟨t, rfl, brB_of (fun z1 => s10 h2 _ w2 (fun _ p => ?_) fun z => by cases z) fun z1 => brB_of (fun z2 => s10 h2 _ w2 (fun _ p => ?_) fun z => by cases z) fun z2 => brB_of (fun z3 => s10 h2 _ w2 (fun _ p => ?_) fun z => by cases z) fun z3 =>
        s10 h2 _ w2 (fun z4 p => ?_) fun z4 => ⟨ht.1 (by simpa using z1), by simpa using z2, fun e => by rw [e] at z3; simp at z3, by simpa using z4⟩⟩
      · have := ht.2 (p.ret f hf).may; rw [this] at z1; cases z1
      · have := (p.ret f hf).ret; rw [this] at z2; cases z2
      · have := (p.ret f hf).pay; exact this (by simpa using z3)
      · have := (p.ret f hf).til; simp at z4; omega
  have s5 : ∀ h1 v, Own w0 h1 B → (v = true → ¬ MaySt s) → (v = false → (∀ m ∈ s.ret, MayRet s.clock m) → (∀ x ∈ s.ses, MaySes s.clock x) → MaySt s) → f11_5 w0 K v s.clock s.ra s.ret.length s.rc s.sa s.ses.length s.sc h1 := fun h1 v w1 h1' h2' => by
    refine f11_5_in _ _ _ _ _ _ _ _ _ (brB_of (fun z => no h1 (h1' z) w1) fun z => f11_6_in _ _ _ _ _ _ _ _ (s7 (h2' z) s.ret.length 0 (by omega) h1 w1 fun _ z => by simp at z))
  have s2 : ∀ h1 v, Own w0 h1 B → (v = true → ¬ MaySt s) → (v = false → 0 ≤ s.clock ∧ s.clock ≤ 1099511627776 ∧ s.ret.length ≤ 64 ∧ s.ses.length ≤ 16) → f11_2 w0 K v s.clock s.ra s.ret.length s.rc s.sa s.ses.length s.sc h1 := fun h1 v w1 h1' h2' => by
    refine f11_2_in _ _ _ _ _ _ _ _ _ (brB_of (fun z => no h1 (h1' z) w1) fun z => ?_)
    obtain ⟨q1, q2, q3, q4⟩ := h2' z
    refine f24_spec (hR h1 w1).ret.1 (by omega) fun b hb => ⟨b, rfl, brB_of (fun z => s5 h1 _ w1 (fun _ p => ?_) fun z => by cases z) fun z1 => ?_⟩
    · have := hb.2 p.retr; rw [this] at z; cases z
    · refine f26_spec (hR h1 w1).ses (by omega) fun b2 hb2 => ⟨b2, rfl, s5 h1 _ w1 (fun z p => ?_) fun z a1 a2 => ⟨q1, q2, q3, q4, a1, hb.1 (by simpa using z1), a2, hb2.1 (by simpa using z)⟩⟩
      have := hb2.2 p.sesr; rw [this] at z; cases z
  refine f11_go _ _ _ _ _ _ _ _ (brB_of (fun z1 => s2 h _ w (fun _ p => ?_) fun z => by cases z) fun z1 => brB_of (fun z2 => s2 h _ w (fun _ p => ?_) fun z => by cases z) fun z2 => brB_of (fun z3 => s2 h _ w (fun _ p => ?_) fun z => by cases z) fun z3 =>
    s2 h _ w (fun z4 p => ?_) fun z4 => ⟨by simpa using z1, by simpa using z2, by simp at z3; omega, by simp at z4; omega⟩)
  · have := p.clock0; simp at z1; omega
  · have := p.clock; simp at z2; omega
  · have := p.rl; simp at z3; omega
  · have := p.sl; simp at z4; omega
end
end Go.G.YtilifcggegabfaaDoor
