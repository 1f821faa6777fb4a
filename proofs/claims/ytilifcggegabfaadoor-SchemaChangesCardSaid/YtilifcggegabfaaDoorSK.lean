/- Messages on their way: may they be? -/
import Derived.Test.YtilifcggegabfaaDoorSJ
import Derived.Test.YtilifcggegabfaaDoorProg
set_option maxRecDepth 100000
namespace Go.G.YtilifcggegabfaaDoor
open Go.RowKit
open Value (string slice int bool agg)
def f49_J : Nat → List Nat × Nat := jOf [(3, [0, 2, 4, 5, 6, 7, 11, 12, 13, 14, 15, 16, 17, 18, 19, 20, 21, 22, 23, 24, 25, 26, 27, 28, 29, 30, 31, 32, 33, 34, 35, 36, 37, 38, 39, 40, 41, 42, 43, 44, 45, 46, 47, 48, 49, 50, 51, 52, 53, 54, 55, 56, 57, 58, 59, 60, 61, 62, 63, 64, 65, 66, 67, 68, 69, 70, 71, 72, 73, 74, 75, 76, 77, 78, 79, 80, 81, 82, 83, 84, 85, 86, 87, 88, 89], 1), (6, [0, 2, 6, 7, 11, 12, 13, 14, 16, 17, 18, 19, 20, 21, 22, 23, 24, 25, 26, 27, 28, 29, 30, 31, 32, 33, 34, 35, 36, 37, 38, 39, 40, 41, 42, 43, 44, 45, 46, 47, 48, 49, 50, 51, 52, 53, 54, 55, 56, 57, 58, 59, 60, 61, 62, 63, 64, 65, 66, 67, 68, 69, 70, 71, 72, 73, 74, 75, 76, 77, 78, 79, 80, 81, 82, 83, 84, 85, 86, 87, 88, 89], 2), (8, [0, 2, 4, 6, 7, 11, 12, 13, 14, 15, 16, 17, 18, 19, 20, 21, 22, 23, 24, 25, 26, 27, 28, 29, 30, 31, 32, 33, 34, 35, 36, 37, 38, 39, 40, 41, 42, 43, 45, 46, 47, 48, 49, 50, 51, 52, 53, 54, 55, 56, 57, 58, 59, 60, 61, 62, 63, 64, 65, 66, 67, 68, 69, 70, 71, 72, 73, 74, 75, 76, 77, 78, 79, 80, 81, 82, 83, 84, 85, 86, 87, 88, 89], 2), (10, [0, 2, 4, 6, 7, 11, 12, 13, 14, 15, 16, 17, 18, 19, 20, 21, 22, 23, 24, 25, 26, 27, 28, 29, 30, 31, 32, 33, 34, 35, 36, 37, 38, 39, 40, 41, 42, 43, 44, 45, 46, 47, 48, 49, 50, 51, 52, 53, 54, 55, 56, 57, 58, 59, 60, 61, 62, 63, 64, 65, 66, 67, 68, 69, 70, 72, 73, 74, 75, 76, 77, 78, 79, 80, 81, 82, 83, 84, 85, 86, 87, 88, 89], 2)]

def f49_3 (w0 : World) (K : Value → AH → Prop) (a : Option Nat) (b : Option Addr) (c : Nat) (d : Nat) (e : Int) (g : Int) (i : ByteArray) (k : Option Addr) (m : Nat) (n : Nat) (o : Option Addr) (p : Nat) (q : Nat) (r : Option Addr) (s : Nat) (t : Nat) (u : Option Addr) (x : Nat) (y : Nat) (z : Int) (A : Int) (B : Int) (h : AH) : Prop :=
  ∀ j : Nat → Value, LPk Proofs.Tryd.prog w0 (EvC Proofs.Tryd.prog w0) f49_J 49 K 3 [.v (j 0), .bp 0 0, .v (j 2), .v (.map a), .v (j 4), .v (j 5), .v (j 6), .v (j 7), .v (.slice b c d), .v (.int .i64 e), .v (.int .i64 g), .v (j 11), .v (j 12), .v (j 13), .v (j 14), .v (j 15), .v (j 16), .v (j 17), .v (j 18), .v (j 19), .v (j 20), .v (j 21), .v (j 22), .v (j 23), .v (j 24), .v (j 25), .v (j 26), .v (j 27), .v (j 28), .v (j 29), .v (j 30), .v (j 31), .v (j 32), .v (j 33), .v (j 34), .v (j 35), .v (j 36), .v (j 37), .v (j 38), .v (j 39), .v (j 40), .v (j 41), .v (j 42), .v (j 43), .v (j 44), .v (j 45), .v (j 46), .v (j 47), .v (j 48), .v (j 49), .v (j 50), .v (j 51), .v (j 52), .v (j 53), .v (j 54), .v (j 55), .v (j 56), .v (j 57), .v (j 58), .v (j 59), .v (j 60), .v (j 61), .v (j 62), .v (j 63), .v (j 64), .v (j 65), .v (j 66), .v (j 67), .v (j 68), .v (j 69), .v (j 70), .v (j 71), .v (j 72), .v (j 73), .v (j 74), .v (j 75), .v (j 76), .v (j 77), .v (j 78), .v (j 79), .v (j 80), .v (j 81), .v (j 82), .v (j 83), .v (j 84), .v (j 85), .v (j 86), .v (j 87), .v (j 88), .v (j 89)] [some [(.string i), (.slice k m n), (.slice o p q), (.slice r s t), (.slice u x y), (.int .i64 z), (.int .i64 A), (.int .i64 B)]] h

def f49_6 (w0 : World) (K : Value → AH → Prop) (a : Option Nat) (b : Int) (c : Option Addr) (d : Nat) (e : Nat) (g : Int) (i : Int) (k : Bool) (m : ByteArray) (n : Option Addr) (o : Nat) (p : Nat) (q : Option Addr) (r : Nat) (s : Nat) (t : Option Addr) (u : Nat) (x : Nat) (y : Option Addr) (z : Nat) (A : Nat) (B : Int) (C : Int) (D : Int) (E : Int) (F : Int) (G : Int) (L : ByteArray) (M : Option Addr) (N : Nat) (Q : Nat) (R : Int) (T : Bool) (U : Int) (h : AH) : Prop :=
  ∀ j : Nat → Value, LPk Proofs.Tryd.prog w0 (EvC Proofs.Tryd.prog w0) f49_J 49 K 6 [.v (j 0), .bp 0 0, .v (j 2), .v (.map a), .v (.int .i64 b), .bp 1 0, .v (j 6), .v (j 7), .v (.slice c d e), .v (.int .i64 g), .v (.int .i64 i), .v (j 11), .v (j 12), .v (j 13), .v (j 14), .v (.bool k), .v (j 16), .v (j 17), .v (j 18), .v (j 19), .v (j 20), .v (j 21), .v (j 22), .v (j 23), .v (j 24), .v (j 25), .v (j 26), .v (j 27), .v (j 28), .v (j 29), .v (j 30), .v (j 31), .v (j 32), .v (j 33), .v (j 34), .v (j 35), .v (j 36), .v (j 37), .v (j 38), .v (j 39), .v (j 40), .v (j 41), .v (j 42), .v (j 43), .v (j 44), .v (j 45), .v (j 46), .v (j 47), .v (j 48), .v (j 49), .v (j 50), .v (j 51), .v (j 52), .v (j 53), .v (j 54), .v (j 55), .v (j 56), .v (j 57), .v (j 58), .v (j 59), .v (j 60), .v (j 61), .v (j 62), .v (j 63), .v (j 64), .v (j 65), .v (j 66), .v (j 67), .v (j 68), .v (j 69), .v (j 70), .v (j 71), .v (j 72), .v (j 73), .v (j 74), .v (j 75), .v (j 76), .v (j 77), .v (j 78), .v (j 79), .v (j 80), .v (j 81), .v (j 82), .v (j 83), .v (j 84), .v (j 85), .v (j 86), .v (j 87), .v (j 88), .v (j 89)] [some [(.string m), (.slice n o p), (.slice q r s), (.slice t u x), (.slice y z A), (.int .i64 B), (.int .i64 C), (.int .i64 D)], some [(.int .i64 E), (.int .i64 F), (.int .i64 G), (.string L), (.slice M N Q), (.int .i64 R), (.bool T), (.int .i64 U)]] h

def f49_8 (w0 : World) (K : Value → AH → Prop) (a : Option Nat) (b : Option Addr) (c : Nat) (d : Nat) (e : Int) (g : Int) (i : Bool) (k : ByteArray) (m : Option Addr) (n : Nat) (o : Nat) (p : Option Addr) (q : Nat) (r : Nat) (s : Option Addr) (t : Nat) (u : Nat) (x : Option Addr) (y : Nat) (z : Nat) (A : Int) (B : Int) (C : Int) (D : Int) (E : Int) (F : Int) (G : ByteArray) (L : Option Addr) (M : Nat) (N : Nat) (Q : Int) (R : Bool) (T : Int) (h : AH) : Prop :=
  ∀ j : Nat → Value, LPk Proofs.Tryd.prog w0 (EvC Proofs.Tryd.prog w0) f49_J 49 K 8 [.v (j 0), .bp 0 0, .v (j 2), .v (.map a), .v (j 4), .bp 1 0, .v (j 6), .v (j 7), .v (.slice b c d), .v (.int .i64 e), .v (.int .i64 g), .v (j 11), .v (j 12), .v (j 13), .v (j 14), .v (j 15), .v (j 16), .v (j 17), .v (j 18), .v (j 19), .v (j 20), .v (j 21), .v (j 22), .v (j 23), .v (j 24), .v (j 25), .v (j 26), .v (j 27), .v (j 28), .v (j 29), .v (j 30), .v (j 31), .v (j 32), .v (j 33), .v (j 34), .v (j 35), .v (j 36), .v (j 37), .v (j 38), .v (j 39), .v (j 40), .v (j 41), .v (j 42), .v (j 43), .v (.bool i), .v (j 45), .v (j 46), .v (j 47), .v (j 48), .v (j 49), .v (j 50), .v (j 51), .v (j 52), .v (j 53), .v (j 54), .v (j 55), .v (j 56), .v (j 57), .v (j 58), .v (j 59), .v (j 60), .v (j 61), .v (j 62), .v (j 63), .v (j 64), .v (j 65), .v (j 66), .v (j 67), .v (j 68), .v (j 69), .v (j 70), .v (j 71), .v (j 72), .v (j 73), .v (j 74), .v (j 75), .v (j 76), .v (j 77), .v (j 78), .v (j 79), .v (j 80), .v (j 81), .v (j 82), .v (j 83), .v (j 84), .v (j 85), .v (j 86), .v (j 87), .v (j 88), .v (j 89)] [some [(.string k), (.slice m n o), (.slice p q r), (.slice s t u), (.slice x y z), (.int .i64 A), (.int .i64 B), (.int .i64 C)], some [(.int .i64 D), (.int .i64 E), (.int .i64 F), (.string G), (.slice L M N), (.int .i64 Q), (.bool R), (.int .i64 T)]] h

def f49_10 (w0 : World) (K : Value → AH → Prop) (a : Option Nat) (b : Option Addr) (c : Nat) (d : Nat) (e : Int) (g : Int) (i : Bool) (k : ByteArray) (m : Option Addr) (n : Nat) (o : Nat) (p : Option Addr) (q : Nat) (r : Nat) (s : Option Addr) (t : Nat) (u : Nat) (x : Option Addr) (y : Nat) (z : Nat) (A : Int) (B : Int) (C : Int) (D : Int) (E : Int) (F : Int) (G : ByteArray) (L : Option Addr) (M : Nat) (N : Nat) (Q : Int) (R : Bool) (T : Int) (h : AH) : Prop :=
  ∀ j : Nat → Value, LPk Proofs.Tryd.prog w0 (EvC Proofs.Tryd.prog w0) f49_J 49 K 10 [.v (j 0), .bp 0 0, .v (j 2), .v (.map a), .v (j 4), .bp 1 0, .v (j 6), .v (j 7), .v (.slice b c d), .v (.int .i64 e), .v (.int .i64 g), .v (j 11), .v (j 12), .v (j 13), .v (j 14), .v (j 15), .v (j 16), .v (j 17), .v (j 18), .v (j 19), .v (j 20), .v (j 21), .v (j 22), .v (j 23), .v (j 24), .v (j 25), .v (j 26), .v (j 27), .v (j 28), .v (j 29), .v (j 30), .v (j 31), .v (j 32), .v (j 33), .v (j 34), .v (j 35), .v (j 36), .v (j 37), .v (j 38), .v (j 39), .v (j 40), .v (j 41), .v (j 42), .v (j 43), .v (j 44), .v (j 45), .v (j 46), .v (j 47), .v (j 48), .v (j 49), .v (j 50), .v (j 51), .v (j 52), .v (j 53), .v (j 54), .v (j 55), .v (j 56), .v (j 57), .v (j 58), .v (j 59), .v (j 60), .v (j 61), .v (j 62), .v (j 63), .v (j 64), .v (j 65), .v (j 66), .v (j 67), .v (j 68), .v (j 69), .v (j 70), .v (.bool i), .v (j 72), .v (j 73), .v (j 74), .v (j 75), .v (j 76), .v (j 77), .v (j 78), .v (j 79), .v (j 80), .v (j 81), .v (j 82), .v (j 83), .v (j 84), .v (j 85), .v (j 86), .v (j 87), .v (j 88), .v (j 89)] [some [(.string k), (.slice m n o), (.slice p q r), (.slice s t u), (.slice x y z), (.int .i64 A), (.int .i64 B), (.int .i64 C)], some [(.int .i64 D), (.int .i64 E), (.int .i64 F), (.string G), (.slice L M N), (.int .i64 Q), (.bool R), (.int .i64 T)]] h

theorem f49_3_in {w0 : World} {K : Value → AH → Prop} (n : Option Nat) (o : Option Addr) (p : Nat) (t : Nat) (q : Int) (a : Int) (u : ByteArray) (v : Option Addr) (x : Nat) (y : Nat) (z : Option Addr) (A : Nat) (B : Nat) (C : Option Addr) (D : Nat) (E : Nat) (F : Option Addr) (L : Nat) (M : Nat) (N : Int) (Q : Int) (R : Int) (h : AH)
  (hv : (brB (decide ((a < q))) (∃ V : Addr, ((o = (some V)) ∧ (((0 : Int) ≤ a) ∧ ((a < ((p : Nat) : Int)) ∧ (∃ b : Int, (∃ r : Int, (∃ s : Int, (∃ e : ByteArray, (∃ g : Option Addr, (∃ i : Nat, (∃ k : Nat, (∃ c : Int, (∃ m : Bool, (∃ d : Int, ((((Array.size #[(int .i64 b), (int .i64 r), (int .i64 s), (string e), (slice g i k), (int .i64 c), (bool m), (int .i64 d)]) = 8) ∧ (At w0 h (Addr.add V ((Int.toNat a) * 8)) [(int .i64 b), (int .i64 r), (int .i64 s), (string e), (slice g i k), (int .i64 c), (bool m), (int .i64 d)])) ∧ (EvC Proofs.Tryd.prog w0 28 #[(agg #[(string e), (slice g i k), (int .i64 c), (bool m), (int .i64 d)])] (fun a1 T => (∃ Y : Bool, ((a1 = (bool Y)) ∧ (brB (!Y) (f49_6 w0 K n a o p t q a true u v x y z A B C D E F L M N Q R b r s e g i k c m d T) (brB (c == (0 : Int)) (f49_6 w0 K n a o p t q a true u v x y z A B C D E F L M N Q R b r s e g i k c m d T) (brB (d != (0 : Int)) (f49_6 w0 K n a o p t q a true u v x y z A B C D E F L M N Q R b r s e g i k c m d T) (EvC Proofs.Tryd.prog w0 48 #[(int .i64 b)] (fun a2 U => (∃ Z : Bool, ((a2 = (bool Z)) ∧ (brB (!Z) (f49_6 w0 K n a o p t q a true u v x y z A B C D E F L M N Q R b r s e g i k c m d U) (((plainKey Proofs.Tryd.prog 107 (int .i64 b)) = true) ∧ (mapAt Proofs.Tryd.prog w0 U n 107 (fun a3 => (∃ a0 : Bool, (((bool a0) = (Option.getD (getM (int .i64 b) a3) (bool false))) ∧ (f49_6 w0 K n a o p t q a a0 u v x y z A B C D E F L M N Q R b r s e g i k c m d U)))))))))) T))))))) h)))))))))))))))) (K (bool true) h))) :
  f49_3 w0 K n o p t q a u v x y z A B C D E F L M N Q R h := fun j => LP_intro (P := Proofs.Tryd.prog) (Eq.mp (by kernel_rfl) hv)

theorem f49_6_in {w0 : World} {K : Value → AH → Prop} (e : Option Nat) (g : Int) (i : Option Addr) (k : Nat) (m : Nat) (n : Int) (o : Int) (U : Bool) (p : ByteArray) (q : Option Addr) (r : Nat) (s : Nat) (t : Option Addr) (u : Nat) (v : Nat) (b : Option Addr) (c : Nat) (x : Nat) (y : Option Addr) (z : Nat) (A : Nat) (B : Int) (C : Int) (d : Int) (D : Int) (E : Int) (a : Int) (F : ByteArray) (L : Option Addr) (M : Nat) (N : Nat) (Q : Int) (R : Bool) (T : Int) (h : AH)
  (hv : (brB U (K (bool false) h) (brB (decide ((a < (0 : Int)))) (f49_8 w0 K e i k m n o true p q r s t u v b c x y z A B C d D E a F L M N Q R T h) (brB (decide ((d ≤ a))) (f49_8 w0 K e i k m n o true p q r s t u v b c x y z A B C d D E a F L M N Q R T h) (brB (decide (((0 : Int) < g))) (∃ V : Addr, ((b = (some V)) ∧ (((0 : Int) ≤ (IntKind.wrap .i64 (g - (1 : Int)))) ∧ (((IntKind.wrap .i64 (g - (1 : Int))) < ((c : Nat) : Int)) ∧ (∃ Y : Int, (((cellA w0 h (Addr.add (Addr.add V ((Int.toNat (IntKind.wrap .i64 (g - (1 : Int)))) * 8)) 2)) = (some (int .i64 Y))) ∧ (f49_8 w0 K e i k m n o (decide ((a ≤ Y))) p q r s t u v b c x y z A B C d D E a F L M N Q R T h))))))) (f49_8 w0 K e i k m n o false p q r s t u v b c x y z A B C d D E a F L M N Q R T h)))))) :
  f49_6 w0 K e g i k m n o U p q r s t u v b c x y z A B C d D E a F L M N Q R T h := fun j => LP_intro (P := Proofs.Tryd.prog) (Eq.mp (by kernel_rfl) hv)

theorem f49_8_in {w0 : World} {K : Value → AH → Prop} (c : Option Nat) (d : Option Addr) (e : Nat) (g : Nat) (i : Int) (k : Int) (R : Bool) (m : ByteArray) (n : Option Addr) (o : Nat) (p : Nat) (q : Option Addr) (r : Nat) (s : Nat) (t : Option Addr) (u : Nat) (v : Nat) (x : Option Addr) (y : Nat) (z : Nat) (A : Int) (B : Int) (C : Int) (D : Int) (a : Int) (E : Int) (F : ByteArray) (G : Option Addr) (L : Nat) (M : Nat) (b : Int) (N : Bool) (Q : Int) (h : AH)
  (hv : (brB R (K (bool false) h) (brB (a != (1 : Int)) (brB (a != (2 : Int)) (f49_10 w0 K c d e g i k true m n o p q r s t u v x y z A B C D a E F G L M b N Q h) (f49_10 w0 K c d e g i k (b != (2 : Int)) m n o p q r s t u v x y z A B C D a E F G L M b N Q h)) (f49_10 w0 K c d e g i k false m n o p q r s t u v x y z A B C D a E F G L M b N Q h)))) :
  f49_8 w0 K c d e g i k R m n o p q r s t u v x y z A B C D a E F G L M b N Q h := fun j => LP_intro (P := Proofs.Tryd.prog) (Eq.mp (by kernel_rfl) hv)

theorem f49_10_in {w0 : World} {K : Value → AH → Prop} (a : Option Nat) (d : Option Addr) (e : Nat) (g : Nat) (i : Int) (k : Int) (m : Bool) (n : ByteArray) (o : Option Addr) (p : Nat) (q : Nat) (r : Option Addr) (s : Nat) (t : Nat) (u : Option Addr) (v : Nat) (x : Nat) (y : Option Addr) (z : Nat) (A : Nat) (B : Int) (C : Int) (D : Int) (b : Int) (E : Int) (F : Int) (L : ByteArray) (M : Option Addr) (N : Nat) (Q : Nat) (R : Int) (T : Bool) (U : Int) (h : AH)
  (hv : (brB m (K (bool false) h) (((plainKey Proofs.Tryd.prog 107 (int .i64 b)) = true) ∧ (∃ c : Nat, ((a = (some c)) ∧ (mapAt Proofs.Tryd.prog w0 h (some c) 107 (fun V => (f49_3 w0 K a d e g i (IntKind.wrap .i64 (k + (1 : Int))) n o p q r s t u v x y z A B C D (AH.putm h c (putM (int .i64 b) (bool true) V)))))))))) :
  f49_10 w0 K a d e g i k m n o p q r s t u v x y z A B C D b E F L M N Q R T U h := fun j => LP_intro (P := Proofs.Tryd.prog) (Eq.mp (by kernel_rfl) hv)

theorem f49_go {w0 : World} {K : Value → AH → Prop} (d : ByteArray) (e : Option Addr) (g : Nat) (i : Nat) (k : Option Addr) (m : Nat) (n : Nat) (b : Option Addr) (a : Nat) (c : Nat) (o : Option Addr) (p : Nat) (q : Nat) (r : Int) (s : Int) (t : Int) (h : AH)
  (hv : (newB w0 h (AB.map []) (fun u v => (f49_3 w0 K (some u) b a c ((a : Nat) : Int) (0 : Int) d e g i k m n b a c o p q r s t v)))) :
  EvC Proofs.Tryd.prog w0 49 ([(.agg #[(.string d), (.slice e g i), (.slice k m n), (.slice b a c), (.slice o p q), (.int .i64 r), (.int .i64 s), (.int .i64 t)])]).toArray K h := EvC_intro (P := Proofs.Tryd.prog) f49_J (Eq.mp (by kernel_rfl) hv)
/-! ### a set of numbers, as a map -/
theorem getM_putM {a b : Int} {v : Value} : ∀ {es : List (Value × Value)}, getM (.int .i64 a) (putM (.int .i64 b) v es) = if a = b then some v else getM (.int .i64 a) es
  | [] => by
    by_cases q : a = b
    · simp [putM, getM, eqK, q]
    · have q2 : (a == b) = false := by simpa using q
      simp [putM, getM, eqK, q, q2]
  | e :: es => by
    have ih := getM_putM (a := a) (b := b) (v := v) (es := es)
    obtain ⟨k, x⟩ := e
    by_cases q : eqK (.int .i64 b) k = true
    · have hk : ∃ t, k = .int t b := by
        cases k <;> simp [eqK] at q
        subst q; exact ⟨_, rfl⟩
      obtain ⟨t, rfl⟩ := hk
      by_cases r : a = b
      · simp [putM, getM, eqK, r]
      · have r2 : (a == b) = false := by simpa using r
        simp [putM, getM, eqK, r, r2]
    · have q' : eqK (.int .i64 b) k = false := by simpa using q
      by_cases s : eqK (.int .i64 a) k = true
      · have hk : ∃ t, k = .int t a := by
          cases k <;> simp [eqK] at s
          subst s; exact ⟨_, rfl⟩
        obtain ⟨t, rfl⟩ := hk
        have r : ¬ a = b := fun r => by subst r; simp [eqK] at q'
        have r' : (b == a) = false := by simp; exact fun z => r z.symm
        simp [putM, getM, eqK, r', r]
      · have s' : eqK (.int .i64 a) k = false := by simpa using s
        simp only [putM, q', getM, s', ih]
theorem keys_putM {P : Program} {t : TypeId} {k v : Value} (hk : plainKey P t k = true) : ∀ {es : List (Value × Value)}, keysOk P t es → keysOk P t (putM k v es)
  | [], _ => fun e he => by
    simp [putM] at he
    subst he; exact hk
  | d :: es, h => fun e he => by
    have ih := keys_putM (v := v) hk (es := es) fun e he => h e (List.mem_cons_of_mem _ he)
    by_cases q : eqK k d.1 = true
    · simp only [putM, q] at he
      rcases List.mem_cons.1 he with rfl | he
      · exact hk
      · exact h e (List.mem_cons_of_mem _ he)
    · have q' : eqK k d.1 = false := by simpa using q
      simp only [putM, q'] at he
      rcases List.mem_cons.1 he with rfl | he
      · exact h _ (List.mem_cons_self ..)
      · exact ih e he
/-! ### messages on their way -/
def MayFls (sent : Int) (l : List FlM) : Prop := (∀ f ∈ l, MayFl sent f) ∧ Rise (fun a b : FlM => a.order < b.order) l ∧ Diff l
theorem diff_step {l : List FlM} {i : Nat} {f : FlM} (hf : l[i]? = some f) (h : Diff (l.take i)) (hn : ∀ g ∈ l.take i, g.id ≠ f.id) : Diff (l.take (i + 1)) := fun a b x y hb hx hy => by
  have ha : a < i + 1 := by have := (List.getElem?_eq_some_iff.1 hx).1; rw [List.length_take] at this; omega
  rw [List.getElem?_take] at hx hy
  rw [if_pos (by omega)] at hx hy
  by_cases e : a = i
  · subst e
    rw [hf] at hx; injection hx with hx; subst hx
    exact hn _ (List.mem_of_getElem? (i := b) (by rw [List.getElem?_take, if_pos hb]; exact hy))
  · exact h a b x y hb (by rw [List.getElem?_take, if_pos (by omega)]; exact hx) (by rw [List.getElem?_take, if_pos (by omega)]; exact hy)
theorem mem_take {α : Type} {l : List α} {i : Nat} {x : α} (h : x ∈ l.take i) : ∃ j, j < i ∧ l[j]? = some x := by
  obtain ⟨j, hj⟩ := List.mem_iff_getElem?.1 h
  rw [List.getElem?_take] at hj
  by_cases q : j < i
  · rw [if_pos q] at hj; exact ⟨j, q, hj⟩
  · rw [if_neg q] at hj; cases hj
theorem all_step {α : Type} {P : α → Prop} {l : List α} {i : Nat} {x : α} (hx : l[i]? = some x) (h : ∀ y ∈ l.take i, P y) (hp : P x) : ∀ y ∈ l.take (i + 1), P y := fun y hy => by
  obtain ⟨j, hj, hy2⟩ := mem_take hy
  by_cases e : j = i
  · subst e
    have : x = y := by rw [hx] at hy2; injection hy2
    subst this; exact hp
  · exact h y (List.mem_of_getElem? (i := j) (by rw [List.getElem?_take, if_pos (by omega)]; exact hy2))
section
variable {w0 : World} {K : Value → AH → Prop} {h : AH} {B : List (Nat × AB)}
theorem f49_spec {x : SesM} (T : TabOk w0) (w : Own w0 h B) (hR : ∀ h', Own w0 h' B → Rd w0 h' x.fa (x.fl.flatMap FlM.cells)) (hl : x.fl.length ≤ 1000000) (hk : ∀ b h', (b = true ↔ MayFls x.sent x.fl) → Own w0 h' B → K (.bool b) h') :
    EvC Go.Proofs.Tryd.prog w0 49 #[x.agg] K h := by
  refine f49_go _ _ _ _ _ _ _ _ _ _ _ _ _ _ _ _ _ fun b hb0 hbn => ?_
  have w1 := w.new hb0 hbn (o := .map [])
  generalize h.put b (.map []) = h1 at w1
  have no : ∀ h2 es, ¬ MayFls x.sent x.fl → Own w0 h2 ((b, .map es) :: B) → K (.bool false) h2 := fun h2 es hn w2 => hk false h2 ⟨fun z => by (cases z), fun p => absurd p hn⟩ w2.tail
  have loop : ∀ (n i : Nat), i + n = x.fl.length → ∀ h2 es, Own w0 h2 ((b, .map es) :: B) → keysOk Go.Proofs.Tryd.prog 107 es → (∀ k, getM (.int .i64 k) es = if ∃ g ∈ x.fl.take i, g.id = k then some (.bool true) else none) → (∀ g ∈ x.fl.take i, MayFl x.sent g) →
      (∀ j u v, j + 1 < i → x.fl[j]? = some u → x.fl[j + 1]? = some v → u.order < v.order) → Diff (x.fl.take i) →
      f49_3 w0 K (some b) x.fa x.fl.length x.fc ((x.fl.length : Nat) : Int) ((i : Nat) : Int) x.client x.sa x.subs.length x.sc x.qa x.queue.length x.qc x.fa x.fl.length x.fc x.ia x.ids.length x.ic x.next x.head x.sent h2 := fun n => by
    induction n with
    | zero =>
      intro i hi h2 es w2 ko hg hm hr hd
      rw [List.take_of_length_le (by omega)] at hm hd
      exact f49_3_in _ _ _ _ _ _ _ _ _ _ _ _ _ _ _ _ _ _ _ _ _ _ _ (brB_of (fun z => by have := of_decide_eq_true z; omega) fun _ => hk true h2 ⟨fun _ => ⟨hm, rise_all (by omega) hr, hd⟩, fun _ => rfl⟩ w2.tail)
    | succ n ih =>
      intro i hi h2 es w2 ko hg hm hr hd
      have g1 : x.fl[i]? = some x.fl[i] := List.getElem?_eq_getElem _
      generalize x.fl[i] = f at g1
      have hf := List.mem_of_getElem? g1
      obtain ⟨ad, had, hat⟩ := rowLoad (enc := FlM.cells) (k := 8) (fun _ => rfl) (by decide) (hR h2 w2.tail) g1
      have s10 : ∀ h3 v, Own w0 h3 ((b, .map es) :: B) → (v = true → ¬ MayFls x.sent x.fl) → (v = false → MayFl x.sent f ∧ (∀ g ∈ x.fl.take i, g.id ≠ f.id) ∧ ∀ g, 0 < i → x.fl[i - 1]? = some g → g.order < f.order) →
          f49_10 w0 K (some b) x.fa x.fl.length x.fc ((x.fl.length : Nat) : Int) ((i : Nat) : Int) v x.client x.sa x.subs.length x.sc x.qa x.queue.length x.qc x.fa x.fl.length x.fc x.ia x.ids.length x.ic x.next x.head x.sent f.id f.step f.order f.msg.topic f.msg.pa f.msg.pay.length f.msg.pc f.msg.qos f.msg.ret f.msg.til h3 := fun h3 v w3 hv1 hv2 => by
        refine f49_10_in _ _ _ _ _ _ _ _ _ _ _ _ _ _ _ _ _ _ _ _ _ _ _ _ _ _ _ _ _ _ _ _ _ _ (brB_of (fun z => no h3 es (hv1 z) w3) fun z => ?_)
        obtain ⟨q1, q2, q3⟩ := hv2 z
        have pk : plainKey Go.Proofs.Tryd.prog 107 (.int .i64 f.id) = true := by kernel_rfl
        refine ⟨pk, b, rfl, mapAt_own w3.ge w3.hd (by kernel_rfl) ko ?_⟩
        rw [wrapS (by omega)]
        refine ih (i + 1) (by omega) _ _ w3.putm (keys_putM pk ko) (fun k => ?_) (all_step g1 hm q1) (fun j u v hj hu hv => ?_) (diff_step g1 hd q2)
        · rw [getM_putM, hg k]
          by_cases e : k = f.id
          · rw [if_pos e, if_pos ⟨f, by rw [List.take_succ_eq_append_getElem (by omega)]; exact List.mem_append_right _ (by
              rw [List.getElem?_eq_getElem (by omega)] at g1
              injection g1 with g1
              rw [g1]; exact List.mem_singleton_self _), e.symm⟩]
          · rw [if_neg e]
            by_cases r : ∃ g ∈ x.fl.take i, g.id = k
            · obtain ⟨g, hg1, hg2⟩ := r
              rw [if_pos ⟨g, hg1, hg2⟩, if_pos ⟨g, (List.take_subset_take_left _ (Nat.le_succ i)) hg1, hg2⟩]
            · rw [if_neg r, if_neg fun ⟨g, hg1, hg2⟩ => r ⟨g, by
                obtain ⟨j, hj, hjg⟩ := mem_take hg1
                by_cases e2 : j = i
                · subst e2; rw [g1] at hjg; injection hjg with hjg; subst hjg; exact absurd hg2.symm e
                · exact List.mem_of_getElem? (i := j) (by rw [List.getElem?_take, if_pos (by omega)]; exact hjg), hg2⟩]
        · by_cases e : j + 1 = i
          · subst e
            rw [g1] at hv; injection hv with hv; subst hv
            exact q3 u (by omega) (by simpa using hu)
          · exact hr j u v (by omega) hu hv
      have s8 : ∀ h3 v, Own w0 h3 ((b, .map es) :: B) → (v = true → ¬ MayFls x.sent x.fl) → (v = false → ((f.step = 1 ∨ f.step = 2 ∧ f.msg.qos = 2) → MayFl x.sent f) ∧ (∀ g ∈ x.fl.take i, g.id ≠ f.id) ∧ ∀ g, 0 < i → x.fl[i - 1]? = some g → g.order < f.order) →
          f49_8 w0 K (some b) x.fa x.fl.length x.fc ((x.fl.length : Nat) : Int) ((i : Nat) : Int) v x.client x.sa x.subs.length x.sc x.qa x.queue.length x.qc x.fa x.fl.length x.fc x.ia x.ids.length x.ic x.next x.head x.sent f.id f.step f.order f.msg.topic f.msg.pa f.msg.pay.length f.msg.pc f.msg.qos f.msg.ret f.msg.til h3 := fun h3 v w3 hv1 hv2 => by
        refine f49_8_in _ _ _ _ _ _ _ _ _ _ _ _ _ _ _ _ _ _ _ _ _ _ _ _ _ _ _ _ _ _ _ _ _ _ (brB_of (fun z => no h3 es (hv1 z) w3) fun z => ?_)
        obtain ⟨q1, q2, q3⟩ := hv2 z
        refine brB_of (fun z1 => brB_of (fun z2 => s10 h3 _ w3 (fun _ p => ?_) fun z => by cases z) fun z2 => s10 h3 _ w3 (fun z3 p => ?_) fun z3 => ⟨q1 (.inr ⟨by simpa using z2, by simpa using z3⟩), q2, q3⟩) fun z1 => s10 h3 _ w3 (fun z => by cases z) fun _ => ⟨q1 (.inl (by simpa using z1)), q2, q3⟩
        · have := (p.1 f hf).step
          simp at z1 z2; omega
        · have := (p.1 f hf).step
          simp at z1 z2 z3; omega
      have s6 : ∀ h3 v, Own w0 h3 ((b, .map es) :: B) → (v = true → ¬ MayFls x.sent x.fl) → (v = false → (0 ≤ f.order → f.order < x.sent → (f.step = 1 ∨ f.step = 2 ∧ f.msg.qos = 2) → MayFl x.sent f) ∧ (∀ g ∈ x.fl.take i, g.id ≠ f.id)) →
          f49_6 w0 K (some b) ((i : Nat) : Int) x.fa x.fl.length x.fc ((x.fl.length : Nat) : Int) ((i : Nat) : Int) v x.client x.sa x.subs.length x.sc x.qa x.queue.length x.qc x.fa x.fl.length x.fc x.ia x.ids.length x.ic x.next x.head x.sent f.id f.step f.order f.msg.topic f.msg.pa f.msg.pay.length f.msg.pc f.msg.qos f.msg.ret f.msg.til h3 := fun h3 v w3 hv1 hv2 => by
        refine f49_6_in _ _ _ _ _ _ _ _ _ _ _ _ _ _ _ _ _ _ _ _ _ _ _ _ _ _ _ _ _ _ _ _ _ _ _ (brB_of (fun z => no h3 es (hv1 z) w3) fun z => ?_)
        obtain ⟨q1, q2⟩ := hv2 z
        refine brB_of (fun z1 => s8 h3 _ w3 (fun _ p => ?_) fun z => by cases z) fun z1 => brB_of (fun z2 => s8 h3 _ w3 (fun _ p => ?_) fun z => by cases z) fun z2 => brB_of (fun z3 => ?_) fun z3 => s8 h3 _ w3 (fun z => by cases z) fun _ => ⟨q1 (by simpa using z1) (by simpa using z2), q2, fun g h0 => by simp at z3; omega⟩
        · have := (p.1 f hf).order0; simp at z1; omega
        · have := (p.1 f hf).order; simp at z2; omega
        · have h0 : 0 < i := by simp at z3; omega
          obtain ⟨k, rfl⟩ : ∃ k, i = k + 1 := ⟨i - 1, by omega⟩
          have g0 : x.fl[k]? = some (x.fl[k]'(by omega)) := List.getElem?_eq_getElem _
          generalize x.fl[k]'(by omega) = g at g0
          obtain ⟨bd, hbd, hbt⟩ := rowLoad (enc := FlM.cells) (k := 8) (fun _ => rfl) (by decide) (hR h3 w3.tail) g0
          have e1 : IntKind.i64.wrap (((k + 1 : Nat) : Int) - 1) = ((k : Nat) : Int) := by rw [wrap64 (by omega) (by omega)]; omega
          rw [e1]
          refine ⟨bd, hbd, by omega, by omega, g.order, hbt 2 _ rfl, s8 h3 _ w3 (fun z4 p => ?_) fun z4 => ⟨q1 (by simpa using z1) (by simpa using z2), q2, fun g' _ hg' => ?_⟩⟩
          · have := p.2.1 k _ _ g0 g1; simp at z4; omega
          · have e2 : x.fl[k + 1 - 1]? = some g := g0
            rw [e2] at hg'; injection hg' with hg'; subst hg'
            simp at z4; omega
      refine f49_3_in _ _ _ _ _ _ _ _ _ _ _ _ _ _ _ _ _ _ _ _ _ _ _ (brB_of (fun _ => ⟨ad, had, by omega, by omega, _, _, _, _, _, _, _, _, _, _, ⟨rfl, hat⟩, ?_⟩) fun z => by have := of_decide_eq_false z; omega)
      refine f28_spec (m := f.msg) T w2 fun t h3 ht w3 => ⟨t, rfl, ?_⟩
      refine brB_of (fun z1 => s6 h3 _ w3 (fun _ p => ?_) fun z => by cases z) fun z1 => brB_of (fun z2 => s6 h3 _ w3 (fun _ p => ?_) fun z => by cases z) fun z2 => brB_of (fun z3 => s6 h3 _ w3 (fun _ p => ?_) fun z => by cases z) fun z3 => ?_
      · have := ht.2 (p.1 f hf).may; rw [this] at z1; cases z1
      · have := (p.1 f hf).qos; simp at z2; omega
      · have := (p.1 f hf).til; simp at z3; omega
      refine f48_spec fun t2 ht2 => ⟨t2, rfl, ?_⟩
      refine brB_of (fun z4 => s6 h3 _ w3 (fun _ p => ?_) fun z => by cases z) fun z4 => ?_
      · have := ht2.2 ⟨(p.1 f hf).id1, (p.1 f hf).id2⟩; rw [this] at z4; cases z4
      have pk : plainKey Go.Proofs.Tryd.prog 107 (.int .i64 f.id) = true := by kernel_rfl
      refine ⟨pk, mapAt_own w3.ge w3.hd (by kernel_rfl) ko ?_⟩
      rw [hg f.id]
      have m1 := ht.1 (by simpa using z1)
      have m2 := ht2.1 (by simpa using z4)
      by_cases e : ∃ g ∈ x.fl.take i, g.id = f.id
      · rw [if_pos e]
        refine ⟨true, rfl, s6 h3 _ w3 (fun _ p => ?_) fun z => by cases z⟩
        obtain ⟨g, hg1, hg2⟩ := e
        obtain ⟨j, hj, hjg⟩ := mem_take hg1
        exact p.2.2 i j f g hj g1 hjg hg2
      · rw [if_neg e]
        refine ⟨false, rfl, s6 h3 _ w3 (fun z => by cases z) fun _ => ⟨fun o1 o2 st => ⟨m1, by simpa using z2, by simpa using z3, m2.1, m2.2, o1, o2, st⟩, fun g hg1 hg2 => e ⟨g, hg1, hg2⟩⟩⟩
  exact loop x.fl.length 0 (by omega) h1 [] w1 (fun e he => by cases he) (fun k => by simp [getM]) (fun g hg => by simp at hg) (fun j u v hj => by omega) fun i j a c hj ha => by simp at ha
end
end Go.G.YtilifcggegabfaaDoor
