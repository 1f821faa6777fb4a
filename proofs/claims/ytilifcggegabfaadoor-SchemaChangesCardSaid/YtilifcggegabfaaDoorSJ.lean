/- Do texts rise? May a message be? -/
import Derived.Test.YtilifcggegabfaaDoorSI
import Derived.Test.YtilifcggegabfaaDoorTI
import Derived.Test.YtilifcggegabfaaDoorProg
set_option maxRecDepth 100000
namespace Go.G.YtilifcggegabfaaDoor
open Go.RowKit
open Value (string slice int bool agg)
def f25_J : Nat → List Nat × Nat := jOf []



theorem f25_go {w0 : World} {K : Value → AH → Prop} (a : ByteArray) (b : Option Addr) (c : Nat) (d : Nat) (e : Int) (g : Bool) (i : Int) (h : AH)
  (hv : (K (string a) h)) :
  EvC Proofs.Tryd.prog w0 25 ([(.agg #[(.string a), (.slice b c d), (.int .i64 e), (.bool g), (.int .i64 i)])]).toArray K h := EvC_intro (P := Proofs.Tryd.prog) f25_J (Eq.mp (by kernel_rfl) hv)
def f27_J : Nat → List Nat × Nat := jOf []



theorem f27_go {w0 : World} {K : Value → AH → Prop} (a : ByteArray) (b : Option Addr) (c : Nat) (d : Nat) (e : Option Addr) (g : Nat) (i : Nat) (k : Option Addr) (m : Nat) (n : Nat) (o : Option Addr) (p : Nat) (q : Nat) (r : Int) (s : Int) (t : Int) (h : AH)
  (hv : (K (string a) h)) :
  EvC Proofs.Tryd.prog w0 27 ([(.agg #[(.string a), (.slice b c d), (.slice e g i), (.slice k m n), (.slice o p q), (.int .i64 r), (.int .i64 s), (.int .i64 t)])]).toArray K h := EvC_intro (P := Proofs.Tryd.prog) f27_J (Eq.mp (by kernel_rfl) hv)
def f46_J : Nat → List Nat × Nat := jOf []



theorem f46_go {w0 : World} {K : Value → AH → Prop} (a : ByteArray) (b : Int) (h : AH)
  (hv : (K (string a) h)) :
  EvC Proofs.Tryd.prog w0 46 ([(.agg #[(.string a), (.int .i64 b)])]).toArray K h := EvC_intro (P := Proofs.Tryd.prog) f46_J (Eq.mp (by kernel_rfl) hv)
def f24_J : Nat → List Nat × Nat := jOf [(2, [2, 3, 4, 6, 7, 8, 9, 10, 11, 12, 13, 14, 15, 16, 17, 18, 19, 20, 21, 22, 23, 24, 25], 0)]

def f24_2 (w0 : World) (K : Value → AH → Prop) (a : Option Addr) (b : Nat) (c : Nat) (d : Int) (h : AH) : Prop :=
  ∀ j : Nat → Value, LPk Proofs.Tryd.prog w0 (EvC Proofs.Tryd.prog w0) f24_J 24 K 2 [.v (.slice a b c), .v (.func (Fn.func 25) #[] #[]), .v (j 2), .v (j 3), .v (j 4), .v (.int .i64 d), .v (j 6), .v (j 7), .v (j 8), .v (j 9), .v (j 10), .v (j 11), .v (j 12), .v (j 13), .v (j 14), .v (j 15), .v (j 16), .v (j 17), .v (j 18), .v (j 19), .v (j 20), .v (j 21), .v (j 22), .v (j 23), .v (j 24), .v (j 25)] [] h

theorem f24_2_in {w0 : World} {K : Value → AH → Prop} (c : Option Addr) (b : Nat) (d : Nat) (a : Int) (h : AH)
  (hv : (brB (decide ((a < ((b : Nat) : Int)))) (∃ q : Addr, ((c = (some q)) ∧ (((0 : Int) ≤ (IntKind.wrap .i64 (a - (1 : Int)))) ∧ (((IntKind.wrap .i64 (a - (1 : Int))) < ((b : Nat) : Int)) ∧ (∃ e : Addr, ((c = (some e)) ∧ (((0 : Int) ≤ a) ∧ ((a < ((b : Nat) : Int)) ∧ ((∃ g : ByteArray, (∃ i : Option Addr, (∃ k : Nat, (∃ m : Nat, (∃ n : Int, (∃ o : Bool, (∃ p : Int, ((((Array.size #[(string g), (slice i k m), (int .i64 n), (bool o), (int .i64 p)]) = 5) ∧ (At w0 h (Addr.add q ((Int.toNat (IntKind.wrap .i64 (a - (1 : Int)))) * 5)) [(string g), (slice i k m), (int .i64 n), (bool o), (int .i64 p)])) ∧ ((EvC Proofs.Tryd.prog w0 25 #[(agg #[(string g), (slice i k m), (int .i64 n), (bool o), (int .i64 p)])] (fun b3 a3 => (∃ a4 : ByteArray, ((b3 = (string a4)) ∧ (∃ r : ByteArray, (∃ s : Option Addr, (∃ t : Nat, (∃ u : Nat, (∃ v : Int, (∃ x : Bool, (∃ y : Int, ((((Array.size #[(string r), (slice s t u), (int .i64 v), (bool x), (int .i64 y)]) = 5) ∧ (At w0 a3 (Addr.add e ((Int.toNat a) * 5)) [(string r), (slice s t u), (int .i64 v), (bool x), (int .i64 y)])) ∧ (EvC Proofs.Tryd.prog w0 25 #[(agg #[(string r), (slice s t u), (int .i64 v), (bool x), (int .i64 y)])] (fun b4 a5 => (∃ a6 : ByteArray, ((b4 = (string a6)) ∧ (brB (!(Op.bytesLess (ByteArray.toList a4) (ByteArray.toList a6))) (K (bool false) a5) (f24_2 w0 K c b d (IntKind.wrap .i64 (a + (1 : Int))) a5))))) a3)))))))))))) h) ∧ (∃ z : ByteArray, (∃ A : Option Addr, (∃ B : Nat, (∃ C : Nat, (∃ D : Int, (∃ E : Bool, (∃ F : Int, ((((Array.size #[(string z), (slice A B C), (int .i64 D), (bool E), (int .i64 F)]) = 5) ∧ (At w0 h (Addr.add e ((Int.toNat a) * 5)) [(string z), (slice A B C), (int .i64 D), (bool E), (int .i64 F)])) ∧ (EvC Proofs.Tryd.prog w0 25 #[(agg #[(string g), (slice i k m), (int .i64 n), (bool o), (int .i64 p)])] (fun b5 b6 => (∃ a7 : ByteArray, ((b5 = (string a7)) ∧ (EvC Proofs.Tryd.prog w0 25 #[(agg #[(string z), (slice A B C), (int .i64 D), (bool E), (int .i64 F)])] (fun b7 a8 => (∃ a9 : ByteArray, ((b7 = (string a9)) ∧ (brB (!(Op.bytesLess (ByteArray.toList a7) (ByteArray.toList a9))) (K (bool false) a8) (f24_2 w0 K c b d (IntKind.wrap .i64 (a + (1 : Int))) a8))))) b6)))) h)))))))))))))))))) ∧ (∃ G : ByteArray, (∃ L : Option Addr, (∃ M : Nat, (∃ N : Nat, (∃ Q : Int, (∃ R : Bool, (∃ T : Int, ((((Array.size #[(string G), (slice L M N), (int .i64 Q), (bool R), (int .i64 T)]) = 5) ∧ (At w0 h (Addr.add e ((Int.toNat a) * 5)) [(string G), (slice L M N), (int .i64 Q), (bool R), (int .i64 T)])) ∧ (∃ U : ByteArray, (∃ V : Option Addr, (∃ Y : Nat, (∃ Z : Nat, (∃ a0 : Int, (∃ a1 : Bool, (∃ a2 : Int, ((((Array.size #[(string U), (slice V Y Z), (int .i64 a0), (bool a1), (int .i64 a2)]) = 5) ∧ (At w0 h (Addr.add q ((Int.toNat (IntKind.wrap .i64 (a - (1 : Int)))) * 5)) [(string U), (slice V Y Z), (int .i64 a0), (bool a1), (int .i64 a2)])) ∧ (EvC Proofs.Tryd.prog w0 25 #[(agg #[(string U), (slice V Y Z), (int .i64 a0), (bool a1), (int .i64 a2)])] (fun b8 b9 => (∃ b0 : ByteArray, ((b8 = (string b0)) ∧ (EvC Proofs.Tryd.prog w0 25 #[(agg #[(string G), (slice L M N), (int .i64 Q), (bool R), (int .i64 T)])] (fun c0 b1 => (∃ b2 : ByteArray, ((c0 = (string b2)) ∧ (brB (!(Op.bytesLess (ByteArray.toList b0) (ByteArray.toList b2))) (K (bool false) b1) (f24_2 w0 K c b d (IntKind.wrap .i64 (a + (1 : Int))) b1))))) b9)))) h)))))))))))))))))))))))))) (K (bool true) h))) :
  f24_2 w0 K c b d a h := fun j => LP_intro (P := Proofs.Tryd.prog) (Eq.mp (by kernel_rfl) hv)

theorem f24_go {w0 : World} {K : Value → AH → Prop} (a : Option Addr) (b : Nat) (c : Nat) (h : AH)
  (hv : (f24_2 w0 K a b c (1 : Int) h)) :
  EvC Proofs.Tryd.prog w0 24 ([(.slice a b c), (.func (.func 25) #[] #[])]).toArray K h := EvC_intro (P := Proofs.Tryd.prog) f24_J (Eq.mp (by kernel_rfl) hv)
def f26_J : Nat → List Nat × Nat := jOf [(2, [2, 3, 4, 6, 7, 8, 9, 10, 11, 12, 13, 14, 15, 16, 17, 18, 19, 20, 21, 22, 23, 24, 25], 0)]

def f26_2 (w0 : World) (K : Value → AH → Prop) (a : Option Addr) (b : Nat) (c : Nat) (d : Int) (h : AH) : Prop :=
  ∀ j : Nat → Value, LPk Proofs.Tryd.prog w0 (EvC Proofs.Tryd.prog w0) f26_J 26 K 2 [.v (.slice a b c), .v (.func (Fn.func 27) #[] #[]), .v (j 2), .v (j 3), .v (j 4), .v (.int .i64 d), .v (j 6), .v (j 7), .v (j 8), .v (j 9), .v (j 10), .v (j 11), .v (j 12), .v (j 13), .v (j 14), .v (j 15), .v (j 16), .v (j 17), .v (j 18), .v (j 19), .v (j 20), .v (j 21), .v (j 22), .v (j 23), .v (j 24), .v (j 25)] [] h

theorem f26_2_in {w0 : World} {K : Value → AH → Prop} (c : Option Addr) (b : Nat) (d : Nat) (a : Int) (h : AH)
  (hv : (brB (decide ((a < ((b : Nat) : Int)))) (∃ A : Addr, ((c = (some A)) ∧ (((0 : Int) ≤ (IntKind.wrap .i64 (a - (1 : Int)))) ∧ (((IntKind.wrap .i64 (a - (1 : Int))) < ((b : Nat) : Int)) ∧ (∃ e : Addr, ((c = (some e)) ∧ (((0 : Int) ≤ a) ∧ ((a < ((b : Nat) : Int)) ∧ ((∃ g : ByteArray, (∃ i : Option Addr, (∃ k : Nat, (∃ m : Nat, (∃ n : Option Addr, (∃ o : Nat, (∃ p : Nat, (∃ q : Option Addr, (∃ r : Nat, (∃ s : Nat, (∃ t : Option Addr, (∃ u : Nat, (∃ v : Nat, (∃ x : Int, (∃ y : Int, (∃ z : Int, ((((Array.size #[(string g), (slice i k m), (slice n o p), (slice q r s), (slice t u v), (int .i64 x), (int .i64 y), (int .i64 z)]) = 8) ∧ (At w0 h (Addr.add A ((Int.toNat (IntKind.wrap .i64 (a - (1 : Int)))) * 8)) [(string g), (slice i k m), (slice n o p), (slice q r s), (slice t u v), (int .i64 x), (int .i64 y), (int .i64 z)])) ∧ ((EvC Proofs.Tryd.prog w0 27 #[(agg #[(string g), (slice i k m), (slice n o p), (slice q r s), (slice t u v), (int .i64 x), (int .i64 y), (int .i64 z)])] (fun g8 e8 => (∃ e9 : ByteArray, ((g8 = (string e9)) ∧ (∃ B : ByteArray, (∃ C : Option Addr, (∃ D : Nat, (∃ E : Nat, (∃ F : Option Addr, (∃ G : Nat, (∃ L : Nat, (∃ M : Option Addr, (∃ N : Nat, (∃ Q : Nat, (∃ R : Option Addr, (∃ T : Nat, (∃ U : Nat, (∃ V : Int, (∃ Y : Int, (∃ Z : Int, ((((Array.size #[(string B), (slice C D E), (slice F G L), (slice M N Q), (slice R T U), (int .i64 V), (int .i64 Y), (int .i64 Z)]) = 8) ∧ (At w0 e8 (Addr.add e ((Int.toNat a) * 8)) [(string B), (slice C D E), (slice F G L), (slice M N Q), (slice R T U), (int .i64 V), (int .i64 Y), (int .i64 Z)])) ∧ (EvC Proofs.Tryd.prog w0 27 #[(agg #[(string B), (slice C D E), (slice F G L), (slice M N Q), (slice R T U), (int .i64 V), (int .i64 Y), (int .i64 Z)])] (fun g9 g0 => (∃ g1 : ByteArray, ((g9 = (string g1)) ∧ (brB (!(Op.bytesLess (ByteArray.toList e9) (ByteArray.toList g1))) (K (bool false) g0) (f26_2 w0 K c b d (IntKind.wrap .i64 (a + (1 : Int))) g0))))) e8))))))))))))))))))))) h) ∧ (∃ a0 : ByteArray, (∃ a1 : Option Addr, (∃ a2 : Nat, (∃ a3 : Nat, (∃ a4 : Option Addr, (∃ a5 : Nat, (∃ a6 : Nat, (∃ a7 : Option Addr, (∃ a8 : Nat, (∃ a9 : Nat, (∃ b0 : Option Addr, (∃ b1 : Nat, (∃ b2 : Nat, (∃ b3 : Int, (∃ b4 : Int, (∃ b5 : Int, ((((Array.size #[(string a0), (slice a1 a2 a3), (slice a4 a5 a6), (slice a7 a8 a9), (slice b0 b1 b2), (int .i64 b3), (int .i64 b4), (int .i64 b5)]) = 8) ∧ (At w0 h (Addr.add e ((Int.toNat a) * 8)) [(string a0), (slice a1 a2 a3), (slice a4 a5 a6), (slice a7 a8 a9), (slice b0 b1 b2), (int .i64 b3), (int .i64 b4), (int .i64 b5)])) ∧ (EvC Proofs.Tryd.prog w0 27 #[(agg #[(string g), (slice i k m), (slice n o p), (slice q r s), (slice t u v), (int .i64 x), (int .i64 y), (int .i64 z)])] (fun i0 i1 => (∃ g2 : ByteArray, ((i0 = (string g2)) ∧ (EvC Proofs.Tryd.prog w0 27 #[(agg #[(string a0), (slice a1 a2 a3), (slice a4 a5 a6), (slice a7 a8 a9), (slice b0 b1 b2), (int .i64 b3), (int .i64 b4), (int .i64 b5)])] (fun i2 g3 => (∃ g4 : ByteArray, ((i2 = (string g4)) ∧ (brB (!(Op.bytesLess (ByteArray.toList g2) (ByteArray.toList g4))) (K (bool false) g3) (f26_2 w0 K c b d (IntKind.wrap .i64 (a + (1 : Int))) g3))))) i1)))) h)))))))))))))))))))))))))))))))))))) ∧ (∃ b6 : ByteArray, (∃ b7 : Option Addr, (∃ b8 : Nat, (∃ b9 : Nat, (∃ c0 : Option Addr, (∃ c1 : Nat, (∃ c2 : Nat, (∃ c3 : Option Addr, (∃ c4 : Nat, (∃ c5 : Nat, (∃ c6 : Option Addr, (∃ c7 : Nat, (∃ c8 : Nat, (∃ c9 : Int, (∃ d0 : Int, (∃ d1 : Int, ((((Array.size #[(string b6), (slice b7 b8 b9), (slice c0 c1 c2), (slice c3 c4 c5), (slice c6 c7 c8), (int .i64 c9), (int .i64 d0), (int .i64 d1)]) = 8) ∧ (At w0 h (Addr.add e ((Int.toNat a) * 8)) [(string b6), (slice b7 b8 b9), (slice c0 c1 c2), (slice c3 c4 c5), (slice c6 c7 c8), (int .i64 c9), (int .i64 d0), (int .i64 d1)])) ∧ (∃ d2 : ByteArray, (∃ d3 : Option Addr, (∃ d4 : Nat, (∃ d5 : Nat, (∃ d6 : Option Addr, (∃ d7 : Nat, (∃ d8 : Nat, (∃ d9 : Option Addr, (∃ e0 : Nat, (∃ e1 : Nat, (∃ e2 : Option Addr, (∃ e3 : Nat, (∃ e4 : Nat, (∃ e5 : Int, (∃ e6 : Int, (∃ e7 : Int, ((((Array.size #[(string d2), (slice d3 d4 d5), (slice d6 d7 d8), (slice d9 e0 e1), (slice e2 e3 e4), (int .i64 e5), (int .i64 e6), (int .i64 e7)]) = 8) ∧ (At w0 h (Addr.add A ((Int.toNat (IntKind.wrap .i64 (a - (1 : Int)))) * 8)) [(string d2), (slice d3 d4 d5), (slice d6 d7 d8), (slice d9 e0 e1), (slice e2 e3 e4), (int .i64 e5), (int .i64 e6), (int .i64 e7)])) ∧ (EvC Proofs.Tryd.prog w0 27 #[(agg #[(string d2), (slice d3 d4 d5), (slice d6 d7 d8), (slice d9 e0 e1), (slice e2 e3 e4), (int .i64 e5), (int .i64 e6), (int .i64 e7)])] (fun i3 i4 => (∃ g5 : ByteArray, ((i3 = (string g5)) ∧ (EvC Proofs.Tryd.prog w0 27 #[(agg #[(string b6), (slice b7 b8 b9), (slice c0 c1 c2), (slice c3 c4 c5), (slice c6 c7 c8), (int .i64 c9), (int .i64 d0), (int .i64 d1)])] (fun i5 g6 => (∃ g7 : ByteArray, ((i5 = (string g7)) ∧ (brB (!(Op.bytesLess (ByteArray.toList g5) (ByteArray.toList g7))) (K (bool false) g6) (f26_2 w0 K c b d (IntKind.wrap .i64 (a + (1 : Int))) g6))))) i4)))) h)))))))))))))))))))))))))))))))))))))))))))) (K (bool true) h))) :
  f26_2 w0 K c b d a h := fun j => LP_intro (P := Proofs.Tryd.prog) (Eq.mp (by kernel_rfl) hv)

theorem f26_go {w0 : World} {K : Value → AH → Prop} (a : Option Addr) (b : Nat) (c : Nat) (h : AH)
  (hv : (f26_2 w0 K a b c (1 : Int) h)) :
  EvC Proofs.Tryd.prog w0 26 ([(.slice a b c), (.func (.func 27) #[] #[])]).toArray K h := EvC_intro (P := Proofs.Tryd.prog) f26_J (Eq.mp (by kernel_rfl) hv)
def f45_J : Nat → List Nat × Nat := jOf [(2, [2, 3, 4, 6, 7, 8, 9, 10, 11, 12, 13, 14, 15, 16, 17, 18, 19, 20, 21, 22, 23, 24, 25], 0)]

def f45_2 (w0 : World) (K : Value → AH → Prop) (a : Option Addr) (b : Nat) (c : Nat) (d : Int) (h : AH) : Prop :=
  ∀ j : Nat → Value, LPk Proofs.Tryd.prog w0 (EvC Proofs.Tryd.prog w0) f45_J 45 K 2 [.v (.slice a b c), .v (.func (Fn.func 46) #[] #[]), .v (j 2), .v (j 3), .v (j 4), .v (.int .i64 d), .v (j 6), .v (j 7), .v (j 8), .v (j 9), .v (j 10), .v (j 11), .v (j 12), .v (j 13), .v (j 14), .v (j 15), .v (j 16), .v (j 17), .v (j 18), .v (j 19), .v (j 20), .v (j 21), .v (j 22), .v (j 23), .v (j 24), .v (j 25)] [] h

theorem f45_2_in {w0 : World} {K : Value → AH → Prop} (c : Option Addr) (b : Nat) (d : Nat) (a : Int) (h : AH)
  (hv : (brB (decide ((a < ((b : Nat) : Int)))) (∃ k : Addr, ((c = (some k)) ∧ (((0 : Int) ≤ (IntKind.wrap .i64 (a - (1 : Int)))) ∧ (((IntKind.wrap .i64 (a - (1 : Int))) < ((b : Nat) : Int)) ∧ (∃ e : Addr, ((c = (some e)) ∧ (((0 : Int) ≤ a) ∧ ((a < ((b : Nat) : Int)) ∧ ((∃ g : ByteArray, (∃ i : Int, ((((Array.size #[(string g), (int .i64 i)]) = 2) ∧ (At w0 h (Addr.add k ((Int.toNat (IntKind.wrap .i64 (a - (1 : Int)))) * 2)) [(string g), (int .i64 i)])) ∧ ((EvC Proofs.Tryd.prog w0 46 #[(agg #[(string g), (int .i64 i)])] (fun F u => (∃ v : ByteArray, ((F = (string v)) ∧ (∃ m : ByteArray, (∃ n : Int, ((((Array.size #[(string m), (int .i64 n)]) = 2) ∧ (At w0 u (Addr.add e ((Int.toNat a) * 2)) [(string m), (int .i64 n)])) ∧ (EvC Proofs.Tryd.prog w0 46 #[(agg #[(string m), (int .i64 n)])] (fun G x => (∃ y : ByteArray, ((G = (string y)) ∧ (brB (!(Op.bytesLess (ByteArray.toList v) (ByteArray.toList y))) (K (bool false) x) (f45_2 w0 K c b d (IntKind.wrap .i64 (a + (1 : Int))) x))))) u))))))) h) ∧ (∃ o : ByteArray, (∃ p : Int, ((((Array.size #[(string o), (int .i64 p)]) = 2) ∧ (At w0 h (Addr.add e ((Int.toNat a) * 2)) [(string o), (int .i64 p)])) ∧ (EvC Proofs.Tryd.prog w0 46 #[(agg #[(string g), (int .i64 i)])] (fun L M => (∃ z : ByteArray, ((L = (string z)) ∧ (EvC Proofs.Tryd.prog w0 46 #[(agg #[(string o), (int .i64 p)])] (fun N A => (∃ B : ByteArray, ((N = (string B)) ∧ (brB (!(Op.bytesLess (ByteArray.toList z) (ByteArray.toList B))) (K (bool false) A) (f45_2 w0 K c b d (IntKind.wrap .i64 (a + (1 : Int))) A))))) M)))) h)))))))) ∧ (∃ q : ByteArray, (∃ r : Int, ((((Array.size #[(string q), (int .i64 r)]) = 2) ∧ (At w0 h (Addr.add e ((Int.toNat a) * 2)) [(string q), (int .i64 r)])) ∧ (∃ s : ByteArray, (∃ t : Int, ((((Array.size #[(string s), (int .i64 t)]) = 2) ∧ (At w0 h (Addr.add k ((Int.toNat (IntKind.wrap .i64 (a - (1 : Int)))) * 2)) [(string s), (int .i64 t)])) ∧ (EvC Proofs.Tryd.prog w0 46 #[(agg #[(string s), (int .i64 t)])] (fun Q R => (∃ C : ByteArray, ((Q = (string C)) ∧ (EvC Proofs.Tryd.prog w0 46 #[(agg #[(string q), (int .i64 r)])] (fun T D => (∃ E : ByteArray, ((T = (string E)) ∧ (brB (!(Op.bytesLess (ByteArray.toList C) (ByteArray.toList E))) (K (bool false) D) (f45_2 w0 K c b d (IntKind.wrap .i64 (a + (1 : Int))) D))))) R)))) h)))))))))))))))) (K (bool true) h))) :
  f45_2 w0 K c b d a h := fun j => LP_intro (P := Proofs.Tryd.prog) (Eq.mp (by kernel_rfl) hv)

theorem f45_go {w0 : World} {K : Value → AH → Prop} (a : Option Addr) (b : Nat) (c : Nat) (h : AH)
  (hv : (f45_2 w0 K a b c (1 : Int) h)) :
  EvC Proofs.Tryd.prog w0 45 ([(.slice a b c), (.func (.func 46) #[] #[])]).toArray K h := EvC_intro (P := Proofs.Tryd.prog) f45_J (Eq.mp (by kernel_rfl) hv)
def f28_J : Nat → List Nat × Nat := jOf []



theorem f28_go {w0 : World} {K : Value → AH → Prop} (d : ByteArray) (i : Option Addr) (e : Nat) (k : Nat) (b : Int) (m : Bool) (c : Int) (h : AH)
  (hv : (EvC Proofs.Tryd.prog w0 43 #[(string d)] (fun n a => (∃ g : Bool, ((n = (bool g)) ∧ (brB g (brB (decide ((((e : Nat) : Int) ≤ (256 : Int)))) (brB (decide (((0 : Int) ≤ b))) (brB (decide ((b ≤ (2 : Int)))) (brB (decide (((0 : Int) ≤ c))) (K (bool (decide ((c ≤ (2199023255552 : Int))))) a) (K (bool false) a)) (K (bool false) a)) (K (bool false) a)) (K (bool false) a)) (K (bool false) a))))) h)) :
  EvC Proofs.Tryd.prog w0 28 ([(.agg #[(.string d), (.slice i e k), (.int .i64 b), (.bool m), (.int .i64 c)])]).toArray K h := EvC_intro (P := Proofs.Tryd.prog) f28_J (Eq.mp (by kernel_rfl) hv)
def f56_J : Nat → List Nat × Nat := jOf []



theorem f56_go {w0 : World} {K : Value → AH → Prop} (d : ByteArray) (i : Option Addr) (e : Nat) (k : Nat) (b : Int) (m : Bool) (c : Int) (h : AH)
  (hv : (EvC Proofs.Tryd.prog w0 76 #[(string d)] (fun n a => (∃ g : Bool, ((n = (bool g)) ∧ (brB g (brB (decide ((((e : Nat) : Int) ≤ (256 : Int)))) (brB (decide (((0 : Int) ≤ b))) (brB (decide ((b ≤ (2 : Int)))) (brB (decide (((0 : Int) ≤ c))) (K (bool (decide ((c ≤ (2199023255552 : Int))))) a) (K (bool false) a)) (K (bool false) a)) (K (bool false) a)) (K (bool false) a)) (K (bool false) a))))) h)) :
  EvC Proofs.Tryd.prog w0 56 ([(.agg #[(.string d), (.slice i e k), (.int .i64 b), (.bool m), (.int .i64 c)])]).toArray K h := EvC_intro (P := Proofs.Tryd.prog) f56_J (Eq.mp (by kernel_rfl) hv)
def f48_J : Nat → List Nat × Nat := jOf []



theorem f48_go {w0 : World} {K : Value → AH → Prop} (a : Int) (h : AH)
  (hv : (brB (decide (((1 : Int) ≤ a))) (K (bool (decide ((a ≤ (65535 : Int))))) h) (K (bool false) h))) :
  EvC Proofs.Tryd.prog w0 48 ([(.int .i64 a)]).toArray K h := EvC_intro (P := Proofs.Tryd.prog) f48_J (Eq.mp (by kernel_rfl) hv)
/-! ### do texts rise? -/
section
variable {w0 : World} {K : Value → AH → Prop} {h : AH} {B : List (Nat × AB)}
theorem f25_spec {m : MsgM} (hk : K (.string m.topic) h) : EvC Go.Proofs.Tryd.prog w0 25 #[m.agg] K h := f25_go _ _ _ _ _ _ _ _ hk
theorem f27_spec {m : SesM} (hk : K (.string m.client) h) : EvC Go.Proofs.Tryd.prog w0 27 #[m.agg] K h := f27_go _ _ _ _ _ _ _ _ _ _ _ _ _ _ _ _ _ hk
theorem f46_spec {m : WantM} (hk : K (.string m.filter) h) : EvC Go.Proofs.Tryd.prog w0 46 #[.agg #[.string m.filter, .int .i64 m.qos]] K h := f46_go _ _ _ hk
theorem rise_step {α : Type} {lt : α → α → Prop} {l : List α} {i : Nat} {a b : α} (ha : l[i]? = some a) (hb : l[i + 1]? = some b) (hab : lt a b) (hh : ∀ j x y, j + 1 < i + 1 → l[j]? = some x → l[j + 1]? = some y → lt x y) :
    ∀ j x y, j + 1 < i + 2 → l[j]? = some x → l[j + 1]? = some y → lt x y := fun j x y hj hx hy => by
  by_cases e : j = i
  · subst e
    rw [hx] at ha; rw [hy] at hb
    injection ha with ha; injection hb with hb
    subst ha hb; exact hab
  · exact hh j x y (by omega) hx hy
theorem rise_all {α : Type} {lt : α → α → Prop} {l : List α} {i : Nat} (hi : l.length ≤ i) (hh : ∀ j x y, j + 1 < i → l[j]? = some x → l[j + 1]? = some y → lt x y) : Rise lt l := fun j x y hx hy =>
  hh j x y (by have := (List.getElem?_eq_some_iff.1 hy).1; omega) hx hy
theorem f24_spec {a : Option Addr} {c : Nat} {l : List MsgM} (hr : Rd w0 h a (l.flatMap MsgM.cells)) (hl : l.length ≤ 1000000) (hk : ∀ b, (b = true ↔ Rise (fun a b : MsgM => sLt a.topic b.topic) l) → K (.bool b) h) :
    EvC Go.Proofs.Tryd.prog w0 24 #[.slice a l.length c, .func (.func 25) #[] #[]] K h := by
  have loop : ∀ (n i : Nat), i + n = max l.length 1 → 1 ≤ i → (∀ j x y, j + 1 < i → l[j]? = some x → l[j + 1]? = some y → sLt x.topic y.topic) → f24_2 w0 K a l.length c ((i : Nat) : Int) h := fun n => by
    induction n with
    | zero => exact fun i hi h1 hh => f24_2_in _ _ _ _ _ (brB_of (fun z => by have := of_decide_eq_true z; omega) fun _ => hk true ⟨fun _ => rise_all (by omega) hh, fun _ => rfl⟩)
    | succ n ih =>
      intro i hi h1 hh
      obtain ⟨i, rfl⟩ : ∃ k, i = k + 1 := ⟨i - 1, by omega⟩
      have hil : i + 1 < l.length := by omega
      have g0 : l[i]? = some (l[i]'(by omega)) := List.getElem?_eq_getElem _
      have g1 : l[i + 1]? = some l[i + 1] := List.getElem?_eq_getElem hil
      generalize l[i]'(by omega) = x at g0
      generalize l[i + 1] = y at g1
      obtain ⟨ad, had, hat⟩ := rowLoad (enc := MsgM.cells) (k := 5) (fun _ => rfl) (by decide) hr g0
      obtain ⟨bd, hbd, hbt⟩ := rowLoad (enc := MsgM.cells) (k := 5) (fun _ => rfl) (by decide) hr g1
      have e1 : IntKind.i64.wrap (((i + 1 : Nat) : Int) - 1) = ((i : Nat) : Int) := by rw [wrap64 (by omega) (by omega)]; omega
      have nxt : brB (!(Op.bytesLess x.topic.toList y.topic.toList)) (K (.bool false) h) (f24_2 w0 K a l.length c (IntKind.i64.wrap (((i + 1 : Nat) : Int) + 1)) h) :=
        brB_of (fun z => hk false ⟨fun z => by (cases z), fun r => by
          have q : Op.bytesLess x.topic.toList y.topic.toList = true := r i _ _ g0 g1
          rw [q] at z; cases z⟩) fun z => by
        have q : Op.bytesLess x.topic.toList y.topic.toList = true := by simpa using z
        rw [wrapS (by omega)]; exact ih (i + 2) (by omega) (by omega) (rise_step (lt := fun a b : MsgM => sLt a.topic b.topic) g0 g1 q hh)
      refine f24_2_in _ _ _ _ _ (brB_of (fun _ => ?_) fun z => by have := of_decide_eq_false z; omega)
      rw [e1]
      refine ⟨ad, had, by omega, by omega, bd, hbd, by omega, by omega, ?_⟩
      repeat' first
        | exact nxt
        | refine f25_spec (m := x) ?_
        | refine f25_spec (m := y) ?_
        | refine ⟨_, _, _, _, _, _, _, ⟨rfl, hat⟩, ?_⟩
        | refine ⟨_, _, _, _, _, _, _, ⟨rfl, hbt⟩, ?_⟩
        | refine ⟨_, rfl, ?_⟩
        | refine ⟨?_, ?_⟩
  exact f24_go _ _ _ _ (loop (max l.length 1 - 1) 1 (by omega) (by omega) fun j x y hj => by omega)
theorem f26_spec {a : Option Addr} {c : Nat} {l : List SesM} (hr : Rd w0 h a (l.flatMap SesM.cells)) (hl : l.length ≤ 1000000) (hk : ∀ b, (b = true ↔ Rise (fun a b : SesM => sLt a.client b.client) l) → K (.bool b) h) :
    EvC Go.Proofs.Tryd.prog w0 26 #[.slice a l.length c, .func (.func 27) #[] #[]] K h := by
  have loop : ∀ (n i : Nat), i + n = max l.length 1 → 1 ≤ i → (∀ j x y, j + 1 < i → l[j]? = some x → l[j + 1]? = some y → sLt x.client y.client) → f26_2 w0 K a l.length c ((i : Nat) : Int) h := fun n => by
    induction n with
    | zero => exact fun i hi h1 hh => f26_2_in _ _ _ _ _ (brB_of (fun z => by have := of_decide_eq_true z; omega) fun _ => hk true ⟨fun _ => rise_all (by omega) hh, fun _ => rfl⟩)
    | succ n ih =>
      intro i hi h1 hh
      obtain ⟨i, rfl⟩ : ∃ k, i = k + 1 := ⟨i - 1, by omega⟩
      have hil : i + 1 < l.length := by omega
      have g0 : l[i]? = some (l[i]'(by omega)) := List.getElem?_eq_getElem _
      have g1 : l[i + 1]? = some l[i + 1] := List.getElem?_eq_getElem hil
      generalize l[i]'(by omega) = x at g0
      generalize l[i + 1] = y at g1
      obtain ⟨ad, had, hat⟩ := rowLoad (enc := SesM.cells) (k := 8) (fun _ => rfl) (by decide) hr g0
      obtain ⟨bd, hbd, hbt⟩ := rowLoad (enc := SesM.cells) (k := 8) (fun _ => rfl) (by decide) hr g1
      have e1 : IntKind.i64.wrap (((i + 1 : Nat) : Int) - 1) = ((i : Nat) : Int) := by rw [wrap64 (by omega) (by omega)]; omega
      have nxt : brB (!(Op.bytesLess x.client.toList y.client.toList)) (K (.bool false) h) (f26_2 w0 K a l.length c (IntKind.i64.wrap (((i + 1 : Nat) : Int) + 1)) h) :=
        brB_of (fun z => hk false ⟨fun z => by (cases z), fun r => by
          have q : Op.bytesLess x.client.toList y.client.toList = true := r i _ _ g0 g1
          rw [q] at z; cases z⟩) fun z => by
        have q : Op.bytesLess x.client.toList y.client.toList = true := by simpa using z
        rw [wrapS (by omega)]; exact ih (i + 2) (by omega) (by omega) (rise_step (lt := fun a b : SesM => sLt a.client b.client) g0 g1 q hh)
      refine f26_2_in _ _ _ _ _ (brB_of (fun _ => ?_) fun z => by have := of_decide_eq_false z; omega)
      rw [e1]
      refine ⟨ad, had, by omega, by omega, bd, hbd, by omega, by omega, ?_⟩
      repeat' first
        | exact nxt
        | refine f27_spec (m := x) ?_
        | refine f27_spec (m := y) ?_
        | refine ⟨_, _, _, _, _, _, _, _, _, _, _, _, _, _, _, _, ⟨rfl, hat⟩, ?_⟩
        | refine ⟨_, _, _, _, _, _, _, _, _, _, _, _, _, _, _, _, ⟨rfl, hbt⟩, ?_⟩
        | refine ⟨_, rfl, ?_⟩
        | refine ⟨?_, ?_⟩
  exact f26_go _ _ _ _ (loop (max l.length 1 - 1) 1 (by omega) (by omega) fun j x y hj => by omega)
theorem f45_spec {a : Option Addr} {c : Nat} {l : List WantM} (hr : Rd w0 h a (l.flatMap WantM.cells)) (hl : l.length ≤ 1000000) (hk : ∀ b, (b = true ↔ Rise (fun a b : WantM => sLt a.filter b.filter) l) → K (.bool b) h) :
    EvC Go.Proofs.Tryd.prog w0 45 #[.slice a l.length c, .func (.func 46) #[] #[]] K h := by
  have loop : ∀ (n i : Nat), i + n = max l.length 1 → 1 ≤ i → (∀ j x y, j + 1 < i → l[j]? = some x → l[j + 1]? = some y → sLt x.filter y.filter) → f45_2 w0 K a l.length c ((i : Nat) : Int) h := fun n => by
    induction n with
    | zero => exact fun i hi h1 hh => f45_2_in _ _ _ _ _ (brB_of (fun z => by have := of_decide_eq_true z; omega) fun _ => hk true ⟨fun _ => rise_all (by omega) hh, fun _ => rfl⟩)
    | succ n ih =>
      intro i hi h1 hh
      obtain ⟨i, rfl⟩ : ∃ k, i = k + 1 := ⟨i - 1, by omega⟩
      have hil : i + 1 < l.length := by omega
      have g0 : l[i]? = some (l[i]'(by omega)) := List.getElem?_eq_getElem _
      have g1 : l[i + 1]? = some l[i + 1] := List.getElem?_eq_getElem hil
      generalize l[i]'(by omega) = x at g0
      generalize l[i + 1] = y at g1
      obtain ⟨ad, had, hat⟩ := rowLoad (enc := WantM.cells) (k := 2) (fun _ => rfl) (by decide) hr g0
      obtain ⟨bd, hbd, hbt⟩ := rowLoad (enc := WantM.cells) (k := 2) (fun _ => rfl) (by decide) hr g1
      have e1 : IntKind.i64.wrap (((i + 1 : Nat) : Int) - 1) = ((i : Nat) : Int) := by rw [wrap64 (by omega) (by omega)]; omega
      have nxt : brB (!(Op.bytesLess x.filter.toList y.filter.toList)) (K (.bool false) h) (f45_2 w0 K a l.length c (IntKind.i64.wrap (((i + 1 : Nat) : Int) + 1)) h) :=
        brB_of (fun z => hk false ⟨fun z => by (cases z), fun r => by
          have q : Op.bytesLess x.filter.toList y.filter.toList = true := r i _ _ g0 g1
          rw [q] at z; cases z⟩) fun z => by
        have q : Op.bytesLess x.filter.toList y.filter.toList = true := by simpa using z
        rw [wrapS (by omega)]; exact ih (i + 2) (by omega) (by omega) (rise_step (lt := fun a b : WantM => sLt a.filter b.filter) g0 g1 q hh)
      refine f45_2_in _ _ _ _ _ (brB_of (fun _ => ?_) fun z => by have := of_decide_eq_false z; omega)
      rw [e1]
      refine ⟨ad, had, by omega, by omega, bd, hbd, by omega, by omega, ?_⟩
      repeat' first
        | exact nxt
        | refine f46_spec (m := x) ?_
        | refine f46_spec (m := y) ?_
        | refine ⟨_, _, ⟨rfl, hat⟩, ?_⟩
        | refine ⟨_, _, ⟨rfl, hbt⟩, ?_⟩
        | refine ⟨_, rfl, ?_⟩
        | refine ⟨?_, ?_⟩
  exact f45_go _ _ _ _ (loop (max l.length 1 - 1) 1 (by omega) (by omega) fun j x y hj => by omega)
/-- May a message be? -/
theorem f28_spec {m : MsgM} (T : TabOk w0) (w : Own w0 h B) (hk : ∀ b h', (b = true ↔ MayMsg m) → Own w0 h' B → K (.bool b) h') : EvC Go.Proofs.Tryd.prog w0 28 #[m.agg] K h := by
  refine f28_go _ _ _ _ _ _ _ _ (f43_spec T w fun h1 w1 => ⟨_, rfl, ?_⟩)
  have no : ¬ MayMsg m → K (.bool false) h1 := fun hn => hk false h1 ⟨fun z => by (cases z), fun p => absurd p hn⟩ w1
  refine brB_of (fun q1 => brB_of (fun q2 => brB_of (fun q3 => brB_of (fun q4 => brB_of (fun q5 => hk _ h1 ?_ w1) fun q => no fun p => ?_) fun q => no fun p => ?_) fun q => no fun p => ?_) fun q => no fun p => ?_) fun q => no fun p => ?_
  · have h2 := of_decide_eq_true q2
    have h3 := of_decide_eq_true q3
    have h4 := of_decide_eq_true q4
    have h5 := of_decide_eq_true q5
    rw [decide_eq_true_eq]
    exact ⟨fun h6 => ⟨q1, by omega, h3, h4, h5, h6⟩, fun p => p.til2⟩
  · have := of_decide_eq_false q; have := p.til0; omega
  · have := of_decide_eq_false q; have := p.qos2; omega
  · have := of_decide_eq_false q; have := p.qos0; omega
  · have := of_decide_eq_false q; have := p.pay; omega
  · rw [p.topic] at q; cases q
/-- May a message be? -/
theorem f56_spec {m : MsgM} (w : Own w0 h B) (hk : ∀ b h', (b = true ↔ MayMsg m) → Own w0 h' B → K (.bool b) h') : EvC Go.Proofs.Tryd.prog w0 56 #[m.agg] K h := by
  refine f56_go _ _ _ _ _ _ _ _ (f76_spec w fun h1 w1 => ⟨_, rfl, ?_⟩)
  have no : ¬ MayMsg m → K (.bool false) h1 := fun hn => hk false h1 ⟨fun z => by (cases z), fun p => absurd p hn⟩ w1
  refine brB_of (fun q1 => brB_of (fun q2 => brB_of (fun q3 => brB_of (fun q4 => brB_of (fun q5 => hk _ h1 ?_ w1) fun q => no fun p => ?_) fun q => no fun p => ?_) fun q => no fun p => ?_) fun q => no fun p => ?_) fun q => no fun p => ?_
  · have h2 := of_decide_eq_true q2
    have h3 := of_decide_eq_true q3
    have h4 := of_decide_eq_true q4
    have h5 := of_decide_eq_true q5
    rw [decide_eq_true_eq]
    exact ⟨fun h6 => ⟨q1, by omega, h3, h4, h5, h6⟩, fun p => p.til2⟩
  · have := of_decide_eq_false q; have := p.til0; omega
  · have := of_decide_eq_false q; have := p.qos2; omega
  · have := of_decide_eq_false q; have := p.qos0; omega
  · have := of_decide_eq_false q; have := p.pay; omega
  · rw [p.topic] at q; cases q
theorem f48_spec {x : Int} (hk : ∀ b, (b = true ↔ 1 ≤ x ∧ x ≤ 65535) → K (.bool b) h) : EvC Go.Proofs.Tryd.prog w0 48 #[.int .i64 x] K h :=
  f48_go _ _ (brB_of (fun q => hk _ (by
    have := of_decide_eq_true q
    rw [decide_eq_true_eq]; omega)) fun q => hk _ (by have := of_decide_eq_false q; simp; omega))
end
end Go.G.YtilifcggegabfaaDoor
