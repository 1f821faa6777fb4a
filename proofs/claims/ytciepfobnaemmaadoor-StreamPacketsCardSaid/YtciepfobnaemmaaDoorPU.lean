/- own; same. -/
import Derived.Test.YtciepfobnaemmaaDoorPR
import Derived.Test.YtciepfobnaemmaaDoorProg
set_option maxRecDepth 100000
namespace Go.G.YtciepfobnaemmaaDoor
open Go.RowKit
open Value (string slice int bool agg)
def f52_J : Nat → List Nat × Nat := jOf [(4, (0 :: (rn 71 67 [])), 3), (17, (0 :: (rn 14 10 (rn 57 42 (rn 71 13 [])))), 3)]

def f52_4 (w0 : World) (K : Value → AH → Prop) (a b : Int) (c : Bool) (d : ByteArray) (e : Option Addr) (g i : Nat) (k : Int) (m : Bool) (n : Int) (o : ByteArray) (p : Bool) (q : Int) (r s : Bool) (t : Int) (u : Option Addr) (x y : Nat) (z : Option Addr) (A B : Nat) (C D : Int) (E : Bool) (F : ByteArray) (G : Option Addr) (L M : Nat) (N : Int) (Q : Bool) (R : Int) (T : ByteArray) (U : Bool) (V : Int) (Y Z : Bool) (a0 : Int) (a1 : Option Addr) (a2 a3 : Nat) (a4 : Option Addr) (a5 a6 : Nat) (a7 a8 : Int) (a9 : Bool) (b0 : ByteArray) (b1 : Option Addr) (b2 b3 : Nat) (b4 : Int) (b5 : Bool) (b6 : Int) (b7 : ByteArray) (b8 : Bool) (b9 : Int) (c0 c1 : Bool) (c2 : Int) (c3 : Option Addr) (c4 c5 : Nat) (c6 : Option Addr) (c7 c8 : Nat) (h : AH) : Prop :=
  ∀ j : Nat → Value, LPk Proofs.Tryd.prog w0 (EvC Proofs.Tryd.prog w0) f52_J 52 K 4 (jv j 1 1 (.bp 0 0 :: (.bp 1 0 :: (.bp 2 0 :: (jv j 71 67 []))))) [some [(.int .i64 a), (.int .i64 b), (.bool c), (.string d), (.slice e g i), (.int .i64 k), (.bool m), (.int .i64 n), (.string o), (.bool p), (.int .i64 q), (.bool r), (.bool s), (.int .i64 t), (.slice u x y), (.slice z A B)], some [(.int .i64 C), (.int .i64 D), (.bool E), (.string F), (.slice G L M), (.int .i64 N), (.bool Q), (.int .i64 R), (.string T), (.bool U), (.int .i64 V), (.bool Y), (.bool Z), (.int .i64 a0), (.slice a1 a2 a3), (.slice a4 a5 a6)], some [(.int .i64 a7), (.int .i64 a8), (.bool a9), (.string b0), (.slice b1 b2 b3), (.int .i64 b4), (.bool b5), (.int .i64 b6), (.string b7), (.bool b8), (.int .i64 b9), (.bool c0), (.bool c1), (.int .i64 c2), (.slice c3 c4 c5), (.slice c6 c7 c8)]] h

def f52_17 (w0 : World) (K : Value → AH → Prop) (a : Int) (b : Bool) (c d : Int) (e : Bool) (g : ByteArray) (i : Option Addr) (k m : Nat) (n : Int) (o : Bool) (p : Int) (q : ByteArray) (r : Bool) (s : Int) (t u : Bool) (x : Int) (y : Option Addr) (z A : Nat) (B : Option Addr) (C D : Nat) (E F : Int) (G : Bool) (L : ByteArray) (M : Option Addr) (N Q : Nat) (R : Int) (T : Bool) (U : Int) (V : ByteArray) (Y : Bool) (Z : Int) (a0 a1 : Bool) (a2 : Int) (a3 : Option Addr) (a4 a5 : Nat) (a6 : Option Addr) (a7 a8 : Nat) (a9 b0 : Int) (b1 : Bool) (b2 : ByteArray) (b3 : Option Addr) (b4 b5 : Nat) (b6 : Int) (b7 : Bool) (b8 : Int) (b9 : ByteArray) (c0 : Bool) (c1 : Int) (c2 c3 : Bool) (c4 : Int) (c5 : Option Addr) (c6 c7 : Nat) (c8 : Option Addr) (c9 d0 : Nat) (h : AH) : Prop :=
  ∀ j : Nat → Value, LPk Proofs.Tryd.prog w0 (EvC Proofs.Tryd.prog w0) f52_J 52 K 17 (jv j 1 1 (.bp 0 0 :: (.bp 1 0 :: (.bp 2 0 :: (jv j 14 10 (.v (.int .i64 a) :: (jv j 57 42 (.v (.bool b) :: (jv j 71 13 []))))))))) [some [(.int .i64 c), (.int .i64 d), (.bool e), (.string g), (.slice i k m), (.int .i64 n), (.bool o), (.int .i64 p), (.string q), (.bool r), (.int .i64 s), (.bool t), (.bool u), (.int .i64 x), (.slice y z A), (.slice B C D)], some [(.int .i64 E), (.int .i64 F), (.bool G), (.string L), (.slice M N Q), (.int .i64 R), (.bool T), (.int .i64 U), (.string V), (.bool Y), (.int .i64 Z), (.bool a0), (.bool a1), (.int .i64 a2), (.slice a3 a4 a5), (.slice a6 a7 a8)], some [(.int .i64 a9), (.int .i64 b0), (.bool b1), (.string b2), (.slice b3 b4 b5), (.int .i64 b6), (.bool b7), (.int .i64 b8), (.string b9), (.bool c0), (.int .i64 c1), (.bool c2), (.bool c3), (.int .i64 c4), (.slice c5 c6 c7), (.slice c8 c9 d0)]] h

theorem f52_4_in {w0 : World} {K : Value → AH → Prop} (a T : Int) (C : Bool) (q : ByteArray) (r : Option Addr) (s t : Nat) (m : Int) (u : Bool) (Y : Int) (D : ByteArray) (E : Bool) (F : Int) (v U : Bool) (V : Int) (Z : Option Addr) (a0 a1 : Nat) (a2 : Option Addr) (a3 a4 : Nat) (a5 a6 : Int) (a7 : Bool) (a8 : ByteArray) (a9 : Option Addr) (b0 b1 : Nat) (b2 : Int) (b3 : Bool) (b4 : Int) (b5 : ByteArray) (b6 : Bool) (b7 : Int) (b8 b9 : Bool) (c0 : Int) (c1 : Option Addr) (c2 c3 : Nat) (c4 : Option Addr) (c5 c6 : Nat) (b n : Int) (x : Bool) (G : ByteArray) (L : Option Addr) (M N : Nat) (Q : Int) (R : Bool) (c7 : Int) (y : ByteArray) (z : Bool) (A : Int) (B o : Bool) (p : Int) (c : Option Addr) (d e : Nat) (g : Option Addr) (i k : Nat) (h : AH)
  (hv : (brB (a == (1 : Int)) (brB v (K (agg #[(int .i64 b), (int .i64 n), (bool x), (string q), (slice r s t), (int .i64 m), (bool u), (int .i64 (0 : Int)), (string D), (bool E), (int .i64 F), (bool v), (bool o), (int .i64 p), (slice c d e), (slice g i k)]) h) (K (agg #[(int .i64 b), (int .i64 n), (bool x), (string G), (slice L M N), (int .i64 Q), (bool R), (int .i64 (0 : Int)), (string D), (bool E), (int .i64 F), (bool v), (bool o), (int .i64 p), (slice c d e), (slice g i k)]) h)) (brB (a == (2 : Int)) (K (agg #[(int .i64 b), (int .i64 n), (bool x), (string G), (slice L M N), (int .i64 Q), (bool R), (int .i64 (0 : Int)), (string y), (bool z), (int .i64 A), (bool B), (bool U), (int .i64 V), (slice c d e), (slice g i k)]) h) (brB (a == (3 : Int)) (brB (decide (((0 : Int) < m))) (K (agg #[(int .i64 b), (int .i64 T), (bool C), (string q), (slice r s t), (int .i64 m), (bool u), (int .i64 (0 : Int)), (string y), (bool z), (int .i64 A), (bool B), (bool o), (int .i64 p), (slice c d e), (slice g i k)]) h) (K (agg #[(int .i64 b), (int .i64 n), (bool C), (string q), (slice r s t), (int .i64 m), (bool u), (int .i64 (0 : Int)), (string y), (bool z), (int .i64 A), (bool B), (bool o), (int .i64 p), (slice c d e), (slice g i k)]) h)) (brB (a == (8 : Int)) (f52_17 w0 K a true a T C q r s t m u Y D E F v U V Z a0 a1 a2 a3 a4 a5 a6 a7 a8 a9 b0 b1 b2 b3 b4 b5 b6 b7 b8 b9 c0 c1 c2 c3 c4 c5 c6 b n x G L M N Q R c7 y z A B o p c d e g i k h) (f52_17 w0 K a (a == (10 : Int)) a T C q r s t m u Y D E F v U V Z a0 a1 a2 a3 a4 a5 a6 a7 a8 a9 b0 b1 b2 b3 b4 b5 b6 b7 b8 b9 c0 c1 c2 c3 c4 c5 c6 b n x G L M N Q R c7 y z A B o p c d e g i k h)))))) :
  f52_4 w0 K a T C q r s t m u Y D E F v U V Z a0 a1 a2 a3 a4 a5 a6 a7 a8 a9 b0 b1 b2 b3 b4 b5 b6 b7 b8 b9 c0 c1 c2 c3 c4 c5 c6 b n x G L M N Q R c7 y z A B o p c d e g i k h := fun j => LP_intro (P := Proofs.Tryd.prog) (Eq.mp (by kernel_rfl) hv)

theorem f52_17_in {w0 : World} {K : Value → AH → Prop} (A : Int) (B : Bool) (M N : Int) (Q : Bool) (R : ByteArray) (T : Option Addr) (U V : Nat) (Y : Int) (Z : Bool) (a0 : Int) (a1 : ByteArray) (a2 : Bool) (a3 : Int) (a4 a5 : Bool) (a6 : Int) (C : Option Addr) (D E : Nat) (F : Option Addr) (G L : Nat) (a7 a8 : Int) (a9 : Bool) (b0 : ByteArray) (b1 : Option Addr) (b2 b3 : Nat) (b4 : Int) (b5 : Bool) (b6 : Int) (b7 : ByteArray) (b8 : Bool) (b9 : Int) (c0 c1 : Bool) (c2 : Int) (c3 : Option Addr) (c4 c5 : Nat) (c6 : Option Addr) (c7 c8 : Nat) (a b : Int) (c : Bool) (d : ByteArray) (e : Option Addr) (g i : Nat) (k : Int) (m : Bool) (c9 : Int) (n : ByteArray) (o : Bool) (p : Int) (q r : Bool) (s : Int) (t : Option Addr) (u v : Nat) (x : Option Addr) (y z : Nat) (h : AH)
  (hv : (brB B (K (agg #[(int .i64 a), (int .i64 b), (bool c), (string d), (slice e g i), (int .i64 k), (bool m), (int .i64 (0 : Int)), (string n), (bool o), (int .i64 p), (bool q), (bool r), (int .i64 s), (slice C D E), (slice x y z)]) h) (brB (A == (9 : Int)) (K (agg #[(int .i64 a), (int .i64 b), (bool c), (string d), (slice e g i), (int .i64 k), (bool m), (int .i64 (0 : Int)), (string n), (bool o), (int .i64 p), (bool q), (bool r), (int .i64 s), (slice t u v), (slice F G L)]) h) (K (agg #[(int .i64 a), (int .i64 b), (bool c), (string d), (slice e g i), (int .i64 k), (bool m), (int .i64 (0 : Int)), (string n), (bool o), (int .i64 p), (bool q), (bool r), (int .i64 s), (slice t u v), (slice x y z)]) h)))) :
  f52_17 w0 K A B M N Q R T U V Y Z a0 a1 a2 a3 a4 a5 a6 C D E F G L a7 a8 a9 b0 b1 b2 b3 b4 b5 b6 b7 b8 b9 c0 c1 c2 c3 c4 c5 c6 c7 c8 a b c d e g i k m c9 n o p q r s t u v x y z h := fun j => LP_intro (P := Proofs.Tryd.prog) (Eq.mp (by kernel_rfl) hv)

theorem f52_go {w0 : World} {K : Value → AH → Prop} (a b : Int) (c : Bool) (d : ByteArray) (e : Option Addr) (g i : Nat) (k : Int) (m : Bool) (n : Int) (o : ByteArray) (p : Bool) (q : Int) (r s : Bool) (t : Int) (u : Option Addr) (v x : Nat) (y : Option Addr) (z A : Nat) (h : AH)
  (hv : (EvC Proofs.Tryd.prog w0 53 #[(int .i64 a)] (fun D B => (∃ C : Bool, ((D = (bool C)) ∧ (brB C (f52_4 w0 K a b c d e g i k m n o p q r s t u v x y z A (0 : Int) (0 : Int) false (ByteArray.mk #[]) none 0 0 (0 : Int) false (0 : Int) (ByteArray.mk #[]) false (0 : Int) false false (0 : Int) none 0 0 none 0 0 a b false (ByteArray.mk #[]) none 0 0 (0 : Int) false (0 : Int) (ByteArray.mk #[]) false (0 : Int) false false (0 : Int) none 0 0 none 0 0 B) (f52_4 w0 K a b c d e g i k m n o p q r s t u v x y z A (0 : Int) (0 : Int) false (ByteArray.mk #[]) none 0 0 (0 : Int) false (0 : Int) (ByteArray.mk #[]) false (0 : Int) false false (0 : Int) none 0 0 none 0 0 a (0 : Int) false (ByteArray.mk #[]) none 0 0 (0 : Int) false (0 : Int) (ByteArray.mk #[]) false (0 : Int) false false (0 : Int) none 0 0 none 0 0 B))))) h)) :
  EvC Proofs.Tryd.prog w0 52 ([(.agg #[(.int .i64 a), (.int .i64 b), (.bool c), (.string d), (.slice e g i), (.int .i64 k), (.bool m), (.int .i64 n), (.string o), (.bool p), (.int .i64 q), (.bool r), (.bool s), (.int .i64 t), (.slice u v x), (.slice y z A)])]).toArray K h := EvC_intro (P := Proofs.Tryd.prog) f52_J (Eq.mp (by kernel_rfl) hv)
def f91_J : Nat → List Nat × Nat := jOf []



theorem f91_go {w0 : World} {K : Value → AH → Prop} (a : Option Addr) (b i : Nat) (c : Option Addr) (d k : Nat) (h : AH)
  (hv : (rowsOf w0 h 1 a b (fun m => (∃ e : ByteArray, ((m = (intsOf e)) ∧ (rowsOf w0 h 1 c d (fun n => (∃ g : ByteArray, ((n = (intsOf g)) ∧ (K (bool (decide ((e = g)))) h)))))))))) :
  EvC Proofs.Tryd.prog w0 91 ([(.slice a b i), (.slice c d k)]).toArray K h := EvC_intro (P := Proofs.Tryd.prog) f91_J (Eq.mp (by kernel_rfl) hv)
def f79_J : Nat → List Nat × Nat := jOf [(4, (rn 12 10 (rn 26 12 [])), 0)]

def f79_4 (w0 : World) (K : Value → AH → Prop) (a : Option Addr) (b c : Nat) (d : Option Addr) (e g : Nat) (i k : Int) (h : AH) : Prop :=
  ∀ j : Nat → Value, LPk Proofs.Tryd.prog w0 (EvC Proofs.Tryd.prog w0) f79_J 79 K 4 (.v (.slice a b c) :: (.v (.slice d e g) :: (jv j 12 10 (.v (.int .i64 i) :: (.v (.int .i64 k) :: (jv j 26 12 [])))))) [] h

theorem f79_4_in {w0 : World} {K : Value → AH → Prop} (b : Option Addr) (c o : Nat) (d : Option Addr) (e p : Nat) (g a : Int) (h : AH)
  (hv : (brB (decide ((a < g))) (∃ q : Addr, ((b = (some q)) ∧ (((0 : Int) ≤ a) ∧ ((a < ((c : Nat) : Int)) ∧ (∃ i : ByteArray, (∃ k : Int, ((((Array.size #[(string i), (int .i64 k)]) = 2) ∧ (At w0 h (Addr.add q ((Int.toNat a) * 2)) [(string i), (int .i64 k)])) ∧ (∃ r : Addr, ((d = (some r)) ∧ (((0 : Int) ≤ a) ∧ ((a < ((e : Nat) : Int)) ∧ (∃ m : ByteArray, (∃ n : Int, ((((Array.size #[(string m), (int .i64 n)]) = 2) ∧ (At w0 h (Addr.add r ((Int.toNat a) * 2)) [(string m), (int .i64 n)])) ∧ (brB (!((true && (decide ((i = m)))) && (k == n))) (K (bool false) h) (f79_4 w0 K b c o d e p g (IntKind.wrap .i64 (a + (1 : Int))) h)))))))))))))))) (K (bool true) h))) :
  f79_4 w0 K b c o d e p g a h := fun j => LP_intro (P := Proofs.Tryd.prog) (Eq.mp (by kernel_rfl) hv)

theorem f79_go {w0 : World} {K : Value → AH → Prop} (c : Option Addr) (a d : Nat) (e : Option Addr) (b g : Nat) (h : AH)
  (hv : (brB (((a : Nat) : Int) != ((b : Nat) : Int)) (K (bool false) h) (f79_4 w0 K c a d e b g ((a : Nat) : Int) (0 : Int) h))) :
  EvC Proofs.Tryd.prog w0 79 ([(.slice c a d), (.slice e b g)]).toArray K h := EvC_intro (P := Proofs.Tryd.prog) f79_J (Eq.mp (by kernel_rfl) hv)
def f80_J : Nat → List Nat × Nat := jOf [(4, (rn 12 10 (rn 26 12 [])), 0)]

def f80_4 (w0 : World) (K : Value → AH → Prop) (a : Option Addr) (b c : Nat) (d : Option Addr) (e g : Nat) (i k : Int) (h : AH) : Prop :=
  ∀ j : Nat → Value, LPk Proofs.Tryd.prog w0 (EvC Proofs.Tryd.prog w0) f80_J 80 K 4 (.v (.slice a b c) :: (.v (.slice d e g) :: (jv j 12 10 (.v (.int .i64 i) :: (.v (.int .i64 k) :: (jv j 26 12 [])))))) [] h

theorem f80_4_in {w0 : World} {K : Value → AH → Prop} (b : Option Addr) (c i : Nat) (d : Option Addr) (e k : Nat) (g a : Int) (h : AH)
  (hv : (brB (decide ((a < g))) (∃ m : Addr, ((b = (some m)) ∧ (((0 : Int) ≤ a) ∧ ((a < ((c : Nat) : Int)) ∧ (∃ n : Int, (((cellA w0 h (Addr.add m ((Int.toNat a) * 1))) = (some (int .i64 n))) ∧ (∃ o : Addr, ((d = (some o)) ∧ (((0 : Int) ≤ a) ∧ ((a < ((e : Nat) : Int)) ∧ (∃ p : Int, (((cellA w0 h (Addr.add o ((Int.toNat a) * 1))) = (some (int .i64 p))) ∧ (brB (n != p) (K (bool false) h) (f80_4 w0 K b c i d e k g (IntKind.wrap .i64 (a + (1 : Int))) h)))))))))))))) (K (bool true) h))) :
  f80_4 w0 K b c i d e k g a h := fun j => LP_intro (P := Proofs.Tryd.prog) (Eq.mp (by kernel_rfl) hv)

theorem f80_go {w0 : World} {K : Value → AH → Prop} (c : Option Addr) (a d : Nat) (e : Option Addr) (b g : Nat) (h : AH)
  (hv : (brB (((a : Nat) : Int) != ((b : Nat) : Int)) (K (bool false) h) (f80_4 w0 K c a d e b g ((a : Nat) : Int) (0 : Int) h))) :
  EvC Proofs.Tryd.prog w0 80 ([(.slice c a d), (.slice e b g)]).toArray K h := EvC_intro (P := Proofs.Tryd.prog) f80_J (Eq.mp (by kernel_rfl) hv)
def f78_J : Nat → List Nat × Nat := jOf []



theorem f78_go {w0 : World} {K : Value → AH → Prop} (b : ByteArray) (c : Option Addr) (d e : Nat) (g : Int) (i : Bool) (k : Int) (m : ByteArray) (n : Option Addr) (o p : Nat) (q : Int) (r : Bool) (s : Int) (h : AH)
  (hv : (brB (decide ((b = m))) (EvC Proofs.Tryd.prog w0 91 #[(slice c d e), (slice n o p)] (fun u a => (∃ t : Bool, ((u = (bool t)) ∧ (brB t (brB (g == q) (brB (i == r) (K (bool (k == s)) a) (K (bool false) a)) (K (bool false) a)) (K (bool false) a))))) h) (K (bool false) h))) :
  EvC Proofs.Tryd.prog w0 78 ([(.agg #[(.string b), (.slice c d e), (.int .i64 g), (.bool i), (.int .i64 k)]), (.agg #[(.string m), (.slice n o p), (.int .i64 q), (.bool r), (.int .i64 s)])]).toArray K h := EvC_intro (P := Proofs.Tryd.prog) f78_J (Eq.mp (by kernel_rfl) hv)
def f51_J : Nat → List Nat × Nat := jOf []



theorem f51_go {w0 : World} {K : Value → AH → Prop} (b c : Int) (d : Bool) (e : ByteArray) (g : Option Addr) (i k : Nat) (m : Int) (n : Bool) (o : Int) (p : ByteArray) (q : Bool) (r : Int) (s t : Bool) (u : Int) (v : Option Addr) (x y : Nat) (z : Option Addr) (A B : Nat) (C D : Int) (E : Bool) (F : ByteArray) (G : Option Addr) (L M : Nat) (N : Int) (Q : Bool) (R : Int) (T : ByteArray) (U : Bool) (V : Int) (Y Z : Bool) (a0 : Int) (a1 : Option Addr) (a2 a3 : Nat) (a4 : Option Addr) (a5 a6 : Nat) (h : AH)
  (hv : (brB (b == C) (brB (c == D) (brB (d == E) (EvC Proofs.Tryd.prog w0 78 #[(agg #[(string e), (slice g i k), (int .i64 m), (bool n), (int .i64 o)]), (agg #[(string F), (slice G L M), (int .i64 N), (bool Q), (int .i64 R)])] (fun b1 a => (∃ a7 : Bool, ((b1 = (bool a7)) ∧ (brB a7 (brB (decide ((p = T))) (brB (q == U) (brB (r == V) (brB (s == Y) (brB (t == Z) (brB (u == a0) (EvC Proofs.Tryd.prog w0 79 #[(slice v x y), (slice a1 a2 a3)] (fun b2 a8 => (∃ a9 : Bool, ((b2 = (bool a9)) ∧ (brB a9 (EvC Proofs.Tryd.prog w0 80 #[(slice z A B), (slice a4 a5 a6)] (fun b3 b4 => (∃ b0 : Bool, ((b3 = (bool b0)) ∧ (K (bool b0) b4)))) a8) (K (bool false) a8))))) a) (K (bool false) a)) (K (bool false) a)) (K (bool false) a)) (K (bool false) a)) (K (bool false) a)) (K (bool false) a)) (K (bool false) a))))) h) (K (bool false) h)) (K (bool false) h)) (K (bool false) h))) :
  EvC Proofs.Tryd.prog w0 51 ([(.agg #[(.int .i64 b), (.int .i64 c), (.bool d), (.string e), (.slice g i k), (.int .i64 m), (.bool n), (.int .i64 o), (.string p), (.bool q), (.int .i64 r), (.bool s), (.bool t), (.int .i64 u), (.slice v x y), (.slice z A B)]), (.agg #[(.int .i64 C), (.int .i64 D), (.bool E), (.string F), (.slice G L M), (.int .i64 N), (.bool Q), (.int .i64 R), (.string T), (.bool U), (.int .i64 V), (.bool Y), (.bool Z), (.int .i64 a0), (.slice a1 a2 a3), (.slice a4 a5 a6)])]).toArray K h := EvC_intro (P := Proofs.Tryd.prog) f51_J (Eq.mp (by kernel_rfl) hv)
/-! ### may a packet be? the program's -/
def hasI (k : Int) : Bool := decide (4 ≤ k ∧ k ≤ 11)
/-- The packet with the fields of its kind alone. -/
def ownM (m : PkM) : PkM where
  kind := m.kind
  id := if hasI m.kind || (decide (m.kind = 3) && decide (0 < m.qos)) then m.id else 0
  dup := if m.kind = 3 then m.dup else false
  topic := if m.kind = 3 ∨ (m.kind = 1 ∧ m.will = true) then m.topic else ⟨#[]⟩
  pa := if m.kind = 3 ∨ (m.kind = 1 ∧ m.will = true) then m.pa else none
  pc := if m.kind = 3 ∨ (m.kind = 1 ∧ m.will = true) then m.pc else 0
  pay := if m.kind = 3 ∨ (m.kind = 1 ∧ m.will = true) then m.pay else []
  qos := if m.kind = 3 ∨ (m.kind = 1 ∧ m.will = true) then m.qos else 0
  ret := if m.kind = 3 ∨ (m.kind = 1 ∧ m.will = true) then m.ret else false
  til := 0
  client := if m.kind = 1 then m.client else ⟨#[]⟩
  clean := if m.kind = 1 then m.clean else false
  alive := if m.kind = 1 then m.alive else 0
  will := if m.kind = 1 then m.will else false
  present := if m.kind = 2 then m.present else false
  code := if m.kind = 2 then m.code else 0
  wa := if m.kind = 8 ∨ m.kind = 10 then m.wa else none
  wc := if m.kind = 8 ∨ m.kind = 10 then m.wc else 0
  wants := if m.kind = 8 ∨ m.kind = 10 then m.wants else []
  ca := if m.kind = 9 then m.ca else none
  cc := if m.kind = 9 then m.cc else 0
  codes := if m.kind = 9 then m.codes else []
section
variable {w0 : World} {K : Value → AH → Prop} {h : AH} {X : List (Nat × AB)}
theorem f53_specI {k : Int} (hk : K (.bool (hasI k)) h) : EvC Go.Proofs.Tryd.prog w0 53 #[.int .i64 k] K h := by
  have ten : ∀ t, t = hasI k → f53_10 w0 K t h := fun t ht => f53_10_in _ _ (brB_of (fun z => by rw [← ht, z] at hk; exact hk) fun z => by rw [← ht, z] at hk; exact hk)
  have yes : ∀ m : Int, 4 ≤ m → m ≤ 11 → (k == m) = true → true = hasI k := fun m h1 h2 e => (decide_eq_true (by have : k = m := (by simpa using e); omega)).symm
  refine f53_go _ _ (brB_of (fun z => ten _ (yes 4 (by decide) (by decide) z)) fun z4 => brB_of (fun z => ten _ (yes 5 (by decide) (by decide) z)) fun z5 => brB_of (fun z => ten _ (yes 6 (by decide) (by decide) z)) fun z6 => brB_of (fun z => ten _ (yes 7 (by decide) (by decide) z)) fun z7 =>
    brB_of (fun z => ten _ (yes 8 (by decide) (by decide) z)) fun z8 => brB_of (fun z => ten _ (yes 9 (by decide) (by decide) z)) fun z9 => brB_of (fun z => ten _ (yes 10 (by decide) (by decide) z)) fun z10 => ten _ ?_)
  unfold hasI
  rw [Bool.eq_iff_iff]
  simp at *
  omega
theorem agg_ext {m m' : PkM} (e : m = m') : m.agg = m'.agg := by rw [e]
/-- own. -/
theorem f52_spec {m : PkM} (hk : K (ownM m).agg h) : EvC Go.Proofs.Tryd.prog w0 52 #[m.agg] K h := by
  have four : ∀ (i : Int), i = (if hasI m.kind then m.id else 0) → f52_4 w0 K m.kind m.id m.dup m.topic m.pa m.pay.length m.pc m.qos m.ret m.til m.client m.clean m.alive m.will m.present m.code m.wa m.wants.length m.wc m.ca m.codes.length m.cc 0 0 false ⟨#[]⟩ none 0 0 0 false 0 ⟨#[]⟩ false 0 false false 0 none 0 0 none 0 0 m.kind i false ⟨#[]⟩ none 0 0 0 false 0 ⟨#[]⟩ false 0 false false 0 none 0 0 none 0 0 h := fun i hi => by
    have fin : ∀ m' : PkM, m' = ownM m → K m'.agg h := fun m' e => by rw [e]; exact hk
    refine f52_4_in _ _ _ _ _ _ _ _ _ _ _ _ _ _ _ _ _ _ _ _ _ _ _ _ _ _ _ _ _ _ _ _ _ _ _ _ _ _ _ _ _ _ _ _ _ _ _ _ _ _ _ _ _ _ _ _ _ _ _ _ _ _ _ _ _ _ _ (brB_of (fun z1 => brB_of (fun zw => ?_) fun zw => ?_) fun z1 => brB_of (fun z2 => ?_) fun z2 => brB_of (fun z3 => brB_of (fun zq => ?_) fun zq => ?_) fun z3 => ?_)
    · have k1 : m.kind = 1 := by simpa using z1
      refine fin ⟨m.kind, i, false, m.topic, m.pa, m.pc, m.pay, m.qos, m.ret, 0, m.client, m.clean, m.alive, m.will, false, 0, none, 0, [], none, 0, []⟩ ?_
      rw [hi]
      simp [ownM, hasI, k1, zw]
    · have k1 : m.kind = 1 := by simpa using z1
      refine fin ⟨m.kind, i, false, ⟨#[]⟩, none, 0, [], 0, false, 0, m.client, m.clean, m.alive, m.will, false, 0, none, 0, [], none, 0, []⟩ ?_
      rw [hi]
      simp [ownM, hasI, k1, zw]
    · have k2 : m.kind = 2 := by simpa using z2
      refine fin ⟨m.kind, i, false, ⟨#[]⟩, none, 0, [], 0, false, 0, ⟨#[]⟩, false, 0, false, m.present, m.code, none, 0, [], none, 0, []⟩ ?_
      rw [hi]
      simp [ownM, hasI, k2]
    · have k3 : m.kind = 3 := by simpa using z3
      have q0 := of_decide_eq_true zq
      refine fin ⟨m.kind, m.id, m.dup, m.topic, m.pa, m.pc, m.pay, m.qos, m.ret, 0, ⟨#[]⟩, false, 0, false, false, 0, none, 0, [], none, 0, []⟩ ?_
      simp [ownM, hasI, k3, q0]
    · have k3 : m.kind = 3 := by simpa using z3
      have q0 := of_decide_eq_false zq
      refine fin ⟨m.kind, i, m.dup, m.topic, m.pa, m.pc, m.pay, m.qos, m.ret, 0, ⟨#[]⟩, false, 0, false, false, 0, none, 0, [], none, 0, []⟩ ?_
      rw [hi]
      simp [ownM, hasI, k3]
      intro q; exact absurd q q0
    · have k1 : m.kind ≠ 1 := by simpa using z1
      have k2 : m.kind ≠ 2 := by simpa using z2
      have k3 : m.kind ≠ 3 := by simpa using z3
      have sev : ∀ t, t = decide (m.kind = 8 ∨ m.kind = 10) → f52_17 w0 K m.kind t m.kind m.id m.dup m.topic m.pa m.pay.length m.pc m.qos m.ret m.til m.client m.clean m.alive m.will m.present m.code m.wa m.wants.length m.wc m.ca m.codes.length m.cc 0 0 false ⟨#[]⟩ none 0 0 0 false 0 ⟨#[]⟩ false 0 false false 0 none 0 0 none 0 0 m.kind i false ⟨#[]⟩ none 0 0 0 false 0 ⟨#[]⟩ false 0 false false 0 none 0 0 none 0 0 h := fun t ht => by
        refine f52_17_in _ _ _ _ _ _ _ _ _ _ _ _ _ _ _ _ _ _ _ _ _ _ _ _ _ _ _ _ _ _ _ _ _ _ _ _ _ _ _ _ _ _ _ _ _ _ _ _ _ _ _ _ _ _ _ _ _ _ _ _ _ _ _ _ _ _ _ _ _ (brB_of (fun z8 => ?_) fun z8 => brB_of (fun z9 => ?_) fun z9 => ?_)
        · have k8 := of_decide_eq_true (ht.symm.trans z8)
          refine fin ⟨m.kind, i, false, ⟨#[]⟩, none, 0, [], 0, false, 0, ⟨#[]⟩, false, 0, false, false, 0, m.wa, m.wc, m.wants, none, 0, []⟩ ?_
          rw [hi]
          have k9 : m.kind ≠ 9 := by omega
          simp [ownM, k1, k2, k3, k8, k9]
        · have k8 := of_decide_eq_false (ht.symm.trans z8)
          have k9 : m.kind = 9 := by simpa using z9
          refine fin ⟨m.kind, i, false, ⟨#[]⟩, none, 0, [], 0, false, 0, ⟨#[]⟩, false, 0, false, false, 0, none, 0, [], m.ca, m.cc, m.codes⟩ ?_
          rw [hi]
          simp [ownM, k9]
        · have k8 := of_decide_eq_false (ht.symm.trans z8)
          have k9 : m.kind ≠ 9 := by simpa using z9
          refine fin ⟨m.kind, i, false, ⟨#[]⟩, none, 0, [], 0, false, 0, ⟨#[]⟩, false, 0, false, false, 0, none, 0, [], none, 0, []⟩ ?_
          rw [hi]
          simp [ownM, k1, k2, k3, k8, k9]
      refine brB_of (fun z => sev _ ?_) fun z => sev _ ?_
      · have : m.kind = 8 := by simpa using z
        exact (decide_eq_true (.inl this)).symm
      · have : m.kind ≠ 8 := by simpa using z
        rw [Bool.eq_iff_iff]; simp; omega
  refine f52_go _ _ _ _ _ _ _ _ _ _ _ _ _ _ _ _ _ _ _ _ _ _ _ (f53_specI ⟨_, rfl, brB_of (fun z => four _ (by rw [z]; rfl)) fun z => four _ (by rw [z]; rfl)⟩)
/-- Are two packets the same? -/
theorem f91_spec {a b : Option Addr} {c d : Nat} {l m : List UInt8} (ha : Rd w0 h a (u8s l)) (hb : Rd w0 h b (u8s m)) (hk : K (.bool (decide (l = m))) h) : EvC Go.Proofs.Tryd.prog w0 91 #[.slice a l.length c, .slice b m.length d] K h := by
  have e : decide (toB l = toB m) = decide (l = m) := by rw [decide_eq_decide]; exact ⟨fun z => toB_inj z, fun z => by rw [z]⟩
  exact f91_go _ _ _ _ _ _ _ (rows8 ha rfl (rows8 hb rfl (by rw [← e] at hk; exact hk)))
theorem f79_spec {a b : Option Addr} {c d : Nat} {l m : List WantM} (ha : Rd w0 h a (l.flatMap WantM.cells)) (hb : Rd w0 h b (m.flatMap WantM.cells)) (hl : l.length ≤ 140737488355328) (h1 : l.map WantM.key = m.map WantM.key → K (.bool true) h) (h0 : l.map WantM.key ≠ m.map WantM.key → K (.bool false) h) :
    EvC Go.Proofs.Tryd.prog w0 79 #[.slice a l.length c, .slice b m.length d] K h := by
  refine f79_go _ _ _ _ _ _ _ (brB_of (fun z => h0 fun e => ?_) fun z => ?_)
  · have := congrArg List.length e
    simp only [List.length_map] at this
    rw [this] at z; simp at z
  have en : l.length = m.length := by simp at z; omega
  have loop : ∀ (n i : Nat), i + n = l.length → (l.map WantM.key).take i = (m.map WantM.key).take i → f79_4 w0 K a l.length c b m.length d ((l.length : Nat) : Int) ((i : Nat) : Int) h := fun n => by
    induction n with
    | zero =>
      intro i hi he
      rw [List.take_of_length_le (by simp; omega), List.take_of_length_le (by simp; omega)] at he
      exact f79_4_in _ _ _ _ _ _ _ _ _ (brB_of (fun z => by have := of_decide_eq_true z; omega) fun _ => h1 he)
    | succ n ih =>
      intro i hi he
      have g1 : l[i]? = some l[i] := List.getElem?_eq_getElem _
      have g2 : m[i]? = some (m[i]'(by omega)) := List.getElem?_eq_getElem _
      obtain ⟨ad, had, hat⟩ := rowLoad (enc := WantM.cells) (k := 2) (fun _ => rfl) (by decide) ha g1
      obtain ⟨bd, hbd, hbt⟩ := rowLoad (enc := WantM.cells) (k := 2) (fun _ => rfl) (by decide) hb g2
      have t1 : (l.map WantM.key)[i]? = some (l[i]).key := by rw [List.getElem?_map, g1]; rfl
      have t2 : (m.map WantM.key)[i]? = some (m[i]'(by omega)).key := by rw [List.getElem?_map, g2]; rfl
      generalize l[i] = x at *
      generalize m[i]'(by omega) = y at *
      refine f79_4_in _ _ _ _ _ _ _ _ _ (brB_of (fun _ => ⟨ad, had, by omega, by omega, _, _, ⟨rfl, hat⟩, bd, hbd, by omega, by omega, _, _, ⟨rfl, hbt⟩, brB_of (fun z => h0 fun e => ?_) fun z => ?_⟩) fun z => by have := of_decide_eq_false z; omega)
      · rw [e, t2] at t1
        have := WantM.key_inj (Option.some.inj t1)
        rw [this] at z
        simp at z
      · rw [wrapS (by omega)]
        refine ih (i + 1) (by omega) ?_
        have ex : x.key = y.key := by
          simp at z
          unfold WantM.key
          rw [z.1, z.2]
        rw [List.take_add_one, List.take_add_one, he, t1, t2, ex]
  exact loop l.length 0 (by omega) rfl
theorem f80_spec {a b : Option Addr} {c d : Nat} {l m : List Int} (ha : Rd w0 h a (ints l)) (hb : Rd w0 h b (ints m)) (hl : l.length ≤ 140737488355328) (h1 : l = m → K (.bool true) h) (h0 : l ≠ m → K (.bool false) h) :
    EvC Go.Proofs.Tryd.prog w0 80 #[.slice a l.length c, .slice b m.length d] K h := by
  refine f80_go _ _ _ _ _ _ _ (brB_of (fun z => h0 fun e => by rw [e] at z; simp at z) fun z => ?_)
  have en : l.length = m.length := by simp at z; omega
  have loop : ∀ (n i : Nat), i + n = l.length → l.take i = m.take i → f80_4 w0 K a l.length c b m.length d ((l.length : Nat) : Int) ((i : Nat) : Int) h := fun n => by
    induction n with
    | zero =>
      intro i hi he
      rw [List.take_of_length_le (by omega), List.take_of_length_le (by omega)] at he
      exact f80_4_in _ _ _ _ _ _ _ _ _ (brB_of (fun z => by have := of_decide_eq_true z; omega) fun _ => h1 he)
    | succ n ih =>
      intro i hi he
      have g1 : l[i]? = some l[i] := List.getElem?_eq_getElem _
      have g2 : m[i]? = some (m[i]'(by omega)) := List.getElem?_eq_getElem _
      obtain ⟨ad, had, hc⟩ := ha _ _ (ints_get g1)
      obtain ⟨bd, hbd, hc2⟩ := hb _ _ (ints_get g2)
      generalize l[i] = x at *
      generalize m[i]'(by omega) = y at *
      refine f80_4_in _ _ _ _ _ _ _ _ _ (brB_of (fun _ => ⟨ad, had, by omega, by omega, _, by rw [Int.toNat_natCast, Nat.mul_one]; exact hc, bd, hbd, by omega, by omega, _, by rw [Int.toNat_natCast, Nat.mul_one]; exact hc2, brB_of (fun z => h0 fun e => ?_) fun z => ?_⟩) fun z => by have := of_decide_eq_false z; omega)
      · rw [e, g2] at g1
        rw [Option.some.inj g1] at z
        simp at z
      · rw [wrapS (by omega)]
        refine ih (i + 1) (by omega) ?_
        have ex : x = y := by simpa using z
        rw [List.take_add_one, List.take_add_one, he, g1, g2, ex]
  exact loop l.length 0 (by omega) rfl
/-- same. -/
theorem f51_spec {x y : PkM} (rx : PkRd w0 h x) (ry : PkRd w0 h y) (h1 : x.key = y.key → K (.bool true) h) (h0 : x.key ≠ y.key → K (.bool false) h) : EvC Go.Proofs.Tryd.prog w0 51 #[x.agg, y.agg] K h := by
  have hy4 := ry.pay
  have no : ∀ {α : Type} (f : Pk → α), f x.key ≠ f y.key → K (.bool false) h := fun f ne => h0 fun e => ne (by rw [e])
  refine f51_go _ _ _ _ _ _ _ _ _ _ _ _ _ _ _ _ _ _ _ _ _ _ _ _ _ _ _ _ _ _ _ _ _ _ _ _ _ _ _ _ _ _ _ _ _ (brB_of (fun e0 => brB_of (fun e1 => brB_of (fun e2 => ?_) fun z => no Pk.dup (by simpa [PkM.key] using z)) fun z => no Pk.id (by simpa [PkM.key] using z)) fun z => no Pk.kind (by simpa [PkM.key] using z))
  refine f78_go _ _ _ _ _ _ _ _ _ _ _ _ _ _ _ (brB_of (fun e3 => f91_spec rx.pay hy4 ⟨_, rfl, brB_of (fun e4 => brB_of (fun e5 => brB_of (fun e6 => ⟨_, rfl, brB_of (fun e7 => ?_) fun z => no Pk.til (by simpa [PkM.key] using z)⟩) fun z => ⟨_, rfl, brB_of (fun y => by cases y) fun _ => no Pk.ret (by simpa [PkM.key] using z)⟩) fun z => ⟨_, rfl, brB_of (fun y => by cases y) fun _ => no Pk.qos (by simpa [PkM.key] using z)⟩) fun z => ⟨_, rfl, brB_of (fun y => by cases y) fun _ => no Pk.pay (by simpa [PkM.key] using z)⟩⟩) fun z => ⟨_, rfl, brB_of (fun y => by cases y) fun _ => no Pk.topic (by simpa [PkM.key] using z)⟩)
  refine brB_of (fun e8 => brB_of (fun e9 => brB_of (fun e10 => brB_of (fun e11 => brB_of (fun e12 => brB_of (fun e13 => ?_) fun z => no Pk.code (by simpa [PkM.key] using z)) fun z => no Pk.present (by simpa [PkM.key] using z)) fun z => no Pk.will (by simpa [PkM.key] using z)) fun z => no Pk.alive (by simpa [PkM.key] using z)) fun z => no Pk.clean (by simpa [PkM.key] using z)) fun z => no Pk.client (by simpa [PkM.key] using z)
  refine f79_spec rx.wants ry.wants rx.nw (fun e14 => ⟨_, rfl, brB_of (fun _ => f80_spec rx.codes ry.codes rx.nc (fun e15 => ⟨_, rfl, h1 ?_⟩) fun z => ⟨_, rfl, no Pk.codes (by simpa [PkM.key] using z)⟩) fun z => by cases z⟩) fun z => ⟨_, rfl, brB_of (fun y => by cases y) fun _ => no Pk.wants (by simpa [PkM.key] using z)⟩
  unfold PkM.key
  simp only [beq_iff_eq, decide_eq_true_eq] at e0 e1 e2 e3 e4 e5 e6 e7 e8 e9 e10 e11 e12 e13
  rw [e0, e1, e2, e3, e4, e5, e6, e7, e8, e9, e10, e11, e12, e13, e14, e15]
end
end Go.G.YtciepfobnaemmaaDoor
