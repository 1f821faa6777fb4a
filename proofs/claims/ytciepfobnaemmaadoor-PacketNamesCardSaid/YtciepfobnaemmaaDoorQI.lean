/- PacketNames. -/
import Derived.Test.YtciepfobnaemmaaDoorQH
import Derived.Test.YtciepfobnaemmaaDoorLB
import Derived.Test.YtciepfobnaemmaaDoorProg
set_option maxRecDepth 100000
namespace Go.G.YtciepfobnaemmaaDoor
open Go.RowKit
open Value (string slice int bool agg)
def f25_J : Nat → List Nat × Nat := jOf []



theorem f25_go {w0 : World} {K : Value → AH → Prop} (b : Option Addr) (a e : Nat) (h : AH)
  (hv : (brB (decide ((((a : Nat) : Int) < (128 : Int)))) (newB w0 h (AB.cells [(int .u8 (16 : Int)), (int .u8 (IntKind.wrap .u8 ((a : Nat) : Int)))] (List.length [(int .u8 (16 : Int)), (int .u8 (IntKind.wrap .u8 ((a : Nat) : Int)))])) (fun g c => (rowsOf w0 c 1 b a (fun i => (App w0 c 1 1 (some (Addr.mk g 0 none)) 2 2 a i (fun k m n => (K (slice k (2 + a) m) n))))))) (((0 : Int) ≤ (7 : Int)) ∧ (newB w0 h (AB.cells [(int .u8 (16 : Int)), (int .u8 (IntKind.wrap .u8 (((BitVec.toNat ((BitVec.ofInt 8 (IntKind.wrap .u8 (IntKind.wrap .i64 (((BitVec.toNat ((BitVec.ofInt 64 ((a : Nat) : Int)) &&& (BitVec.ofInt 64 (127 : Int)))) : Nat) : Int)))) ||| (BitVec.ofInt 8 (128 : Int)))) : Nat) : Int))), (int .u8 (IntKind.wrap .u8 (Int.fdiv ((a : Nat) : Int) (128 : Int))))] (List.length [(int .u8 (16 : Int)), (int .u8 (IntKind.wrap .u8 (((BitVec.toNat ((BitVec.ofInt 8 (IntKind.wrap .u8 (IntKind.wrap .i64 (((BitVec.toNat ((BitVec.ofInt 64 ((a : Nat) : Int)) &&& (BitVec.ofInt 64 (127 : Int)))) : Nat) : Int)))) ||| (BitVec.ofInt 8 (128 : Int)))) : Nat) : Int))), (int .u8 (IntKind.wrap .u8 (Int.fdiv ((a : Nat) : Int) (128 : Int))))])) (fun o d => (rowsOf w0 d 1 b a (fun p => (App w0 d 1 1 (some (Addr.mk o 0 none)) 3 3 a p (fun q r s => (K (slice q (3 + a) r) s)))))))))) :
  EvC Proofs.Tryd.prog w0 25 ([(.slice b a e)]).toArray K h := EvC_intro (P := Proofs.Tryd.prog) f25_J (Eq.mp (by kernel_rfl) hv)
def f8_J : Nat → List Nat × Nat := jOf [(3, (0 :: (rn 40 36 (rn 162 121 []))), 1), (4, (0 :: (rn 162 158 [])), 1), (5, (0 :: (rn 42 38 (rn 162 117 []))), 1), (8, (0 :: (rn 42 38 (rn 53 8 (rn 162 108 [])))), 1), (12, (0 :: (rn 9 6 (rn 67 57 (rn 162 94 [])))), 0), (13, (0 :: (rn 9 6 (rn 162 152 []))), 0), (16, (0 :: (rn 9 6 (10 :: (rn 162 150 [])))), 0), (20, (rn 9 9 (10 :: (11 :: (rn 162 149 [99999])))), 0), (22, (rn 9 9 (10 :: (11 :: (rn 162 146 [99999])))), 1)]

def f8_3 (w0 : World) (K : Value → AH → Prop) (a : Option Addr) (b c : Nat) (d : Option Addr) (e g : Nat) (i : Bool) (k m : Int) (n : Bool) (o : ByteArray) (p : Option Addr) (q r : Nat) (s : Int) (t : Bool) (u : Int) (x : ByteArray) (y : Bool) (z : Int) (A B : Bool) (C : Int) (D : Option Addr) (E F : Nat) (G : Option Addr) (L M : Nat) (h : AH) : Prop :=
  ∀ j : Nat → Value, LPk Proofs.Tryd.prog w0 (EvC Proofs.Tryd.prog w0) f8_J 8 K 3 (jv j 1 1 (.v (.slice a b c) :: (.v (.slice d e g) :: (.bp 0 0 :: (jv j 40 36 (.v (.bool i) :: (jv j 162 121 []))))))) [some [(.int .i64 k), (.int .i64 m), (.bool n), (.string o), (.slice p q r), (.int .i64 s), (.bool t), (.int .i64 u), (.string x), (.bool y), (.int .i64 z), (.bool A), (.bool B), (.int .i64 C), (.slice D E F), (.slice G L M)]] h

def f8_4 (w0 : World) (K : Value → AH → Prop) (a : Option Addr) (b c : Nat) (d : Option Addr) (e g : Nat) (i k : Int) (m : Bool) (n : ByteArray) (o : Option Addr) (p q : Nat) (r : Int) (s : Bool) (t : Int) (u : ByteArray) (x : Bool) (y : Int) (z A : Bool) (B : Int) (C : Option Addr) (D E : Nat) (F : Option Addr) (G L : Nat) (h : AH) : Prop :=
  ∀ j : Nat → Value, LPk Proofs.Tryd.prog w0 (EvC Proofs.Tryd.prog w0) f8_J 8 K 4 (jv j 1 1 (.v (.slice a b c) :: (.v (.slice d e g) :: (.bp 0 0 :: (jv j 162 158 []))))) [some [(.int .i64 i), (.int .i64 k), (.bool m), (.string n), (.slice o p q), (.int .i64 r), (.bool s), (.int .i64 t), (.string u), (.bool x), (.int .i64 y), (.bool z), (.bool A), (.int .i64 B), (.slice C D E), (.slice F G L)]] h

def f8_5 (w0 : World) (K : Value → AH → Prop) (a : Option Addr) (b c : Nat) (d : Option Addr) (e g : Nat) (i : Option Addr) (k m : Nat) (n o : Int) (p q : Int) (r : Bool) (s : ByteArray) (t : Option Addr) (u x : Nat) (y : Int) (z : Bool) (A : Int) (B : ByteArray) (C : Bool) (D : Int) (E F : Bool) (G : Int) (L : Option Addr) (M N : Nat) (Q : Option Addr) (R T : Nat) (h : AH) : Prop :=
  ∀ j : Nat → Value, LPk Proofs.Tryd.prog w0 (EvC Proofs.Tryd.prog w0) f8_J 8 K 5 (jv j 1 1 (.v (.slice a b c) :: (.v (.slice d e g) :: (.bp 0 0 :: (jv j 42 38 (.v (.slice i k m) :: (.v (.int .i64 n) :: (.v (.int .i64 o) :: (jv j 162 117 []))))))))) [some [(.int .i64 p), (.int .i64 q), (.bool r), (.string s), (.slice t u x), (.int .i64 y), (.bool z), (.int .i64 A), (.string B), (.bool C), (.int .i64 D), (.bool E), (.bool F), (.int .i64 G), (.slice L M N), (.slice Q R T)]] h

def f8_8 (w0 : World) (K : Value → AH → Prop) (a : Option Addr) (b c : Nat) (d : Option Addr) (e g : Nat) (i : Option Addr) (k m : Nat) (n o : Int) (p : Bool) (q r : Int) (s : Bool) (t : ByteArray) (u : Option Addr) (x y : Nat) (z : Int) (A : Bool) (B : Int) (C : ByteArray) (D : Bool) (E : Int) (F G : Bool) (L : Int) (M : Option Addr) (N Q : Nat) (R : Option Addr) (T U : Nat) (h : AH) : Prop :=
  ∀ j : Nat → Value, LPk Proofs.Tryd.prog w0 (EvC Proofs.Tryd.prog w0) f8_J 8 K 8 (jv j 1 1 (.v (.slice a b c) :: (.v (.slice d e g) :: (.bp 0 0 :: (jv j 42 38 (.v (.slice i k m) :: (.v (.int .i64 n) :: (.v (.int .i64 o) :: (jv j 53 8 (.v (.bool p) :: (jv j 162 108 []))))))))))) [some [(.int .i64 q), (.int .i64 r), (.bool s), (.string t), (.slice u x y), (.int .i64 z), (.bool A), (.int .i64 B), (.string C), (.bool D), (.int .i64 E), (.bool F), (.bool G), (.int .i64 L), (.slice M N Q), (.slice R T U)]] h

def f8_12 (w0 : World) (K : Value → AH → Prop) (a : Option Addr) (b c : Nat) (d : Option Addr) (e g : Nat) (i : Option Addr) (k m : Nat) (n : Bool) (h : AH) : Prop :=
  ∀ j : Nat → Value, LPk Proofs.Tryd.prog w0 (EvC Proofs.Tryd.prog w0) f8_J 8 K 12 (jv j 1 1 (.v (.slice a b c) :: (.v (.slice d e g) :: (jv j 9 6 (.v (.slice i k m) :: (jv j 67 57 (.v (.bool n) :: (jv j 162 94 [])))))))) [] h

def f8_13 (w0 : World) (K : Value → AH → Prop) (a : Option Addr) (b c : Nat) (d : Option Addr) (e g : Nat) (i : Option Addr) (k m : Nat) (h : AH) : Prop :=
  ∀ j : Nat → Value, LPk Proofs.Tryd.prog w0 (EvC Proofs.Tryd.prog w0) f8_J 8 K 13 (jv j 1 1 (.v (.slice a b c) :: (.v (.slice d e g) :: (jv j 9 6 (.v (.slice i k m) :: (jv j 162 152 [])))))) [] h

def f8_16 (w0 : World) (K : Value → AH → Prop) (a : Option Addr) (b c : Nat) (d : Option Addr) (e g : Nat) (i : Option Addr) (k m : Nat) (n : Int) (h : AH) : Prop :=
  ∀ j : Nat → Value, LPk Proofs.Tryd.prog w0 (EvC Proofs.Tryd.prog w0) f8_J 8 K 16 (jv j 1 1 (.v (.slice a b c) :: (.v (.slice d e g) :: (jv j 9 6 (.v (.slice i k m) :: (jv j 11 1 (.v (.int .i64 n) :: (jv j 162 150 [])))))))) [] h

def f8_20 (w0 : World) (K : Value → AH → Prop) (a : Option Addr) (b c : Nat) (d : Option Addr) (e g : Nat) (h : AH) : Prop :=
  ∀ j : Nat → Value, LPk Proofs.Tryd.prog w0 (EvC Proofs.Tryd.prog w0) f8_J 8 K 20 (jv j 9 9 (.v (.slice a b c) :: (jv j 12 2 (.v (.slice d e g) :: (jv j 162 149 []))))) [] h

def f8_22 (w0 : World) (K : Value → AH → Prop) (a : Option Addr) (b c : Nat) (d : Option Addr) (e g : Nat) (i k m : Int) (n : Bool) (o : ByteArray) (p : Option Addr) (q r : Nat) (s : Int) (t : Bool) (u : Int) (x : ByteArray) (y : Bool) (z : Int) (A B : Bool) (C : Int) (D : Option Addr) (E F : Nat) (G : Option Addr) (L M : Nat) (h : AH) : Prop :=
  ∀ j : Nat → Value, LPk Proofs.Tryd.prog w0 (EvC Proofs.Tryd.prog w0) f8_J 8 K 22 (jv j 9 9 (.v (.slice a b c) :: (jv j 12 2 (.v (.slice d e g) :: (.v (.func (Fn.func 25) #[] #[]) :: (.bp 0 0 :: (.v (.int .i64 i) :: (jv j 162 146 [])))))))) [some [(.int .i64 k), (.int .i64 m), (.bool n), (.string o), (.slice p q r), (.int .i64 s), (.bool t), (.int .i64 u), (.string x), (.bool y), (.int .i64 z), (.bool A), (.bool B), (.int .i64 C), (.slice D E F), (.slice G L M)]] h

theorem f8_3_in {w0 : World} {K : Value → AH → Prop} (a : Option Addr) (b c : Nat) (d : Option Addr) (e g : Nat) (i : Bool) (k m : Int) (n : Bool) (o : ByteArray) (p : Option Addr) (q r : Nat) (s : Int) (t : Bool) (u : Int) (v : ByteArray) (x : Bool) (y : Int) (z A : Bool) (B : Int) (C : Option Addr) (D E : Nat) (F : Option Addr) (G L : Nat) (h : AH)
  (hv : (brB i (EvC Proofs.Tryd.prog w0 17 #[] (fun N Q => (∃ M : Bool, ((N = (bool M)) ∧ (K (bool M) Q)))) h) (f8_4 w0 K a b c d e g k m n o p q r s t u v x y z A B C D E F G L h))) :
  f8_3 w0 K a b c d e g i k m n o p q r s t u v x y z A B C D E F G L h := fun j => LP_intro (P := Proofs.Tryd.prog) (Eq.mp (by kernel_rfl) hv)

theorem f8_4_in {w0 : World} {K : Value → AH → Prop} (b : Option Addr) (a c : Nat) (d : Option Addr) (e g : Nat) (i k : Int) (m : Bool) (n : ByteArray) (o : Option Addr) (p q : Nat) (r : Int) (s : Bool) (t : Int) (u : ByteArray) (v : Bool) (x : Int) (y z : Bool) (A : Int) (B : Option Addr) (C D : Nat) (E : Option Addr) (F G : Nat) (h : AH)
  (hv : (f8_5 w0 K b a c d e g b a c ((a : Nat) : Int) (0 : Int) i k m n o p q r s t u v x y z A B C D E F G h)) :
  f8_4 w0 K b a c d e g i k m n o p q r s t u v x y z A B C D E F G h := fun j => LP_intro (P := Proofs.Tryd.prog) (Eq.mp (by kernel_rfl) hv)

theorem f8_5_in {w0 : World} {K : Value → AH → Prop} (b : Option Addr) (c d : Nat) (e : Option Addr) (g i : Nat) (k : Option Addr) (m U : Nat) (n a : Int) (o p : Int) (q : Bool) (r : ByteArray) (s : Option Addr) (t u : Nat) (v : Int) (x : Bool) (y : Int) (z : ByteArray) (A : Bool) (B : Int) (C D : Bool) (E : Int) (F : Option Addr) (L M : Nat) (N : Option Addr) (Q R : Nat) (h : AH)
  (hv : (brB (decide ((a < n))) (∃ a0 : Addr, ((k = (some a0)) ∧ (((0 : Int) ≤ a) ∧ ((a < ((m : Nat) : Int)) ∧ (∃ V : Int, (((cellA w0 h (Addr.add a0 ((Int.toNat a) * 1))) = (some (int .u8 V))) ∧ (brB (V == (0 : Int)) (f8_8 w0 K b c d e g i k m U n a true o p q r s t u v x y z A B C D E F L M N Q R h) (f8_8 w0 K b c d e g i k m U n a (decide (((127 : Int) < V))) o p q r s t u v x y z A B C D E F L M N Q R h)))))))) (EvC Proofs.Tryd.prog w0 22 #[(agg #[(int .i64 o), (int .i64 p), (bool q), (string r), (slice s t u), (int .i64 v), (bool x), (int .i64 y), (string z), (bool A), (int .i64 B), (bool C), (bool D), (int .i64 E), (slice F L M), (slice N Q R)])] (fun a3 a1 => (∃ Y : Option Addr, (∃ T : Nat, (∃ Z : Nat, (∃ a2 : Int, ((a3 = (Value.tuple #[(slice Y T Z), (int .i64 a2)])) ∧ (brB (a2 != (0 : Int)) (f8_12 w0 K b c d e g i Y T Z true a1) (f8_12 w0 K b c d e g i Y T Z (decide ((((T : Nat) : Int) < (12 : Int)))) a1)))))))) h))) :
  f8_5 w0 K b c d e g i k m U n a o p q r s t u v x y z A B C D E F L M N Q R h := fun j => LP_intro (P := Proofs.Tryd.prog) (Eq.mp (by kernel_rfl) hv)

theorem f8_8_in {w0 : World} {K : Value → AH → Prop} (a : Option Addr) (b c : Nat) (d : Option Addr) (e g : Nat) (i : Option Addr) (k m : Nat) (n o : Int) (p : Bool) (q r : Int) (s : Bool) (t : ByteArray) (u : Option Addr) (v x : Nat) (y : Int) (z : Bool) (A : Int) (B : ByteArray) (C : Bool) (D : Int) (E F : Bool) (G : Int) (L : Option Addr) (M N : Nat) (Q : Option Addr) (R T : Nat) (h : AH)
  (hv : (brB p (EvC Proofs.Tryd.prog w0 17 #[] (fun V Y => (∃ U : Bool, ((V = (bool U)) ∧ (K (bool U) Y)))) h) (f8_5 w0 K a b c d e g i k m n (IntKind.wrap .i64 (o + (1 : Int))) q r s t u v x y z A B C D E F G L M N Q R T h))) :
  f8_8 w0 K a b c d e g i k m n o p q r s t u v x y z A B C D E F G L M N Q R T h := fun j => LP_intro (P := Proofs.Tryd.prog) (Eq.mp (by kernel_rfl) hv)

theorem f8_12_in {w0 : World} {K : Value → AH → Prop} (a : Option Addr) (b c : Nat) (d : Option Addr) (e g : Nat) (i : Option Addr) (k m : Nat) (n : Bool) (h : AH)
  (hv : (brB n (K (bool false) h) (f8_13 w0 K a b c d e g i k m h))) :
  f8_12 w0 K a b c d e g i k m n h := fun j => LP_intro (P := Proofs.Tryd.prog) (Eq.mp (by kernel_rfl) hv)

theorem f8_13_in {w0 : World} {K : Value → AH → Prop} (c : Option Addr) (d e : Nat) (g : Option Addr) (i k : Nat) (a : Option Addr) (b m : Nat) (h : AH)
  (hv : (∃ n : Addr, ((a = (some n)) ∧ (((0 : Int) ≤ (1 : Int)) ∧ (((1 : Int) < ((b : Nat) : Int)) ∧ (∃ o : Int, (((cellA w0 h (Addr.add n 1)) = (some (int .u8 o))) ∧ (brB (decide (((127 : Int) < o))) (f8_16 w0 K c d e g i k a b m (3 : Int) h) (f8_16 w0 K c d e g i k a b m (2 : Int) h))))))))) :
  f8_13 w0 K c d e g i k a b m h := fun j => LP_intro (P := Proofs.Tryd.prog) (Eq.mp (by kernel_rfl) hv)

theorem f8_16_in {w0 : World} {K : Value → AH → Prop} (p : Option Addr) (c x : Nat) (q : Option Addr) (d y : Nat) (g : Option Addr) (b i : Nat) (a : Int) (h : AH)
  (hv : (((0 : Int) ≤ a) ∧ ((a ≤ ((b : Nat) : Int)) ∧ (newB w0 h (AB.cells [] 0) (fun z r => (rowsOf w0 r 1 (cutA 1 g i (Int.toNat a)) (b - (Int.toNat a)) (fun A => (App w0 r 1 1 (some (Addr.mk z 0 none)) 0 0 (b - (Int.toNat a)) A (fun k B m => (∃ s : Addr, ((k = (some s)) ∧ (((0 : Int) ≤ (7 : Int)) ∧ (((7 : Int) < (((0 + (b - (Int.toNat a))) : Nat) : Int)) ∧ (∃ n : Int, (((cellA w0 m (Addr.add s 7)) = (some (int .u8 n))) ∧ (∃ e : Addr, ((k = (some e)) ∧ (((0 : Int) ≤ (7 : Int)) ∧ (((7 : Int) < (((0 + (b - (Int.toNat a))) : Nat) : Int)) ∧ (∃ o : List Go.Value, (∃ t : Nat, (((Array.size (Go.World.heap w0)) ≤ (Addr.block (Addr.add e 7))) ∧ (((none : Option Nat) = none) ∧ (((m (Addr.block (Addr.add e 7))) = (some (AB.cells o t))) ∧ ((((Addr.off (Addr.add e 7)) + (Array.size #[(int .u8 (IntKind.wrap .u8 (((BitVec.toNat ((BitVec.ofInt 8 n) ||| (BitVec.ofInt 8 (192 : Int)))) : Nat) : Int)))])) ≤ (List.length o)) ∧ (((0 : Int) ≤ (8 : Int)) ∧ (App w0 (AH.put m (Addr.block (Addr.add e 7)) (AB.cells (setCells o (Addr.off (Addr.add e 7)) [(int .u8 (IntKind.wrap .u8 (((BitVec.toNat ((BitVec.ofInt 8 n) ||| (BitVec.ofInt 8 (192 : Int)))) : Nat) : Int)))]) t)) 1 1 k (0 + (b - (Int.toNat a))) B 2 [(int .u8 (IntKind.wrap .u8 (Int.fdiv ((c : Nat) : Int) (256 : Int)))), (int .u8 (IntKind.wrap .u8 ((c : Nat) : Int)))] (fun C D u => (rowsOf w0 u 1 p c (fun E => (App w0 u 1 1 C ((0 + (b - (Int.toNat a))) + 2) D c E (fun F L M => (((0 : Int) ≤ (8 : Int)) ∧ (App w0 M 1 1 F (((0 + (b - (Int.toNat a))) + 2) + c) L 2 [(int .u8 (IntKind.wrap .u8 (Int.fdiv ((d : Nat) : Int) (256 : Int)))), (int .u8 (IntKind.wrap .u8 ((d : Nat) : Int)))] (fun N Q v => (rowsOf w0 v 1 q d (fun R => (App w0 v 1 1 N ((((0 + (b - (Int.toNat a))) + 2) + c) + 2) Q d R (fun T U V => (f8_20 w0 K g b i T (((((0 + (b - (Int.toNat a))) + 2) + c) + 2) + d) U V)))))))))))))))))))))))))))))))))))))))) :
  f8_16 w0 K p c x q d y g b i a h := fun j => LP_intro (P := Proofs.Tryd.prog) (Eq.mp (by kernel_rfl) hv)

theorem f8_20_in {w0 : World} {K : Value → AH → Prop} (d : Option Addr) (e g : Nat) (a : Option Addr) (b c : Nat) (h : AH)
  (hv : (EvC Proofs.Tryd.prog w0 25 #[(slice a b c)] (fun R T => (∃ i : Option Addr, (∃ k : Nat, (∃ m : Nat, ((R = (slice i k m)) ∧ (EvC Proofs.Tryd.prog w0 14 #[(slice i k m)] (fun U V => (∃ n : Int, (∃ o : Int, (∃ p : Bool, (∃ q : ByteArray, (∃ r : Option Addr, (∃ s : Nat, (∃ t : Nat, (∃ u : Int, (∃ v : Bool, (∃ x : Int, (∃ y : ByteArray, (∃ z : Bool, (∃ A : Int, (∃ B : Bool, (∃ C : Bool, (∃ D : Int, (∃ E : Option Addr, (∃ F : Nat, (∃ G : Nat, (∃ L : Option Addr, (∃ M : Nat, (∃ N : Nat, (∃ Q : Int, ((U = (Value.tuple #[(agg #[(int .i64 n), (int .i64 o), (bool p), (string q), (slice r s t), (int .i64 u), (bool v), (int .i64 x), (string y), (bool z), (int .i64 A), (bool B), (bool C), (int .i64 D), (slice E F G), (slice L M N)]), (int .i64 Q)])) ∧ (f8_22 w0 K d e g a b c Q n o p q r s t u v x y z A B C D E F G L M N V)))))))))))))))))))))))))) T)))))) h)) :
  f8_20 w0 K d e g a b c h := fun j => LP_intro (P := Proofs.Tryd.prog) (Eq.mp (by kernel_rfl) hv)

theorem f8_22_in {w0 : World} {K : Value → AH → Prop} (e : Option Addr) (g a7 : Nat) (c : Option Addr) (a d : Nat) (i k m : Int) (n : Bool) (o : ByteArray) (p : Option Addr) (q r : Nat) (s : Int) (t : Bool) (u : Int) (v : ByteArray) (x : Bool) (y : Int) (z A : Bool) (B : Int) (C : Option Addr) (D E : Nat) (F : Option Addr) (L M : Nat) (h : AH)
  (hv : (brB (i != (0 : Int)) (K (bool false) h) (EvC Proofs.Tryd.prog w0 22 #[(agg #[(int .i64 k), (int .i64 m), (bool n), (string o), (slice p q r), (int .i64 s), (bool t), (int .i64 u), (string v), (bool x), (int .i64 y), (bool z), (bool A), (int .i64 B), (slice C D E), (slice F L M)])] (fun a8 a9 => (∃ N : Option Addr, (∃ Q : Nat, (∃ b0 : Nat, (∃ R : Int, ((a8 = (Value.tuple #[(slice N Q b0), (int .i64 R)])) ∧ (newB w0 a9 (AB.cells [] (List.length ([] : List Go.Value))) (fun b1 T => (rowsOf w0 T 1 c a (fun b2 => (App w0 T 1 1 (some (Addr.mk b1 0 none)) 0 0 a b2 (fun b3 b4 b5 => (App w0 b5 1 1 b3 (0 + a) b4 1 [(int .u8 (0 : Int))] (fun b6 b7 b8 => (EvC Proofs.Tryd.prog w0 25 #[(slice b6 ((0 + a) + 1) b7)] (fun b9 c0 => (∃ U : Option Addr, (∃ V : Nat, (∃ Y : Nat, ((b9 = (slice U V Y)) ∧ (EvC Proofs.Tryd.prog w0 14 #[(slice U V Y)] (fun c1 c2 => (∃ c3 : Int, (∃ c4 : Int, (∃ c5 : Bool, (∃ c6 : ByteArray, (∃ c7 : Option Addr, (∃ c8 : Nat, (∃ c9 : Nat, (∃ d0 : Int, (∃ d1 : Bool, (∃ d2 : Int, (∃ d3 : ByteArray, (∃ d4 : Bool, (∃ d5 : Int, (∃ d6 : Bool, (∃ d7 : Bool, (∃ d8 : Int, (∃ d9 : Option Addr, (∃ e0 : Nat, (∃ e1 : Nat, (∃ e2 : Option Addr, (∃ e3 : Nat, (∃ e4 : Nat, (∃ Z : Int, ((c1 = (Value.tuple #[(agg #[(int .i64 c3), (int .i64 c4), (bool c5), (string c6), (slice c7 c8 c9), (int .i64 d0), (bool d1), (int .i64 d2), (string d3), (bool d4), (int .i64 d5), (bool d6), (bool d7), (int .i64 d8), (slice d9 e0 e1), (slice e2 e3 e4)]), (int .i64 Z)])) ∧ (((0 : Int) ≤ (IntKind.wrap .i64 (((a : Nat) : Int) - (1 : Int)))) ∧ (((IntKind.wrap .i64 (((a : Nat) : Int) - (1 : Int))) ≤ ((d : Nat) : Int)) ∧ (EvC Proofs.Tryd.prog w0 25 #[(slice c (Int.toNat (IntKind.wrap .i64 (((a : Nat) : Int) - (1 : Int)))) d)] (fun e5 e6 => (∃ a0 : Option Addr, (∃ a1 : Nat, (∃ a2 : Nat, ((e5 = (slice a0 a1 a2)) ∧ (EvC Proofs.Tryd.prog w0 14 #[(slice a0 a1 a2)] (fun e7 b => (∃ e8 : Int, (∃ e9 : Int, (∃ g0 : Bool, (∃ g1 : ByteArray, (∃ g2 : Option Addr, (∃ g3 : Nat, (∃ g4 : Nat, (∃ g5 : Int, (∃ g6 : Bool, (∃ g7 : Int, (∃ g8 : ByteArray, (∃ g9 : Bool, (∃ i0 : Int, (∃ i1 : Bool, (∃ i2 : Bool, (∃ i3 : Int, (∃ i4 : Option Addr, (∃ i5 : Nat, (∃ i6 : Nat, (∃ i7 : Option Addr, (∃ i9 : Nat, (∃ k0 : Nat, (∃ a3 : Int, ((e7 = (Value.tuple #[(agg #[(int .i64 e8), (int .i64 e9), (bool g0), (string g1), (slice g2 g3 g4), (int .i64 g5), (bool g6), (int .i64 g7), (string g8), (bool g9), (int .i64 i0), (bool i1), (bool i2), (int .i64 i3), (slice i4 i5 i6), (slice i7 i9 k0)]), (int .i64 a3)])) ∧ (brB (R == (0 : Int)) (rowsOf w0 b 1 N Q (fun k1 => (∃ a4 : ByteArray, ((k1 = (intsOf a4)) ∧ (rowsOf w0 b 1 e g (fun k2 => (∃ a5 : ByteArray, ((k2 = (intsOf a5)) ∧ (brB (decide ((a4 = a5))) (brB (Z == (3 : Int)) (brB (a3 == (3 : Int)) (EvC Proofs.Tryd.prog w0 17 #[] (fun k3 k4 => (∃ a6 : Bool, ((k3 = (bool a6)) ∧ (K (bool a6) k4)))) b) (K (bool false) b)) (K (bool false) b)) (K (bool false) b)))))))))) (K (bool false) b))))))))))))))))))))))))))) e6)))))) c2)))))))))))))))))))))))))))) c0)))))) b8))))))))))))))) h))) :
  f8_22 w0 K e g a7 c a d i k m n o p q r s t u v x y z A B C D E F L M h := fun j => LP_intro (P := Proofs.Tryd.prog) (Eq.mp (by kernel_rfl) hv)

theorem f8_go {w0 : World} {K : Value → AH → Prop} (Q a : Int) (b : Bool) (c : ByteArray) (d : Option Addr) (e g : Nat) (i : Int) (k : Bool) (m : Int) (n : ByteArray) (o : Bool) (p : Int) (q r : Bool) (s : Int) (t : Option Addr) (u v : Nat) (x : Option Addr) (y z : Nat) (C : Option Addr) (A D : Nat) (E : Option Addr) (B F : Nat) (h : AH)
  (hv : (EvC Proofs.Tryd.prog w0 19 #[(agg #[(int .i64 (1 : Int)), (int .i64 a), (bool b), (string c), (slice d e g), (int .i64 i), (bool k), (int .i64 m), (string n), (bool o), (int .i64 p), (bool q), (bool r), (int .i64 s), (slice t u v), (slice x y z)])] (fun R L => (∃ M : Bool, ((R = (bool M)) ∧ (brB (!M) (f8_3 w0 K C A D E B F true (1 : Int) a b c d e g i k m n o p q r s t u v x y z L) (EvC Proofs.Tryd.prog w0 23 #[(agg #[(int .i64 (1 : Int)), (int .i64 a), (bool b), (string c), (slice d e g), (int .i64 i), (bool k), (int .i64 m), (string n), (bool o), (int .i64 p), (bool q), (bool r), (int .i64 s), (slice t u v), (slice x y z)])] (fun T G => (∃ N : Bool, ((T = (bool N)) ∧ (brB (!N) (f8_3 w0 K C A D E B F true (1 : Int) a b c d e g i k m n o p q r s t u v x y z G) (brB (decide (((100 : Int) < ((A : Nat) : Int)))) (f8_3 w0 K C A D E B F true (1 : Int) a b c d e g i k m n o p q r s t u v x y z G) (f8_3 w0 K C A D E B F (decide (((100 : Int) < ((B : Nat) : Int)))) (1 : Int) a b c d e g i k m n o p q r s t u v x y z G)))))) L))))) h)) :
  EvC Proofs.Tryd.prog w0 8 ([(.agg #[(.int .i64 Q), (.int .i64 a), (.bool b), (.string c), (.slice d e g), (.int .i64 i), (.bool k), (.int .i64 m), (.string n), (.bool o), (.int .i64 p), (.bool q), (.bool r), (.int .i64 s), (.slice t u v), (.slice x y z)]), (.slice C A D), (.slice E B F)]).toArray K h := EvC_intro (P := Proofs.Tryd.prog) f8_J (Eq.mp (by kernel_rfl) hv)
/-! ### PacketNames -/
section
variable {w0 : World} {K : Value → AH → Prop} {h : AH} {R X : List (Nat × AB)} {c : Nat}
theorem App_byts {B : List (Nat × AB)} {a : Option Addr} {l x : List UInt8} {n m : Nat} {ys : List Value} {K : Option Addr → Nat → AH → Prop} (hn : n = l.length) (hm : m = x.length) (hy : ys = u8s x) (v : SlV 1 a l.length c (u8s l)) (w : Own w0 h (slB a (u8s l) (c * 1) ++ B)) (hl : l.length + x.length ≤ 100000000000000)
    (hk : ∀ a' c' h', SlV 1 a' (l ++ x).length c' (u8s (l ++ x)) → Own w0 h' (slB a' (u8s (l ++ x)) (c' * 1) ++ B) → K a' c' h') : App w0 h 1 1 a n c m ys K := by
  subst hn hm hy
  exact App_bytes v w hl hk
theorem two_cells {n : Nat} (h : n < 65536) : [Value.int .u8 (IntKind.u8.wrap (Int.fdiv ((n : Nat) : Int) (256 : Int))), Value.int .u8 (IntKind.u8.wrap ((n : Nat) : Int))] = u8s (fixedV n 2) := by
  rw [fdivN n 256 (z := 256) rfl, wrap8, wrap8, fixed2]
  simp [u8s, UInt8.toNat_ofNat']
/-- whole. -/
theorem f25_spec {a : Option Addr} {l : List UInt8} {n : Nat} (hn : n = l.length) (w : Own w0 h X) (r : Rdr w0 R a c l) (hs : R ⊆ X) (hl : l.length < 16384)
    (hk : ∀ h' a' c', SlV 1 a' (wholeP l).length c' (u8s (wholeP l)) → Own w0 h' (slB a' (u8s (wholeP l)) (c' * 1) ++ X) → K (.slice a' (wholeP l).length c') h') : EvC Go.Proofs.Tryd.prog w0 25 #[.slice a n c] K h := by
  subst hn
  refine f25_go _ _ _ _ (brB_of (fun z => ?_) fun z => ?_)
  · have z : l.length < 128 := by have := of_decide_eq_true z; omega
    have e1 : [Value.int .u8 (16 : Int), Value.int .u8 (IntKind.u8.wrap ((l.length : Nat) : Int))] = u8s [16, UInt8.ofNat l.length] := by
      rw [wrap8s (by omega)]
      simp [u8s, UInt8.toNat_ofNat', Nat.mod_eq_of_lt (show l.length < 256 by omega)]
    have ew : wholeP l = [16, UInt8.ofNat l.length] ++ l := by unfold wholeP; rw [putV_small z]; rfl
    rw [e1, show (u8s [16, UInt8.ofNat l.length]).length = 2 from rfl]
    intro b hb hbn
    have w2 := Own.new (o := .cells (u8s [16, UInt8.ofNat l.length]) 2) w hb hbn
    have v2 : SlV 1 (some ⟨b, 0, none⟩) [16, UInt8.ofNat l.length].length 2 (u8s [16, UInt8.ofNat l.length]) := ⟨rfl, Nat.le_refl _, rfl, rfl⟩
    refine rowsOf_of (r.at w2 fun x hx => List.mem_cons_of_mem _ (hs hx)) (by rw [u8s_length]; omega) ?_
    refine App_byts (B := X) rfl rfl rfl v2 w2 (by show 2 + _ ≤ _; omega) fun a3 c3 h3 v3 w3 => ?_
    rw [← ew] at v3 w3
    have := hk h3 a3 c3 v3 w3
    rw [ew, List.length_append] at this
    exact this
  · have z : ¬ l.length < 128 := by have := of_decide_eq_false z; omega
    have a1 : l.length &&& 127 = l.length % 128 := Nat.and_two_pow_sub_one_eq_mod l.length 7
    have a2 : (l.length % 128) ||| 128 = l.length % 128 + 128 := by
      have := Nat.two_pow_add_eq_or_of_lt (i := 7) (b := l.length % 128) (by omega) 1
      rw [Nat.or_comm, show (128 : Nat) = 2 ^ 7 * 1 from rfl, ← this]
      omega
    have m1 : IntKind.u8.wrap (((BitVec.toNat ((BitVec.ofInt 8 (IntKind.u8.wrap (IntKind.i64.wrap (((BitVec.toNat ((BitVec.ofInt 64 ((l.length : Nat) : Int)) &&& (BitVec.ofInt 64 (127 : Int)))) : Nat) : Int)))) ||| (BitVec.ofInt 8 (128 : Int)))) : Nat) : Int) = ((l.length % 128 + 128 : Nat) : Int) := by
      rw [and64 (c := 127) (z := 127) rfl (by omega) (by decide), a1, wrap8s (n := l.length % 128) (by omega)]
      have := or8 (a := l.length % 128) (b := 128) (by omega) (by decide) (by rw [a2]; omega)
      rw [a2] at this
      exact this
    have m2 : IntKind.u8.wrap (Int.fdiv ((l.length : Nat) : Int) (128 : Int)) = ((l.length / 128 : Nat) : Int) := by rw [fdivN l.length 128 (z := 128) rfl, wrap8s (by omega)]
    have e1 : [Value.int .u8 (16 : Int), Value.int .u8 ((l.length % 128 + 128 : Nat) : Int), Value.int .u8 ((l.length / 128 : Nat) : Int)] = u8s [16, UInt8.ofNat (l.length % 128 + 128), UInt8.ofNat (l.length / 128)] := by
      simp [u8s, UInt8.toNat_ofNat', Nat.mod_eq_of_lt (show l.length % 128 + 128 < 256 by omega), Nat.mod_eq_of_lt (show l.length / 128 < 256 by omega)]
    have ew : wholeP l = [16, UInt8.ofNat (l.length % 128 + 128), UInt8.ofNat (l.length / 128)] ++ l := by unfold wholeP; rw [putV_step z, putV_small (by omega)]; rfl
    refine ⟨by decide, ?_⟩
    rw [m1, m2, e1, show (u8s [16, UInt8.ofNat (l.length % 128 + 128), UInt8.ofNat (l.length / 128)]).length = 3 from rfl]
    intro b hb hbn
    have w2 := Own.new (o := .cells (u8s [16, UInt8.ofNat (l.length % 128 + 128), UInt8.ofNat (l.length / 128)]) 3) w hb hbn
    have v2 : SlV 1 (some ⟨b, 0, none⟩) [16, UInt8.ofNat (l.length % 128 + 128), UInt8.ofNat (l.length / 128)].length 3 (u8s [16, UInt8.ofNat (l.length % 128 + 128), UInt8.ofNat (l.length / 128)]) := ⟨rfl, Nat.le_refl _, rfl, rfl⟩
    refine rowsOf_of (r.at w2 fun x hx => List.mem_cons_of_mem _ (hs hx)) (by rw [u8s_length]; omega) ?_
    refine App_byts (B := X) rfl rfl rfl v2 w2 (by show 3 + _ ≤ _; omega) fun a3 c3 h3 v3 w3 => ?_
    rw [← ew] at v3 w3
    have := hk h3 a3 c3 v3 w3
    rw [ew, List.length_append] at this
    exact this
/-- Decode of a whole. -/
theorem whole_run {a : Option Addr} {l : List UInt8} {n : Nat} {Q : Value → AH → Prop} (T : TabOk w0) (hn : n = l.length) (w : Own w0 h X) (r : Rdr w0 R a c l) (hs : R ⊆ X) (hl : l.length < 16384)
    (hk : ∀ h' m e Y, (m.key, e) = decL (wholeP l) → PkV m → Own w0 h' (ownP m ++ (Y ++ X)) → Q (.tuple #[m.agg, .int .i64 e]) h') :
    EvC Go.Proofs.Tryd.prog w0 25 #[.slice a n c] (fun x h' => ∃ (p : Option Addr) (n d : Nat), x = .slice p n d ∧ EvC Go.Proofs.Tryd.prog w0 14 #[.slice p n d] Q h') h := by
  refine f25_spec hn w r hs hl fun h2 a2 c2 v2 w2 => ⟨_, _, _, rfl, ?_⟩
  have lw : (wholeP l).length ≤ 20000 := by
    unfold wholeP
    have := (putV_len 1 l.length (by omega)).2
    rw [List.length_cons, List.length_append]
    omega
  exact f14_spec T w2 (own_rdr v2 (by omega)) (List.subset_append_left ..) fun h3 m e em v w => hk h3 m e _ em v w
theorem f8_22s {q : PkM} {a9 a44 : Option Addr} {c9 c45 n9 n44 : Nat} {B body : List UInt8} {Y : List (Nat × AB)} (T : TabOk w0) (e9 : n9 = B.length) (e44 : n44 = body.length) (hB : encP q.key = B) (hq : MayK q.key) (sq : smallP q.key) (vq : PkV q) (bl : body.length ≤ 10000) (b1 : 1 ≤ body.length) (le : B.length ≤ 1003) (d2 : (decL (wholeP (body ++ [0]))).2 = 3) (d3 : (decL (wholeP (body.take (body.length - 1)))).2 = 3)
    (r9 : Rdr w0 (slB a9 (u8s B) (c9 * 1)) a9 c9 B) (r46 : Rdr w0 (slB a44 (u8s body) (c45 * 1)) a44 c45 body) (cb : body.length ≤ c45) (wq : Own w0 h (ownP q ++ (Y ++ (slB a44 (u8s body) (c45 * 1) ++ (slB a9 (u8s B) (c9 * 1) ++ []))))) (hk : ∀ h', K (.bool true) h') : f8_22 w0 K a9 n9 c9 a44 n44 c45 (0 : Int) q.kind q.id q.dup q.topic q.pa q.pay.length q.pc q.qos q.ret q.til q.client q.clean q.alive q.will q.present q.code q.wa q.wants.length q.wc q.ca q.codes.length q.cc h := by
  subst e9 e44
  refine f8_22_in _ _ _ _ _ _ _ _ _ _ _ _ _ _ _ _ _ _ _ _ _ _ _ _ _ _ _ _ _ _ (brB_of (fun z => by cases z) fun _ => f22_spec T wq (fun h' w' => vq.rd w' (List.subset_append_left ..) sq) (fun _ h78 a79 c79 v79 w79 => ⟨_, _, _, _, rfl, fun b2 hb2 hn2 => ?_⟩) fun n => absurd hq n)
  rw [hB] at v79 w79
  have w84 := Own.new (o := .cells [] 0) w79 hb2 hn2
  have r79 := own_rdr (w0 := w0) v79 (by omega)
  have s46 : ∀ {A : List (Nat × AB)}, slB a44 (u8s body) (c45 * 1) ⊆ A ++ (slB a79 (u8s B) (c79 * 1) ++ (ownP q ++ (Y ++ (slB a44 (u8s body) (c45 * 1) ++ (slB a9 (u8s B) (c9 * 1) ++ []))))) := by intro A x hx; exact List.mem_append_right _ (List.mem_append_right _ (List.mem_append_right _ (List.mem_append_right _ (List.mem_append_left _ hx))))
  have s9 : ∀ {A : List (Nat × AB)}, slB a9 (u8s B) (c9 * 1) ⊆ A ++ (slB a79 (u8s B) (c79 * 1) ++ (ownP q ++ (Y ++ (slB a44 (u8s body) (c45 * 1) ++ (slB a9 (u8s B) (c9 * 1) ++ []))))) := by intro A x hx; exact List.mem_append_right _ (List.mem_append_right _ (List.mem_append_right _ (List.mem_append_right _ (List.mem_append_right _ (List.mem_append_left _ hx)))))
  have s79 : ∀ {A : List (Nat × AB)}, slB a79 (u8s B) (c79 * 1) ⊆ A ++ (slB a79 (u8s B) (c79 * 1) ++ (ownP q ++ (Y ++ (slB a44 (u8s body) (c45 * 1) ++ (slB a9 (u8s B) (c9 * 1) ++ []))))) := by intro A x hx; exact List.mem_append_right _ (List.mem_append_left _ hx)
  refine rowsOf_of (r46.at w84 (s46 (A := [_]))) (by rw [u8s_length]; omega) ?_
  refine App_byts (l := []) (x := body) rfl (by omega) rfl (c := 0) (a := some ⟨b2, 0, none⟩) ⟨rfl, Nat.le_refl _, rfl, rfl⟩ w84 (by rw [List.length_nil]; omega) fun a86 c87 h88 v88 w88 => ?_
  rw [List.nil_append] at v88 w88
  refine App_byts (l := body) (x := [0]) (by omega) rfl rfl v88 w88 (by rw [List.length_singleton]; omega) fun a89 c90 h91 v91 w91 => ?_
  have l91 : (body ++ [0]).length = body.length + 1 := by rw [List.length_append, List.length_singleton]
  refine whole_run T (by omega) w91 (own_rdr v91 (by omega)) (List.subset_append_left ..) (by omega) fun h98 q2 e2 Y2 em2 vq2 wq2 => ⟨_, _, _, _, _, _, _, _, _, _, _, _, _, _, _, _, _, _, _, _, _, _, _, rfl, ?_⟩
  have e23 : e2 = 3 := by have := congrArg Prod.snd em2; rw [d2] at this; exact this
  have ei : IntKind.i64.wrap (((body.length : Nat) : Int) - 1) = ((body.length - 1 : Nat) : Int) := by rw [wrap64 (by omega) (by omega)]; omega
  rw [ei, Int.toNat_natCast]
  have wA : Own w0 h98 ((ownP q2 ++ (Y2 ++ slB a89 (u8s (body ++ [0])) (c90 * 1))) ++ (slB a79 (u8s B) (c79 * 1) ++ (ownP q ++ (Y ++ (slB a44 (u8s body) (c45 * 1) ++ (slB a9 (u8s B) (c9 * 1) ++ [])))))) := by
    rw [List.append_assoc, List.append_assoc]; exact wq2
  refine ⟨by omega, by omega, whole_run T (l := body.take (body.length - 1)) (by rw [List.length_take]; omega) wA (take_rdr r46) s46 (by rw [List.length_take]; omega) fun h128 q3 e3 Y3 em3 vq3 wq3 => ⟨_, _, _, _, _, _, _, _, _, _, _, _, _, _, _, _, _, _, _, _, _, _, _, rfl, ?_⟩⟩
  have e33 : e3 = 3 := by have := congrArg Prod.snd em3; rw [d3] at this; exact this
  have wB : Own w0 h128 ((ownP q3 ++ (Y3 ++ (ownP q2 ++ (Y2 ++ slB a89 (u8s (body ++ [0])) (c90 * 1))))) ++ (slB a79 (u8s B) (c79 * 1) ++ (ownP q ++ (Y ++ (slB a44 (u8s body) (c45 * 1) ++ (slB a9 (u8s B) (c9 * 1) ++ [])))))) := by
    simpa only [List.append_assoc] using wq3
  subst e23 e33
  have fin : EvC Go.Proofs.Tryd.prog w0 17 #[] (fun x h29 => ∃ t : Bool, x = .bool t ∧ K (.bool t) h29) h128 := f17_spec T wB fun h6 _ => ⟨_, rfl, hk h6⟩
  refine brB_of (fun _ => rows8 (r79.at wB s79) (by rw [hB]) (rows8 (r9.at wB s9) rfl (brB_of (fun _ => brB_of (fun _ => brB_of (fun _ => fin) fun z => by cases z) fun z => by cases z) fun z => by simp at z))) fun z => by cases z
theorem f8_16s {m : PkM} {a1 a2 a9 : Option Addr} {c1 c2 c9 hd : Nat} {name word : List UInt8} (T : TabOk w0) (rm : ∀ h', PkRd w0 h' m) (hm : MayK m.key) (km : m.kind = 1) (h1 : Rd0 w0 a1 (u8s name)) (h2 : Rd0 w0 a2 (u8s word)) (ln : name.length ≤ 100) (lw : word.length ≤ 100) (ht : textB name = true)
    (v : SlV 1 a9 (encP m.key).length c9 (u8s (encP m.key))) (w : Own w0 h (slB a9 (u8s (encP m.key)) (c9 * 1) ++ [])) (he : hd = 1 + (putV (restP m.key).1.length).length) (hk : ∀ h', K (.bool true) h') : f8_16 w0 K a1 name.length c1 a2 word.length c2 a9 (encP m.key).length c9 ((hd : Nat) : Int) h := by
  obtain ⟨f, t, hf, er, lt, d1, d2, d3⟩ := names_dec hm (show m.key.kind = 1 from km) ln lw ht
  have ee : encP m.key = UInt8.ofNat (m.key.kind.toNat * 16 + (restP m.key).2) :: (putV (restP m.key).1.length ++ (restP m.key).1) := rfl
  have le := enc_le hm
  have ml : (textP mqttL).length = 6 := rfl
  have r9 := own_rdr (w0 := w0) v (by omega)
  have dr : (encP m.key).drop hd = (restP m.key).1 := by
    rw [ee, he, Nat.add_comm, List.drop_succ_cons, List.drop_left' rfl]
  have lenE : (encP m.key).length = hd + (restP m.key).1.length := by rw [ee, List.length_cons, List.length_append, he]; omega
  have bk := enc_back hm
  generalize hB : encP m.key = B at *
  clear ee
  generalize (restP m.key).1 = rest at *
  have lr : rest.length = 8 + t.length := by rw [er]; simp only [List.length_append, List.length_cons]; omega
  have cp := v.2.1
  have eN : B.length - hd = rest.length := by omega
  refine f8_16_in _ _ _ _ _ _ _ _ _ _ _ ⟨by omega, by omega, ?_⟩
  rw [Int.toNat_natCast, eN]
  intro b hb hbn
  have w1 := Own.new (o := .cells [] 0) w hb hbn
  have cut := rd8_cut (k := hd) (r9.at w1 fun x hx => List.mem_cons_of_mem _ (List.mem_append_left _ hx)) cp (by omega)
  rw [dr] at cut
  refine rowsOf_of cut (by rw [u8s_length]; omega) ?_
  refine App_byts (l := []) (x := rest) (B := slB a9 (u8s B) (c9 * 1) ++ []) rfl rfl rfl (c := 0) (a := some ⟨b, 0, none⟩) ⟨rfl, Nat.le_refl _, rfl, rfl⟩ w1 (by rw [List.length_nil]; omega) fun a25 c25 h27 v25 w25 => ?_
  rw [List.nil_append] at v25 w25
  obtain ⟨s1, s2, s3⟩ := v25
  cases a25 with
  | none => exact absurd s3.1 (by omega)
  | some ad =>
  have hbd : ad = ⟨ad.block, 0, none⟩ := by obtain ⟨o1, o2⟩ := s3; cases ad; simp_all
  have ea : Addr.add ad 7 = ⟨ad.block, 0 + 7, none⟩ := by rw [hbd, add_plain]
  have hat : cellA w0 h27 (Addr.add ad 7) = some (.int .u8 ((f : Nat) : Int)) := by
    rw [ea]
    have := own_cell (j := 7) w25.ge w25.hd (x := .int .u8 ((f : Nat) : Int)) (by rw [er]; show some (Value.int .u8 (((UInt8.ofNat f).toNat : Nat) : Int)) = some _; rw [UInt8.toNat_ofNat', Nat.mod_eq_of_lt (show f < 2 ^ 8 by omega)])
    rw [add_plain] at this
    exact this
  have ev : IntKind.u8.wrap (((BitVec.toNat ((BitVec.ofInt 8 ((f : Nat) : Int)) ||| (BitVec.ofInt 8 (192 : Int)))) : Nat) : Int) = (((UInt8.ofNat (f + 192)).toNat : Nat) : Int) := by
    have := or8 (a := f) (b := 192) (by omega) (by decide) (by rw [or192 f hf]; omega)
    rw [or192 f hf] at this
    rw [UInt8.toNat_ofNat', Nat.mod_eq_of_lt (by omega)]
    exact this
  have es : setCells (u8s rest) (0 + 7) [Value.int .u8 (((UInt8.ofNat (f + 192)).toNat : Nat) : Int)] = u8s (textP mqttL ++ (4 :: UInt8.ofNat (f + 192) :: t)) := by rw [er]; rfl
  refine ⟨ad, rfl, by omega, by omega, _, hat, ad, rfl, by omega, by omega, u8s rest, c25 * 1, ?_, rfl, ?_, ?_, by omega, ?_⟩
  · rw [ea]; exact w25.ge
  · rw [ea]; exact w25.hd
  · rw [ea]; show 0 + 7 + 1 ≤ (u8s rest).length
    rw [u8s_length]; omega
  rw [ea, ev, es]
  have w26 : Own w0 _ (slB (some ad) (u8s (textP mqttL ++ (4 :: UInt8.ofNat (f + 192) :: t))) (c25 * 1) ++ (slB a9 (u8s B) (c9 * 1) ++ [])) := Own.put w25
  have l26 : (textP mqttL ++ (4 :: UInt8.ofNat (f + 192) :: t)).length = rest.length := by rw [lr]; simp only [List.length_append, List.length_cons]; omega
  have v26 : SlV 1 (some ad) (textP mqttL ++ (4 :: UInt8.ofNat (f + 192) :: t)).length c25 (u8s (textP mqttL ++ (4 :: UInt8.ofNat (f + 192) :: t))) := ⟨by rw [u8s_length]; omega, by omega, s3⟩
  refine App_byts (l := textP mqttL ++ (4 :: UInt8.ofNat (f + 192) :: t)) (x := fixedV name.length 2) (by omega) (fixedV_len ..).symm (two_cells (by omega)) v26 w26 (by rw [fixedV_len]; omega) fun a33 c34 h35 v35 w35 => ?_
  refine rowsOf_of (h1.rd h35) (by rw [u8s_length]; omega) ?_
  refine App_byts (x := name) (by rw [List.length_append, fixedV_len]; omega) rfl rfl v35 w35 (by rw [List.length_append, fixedV_len]; omega) fun a37 c38 h39 v39 w39 => ⟨by omega, ?_⟩
  refine App_byts (x := fixedV word.length 2) (by rw [List.length_append, List.length_append, fixedV_len]; omega) (fixedV_len ..).symm (two_cells (by omega)) v39 w39 (by rw [List.length_append, List.length_append, fixedV_len, fixedV_len]; omega) fun a40 c41 h42 v42 w42 => ?_
  refine rowsOf_of (h2.rd h42) (by rw [u8s_length]; omega) ?_
  refine App_byts (x := word) (by rw [List.length_append, List.length_append, List.length_append, fixedV_len, fixedV_len]; omega) rfl rfl v42 w42 (by rw [List.length_append, List.length_append, List.length_append, fixedV_len, fixedV_len]; omega) fun a44 c45 h46 v46 w46 => ?_
  have eb : textP mqttL ++ (4 :: UInt8.ofNat (f + 192) :: t) ++ fixedV name.length 2 ++ name ++ fixedV word.length 2 ++ word = textP mqttL ++ (4 :: UInt8.ofNat (f + 192) :: (t ++ (textP name ++ textP word))) := by
    have e1 : textP name = fixedV name.length 2 ++ name := rfl
    have e2 : textP word = fixedV word.length 2 ++ word := rfl
    rw [e1, e2]
    simp only [List.append_assoc, List.cons_append]
  have lb : (textP mqttL ++ (4 :: UInt8.ofNat (f + 192) :: (t ++ (textP name ++ textP word)))).length = rest.length + 2 + name.length + 2 + word.length := by
    rw [← eb]; simp only [List.length_append, fixedV_len] at l26 ⊢; omega
  rw [eb] at v46 w46
  generalize textP mqttL ++ (4 :: UInt8.ofNat (f + 192) :: (t ++ (textP name ++ textP word))) = body at *
  have r46 := own_rdr (w0 := w0) v46 (by omega)
  have cb := v46.2.1
  refine f8_20_in _ _ _ _ _ _ _ (whole_run T (by omega) w46 r46 (List.subset_append_left ..) (by omega) fun h53 q e Y em vq wq => ⟨_, _, _, _, _, _, _, _, _, _, _, _, _, _, _, _, _, _, _, _, _, _, _, rfl, ?_⟩)
  have sq : smallP q.key := by have := decL_small (wholeP body); rw [← em] at this; exact this
  rw [d1] at em
  obtain rfl : e = 0 := congrArg Prod.snd em
  have eq : q.key = m.key := congrArg Prod.fst em
  exact f8_22s T rfl (by omega) (by rw [eq]; exact hB) (by rw [eq]; exact hm) sq vq (by omega) (by omega) le d2 d3 r9 r46 cb wq hk
theorem f8_yes {m : PkM} {a1 a2 : Option Addr} {c1 c2 : Nat} {name word : List UInt8} (T : TabOk w0) (rm : ∀ h', PkRd w0 h' m) (hm : MayK m.key) (km : m.kind = 1) (h1 : Rd0 w0 a1 (u8s name)) (h2 : Rd0 w0 a2 (u8s word)) (ln : name.length ≤ 100) (lw : word.length ≤ 100) (w : Own w0 h []) (hk : ∀ h', K (.bool true) h') :
    f8_3 w0 K a1 name.length c1 a2 word.length c2 false m.kind m.id m.dup m.topic m.pa m.pay.length m.pc m.qos m.ret m.til m.client m.clean m.alive m.will m.present m.code m.wa m.wants.length m.wc m.ca m.codes.length m.cc h := by
  refine f8_3_in _ _ _ _ _ _ _ _ _ _ _ _ _ _ _ _ _ _ _ _ _ _ _ _ _ _ _ _ _ _ (brB_of (fun z => by cases z) fun _ => f8_4_in _ _ _ _ _ _ _ _ _ _ _ _ _ _ _ _ _ _ _ _ _ _ _ _ _ _ _ _ _ ?_)
  have fin : EvC Go.Proofs.Tryd.prog w0 17 #[] (fun x h29 => ∃ t : Bool, x = .bool t ∧ K (.bool t) h29) h := f17_spec T w fun h6 _ => ⟨_, rfl, hk h6⟩
  have loop : ∀ (n i : Nat), i + n = name.length → (∀ x ∈ name.take i, x.toNat ≠ 0 ∧ x.toNat ≤ 127) → f8_5 w0 K a1 name.length c1 a2 word.length c2 a1 name.length c1 ((name.length : Nat) : Int) ((i : Nat) : Int) m.kind m.id m.dup m.topic m.pa m.pay.length m.pc m.qos m.ret m.til m.client m.clean m.alive m.will m.present m.code m.wa m.wants.length m.wc m.ca m.codes.length m.cc h := fun n => by
    induction n with
    | zero =>
      intro i hi ha
      rw [List.take_of_length_le (by omega)] at ha
      refine f8_5_in _ _ _ _ _ _ _ _ _ _ _ _ _ _ _ _ _ _ _ _ _ _ _ _ _ _ _ _ _ _ _ _ _ _ (brB_of (fun z => by have := of_decide_eq_true z; omega) fun _ => f22_spec T w (fun h' _ => rm h') (fun _ h3 a9 c9 v9 w9 => ⟨_, _, _, _, rfl, brB_of (fun z => by cases z) fun _ => ?_⟩) fun n => absurd hm n)
      have le := enc_le hm
      obtain ⟨f, t, _, er, _, _⟩ := con_app hm (show m.key.kind = 1 from km)
      have lr : (restP m.key).1.length = 8 + t.length := by
        have ml : (textP mqttL).length = 6 := rfl
        rw [er]; simp only [List.length_append, List.length_cons]; omega
      have rl := rest_le hm
      have pl := putV_len 1 (restP m.key).1.length (by omega)
      have lenE : (encP m.key).length = 1 + (putV (restP m.key).1.length).length + (restP m.key).1.length := by unfold encP; rw [List.length_cons, List.length_append]; omega
      have e12 : 12 ≤ (encP m.key).length := by
        have hc := hm.con.1 (show m.key.kind = 1 from km)
        have f2l : ∀ n, (fixedV n 2).length = 2 := fun n => fixedV_len n 2
        have ml : (textP mqttL).length = 6 := rfl
        have : 10 ≤ (restP m.key).1.length := by
          unfold restP
          rw [if_pos (show m.key.kind = 1 from km)]
          simp only [List.length_append, List.length_cons, List.length_nil, f2l, textP_len] at ml ⊢
          omega
        omega
      refine f8_12_in _ _ _ _ _ _ _ _ _ _ _ (brB_of (fun z => absurd (of_decide_eq_true z) (by omega)) fun _ => f8_13_in _ _ _ _ _ _ _ _ _ _ ?_)
      have rd := v9.rd (cs := []) w9
      have go : ∀ hd, hd = 1 + (putV (restP m.key).1.length).length → f8_16 w0 K a1 name.length c1 a2 word.length c2 a9 (encP m.key).length c9 ((hd : Nat) : Int) h3 := fun hd e => f8_16s T rm hm km h1 h2 ln lw (ascii_text ha) v9 w9 e hk
      by_cases q : (restP m.key).1.length < 128
      · have g1 : (encP m.key)[1]? = some (UInt8.ofNat (restP m.key).1.length) := by unfold encP; rw [putV_small q]; rfl
        obtain ⟨ad, had, hat⟩ := byte_at rd g1
        rw [UInt8.toNat_ofNat', Nat.mod_eq_of_lt (show (restP m.key).1.length < 2 ^ 8 by omega)] at hat
        exact ⟨ad, had, by omega, by omega, _, hat, brB_of (fun z => absurd (of_decide_eq_true z) (by omega)) fun _ => go 2 (by rw [putV_small q]; rfl)⟩
      · have g1 : (encP m.key)[1]? = some (UInt8.ofNat ((restP m.key).1.length % 128 + 128)) := by unfold encP; rw [putV_step q]; rfl
        obtain ⟨ad, had, hat⟩ := byte_at rd g1
        rw [UInt8.toNat_ofNat', Nat.mod_eq_of_lt (show (restP m.key).1.length % 128 + 128 < 2 ^ 8 by omega)] at hat
        exact ⟨ad, had, by omega, by omega, _, hat, brB_of (fun _ => go 3 (by rw [putV_step q, putV_small (by omega)]; rfl)) fun z => absurd (of_decide_eq_false z) (by omega)⟩
    | succ n ih =>
      intro i hi ha
      have g1 : name[i]? = some (name[i]'(by omega)) := List.getElem?_eq_getElem _
      obtain ⟨ad, had, hat⟩ := byte_at (h1.rd h) g1
      have et : name.take (i + 1) = name.take i ++ [name[i]'(by omega)] := List.take_succ_eq_append_getElem (by omega)
      have nx := ih (i + 1) (by omega)
      rw [et] at nx
      generalize name[i]'(by omega) = y at *
      have yes : f8_8 w0 K a1 name.length c1 a2 word.length c2 a1 name.length c1 ((name.length : Nat) : Int) ((i : Nat) : Int) true m.kind m.id m.dup m.topic m.pa m.pay.length m.pc m.qos m.ret m.til m.client m.clean m.alive m.will m.present m.code m.wa m.wants.length m.wc m.ca m.codes.length m.cc h := f8_8_in _ _ _ _ _ _ _ _ _ _ _ _ _ _ _ _ _ _ _ _ _ _ _ _ _ _ _ _ _ _ _ _ _ _ _ (brB_of (fun _ => fin) fun z => by cases z)
      refine f8_5_in _ _ _ _ _ _ _ _ _ _ _ _ _ _ _ _ _ _ _ _ _ _ _ _ _ _ _ _ _ _ _ _ _ _ (brB_of (fun _ => ⟨ad, had, by omega, by omega, _, hat, brB_of (fun _ => yes) fun z => ?_⟩) fun z => by have := of_decide_eq_false z; omega)
      cases z2 : decide ((127 : Int) < ((y.toNat : Nat) : Int)) with
      | true => exact yes
      | false =>
        have z2 := of_decide_eq_false z2
        refine f8_8_in _ _ _ _ _ _ _ _ _ _ _ _ _ _ _ _ _ _ _ _ _ _ _ _ _ _ _ _ _ _ _ _ _ _ _ (brB_of (fun z => by cases z) fun _ => ?_)
        rw [wrapS (by omega)]
        refine nx fun x hx => ?_
        rcases List.mem_append.1 hx with hx | hx
        · exact ha x hx
        · rw [List.mem_singleton] at hx
          subst hx
          refine ⟨fun q => ?_, by omega⟩
          rw [q] at z
          cases z
  exact loop name.length 0 (by omega) (fun x hx => by cases hx)
theorem f8_spec {m : PkM} {a1 a2 : Option Addr} {c1 c2 : Nat} {name word : List UInt8} (T : TabOk w0) (k : m.Ok w0) (h1 : Rd0 w0 a1 (u8s name)) (h2 : Rd0 w0 a2 (u8s word)) (hk : ∀ h', K (.bool true) h') :
    EvC Go.Proofs.Tryd.prog w0 8 #[m.agg, .slice a1 name.length c1, .slice a2 word.length c2] K (fun _ => none) := by
  have w1 : Own w0 (fun _ => none) [] := Own.nil
  have fin : ∀ h X, Own w0 h X → EvC Go.Proofs.Tryd.prog w0 17 #[] (fun x h29 => ∃ t : Bool, x = .bool t ∧ K (.bool t) h29) h := fun h X w => f17_spec T w fun h6 _ => ⟨_, rfl, hk h6⟩
  have kM : ({ m with kind := 1 } : PkM).Ok w0 := { k with kind := by show i64 1; unfold i64; omega }
  have no : ∀ {p : PkM} {h X}, Own w0 h X → f8_3 w0 K a1 name.length c1 a2 word.length c2 true p.kind p.id p.dup p.topic p.pa p.pay.length p.pc p.qos p.ret p.til p.client p.clean p.alive p.will p.present p.code p.wa p.wants.length p.wc p.ca p.codes.length p.cc h := fun w => f8_3_in _ _ _ _ _ _ _ _ _ _ _ _ _ _ _ _ _ _ _ _ _ _ _ _ _ _ _ _ _ _ (brB_of (fun _ => fin _ _ w) fun z => by cases z)
  refine f8_go _ _ _ _ _ _ _ _ _ _ _ _ _ _ _ _ _ _ _ _ _ _ _ _ _ _ _ _ _ (f19_spec (m := { m with kind := 1 }) (fun l => ⟨_, rfl, brB_of (fun z => by cases z) fun _ => ?_⟩) ⟨_, rfl, brB_of (fun _ => no (p := { m with kind := 1 }) w1) fun z => by cases z⟩)
  have rm : ∀ h', PkRd w0 h' ({ m with kind := 1 } : PkM) := fun h' => kM.rd l h'
  refine f23_spec (m := { m with kind := 1 }) T w1 (fun h' _ => rm h') (fun hm h2' w2 => ⟨_, rfl, brB_of (fun z => by cases z) fun _ => brB_of (fun _ => no (p := { m with kind := 1 }) w2) fun z => ?_⟩) fun _ h2' w2 => ⟨_, rfl, brB_of (fun _ => no (p := { m with kind := 1 }) w2) fun z => by cases z⟩
  cases z2 : decide ((100 : Int) < ((word.length : Nat) : Int)) with
  | true => exact no (p := { m with kind := 1 }) w2
  | false => exact f8_yes (m := { m with kind := 1 }) T rm hm rfl h1 h2 (by have := of_decide_eq_false z; omega) (by have := of_decide_eq_false z2; omega) w2 hk
end
end Go.G.YtciepfobnaemmaaDoor
