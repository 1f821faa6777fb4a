/- The document's bodies. -/
import Derived.Test.YtciepfobnaemmaaDoorPG
import Derived.Test.YtciepfobnaemmaaDoorPH
import Derived.Test.YtciepfobnaemmaaDoorPI
import Derived.Test.YtciepfobnaemmaaDoorProg
set_option maxRecDepth 100000
namespace Go.G.YtciepfobnaemmaaDoor
open Go.RowKit
open Value (string slice int bool agg)
def f15_J : Nat → List Nat × Nat := jOf [(16, (1 :: (3 :: (4 :: (6 :: (rn 72 62 (rn 222 149 [100007, 100010])))))), 1), (17, (1 :: (3 :: (4 :: (6 :: (rn 222 212 [100007, 100010]))))), 1), (18, (1 :: (3 :: (4 :: (6 :: (rn 110 101 (rn 222 111 [100007, 100010])))))), 1), (19, (1 :: (3 :: (4 :: (6 :: (rn 222 213 [100007, 100010]))))), 1), (43, (0 :: (1 :: (3 :: (4 :: (5 :: (6 :: (8 :: (9 :: (rn 222 211 [100007, 100010]))))))))), 1), (27, (0 :: (1 :: (3 :: (4 :: (5 :: (6 :: (8 :: (9 :: (rn 146 133 (rn 222 75 [100007, 100010])))))))))), 1), (37, (0 :: (1 :: (3 :: (4 :: (5 :: (6 :: (8 :: (9 :: (rn 119 108 (rn 190 70 (rn 222 31 [100007, 100010]))))))))))), 1), (45, (0 :: (1 :: (3 :: (4 :: (5 :: (6 :: (8 :: (9 :: (rn 222 211 [100007, 100010]))))))))), 1), (21, (0 :: (1 :: (3 :: (4 :: (5 :: (6 :: (8 :: (9 :: (rn 199 188 (rn 222 22 [100007, 100010])))))))))), 1)]

def f15_16 (w0 : World) (K : Value → AH → Prop) (a : Option Addr) (b c : Nat) (d : Int) (e : Addr) (g i : Int) (k : Bool) (m n : Int) (o : Bool) (p : ByteArray) (q : Option Addr) (r s : Nat) (t : Int) (u : Bool) (x : Int) (y : ByteArray) (z : Bool) (A : Int) (B C : Bool) (D : Int) (E : Option Addr) (F G : Nat) (L : Option Addr) (M N : Nat) (h : AH) : Prop :=
  ∀ j : Nat → Value, LPk Proofs.Tryd.prog w0 (EvC Proofs.Tryd.prog w0) f15_J 15 K 16 (.v (.slice a b c) :: (jv j 2 1 (.bp 0 0 :: (jv j 5 2 (.v (.int .i64 d) :: (jv j 7 1 (.v (.pointer (some e)) :: (.v (.int .u8 g) :: (.v (.int .u8 i) :: (jv j 72 62 (.v (.bool k) :: (jv j 222 149 [])))))))))))) [some [(.int .i64 m), (.int .i64 n), (.bool o), (.string p), (.slice q r s), (.int .i64 t), (.bool u), (.int .i64 x), (.string y), (.bool z), (.int .i64 A), (.bool B), (.bool C), (.int .i64 D), (.slice E F G), (.slice L M N)]] h

def f15_17 (w0 : World) (K : Value → AH → Prop) (a : Option Addr) (b c : Nat) (d : Int) (e : Addr) (g i : Int) (k m : Int) (n : Bool) (o : ByteArray) (p : Option Addr) (q r : Nat) (s : Int) (t : Bool) (u : Int) (x : ByteArray) (y : Bool) (z : Int) (A B : Bool) (C : Int) (D : Option Addr) (E F : Nat) (G : Option Addr) (L M : Nat) (h : AH) : Prop :=
  ∀ j : Nat → Value, LPk Proofs.Tryd.prog w0 (EvC Proofs.Tryd.prog w0) f15_J 15 K 17 (.v (.slice a b c) :: (jv j 2 1 (.bp 0 0 :: (jv j 5 2 (.v (.int .i64 d) :: (jv j 7 1 (.v (.pointer (some e)) :: (.v (.int .u8 g) :: (.v (.int .u8 i) :: (jv j 222 212 [])))))))))) [some [(.int .i64 k), (.int .i64 m), (.bool n), (.string o), (.slice p q r), (.int .i64 s), (.bool t), (.int .i64 u), (.string x), (.bool y), (.int .i64 z), (.bool A), (.bool B), (.int .i64 C), (.slice D E F), (.slice G L M)]] h

def f15_18 (w0 : World) (K : Value → AH → Prop) (a : Option Addr) (b c : Nat) (d : Int) (e : Addr) (g : Int) (i : Bool) (k m : Int) (n : Bool) (o : ByteArray) (p : Option Addr) (q r : Nat) (s : Int) (t : Bool) (u : Int) (x : ByteArray) (y : Bool) (z : Int) (A B : Bool) (C : Int) (D : Option Addr) (E F : Nat) (G : Option Addr) (L M : Nat) (h : AH) : Prop :=
  ∀ j : Nat → Value, LPk Proofs.Tryd.prog w0 (EvC Proofs.Tryd.prog w0) f15_J 15 K 18 (.v (.slice a b c) :: (jv j 2 1 (.bp 0 0 :: (jv j 5 2 (.v (.int .i64 d) :: (jv j 7 1 (.v (.pointer (some e)) :: (.v (.int .u8 g) :: (jv j 110 101 (.v (.bool i) :: (jv j 222 111 []))))))))))) [some [(.int .i64 k), (.int .i64 m), (.bool n), (.string o), (.slice p q r), (.int .i64 s), (.bool t), (.int .i64 u), (.string x), (.bool y), (.int .i64 z), (.bool A), (.bool B), (.int .i64 C), (.slice D E F), (.slice G L M)]] h

def f15_19 (w0 : World) (K : Value → AH → Prop) (a : Option Addr) (b c : Nat) (d : Int) (e : Addr) (g i k : Int) (m : Bool) (n : ByteArray) (o : Option Addr) (p q : Nat) (r : Int) (s : Bool) (t : Int) (u : ByteArray) (x : Bool) (y : Int) (z A : Bool) (B : Int) (C : Option Addr) (D E : Nat) (F : Option Addr) (G L : Nat) (h : AH) : Prop :=
  ∀ j : Nat → Value, LPk Proofs.Tryd.prog w0 (EvC Proofs.Tryd.prog w0) f15_J 15 K 19 (.v (.slice a b c) :: (jv j 2 1 (.bp 0 0 :: (jv j 5 2 (.v (.int .i64 d) :: (jv j 7 1 (.v (.pointer (some e)) :: (.v (.int .u8 g) :: (jv j 222 213 []))))))))) [some [(.int .i64 i), (.int .i64 k), (.bool m), (.string n), (.slice o p q), (.int .i64 r), (.bool s), (.int .i64 t), (.string u), (.bool x), (.int .i64 y), (.bool z), (.bool A), (.int .i64 B), (.slice C D E), (.slice F G L)]] h

def f15_43 (w0 : World) (K : Value → AH → Prop) (a b : Addr) (c d : Int) (e : Bool) (g : ByteArray) (i : Option Addr) (k m : Nat) (n : Int) (o : Bool) (p : Int) (q : ByteArray) (r : Bool) (s : Int) (t u : Bool) (x : Int) (y : Option Addr) (z A : Nat) (B : Option Addr) (C D : Nat) (h : AH) : Prop :=
  ∀ j : Nat → Value, LPk Proofs.Tryd.prog w0 (EvC Proofs.Tryd.prog w0) f15_J 15 K 43 (jv j 2 2 (.bp 0 0 :: (jv j 7 4 (.v (.pointer (some a)) :: (jv j 10 2 (.v (.pointer (some b)) :: (jv j 222 211 []))))))) [some [(.int .i64 c), (.int .i64 d), (.bool e), (.string g), (.slice i k m), (.int .i64 n), (.bool o), (.int .i64 p), (.string q), (.bool r), (.int .i64 s), (.bool t), (.bool u), (.int .i64 x), (.slice y z A), (.slice B C D)]] h

def f15_27 (w0 : World) (K : Value → AH → Prop) (a b : Addr) (c d : Int) (e : Bool) (g i : Int) (k : Bool) (m : ByteArray) (n : Option Addr) (o p : Nat) (q : Int) (r : Bool) (s : Int) (t : ByteArray) (u : Bool) (x : Int) (y z : Bool) (A : Int) (B : Option Addr) (C D : Nat) (E : Option Addr) (F G : Nat) (h : AH) : Prop :=
  ∀ j : Nat → Value, LPk Proofs.Tryd.prog w0 (EvC Proofs.Tryd.prog w0) f15_J 15 K 27 (jv j 2 2 (.bp 0 0 :: (jv j 7 4 (.v (.pointer (some a)) :: (jv j 10 2 (.v (.pointer (some b)) :: (.v (.int .u8 c) :: (.v (.int .u8 d) :: (jv j 146 133 (.v (.bool e) :: (jv j 222 75 []))))))))))) [some [(.int .i64 g), (.int .i64 i), (.bool k), (.string m), (.slice n o p), (.int .i64 q), (.bool r), (.int .i64 s), (.string t), (.bool u), (.int .i64 x), (.bool y), (.bool z), (.int .i64 A), (.slice B C D), (.slice E F G)]] h

def f15_37 (w0 : World) (K : Value → AH → Prop) (a b : Addr) (c : Int) (d : Bool) (e g : Int) (i : Bool) (k : ByteArray) (m : Option Addr) (n o : Nat) (p : Int) (q : Bool) (r : Int) (s : ByteArray) (t : Bool) (u : Int) (x y : Bool) (z : Int) (A : Option Addr) (B C : Nat) (D : Option Addr) (E F : Nat) (h : AH) : Prop :=
  ∀ j : Nat → Value, LPk Proofs.Tryd.prog w0 (EvC Proofs.Tryd.prog w0) f15_J 15 K 37 (jv j 2 2 (.bp 0 0 :: (jv j 7 4 (.v (.pointer (some a)) :: (jv j 10 2 (.v (.pointer (some b)) :: (jv j 119 108 (.v (.int .i64 c) :: (jv j 190 70 (.v (.bool d) :: (jv j 222 31 []))))))))))) [some [(.int .i64 e), (.int .i64 g), (.bool i), (.string k), (.slice m n o), (.int .i64 p), (.bool q), (.int .i64 r), (.string s), (.bool t), (.int .i64 u), (.bool x), (.bool y), (.int .i64 z), (.slice A B C), (.slice D E F)]] h

def f15_45 (w0 : World) (K : Value → AH → Prop) (a b : Addr) (c d : Int) (e : Bool) (g : ByteArray) (i : Option Addr) (k m : Nat) (n : Int) (o : Bool) (p : Int) (q : ByteArray) (r : Bool) (s : Int) (t u : Bool) (x : Int) (y : Option Addr) (z A : Nat) (B : Option Addr) (C D : Nat) (h : AH) : Prop :=
  ∀ j : Nat → Value, LPk Proofs.Tryd.prog w0 (EvC Proofs.Tryd.prog w0) f15_J 15 K 45 (jv j 2 2 (.bp 0 0 :: (jv j 7 4 (.v (.pointer (some a)) :: (jv j 10 2 (.v (.pointer (some b)) :: (jv j 222 211 []))))))) [some [(.int .i64 c), (.int .i64 d), (.bool e), (.string g), (.slice i k m), (.int .i64 n), (.bool o), (.int .i64 p), (.string q), (.bool r), (.int .i64 s), (.bool t), (.bool u), (.int .i64 x), (.slice y z A), (.slice B C D)]] h

def f15_21 (w0 : World) (K : Value → AH → Prop) (a b : Addr) (c : Bool) (d e : Int) (g : Bool) (i : ByteArray) (k : Option Addr) (m n : Nat) (o : Int) (p : Bool) (q : Int) (r : ByteArray) (s : Bool) (t : Int) (u x : Bool) (y : Int) (z : Option Addr) (A B : Nat) (C : Option Addr) (D E : Nat) (h : AH) : Prop :=
  ∀ j : Nat → Value, LPk Proofs.Tryd.prog w0 (EvC Proofs.Tryd.prog w0) f15_J 15 K 21 (jv j 2 2 (.bp 0 0 :: (jv j 7 4 (.v (.pointer (some a)) :: (jv j 10 2 (.v (.pointer (some b)) :: (jv j 199 188 (.v (.bool c) :: (jv j 222 22 []))))))))) [some [(.int .i64 d), (.int .i64 e), (.bool g), (.string i), (.slice k m n), (.int .i64 o), (.bool p), (.int .i64 q), (.string r), (.bool s), (.int .i64 t), (.bool u), (.bool x), (.int .i64 y), (.slice z A B), (.slice C D E)]] h

theorem f15_16_in {w0 : World} {K : Value → AH → Prop} (a : Option Addr) (b c : Nat) (d : Int) (e : Addr) (g L : Int) (M : Bool) (i k : Int) (m : Bool) (n : ByteArray) (o : Option Addr) (p q : Nat) (r : Int) (s : Bool) (t : Int) (u : ByteArray) (v : Bool) (x : Int) (y z : Bool) (A : Int) (B : Option Addr) (C D : Nat) (E : Option Addr) (F G : Nat) (h : AH)
  (hv : (brB M (f15_17 w0 K a b c d e g (2 : Int) i k m n o p q r s t u v x y z A B C D E F G h) (f15_17 w0 K a b c d e g L i k m n o p q r s t u v x y z A B C D E F G h))) :
  f15_16 w0 K a b c d e g L M i k m n o p q r s t u v x y z A B C D E F G h := fun j => LP_intro (P := Proofs.Tryd.prog) (Eq.mp (by kernel_rfl) hv)

theorem f15_17_in {w0 : World} {K : Value → AH → Prop} (c : Option Addr) (d e : Nat) (g : Int) (b : Addr) (a M : Int) (i k : Int) (m : Bool) (n : ByteArray) (o : Option Addr) (p q : Nat) (r : Int) (s : Bool) (t : Int) (u : ByteArray) (v : Bool) (x : Int) (y z : Bool) (A : Int) (B : Option Addr) (C D : Nat) (E : Option Addr) (F L : Nat) (h : AH)
  (hv : (∃ N : Int, (((cellA w0 h (Addr.add b 0)) = (some (int .i64 N))) ∧ (brB (N == (0 : Int)) (f15_18 w0 K c d e g b a true i k m n o p q r s t u v x y z A B C D E F L h) (∃ Q : Int, (((cellA w0 h (Addr.add b 0)) = (some (int .i64 Q))) ∧ (brB (Q == (15 : Int)) (f15_18 w0 K c d e g b a true i k m n o p q r s t u v x y z A B C D E F L h) (∃ R : Int, (((cellA w0 h (Addr.add b 0)) = (some (int .i64 R))) ∧ (brB (R != (3 : Int)) (brB (a != M) (f15_18 w0 K c d e g b a true i k m n o p q r s t u v x y z A B C D E F L h) (∃ T : Int, (((cellA w0 h (Addr.add b 0)) = (some (int .i64 T))) ∧ (brB (T == (3 : Int)) (brB ((IntKind.wrap .u8 (((BitVec.toNat ((BitVec.ofInt 8 a) &&& (BitVec.ofInt 8 (6 : Int)))) : Nat) : Int)) == (6 : Int)) (f15_18 w0 K c d e g b a true i k m n o p q r s t u v x y z A B C D E F L h) (brB ((IntKind.wrap .u8 (((BitVec.toNat ((BitVec.ofInt 8 a) &&& (BitVec.ofInt 8 (8 : Int)))) : Nat) : Int)) != (0 : Int)) (f15_18 w0 K c d e g b a ((IntKind.wrap .u8 (((BitVec.toNat ((BitVec.ofInt 8 a) &&& (BitVec.ofInt 8 (6 : Int)))) : Nat) : Int)) == (0 : Int)) i k m n o p q r s t u v x y z A B C D E F L h) (f15_18 w0 K c d e g b a false i k m n o p q r s t u v x y z A B C D E F L h))) (f15_18 w0 K c d e g b a false i k m n o p q r s t u v x y z A B C D E F L h))))) (∃ U : Int, (((cellA w0 h (Addr.add b 0)) = (some (int .i64 U))) ∧ (brB (U == (3 : Int)) (brB ((IntKind.wrap .u8 (((BitVec.toNat ((BitVec.ofInt 8 a) &&& (BitVec.ofInt 8 (6 : Int)))) : Nat) : Int)) == (6 : Int)) (f15_18 w0 K c d e g b a true i k m n o p q r s t u v x y z A B C D E F L h) (brB ((IntKind.wrap .u8 (((BitVec.toNat ((BitVec.ofInt 8 a) &&& (BitVec.ofInt 8 (8 : Int)))) : Nat) : Int)) != (0 : Int)) (f15_18 w0 K c d e g b a ((IntKind.wrap .u8 (((BitVec.toNat ((BitVec.ofInt 8 a) &&& (BitVec.ofInt 8 (6 : Int)))) : Nat) : Int)) == (0 : Int)) i k m n o p q r s t u v x y z A B C D E F L h) (f15_18 w0 K c d e g b a false i k m n o p q r s t u v x y z A B C D E F L h))) (f15_18 w0 K c d e g b a false i k m n o p q r s t u v x y z A B C D E F L h)))))))))))))) :
  f15_17 w0 K c d e g b a M i k m n o p q r s t u v x y z A B C D E F L h := fun j => LP_intro (P := Proofs.Tryd.prog) (Eq.mp (by kernel_rfl) hv)

theorem f15_18_in {w0 : World} {K : Value → AH → Prop} (a : Option Addr) (b c : Nat) (d : Int) (e : Addr) (g : Int) (i : Bool) (k m : Int) (n : Bool) (o : ByteArray) (p : Option Addr) (q r : Nat) (s : Int) (t : Bool) (u : Int) (v : ByteArray) (x : Bool) (y : Int) (z A : Bool) (B : Int) (C : Option Addr) (D E : Nat) (F : Option Addr) (G L : Nat) (h : AH)
  (hv : (brB i (K (Value.tuple #[(agg #[(int .i64 (0 : Int)), (int .i64 (0 : Int)), (bool false), (string (ByteArray.mk #[])), (slice none 0 0), (int .i64 (0 : Int)), (bool false), (int .i64 (0 : Int)), (string (ByteArray.mk #[])), (bool false), (int .i64 (0 : Int)), (bool false), (bool false), (int .i64 (0 : Int)), (slice none 0 0), (slice none 0 0)]), (int .i64 (3 : Int))]) h) (f15_19 w0 K a b c d e g k m n o p q r s t u v x y z A B C D E F G L h))) :
  f15_18 w0 K a b c d e g i k m n o p q r s t u v x y z A B C D E F G L h := fun j => LP_intro (P := Proofs.Tryd.prog) (Eq.mp (by kernel_rfl) hv)

theorem f15_19_in {w0 : World} {K : Value → AH → Prop} (g : Option Addr) (e c : Nat) (b : Int) (a : Addr) (d i k : Int) (m : Bool) (n : ByteArray) (o : Option Addr) (p q : Nat) (r : Int) (s : Bool) (t : Int) (u : ByteArray) (v : Bool) (x : Int) (y z : Bool) (A : Int) (B : Option Addr) (C D : Nat) (E : Option Addr) (F L : Nat) (h : AH)
  (hv : (((0 : Int) ≤ (IntKind.wrap .i64 ((1 : Int) + b))) ∧ (((IntKind.wrap .i64 ((1 : Int) + b)) ≤ ((e : Nat) : Int)) ∧ (∃ N : Int, (((cellA w0 h (Addr.add a 0)) = (some (int .i64 N))) ∧ (brB (N == (1 : Int)) (newB w0 h (AB.cells [(slice (cutA 1 g c (Int.toNat (IntKind.wrap .i64 ((1 : Int) + b)))) (e - (Int.toNat (IntKind.wrap .i64 ((1 : Int) + b)))) (c - (Int.toNat (IntKind.wrap .i64 ((1 : Int) + b))))), (int .i64 (0 : Int))] (List.length [(slice (cutA 1 g c (Int.toNat (IntKind.wrap .i64 ((1 : Int) + b)))) (e - (Int.toNat (IntKind.wrap .i64 ((1 : Int) + b)))) (c - (Int.toNat (IntKind.wrap .i64 ((1 : Int) + b))))), (int .i64 (0 : Int))])) (fun b4 d1 => (EvC Proofs.Tryd.prog w0 35 #[(Value.pointer (some (Addr.mk b4 0 none))), (Value.pointer (some a))] (fun d2 d3 => ((d2 = (Value.tuple #[])) ∧ (f15_43 w0 K a (Addr.mk b4 0 none) i k m n o p q r s t u v x y z A B C D E F L d3))) d1))) (brB (N == (2 : Int)) (newB w0 h (AB.cells [(slice (cutA 1 g c (Int.toNat (IntKind.wrap .i64 ((1 : Int) + b)))) (e - (Int.toNat (IntKind.wrap .i64 ((1 : Int) + b)))) (c - (Int.toNat (IntKind.wrap .i64 ((1 : Int) + b))))), (int .i64 (0 : Int))] (List.length [(slice (cutA 1 g c (Int.toNat (IntKind.wrap .i64 ((1 : Int) + b)))) (e - (Int.toNat (IntKind.wrap .i64 ((1 : Int) + b)))) (c - (Int.toNat (IntKind.wrap .i64 ((1 : Int) + b))))), (int .i64 (0 : Int))])) (fun T d4 => (EvC Proofs.Tryd.prog w0 36 #[(Value.pointer (some (Addr.mk T 0 none)))] (fun d5 d6 => (∃ Q : Int, ((d5 = (int .u8 Q)) ∧ (EvC Proofs.Tryd.prog w0 36 #[(Value.pointer (some (Addr.mk T 0 none)))] (fun d7 a0 => (∃ R : Int, ((d7 = (int .u8 R)) ∧ (brB (decide (((1 : Int) < Q))) (f15_27 w0 K a (Addr.mk T 0 none) Q R true i k m n o p q r s t u v x y z A B C D E F L a0) (brB (decide (((5 : Int) < R))) (f15_27 w0 K a (Addr.mk T 0 none) Q R true i k m n o p q r s t u v x y z A B C D E F L a0) (brB (Q == (1 : Int)) (f15_27 w0 K a (Addr.mk T 0 none) Q R (R != (0 : Int)) i k m n o p q r s t u v x y z A B C D E F L a0) (f15_27 w0 K a (Addr.mk T 0 none) Q R false i k m n o p q r s t u v x y z A B C D E F L a0))))))) d6)))) d4))) (brB (N == (3 : Int)) (∃ a3 : List Go.Value, (∃ b5 : Nat, (((Array.size (Go.World.heap w0)) ≤ (Addr.block (Addr.add a 2))) ∧ (((none : Option Nat) = none) ∧ (((h (Addr.block (Addr.add a 2))) = (some (AB.cells a3 b5))) ∧ ((((Addr.off (Addr.add a 2)) + (Array.size #[(bool ((IntKind.wrap .u8 (((BitVec.toNat ((BitVec.ofInt 8 d) &&& (BitVec.ofInt 8 (8 : Int)))) : Nat) : Int)) != (0 : Int)))])) ≤ (List.length a3)) ∧ (newB w0 (AH.put h (Addr.block (Addr.add a 2)) (AB.cells (setCells a3 (Addr.off (Addr.add a 2)) [(bool ((IntKind.wrap .u8 (((BitVec.toNat ((BitVec.ofInt 8 d) &&& (BitVec.ofInt 8 (8 : Int)))) : Nat) : Int)) != (0 : Int)))]) b5)) (AB.cells [(slice (cutA 1 g c (Int.toNat (IntKind.wrap .i64 ((1 : Int) + b)))) (e - (Int.toNat (IntKind.wrap .i64 ((1 : Int) + b)))) (c - (Int.toNat (IntKind.wrap .i64 ((1 : Int) + b))))), (int .i64 (0 : Int))] (List.length [(slice (cutA 1 g c (Int.toNat (IntKind.wrap .i64 ((1 : Int) + b)))) (e - (Int.toNat (IntKind.wrap .i64 ((1 : Int) + b)))) (c - (Int.toNat (IntKind.wrap .i64 ((1 : Int) + b))))), (int .i64 (0 : Int))])) (fun M d8 => (EvC Proofs.Tryd.prog w0 38 #[(Value.pointer (some (Addr.mk M 0 none)))] (fun d9 Y => (∃ U : ByteArray, ((d9 = (string U)) ∧ (((0 : Int) ≤ (1 : Int)) ∧ (∃ V : List Go.Value, (∃ Z : Nat, (((Array.size (Go.World.heap w0)) ≤ (Addr.block (Addr.add a 3))) ∧ (((none : Option Nat) = none) ∧ (((Y (Addr.block (Addr.add a 3))) = (some (AB.cells V Z))) ∧ ((((Addr.off (Addr.add a 3)) + (Array.size #[(string U), (slice none 0 0), (int .i64 (IntKind.wrap .i64 (IntKind.wrap .u8 (((BitVec.toNat ((BitVec.ofInt 8 (Int.fdiv d (2 : Int))) &&& (BitVec.ofInt 8 (3 : Int)))) : Nat) : Int)))), (bool ((IntKind.wrap .u8 (((BitVec.toNat ((BitVec.ofInt 8 d) &&& (BitVec.ofInt 8 (1 : Int)))) : Nat) : Int)) != (0 : Int))), (int .i64 (0 : Int))])) ≤ (List.length V)) ∧ (∃ b6 : Int, (((cellA w0 (AH.put Y (Addr.block (Addr.add a 3)) (AB.cells (setCells V (Addr.off (Addr.add a 3)) [(string U), (slice none 0 0), (int .i64 (IntKind.wrap .i64 (IntKind.wrap .u8 (((BitVec.toNat ((BitVec.ofInt 8 (Int.fdiv d (2 : Int))) &&& (BitVec.ofInt 8 (3 : Int)))) : Nat) : Int)))), (bool ((IntKind.wrap .u8 (((BitVec.toNat ((BitVec.ofInt 8 d) &&& (BitVec.ofInt 8 (1 : Int)))) : Nat) : Int)) != (0 : Int))), (int .i64 (0 : Int))]) Z)) (Addr.add (Addr.add a 3) 2)) = (some (int .i64 b6))) ∧ (brB (decide (((0 : Int) < b6))) (EvC Proofs.Tryd.prog w0 39 #[(Value.pointer (some (Addr.mk M 0 none)))] (fun e0 a4 => (∃ a1 : Int, ((e0 = (int .i64 a1)) ∧ (∃ a2 : List Go.Value, (∃ a5 : Nat, (((Array.size (Go.World.heap w0)) ≤ (Addr.block (Addr.add a 1))) ∧ (((none : Option Nat) = none) ∧ (((a4 (Addr.block (Addr.add a 1))) = (some (AB.cells a2 a5))) ∧ ((((Addr.off (Addr.add a 1)) + (Array.size #[(int .i64 a1)])) ≤ (List.length a2)) ∧ (∃ b7 : Addr, (((some (Addr.mk M 0 none)) = (some b7)) ∧ (∃ e1 : Option Addr, (∃ b8 : Nat, (∃ e2 : Nat, (((cellA w0 (AH.put a4 (Addr.block (Addr.add a 1)) (AB.cells (setCells a2 (Addr.off (Addr.add a 1)) [(int .i64 a1)]) a5)) (Addr.add b7 0)) = (some (slice e1 b8 e2))) ∧ (EvC Proofs.Tryd.prog w0 41 #[(Value.pointer (some (Addr.mk M 0 none))), (int .i64 ((b8 : Nat) : Int))] (fun e3 e4 => (∃ b9 : Option Addr, (∃ c0 : Nat, (∃ c1 : Nat, ((e3 = (slice b9 c0 c1)) ∧ (EvC Proofs.Tryd.prog w0 40 #[(Value.pointer (some (Addr.mk M 0 none))), (slice b9 c0 c1)] (fun e5 c2 => (∃ a6 : Option Addr, (∃ a7 : Nat, (∃ a8 : Nat, ((e5 = (slice a6 a7 a8)) ∧ (∃ a9 : List Go.Value, (∃ c3 : Nat, (((Array.size (Go.World.heap w0)) ≤ (Addr.block (Addr.add (Addr.add a 3) 1))) ∧ (((none : Option Nat) = none) ∧ (((c2 (Addr.block (Addr.add (Addr.add a 3) 1))) = (some (AB.cells a9 c3))) ∧ ((((Addr.off (Addr.add (Addr.add a 3) 1)) + (Array.size #[(slice a6 a7 a8)])) ≤ (List.length a9)) ∧ (f15_43 w0 K a (Addr.mk M 0 none) i k m n o p q r s t u v x y z A B C D E F L (AH.put c2 (Addr.block (Addr.add (Addr.add a 3) 1)) (AB.cells (setCells a9 (Addr.off (Addr.add (Addr.add a 3) 1)) [(slice a6 a7 a8)]) c3)))))))))))))) e4)))))) (AH.put a4 (Addr.block (Addr.add a 1)) (AB.cells (setCells a2 (Addr.off (Addr.add a 1)) [(int .i64 a1)]) a5)))))))))))))))))) (AH.put Y (Addr.block (Addr.add a 3)) (AB.cells (setCells V (Addr.off (Addr.add a 3)) [(string U), (slice none 0 0), (int .i64 (IntKind.wrap .i64 (IntKind.wrap .u8 (((BitVec.toNat ((BitVec.ofInt 8 (Int.fdiv d (2 : Int))) &&& (BitVec.ofInt 8 (3 : Int)))) : Nat) : Int)))), (bool ((IntKind.wrap .u8 (((BitVec.toNat ((BitVec.ofInt 8 d) &&& (BitVec.ofInt 8 (1 : Int)))) : Nat) : Int)) != (0 : Int))), (int .i64 (0 : Int))]) Z))) (∃ c4 : Addr, (((some (Addr.mk M 0 none)) = (some c4)) ∧ (∃ e6 : Option Addr, (∃ c5 : Nat, (∃ e7 : Nat, (((cellA w0 (AH.put Y (Addr.block (Addr.add a 3)) (AB.cells (setCells V (Addr.off (Addr.add a 3)) [(string U), (slice none 0 0), (int .i64 (IntKind.wrap .i64 (IntKind.wrap .u8 (((BitVec.toNat ((BitVec.ofInt 8 (Int.fdiv d (2 : Int))) &&& (BitVec.ofInt 8 (3 : Int)))) : Nat) : Int)))), (bool ((IntKind.wrap .u8 (((BitVec.toNat ((BitVec.ofInt 8 d) &&& (BitVec.ofInt 8 (1 : Int)))) : Nat) : Int)) != (0 : Int))), (int .i64 (0 : Int))]) Z)) (Addr.add c4 0)) = (some (slice e6 c5 e7))) ∧ (EvC Proofs.Tryd.prog w0 41 #[(Value.pointer (some (Addr.mk M 0 none))), (int .i64 ((c5 : Nat) : Int))] (fun e8 e9 => (∃ c6 : Option Addr, (∃ c7 : Nat, (∃ c8 : Nat, ((e8 = (slice c6 c7 c8)) ∧ (EvC Proofs.Tryd.prog w0 40 #[(Value.pointer (some (Addr.mk M 0 none))), (slice c6 c7 c8)] (fun g0 c9 => (∃ b0 : Option Addr, (∃ b1 : Nat, (∃ b2 : Nat, ((g0 = (slice b0 b1 b2)) ∧ (∃ b3 : List Go.Value, (∃ d0 : Nat, (((Array.size (Go.World.heap w0)) ≤ (Addr.block (Addr.add (Addr.add a 3) 1))) ∧ (((none : Option Nat) = none) ∧ (((c9 (Addr.block (Addr.add (Addr.add a 3) 1))) = (some (AB.cells b3 d0))) ∧ ((((Addr.off (Addr.add (Addr.add a 3) 1)) + (Array.size #[(slice b0 b1 b2)])) ≤ (List.length b3)) ∧ (f15_43 w0 K a (Addr.mk M 0 none) i k m n o p q r s t u v x y z A B C D E F L (AH.put c9 (Addr.block (Addr.add (Addr.add a 3) 1)) (AB.cells (setCells b3 (Addr.off (Addr.add (Addr.add a 3) 1)) [(slice b0 b1 b2)]) d0)))))))))))))) e9)))))) (AH.put Y (Addr.block (Addr.add a 3)) (AB.cells (setCells V (Addr.off (Addr.add a 3)) [(string U), (slice none 0 0), (int .i64 (IntKind.wrap .i64 (IntKind.wrap .u8 (((BitVec.toNat ((BitVec.ofInt 8 (Int.fdiv d (2 : Int))) &&& (BitVec.ofInt 8 (3 : Int)))) : Nat) : Int)))), (bool ((IntKind.wrap .u8 (((BitVec.toNat ((BitVec.ofInt 8 d) &&& (BitVec.ofInt 8 (1 : Int)))) : Nat) : Int)) != (0 : Int))), (int .i64 (0 : Int))]) Z)))))))))))))))))))))) d8))))))))) (brB (N == (8 : Int)) (newB w0 h (AB.cells [(slice (cutA 1 g c (Int.toNat (IntKind.wrap .i64 ((1 : Int) + b)))) (e - (Int.toNat (IntKind.wrap .i64 ((1 : Int) + b)))) (c - (Int.toNat (IntKind.wrap .i64 ((1 : Int) + b))))), (int .i64 (0 : Int))] (List.length [(slice (cutA 1 g c (Int.toNat (IntKind.wrap .i64 ((1 : Int) + b)))) (e - (Int.toNat (IntKind.wrap .i64 ((1 : Int) + b)))) (c - (Int.toNat (IntKind.wrap .i64 ((1 : Int) + b))))), (int .i64 (0 : Int))])) (fun g1 g2 => (f15_37 w0 K a (Addr.mk g1 0 none) N true i k m n o p q r s t u v x y z A B C D E F L g2))) (newB w0 h (AB.cells [(slice (cutA 1 g c (Int.toNat (IntKind.wrap .i64 ((1 : Int) + b)))) (e - (Int.toNat (IntKind.wrap .i64 ((1 : Int) + b)))) (c - (Int.toNat (IntKind.wrap .i64 ((1 : Int) + b))))), (int .i64 (0 : Int))] (List.length [(slice (cutA 1 g c (Int.toNat (IntKind.wrap .i64 ((1 : Int) + b)))) (e - (Int.toNat (IntKind.wrap .i64 ((1 : Int) + b)))) (c - (Int.toNat (IntKind.wrap .i64 ((1 : Int) + b))))), (int .i64 (0 : Int))])) (fun g3 g4 => (f15_37 w0 K a (Addr.mk g3 0 none) N (N == (10 : Int)) i k m n o p q r s t u v x y z A B C D E F L g4)))))))))))) :
  f15_19 w0 K g e c b a d i k m n o p q r s t u v x y z A B C D E F L h := fun j => LP_intro (P := Proofs.Tryd.prog) (Eq.mp (by kernel_rfl) hv)

theorem f15_43_in {w0 : World} {K : Value → AH → Prop} (b a : Addr) (c d : Int) (e : Bool) (g : ByteArray) (i : Option Addr) (k m : Nat) (n : Int) (o : Bool) (p : Int) (q : ByteArray) (r : Bool) (s : Int) (t u : Bool) (v : Int) (x : Option Addr) (y z : Nat) (A : Option Addr) (B C : Nat) (h : AH)
  (hv : (∃ D : Addr, (((some a) = (some D)) ∧ (∃ F : Option Addr, (∃ E : Nat, (∃ L : Nat, (((cellA w0 h (Addr.add D 0)) = (some (slice F E L))) ∧ (brB (decide (((0 : Int) < ((E : Nat) : Int)))) (EvC Proofs.Tryd.prog w0 37 #[(Value.pointer (some a)), (int .i64 (3 : Int))] (fun M N => ((M = (Value.tuple #[])) ∧ (f15_45 w0 K b a c d e g i k m n o p q r s t u v x y z A B C N))) h) (f15_45 w0 K b a c d e g i k m n o p q r s t u v x y z A B C h))))))))) :
  f15_43 w0 K b a c d e g i k m n o p q r s t u v x y z A B C h := fun j => LP_intro (P := Proofs.Tryd.prog) (Eq.mp (by kernel_rfl) hv)

theorem f15_27_in {w0 : World} {K : Value → AH → Prop} (a d : Addr) (b c : Int) (U : Bool) (i k : Int) (m : Bool) (n : ByteArray) (o : Option Addr) (p q : Nat) (r : Int) (s : Bool) (t : Int) (u : ByteArray) (v : Bool) (x : Int) (y z : Bool) (A : Int) (B : Option Addr) (C D : Nat) (E : Option Addr) (F L : Nat) (h : AH)
  (hv : (brB U (EvC Proofs.Tryd.prog w0 37 #[(Value.pointer (some d)), (int .i64 (3 : Int))] (fun Z M => ((Z = (Value.tuple #[])) ∧ (∃ e : List Go.Value, (∃ N : Nat, (((Array.size (Go.World.heap w0)) ≤ (Addr.block (Addr.add a 12))) ∧ (((none : Option Nat) = none) ∧ (((M (Addr.block (Addr.add a 12))) = (some (AB.cells e N))) ∧ ((((Addr.off (Addr.add a 12)) + (Array.size #[(bool (b == (1 : Int)))])) ≤ (List.length e)) ∧ (∃ Q : List Go.Value, (∃ V : Nat, (((Array.size (Go.World.heap w0)) ≤ (Addr.block (Addr.add a 13))) ∧ (((none : Option Nat) = none) ∧ (((AH.put M (Addr.block (Addr.add a 12)) (AB.cells (setCells e (Addr.off (Addr.add a 12)) [(bool (b == (1 : Int)))]) N) (Addr.block (Addr.add a 13))) = (some (AB.cells Q V))) ∧ ((((Addr.off (Addr.add a 13)) + (Array.size #[(int .i64 (IntKind.wrap .i64 c))])) ≤ (List.length Q)) ∧ (f15_43 w0 K a d i k m n o p q r s t u v x y z A B C D E F L (AH.put (AH.put M (Addr.block (Addr.add a 12)) (AB.cells (setCells e (Addr.off (Addr.add a 12)) [(bool (b == (1 : Int)))]) N)) (Addr.block (Addr.add a 13)) (AB.cells (setCells Q (Addr.off (Addr.add a 13)) [(int .i64 (IntKind.wrap .i64 c))]) V))))))))))))))))) h) (∃ g : List Go.Value, (∃ R : Nat, (((Array.size (Go.World.heap w0)) ≤ (Addr.block (Addr.add a 12))) ∧ (((none : Option Nat) = none) ∧ (((h (Addr.block (Addr.add a 12))) = (some (AB.cells g R))) ∧ ((((Addr.off (Addr.add a 12)) + (Array.size #[(bool (b == (1 : Int)))])) ≤ (List.length g)) ∧ (∃ T : List Go.Value, (∃ Y : Nat, (((Array.size (Go.World.heap w0)) ≤ (Addr.block (Addr.add a 13))) ∧ (((none : Option Nat) = none) ∧ (((AH.put h (Addr.block (Addr.add a 12)) (AB.cells (setCells g (Addr.off (Addr.add a 12)) [(bool (b == (1 : Int)))]) R) (Addr.block (Addr.add a 13))) = (some (AB.cells T Y))) ∧ ((((Addr.off (Addr.add a 13)) + (Array.size #[(int .i64 (IntKind.wrap .i64 c))])) ≤ (List.length T)) ∧ (f15_43 w0 K a d i k m n o p q r s t u v x y z A B C D E F L (AH.put (AH.put h (Addr.block (Addr.add a 12)) (AB.cells (setCells g (Addr.off (Addr.add a 12)) [(bool (b == (1 : Int)))]) R)) (Addr.block (Addr.add a 13)) (AB.cells (setCells T (Addr.off (Addr.add a 13)) [(int .i64 (IntKind.wrap .i64 c))]) Y))))))))))))))))) :
  f15_27 w0 K a d b c U i k m n o p q r s t u v x y z A B C D E F L h := fun j => LP_intro (P := Proofs.Tryd.prog) (Eq.mp (by kernel_rfl) hv)

theorem f15_37_in {w0 : World} {K : Value → AH → Prop} (a b : Addr) (D : Int) (E : Bool) (c d : Int) (e : Bool) (g : ByteArray) (i : Option Addr) (k m : Nat) (n : Int) (o : Bool) (p : Int) (q : ByteArray) (r : Bool) (s : Int) (t u : Bool) (v : Int) (x : Option Addr) (y z : Nat) (A : Option Addr) (B C : Nat) (h : AH)
  (hv : (brB E (EvC Proofs.Tryd.prog w0 42 #[(Value.pointer (some b)), (Value.pointer (some a))] (fun F G => ((F = (Value.tuple #[])) ∧ (f15_43 w0 K a b c d e g i k m n o p q r s t u v x y z A B C G))) h) (brB (D == (9 : Int)) (EvC Proofs.Tryd.prog w0 43 #[(Value.pointer (some b)), (Value.pointer (some a))] (fun L M => ((L = (Value.tuple #[])) ∧ (f15_43 w0 K a b c d e g i k m n o p q r s t u v x y z A B C M))) h) (brB (D == (12 : Int)) (f15_21 w0 K a b true c d e g i k m n o p q r s t u v x y z A B C h) (brB (D == (13 : Int)) (f15_21 w0 K a b true c d e g i k m n o p q r s t u v x y z A B C h) (f15_21 w0 K a b (D == (14 : Int)) c d e g i k m n o p q r s t u v x y z A B C h)))))) :
  f15_37 w0 K a b D E c d e g i k m n o p q r s t u v x y z A B C h := fun j => LP_intro (P := Proofs.Tryd.prog) (Eq.mp (by kernel_rfl) hv)

theorem f15_45_in {w0 : World} {K : Value → AH → Prop} (D a : Addr) (N Q : Int) (R : Bool) (T : ByteArray) (U : Option Addr) (V Y : Nat) (Z : Int) (a0 : Bool) (a1 : Int) (a2 : ByteArray) (a3 : Bool) (a4 : Int) (a5 a6 : Bool) (a7 : Int) (a8 : Option Addr) (a9 b0 : Nat) (b1 : Option Addr) (b2 b3 : Nat) (h : AH)
  (hv : (∃ E : Addr, (((some a) = (some E)) ∧ (∃ F : Int, (((cellA w0 h (Addr.add E 1)) = (some (int .i64 F))) ∧ (brB (F != (0 : Int)) (∃ b : Addr, (((some a) = (some b)) ∧ ((∃ L : Int, (((cellA w0 h (Addr.add b 1)) = (some (int .i64 L))) ∧ (K (Value.tuple #[(agg #[(int .i64 (0 : Int)), (int .i64 (0 : Int)), (bool false), (string (ByteArray.mk #[])), (slice none 0 0), (int .i64 (0 : Int)), (bool false), (int .i64 (0 : Int)), (string (ByteArray.mk #[])), (bool false), (int .i64 (0 : Int)), (bool false), (bool false), (int .i64 (0 : Int)), (slice none 0 0), (slice none 0 0)]), (int .i64 L)]) h))) ∧ (∃ M : Int, (((cellA w0 h (Addr.add b 1)) = (some (int .i64 M))) ∧ (K (Value.tuple #[(agg #[(int .i64 (0 : Int)), (int .i64 (0 : Int)), (bool false), (string (ByteArray.mk #[])), (slice none 0 0), (int .i64 (0 : Int)), (bool false), (int .i64 (0 : Int)), (string (ByteArray.mk #[])), (bool false), (int .i64 (0 : Int)), (bool false), (bool false), (int .i64 (0 : Int)), (slice none 0 0), (slice none 0 0)]), (int .i64 M)]) h)))))) (∃ c : Int, (∃ d : Int, (∃ e : Bool, (∃ g : ByteArray, (∃ i : Option Addr, (∃ k : Nat, (∃ m : Nat, (∃ n : Int, (∃ o : Bool, (∃ p : Int, (∃ q : ByteArray, (∃ r : Bool, (∃ s : Int, (∃ t : Bool, (∃ u : Bool, (∃ v : Int, (∃ x : Option Addr, (∃ y : Nat, (∃ z : Nat, (∃ A : Option Addr, (∃ B : Nat, (∃ C : Nat, ((((Array.size #[(int .i64 c), (int .i64 d), (bool e), (string g), (slice i k m), (int .i64 n), (bool o), (int .i64 p), (string q), (bool r), (int .i64 s), (bool t), (bool u), (int .i64 v), (slice x y z), (slice A B C)]) = 16) ∧ (At w0 h D [(int .i64 c), (int .i64 d), (bool e), (string g), (slice i k m), (int .i64 n), (bool o), (int .i64 p), (string q), (bool r), (int .i64 s), (bool t), (bool u), (int .i64 v), (slice x y z), (slice A B C)])) ∧ (K (Value.tuple #[(agg #[(int .i64 c), (int .i64 d), (bool e), (string g), (slice i k m), (int .i64 n), (bool o), (int .i64 p), (string q), (bool r), (int .i64 s), (bool t), (bool u), (int .i64 v), (slice x y z), (slice A B C)]), (int .i64 (0 : Int))]) h)))))))))))))))))))))))))))))) :
  f15_45 w0 K D a N Q R T U V Y Z a0 a1 a2 a3 a4 a5 a6 a7 a8 a9 b0 b1 b2 b3 h := fun j => LP_intro (P := Proofs.Tryd.prog) (Eq.mp (by kernel_rfl) hv)

theorem f15_21_in {w0 : World} {K : Value → AH → Prop} (a b : Addr) (F : Bool) (c d : Int) (e : Bool) (g : ByteArray) (i : Option Addr) (k m : Nat) (n : Int) (o : Bool) (p : Int) (q : ByteArray) (r : Bool) (s : Int) (t u : Bool) (v : Int) (x : Option Addr) (y z : Nat) (A : Option Addr) (B C : Nat) (h : AH)
  (hv : (brB F (f15_43 w0 K a b c d e g i k m n o p q r s t u v x y z A B C h) (EvC Proofs.Tryd.prog w0 39 #[(Value.pointer (some b))] (fun N L => (∃ D : Int, ((N = (int .i64 D)) ∧ (∃ E : List Go.Value, (∃ M : Nat, (((Array.size (Go.World.heap w0)) ≤ (Addr.block (Addr.add a 1))) ∧ (((none : Option Nat) = none) ∧ (((L (Addr.block (Addr.add a 1))) = (some (AB.cells E M))) ∧ ((((Addr.off (Addr.add a 1)) + (Array.size #[(int .i64 D)])) ≤ (List.length E)) ∧ (f15_43 w0 K a b c d e g i k m n o p q r s t u v x y z A B C (AH.put L (Addr.block (Addr.add a 1)) (AB.cells (setCells E (Addr.off (Addr.add a 1)) [(int .i64 D)]) M)))))))))))) h))) :
  f15_21 w0 K a b F c d e g i k m n o p q r s t u v x y z A B C h := fun j => LP_intro (P := Proofs.Tryd.prog) (Eq.mp (by kernel_rfl) hv)

theorem f15_go {w0 : World} {K : Value → AH → Prop} (d : Option Addr) (a e : Nat) (h : AH)
  (hv : (brB (((a : Nat) : Int) == (0 : Int)) (K (Value.tuple #[(agg #[(int .i64 (0 : Int)), (int .i64 (0 : Int)), (bool false), (string (ByteArray.mk #[])), (slice none 0 0), (int .i64 (0 : Int)), (bool false), (int .i64 (0 : Int)), (string (ByteArray.mk #[])), (bool false), (int .i64 (0 : Int)), (bool false), (bool false), (int .i64 (0 : Int)), (slice none 0 0), (slice none 0 0)]), (int .i64 (5 : Int))]) h) (((0 : Int) ≤ (1 : Int)) ∧ (((1 : Int) ≤ ((a : Nat) : Int)) ∧ (EvC Proofs.Tryd.prog w0 20 #[(slice (cutA 1 d e 1) (a - 1) (e - 1))] (fun p c => (∃ i : Int, (∃ g : Int, (∃ m : Int, ((p = (Value.tuple #[(int .i64 i), (int .i64 g), (int .i64 m)])) ∧ (brB (m != (0 : Int)) (K (Value.tuple #[(agg #[(int .i64 (0 : Int)), (int .i64 (0 : Int)), (bool false), (string (ByteArray.mk #[])), (slice none 0 0), (int .i64 (0 : Int)), (bool false), (int .i64 (0 : Int)), (string (ByteArray.mk #[])), (bool false), (int .i64 (0 : Int)), (bool false), (bool false), (int .i64 (0 : Int)), (slice none 0 0), (slice none 0 0)]), (int .i64 m)]) c) (brB (decide (((1024 : Int) < i))) (K (Value.tuple #[(agg #[(int .i64 (0 : Int)), (int .i64 (0 : Int)), (bool false), (string (ByteArray.mk #[])), (slice none 0 0), (int .i64 (0 : Int)), (bool false), (int .i64 (0 : Int)), (string (ByteArray.mk #[])), (bool false), (int .i64 (0 : Int)), (bool false), (bool false), (int .i64 (0 : Int)), (slice none 0 0), (slice none 0 0)]), (int .i64 (2 : Int))]) c) (brB (decide ((((a : Nat) : Int) < (IntKind.wrap .i64 ((IntKind.wrap .i64 ((1 : Int) + g)) + i))))) (K (Value.tuple #[(agg #[(int .i64 (0 : Int)), (int .i64 (0 : Int)), (bool false), (string (ByteArray.mk #[])), (slice none 0 0), (int .i64 (0 : Int)), (bool false), (int .i64 (0 : Int)), (string (ByteArray.mk #[])), (bool false), (int .i64 (0 : Int)), (bool false), (bool false), (int .i64 (0 : Int)), (slice none 0 0), (slice none 0 0)]), (int .i64 (5 : Int))]) c) (brB (decide (((IntKind.wrap .i64 ((IntKind.wrap .i64 ((1 : Int) + g)) + i)) < ((a : Nat) : Int)))) (K (Value.tuple #[(agg #[(int .i64 (0 : Int)), (int .i64 (0 : Int)), (bool false), (string (ByteArray.mk #[])), (slice none 0 0), (int .i64 (0 : Int)), (bool false), (int .i64 (0 : Int)), (string (ByteArray.mk #[])), (bool false), (int .i64 (0 : Int)), (bool false), (bool false), (int .i64 (0 : Int)), (slice none 0 0), (slice none 0 0)]), (int .i64 (3 : Int))]) c) (∃ n : Addr, ((d = (some n)) ∧ (((0 : Int) ≤ (0 : Int)) ∧ (((0 : Int) < ((a : Nat) : Int)) ∧ (∃ b : Int, (((cellA w0 c (Addr.add n 0)) = (some (int .u8 b))) ∧ (((0 : Int) ≤ (4 : Int)) ∧ (∃ o : Addr, ((d = (some o)) ∧ (((0 : Int) ≤ (0 : Int)) ∧ (((0 : Int) < ((a : Nat) : Int)) ∧ (∃ k : Int, (((cellA w0 c (Addr.add o 0)) = (some (int .u8 k))) ∧ (brB ((IntKind.wrap .i64 (Int.fdiv b (16 : Int))) == (6 : Int)) (newB w0 c (AB.cells [(int .i64 (IntKind.wrap .i64 (Int.fdiv b (16 : Int)))), (int .i64 (0 : Int)), (bool false), (string (ByteArray.mk #[])), (slice none 0 0), (int .i64 (0 : Int)), (bool false), (int .i64 (0 : Int)), (string (ByteArray.mk #[])), (bool false), (int .i64 (0 : Int)), (bool false), (bool false), (int .i64 (0 : Int)), (slice none 0 0), (slice none 0 0)] (List.length [(int .i64 (IntKind.wrap .i64 (Int.fdiv b (16 : Int)))), (int .i64 (0 : Int)), (bool false), (string (ByteArray.mk #[])), (slice none 0 0), (int .i64 (0 : Int)), (bool false), (int .i64 (0 : Int)), (string (ByteArray.mk #[])), (bool false), (int .i64 (0 : Int)), (bool false), (bool false), (int .i64 (0 : Int)), (slice none 0 0), (slice none 0 0)])) (fun q r => (f15_16 w0 K d a e g (Addr.mk q 0 none) (IntKind.wrap .u8 (((BitVec.toNat ((BitVec.ofInt 8 k) &&& (BitVec.ofInt 8 (15 : Int)))) : Nat) : Int)) (0 : Int) true (0 : Int) (0 : Int) false (ByteArray.mk #[]) none 0 0 (0 : Int) false (0 : Int) (ByteArray.mk #[]) false (0 : Int) false false (0 : Int) none 0 0 none 0 0 r))) (brB ((IntKind.wrap .i64 (Int.fdiv b (16 : Int))) == (8 : Int)) (newB w0 c (AB.cells [(int .i64 (IntKind.wrap .i64 (Int.fdiv b (16 : Int)))), (int .i64 (0 : Int)), (bool false), (string (ByteArray.mk #[])), (slice none 0 0), (int .i64 (0 : Int)), (bool false), (int .i64 (0 : Int)), (string (ByteArray.mk #[])), (bool false), (int .i64 (0 : Int)), (bool false), (bool false), (int .i64 (0 : Int)), (slice none 0 0), (slice none 0 0)] (List.length [(int .i64 (IntKind.wrap .i64 (Int.fdiv b (16 : Int)))), (int .i64 (0 : Int)), (bool false), (string (ByteArray.mk #[])), (slice none 0 0), (int .i64 (0 : Int)), (bool false), (int .i64 (0 : Int)), (string (ByteArray.mk #[])), (bool false), (int .i64 (0 : Int)), (bool false), (bool false), (int .i64 (0 : Int)), (slice none 0 0), (slice none 0 0)])) (fun s t => (f15_16 w0 K d a e g (Addr.mk s 0 none) (IntKind.wrap .u8 (((BitVec.toNat ((BitVec.ofInt 8 k) &&& (BitVec.ofInt 8 (15 : Int)))) : Nat) : Int)) (0 : Int) true (0 : Int) (0 : Int) false (ByteArray.mk #[]) none 0 0 (0 : Int) false (0 : Int) (ByteArray.mk #[]) false (0 : Int) false false (0 : Int) none 0 0 none 0 0 t))) (newB w0 c (AB.cells [(int .i64 (IntKind.wrap .i64 (Int.fdiv b (16 : Int)))), (int .i64 (0 : Int)), (bool false), (string (ByteArray.mk #[])), (slice none 0 0), (int .i64 (0 : Int)), (bool false), (int .i64 (0 : Int)), (string (ByteArray.mk #[])), (bool false), (int .i64 (0 : Int)), (bool false), (bool false), (int .i64 (0 : Int)), (slice none 0 0), (slice none 0 0)] (List.length [(int .i64 (IntKind.wrap .i64 (Int.fdiv b (16 : Int)))), (int .i64 (0 : Int)), (bool false), (string (ByteArray.mk #[])), (slice none 0 0), (int .i64 (0 : Int)), (bool false), (int .i64 (0 : Int)), (string (ByteArray.mk #[])), (bool false), (int .i64 (0 : Int)), (bool false), (bool false), (int .i64 (0 : Int)), (slice none 0 0), (slice none 0 0)])) (fun u v => (f15_16 w0 K d a e g (Addr.mk u 0 none) (IntKind.wrap .u8 (((BitVec.toNat ((BitVec.ofInt 8 k) &&& (BitVec.ofInt 8 (15 : Int)))) : Nat) : Int)) (0 : Int) ((IntKind.wrap .i64 (Int.fdiv b (16 : Int))) == (10 : Int)) (0 : Int) (0 : Int) false (ByteArray.mk #[]) none 0 0 (0 : Int) false (0 : Int) (ByteArray.mk #[]) false (0 : Int) false false (0 : Int) none 0 0 none 0 0 v))))))))))))))))))))))))))) h))))) :
  EvC Proofs.Tryd.prog w0 15 ([(.slice d a e)]).toArray K h := EvC_intro (P := Proofs.Tryd.prog) f15_J (Eq.mp (by kernel_rfl) hv)
/-! ### the document's Decode -/
section
variable {w0 : World} {K : Value → AH → Prop} {h : AH} {R X : List (Nat × AB)} {b c q : Nat} {p : Option Addr} {s s' : RS}
variable {z0 z1 : Int} {z2 : Bool} {z3 : ByteArray} {a4 : Option Addr} {n4 c4 : Nat} {z5 : Int} {z6 : Bool} {z7 : Int} {z8 : ByteArray} {z9 : Bool} {z10 : Int} {z11 z12 : Bool} {z13 : Int} {a14 : Option Addr} {n14 c14 : Nat} {a15 : Option Addr} {n15 c15 : Nat}
theorem f15_43s {m : PkM} {k : Pk} (he : s'.2 = s.2) (h0 : s.2 = 0 → s' = s ∧ m.key = k) (v : PkV m) (w : Own w0 h (rdB b p c s' :: pkB q m :: (ownP m ++ X)))
    (hk : ∀ h' m' e, (m'.key, e) = endP (k, s) → PkV m' → Own w0 h' (ownP m' ++ X) → K (.tuple #[m'.agg, .int .i64 e]) h') :
    f15_43 w0 K ⟨q, 0, none⟩ ⟨b, 0, none⟩ z0 z1 z2 z3 a4 n4 c4 z5 z6 z7 z8 z9 z10 z11 z12 z13 a14 n14 c14 a15 n15 c15 h := by
  have ee : endP (k, s) = if (failS s (decide (s.1 ≠ [])) 3).2 = 0 then (k, 0) else ({}, (failS s (decide (s.1 ≠ [])) 3).2) := rfl
  rw [ee] at hk
  have fin : ∀ h1 (y : RS), y.2 = (failS s (decide (s.1 ≠ [])) 3).2 → Own w0 h1 (rdB b p c y :: pkB q m :: (ownP m ++ X)) → f15_45 w0 K ⟨q, 0, none⟩ ⟨b, 0, none⟩ z0 z1 z2 z3 a4 n4 c4 z5 z6 z7 z8 z9 z10 z11 z12 z13 a14 n14 c14 a15 n15 c15 h1 := fun h1 y hy w1 => by
    refine f15_45_in _ _ _ _ _ _ _ _ _ _ _ _ _ _ _ _ _ _ _ _ _ _ _ _ _ ⟨_, rfl, _, w1.cell0 rfl, brB_of (fun z => ?_) fun z => ?_⟩
    · have z' : (failS s (decide (s.1 ≠ [])) 3).2 ≠ 0 := by rw [← hy]; simpa using z
      rw [if_neg z'] at hk
      have := hk h1 (pk0 0) _ rfl (pk0_v 0) (by rw [pk0_own]; exact w1.tail.tail.drop)
      rw [← hy] at this
      exact ⟨_, rfl, ⟨_, w1.cell0 rfl, this⟩, ⟨_, w1.cell0 rfl, this⟩⟩
    · have z' : (failS s (decide (s.1 ≠ [])) 3).2 = 0 := by rw [← hy]; simpa using z
      rw [if_pos z'] at hk
      have s0 : s.2 = 0 := by
        by_cases q : s.2 = 0
        · exact q
        · rw [failS_err q] at z'; exact z'
      have at' : At w0 h1 ⟨q, 0, none⟩ m.cells := fun j x hj => w1.tail.cell0 hj
      exact ⟨_, _, _, _, _, _, _, _, _, _, _, _, _, _, _, _, _, _, _, _, _, _, ⟨rfl, at'⟩, hk h1 m 0 (by rw [(h0 s0).2]) v w1.tail.tail⟩
  refine f15_43_in _ _ _ _ _ _ _ _ _ _ _ _ _ _ _ _ _ _ _ _ _ _ _ _ _ ⟨_, rfl, _, _, _, w.cell0 rfl, ?_⟩
  by_cases s0 : s.2 = 0
  · obtain ⟨es, _⟩ := h0 s0
    subst es
    have e0 : decide ((0 : Int) < ((s'.1.length : Nat) : Int)) = decide (s'.1 ≠ []) := by
      rw [decide_eq_decide]
      cases s'.1 <;> simp
    rw [e0]
    exact brB_of (fun y => f37_spec w fun h1 w1 => ⟨rfl, fin h1 _ (by rw [y]) w1⟩) fun y => fin h s' (by rw [y]; rfl) w
  · have n' : s'.2 ≠ 0 := by rw [he]; exact s0
    refine brB_of (fun y => f37_spec w fun h1 w1 => ⟨rfl, fin h1 _ (by rw [failS_err n', failS_err s0]; exact he) w1⟩) fun y => fin h s' (by rw [failS_err s0]; exact he) w
theorem pub_ref (n : Nat) (s z : RS) (i : Nat) (hz : (i, z) = (if 0 < n then idS (failS (textS s).2 (!(nameB (toB (textS s).1))) 15) else (0, failS (textS s).2 (!(nameB (toB (textS s).1))) 15))) :
    (failS (takeS z z.1.length).2 (decide (256 < (takeS z z.1.length).1.length)) 2).2 = (pubS n s).2.2.2.2 ∧
    ((pubS n s).2.2.2.2 = 0 → failS (takeS z z.1.length).2 (decide (256 < (takeS z z.1.length).1.length)) 2 = (pubS n s).2.2.2 ∧ (takeS z z.1.length).1 = (pubS n s).2.2.1) ∧ (pubS n s).2.1 = i ∧ (pubS n s).1 = (textS s).1 := by
  have ep : pubS n s = ((textS s).1, i, takeX (failS z (decide (256 < z.1.length)) 2) (failS z (decide (256 < z.1.length)) 2).1.length, (takeS (failS z (decide (256 < z.1.length)) 2) (failS z (decide (256 < z.1.length)) 2).1.length).2) := by
    unfold pubS
    dsimp only
    rw [← hz]
  rw [ep]
  clear ep hz
  obtain ⟨l, e⟩ := z
  by_cases q : e = 0
  · subst q
    have e1 : takeS (l, 0) l.length = (l, ([], 0)) := by rw [takeS_ok rfl (Nat.le_refl _)]; simp
    have e1' : takeS (l, 0) (((l, (0 : Int)) : RS).1.length) = (l, ([], 0)) := e1
    by_cases y : 256 < l.length
    · have e2 : failS (l, 0) (decide (256 < l.length)) 2 = (l, 2) := by rw [decide_eq_true y]; rfl
      have e3 : takeS (l, 2) l.length = ([], (l, 2)) := err_take (by exact (by decide : (2 : Int) ≠ 0))
      dsimp only
      rw [e1, e2]
      dsimp only
      rw [e3, decide_eq_true y]
      exact ⟨rfl, (fun z => absurd z (by exact (by decide : (2 : Int) ≠ 0))), rfl, rfl⟩
    · have e2 : failS (l, 0) (decide (256 < l.length)) 2 = (l, 0) := by rw [decide_eq_false y]; rfl
      dsimp only
      rw [e1, e2]
      dsimp only
      rw [e1, decide_eq_false y]
      refine ⟨rfl, fun _ => ⟨rfl, ?_⟩, rfl, rfl⟩
      rw [takeX, if_pos ⟨rfl, Nat.le_refl _⟩, List.take_length]
  · have n0 : ((l, e) : RS).2 ≠ 0 := q
    have e1 : takeS (l, e) l.length = ([], (l, e)) := err_take n0
    dsimp only
    rw [e1, failS_err n0]
    dsimp only
    rw [failS_err n0, e1]
    exact ⟨rfl, fun z => absurd z q, rfl, rfl⟩
/-- The body, as the document reads it. -/
theorem f15_19s {n k : Nat} {l : List UInt8} {a : Option Addr} (T : TabOk w0) (hn : n < 256) (hkl : k + 1 ≤ l.length) (hh : headB n = true) (w : Own w0 h (pkB q (pk0 ((n / 16 : Nat) : Int)) :: X)) (r : Rdr w0 R a c l) (hs : R ⊆ X)
    (hk : ∀ h' m' e, (m'.key, e) = endP (bodyS n (l.drop (k + 1))) → PkV m' → Own w0 h' (ownP m' ++ X) → K (.tuple #[m'.agg, .int .i64 e]) h') :
    f15_19 w0 K a l.length c ((k : Nat) : Int) ⟨q, 0, none⟩ ((n % 16 : Nat) : Int) z0 z1 z2 z3 a4 n4 c4 z5 z6 z7 z8 z9 z10 z11 z12 z13 a14 n14 c14 a15 n15 c15 h := by
  have hlen := r.len
  have e1 : IntKind.i64.wrap ((1 : Int) + ((k : Nat) : Int)) = ((k + 1 : Nat) : Int) := by rw [wrap64 (by omega) (by omega)]; omega
  have r2 := r.drop (n := k + 1) hkl
  have el : l.length - (k + 1) = (l.drop (k + 1)).length := by rw [List.length_drop]
  refine f15_19_in _ _ _ _ _ _ _ _ _ _ _ _ _ _ _ _ _ _ _ _ _ _ _ _ _ _ _ _ _ ?_
  rw [e1, Int.toNat_natCast]
  refine ⟨by omega, by omega, ((n / 16 : Nat) : Int), w.cell0 (j := 0) rfl, ?_⟩
  rw [el]
  generalize l.drop (k + 1) = l2 at *
  generalize cutA 1 a c (k + 1) = a2 at *
  generalize c - (k + 1) = c2 at *
  rw [natBeq (n / 16) 1 (z := 1) rfl, natBeq (n / 16) 2 (z := 2) rfl, natBeq (n / 16) 3 (z := 3) rfl, natBeq (n / 16) 8 (z := 8) rfl, natBeq (n / 16) 10 (z := 10) rfl]
  have new : ∀ {m : PkM} {h1 : AH} {bb : Nat}, Own w0 h1 (pkB q m :: X) → w0.heap.size ≤ bb → h1 bb = none → Own w0 (h1.put bb (.cells [.slice a2 l2.length c2, .int .i64 0] 2)) (rdB bb a2 c2 (l2, 0) :: pkB q m :: X) := fun w1 hb hbn => Own.new w1 hb hbn
  have noid : hasIdB (n / 16) = false → (if hasIdB (n / 16) then idS (l2, 0) else (0, (l2, 0))) = (0, (l2, 0)) := fun e => by rw [e]; rfl
  unfold bodyS at hk
  refine brB_of (fun k1 => ?_) fun k1 => brB_of (fun k2 => ?_) fun k2 => brB_of (fun k3 => ?_) fun k3 => ?_
  · -- CONNECT
    have k1 := of_decide_eq_true k1
    intro bb hb hbn
    rw [noid (by rw [k1]; rfl), if_pos k1] at hk
    rw [k1] at w
    refine f35_spec T (new w hb hbn) r2 hs fun h2 p2 c2 m2 em v2 w2 r2 => ⟨rfl, ?_⟩
    exact f15_43s (s' := (conS (l2, 0)).2) (s := (conS (l2, 0)).2) (k := (conS (l2, 0)).1) rfl (fun e => ⟨rfl, em e⟩) v2 w2 fun h3 m3 e3 em3 v3 w3 => hk h3 m3 e3 em3 v3 w3
  · -- CONNACK
    have k1 := of_decide_eq_false k1
    have k2 := of_decide_eq_true k2
    intro bb hb hbn
    rw [noid (by rw [k2]; rfl), if_neg k1, if_pos k2] at hk
    rw [k2] at w
    refine f36_spec (new w hb hbn) r2 (sub_cons hs) fun h2 p2 c2 w2 r2 => ⟨_, rfl, f36_spec w2 r2 (sub_cons hs) fun h3 p3 c3 w3 r3 => ⟨_, rfl, ?_⟩⟩
    dsimp only at hk
    have lo := one_lt (l2, 0)
    have ld := one_lt (oneS (l2, 0)).2
    generalize oneS (l2, 0) = o at *
    generalize oneS o.2 = d at *
    have e1 : decide ((1 : Int) < ((o.1 : Nat) : Int)) = decide (1 < o.1) := by rw [decide_eq_decide]; omega
    have e5 : decide ((5 : Int) < ((d.1 : Nat) : Int)) = decide (5 < d.1) := by rw [decide_eq_decide]; omega
    have e00 : (((d.1 : Nat) : Int) != 0) = decide (0 < d.1) := by rw [natBne, Bool.eq_iff_iff]; simp; omega
    rw [e1, e5, e00, natBeq o.1 1 (z := 1) rfl]
    have done : ∀ t, t = (decide (1 < o.1) || decide (5 < d.1) || (decide (o.1 = 1) && decide (0 < d.1))) → f15_27 w0 K ⟨q, 0, none⟩ ⟨bb, 0, none⟩ ((o.1 : Nat) : Int) ((d.1 : Nat) : Int) t z0 z1 z2 z3 a4 n4 c4 z5 z6 z7 z8 z9 z10 z11 z12 z13 a14 n14 c14 a15 n15 c15 h3 := fun t ht => by
      rw [← ht] at hk
      have store : ∀ h4 (y : RS), y = failS d.2 t 3 → Own w0 h4 (rdB bb p3 c3 y :: pkB q (pk0 ((2 : Nat) : Int)) :: X) → _ := fun h4 y hy w4 => f15_43s (K := K) (z0 := z0) (z1 := z1) (z2 := z2) (z3 := z3) (a4 := a4) (n4 := n4) (c4 := c4) (z5 := z5) (z6 := z6) (z7 := z7) (z8 := z8) (z9 := z9) (z10 := z10) (z11 := z11) (z12 := z12) (z13 := z13) (a14 := a14) (n14 := n14) (c14 := c14) (a15 := a15) (n15 := n15) (c15 := c15)
        (m := ({ pk0 2 with present := decide (o.1 = 1), code := ((d.1 : Nat) : Int) } : PkM)) (X := X) (s' := y) (s := failS d.2 t 3) (k := { kind := 2, present := decide (o.1 = 1), code := ((d.1 : Nat) : Int) }) (by rw [hy]) (fun _ => ⟨hy, rfl⟩) ⟨SlV.nil, SlV.nil, SlV.nil⟩
        (Own.upd2 (o' := .cells ({ pk0 2 with present := decide (o.1 = 1), code := ((d.1 : Nat) : Int) } : PkM).cells 16) (Own.upd2 (o' := .cells ({ pk0 2 with present := decide (o.1 = 1) } : PkM).cells 16) w4)) fun h7 m7 e7 em v7 w7 => hk h7 m7 e7 em v7 w7
      refine f15_27_in _ _ _ _ _ _ _ _ _ _ _ _ _ _ _ _ _ _ _ _ _ _ _ _ _ _ _ _ ?_
      rw [natBeq o.1 1 (z := 1) rfl, wrap64 (x := ((d.1 : Nat) : Int)) (by omega) (by omega)]
      refine brB_of (fun y => f37_spec w3 fun h4 w4 => ⟨rfl, ?_⟩) fun y => ?_
      · have w5 := Own.upd2 (o' := .cells ({ pk0 2 with present := decide (o.1 = 1) } : PkM).cells 16) w4
        exact ⟨_, _, w4.tail.ge, rfl, w4.tail.hd, by simp [Addr.add, pk0], _, _, w5.tail.ge, rfl, w5.tail.hd, by simp [Addr.add, setCells], store h4 _ (by rw [y]) w4⟩
      · have w5 := Own.upd2 (o' := .cells ({ pk0 2 with present := decide (o.1 = 1) } : PkM).cells 16) w3
        exact ⟨_, _, w3.tail.ge, rfl, w3.tail.hd, by simp [Addr.add, pk0], _, _, w5.tail.ge, rfl, w5.tail.hd, by simp [Addr.add, setCells], store h3 _ (by rw [y]; rfl) w3⟩
    refine brB_of (fun y => done _ (by rw [y]; rfl)) fun y => brB_of (fun y5 => done _ (by rw [y, y5]; rfl)) fun y5 => brB_of (fun y6 => done _ (by rw [y, y5, y6]; rfl)) fun y6 => done _ (by rw [y, y5, y6]; rfl)
  · -- PUBLISH
    have k1 := of_decide_eq_false k1
    have k2 := of_decide_eq_false k2
    have k3 := of_decide_eq_true k3
    rw [noid (by rw [k3]; rfl), if_neg k1, if_neg k2, if_pos k3] at hk
    rw [k3] at w
    dsimp only at hk
    have hd2 : n % 16 / 2 < 256 := by omega
    have eb3 : bitN (n % 16) 3 = bitN n 3 := by unfold bitN; rw [decide_eq_decide]; omega
    have eb0 : bitN (n % 16) 0 = bitN n 0 := by unfold bitN; rw [decide_eq_decide]; omega
    have eq2 : n % 16 / 2 % 4 = n / 2 % 4 := by omega
    rw [bit8 (c := 8) (i := 3) (z := 8) rfl rfl (by decide) (by omega), bit8 (c := 1) (i := 0) (z := 1) rfl rfl (by decide) (by omega), fdivN (n % 16) 2 (z := 2) rfl, and8 (c := 3) (z := 3) rfl hd2 (by decide), and3 _ hd2, eb3, eb0, eq2, wrap64 (x := ((n / 2 % 4 : Nat) : Int)) (by omega) (by omega)]
    refine ⟨_, _, w.ge, rfl, w.hd, by simp [Addr.add, pk0], ?_⟩
    have w1 := Own.put' (o' := .cells ({ pk0 3 with dup := bitN n 3 } : PkM).cells 16) w
    intro bb hb hbn
    refine f38_spec T (new w1 hb hbn) r2 (sub_cons hs) fun h2 p2 c2 w2 r2 => ⟨_, rfl, by decide, _, _, w2.tail.ge, rfl, w2.tail.hd, by simp [Addr.add, pk0], ?_⟩
    have w3 := Own.upd2 (o' := .cells ({ pk0 3 with dup := bitN n 3, topic := toB (textS (l2, 0)).1, qos := ((n / 2 % 4 : Nat) : Int), ret := bitN n 0 } : PkM).cells 16) w2
    refine ⟨((n / 2 % 4 : Nat) : Int), w3.tail.cell0 (j := 5) rfl, ?_⟩
    have rest : ∀ (i : Nat) (z : RS) h5 p5 c5, (i, z) = (if 0 < n / 2 % 4 then idS (failS (textS (l2, 0)).2 (!(nameB (toB (textS (l2, 0)).1))) 15) else (0, failS (textS (l2, 0)).2 (!(nameB (toB (textS (l2, 0)).1))) 15)) → Own w0 h5 (rdB bb p5 c5 z :: pkB q ({ pk0 3 with dup := bitN n 3, topic := toB (textS (l2, 0)).1, qos := ((n / 2 % 4 : Nat) : Int), ret := bitN n 0, id := ((i : Nat) : Int) } : PkM) :: X) → Rdr w0 R p5 c5 z.1 →
        ∃ a21 : Addr, some (⟨bb, 0, none⟩ : Addr) = some a21 ∧ ∃ (p22 : Option Addr) (n23 n24 : Nat), cellA w0 h5 (Addr.add a21 0) = some (.slice p22 n23 n24) ∧ EvC Go.Proofs.Tryd.prog w0 41 #[.pointer (some ⟨bb, 0, none⟩), .int .i64 ((n23 : Nat) : Int)] (fun x h53 => ∃ (p54 : Option Addr) (n55 n56 : Nat), x = .slice p54 n55 n56 ∧
          EvC Go.Proofs.Tryd.prog w0 40 #[.pointer (some ⟨bb, 0, none⟩), .slice p54 n55 n56] (fun x h58 => ∃ (p59 : Option Addr) (n60 n61 : Nat), x = .slice p59 n60 n61 ∧ ∃ (l41 : List Value) (n42 : Nat), w0.heap.size ≤ (Addr.add (Addr.add ⟨q, 0, none⟩ 3) 1).block ∧ (none : Option Nat) = none ∧ h58 (Addr.add (Addr.add ⟨q, 0, none⟩ 3) 1).block = some (.cells l41 n42) ∧
            (Addr.add (Addr.add ⟨q, 0, none⟩ 3) 1).off + Array.size #[Value.slice p59 n60 n61] ≤ l41.length ∧ f15_43 w0 K ⟨q, 0, none⟩ ⟨bb, 0, none⟩ z0 z1 z2 z3 a4 n4 c4 z5 z6 z7 z8 z9 z10 z11 z12 z13 a14 n14 c14 a15 n15 c15 (h58.put (Addr.add (Addr.add ⟨q, 0, none⟩ 3) 1).block (.cells (setCells l41 (Addr.add (Addr.add ⟨q, 0, none⟩ 3) 1).off [.slice p59 n60 n61]) n42))) h53) h5 := fun i z h5 p5 c5 ei w5 r5 => by
      obtain ⟨g1, g2, g3, g4⟩ := pub_ref (n / 2 % 4) (l2, 0) z i ei
      have rl := r5.len
      refine ⟨_, rfl, _, _, _, w5.cell0 rfl, f41_spec w5 r5 (sub_cons hs) rl fun h6 p6 c6 a6 d6 v6 w6 r6 => ⟨_, _, _, rfl, f40_spec w6 fun h7 w7 => ⟨_, _, _, rfl, ?_⟩⟩⟩
      have w8 : Own w0 h7 (rdB bb p6 c6 _ :: pkB q _ :: (slB a6 (u8s (takeS z z.1.length).1) (d6 * 1) ++ X)) := w7.perm (List.Perm.append_left [_] (List.perm_append_comm_assoc (slB a6 (u8s (takeS z z.1.length).1) (d6 * 1)) [_] X))
      refine ⟨_, _, w8.tail.ge, rfl, w8.tail.hd, by simp [Addr.add, pk0], ?_⟩
      have w9 := Own.upd2 (o' := .cells ({ pk0 3 with dup := bitN n 3, topic := toB (textS (l2, 0)).1, qos := ((n / 2 % 4 : Nat) : Int), ret := bitN n 0, id := ((i : Nat) : Int), pa := a6, pc := d6, pay := (takeS z z.1.length).1 } : PkM).cells 16) w8
      refine f15_43s (m := ({ pk0 3 with dup := bitN n 3, topic := toB (textS (l2, 0)).1, qos := ((n / 2 % 4 : Nat) : Int), ret := bitN n 0, id := ((i : Nat) : Int), pa := a6, pc := d6, pay := (takeS z z.1.length).1 } : PkM)) (X := X) (p := p6) (c := c6)
        (s' := failS (takeS z z.1.length).2 (decide (256 < (takeS z z.1.length).1.length)) 2) (s := (pubS (n / 2 % 4) (l2, 0)).2.2.2) (k := { kind := 3, dup := bitN n 3, qos := ((n / 2 % 4 : Nat) : Int), ret := bitN n 0, topic := toB (pubS (n / 2 % 4) (l2, 0)).1, id := (((pubS (n / 2 % 4) (l2, 0)).2.1 : Nat) : Int), pay := (pubS (n / 2 % 4) (l2, 0)).2.2.1 }) g1 (fun e => ⟨(g2 e).1, by rw [← (g2 e).2, g3, g4]; rfl⟩) ⟨v6, SlV.nil, SlV.nil⟩ ?_ fun h7 m7 e7 em v7 w7 => hk h7 m7 e7 em v7 w7
      have eo : ownP ({ pk0 3 with dup := bitN n 3, topic := toB (textS (l2, 0)).1, qos := ((n / 2 % 4 : Nat) : Int), ret := bitN n 0, id := ((i : Nat) : Int), pa := a6, pc := d6, pay := (takeS z z.1.length).1 } : PkM) = slB a6 (u8s (takeS z z.1.length).1) (d6 * 1) := by show slB a6 _ _ ++ ([] ++ []) = _; simp
      rw [eo]
      exact w9
    refine brB_of (fun z => ?_) fun z => ?_
    · have hq : 0 < n / 2 % 4 := by have := of_decide_eq_true z; omega
      rw [if_pos hq] at rest
      refine f39_spec w3 (by rw [failS_fst]; exact r2) (sub_cons hs) fun h5 p5 c5 w5 r5 => ⟨_, rfl, _, _, w5.tail.ge, rfl, w5.tail.hd, by simp [Addr.add, pk0], ?_⟩
      have w6 := Own.upd2 (o' := .cells ({ pk0 3 with dup := bitN n 3, topic := toB (textS (l2, 0)).1, qos := ((n / 2 % 4 : Nat) : Int), ret := bitN n 0, id := (((idS (failS (textS (l2, 0)).2 (!(nameB (toB (textS (l2, 0)).1))) 15)).1 : Nat) : Int) } : PkM).cells 16) w5
      exact rest _ _ _ p5 c5 rfl w6 r5
    · have hq : ¬ 0 < n / 2 % 4 := by have := of_decide_eq_false z; omega
      rw [if_neg hq] at rest
      exact rest 0 _ _ p2 c2 rfl w3 (by rw [failS_fst]; exact r2)
  · have k1 := of_decide_eq_false k1
    have k2 := of_decide_eq_false k2
    have k3 := of_decide_eq_false k3
    rw [if_neg k1, if_neg k2, if_neg k3] at hk
    have kh : n / 16 ≠ 0 ∧ n / 16 ≠ 15 := by
      unfold headB at hh
      dsimp only at hh
      constructor
      · intro e; rw [if_pos (.inl e)] at hh; cases hh
      · intro e; rw [if_pos (.inr e)] at hh; cases hh
    have three7 : ∀ (bb : Nat) h1 t, t = decide (n / 16 = 8 ∨ n / 16 = 10) → Own w0 h1 (rdB bb a2 c2 (l2, 0) :: pkB q (pk0 ((n / 16 : Nat) : Int)) :: X) → f15_37 w0 K ⟨q, 0, none⟩ ⟨bb, 0, none⟩ ((n / 16 : Nat) : Int) t z0 z1 z2 z3 a4 n4 c4 z5 z6 z7 z8 z9 z10 z11 z12 z13 a14 n14 c14 a15 n15 c15 h1 := fun bb h1 t ht w1 => by
      refine f15_37_in _ _ _ _ _ _ _ _ _ _ _ _ _ _ _ _ _ _ _ _ _ _ _ _ _ _ _ (brB_of (fun k8 => ?_) fun k8 => ?_)
      · have k8' := of_decide_eq_true (ht.symm.trans k8)
        have hi : hasIdB (n / 16) = true := decide_eq_true (by omega)
        rw [if_pos k8', hi] at hk
        refine f42_spec rfl w1 r2 hs fun h2 p2 c2 m2 em v2 w2 r2 => ⟨rfl, ?_⟩
        exact f15_43s (s' := (wantsS (decide (n / 16 = 8)) (idS (l2, 0)).2).2) (s := (wantsS (decide (n / 16 = 8)) (idS (l2, 0)).2).2) (k := { kind := ((n / 16 : Nat) : Int), id := (((idS (l2, 0)).1 : Nat) : Int), wants := (wantsS (decide (n / 16 = 8)) (idS (l2, 0)).2).1 }) rfl (fun e => ⟨rfl, em e⟩) v2 w2 fun h3 m3 e3 em3 v3 w3 => hk h3 m3 e3 em3 v3 w3
      · rw [if_neg (of_decide_eq_false (ht.symm.trans k8))] at hk
        rw [natBeq (n / 16) 9 (z := 9) rfl, natBeq (n / 16) 12 (z := 12) rfl, natBeq (n / 16) 13 (z := 13) rfl, natBeq (n / 16) 14 (z := 14) rfl]
        refine brB_of (fun k9 => ?_) fun k9 => ?_
        · have k9 := of_decide_eq_true k9
          have hi : hasIdB (n / 16) = true := decide_eq_true (by omega)
          rw [if_pos k9, hi] at hk
          rw [k9] at w1
          refine f43_spec w1 r2 hs fun h2 p2 c2 m2 em v2 w2 r2 => ⟨rfl, ?_⟩
          exact f15_43s (s' := (codesS (idS (l2, 0)).2).2) (s := (codesS (idS (l2, 0)).2).2) (k := { kind := 9, id := (((idS (l2, 0)).1 : Nat) : Int), codes := (codesS (idS (l2, 0)).2).1 }) rfl (fun e => ⟨rfl, em e⟩) v2 w2 fun h3 m3 e3 em3 v3 w3 => hk h3 m3 e3 em3 v3 w3
        · have k9 := of_decide_eq_false k9
          rw [if_neg k9] at hk
          have k8' := of_decide_eq_false (ht.symm.trans k8)
          have twenty1 : ∀ t, t = decide (12 ≤ n / 16) → f15_21 w0 K ⟨q, 0, none⟩ ⟨bb, 0, none⟩ t z0 z1 z2 z3 a4 n4 c4 z5 z6 z7 z8 z9 z10 z11 z12 z13 a14 n14 c14 a15 n15 c15 h1 := fun t ht => by
            refine f15_21_in _ _ _ _ _ _ _ _ _ _ _ _ _ _ _ _ _ _ _ _ _ _ _ _ _ _ (brB_of (fun y => ?_) fun y => ?_)
            · have y' := of_decide_eq_true (ht.symm.trans y)
              rw [noid (decide_eq_false (by omega))] at hk
              exact f15_43s (m := pk0 ((n / 16 : Nat) : Int)) (X := X) (p := a2) (c := c2) (s' := (l2, 0)) (s := (l2, 0)) (k := { kind := ((n / 16 : Nat) : Int), id := ((0 : Nat) : Int) }) rfl (fun _ => ⟨rfl, rfl⟩) (pk0_v _) w1 fun h3 m3 e3 em3 v3 w3 => hk h3 m3 e3 em3 v3 w3
            · have y' := of_decide_eq_false (ht.symm.trans y)
              have hi : hasIdB (n / 16) = true := decide_eq_true (by omega)
              rw [hi] at hk
              refine f39_spec w1 r2 (sub_cons hs) fun h2 p2 c2 w2 r2 => ⟨_, rfl, _, _, w2.tail.ge, rfl, w2.tail.hd, by simp [Addr.add, pk0], ?_⟩
              have w3 := Own.upd2 (o' := .cells ({ pk0 ((n / 16 : Nat) : Int) with id := (((idS (l2, 0)).1 : Nat) : Int) } : PkM).cells 16) w2
              exact f15_43s (m := { pk0 ((n / 16 : Nat) : Int) with id := (((idS (l2, 0)).1 : Nat) : Int) }) (X := X) (p := p2) (c := c2) (s' := (idS (l2, 0)).2) (s := (idS (l2, 0)).2) (k := { kind := ((n / 16 : Nat) : Int), id := (((idS (l2, 0)).1 : Nat) : Int) }) rfl (fun _ => ⟨rfl, rfl⟩) ⟨SlV.nil, SlV.nil, SlV.nil⟩ w3 fun h3 m3 e3 em3 v3 w3 => hk h3 m3 e3 em3 v3 w3
          refine brB_of (fun y => twenty1 _ ?_) fun y => brB_of (fun y2 => twenty1 _ ?_) fun y2 => twenty1 _ ?_
          · have := of_decide_eq_true y
            exact (decide_eq_true (by omega)).symm
          · have := of_decide_eq_true y2
            exact (decide_eq_true (by omega)).symm
          · have := of_decide_eq_false y
            have := of_decide_eq_false y2
            rw [decide_eq_decide]; omega
    refine brB_of (fun k8 => fun bb hb hbn => three7 bb _ _ ?_ (new w hb hbn)) fun k8 => fun bb hb hbn => three7 bb _ _ ?_ (new w hb hbn)
    · exact (decide_eq_true (.inl (of_decide_eq_true k8))).symm
    · rw [decide_eq_decide]
      have := of_decide_eq_false k8
      omega
end
end Go.G.YtciepfobnaemmaaDoor
