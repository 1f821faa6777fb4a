/- A packet's body. -/
import Derived.Test.YtciepfobnaemmaaDoorPE
import Derived.Test.YtciepfobnaemmaaDoorProg
set_option maxRecDepth 100000
namespace Go.G.YtciepfobnaemmaaDoor
open Go.RowKit
open Value (string slice int bool agg)
def f34_J : Nat → List Nat × Nat := jOf [(5, (1 :: (2 :: (3 :: (5 :: (rn 103 95 [100006, 100007]))))), 1), (20, (0 :: (1 :: (2 :: (3 :: (5 :: (rn 103 95 [100006, 100007])))))), 1), (17, (0 :: (1 :: (2 :: (3 :: (5 :: (rn 23 15 (rn 75 51 (rn 103 27 [100006, 100007])))))))), 1)]

def f34_5 (w0 : World) (K : Value → AH → Prop) (a : Int) (b c : Addr) (d e : Int) (g : Bool) (i : ByteArray) (k : Option Addr) (m n : Nat) (o : Int) (p : Bool) (q : Int) (r : ByteArray) (s : Bool) (t : Int) (u x : Bool) (y : Int) (z : Option Addr) (A B : Nat) (C : Option Addr) (D E : Nat) (h : AH) : Prop :=
  ∀ j : Nat → Value, LPk Proofs.Tryd.prog w0 (EvC Proofs.Tryd.prog w0) f34_J 34 K 5 (.v (.int .u8 a) :: (jv j 4 3 (.bp 0 0 :: (jv j 6 1 (.v (.pointer (some b)) :: (.v (.pointer (some c)) :: (jv j 103 95 []))))))) [some [(.int .i64 d), (.int .i64 e), (.bool g), (.string i), (.slice k m n), (.int .i64 o), (.bool p), (.int .i64 q), (.string r), (.bool s), (.int .i64 t), (.bool u), (.bool x), (.int .i64 y), (.slice z A B), (.slice C D E)]] h

def f34_20 (w0 : World) (K : Value → AH → Prop) (a b : Addr) (c d : Int) (e : Bool) (g : ByteArray) (i : Option Addr) (k m : Nat) (n : Int) (o : Bool) (p : Int) (q : ByteArray) (r : Bool) (s : Int) (t u : Bool) (x : Int) (y : Option Addr) (z A : Nat) (B : Option Addr) (C D : Nat) (h : AH) : Prop :=
  ∀ j : Nat → Value, LPk Proofs.Tryd.prog w0 (EvC Proofs.Tryd.prog w0) f34_J 34 K 20 (jv j 4 4 (.bp 0 0 :: (jv j 6 1 (.v (.pointer (some a)) :: (.v (.pointer (some b)) :: (jv j 103 95 [])))))) [some [(.int .i64 c), (.int .i64 d), (.bool e), (.string g), (.slice i k m), (.int .i64 n), (.bool o), (.int .i64 p), (.string q), (.bool r), (.int .i64 s), (.bool t), (.bool u), (.int .i64 x), (.slice y z A), (.slice B C D)]] h

def f34_17 (w0 : World) (K : Value → AH → Prop) (a b : Addr) (c : Int) (d : Bool) (e g : Int) (i : Bool) (k : ByteArray) (m : Option Addr) (n o : Nat) (p : Int) (q : Bool) (r : Int) (s : ByteArray) (t : Bool) (u : Int) (x y : Bool) (z : Int) (A : Option Addr) (B C : Nat) (D : Option Addr) (E F : Nat) (h : AH) : Prop :=
  ∀ j : Nat → Value, LPk Proofs.Tryd.prog w0 (EvC Proofs.Tryd.prog w0) f34_J 34 K 17 (jv j 4 4 (.bp 0 0 :: (jv j 6 1 (.v (.pointer (some a)) :: (.v (.pointer (some b)) :: (jv j 23 15 (.v (.int .i64 c) :: (jv j 75 51 (.v (.bool d) :: (jv j 103 27 [])))))))))) [some [(.int .i64 e), (.int .i64 g), (.bool i), (.string k), (.slice m n o), (.int .i64 p), (.bool q), (.int .i64 r), (.string s), (.bool t), (.int .i64 u), (.bool x), (.bool y), (.int .i64 z), (.slice A B C), (.slice D E F)]] h

theorem f34_5_in {w0 : World} {K : Value → AH → Prop} (d : Int) (b a : Addr) (g i : Int) (k : Bool) (m : ByteArray) (n : Option Addr) (o p : Nat) (q : Int) (r : Bool) (s : Int) (t : ByteArray) (u : Bool) (v : Int) (x y : Bool) (z : Int) (A : Option Addr) (B C : Nat) (D : Option Addr) (E F : Nat) (h : AH)
  (hv : (∃ R : Int, (((cellA w0 h (Addr.add a 0)) = (some (int .i64 R))) ∧ (brB (R == (1 : Int)) (EvC Proofs.Tryd.prog w0 64 #[(Value.pointer (some b)), (Value.pointer (some a))] (fun a5 a6 => ((a5 = (Value.tuple #[])) ∧ (f34_20 w0 K b a g i k m n o p q r s t u v x y z A B C D E F a6))) h) (brB (R == (2 : Int)) (EvC Proofs.Tryd.prog w0 65 #[(Value.pointer (some b))] (fun a7 a8 => (∃ c : Int, ((a7 = (int .i64 c)) ∧ (EvC Proofs.Tryd.prog w0 65 #[(Value.pointer (some b))] (fun a9 L => (∃ M : Int, ((a9 = (int .i64 M)) ∧ (∃ e : List Go.Value, (∃ N : Nat, (((Array.size (Go.World.heap w0)) ≤ (Addr.block (Addr.add a 12))) ∧ (((none : Option Nat) = none) ∧ (((L (Addr.block (Addr.add a 12))) = (some (AB.cells e N))) ∧ ((((Addr.off (Addr.add a 12)) + (Array.size #[(bool (c == (1 : Int)))])) ≤ (List.length e)) ∧ (∃ Q : List Go.Value, (∃ T : Nat, (((Array.size (Go.World.heap w0)) ≤ (Addr.block (Addr.add a 13))) ∧ (((none : Option Nat) = none) ∧ (((AH.put L (Addr.block (Addr.add a 12)) (AB.cells (setCells e (Addr.off (Addr.add a 12)) [(bool (c == (1 : Int)))]) N) (Addr.block (Addr.add a 13))) = (some (AB.cells Q T))) ∧ ((((Addr.off (Addr.add a 13)) + (Array.size #[(int .i64 M)])) ≤ (List.length Q)) ∧ (brB (decide (((1 : Int) < c))) (EvC Proofs.Tryd.prog w0 66 #[(Value.pointer (some b)), (bool true), (int .i64 (3 : Int))] (fun b0 b1 => ((b0 = (Value.tuple #[])) ∧ (f34_20 w0 K b a g i k m n o p q r s t u v x y z A B C D E F b1))) (AH.put (AH.put L (Addr.block (Addr.add a 12)) (AB.cells (setCells e (Addr.off (Addr.add a 12)) [(bool (c == (1 : Int)))]) N)) (Addr.block (Addr.add a 13)) (AB.cells (setCells Q (Addr.off (Addr.add a 13)) [(int .i64 M)]) T))) (∃ a1 : Int, (((cellA w0 (AH.put (AH.put L (Addr.block (Addr.add a 12)) (AB.cells (setCells e (Addr.off (Addr.add a 12)) [(bool (c == (1 : Int)))]) N)) (Addr.block (Addr.add a 13)) (AB.cells (setCells Q (Addr.off (Addr.add a 13)) [(int .i64 M)]) T)) (Addr.add a 13)) = (some (int .i64 a1))) ∧ (brB (decide (((5 : Int) < a1))) (EvC Proofs.Tryd.prog w0 66 #[(Value.pointer (some b)), (bool true), (int .i64 (3 : Int))] (fun b2 b3 => ((b2 = (Value.tuple #[])) ∧ (f34_20 w0 K b a g i k m n o p q r s t u v x y z A B C D E F b3))) (AH.put (AH.put L (Addr.block (Addr.add a 12)) (AB.cells (setCells e (Addr.off (Addr.add a 12)) [(bool (c == (1 : Int)))]) N)) (Addr.block (Addr.add a 13)) (AB.cells (setCells Q (Addr.off (Addr.add a 13)) [(int .i64 M)]) T))) (∃ a2 : Bool, (((cellA w0 (AH.put (AH.put L (Addr.block (Addr.add a 12)) (AB.cells (setCells e (Addr.off (Addr.add a 12)) [(bool (c == (1 : Int)))]) N)) (Addr.block (Addr.add a 13)) (AB.cells (setCells Q (Addr.off (Addr.add a 13)) [(int .i64 M)]) T)) (Addr.add a 12)) = (some (bool a2))) ∧ (brB a2 (∃ a3 : Int, (((cellA w0 (AH.put (AH.put L (Addr.block (Addr.add a 12)) (AB.cells (setCells e (Addr.off (Addr.add a 12)) [(bool (c == (1 : Int)))]) N)) (Addr.block (Addr.add a 13)) (AB.cells (setCells Q (Addr.off (Addr.add a 13)) [(int .i64 M)]) T)) (Addr.add a 13)) = (some (int .i64 a3))) ∧ (EvC Proofs.Tryd.prog w0 66 #[(Value.pointer (some b)), (bool (decide (((0 : Int) < a3)))), (int .i64 (3 : Int))] (fun b4 b5 => ((b4 = (Value.tuple #[])) ∧ (f34_20 w0 K b a g i k m n o p q r s t u v x y z A B C D E F b5))) (AH.put (AH.put L (Addr.block (Addr.add a 12)) (AB.cells (setCells e (Addr.off (Addr.add a 12)) [(bool (c == (1 : Int)))]) N)) (Addr.block (Addr.add a 13)) (AB.cells (setCells Q (Addr.off (Addr.add a 13)) [(int .i64 M)]) T))))) (EvC Proofs.Tryd.prog w0 66 #[(Value.pointer (some b)), (bool false), (int .i64 (3 : Int))] (fun b6 b7 => ((b6 = (Value.tuple #[])) ∧ (f34_20 w0 K b a g i k m n o p q r s t u v x y z A B C D E F b7))) (AH.put (AH.put L (Addr.block (Addr.add a 12)) (AB.cells (setCells e (Addr.off (Addr.add a 12)) [(bool (c == (1 : Int)))]) N)) (Addr.block (Addr.add a 13)) (AB.cells (setCells Q (Addr.off (Addr.add a 13)) [(int .i64 M)]) T))))))))))))))))))))))))) a8)))) h) (brB (R == (3 : Int)) (((0 : Int) ≤ (1 : Int)) ∧ (∃ U : List Go.Value, (∃ V : Nat, (((Array.size (Go.World.heap w0)) ≤ (Addr.block (Addr.add a 2))) ∧ (((none : Option Nat) = none) ∧ (((h (Addr.block (Addr.add a 2))) = (some (AB.cells U V))) ∧ ((((Addr.off (Addr.add a 2)) + (Array.size #[(bool ((IntKind.wrap .u8 (((BitVec.toNat ((BitVec.ofInt 8 d) &&& (BitVec.ofInt 8 (8 : Int)))) : Nat) : Int)) != (0 : Int)))])) ≤ (List.length U)) ∧ (∃ Y : List Go.Value, (∃ Z : Nat, (((Array.size (Go.World.heap w0)) ≤ (Addr.block (Addr.add (Addr.add a 3) 2))) ∧ (((none : Option Nat) = none) ∧ (((AH.put h (Addr.block (Addr.add a 2)) (AB.cells (setCells U (Addr.off (Addr.add a 2)) [(bool ((IntKind.wrap .u8 (((BitVec.toNat ((BitVec.ofInt 8 d) &&& (BitVec.ofInt 8 (8 : Int)))) : Nat) : Int)) != (0 : Int)))]) V) (Addr.block (Addr.add (Addr.add a 3) 2))) = (some (AB.cells Y Z))) ∧ ((((Addr.off (Addr.add (Addr.add a 3) 2)) + (Array.size #[(int .i64 (IntKind.wrap .i64 (IntKind.wrap .u8 (((BitVec.toNat ((BitVec.ofInt 8 (Int.fdiv d (2 : Int))) &&& (BitVec.ofInt 8 (3 : Int)))) : Nat) : Int))))])) ≤ (List.length Y)) ∧ (∃ a0 : List Go.Value, (∃ a4 : Nat, (((Array.size (Go.World.heap w0)) ≤ (Addr.block (Addr.add (Addr.add a 3) 3))) ∧ (((none : Option Nat) = none) ∧ (((AH.put (AH.put h (Addr.block (Addr.add a 2)) (AB.cells (setCells U (Addr.off (Addr.add a 2)) [(bool ((IntKind.wrap .u8 (((BitVec.toNat ((BitVec.ofInt 8 d) &&& (BitVec.ofInt 8 (8 : Int)))) : Nat) : Int)) != (0 : Int)))]) V)) (Addr.block (Addr.add (Addr.add a 3) 2)) (AB.cells (setCells Y (Addr.off (Addr.add (Addr.add a 3) 2)) [(int .i64 (IntKind.wrap .i64 (IntKind.wrap .u8 (((BitVec.toNat ((BitVec.ofInt 8 (Int.fdiv d (2 : Int))) &&& (BitVec.ofInt 8 (3 : Int)))) : Nat) : Int))))]) Z) (Addr.block (Addr.add (Addr.add a 3) 3))) = (some (AB.cells a0 a4))) ∧ ((((Addr.off (Addr.add (Addr.add a 3) 3)) + (Array.size #[(bool ((IntKind.wrap .u8 (((BitVec.toNat ((BitVec.ofInt 8 d) &&& (BitVec.ofInt 8 (1 : Int)))) : Nat) : Int)) != (0 : Int)))])) ≤ (List.length a0)) ∧ (EvC Proofs.Tryd.prog w0 67 #[(Value.pointer (some b)), (Value.pointer (some a))] (fun b8 b9 => ((b8 = (Value.tuple #[])) ∧ (f34_20 w0 K b a g i k m n o p q r s t u v x y z A B C D E F b9))) (AH.put (AH.put (AH.put h (Addr.block (Addr.add a 2)) (AB.cells (setCells U (Addr.off (Addr.add a 2)) [(bool ((IntKind.wrap .u8 (((BitVec.toNat ((BitVec.ofInt 8 d) &&& (BitVec.ofInt 8 (8 : Int)))) : Nat) : Int)) != (0 : Int)))]) V)) (Addr.block (Addr.add (Addr.add a 3) 2)) (AB.cells (setCells Y (Addr.off (Addr.add (Addr.add a 3) 2)) [(int .i64 (IntKind.wrap .i64 (IntKind.wrap .u8 (((BitVec.toNat ((BitVec.ofInt 8 (Int.fdiv d (2 : Int))) &&& (BitVec.ofInt 8 (3 : Int)))) : Nat) : Int))))]) Z)) (Addr.block (Addr.add (Addr.add a 3) 3)) (AB.cells (setCells a0 (Addr.off (Addr.add (Addr.add a 3) 3)) [(bool ((IntKind.wrap .u8 (((BitVec.toNat ((BitVec.ofInt 8 d) &&& (BitVec.ofInt 8 (1 : Int)))) : Nat) : Int)) != (0 : Int)))]) a4)))))))))))))))))))))) (brB (R == (8 : Int)) (f34_17 w0 K b a R true g i k m n o p q r s t u v x y z A B C D E F h) (f34_17 w0 K b a R (R == (10 : Int)) g i k m n o p q r s t u v x y z A B C D E F h)))))))) :
  f34_5 w0 K d b a g i k m n o p q r s t u v x y z A B C D E F h := fun j => LP_intro (P := Proofs.Tryd.prog) (Eq.mp (by kernel_rfl) hv)

theorem f34_20_in {w0 : World} {K : Value → AH → Prop} (b E : Addr) (T U : Int) (V : Bool) (Y : ByteArray) (Z : Option Addr) (a0 a1 : Nat) (a2 : Int) (a3 : Bool) (a4 : Int) (a5 : ByteArray) (a6 : Bool) (a7 : Int) (a8 a9 : Bool) (b0 : Int) (b1 : Option Addr) (b2 b3 : Nat) (b4 : Option Addr) (b5 b6 : Nat) (h : AH)
  (hv : (∃ F : Addr, (((some b) = (some F)) ∧ (∃ b7 : Option Addr, (∃ L : Nat, (∃ b8 : Nat, (((cellA w0 h (Addr.add F 0)) = (some (slice b7 L b8))) ∧ (EvC Proofs.Tryd.prog w0 66 #[(Value.pointer (some b)), (bool (decide (((0 : Int) < ((L : Nat) : Int))))), (int .i64 (3 : Int))] (fun b9 a => ((b9 = (Value.tuple #[])) ∧ (∃ M : Addr, (((some b) = (some M)) ∧ (∃ N : Int, (((cellA w0 a (Addr.add M 1)) = (some (int .i64 N))) ∧ (brB (N != (0 : Int)) (∃ c : Addr, (((some b) = (some c)) ∧ ((∃ Q : Int, (((cellA w0 a (Addr.add c 1)) = (some (int .i64 Q))) ∧ (K (Value.tuple #[(agg #[(int .i64 (0 : Int)), (int .i64 (0 : Int)), (bool false), (string (ByteArray.mk #[])), (slice none 0 0), (int .i64 (0 : Int)), (bool false), (int .i64 (0 : Int)), (string (ByteArray.mk #[])), (bool false), (int .i64 (0 : Int)), (bool false), (bool false), (int .i64 (0 : Int)), (slice none 0 0), (slice none 0 0)]), (int .i64 Q)]) a))) ∧ (∃ R : Int, (((cellA w0 a (Addr.add c 1)) = (some (int .i64 R))) ∧ (K (Value.tuple #[(agg #[(int .i64 (0 : Int)), (int .i64 (0 : Int)), (bool false), (string (ByteArray.mk #[])), (slice none 0 0), (int .i64 (0 : Int)), (bool false), (int .i64 (0 : Int)), (string (ByteArray.mk #[])), (bool false), (int .i64 (0 : Int)), (bool false), (bool false), (int .i64 (0 : Int)), (slice none 0 0), (slice none 0 0)]), (int .i64 R)]) a)))))) (∃ d : Int, (∃ e : Int, (∃ g : Bool, (∃ i : ByteArray, (∃ k : Option Addr, (∃ m : Nat, (∃ n : Nat, (∃ o : Int, (∃ p : Bool, (∃ q : Int, (∃ r : ByteArray, (∃ s : Bool, (∃ t : Int, (∃ u : Bool, (∃ v : Bool, (∃ x : Int, (∃ y : Option Addr, (∃ z : Nat, (∃ A : Nat, (∃ B : Option Addr, (∃ C : Nat, (∃ D : Nat, ((((Array.size #[(int .i64 d), (int .i64 e), (bool g), (string i), (slice k m n), (int .i64 o), (bool p), (int .i64 q), (string r), (bool s), (int .i64 t), (bool u), (bool v), (int .i64 x), (slice y z A), (slice B C D)]) = 16) ∧ (At w0 a E [(int .i64 d), (int .i64 e), (bool g), (string i), (slice k m n), (int .i64 o), (bool p), (int .i64 q), (string r), (bool s), (int .i64 t), (bool u), (bool v), (int .i64 x), (slice y z A), (slice B C D)])) ∧ (K (Value.tuple #[(agg #[(int .i64 d), (int .i64 e), (bool g), (string i), (slice k m n), (int .i64 o), (bool p), (int .i64 q), (string r), (bool s), (int .i64 t), (bool u), (bool v), (int .i64 x), (slice y z A), (slice B C D)]), (int .i64 (0 : Int))]) a))))))))))))))))))))))))))))))) h)))))))) :
  f34_20 w0 K b E T U V Y Z a0 a1 a2 a3 a4 a5 a6 a7 a8 a9 b0 b1 b2 b3 b4 b5 b6 h := fun j => LP_intro (P := Proofs.Tryd.prog) (Eq.mp (by kernel_rfl) hv)

theorem f34_17_in {w0 : World} {K : Value → AH → Prop} (a b : Addr) (D : Int) (E : Bool) (c d : Int) (e : Bool) (g : ByteArray) (i : Option Addr) (k m : Nat) (n : Int) (o : Bool) (p : Int) (q : ByteArray) (r : Bool) (s : Int) (t u : Bool) (v : Int) (x : Option Addr) (y z : Nat) (A : Option Addr) (B C : Nat) (h : AH)
  (hv : (brB E (EvC Proofs.Tryd.prog w0 68 #[(Value.pointer (some a)), (Value.pointer (some b))] (fun F G => ((F = (Value.tuple #[])) ∧ (f34_20 w0 K a b c d e g i k m n o p q r s t u v x y z A B C G))) h) (brB (D == (9 : Int)) (EvC Proofs.Tryd.prog w0 69 #[(Value.pointer (some a)), (Value.pointer (some b))] (fun L M => ((L = (Value.tuple #[])) ∧ (f34_20 w0 K a b c d e g i k m n o p q r s t u v x y z A B C M))) h) (f34_20 w0 K a b c d e g i k m n o p q r s t u v x y z A B C h)))) :
  f34_17 w0 K a b D E c d e g i k m n o p q r s t u v x y z A B C h := fun j => LP_intro (P := Proofs.Tryd.prog) (Eq.mp (by kernel_rfl) hv)

theorem f34_go {w0 : World} {K : Value → AH → Prop} (a : Int) (b : Option Addr) (c d : Nat) (h : AH)
  (hv : (((0 : Int) ≤ (4 : Int)) ∧ (EvC Proofs.Tryd.prog w0 53 #[(int .i64 (IntKind.wrap .i64 (Int.fdiv a (16 : Int))))] (fun m g => (∃ i : Bool, ((m = (bool i)) ∧ (brB i (newB w0 g (AB.cells [(slice b c d), (int .i64 (0 : Int))] (List.length [(slice b c d), (int .i64 (0 : Int))])) (fun k n => (EvC Proofs.Tryd.prog w0 63 #[(Value.pointer (some (Addr.mk k 0 none)))] (fun o p => (∃ e : Int, ((o = (int .i64 e)) ∧ (newB w0 p (AB.cells [(int .i64 (IntKind.wrap .i64 (Int.fdiv a (16 : Int)))), (int .i64 e), (bool false), (string (ByteArray.mk #[])), (slice none 0 0), (int .i64 (0 : Int)), (bool false), (int .i64 (0 : Int)), (string (ByteArray.mk #[])), (bool false), (int .i64 (0 : Int)), (bool false), (bool false), (int .i64 (0 : Int)), (slice none 0 0), (slice none 0 0)] (List.length [(int .i64 (IntKind.wrap .i64 (Int.fdiv a (16 : Int)))), (int .i64 e), (bool false), (string (ByteArray.mk #[])), (slice none 0 0), (int .i64 (0 : Int)), (bool false), (int .i64 (0 : Int)), (string (ByteArray.mk #[])), (bool false), (int .i64 (0 : Int)), (bool false), (bool false), (int .i64 (0 : Int)), (slice none 0 0), (slice none 0 0)])) (fun q r => (f34_5 w0 K a (Addr.mk k 0 none) (Addr.mk q 0 none) (0 : Int) (0 : Int) false (ByteArray.mk #[]) none 0 0 (0 : Int) false (0 : Int) (ByteArray.mk #[]) false (0 : Int) false false (0 : Int) none 0 0 none 0 0 r)))))) n))) (newB w0 g (AB.cells [(slice b c d), (int .i64 (0 : Int))] (List.length [(slice b c d), (int .i64 (0 : Int))])) (fun s t => (newB w0 t (AB.cells [(int .i64 (IntKind.wrap .i64 (Int.fdiv a (16 : Int)))), (int .i64 (0 : Int)), (bool false), (string (ByteArray.mk #[])), (slice none 0 0), (int .i64 (0 : Int)), (bool false), (int .i64 (0 : Int)), (string (ByteArray.mk #[])), (bool false), (int .i64 (0 : Int)), (bool false), (bool false), (int .i64 (0 : Int)), (slice none 0 0), (slice none 0 0)] (List.length [(int .i64 (IntKind.wrap .i64 (Int.fdiv a (16 : Int)))), (int .i64 (0 : Int)), (bool false), (string (ByteArray.mk #[])), (slice none 0 0), (int .i64 (0 : Int)), (bool false), (int .i64 (0 : Int)), (string (ByteArray.mk #[])), (bool false), (int .i64 (0 : Int)), (bool false), (bool false), (int .i64 (0 : Int)), (slice none 0 0), (slice none 0 0)])) (fun u v => (f34_5 w0 K a (Addr.mk s 0 none) (Addr.mk u 0 none) (0 : Int) (0 : Int) false (ByteArray.mk #[]) none 0 0 (0 : Int) false (0 : Int) (ByteArray.mk #[]) false (0 : Int) false false (0 : Int) none 0 0 none 0 0 v))))))))) h))) :
  EvC Proofs.Tryd.prog w0 34 ([(.int .u8 a), (.slice b c d)]).toArray K h := EvC_intro (P := Proofs.Tryd.prog) f34_J (Eq.mp (by kernel_rfl) hv)
/-! ### a packet's body; Decode -/
/-- A body, of a first byte. -/
def bodyS (x : Nat) (l : List UInt8) : Pk × RS :=
  let i := if hasIdB (x / 16) then idS (l, 0) else (0, (l, 0))
  if x / 16 = 1 then conS i.2
  else if x / 16 = 2 then ({ kind := 2, present := decide ((oneS i.2).1 = 1), code := (((oneS (oneS i.2).2).1 : Nat) : Int) }, failS (oneS (oneS i.2).2).2 (decide (1 < (oneS i.2).1) || decide (5 < (oneS (oneS i.2).2).1) || (decide ((oneS i.2).1 = 1) && decide (0 < (oneS (oneS i.2).2).1))) 3)
  else if x / 16 = 3 then ({ kind := 3, dup := bitN x 3, qos := ((x / 2 % 4 : Nat) : Int), ret := bitN x 0, topic := toB (pubS (x / 2 % 4) i.2).1, id := (((pubS (x / 2 % 4) i.2).2.1 : Nat) : Int), pay := (pubS (x / 2 % 4) i.2).2.2.1 }, (pubS (x / 2 % 4) i.2).2.2.2)
  else if x / 16 = 8 ∨ x / 16 = 10 then ({ kind := ((x / 16 : Nat) : Int), id := ((i.1 : Nat) : Int), wants := (wantsS (decide (x / 16 = 8)) i.2).1 }, (wantsS (decide (x / 16 = 8)) i.2).2)
  else if x / 16 = 9 then ({ kind := 9, id := ((i.1 : Nat) : Int), codes := (codesS i.2).1 }, (codesS i.2).2)
  else ({ kind := ((x / 16 : Nat) : Int), id := ((i.1 : Nat) : Int) }, i.2)
def endP (y : Pk × RS) : Pk × Int := if (failS y.2 (decide (y.2.1 ≠ [])) 3).2 = 0 then (y.1, 0) else ({}, (failS y.2 (decide (y.2.1 ≠ [])) 3).2)
def decL : List UInt8 → Pk × Int
  | [] => ({}, 5)
  | x :: r => if (lenS r).2.2 ≠ 0 then ({}, (lenS r).2.2) else if 1024 < (lenS r).1 then ({}, 2) else if r.length < (lenS r).2.1 + (lenS r).1 then ({}, 5)
    else if (lenS r).2.1 + (lenS r).1 < r.length ∨ headB x.toNat = false then ({}, 3) else endP (bodyS x.toNat (r.drop (lenS r).2.1))
/-- Its slices' blocks. -/
def ownP (m : PkM) : List (Nat × AB) := slB m.pa (u8s m.pay) (m.pc * 1) ++ (slB m.wa (m.wants.flatMap WantM.cells) (m.wc * 2) ++ slB m.ca (ints m.codes) (m.cc * 1))
structure PkV (m : PkM) : Prop where
  pay : SlV 1 m.pa m.pay.length m.pc (u8s m.pay)
  wants : SlV 2 m.wa m.wants.length m.wc (m.wants.flatMap WantM.cells)
  codes : SlV 1 m.ca m.codes.length m.cc (ints m.codes)
theorem pk0_v (k : Int) : PkV (pk0 k) := ⟨SlV.nil, SlV.nil, SlV.nil⟩
theorem pk0_own (k : Int) : ownP (pk0 k) = [] := rfl
section
variable {w0 : World} {K : Value → AH → Prop} {h : AH} {R X : List (Nat × AB)} {b c q : Nat} {p : Option Addr} {s : RS}
variable {z0 z1 : Int} {z2 : Bool} {z3 : ByteArray} {a4 : Option Addr} {n4 c4 : Nat} {z5 : Int} {z6 : Bool} {z7 : Int} {z8 : ByteArray} {z9 : Bool} {z10 : Int} {z11 z12 : Bool} {z13 : Int} {a14 : Option Addr} {n14 c14 : Nat} {a15 : Option Addr} {n15 c15 : Nat}
theorem f34_20s {m : PkM} (v : PkV m) (w : Own w0 h (rdB b p c s :: pkB q m :: (ownP m ++ X)))
    (hk : ∀ h' m' e, (m'.key, e) = endP (m.key, s) → PkV m' → Own w0 h' (ownP m' ++ X) → K (.tuple #[m'.agg, .int .i64 e]) h') :
    f34_20 w0 K ⟨b, 0, none⟩ ⟨q, 0, none⟩ z0 z1 z2 z3 a4 n4 c4 z5 z6 z7 z8 z9 z10 z11 z12 z13 a14 n14 c14 a15 n15 c15 h := by
  have e0 : decide ((0 : Int) < ((s.1.length : Nat) : Int)) = decide (s.1 ≠ []) := by
    rw [decide_eq_decide]
    cases s.1 <;> simp
  refine f34_20_in _ _ _ _ _ _ _ _ _ _ _ _ _ _ _ _ _ _ _ _ _ _ _ _ _ ⟨_, rfl, _, _, _, w.cell0 rfl, ?_⟩
  rw [e0]
  have ee : endP (m.key, s) = if (failS s (decide (s.1 ≠ [])) 3).2 = 0 then (m.key, 0) else ({}, (failS s (decide (s.1 ≠ [])) 3).2) := rfl
  rw [ee] at hk
  refine f66_spec w fun h1 w1 => ⟨rfl, _, rfl, _, w1.cell0 rfl, brB_of (fun z => ?_) fun z => ?_⟩
  · have z' : (failS s (decide (s.1 ≠ [])) 3).2 ≠ 0 := by simpa using z
    rw [if_neg z'] at hk
    have := hk h1 (pk0 0) _ rfl (pk0_v 0) (by rw [pk0_own]; exact w1.tail.tail.drop)
    exact ⟨_, rfl, ⟨_, w1.cell0 rfl, this⟩, ⟨_, w1.cell0 rfl, this⟩⟩
  · have z' : (failS s (decide (s.1 ≠ [])) 3).2 = 0 := by simpa using z
    rw [if_pos z'] at hk
    have at' : At w0 h1 ⟨q, 0, none⟩ m.cells := fun j x hj => w1.tail.cell0 hj
    exact ⟨_, _, _, _, _, _, _, _, _, _, _, _, _, _, _, _, _, _, _, _, _, _, ⟨rfl, at'⟩, hk h1 m 0 rfl v w1.tail.tail⟩
theorem f34_spec {x : UInt8} {l : List UInt8} {a : Option Addr} (T : TabOk w0) (w : Own w0 h X) (r : Rdr w0 R a c l) (hs : R ⊆ X)
    (hk : ∀ h' m' e, (m'.key, e) = endP (bodyS x.toNat l) → PkV m' → Own w0 h' (ownP m' ++ X) → K (.tuple #[m'.agg, .int .i64 e]) h') :
    EvC Go.Proofs.Tryd.prog w0 34 #[.int .u8 ((x.toNat : Nat) : Int), .slice a l.length c] K h := by
  have hx : x.toNat < 256 := x.toNat_lt
  generalize x.toNat = n at hk hx
  have e1 : IntKind.i64.wrap (Int.fdiv ((n : Nat) : Int) 16) = ((n / 16 : Nat) : Int) := by rw [fdivN n 16 (z := 16) rfl, wrap64 (by omega) (by omega)]
  refine f34_go _ _ _ _ _ ⟨by decide, ?_⟩
  rw [e1]
  have five : ∀ (b q : Nat) (p : Option Addr) (c : Nat) (i : Nat) (s : RS) (h1 : AH), (i, s) = (if hasIdB (n / 16) then idS (l, 0) else (0, (l, 0))) → Own w0 h1 (rdB b p c s :: pkB q ({ pk0 ((n / 16 : Nat) : Int) with id := ((i : Nat) : Int) } : PkM) :: X) → Rdr w0 R p c s.1 →
      f34_5 w0 K ((n : Nat) : Int) ⟨b, 0, none⟩ ⟨q, 0, none⟩ 0 0 false ⟨#[]⟩ none 0 0 0 false 0 ⟨#[]⟩ false 0 false false 0 none 0 0 none 0 0 h1 := fun b q p c i s h1 ei w1 r1 => by
    have eb : bodyS n l = (if n / 16 = 1 then conS s
      else if n / 16 = 2 then ({ kind := 2, present := decide ((oneS s).1 = 1), code := (((oneS (oneS s).2).1 : Nat) : Int) }, failS (oneS (oneS s).2).2 (decide (1 < (oneS s).1) || decide (5 < (oneS (oneS s).2).1) || (decide ((oneS s).1 = 1) && decide (0 < (oneS (oneS s).2).1))) 3)
      else if n / 16 = 3 then ({ kind := 3, dup := bitN n 3, qos := ((n / 2 % 4 : Nat) : Int), ret := bitN n 0, topic := toB (pubS (n / 2 % 4) s).1, id := (((pubS (n / 2 % 4) s).2.1 : Nat) : Int), pay := (pubS (n / 2 % 4) s).2.2.1 }, (pubS (n / 2 % 4) s).2.2.2)
      else if n / 16 = 8 ∨ n / 16 = 10 then ({ kind := ((n / 16 : Nat) : Int), id := ((i : Nat) : Int), wants := (wantsS (decide (n / 16 = 8)) s).1 }, (wantsS (decide (n / 16 = 8)) s).2)
      else if n / 16 = 9 then ({ kind := 9, id := ((i : Nat) : Int), codes := (codesS s).1 }, (codesS s).2)
      else ({ kind := ((n / 16 : Nat) : Int), id := ((i : Nat) : Int) }, s)) := by
      unfold bodyS
      rw [← ei]
    rw [eb] at hk
    refine f34_5_in _ _ _ _ _ _ _ _ _ _ _ _ _ _ _ _ _ _ _ _ _ _ _ _ _ _ ⟨((n / 16 : Nat) : Int), w1.tail.cell0 (j := 0) rfl, ?_⟩
    rw [natBeq (n / 16) 1 (z := 1) rfl, natBeq (n / 16) 2 (z := 2) rfl, natBeq (n / 16) 3 (z := 3) rfl, natBeq (n / 16) 8 (z := 8) rfl, natBeq (n / 16) 10 (z := 10) rfl]
    have i0 : hasIdB (n / 16) = false → i = 0 := fun e => by rw [e] at ei; exact congrArg Prod.fst ei
    refine brB_of (fun k1 => ?_) fun k1 => brB_of (fun k2 => ?_) fun k2 => brB_of (fun k3 => ?_) fun k3 => ?_
    · -- CONNECT
      have k1 := of_decide_eq_true k1
      rw [if_pos k1] at hk
      rw [k1, i0 (by rw [k1]; rfl)] at w1
      refine f64_spec T w1 r1 hs fun h2 p2 c2 pa pc v2 w2 r2 => ⟨rfl, ?_⟩
      refine f34_20s (p := p2) (c := c2) (m := conM s pa pc) (X := X) ⟨v2, SlV.nil, SlV.nil⟩ ?_ fun h3 m3 e3 em v3 w3 => hk h3 m3 e3 em v3 w3
      have eo : ownP (conM s pa pc) = slB pa (u8s (conS s).1.pay) (pc * 1) := by show slB pa _ _ ++ ([] ++ []) = _; simp [conM]
      rw [eo]; exact w2
    · -- CONNACK
      have k1 := of_decide_eq_false k1
      have k2 := of_decide_eq_true k2
      rw [if_neg k1, if_pos k2] at hk
      rw [k2, i0 (by rw [k2]; rfl)] at w1
      refine f65_spec w1 r1 (sub_cons hs) fun h2 p2 c2 w2 r2 => ⟨_, rfl, f65_spec w2 r2 (sub_cons hs) fun h3 p3 c3 w3 r3 => ⟨_, rfl, ?_⟩⟩
      generalize oneS s = o at *
      generalize oneS o.2 = d at *
      rw [natBeq o.1 1 (z := 1) rfl]
      refine ⟨_, _, w3.tail.ge, rfl, w3.tail.hd, by simp [Addr.add, pk0], ?_⟩
      have w4 := Own.upd2 (o' := .cells ({ pk0 2 with present := decide (o.1 = 1) } : PkM).cells 16) w3
      refine ⟨_, _, w4.tail.ge, rfl, w4.tail.hd, by simp [Addr.add, setCells], ?_⟩
      have w5 := Own.upd2 (o' := .cells ({ pk0 2 with present := decide (o.1 = 1), code := ((d.1 : Nat) : Int) } : PkM).cells 16) w4
      have e1 : decide ((1 : Int) < ((o.1 : Nat) : Int)) = decide (1 < o.1) := by rw [decide_eq_decide]; omega
      have e5 : decide ((5 : Int) < ((d.1 : Nat) : Int)) = decide (5 < d.1) := by rw [decide_eq_decide]; omega
      have e00 : decide ((0 : Int) < ((d.1 : Nat) : Int)) = decide (0 < d.1) := by rw [decide_eq_decide]; omega
      have done : ∀ is, is = (decide (1 < o.1) || decide (5 < d.1) || (decide (o.1 = 1) && decide (0 < d.1))) → ∀ h5, Own w0 h5 (rdB b p3 c3 d.2 :: pkB q ({ pk0 2 with present := decide (o.1 = 1), code := ((d.1 : Nat) : Int) } : PkM) :: X) → EvC Go.Proofs.Tryd.prog w0 66 #[.pointer (some ⟨b, 0, none⟩), .bool is, .int .i64 3] (fun x h' => x = .tuple #[] ∧ f34_20 w0 K ⟨b, 0, none⟩ ⟨q, 0, none⟩ 0 0 false ⟨#[]⟩ none 0 0 0 false 0 ⟨#[]⟩ false 0 false false 0 none 0 0 none 0 0 h') h5 := fun is ei h5 w5 => by
        rw [← ei] at hk
        refine f66_spec w5 fun h6 w6 => ⟨rfl, ?_⟩
        exact f34_20s (m := ({ pk0 2 with present := decide (o.1 = 1), code := ((d.1 : Nat) : Int) } : PkM)) (X := X) ⟨SlV.nil, SlV.nil, SlV.nil⟩ w6 fun h7 m7 e7 em v7 w7 => hk h7 m7 e7 em v7 w7
      rw [e1]
      refine brB_of (fun y => done _ (by rw [y]; rfl) _ w5) fun y => ⟨((d.1 : Nat) : Int), w5.tail.cell0 (j := 13) rfl, ?_⟩
      rw [e5]
      refine brB_of (fun y5 => done _ (by rw [y, y5]; rfl) _ w5) fun y5 => ⟨decide (o.1 = 1), w5.tail.cell0 (j := 12) rfl, brB_of (fun y6 => ⟨((d.1 : Nat) : Int), w5.tail.cell0 (j := 13) rfl, ?_⟩) fun y6 => done _ (by rw [y, y5, y6]; rfl) _ w5⟩
      rw [e00]
      exact done _ (by rw [y, y5, y6]; rfl) _ w5
    · -- PUBLISH
      have k1 := of_decide_eq_false k1
      have k2 := of_decide_eq_false k2
      have k3 := of_decide_eq_true k3
      rw [if_neg k1, if_neg k2, if_pos k3] at hk
      rw [k3, i0 (by rw [k3]; rfl)] at w1
      have hd2 : n / 2 < 256 := by omega
      rw [bit8 (c := 8) (i := 3) (z := 8) rfl rfl (by decide) hx, bit8 (c := 1) (i := 0) (z := 1) rfl rfl (by decide) hx, fdivN n 2 (z := 2) rfl, and8 (c := 3) (z := 3) rfl hd2 (by decide), and3 _ hd2, wrap64 (x := ((n / 2 % 4 : Nat) : Int)) (by omega) (by omega)]
      refine ⟨by decide, _, _, w1.tail.ge, rfl, w1.tail.hd, by simp [Addr.add, pk0], ?_⟩
      have w2 := Own.upd2 (o' := .cells ({ pk0 3 with dup := bitN n 3 } : PkM).cells 16) w1
      refine ⟨_, _, w2.tail.ge, rfl, w2.tail.hd, by simp [Addr.add, setCells], ?_⟩
      have w3 := Own.upd2 (o' := .cells ({ pk0 3 with dup := bitN n 3, qos := ((n / 2 % 4 : Nat) : Int) } : PkM).cells 16) w2
      refine ⟨_, _, w3.tail.ge, rfl, w3.tail.hd, by simp [Addr.add, setCells], ?_⟩
      have w4 := Own.upd2 (o' := .cells ({ pk0 3 with dup := bitN n 3, qos := ((n / 2 % 4 : Nat) : Int), ret := bitN n 0 } : PkM).cells 16) w3
      refine f67_spec (m := { pk0 3 with dup := bitN n 3, qos := ((n / 2 % 4 : Nat) : Int), ret := bitN n 0 }) T rfl ⟨rfl, rfl, rfl, rfl⟩ w4 r1 hs fun h5 p5 c5 pa pc v5 w5 r5 => ⟨rfl, ?_⟩
      refine f34_20s (p := p5) (c := c5) (m := { pk0 3 with dup := bitN n 3, qos := ((n / 2 % 4 : Nat) : Int), ret := bitN n 0, topic := toB (pubS (n / 2 % 4) s).1, id := (((pubS (n / 2 % 4) s).2.1 : Nat) : Int), pa := pa, pc := pc, pay := (pubS (n / 2 % 4) s).2.2.1 }) (X := X) ⟨v5, SlV.nil, SlV.nil⟩ ?_ fun h7 m7 e7 em v7 w7 => hk h7 m7 e7 em v7 w7
      unfold ownP
      rw [show slB (({ pk0 3 with dup := bitN n 3, qos := ((n / 2 % 4 : Nat) : Int), ret := bitN n 0, topic := toB (pubS (n / 2 % 4) s).1, id := (((pubS (n / 2 % 4) s).2.1 : Nat) : Int), pa := pa, pc := pc, pay := (pubS (n / 2 % 4) s).2.2.1 } : PkM).wa) _ _ ++ slB (({ pk0 3 with dup := bitN n 3, qos := ((n / 2 % 4 : Nat) : Int), ret := bitN n 0, topic := toB (pubS (n / 2 % 4) s).1, id := (((pubS (n / 2 % 4) s).2.1 : Nat) : Int), pa := pa, pc := pc, pay := (pubS (n / 2 % 4) s).2.2.1 } : PkM).ca) _ _ = [] from rfl, List.append_nil]
      exact w5
    · have k1 := of_decide_eq_false k1
      have k2 := of_decide_eq_false k2
      have k3 := of_decide_eq_false k3
      rw [if_neg k1, if_neg k2, if_neg k3] at hk
      have seventeen : ∀ t, t = decide (n / 16 = 8 ∨ n / 16 = 10) → f34_17 w0 K ⟨b, 0, none⟩ ⟨q, 0, none⟩ ((n / 16 : Nat) : Int) t 0 0 false ⟨#[]⟩ none 0 0 0 false 0 ⟨#[]⟩ false 0 false false 0 none 0 0 none 0 0 h1 := fun t ht => by
        refine f34_17_in _ _ _ _ _ _ _ _ _ _ _ _ _ _ _ _ _ _ _ _ _ _ _ _ _ _ _ (brB_of (fun k8 => ?_) fun k8 => ?_)
        · rw [if_pos (of_decide_eq_true (ht.symm.trans k8))] at hk
          have ek : decide (({ pk0 ((n / 16 : Nat) : Int) with id := ((i : Nat) : Int) } : PkM).kind = 8) = decide (n / 16 = 8) := by
            show decide (((n / 16 : Nat) : Int) = 8) = _
            rw [decide_eq_decide]; omega
          refine f68_spec (m := { pk0 ((n / 16 : Nat) : Int) with id := ((i : Nat) : Int) }) T ek ⟨rfl, rfl, rfl⟩ w1 r1 hs fun h2 p2 c2 wa wc ms em v2 w2 r2 => ⟨rfl, ?_⟩
          refine f34_20s (p := p2) (c := c2) (s := (wantsS (decide (n / 16 = 8)) s).2) (m := { pk0 ((n / 16 : Nat) : Int) with id := ((i : Nat) : Int), wa := wa, wc := wc, wants := ms }) (X := X) ⟨SlV.nil, v2, SlV.nil⟩ ?_ fun h7 m7 e7 em7 v7 w7 => hk h7 m7 e7 ?_ v7 w7
          · show Own w0 h2 (_ :: _ :: (([] ++ (slB wa (ms.flatMap WantM.cells) (wc * 2) ++ [])) ++ X))
            rw [List.append_nil, List.nil_append]
            exact w2
          · rw [em7, ← em]; rfl
        · rw [if_neg (of_decide_eq_false (ht.symm.trans k8)), natBeq (n / 16) 9 (z := 9) rfl] at *
          refine brB_of (fun k9 => ?_) fun k9 => ?_
          · have k9 := of_decide_eq_true k9
            rw [if_pos k9] at hk
            refine f69_spec (m := { pk0 ((n / 16 : Nat) : Int) with id := ((i : Nat) : Int) }) ⟨rfl, rfl, rfl⟩ w1 r1 hs fun h2 p2 c2 ca cc ms em v2 w2 r2 => ⟨rfl, ?_⟩
            refine f34_20s (p := p2) (c := c2) (s := (codesS s).2) (m := { pk0 ((n / 16 : Nat) : Int) with id := ((i : Nat) : Int), ca := ca, cc := cc, codes := ms }) (X := X) ⟨SlV.nil, SlV.nil, v2⟩ ?_ fun h7 m7 e7 em7 v7 w7 => hk h7 m7 e7 ?_ v7 w7
            · exact w2
            · rw [em7, ← em, k9]; rfl
          · rw [if_neg (of_decide_eq_false k9)] at hk
            exact f34_20s (m := { pk0 ((n / 16 : Nat) : Int) with id := ((i : Nat) : Int) }) (X := X) ⟨SlV.nil, SlV.nil, SlV.nil⟩ w1 fun h7 m7 e7 em7 v7 w7 => hk h7 m7 e7 em7 v7 w7
      refine brB_of (fun k8 => seventeen _ ?_) fun k8 => seventeen _ ?_
      · exact (decide_eq_true (.inl (of_decide_eq_true k8))).symm
      · rw [decide_eq_decide]
        have := of_decide_eq_false k8
        omega
  refine f53_spec ⟨_, rfl, brB_of (fun z => ?_) fun z => ?_⟩
  · intro b hb hn
    have w1 := Own.new (o := .cells [.slice a l.length c, .int .i64 0] 2) w hb hn
    refine f63_spec (s := (l, 0)) (p := a) (c := c) w1 r hs fun h2 p2 c2 w2 r2 => ⟨_, rfl, fun q hq hqn => ?_⟩
    have w3 := Own.new (o := .cells ({ pk0 ((n / 16 : Nat) : Int) with id := (((idS (l, 0)).1 : Nat) : Int) } : PkM).cells 16) w2 hq hqn
    exact five b q p2 c2 _ _ _ (by rw [z]; rfl) (Own.sw w3) r2
  · intro b hb hn q hq hqn
    have w1 := Own.new (o := .cells [.slice a l.length c, .int .i64 0] 2) w hb hn
    have w3 := Own.new (o := .cells ({ pk0 ((n / 16 : Nat) : Int) with id := ((0 : Nat) : Int) } : PkM).cells 16) w1 hq hqn
    exact five b q a c 0 (l, 0) _ (by rw [z]; rfl) (Own.sw w3) r
end
end Go.G.YtciepfobnaemmaaDoor
