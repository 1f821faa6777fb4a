/- Levels. -/
import Derived.Test.YtnmngjffebbbnaaDoorTG
import Derived.Test.YtnmngjffebbbnaaDoorProg
set_option maxRecDepth 100000
namespace Go.G.YtnmngjffebbbnaaDoor
open Go.RowKit
open Value (string slice int bool agg)
def f91_J : Nat → List Nat × Nat := jOf [(3, (2 :: (3 :: (4 :: (rn 16 10 (rn 143 126 []))))), 0), (9, (2 :: (3 :: (4 :: (rn 36 30 (rn 143 106 []))))), 0), (10, (2 :: (3 :: (4 :: (rn 143 137 [])))), 0), (15, (2 :: (3 :: (4 :: (rn 143 132 [])))), 0), (21, (2 :: (3 :: (4 :: (rn 143 132 [])))), 0), (22, (2 :: (3 :: (4 :: (rn 93 82 (rn 143 49 []))))), 0), (23, (2 :: (3 :: (4 :: (rn 143 132 [])))), 0), (26, (2 :: (3 :: (4 :: (rn 107 96 (rn 143 35 []))))), 0), (31, (2 :: (3 :: (4 :: (rn 132 121 (rn 143 10 []))))), 0)]

def f91_3 (w0 : World) (K : Value → AH → Prop) (a b : ByteArray) (c : Int) (d : Bool) (h : AH) : Prop :=
  ∀ j : Nat → Value, LPk Proofs.Tryd.prog w0 (EvC Proofs.Tryd.prog w0) f91_J 91 K 3 (.v (.string a) :: (.v (.string b) :: (jv j 5 3 (.v (.int .i64 c) :: (jv j 16 10 (.v (.bool d) :: (jv j 143 126 []))))))) [] h

def f91_9 (w0 : World) (K : Value → AH → Prop) (a b : ByteArray) (c : Int) (d : Bool) (h : AH) : Prop :=
  ∀ j : Nat → Value, LPk Proofs.Tryd.prog w0 (EvC Proofs.Tryd.prog w0) f91_J 91 K 9 (.v (.string a) :: (.v (.string b) :: (jv j 5 3 (.v (.int .i64 c) :: (jv j 36 30 (.v (.bool d) :: (jv j 143 106 []))))))) [] h

def f91_10 (w0 : World) (K : Value → AH → Prop) (a b : ByteArray) (c : Int) (h : AH) : Prop :=
  ∀ j : Nat → Value, LPk Proofs.Tryd.prog w0 (EvC Proofs.Tryd.prog w0) f91_J 91 K 10 (.v (.string a) :: (.v (.string b) :: (jv j 5 3 (.v (.int .i64 c) :: (jv j 143 137 []))))) [] h

def f91_15 (w0 : World) (K : Value → AH → Prop) (a b : ByteArray) (c d : Int) (e g : Int) (i k : Int) (h : AH) : Prop :=
  ∀ j : Nat → Value, LPk Proofs.Tryd.prog w0 (EvC Proofs.Tryd.prog w0) f91_J 91 K 15 (.v (.string a) :: (.v (.string b) :: (jv j 5 3 (.v (.int .i64 c) :: (.v (.int .u8 d) :: (.v (.int .u8 e) :: (.v (.int .i64 g) :: (.v (.int .i64 i) :: (.v (.int .i64 k) :: (jv j 143 132 [])))))))))) [] h

def f91_21 (w0 : World) (K : Value → AH → Prop) (a b : ByteArray) (c d : Int) (e g : Int) (i k : Int) (h : AH) : Prop :=
  ∀ j : Nat → Value, LPk Proofs.Tryd.prog w0 (EvC Proofs.Tryd.prog w0) f91_J 91 K 21 (.v (.string a) :: (.v (.string b) :: (jv j 5 3 (.v (.int .i64 c) :: (.v (.int .u8 d) :: (.v (.int .u8 e) :: (.v (.int .i64 g) :: (.v (.int .i64 i) :: (.v (.int .i64 k) :: (jv j 143 132 [])))))))))) [] h

def f91_22 (w0 : World) (K : Value → AH → Prop) (a b : ByteArray) (c d : Int) (e g : Int) (i k : Int) (m : Bool) (h : AH) : Prop :=
  ∀ j : Nat → Value, LPk Proofs.Tryd.prog w0 (EvC Proofs.Tryd.prog w0) f91_J 91 K 22 (.v (.string a) :: (.v (.string b) :: (jv j 5 3 (.v (.int .i64 c) :: (.v (.int .u8 d) :: (.v (.int .u8 e) :: (.v (.int .i64 g) :: (.v (.int .i64 i) :: (.v (.int .i64 k) :: (jv j 93 82 (.v (.bool m) :: (jv j 143 49 [])))))))))))) [] h

def f91_23 (w0 : World) (K : Value → AH → Prop) (a b : ByteArray) (c d : Int) (e g : Int) (i k : Int) (h : AH) : Prop :=
  ∀ j : Nat → Value, LPk Proofs.Tryd.prog w0 (EvC Proofs.Tryd.prog w0) f91_J 91 K 23 (.v (.string a) :: (.v (.string b) :: (jv j 5 3 (.v (.int .i64 c) :: (.v (.int .u8 d) :: (.v (.int .u8 e) :: (.v (.int .i64 g) :: (.v (.int .i64 i) :: (.v (.int .i64 k) :: (jv j 143 132 [])))))))))) [] h

def f91_26 (w0 : World) (K : Value → AH → Prop) (a b : ByteArray) (c d : Int) (e g : Int) (i k : Int) (m : Bool) (h : AH) : Prop :=
  ∀ j : Nat → Value, LPk Proofs.Tryd.prog w0 (EvC Proofs.Tryd.prog w0) f91_J 91 K 26 (.v (.string a) :: (.v (.string b) :: (jv j 5 3 (.v (.int .i64 c) :: (.v (.int .u8 d) :: (.v (.int .u8 e) :: (.v (.int .i64 g) :: (.v (.int .i64 i) :: (.v (.int .i64 k) :: (jv j 107 96 (.v (.bool m) :: (jv j 143 35 [])))))))))))) [] h

def f91_31 (w0 : World) (K : Value → AH → Prop) (a b : ByteArray) (c d : Int) (e g : Int) (i k : Int) (m : Bool) (h : AH) : Prop :=
  ∀ j : Nat → Value, LPk Proofs.Tryd.prog w0 (EvC Proofs.Tryd.prog w0) f91_J 91 K 31 (.v (.string a) :: (.v (.string b) :: (jv j 5 3 (.v (.int .i64 c) :: (.v (.int .u8 d) :: (.v (.int .u8 e) :: (.v (.int .i64 g) :: (.v (.int .i64 i) :: (.v (.int .i64 k) :: (jv j 132 121 (.v (.bool m) :: (jv j 143 10 [])))))))))))) [] h

theorem f91_3_in {w0 : World} {K : Value → AH → Prop} (a c : ByteArray) (b : Int) (d : Bool) (h : AH)
  (hv : (brB d (K (int .i64 (0 : Int)) h) (brB (b == (1 : Int)) (((0 : Int) ≤ (0 : Int)) ∧ (((0 : Int) < (((ByteArray.size c) : Nat) : Int)) ∧ (EvC Proofs.Tryd.prog w0 98 #[(string a), (int .u8 (byteAt c 0))] (fun i k => (∃ e : Int, ((i = (int .i64 e)) ∧ (K (int .i64 e) k)))) h))) (brB (decide (((((ByteArray.size a) : Nat) : Int) ≤ b))) (K (int .i64 (-1 : Int)) h) (∃ g : Int, (((cellA w0 h (Addr.mk 2 0 none)) = (some (int .i64 g))) ∧ (brB (decide ((b ≤ g))) (f91_9 w0 K a c b (decide (((((ByteArray.size a) : Nat) : Int) ≤ (64 : Int)))) h) (f91_9 w0 K a c b false h)))))))) :
  f91_3 w0 K a c b d h := fun j => LP_intro (P := Proofs.Tryd.prog) (Eq.mp (by kernel_rfl) hv)

theorem f91_9_in {w0 : World} {K : Value → AH → Prop} (a b : ByteArray) (c : Int) (d : Bool) (h : AH)
  (hv : (brB d (extR Proofs.Tryd.prog w0 87 #[(string a), (string b)] h (fun g => (∃ e : Int, ((g = (int .i64 e)) ∧ (K (int .i64 e) h))))) (f91_10 w0 K a b c h))) :
  f91_9 w0 K a b c d h := fun j => LP_intro (P := Proofs.Tryd.prog) (Eq.mp (by kernel_rfl) hv)

theorem f91_10_in {w0 : World} {K : Value → AH → Prop} (b a : ByteArray) (c : Int) (h : AH)
  (hv : (((0 : Int) ≤ (0 : Int)) ∧ (((0 : Int) < (((ByteArray.size a) : Nat) : Int)) ∧ (((0 : Int) ≤ (1 : Int)) ∧ (((1 : Int) < (((ByteArray.size a) : Nat) : Int)) ∧ (f91_15 w0 K b a c (byteAt a 0) (byteAt a 1) (0 : Int) (IntKind.wrap .i64 ((IntKind.wrap .i64 ((((ByteArray.size b) : Nat) : Int) - c)) + (1 : Int))) (0 : Int) h)))))) :
  f91_10 w0 K b a c h := fun j => LP_intro (P := Proofs.Tryd.prog) (Eq.mp (by kernel_rfl) hv)

theorem f91_15_in {w0 : World} {K : Value → AH → Prop} (b e : ByteArray) (g d : Int) (i a : Int) (c k : Int) (h : AH)
  (hv : (brB (decide ((a < c))) (((0 : Int) ≤ a) ∧ ((a < (((ByteArray.size b) : Nat) : Int)) ∧ (brB ((byteAt b (Int.toNat a)) != d) (((0 : Int) ≤ (IntKind.wrap .i64 (a + (1 : Int)))) ∧ (((IntKind.wrap .i64 (a + (1 : Int))) ≤ c) ∧ ((c ≤ (((ByteArray.size b) : Nat) : Int)) ∧ (EvC Proofs.Tryd.prog w0 98 #[(string (ByteArray.extract b (Int.toNat (IntKind.wrap .i64 (a + (1 : Int)))) (Int.toNat c))), (int .u8 d)] (fun o n => (∃ m : Int, ((o = (int .i64 m)) ∧ (brB (decide ((m < (0 : Int)))) (K (int .i64 (-1 : Int)) n) (f91_21 w0 K b e g d i (IntKind.wrap .i64 (a + (IntKind.wrap .i64 (m + (1 : Int))))) c k n))))) h)))) (f91_21 w0 K b e g d i a c k h)))) (K (int .i64 (-1 : Int)) h))) :
  f91_15 w0 K b e g d i a c k h := fun j => LP_intro (P := Proofs.Tryd.prog) (Eq.mp (by kernel_rfl) hv)

theorem f91_21_in {w0 : World} {K : Value → AH → Prop} (b d : ByteArray) (c g : Int) (e a : Int) (i k : Int) (h : AH)
  (hv : (((0 : Int) ≤ (IntKind.wrap .i64 (a + (1 : Int)))) ∧ (((IntKind.wrap .i64 (a + (1 : Int))) < (((ByteArray.size b) : Nat) : Int)) ∧ (brB ((byteAt b (Int.toNat (IntKind.wrap .i64 (a + (1 : Int))))) == e) (((0 : Int) ≤ a) ∧ ((a ≤ (IntKind.wrap .i64 (a + c))) ∧ (((IntKind.wrap .i64 (a + c)) ≤ (((ByteArray.size b) : Nat) : Int)) ∧ (f91_22 w0 K b d c g e a i k (decide (((ByteArray.extract b (Int.toNat a) (Int.toNat (IntKind.wrap .i64 (a + c)))) = d))) h)))) (f91_22 w0 K b d c g e a i k false h))))) :
  f91_21 w0 K b d c g e a i k h := fun j => LP_intro (P := Proofs.Tryd.prog) (Eq.mp (by kernel_rfl) hv)

theorem f91_22_in {w0 : World} {K : Value → AH → Prop} (b c : ByteArray) (d e : Int) (g a : Int) (i k : Int) (m : Bool) (h : AH)
  (hv : (brB m (K (int .i64 a) h) (f91_23 w0 K b c d e g a i k h))) :
  f91_22 w0 K b c d e g a i k m h := fun j => LP_intro (P := Proofs.Tryd.prog) (Eq.mp (by kernel_rfl) hv)

theorem f91_23_in {w0 : World} {K : Value → AH → Prop} (d e : ByteArray) (a g : Int) (i b : Int) (k c : Int) (h : AH)
  (hv : (∃ m : Int, (((cellA w0 h (Addr.mk 2 0 none)) = (some (int .i64 m))) ∧ (brB (decide ((a ≤ m))) (EvC Proofs.Tryd.prog w0 86 #[(int .i64 (IntKind.wrap .i64 (b + (1 : Int))))] (fun o p => (∃ n : Int, ((o = (int .i64 n)) ∧ (f91_26 w0 K d e a g i (IntKind.wrap .i64 (b + (1 : Int))) k (IntKind.wrap .i64 (c + (1 : Int))) (decide ((n < (IntKind.wrap .i64 (c + (1 : Int)))))) p)))) h) (f91_26 w0 K d e a g i (IntKind.wrap .i64 (b + (1 : Int))) k (IntKind.wrap .i64 (c + (1 : Int))) false h))))) :
  f91_23 w0 K d e a g i b k c h := fun j => LP_intro (P := Proofs.Tryd.prog) (Eq.mp (by kernel_rfl) hv)

theorem f91_26_in {w0 : World} {K : Value → AH → Prop} (b c : ByteArray) (d i : Int) (k a : Int) (e g : Int) (n : Bool) (h : AH)
  (hv : (brB n (((0 : Int) ≤ a) ∧ ((a ≤ (((ByteArray.size b) : Nat) : Int)) ∧ (extR Proofs.Tryd.prog w0 87 #[(string (ByteArray.extract b (Int.toNat a) (ByteArray.size b))), (string c)] h (fun p => (∃ m : Int, ((p = (int .i64 m)) ∧ (brB (decide (((0 : Int) ≤ m))) (K (int .i64 (IntKind.wrap .i64 (m + a))) h) (K (int .i64 (-1 : Int)) h)))))))) (∃ o : Int, (((cellA w0 h (Addr.mk 2 0 none)) = (some (int .i64 o))) ∧ (brB (decide ((o < d))) (((0 : Int) ≤ (4 : Int)) ∧ (brB (decide (((IntKind.wrap .i64 ((4 : Int) + (Int.fdiv a (16 : Int)))) ≤ g))) (f91_31 w0 K b c d i k a e g (decide ((a < e))) h) (f91_31 w0 K b c d i k a e g false h))) (f91_31 w0 K b c d i k a e g false h)))))) :
  f91_26 w0 K b c d i k a e g n h := fun j => LP_intro (P := Proofs.Tryd.prog) (Eq.mp (by kernel_rfl) hv)

theorem f91_31_in {w0 : World} {K : Value → AH → Prop} (b c : ByteArray) (e g : Int) (i a : Int) (k m : Int) (n : Bool) (h : AH)
  (hv : (brB n (((0 : Int) ≤ a) ∧ ((a ≤ (((ByteArray.size b) : Nat) : Int)) ∧ (EvC Proofs.Tryd.prog w0 100 #[(string (ByteArray.extract b (Int.toNat a) (ByteArray.size b))), (string c)] (fun p o => (∃ d : Int, ((p = (int .i64 d)) ∧ (brB (decide ((d < (0 : Int)))) (K (int .i64 (-1 : Int)) o) (K (int .i64 (IntKind.wrap .i64 (a + d))) o))))) h))) (f91_15 w0 K b c e g i a k m h))) :
  f91_31 w0 K b c e g i a k m n h := fun j => LP_intro (P := Proofs.Tryd.prog) (Eq.mp (by kernel_rfl) hv)

theorem f91_go {w0 : World} {K : Value → AH → Prop} (b a : ByteArray) (h : AH)
  (hv : (brB ((((ByteArray.size a) : Nat) : Int) == (0 : Int)) (f91_3 w0 K b a (((ByteArray.size a) : Nat) : Int) true h) (f91_3 w0 K b a (((ByteArray.size a) : Nat) : Int) (decide ((a = b))) h))) :
  EvC Proofs.Tryd.prog w0 91 ([(.string b), (.string a)]).toArray K h := EvC_intro (P := Proofs.Tryd.prog) f91_J (Eq.mp (by kernel_rfl) hv)
def f69_J : Nat → List Nat × Nat := jOf []



theorem f69_go {w0 : World} {K : Value → AH → Prop} (a b : ByteArray) (h : AH)
  (hv : (EvC Proofs.Tryd.prog w0 91 #[(string a), (string b)] (fun d e => (∃ c : Int, ((d = (int .i64 c)) ∧ (K (int .i64 c) e)))) h)) :
  EvC Proofs.Tryd.prog w0 69 ([(.string a), (.string b)]).toArray K h := EvC_intro (P := Proofs.Tryd.prog) f69_J (Eq.mp (by kernel_rfl) hv)
def f56_J : Nat → List Nat × Nat := jOf [(7, (rn 66 62 []), 0), (11, (rn 9 5 (rn 66 55 [])), 0)]

def f56_7 (w0 : World) (K : Value → AH → Prop) (a b : ByteArray) (c d : Int) (h : AH) : Prop :=
  ∀ j : Nat → Value, LPk Proofs.Tryd.prog w0 (EvC Proofs.Tryd.prog w0) f56_J 56 K 7 (.v (.string a) :: (.v (.string b) :: (.v (.int .i64 c) :: (.v (.int .i64 d) :: (jv j 66 62 []))))) [] h

def f56_11 (w0 : World) (K : Value → AH → Prop) (a b : ByteArray) (c d : Int) (e : Option Addr) (g i : Nat) (k : Int) (h : AH) : Prop :=
  ∀ j : Nat → Value, LPk Proofs.Tryd.prog w0 (EvC Proofs.Tryd.prog w0) f56_J 56 K 11 (.v (.string a) :: (.v (.string b) :: (.v (.int .i64 c) :: (.v (.int .i64 d) :: (jv j 9 5 (.v (.slice e g i) :: (.v (.int .i64 k) :: (jv j 66 55 [])))))))) [] h

theorem f56_7_in {w0 : World} {K : Value → AH → Prop} (a c : ByteArray) (d b : Int) (h : AH)
  (hv : (((0 : Int) ≤ (if ((IntKind.wrap .i64 ((((ByteArray.size a) : Nat) : Int) + (1 : Int))) < b) then (IntKind.wrap .i64 ((((ByteArray.size a) : Nat) : Int) + (1 : Int))) else b)) ∧ (((if ((IntKind.wrap .i64 ((((ByteArray.size a) : Nat) : Int) + (1 : Int))) < b) then (IntKind.wrap .i64 ((((ByteArray.size a) : Nat) : Int) + (1 : Int))) else b) ≤ (if ((IntKind.wrap .i64 ((((ByteArray.size a) : Nat) : Int) + (1 : Int))) < b) then (IntKind.wrap .i64 ((((ByteArray.size a) : Nat) : Int) + (1 : Int))) else b)) ∧ ((((if ((IntKind.wrap .i64 ((((ByteArray.size a) : Nat) : Int) + (1 : Int))) < b) then (IntKind.wrap .i64 ((((ByteArray.size a) : Nat) : Int) + (1 : Int))) else b) * (16 : Int)) ≤ (140737488355328 : Int)) ∧ (((if ((IntKind.wrap .i64 ((((ByteArray.size a) : Nat) : Int) + (1 : Int))) < b) then (IntKind.wrap .i64 ((((ByteArray.size a) : Nat) : Int) + (1 : Int))) else b) ≤ (140737488355328 : Int)) ∧ ((1 = 1) ∧ (newB w0 h (AB.cells (replF (Int.toNat (if ((IntKind.wrap .i64 ((((ByteArray.size a) : Nat) : Int) + (1 : Int))) < b) then (IntKind.wrap .i64 ((((ByteArray.size a) : Nat) : Int) + (1 : Int))) else b)) [(string (ByteArray.mk #[]))]) ((Int.toNat (if ((IntKind.wrap .i64 ((((ByteArray.size a) : Nat) : Int) + (1 : Int))) < b) then (IntKind.wrap .i64 ((((ByteArray.size a) : Nat) : Int) + (1 : Int))) else b)) * 1)) (fun e g => (f56_11 w0 K a c d (IntKind.wrap .i64 ((if ((IntKind.wrap .i64 ((((ByteArray.size a) : Nat) : Int) + (1 : Int))) < b) then (IntKind.wrap .i64 ((((ByteArray.size a) : Nat) : Int) + (1 : Int))) else b) - (1 : Int))) (some (Addr.mk e 0 none)) (Int.toNat (if ((IntKind.wrap .i64 ((((ByteArray.size a) : Nat) : Int) + (1 : Int))) < b) then (IntKind.wrap .i64 ((((ByteArray.size a) : Nat) : Int) + (1 : Int))) else b)) (Int.toNat (if ((IntKind.wrap .i64 ((((ByteArray.size a) : Nat) : Int) + (1 : Int))) < b) then (IntKind.wrap .i64 ((((ByteArray.size a) : Nat) : Int) + (1 : Int))) else b)) (0 : Int) g))))))))) :
  f56_7 w0 K a c d b h := fun j => LP_intro (P := Proofs.Tryd.prog) (Eq.mp (by kernel_rfl) hv)

theorem f56_11_in {w0 : World} {K : Value → AH → Prop} (b k : ByteArray) (m q : Int) (d : Option Addr) (o n : Nat) (a : Int) (h : AH)
  (hv : (brB (decide ((a < q))) (EvC Proofs.Tryd.prog w0 69 #[(string b), (string k)] (fun y p => (∃ c : Int, ((y = (int .i64 c)) ∧ (brB (decide ((c < (0 : Int)))) (∃ e : Addr, ((d = (some e)) ∧ (((0 : Int) ≤ a) ∧ ((a < ((o : Nat) : Int)) ∧ (∃ r : List Go.Value, (∃ u : Nat, (((Array.size (Go.World.heap w0)) ≤ (Addr.block (Addr.add e ((Int.toNat a) * 1)))) ∧ (((Addr.spot (Addr.add e ((Int.toNat a) * 1))) = none) ∧ (((p (Addr.block (Addr.add e ((Int.toNat a) * 1)))) = (some (AB.cells r u))) ∧ ((((Addr.off (Addr.add e ((Int.toNat a) * 1))) + (Array.size #[(string b)])) ≤ (List.length r)) ∧ (((0 : Int) ≤ (IntKind.wrap .i64 (a + (1 : Int)))) ∧ (((IntKind.wrap .i64 (a + (1 : Int))) ≤ ((n : Nat) : Int)) ∧ (K (slice d (Int.toNat (IntKind.wrap .i64 (a + (1 : Int)))) n) (AH.put p (Addr.block (Addr.add e ((Int.toNat a) * 1))) (AB.cells (setCells r (Addr.off (Addr.add e ((Int.toNat a) * 1))) [(string b)]) u))))))))))))))) (((0 : Int) ≤ (IntKind.wrap .i64 (c + m))) ∧ (((IntKind.wrap .i64 (c + m)) ≤ (((ByteArray.size b) : Nat) : Int)) ∧ (∃ g : Addr, ((d = (some g)) ∧ (((0 : Int) ≤ a) ∧ ((a < ((o : Nat) : Int)) ∧ (∃ s : List Go.Value, (∃ v : Nat, (((Array.size (Go.World.heap w0)) ≤ (Addr.block (Addr.add g ((Int.toNat a) * 1)))) ∧ (((Addr.spot (Addr.add g ((Int.toNat a) * 1))) = none) ∧ (((p (Addr.block (Addr.add g ((Int.toNat a) * 1)))) = (some (AB.cells s v))) ∧ ((((Addr.off (Addr.add g ((Int.toNat a) * 1))) + (Array.size #[(string (ByteArray.extract b 0 (Int.toNat (IntKind.wrap .i64 (c + m)))))])) ≤ (List.length s)) ∧ (((0 : Int) ≤ (IntKind.wrap .i64 (c + (((ByteArray.size k) : Nat) : Int)))) ∧ (((IntKind.wrap .i64 (c + (((ByteArray.size k) : Nat) : Int))) ≤ (((ByteArray.size b) : Nat) : Int)) ∧ (f56_11 w0 K (ByteArray.extract b (Int.toNat (IntKind.wrap .i64 (c + (((ByteArray.size k) : Nat) : Int)))) (ByteArray.size b)) k m q d o n (IntKind.wrap .i64 (a + (1 : Int))) (AH.put p (Addr.block (Addr.add g ((Int.toNat a) * 1))) (AB.cells (setCells s (Addr.off (Addr.add g ((Int.toNat a) * 1))) [(string (ByteArray.extract b 0 (Int.toNat (IntKind.wrap .i64 (c + m)))))]) v))))))))))))))))))))) h) (∃ i : Addr, ((d = (some i)) ∧ (((0 : Int) ≤ a) ∧ ((a < ((o : Nat) : Int)) ∧ (∃ t : List Go.Value, (∃ x : Nat, (((Array.size (Go.World.heap w0)) ≤ (Addr.block (Addr.add i ((Int.toNat a) * 1)))) ∧ (((Addr.spot (Addr.add i ((Int.toNat a) * 1))) = none) ∧ (((h (Addr.block (Addr.add i ((Int.toNat a) * 1)))) = (some (AB.cells t x))) ∧ ((((Addr.off (Addr.add i ((Int.toNat a) * 1))) + (Array.size #[(string b)])) ≤ (List.length t)) ∧ (((0 : Int) ≤ (IntKind.wrap .i64 (a + (1 : Int)))) ∧ (((IntKind.wrap .i64 (a + (1 : Int))) ≤ ((n : Nat) : Int)) ∧ (K (slice d (Int.toNat (IntKind.wrap .i64 (a + (1 : Int)))) n) (AH.put h (Addr.block (Addr.add i ((Int.toNat a) * 1))) (AB.cells (setCells t (Addr.off (Addr.add i ((Int.toNat a) * 1))) [(string b)]) x))))))))))))))))) :
  f56_11 w0 K b k m q d o n a h := fun j => LP_intro (P := Proofs.Tryd.prog) (Eq.mp (by kernel_rfl) hv)

theorem f56_go {w0 : World} {K : Value → AH → Prop} (a b : ByteArray) (d c : Int) (h : AH)
  (hv : (brB (c == (0 : Int)) (K (slice none 0 0) h) (brB (decide ((b = (ByteArray.mk #[])))) (EvC Proofs.Tryd.prog w0 67 #[(string a), (int .i64 c)] (fun m n => (∃ e : Option Addr, (∃ g : Nat, (∃ i : Nat, ((m = (slice e g i)) ∧ (K (slice e g i) n)))))) h) (brB (decide ((c < (0 : Int)))) (EvC Proofs.Tryd.prog w0 68 #[(string a), (string b)] (fun o p => (∃ k : Int, ((o = (int .i64 k)) ∧ (f56_7 w0 K a b d (IntKind.wrap .i64 (k + (1 : Int))) p)))) h) (f56_7 w0 K a b d c h))))) :
  EvC Proofs.Tryd.prog w0 56 ([(.string a), (.string b), (.int .i64 d), (.int .i64 c)]).toArray K h := EvC_intro (P := Proofs.Tryd.prog) f56_J (Eq.mp (by kernel_rfl) hv)
def f44_J : Nat → List Nat × Nat := jOf []



theorem f44_go {w0 : World} {K : Value → AH → Prop} (a b : ByteArray) (h : AH)
  (hv : (EvC Proofs.Tryd.prog w0 56 #[(string a), (string b), (int .i64 (0 : Int)), (int .i64 (-1 : Int))] (fun g i => (∃ c : Option Addr, (∃ d : Nat, (∃ e : Nat, ((g = (slice c d e)) ∧ (K (slice c d e) i)))))) h)) :
  EvC Proofs.Tryd.prog w0 44 ([(.string a), (.string b)]).toArray K h := EvC_intro (P := Proofs.Tryd.prog) f44_J (Eq.mp (by kernel_rfl) hv)
def f27_J : Nat → List Nat × Nat := jOf []



theorem f27_go {w0 : World} {K : Value → AH → Prop} (a : ByteArray) (h : AH)
  (hv : (EvC Proofs.Tryd.prog w0 44 #[(string a), (string (ByteArray.mk #[(47 : UInt8)]))] (fun e g => (∃ b : Option Addr, (∃ c : Nat, (∃ d : Nat, ((e = (slice b c d)) ∧ (K (slice b c d) g)))))) h)) :
  EvC Proofs.Tryd.prog w0 27 ([(.string a)]).toArray K h := EvC_intro (P := Proofs.Tryd.prog) f27_J (Eq.mp (by kernel_rfl) hv)
def f51_J : Nat → List Nat × Nat := jOf [(4, (1 :: (2 :: (rn 32 26 []))), 0), (7, (1 :: (2 :: (rn 21 15 (rn 32 10 [])))), 0)]

def f51_4 (w0 : World) (K : Value → AH → Prop) (a : ByteArray) (b : Option Addr) (c d : Nat) (e g : Int) (h : AH) : Prop :=
  ∀ j : Nat → Value, LPk Proofs.Tryd.prog w0 (EvC Proofs.Tryd.prog w0) f51_J 51 K 4 (.v (.string a) :: (jv j 3 2 (.v (.slice b c d) :: (.v (.int .i64 e) :: (.v (.int .i64 g) :: (jv j 32 26 [])))))) [] h

def f51_7 (w0 : World) (K : Value → AH → Prop) (a : ByteArray) (b : Option Addr) (c d : Nat) (e g : Int) (i : Bool) (h : AH) : Prop :=
  ∀ j : Nat → Value, LPk Proofs.Tryd.prog w0 (EvC Proofs.Tryd.prog w0) f51_J 51 K 7 (.v (.string a) :: (jv j 3 2 (.v (.slice b c d) :: (.v (.int .i64 e) :: (.v (.int .i64 g) :: (jv j 21 15 (.v (.bool i) :: (jv j 32 10 [])))))))) [] h

theorem f51_4_in {w0 : World} {K : Value → AH → Prop} (b : ByteArray) (c : Option Addr) (d e : Nat) (g a : Int) (h : AH)
  (hv : (brB (decide ((a ≤ (((ByteArray.size b) : Nat) : Int)))) (brB (a == (((ByteArray.size b) : Nat) : Int)) (f51_7 w0 K b c d e g a true h) (((0 : Int) ≤ a) ∧ ((a < (((ByteArray.size b) : Nat) : Int)) ∧ (f51_7 w0 K b c d e g a ((byteAt b (Int.toNat a)) == (47 : Int)) h)))) (K (slice c d e) h))) :
  f51_4 w0 K b c d e g a h := fun j => LP_intro (P := Proofs.Tryd.prog) (Eq.mp (by kernel_rfl) hv)

theorem f51_7_in {w0 : World} {K : Value → AH → Prop} (b : ByteArray) (e : Option Addr) (d g : Nat) (c a : Int) (i : Bool) (h : AH)
  (hv : (brB i (((0 : Int) ≤ c) ∧ ((c ≤ a) ∧ ((a ≤ (((ByteArray.size b) : Nat) : Int)) ∧ (App w0 h 1 16 e d g 1 [(string (ByteArray.extract b (Int.toNat c) (Int.toNat a)))] (fun k m n => (f51_4 w0 K b k (d + 1) m (IntKind.wrap .i64 (a + (1 : Int))) (IntKind.wrap .i64 (a + (1 : Int))) n)))))) (f51_4 w0 K b e d g c (IntKind.wrap .i64 (a + (1 : Int))) h))) :
  f51_7 w0 K b e d g c a i h := fun j => LP_intro (P := Proofs.Tryd.prog) (Eq.mp (by kernel_rfl) hv)

theorem f51_go {w0 : World} {K : Value → AH → Prop} (a : ByteArray) (h : AH)
  (hv : (f51_4 w0 K a none 0 0 (0 : Int) (0 : Int) h)) :
  EvC Proofs.Tryd.prog w0 51 ([(.string a)]).toArray K h := EvC_intro (P := Proofs.Tryd.prog) f51_J (Eq.mp (by kernel_rfl) hv)
end Go.G.YtnmngjffebbbnaaDoor
