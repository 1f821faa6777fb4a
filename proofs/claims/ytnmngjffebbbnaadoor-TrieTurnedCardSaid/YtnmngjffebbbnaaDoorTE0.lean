/- utf8.Valid. -/
import Derived.Test.YtnmngjffebbbnaaDoorTD
import Derived.Test.YtnmngjffebbbnaaDoorProg
set_option maxRecDepth 100000
namespace Go.G.YtnmngjffebbbnaaDoor
open Go.RowKit
open Value (string slice int bool agg)
def f60_J : Nat → List Nat × Nat := jOf [(2, (rn 188 187 []), 0), (7, (rn 31 30 (rn 188 156 [])), 0), (19, (rn 103 102 (rn 188 84 [])), 0), (23, (rn 138 137 (rn 188 49 [])), 0), (27, (rn 185 184 [186, 187]), 0), (9, (rn 46 45 (rn 188 141 [])), 0), (10, (rn 188 187 []), 0)]

def f60_2 (w0 : World) (K : Value → AH → Prop) (a : Option Addr) (b c : Nat) (h : AH) : Prop :=
  ∀ j : Nat → Value, LPk Proofs.Tryd.prog w0 (EvC Proofs.Tryd.prog w0) f60_J 60 K 2 (.v (.slice a b c) :: (jv j 188 187 [])) [] h

def f60_7 (w0 : World) (K : Value → AH → Prop) (a : Option Addr) (b c : Nat) (d : Bool) (h : AH) : Prop :=
  ∀ j : Nat → Value, LPk Proofs.Tryd.prog w0 (EvC Proofs.Tryd.prog w0) f60_J 60 K 7 (.v (.slice a b c) :: (jv j 31 30 (.v (.bool d) :: (jv j 188 156 [])))) [] h

def f60_19 (w0 : World) (K : Value → AH → Prop) (a : Option Addr) (b c : Nat) (d : Bool) (h : AH) : Prop :=
  ∀ j : Nat → Value, LPk Proofs.Tryd.prog w0 (EvC Proofs.Tryd.prog w0) f60_J 60 K 19 (.v (.slice a b c) :: (jv j 103 102 (.v (.bool d) :: (jv j 188 84 [])))) [] h

def f60_23 (w0 : World) (K : Value → AH → Prop) (a : Option Addr) (b c : Nat) (d : Bool) (h : AH) : Prop :=
  ∀ j : Nat → Value, LPk Proofs.Tryd.prog w0 (EvC Proofs.Tryd.prog w0) f60_J 60 K 23 (.v (.slice a b c) :: (jv j 138 137 (.v (.bool d) :: (jv j 188 49 [])))) [] h

def f60_27 (w0 : World) (K : Value → AH → Prop) (a : Option Addr) (b c : Nat) (d : Bool) (h : AH) : Prop :=
  ∀ j : Nat → Value, LPk Proofs.Tryd.prog w0 (EvC Proofs.Tryd.prog w0) f60_J 60 K 27 (.v (.slice a b c) :: (jv j 185 184 (.v (.bool d) :: (jv j 188 2 [])))) [] h

def f60_9 (w0 : World) (K : Value → AH → Prop) (a : Option Addr) (b c : Nat) (d : Bool) (h : AH) : Prop :=
  ∀ j : Nat → Value, LPk Proofs.Tryd.prog w0 (EvC Proofs.Tryd.prog w0) f60_J 60 K 9 (.v (.slice a b c) :: (jv j 46 45 (.v (.bool d) :: (jv j 188 141 [])))) [] h

def f60_10 (w0 : World) (K : Value → AH → Prop) (a : Option Addr) (b c : Nat) (h : AH) : Prop :=
  ∀ j : Nat → Value, LPk Proofs.Tryd.prog w0 (EvC Proofs.Tryd.prog w0) f60_J 60 K 10 (.v (.slice a b c) :: (jv j 188 187 [])) [] h

theorem f60_2_in {w0 : World} {K : Value → AH → Prop} (b : Option Addr) (a c : Nat) (h : AH)
  (hv : (brB (decide (((0 : Int) < ((a : Nat) : Int)))) (∃ k : Addr, ((b = (some k)) ∧ (((0 : Int) ≤ (0 : Int)) ∧ (((0 : Int) < ((a : Nat) : Int)) ∧ (∃ e : Int, (((cellA w0 h (Addr.add k 0)) = (some (int .u8 e))) ∧ (brB (decide ((e < (128 : Int)))) (((0 : Int) ≤ (1 : Int)) ∧ (((1 : Int) ≤ ((a : Nat) : Int)) ∧ (brB (decide (((8 : Int) < (((a - 1) : Nat) : Int)))) (EvC Proofs.Tryd.prog w0 81 #[(slice (cutA 1 b c 1) (a - 1) (c - 1))] (fun U V => (∃ m : Int, ((U = (int .u64 m)) ∧ (f60_7 w0 K (cutA 1 b c 1) (a - 1) (c - 1) ((IntKind.wrap .u64 (((BitVec.toNat ((BitVec.ofInt 64 m) &&& (BitVec.ofInt 64 (9259542123273814144 : Int)))) : Nat) : Int)) == (0 : Int)) V)))) h) (f60_7 w0 K (cutA 1 b c 1) (a - 1) (c - 1) false h)))) (((0 : Int) ≤ e) ∧ ((e < (256 : Int)) ∧ (∃ d : Int, (((cellA w0 h (Addr.add (Addr.mk 0 0 none) ((Int.toNat e) * 1))) = (some (int .u8 d))) ∧ (((0 : Int) ≤ (4 : Int)) ∧ (((0 : Int) ≤ (Int.fdiv d (16 : Int))) ∧ (((Int.fdiv d (16 : Int)) < (16 : Int)) ∧ (∃ g : Int, (∃ i : Int, ((((Array.size #[(int .u8 g), (int .u8 i)]) = 2) ∧ (At w0 h (Addr.add (Addr.mk 1 0 none) ((Int.toNat (Int.fdiv d (16 : Int))) * 2)) [(int .u8 g), (int .u8 i)])) ∧ (brB ((IntKind.wrap .i64 (IntKind.wrap .u8 (((BitVec.toNat ((BitVec.ofInt 8 d) &&& (BitVec.ofInt 8 (7 : Int)))) : Nat) : Int))) == (2 : Int)) (brB (decide ((((a : Nat) : Int) < (2 : Int)))) (f60_19 w0 K b a c true h) (∃ n : Addr, ((b = (some n)) ∧ (((0 : Int) ≤ (1 : Int)) ∧ (((1 : Int) < ((a : Nat) : Int)) ∧ (∃ o : Int, (((cellA w0 h (Addr.add n 1)) = (some (int .u8 o))) ∧ (brB (decide ((o < g))) (f60_19 w0 K b a c true h) (∃ p : Addr, ((b = (some p)) ∧ (((0 : Int) ≤ (1 : Int)) ∧ (((1 : Int) < ((a : Nat) : Int)) ∧ (∃ q : Int, (((cellA w0 h (Addr.add p 1)) = (some (int .u8 q))) ∧ (f60_19 w0 K b a c (decide ((i < q))) h))))))))))))))) (brB ((IntKind.wrap .i64 (IntKind.wrap .u8 (((BitVec.toNat ((BitVec.ofInt 8 d) &&& (BitVec.ofInt 8 (7 : Int)))) : Nat) : Int))) == (3 : Int)) (brB (decide ((((a : Nat) : Int) < (3 : Int)))) (f60_23 w0 K b a c true h) (∃ r : Addr, ((b = (some r)) ∧ (((0 : Int) ≤ (1 : Int)) ∧ (((1 : Int) < ((a : Nat) : Int)) ∧ (∃ s : Int, (((cellA w0 h (Addr.add r 1)) = (some (int .u8 s))) ∧ (brB (decide ((s < g))) (f60_23 w0 K b a c true h) (∃ t : Addr, ((b = (some t)) ∧ (((0 : Int) ≤ (1 : Int)) ∧ (((1 : Int) < ((a : Nat) : Int)) ∧ (∃ u : Int, (((cellA w0 h (Addr.add t 1)) = (some (int .u8 u))) ∧ (brB (decide ((i < u))) (f60_23 w0 K b a c true h) (∃ v : Addr, ((b = (some v)) ∧ (((0 : Int) ≤ (2 : Int)) ∧ (((2 : Int) < ((a : Nat) : Int)) ∧ (∃ x : Int, (((cellA w0 h (Addr.add v 2)) = (some (int .u8 x))) ∧ (brB (decide ((x < (128 : Int)))) (f60_23 w0 K b a c true h) (∃ y : Addr, ((b = (some y)) ∧ (((0 : Int) ≤ (2 : Int)) ∧ (((2 : Int) < ((a : Nat) : Int)) ∧ (∃ z : Int, (((cellA w0 h (Addr.add y 2)) = (some (int .u8 z))) ∧ (f60_23 w0 K b a c (decide (((191 : Int) < z))) h))))))))))))))))))))))))))))) (brB ((IntKind.wrap .i64 (IntKind.wrap .u8 (((BitVec.toNat ((BitVec.ofInt 8 d) &&& (BitVec.ofInt 8 (7 : Int)))) : Nat) : Int))) == (4 : Int)) (brB (decide ((((a : Nat) : Int) < (4 : Int)))) (f60_27 w0 K b a c true h) (∃ A : Addr, ((b = (some A)) ∧ (((0 : Int) ≤ (1 : Int)) ∧ (((1 : Int) < ((a : Nat) : Int)) ∧ (∃ B : Int, (((cellA w0 h (Addr.add A 1)) = (some (int .u8 B))) ∧ (brB (decide ((B < g))) (f60_27 w0 K b a c true h) (∃ C : Addr, ((b = (some C)) ∧ (((0 : Int) ≤ (1 : Int)) ∧ (((1 : Int) < ((a : Nat) : Int)) ∧ (∃ D : Int, (((cellA w0 h (Addr.add C 1)) = (some (int .u8 D))) ∧ (brB (decide ((i < D))) (f60_27 w0 K b a c true h) (∃ E : Addr, ((b = (some E)) ∧ (((0 : Int) ≤ (2 : Int)) ∧ (((2 : Int) < ((a : Nat) : Int)) ∧ (∃ F : Int, (((cellA w0 h (Addr.add E 2)) = (some (int .u8 F))) ∧ (brB (decide ((F < (128 : Int)))) (f60_27 w0 K b a c true h) (∃ L : Addr, ((b = (some L)) ∧ (((0 : Int) ≤ (2 : Int)) ∧ (((2 : Int) < ((a : Nat) : Int)) ∧ (∃ M : Int, (((cellA w0 h (Addr.add L 2)) = (some (int .u8 M))) ∧ (brB (decide (((191 : Int) < M))) (f60_27 w0 K b a c true h) (∃ N : Addr, ((b = (some N)) ∧ (((0 : Int) ≤ (3 : Int)) ∧ (((3 : Int) < ((a : Nat) : Int)) ∧ (∃ Q : Int, (((cellA w0 h (Addr.add N 3)) = (some (int .u8 Q))) ∧ (brB (decide ((Q < (128 : Int)))) (f60_27 w0 K b a c true h) (∃ R : Addr, ((b = (some R)) ∧ (((0 : Int) ≤ (3 : Int)) ∧ (((3 : Int) < ((a : Nat) : Int)) ∧ (∃ T : Int, (((cellA w0 h (Addr.add R 3)) = (some (int .u8 T))) ∧ (f60_27 w0 K b a c (decide (((191 : Int) < T))) h))))))))))))))))))))))))))))))))))))))))))) (K (bool false) h))))))))))))))))))))) (K (bool true) h))) :
  f60_2 w0 K b a c h := fun j => LP_intro (P := Proofs.Tryd.prog) (Eq.mp (by kernel_rfl) hv)

theorem f60_7_in {w0 : World} {K : Value → AH → Prop} (c : Option Addr) (b a : Nat) (d : Bool) (h : AH)
  (hv : (brB d (((0 : Int) ≤ (8 : Int)) ∧ (((8 : Int) ≤ ((b : Nat) : Int)) ∧ (brB (decide (((16 : Int) < (((b - 8) : Nat) : Int)))) (((0 : Int) ≤ (8 : Int)) ∧ (((8 : Int) ≤ (((b - 8) : Nat) : Int)) ∧ (EvC Proofs.Tryd.prog w0 81 #[(slice (cutA 1 c a 8) (b - 8) (a - 8))] (fun i k => (∃ e : Int, ((i = (int .u64 e)) ∧ (EvC Proofs.Tryd.prog w0 81 #[(slice (cutA 1 (cutA 1 c a 8) (a - 8) 8) ((b - 8) - 8) ((a - 8) - 8))] (fun m n => (∃ g : Int, ((m = (int .u64 g)) ∧ (f60_9 w0 K (cutA 1 c a 8) (b - 8) (a - 8) ((IntKind.wrap .u64 (((BitVec.toNat ((BitVec.ofInt 64 (IntKind.wrap .u64 (((BitVec.toNat ((BitVec.ofInt 64 e) ||| (BitVec.ofInt 64 g))) : Nat) : Int))) &&& (BitVec.ofInt 64 (9259542123273814144 : Int)))) : Nat) : Int)) == (0 : Int)) n)))) k)))) h))) (f60_9 w0 K (cutA 1 c a 8) (b - 8) (a - 8) false h)))) (f60_2 w0 K c b a h))) :
  f60_7 w0 K c b a d h := fun j => LP_intro (P := Proofs.Tryd.prog) (Eq.mp (by kernel_rfl) hv)

theorem f60_19_in {w0 : World} {K : Value → AH → Prop} (c : Option Addr) (a b : Nat) (d : Bool) (h : AH)
  (hv : (brB d (K (bool false) h) (((0 : Int) ≤ (2 : Int)) ∧ (((2 : Int) ≤ ((a : Nat) : Int)) ∧ (f60_2 w0 K (cutA 1 c b 2) (a - 2) (b - 2) h))))) :
  f60_19 w0 K c a b d h := fun j => LP_intro (P := Proofs.Tryd.prog) (Eq.mp (by kernel_rfl) hv)

theorem f60_23_in {w0 : World} {K : Value → AH → Prop} (c : Option Addr) (a b : Nat) (d : Bool) (h : AH)
  (hv : (brB d (K (bool false) h) (((0 : Int) ≤ (3 : Int)) ∧ (((3 : Int) ≤ ((a : Nat) : Int)) ∧ (f60_2 w0 K (cutA 1 c b 3) (a - 3) (b - 3) h))))) :
  f60_23 w0 K c a b d h := fun j => LP_intro (P := Proofs.Tryd.prog) (Eq.mp (by kernel_rfl) hv)

theorem f60_27_in {w0 : World} {K : Value → AH → Prop} (c : Option Addr) (a b : Nat) (d : Bool) (h : AH)
  (hv : (brB d (K (bool false) h) (((0 : Int) ≤ (4 : Int)) ∧ (((4 : Int) ≤ ((a : Nat) : Int)) ∧ (f60_2 w0 K (cutA 1 c b 4) (a - 4) (b - 4) h))))) :
  f60_27 w0 K c a b d h := fun j => LP_intro (P := Proofs.Tryd.prog) (Eq.mp (by kernel_rfl) hv)

theorem f60_9_in {w0 : World} {K : Value → AH → Prop} (c : Option Addr) (a b : Nat) (d : Bool) (h : AH)
  (hv : (brB d (((0 : Int) ≤ (16 : Int)) ∧ (((16 : Int) ≤ ((a : Nat) : Int)) ∧ (f60_10 w0 K (cutA 1 c b 16) (a - 16) (b - 16) h))) (f60_2 w0 K c a b h))) :
  f60_9 w0 K c a b d h := fun j => LP_intro (P := Proofs.Tryd.prog) (Eq.mp (by kernel_rfl) hv)

theorem f60_10_in {w0 : World} {K : Value → AH → Prop} (c : Option Addr) (a b : Nat) (h : AH)
  (hv : (brB (decide (((32 : Int) < ((a : Nat) : Int)))) (((0 : Int) ≤ (8 : Int)) ∧ (((8 : Int) ≤ ((a : Nat) : Int)) ∧ (((0 : Int) ≤ (16 : Int)) ∧ (((16 : Int) ≤ ((a : Nat) : Int)) ∧ (((0 : Int) ≤ (24 : Int)) ∧ (((24 : Int) ≤ ((a : Nat) : Int)) ∧ (EvC Proofs.Tryd.prog w0 81 #[(slice c a b)] (fun m n => (∃ d : Int, ((m = (int .u64 d)) ∧ (EvC Proofs.Tryd.prog w0 81 #[(slice (cutA 1 c b 8) (a - 8) (b - 8))] (fun o p => (∃ e : Int, ((o = (int .u64 e)) ∧ (EvC Proofs.Tryd.prog w0 81 #[(slice (cutA 1 c b 16) (a - 16) (b - 16))] (fun q r => (∃ g : Int, ((q = (int .u64 g)) ∧ (EvC Proofs.Tryd.prog w0 81 #[(slice (cutA 1 c b 24) (a - 24) (b - 24))] (fun s i => (∃ k : Int, ((s = (int .u64 k)) ∧ (brB ((IntKind.wrap .u64 (((BitVec.toNat ((BitVec.ofInt 64 (IntKind.wrap .u64 (((BitVec.toNat ((BitVec.ofInt 64 (IntKind.wrap .u64 (((BitVec.toNat ((BitVec.ofInt 64 d) ||| (BitVec.ofInt 64 e))) : Nat) : Int))) ||| (BitVec.ofInt 64 (IntKind.wrap .u64 (((BitVec.toNat ((BitVec.ofInt 64 g) ||| (BitVec.ofInt 64 k))) : Nat) : Int))))) : Nat) : Int))) &&& (BitVec.ofInt 64 (9259542123273814144 : Int)))) : Nat) : Int)) == (0 : Int)) (((0 : Int) ≤ (32 : Int)) ∧ (((32 : Int) ≤ ((a : Nat) : Int)) ∧ (f60_10 w0 K (cutA 1 c b 32) (a - 32) (b - 32) i))) (f60_2 w0 K c a b i))))) r)))) p)))) n)))) h))))))) (f60_2 w0 K c a b h))) :
  f60_10 w0 K c a b h := fun j => LP_intro (P := Proofs.Tryd.prog) (Eq.mp (by kernel_rfl) hv)

theorem f60_go {w0 : World} {K : Value → AH → Prop} (b : Option Addr) (a c : Nat) (h : AH)
  (hv : (((0 : Int) ≤ ((a : Nat) : Int)) ∧ ((((a : Nat) : Int) ≤ ((a : Nat) : Int)) ∧ ((((a : Nat) : Int) ≤ ((c : Nat) : Int)) ∧ (f60_2 w0 K b (Int.toNat ((a : Nat) : Int)) (Int.toNat ((a : Nat) : Int)) h))))) :
  EvC Proofs.Tryd.prog w0 60 ([(.slice b a c)]).toArray K h := EvC_intro (P := Proofs.Tryd.prog) f60_J (Eq.mp (by kernel_rfl) hv)
end Go.G.YtnmngjffebbbnaaDoor
