/- Names, filters. -/
import Derived.Test.YtnmngjffebbbnaaDoorTH
import Derived.Test.YtnmngjffebbbnaaDoorProg
set_option maxRecDepth 100000
namespace Go.G.YtnmngjffebbbnaaDoor
open Go.RowKit
open Value (string slice int bool agg)
def f52_J : Nat → List Nat × Nat := jOf [(2, (1 :: (2 :: (3 :: (4 :: (rn 20 13 []))))), 0), (5, (1 :: (2 :: (3 :: (4 :: (rn 18 11 [19]))))), 0)]

def f52_2 (w0 : World) (K : Value → AH → Prop) (a : ByteArray) (b c : Int) (h : AH) : Prop :=
  ∀ j : Nat → Value, LPk Proofs.Tryd.prog w0 (EvC Proofs.Tryd.prog w0) f52_J 52 K 2 (.v (.string a) :: (jv j 5 4 (.v (.int .i64 b) :: (.v (.int .i64 c) :: (jv j 20 13 []))))) [] h

def f52_5 (w0 : World) (K : Value → AH → Prop) (a : ByteArray) (b c : Int) (d : Bool) (h : AH) : Prop :=
  ∀ j : Nat → Value, LPk Proofs.Tryd.prog w0 (EvC Proofs.Tryd.prog w0) f52_J 52 K 5 (.v (.string a) :: (jv j 5 4 (.v (.int .i64 b) :: (.v (.int .i64 c) :: (jv j 18 11 (.v (.bool d) :: (jv j 20 1 []))))))) [] h

theorem f52_2_in {w0 : World} {K : Value → AH → Prop} (b : ByteArray) (c a : Int) (h : AH)
  (hv : (brB (decide ((a < c))) (((0 : Int) ≤ a) ∧ ((a < (((ByteArray.size b) : Nat) : Int)) ∧ (brB ((byteAt b (Int.toNat a)) == (43 : Int)) (f52_5 w0 K b c a true h) (((0 : Int) ≤ a) ∧ ((a < (((ByteArray.size b) : Nat) : Int)) ∧ (f52_5 w0 K b c a ((byteAt b (Int.toNat a)) == (35 : Int)) h)))))) (K (bool false) h))) :
  f52_2 w0 K b c a h := fun j => LP_intro (P := Proofs.Tryd.prog) (Eq.mp (by kernel_rfl) hv)

theorem f52_5_in {w0 : World} {K : Value → AH → Prop} (a : ByteArray) (b c : Int) (d : Bool) (h : AH)
  (hv : (brB d (K (bool true) h) (f52_2 w0 K a b (IntKind.wrap .i64 (c + (1 : Int))) h))) :
  f52_5 w0 K a b c d h := fun j => LP_intro (P := Proofs.Tryd.prog) (Eq.mp (by kernel_rfl) hv)

theorem f52_go {w0 : World} {K : Value → AH → Prop} (a : ByteArray) (h : AH)
  (hv : (f52_2 w0 K a (((ByteArray.size a) : Nat) : Int) (0 : Int) h)) :
  EvC Proofs.Tryd.prog w0 52 ([(.string a)]).toArray K h := EvC_intro (P := Proofs.Tryd.prog) f52_J (Eq.mp (by kernel_rfl) hv)
def f28_J : Nat → List Nat × Nat := jOf []



theorem f28_go {w0 : World} {K : Value → AH → Prop} (a : ByteArray) (h : AH)
  (hv : (EvC Proofs.Tryd.prog w0 36 #[(string a), (int .i64 (64 : Int))] (fun e b => (∃ c : Bool, ((e = (bool c)) ∧ (brB c (EvC Proofs.Tryd.prog w0 43 #[(string a), (string (ByteArray.mk #[(43 : UInt8), (35 : UInt8)]))] (fun g i => (∃ d : Bool, ((g = (bool d)) ∧ (K (bool (!d)) i)))) b) (K (bool false) b))))) h)) :
  EvC Proofs.Tryd.prog w0 28 ([(.string a)]).toArray K h := EvC_intro (P := Proofs.Tryd.prog) f28_J (Eq.mp (by kernel_rfl) hv)
def f17_J : Nat → List Nat × Nat := jOf []



theorem f17_go {w0 : World} {K : Value → AH → Prop} (a : ByteArray) (h : AH)
  (hv : (EvC Proofs.Tryd.prog w0 36 #[(string a), (int .i64 (32 : Int))] (fun c d => (∃ b : Bool, ((c = (bool b)) ∧ (K (bool b) d)))) h)) :
  EvC Proofs.Tryd.prog w0 17 ([(.string a)]).toArray K h := EvC_intro (P := Proofs.Tryd.prog) f17_J (Eq.mp (by kernel_rfl) hv)
def f26_J : Nat → List Nat × Nat := jOf [(5, (0 :: (1 :: (2 :: (rn 11 7 (rn 34 20 []))))), 0), (9, (0 :: (1 :: (2 :: (4 :: (rn 11 5 (14 :: (15 :: (16 :: (17 :: (rn 34 15 [])))))))))), 0)]

def f26_5 (w0 : World) (K : Value → AH → Prop) (a : Option Addr) (b c : Nat) (d : Option Addr) (e g : Nat) (i k : Int) (h : AH) : Prop :=
  ∀ j : Nat → Value, LPk Proofs.Tryd.prog w0 (EvC Proofs.Tryd.prog w0) f26_J 26 K 5 (jv j 3 3 (.v (.slice a b c) :: (jv j 11 7 (.v (.slice d e g) :: (.v (.int .i64 i) :: (.v (.int .i64 k) :: (jv j 34 20 []))))))) [] h

def f26_9 (w0 : World) (K : Value → AH → Prop) (a : Option Addr) (b c : Nat) (d : ByteArray) (e : Option Addr) (g i : Nat) (k m : Int) (n : Bool) (h : AH) : Prop :=
  ∀ j : Nat → Value, LPk Proofs.Tryd.prog w0 (EvC Proofs.Tryd.prog w0) f26_J 26 K 9 (jv j 3 3 (.v (.slice a b c) :: (jv j 5 1 (.v (.string d) :: (jv j 11 5 (.v (.slice e g i) :: (.v (.int .i64 k) :: (.v (.int .i64 m) :: (jv j 18 4 (.v (.bool n) :: (jv j 34 15 []))))))))))) [] h

theorem f26_5_in {w0 : World} {K : Value → AH → Prop} (i : Option Addr) (c k : Nat) (d : Option Addr) (e m : Nat) (g a : Int) (h : AH)
  (hv : (brB (decide ((a < g))) (∃ n : Addr, ((d = (some n)) ∧ (((0 : Int) ≤ a) ∧ ((a < ((e : Nat) : Int)) ∧ (∃ b : ByteArray, (((cellA w0 h (Addr.add n ((Int.toNat a) * 1))) = (some (string b))) ∧ (brB (decide ((b = (ByteArray.mk #[(43 : UInt8)])))) (f26_9 w0 K i c k b d e m g a true h) (brB (decide ((b = (ByteArray.mk #[(35 : UInt8)])))) (f26_9 w0 K i c k b d e m g a (a == (IntKind.wrap .i64 (((c : Nat) : Int) - (1 : Int)))) h) (f26_9 w0 K i c k b d e m g a false h))))))))) (K (bool true) h))) :
  f26_5 w0 K i c k d e m g a h := fun j => LP_intro (P := Proofs.Tryd.prog) (Eq.mp (by kernel_rfl) hv)

theorem f26_9_in {w0 : World} {K : Value → AH → Prop} (a : Option Addr) (b c : Nat) (m : ByteArray) (d : Option Addr) (e g : Nat) (i k : Int) (n : Bool) (h : AH)
  (hv : (brB n (f26_5 w0 K a b c d e g i (IntKind.wrap .i64 (k + (1 : Int))) h) (EvC Proofs.Tryd.prog w0 43 #[(string m), (string (ByteArray.mk #[(43 : UInt8), (35 : UInt8)]))] (fun q o => (∃ p : Bool, ((q = (bool p)) ∧ (brB p (K (bool false) o) (f26_5 w0 K a b c d e g i (IntKind.wrap .i64 (k + (1 : Int))) o))))) h))) :
  f26_9 w0 K a b c m d e g i k n h := fun j => LP_intro (P := Proofs.Tryd.prog) (Eq.mp (by kernel_rfl) hv)

theorem f26_go {w0 : World} {K : Value → AH → Prop} (b : ByteArray) (h : AH)
  (hv : (EvC Proofs.Tryd.prog w0 36 #[(string b), (int .i64 (64 : Int))] (fun i e => (∃ g : Bool, ((i = (bool g)) ∧ (brB (!g) (K (bool false) e) (EvC Proofs.Tryd.prog w0 27 #[(string b)] (fun k m => (∃ c : Option Addr, (∃ a : Nat, (∃ d : Nat, ((k = (slice c a d)) ∧ (f26_5 w0 K c a d c a d ((a : Nat) : Int) (0 : Int) m)))))) e))))) h)) :
  EvC Proofs.Tryd.prog w0 26 ([(.string b)]).toArray K h := EvC_intro (P := Proofs.Tryd.prog) f26_J (Eq.mp (by kernel_rfl) hv)
def f53_J : Nat → List Nat × Nat := jOf []



theorem f53_go {w0 : World} {K : Value → AH → Prop} (a : ByteArray) (h : AH)
  (hv : (brB (decide (((1 : Int) ≤ (((ByteArray.size a) : Nat) : Int)))) (brB (decide (((((ByteArray.size a) : Nat) : Int) ≤ (64 : Int)))) (∀ b : Nat, (((ByteArray.size a) ≤ b) → (newB w0 h (AB.cells (intsOf a) b) (fun g i => (EvC Proofs.Tryd.prog w0 50 #[(slice (some (Addr.mk g 0 none)) (ByteArray.size a) b)] (fun k c => (∃ d : Bool, ((k = (bool d)) ∧ (brB d (EvC Proofs.Tryd.prog w0 52 #[(string a)] (fun m n => (∃ e : Bool, ((m = (bool e)) ∧ (K (bool (!e)) n)))) c) (K (bool false) c))))) i))))) (K (bool false) h)) (K (bool false) h))) :
  EvC Proofs.Tryd.prog w0 53 ([(.string a)]).toArray K h := EvC_intro (P := Proofs.Tryd.prog) f53_J (Eq.mp (by kernel_rfl) hv)
def f38_J : Nat → List Nat × Nat := jOf []



theorem f38_go {w0 : World} {K : Value → AH → Prop} (a : ByteArray) (h : AH)
  (hv : (brB (decide (((1 : Int) ≤ (((ByteArray.size a) : Nat) : Int)))) (brB (decide (((((ByteArray.size a) : Nat) : Int) ≤ (32 : Int)))) (∀ b : Nat, (((ByteArray.size a) ≤ b) → (newB w0 h (AB.cells (intsOf a) b) (fun d e => (EvC Proofs.Tryd.prog w0 50 #[(slice (some (Addr.mk d 0 none)) (ByteArray.size a) b)] (fun g i => (∃ c : Bool, ((g = (bool c)) ∧ (K (bool c) i)))) e))))) (K (bool false) h)) (K (bool false) h))) :
  EvC Proofs.Tryd.prog w0 38 ([(.string a)]).toArray K h := EvC_intro (P := Proofs.Tryd.prog) f38_J (Eq.mp (by kernel_rfl) hv)
def f37_J : Nat → List Nat × Nat := jOf [(2, (rn 19 18 (rn 47 27 [])), 0), (3, (rn 47 46 []), 0), (5, (0 :: (1 :: (2 :: (rn 22 18 (rn 47 22 []))))), 0), (8, (0 :: (1 :: (2 :: (rn 22 18 (rn 45 20 [46]))))), 0)]

def f37_2 (w0 : World) (K : Value → AH → Prop) (a : ByteArray) (b : Bool) (h : AH) : Prop :=
  ∀ j : Nat → Value, LPk Proofs.Tryd.prog w0 (EvC Proofs.Tryd.prog w0) f37_J 37 K 2 (.v (.string a) :: (jv j 19 18 (.v (.bool b) :: (jv j 47 27 [])))) [] h

def f37_3 (w0 : World) (K : Value → AH → Prop) (a : ByteArray) (h : AH) : Prop :=
  ∀ j : Nat → Value, LPk Proofs.Tryd.prog w0 (EvC Proofs.Tryd.prog w0) f37_J 37 K 3 (.v (.string a) :: (jv j 47 46 [])) [] h

def f37_5 (w0 : World) (K : Value → AH → Prop) (a : Option Addr) (b c : Nat) (d : Option Addr) (e g : Nat) (i k : Int) (h : AH) : Prop :=
  ∀ j : Nat → Value, LPk Proofs.Tryd.prog w0 (EvC Proofs.Tryd.prog w0) f37_J 37 K 5 (jv j 3 3 (.v (.slice a b c) :: (jv j 22 18 (.v (.slice d e g) :: (.v (.int .i64 i) :: (.v (.int .i64 k) :: (jv j 47 22 []))))))) [] h

def f37_8 (w0 : World) (K : Value → AH → Prop) (a : Option Addr) (b c : Nat) (d : Option Addr) (e g : Nat) (i k : Int) (m : Bool) (h : AH) : Prop :=
  ∀ j : Nat → Value, LPk Proofs.Tryd.prog w0 (EvC Proofs.Tryd.prog w0) f37_J 37 K 8 (jv j 3 3 (.v (.slice a b c) :: (jv j 22 18 (.v (.slice d e g) :: (.v (.int .i64 i) :: (.v (.int .i64 k) :: (jv j 45 20 (.v (.bool m) :: (jv j 47 1 []))))))))) [] h

theorem f37_2_in {w0 : World} {K : Value → AH → Prop} (a : ByteArray) (b : Bool) (h : AH)
  (hv : (brB b (K (bool false) h) (f37_3 w0 K a h))) :
  f37_2 w0 K a b h := fun j => LP_intro (P := Proofs.Tryd.prog) (Eq.mp (by kernel_rfl) hv)

theorem f37_3_in {w0 : World} {K : Value → AH → Prop} (d : ByteArray) (h : AH)
  (hv : (EvC Proofs.Tryd.prog w0 51 #[(string d)] (fun e g => (∃ b : Option Addr, (∃ a : Nat, (∃ c : Nat, ((e = (slice b a c)) ∧ (f37_5 w0 K b a c b a c ((a : Nat) : Int) (0 : Int) g)))))) h)) :
  f37_3 w0 K d h := fun j => LP_intro (P := Proofs.Tryd.prog) (Eq.mp (by kernel_rfl) hv)

theorem f37_5_in {w0 : World} {K : Value → AH → Prop} (g : Option Addr) (b i : Nat) (c : Option Addr) (d k : Nat) (e a : Int) (h : AH)
  (hv : (brB (decide ((a < e))) (∃ o : Addr, ((c = (some o)) ∧ (((0 : Int) ≤ a) ∧ ((a < ((d : Nat) : Int)) ∧ (∃ m : ByteArray, (((cellA w0 h (Addr.add o ((Int.toNat a) * 1))) = (some (string m))) ∧ (EvC Proofs.Tryd.prog w0 52 #[(string m)] (fun q n => (∃ p : Bool, ((q = (bool p)) ∧ (brB p (brB (!(decide ((m = (ByteArray.mk #[(43 : UInt8)]))))) (brB (!(decide ((m = (ByteArray.mk #[(35 : UInt8)]))))) (f37_8 w0 K g b i c d k e a true n) (f37_8 w0 K g b i c d k e a (decide (((IntKind.wrap .i64 (a + (1 : Int))) < ((b : Nat) : Int)))) n)) (f37_8 w0 K g b i c d k e a false n)) (f37_8 w0 K g b i c d k e a false n))))) h))))))) (K (bool true) h))) :
  f37_5 w0 K g b i c d k e a h := fun j => LP_intro (P := Proofs.Tryd.prog) (Eq.mp (by kernel_rfl) hv)

theorem f37_8_in {w0 : World} {K : Value → AH → Prop} (a : Option Addr) (b c : Nat) (d : Option Addr) (e g : Nat) (i k : Int) (m : Bool) (h : AH)
  (hv : (brB m (K (bool false) h) (f37_5 w0 K a b c d e g i (IntKind.wrap .i64 (k + (1 : Int))) h))) :
  f37_8 w0 K a b c d e g i k m h := fun j => LP_intro (P := Proofs.Tryd.prog) (Eq.mp (by kernel_rfl) hv)

theorem f37_go {w0 : World} {K : Value → AH → Prop} (a : ByteArray) (h : AH)
  (hv : (brB (decide (((((ByteArray.size a) : Nat) : Int) < (1 : Int)))) (f37_2 w0 K a true h) (brB (decide (((64 : Int) < (((ByteArray.size a) : Nat) : Int)))) (f37_2 w0 K a true h) (∀ b : Nat, (((ByteArray.size a) ≤ b) → (newB w0 h (AB.cells (intsOf a) b) (fun d e => (EvC Proofs.Tryd.prog w0 50 #[(slice (some (Addr.mk d 0 none)) (ByteArray.size a) b)] (fun g i => (∃ c : Bool, ((g = (bool c)) ∧ (f37_2 w0 K a (!c) i)))) e)))))))) :
  EvC Proofs.Tryd.prog w0 37 ([(.string a)]).toArray K h := EvC_intro (P := Proofs.Tryd.prog) f37_J (Eq.mp (by kernel_rfl) hv)
end Go.G.YtnmngjffebbbnaaDoor
