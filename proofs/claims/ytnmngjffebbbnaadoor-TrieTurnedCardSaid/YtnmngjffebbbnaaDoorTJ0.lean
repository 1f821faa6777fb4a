/- Matches, Covers. -/
import Derived.Test.YtnmngjffebbbnaaDoorTI
import Derived.Test.YtnmngjffebbbnaaDoorProg
set_option maxRecDepth 100000
namespace Go.G.YtnmngjffebbbnaaDoor
open Go.RowKit
open Value (string slice int bool agg)
def f32_J : Nat → List Nat × Nat := jOf []



theorem f32_go {w0 : World} {K : Value → AH → Prop} (a b : ByteArray) (h : AH)
  (hv : (((0 : Int) ≤ (0 : Int)) ∧ (((0 : Int) < (((ByteArray.size b) : Nat) : Int)) ∧ (brB ((byteAt b 0) == (36 : Int)) (((0 : Int) ≤ (0 : Int)) ∧ (((0 : Int) < (((ByteArray.size a) : Nat) : Int)) ∧ (brB ((byteAt a 0) == (43 : Int)) (K (bool true) h) (((0 : Int) ≤ (0 : Int)) ∧ (((0 : Int) < (((ByteArray.size a) : Nat) : Int)) ∧ (K (bool ((byteAt a 0) == (35 : Int))) h)))))) (K (bool false) h))))) :
  EvC Proofs.Tryd.prog w0 32 ([(.string a), (.string b)]).toArray K h := EvC_intro (P := Proofs.Tryd.prog) f32_J (Eq.mp (by kernel_rfl) hv)
def f35_J : Nat → List Nat × Nat := jOf []



theorem f35_go {w0 : World} {K : Value → AH → Prop} (a b : ByteArray) (h : AH)
  (hv : (brB (decide ((a = (ByteArray.mk #[(43 : UInt8)])))) (K (bool true) h) (K (bool (decide ((a = b)))) h))) :
  EvC Proofs.Tryd.prog w0 35 ([(.string a), (.string b)]).toArray K h := EvC_intro (P := Proofs.Tryd.prog) f35_J (Eq.mp (by kernel_rfl) hv)
def f34_J : Nat → List Nat × Nat := jOf []



theorem f34_go {w0 : World} {K : Value → AH → Prop} (a b : ByteArray) (h : AH)
  (hv : (brB (!(decide ((b = (ByteArray.mk #[(35 : UInt8)]))))) (brB (decide ((a = (ByteArray.mk #[(43 : UInt8)])))) (K (bool true) h) (K (bool (decide ((a = b)))) h)) (K (bool false) h))) :
  EvC Proofs.Tryd.prog w0 34 ([(.string a), (.string b)]).toArray K h := EvC_intro (P := Proofs.Tryd.prog) f34_J (Eq.mp (by kernel_rfl) hv)
def f33m_J : Nat → List Nat × Nat := jOf [(2, (3 :: (4 :: (5 :: (6 :: (rn 45 37 []))))), 0), (4, (rn 17 14 (rn 45 27 [])), 0), (10000, (rn 45 42 []), 0)]

def f33m_2 (w0 : World) (K : Value → AH → Prop) (a : Option Addr) (b c : Nat) (d : Option Addr) (e g : Nat) (i : Bool) (h : AH) : Prop :=
  ∀ j : Nat → Value, LPk Proofs.Tryd.prog w0 (EvC Proofs.Tryd.prog w0) f33m_J 33 K 2 [.v (.slice a b c), .v (.slice d e g), .v (.func (Fn.func 35) #[] #[]), .v (j 3), .v (j 4), .v (j 5), .v (j 6), .v (.bool i), .v (j 8), .v (j 9), .v (j 10), .v (j 11), .v (j 12), .v (j 13), .v (j 14), .v (j 15), .v (j 16), .v (j 17), .v (j 18), .v (j 19), .v (j 20), .v (j 21), .v (j 22), .v (j 23), .v (j 24), .v (j 25), .v (j 26), .v (j 27), .v (j 28), .v (j 29), .v (j 30), .v (j 31), .v (j 32), .v (j 33), .v (j 34), .v (j 35), .v (j 36), .v (j 37), .v (j 38), .v (j 39), .v (j 40), .v (j 41), .v (j 42), .v (j 43), .v (j 44)] [] h

def f33m_4 (w0 : World) (K : Value → AH → Prop) (a : Option Addr) (b c : Nat) (d : Option Addr) (e g : Nat) (i : Bool) (h : AH) : Prop :=
  ∀ j : Nat → Value, LPk Proofs.Tryd.prog w0 (EvC Proofs.Tryd.prog w0) f33m_J 33 K 4 [.v (.slice a b c), .v (.slice d e g), .v (.func (Fn.func 35) #[] #[]), .v (j 3), .v (j 4), .v (j 5), .v (j 6), .v (j 7), .v (j 8), .v (j 9), .v (j 10), .v (j 11), .v (j 12), .v (j 13), .v (j 14), .v (j 15), .v (j 16), .v (.bool i), .v (j 18), .v (j 19), .v (j 20), .v (j 21), .v (j 22), .v (j 23), .v (j 24), .v (j 25), .v (j 26), .v (j 27), .v (j 28), .v (j 29), .v (j 30), .v (j 31), .v (j 32), .v (j 33), .v (j 34), .v (j 35), .v (j 36), .v (j 37), .v (j 38), .v (j 39), .v (j 40), .v (j 41), .v (j 42), .v (j 43), .v (j 44)] [] h

def f33m_10000 (w0 : World) (K : Value → AH → Prop) (a : Option Addr) (b c : Nat) (d : Option Addr) (e g : Nat) (h : AH) : Prop :=
  ∀ j : Nat → Value, LPk Proofs.Tryd.prog w0 (EvC Proofs.Tryd.prog w0) f33m_J 33 K 10000 [.v (.slice a b c), .v (.slice d e g), .v (.func (Fn.func 35) #[] #[]), .v (j 3), .v (j 4), .v (j 5), .v (j 6), .v (j 7), .v (j 8), .v (j 9), .v (j 10), .v (j 11), .v (j 12), .v (j 13), .v (j 14), .v (j 15), .v (j 16), .v (j 17), .v (j 18), .v (j 19), .v (j 20), .v (j 21), .v (j 22), .v (j 23), .v (j 24), .v (j 25), .v (j 26), .v (j 27), .v (j 28), .v (j 29), .v (j 30), .v (j 31), .v (j 32), .v (j 33), .v (j 34), .v (j 35), .v (j 36), .v (j 37), .v (j 38), .v (j 39), .v (j 40), .v (j 41), .v (j 42), .v (j 43), .v (j 44)] [] h

theorem f33m_2_in {w0 : World} {K : Value → AH → Prop} (c : Option Addr) (a d : Nat) (e : Option Addr) (b g : Nat) (i : Bool) (h : AH)
  (hv : (brB i (K (bool true) h) (brB (((a : Nat) : Int) == (0 : Int)) (f33m_4 w0 K c a d e b g true h) (f33m_4 w0 K c a d e b g (((b : Nat) : Int) == (0 : Int)) h)))) :
  f33m_2 w0 K c a d e b g i h := fun j => LP_intro (P := Proofs.Tryd.prog) (Eq.mp (by kernel_rfl) hv)

theorem f33m_4_in {w0 : World} {K : Value → AH → Prop} (e : Option Addr) (a c : Nat) (g : Option Addr) (b d : Nat) (m : Bool) (h : AH)
  (hv : (brB m (K (bool (((a : Nat) : Int) == ((b : Nat) : Int))) h) (∃ i : Addr, ((e = (some i)) ∧ (((0 : Int) ≤ (0 : Int)) ∧ (((0 : Int) < ((a : Nat) : Int)) ∧ (∃ k : Addr, ((g = (some k)) ∧ (((0 : Int) ≤ (0 : Int)) ∧ (((0 : Int) < ((b : Nat) : Int)) ∧ ((∃ n : ByteArray, (((cellA w0 h (Addr.add i 0)) = (some (string n))) ∧ (∃ o : ByteArray, (((cellA w0 h (Addr.add k 0)) = (some (string o))) ∧ (EvC Proofs.Tryd.prog w0 35 #[(string n), (string o)] (fun v p => (∃ q : Bool, ((v = (bool q)) ∧ (brB (!q) (K (bool false) p) (((0 : Int) ≤ (1 : Int)) ∧ (((1 : Int) ≤ ((a : Nat) : Int)) ∧ (((0 : Int) ≤ (1 : Int)) ∧ (((1 : Int) ≤ ((b : Nat) : Int)) ∧ (f33m_10000 w0 K (cutA 1 e c 1) (a - 1) (c - 1) (cutA 1 g d 1) (b - 1) (d - 1) p))))))))) h))))) ∧ (∃ r : ByteArray, (((cellA w0 h (Addr.add k 0)) = (some (string r))) ∧ (∃ s : ByteArray, (((cellA w0 h (Addr.add i 0)) = (some (string s))) ∧ (EvC Proofs.Tryd.prog w0 35 #[(string s), (string r)] (fun x t => (∃ u : Bool, ((x = (bool u)) ∧ (brB (!u) (K (bool false) t) (((0 : Int) ≤ (1 : Int)) ∧ (((1 : Int) ≤ ((a : Nat) : Int)) ∧ (((0 : Int) ≤ (1 : Int)) ∧ (((1 : Int) ≤ ((b : Nat) : Int)) ∧ (f33m_10000 w0 K (cutA 1 e c 1) (a - 1) (c - 1) (cutA 1 g d 1) (b - 1) (d - 1) t))))))))) h)))))))))))))))) :
  f33m_4 w0 K e a c g b d m h := fun j => LP_intro (P := Proofs.Tryd.prog) (Eq.mp (by kernel_rfl) hv)

theorem f33m_10000_in {w0 : World} {K : Value → AH → Prop} (b : Option Addr) (a c : Nat) (d : Option Addr) (e g : Nat) (h : AH)
  (hv : (brB (decide (((0 : Int) < ((a : Nat) : Int)))) (∃ i : Addr, ((b = (some i)) ∧ (((0 : Int) ≤ (0 : Int)) ∧ (((0 : Int) < ((a : Nat) : Int)) ∧ (∃ k : ByteArray, (((cellA w0 h (Addr.add i 0)) = (some (string k))) ∧ (f33m_2 w0 K b a c d e g (decide ((k = (ByteArray.mk #[(35 : UInt8)])))) h))))))) (f33m_2 w0 K b a c d e g false h))) :
  f33m_10000 w0 K b a c d e g h := fun j => LP_intro (P := Proofs.Tryd.prog) (Eq.mp (by kernel_rfl) hv)

theorem f33m_go {w0 : World} {K : Value → AH → Prop} (b : Option Addr) (a c : Nat) (d : Option Addr) (e g : Nat) (h : AH)
  (hv : (brB (decide (((0 : Int) < ((a : Nat) : Int)))) (∃ i : Addr, ((b = (some i)) ∧ (((0 : Int) ≤ (0 : Int)) ∧ (((0 : Int) < ((a : Nat) : Int)) ∧ (∃ k : ByteArray, (((cellA w0 h (Addr.add i 0)) = (some (string k))) ∧ (f33m_2 w0 K b a c d e g (decide ((k = (ByteArray.mk #[(35 : UInt8)])))) h))))))) (f33m_2 w0 K b a c d e g false h))) :
  EvC Proofs.Tryd.prog w0 33 ([(.slice b a c), (.slice d e g), (.func (.func 35) #[] #[])]).toArray K h := EvC_intro (P := Proofs.Tryd.prog) f33m_J (Eq.mp (by kernel_rfl) hv)
def f33c_J : Nat → List Nat × Nat := jOf [(2, (3 :: (4 :: (5 :: (6 :: (rn 45 37 []))))), 0), (4, (rn 17 14 (rn 45 27 [])), 0), (10000, (rn 45 42 []), 0)]

def f33c_2 (w0 : World) (K : Value → AH → Prop) (a : Option Addr) (b c : Nat) (d : Option Addr) (e g : Nat) (i : Bool) (h : AH) : Prop :=
  ∀ j : Nat → Value, LPk Proofs.Tryd.prog w0 (EvC Proofs.Tryd.prog w0) f33c_J 33 K 2 [.v (.slice a b c), .v (.slice d e g), .v (.func (Fn.func 34) #[] #[]), .v (j 3), .v (j 4), .v (j 5), .v (j 6), .v (.bool i), .v (j 8), .v (j 9), .v (j 10), .v (j 11), .v (j 12), .v (j 13), .v (j 14), .v (j 15), .v (j 16), .v (j 17), .v (j 18), .v (j 19), .v (j 20), .v (j 21), .v (j 22), .v (j 23), .v (j 24), .v (j 25), .v (j 26), .v (j 27), .v (j 28), .v (j 29), .v (j 30), .v (j 31), .v (j 32), .v (j 33), .v (j 34), .v (j 35), .v (j 36), .v (j 37), .v (j 38), .v (j 39), .v (j 40), .v (j 41), .v (j 42), .v (j 43), .v (j 44)] [] h

def f33c_4 (w0 : World) (K : Value → AH → Prop) (a : Option Addr) (b c : Nat) (d : Option Addr) (e g : Nat) (i : Bool) (h : AH) : Prop :=
  ∀ j : Nat → Value, LPk Proofs.Tryd.prog w0 (EvC Proofs.Tryd.prog w0) f33c_J 33 K 4 [.v (.slice a b c), .v (.slice d e g), .v (.func (Fn.func 34) #[] #[]), .v (j 3), .v (j 4), .v (j 5), .v (j 6), .v (j 7), .v (j 8), .v (j 9), .v (j 10), .v (j 11), .v (j 12), .v (j 13), .v (j 14), .v (j 15), .v (j 16), .v (.bool i), .v (j 18), .v (j 19), .v (j 20), .v (j 21), .v (j 22), .v (j 23), .v (j 24), .v (j 25), .v (j 26), .v (j 27), .v (j 28), .v (j 29), .v (j 30), .v (j 31), .v (j 32), .v (j 33), .v (j 34), .v (j 35), .v (j 36), .v (j 37), .v (j 38), .v (j 39), .v (j 40), .v (j 41), .v (j 42), .v (j 43), .v (j 44)] [] h

def f33c_10000 (w0 : World) (K : Value → AH → Prop) (a : Option Addr) (b c : Nat) (d : Option Addr) (e g : Nat) (h : AH) : Prop :=
  ∀ j : Nat → Value, LPk Proofs.Tryd.prog w0 (EvC Proofs.Tryd.prog w0) f33c_J 33 K 10000 [.v (.slice a b c), .v (.slice d e g), .v (.func (Fn.func 34) #[] #[]), .v (j 3), .v (j 4), .v (j 5), .v (j 6), .v (j 7), .v (j 8), .v (j 9), .v (j 10), .v (j 11), .v (j 12), .v (j 13), .v (j 14), .v (j 15), .v (j 16), .v (j 17), .v (j 18), .v (j 19), .v (j 20), .v (j 21), .v (j 22), .v (j 23), .v (j 24), .v (j 25), .v (j 26), .v (j 27), .v (j 28), .v (j 29), .v (j 30), .v (j 31), .v (j 32), .v (j 33), .v (j 34), .v (j 35), .v (j 36), .v (j 37), .v (j 38), .v (j 39), .v (j 40), .v (j 41), .v (j 42), .v (j 43), .v (j 44)] [] h

theorem f33c_2_in {w0 : World} {K : Value → AH → Prop} (c : Option Addr) (a d : Nat) (e : Option Addr) (b g : Nat) (i : Bool) (h : AH)
  (hv : (brB i (K (bool true) h) (brB (((a : Nat) : Int) == (0 : Int)) (f33c_4 w0 K c a d e b g true h) (f33c_4 w0 K c a d e b g (((b : Nat) : Int) == (0 : Int)) h)))) :
  f33c_2 w0 K c a d e b g i h := fun j => LP_intro (P := Proofs.Tryd.prog) (Eq.mp (by kernel_rfl) hv)

theorem f33c_4_in {w0 : World} {K : Value → AH → Prop} (e : Option Addr) (a c : Nat) (g : Option Addr) (b d : Nat) (m : Bool) (h : AH)
  (hv : (brB m (K (bool (((a : Nat) : Int) == ((b : Nat) : Int))) h) (∃ i : Addr, ((e = (some i)) ∧ (((0 : Int) ≤ (0 : Int)) ∧ (((0 : Int) < ((a : Nat) : Int)) ∧ (∃ k : Addr, ((g = (some k)) ∧ (((0 : Int) ≤ (0 : Int)) ∧ (((0 : Int) < ((b : Nat) : Int)) ∧ ((∃ n : ByteArray, (((cellA w0 h (Addr.add i 0)) = (some (string n))) ∧ (∃ o : ByteArray, (((cellA w0 h (Addr.add k 0)) = (some (string o))) ∧ (EvC Proofs.Tryd.prog w0 34 #[(string n), (string o)] (fun v p => (∃ q : Bool, ((v = (bool q)) ∧ (brB (!q) (K (bool false) p) (((0 : Int) ≤ (1 : Int)) ∧ (((1 : Int) ≤ ((a : Nat) : Int)) ∧ (((0 : Int) ≤ (1 : Int)) ∧ (((1 : Int) ≤ ((b : Nat) : Int)) ∧ (f33c_10000 w0 K (cutA 1 e c 1) (a - 1) (c - 1) (cutA 1 g d 1) (b - 1) (d - 1) p))))))))) h))))) ∧ (∃ r : ByteArray, (((cellA w0 h (Addr.add k 0)) = (some (string r))) ∧ (∃ s : ByteArray, (((cellA w0 h (Addr.add i 0)) = (some (string s))) ∧ (EvC Proofs.Tryd.prog w0 34 #[(string s), (string r)] (fun x t => (∃ u : Bool, ((x = (bool u)) ∧ (brB (!u) (K (bool false) t) (((0 : Int) ≤ (1 : Int)) ∧ (((1 : Int) ≤ ((a : Nat) : Int)) ∧ (((0 : Int) ≤ (1 : Int)) ∧ (((1 : Int) ≤ ((b : Nat) : Int)) ∧ (f33c_10000 w0 K (cutA 1 e c 1) (a - 1) (c - 1) (cutA 1 g d 1) (b - 1) (d - 1) t))))))))) h)))))))))))))))) :
  f33c_4 w0 K e a c g b d m h := fun j => LP_intro (P := Proofs.Tryd.prog) (Eq.mp (by kernel_rfl) hv)

theorem f33c_10000_in {w0 : World} {K : Value → AH → Prop} (b : Option Addr) (a c : Nat) (d : Option Addr) (e g : Nat) (h : AH)
  (hv : (brB (decide (((0 : Int) < ((a : Nat) : Int)))) (∃ i : Addr, ((b = (some i)) ∧ (((0 : Int) ≤ (0 : Int)) ∧ (((0 : Int) < ((a : Nat) : Int)) ∧ (∃ k : ByteArray, (((cellA w0 h (Addr.add i 0)) = (some (string k))) ∧ (f33c_2 w0 K b a c d e g (decide ((k = (ByteArray.mk #[(35 : UInt8)])))) h))))))) (f33c_2 w0 K b a c d e g false h))) :
  f33c_10000 w0 K b a c d e g h := fun j => LP_intro (P := Proofs.Tryd.prog) (Eq.mp (by kernel_rfl) hv)

theorem f33c_go {w0 : World} {K : Value → AH → Prop} (b : Option Addr) (a c : Nat) (d : Option Addr) (e g : Nat) (h : AH)
  (hv : (brB (decide (((0 : Int) < ((a : Nat) : Int)))) (∃ i : Addr, ((b = (some i)) ∧ (((0 : Int) ≤ (0 : Int)) ∧ (((0 : Int) < ((a : Nat) : Int)) ∧ (∃ k : ByteArray, (((cellA w0 h (Addr.add i 0)) = (some (string k))) ∧ (f33c_2 w0 K b a c d e g (decide ((k = (ByteArray.mk #[(35 : UInt8)])))) h))))))) (f33c_2 w0 K b a c d e g false h))) :
  EvC Proofs.Tryd.prog w0 33 ([(.slice b a c), (.slice d e g), (.func (.func 34) #[] #[])]).toArray K h := EvC_intro (P := Proofs.Tryd.prog) f33c_J (Eq.mp (by kernel_rfl) hv)
def f54_J : Nat → List Nat × Nat := jOf []



theorem f54_go {w0 : World} {K : Value → AH → Prop} (c : Option Addr) (a d : Nat) (g : Option Addr) (b e : Nat) (h : AH)
  (hv : (brB (((a : Nat) : Int) == (0 : Int)) (K (bool (((b : Nat) : Int) == (0 : Int))) h) (∃ m : Addr, ((c = (some m)) ∧ (((0 : Int) ≤ (0 : Int)) ∧ (((0 : Int) < ((a : Nat) : Int)) ∧ (∃ n : ByteArray, (((cellA w0 h (Addr.add m 0)) = (some (string n))) ∧ (brB (decide ((n = (ByteArray.mk #[(35 : UInt8)])))) (K (bool true) h) (brB (decide (((0 : Int) < ((b : Nat) : Int)))) (∃ o : Addr, ((c = (some o)) ∧ (((0 : Int) ≤ (0 : Int)) ∧ (((0 : Int) < ((a : Nat) : Int)) ∧ (∃ p : ByteArray, (((cellA w0 h (Addr.add o 0)) = (some (string p))) ∧ (brB (decide ((p = (ByteArray.mk #[(43 : UInt8)])))) (((0 : Int) ≤ (1 : Int)) ∧ (((1 : Int) ≤ ((a : Nat) : Int)) ∧ (((0 : Int) ≤ (1 : Int)) ∧ (((1 : Int) ≤ ((b : Nat) : Int)) ∧ (EvC Proofs.Tryd.prog w0 54 #[(slice (cutA 1 c d 1) (a - 1) (d - 1)), (slice (cutA 1 g e 1) (b - 1) (e - 1))] (fun y z => (∃ q : Bool, ((y = (bool q)) ∧ (K (bool q) z)))) h))))) (∃ i : Addr, ((c = (some i)) ∧ (((0 : Int) ≤ (0 : Int)) ∧ (((0 : Int) < ((a : Nat) : Int)) ∧ (∃ k : Addr, ((g = (some k)) ∧ (((0 : Int) ≤ (0 : Int)) ∧ (((0 : Int) < ((b : Nat) : Int)) ∧ ((∃ r : ByteArray, (((cellA w0 h (Addr.add i 0)) = (some (string r))) ∧ (∃ s : ByteArray, (((cellA w0 h (Addr.add k 0)) = (some (string s))) ∧ (brB (decide ((r = s))) (((0 : Int) ≤ (1 : Int)) ∧ (((1 : Int) ≤ ((a : Nat) : Int)) ∧ (((0 : Int) ≤ (1 : Int)) ∧ (((1 : Int) ≤ ((b : Nat) : Int)) ∧ (EvC Proofs.Tryd.prog w0 54 #[(slice (cutA 1 c d 1) (a - 1) (d - 1)), (slice (cutA 1 g e 1) (b - 1) (e - 1))] (fun A B => (∃ t : Bool, ((A = (bool t)) ∧ (K (bool t) B)))) h))))) (K (bool false) h)))))) ∧ (∃ u : ByteArray, (((cellA w0 h (Addr.add k 0)) = (some (string u))) ∧ (∃ v : ByteArray, (((cellA w0 h (Addr.add i 0)) = (some (string v))) ∧ (brB (decide ((v = u))) (((0 : Int) ≤ (1 : Int)) ∧ (((1 : Int) ≤ ((a : Nat) : Int)) ∧ (((0 : Int) ≤ (1 : Int)) ∧ (((1 : Int) ≤ ((b : Nat) : Int)) ∧ (EvC Proofs.Tryd.prog w0 54 #[(slice (cutA 1 c d 1) (a - 1) (d - 1)), (slice (cutA 1 g e 1) (b - 1) (e - 1))] (fun C D => (∃ x : Bool, ((C = (bool x)) ∧ (K (bool x) D)))) h))))) (K (bool false) h)))))))))))))))))))))) (K (bool false) h))))))))))) :
  EvC Proofs.Tryd.prog w0 54 ([(.slice c a d), (.slice g b e)]).toArray K h := EvC_intro (P := Proofs.Tryd.prog) f54_J (Eq.mp (by kernel_rfl) hv)
def f16_J : Nat → List Nat × Nat := jOf [(2, (rn 17 15 (rn 23 5 [])), 0)]

def f16_2 (w0 : World) (K : Value → AH → Prop) (a b : ByteArray) (c : Bool) (h : AH) : Prop :=
  ∀ j : Nat → Value, LPk Proofs.Tryd.prog w0 (EvC Proofs.Tryd.prog w0) f16_J 16 K 2 (.v (.string a) :: (.v (.string b) :: (jv j 17 15 (.v (.bool c) :: (jv j 23 5 []))))) [] h

theorem f16_2_in {w0 : World} {K : Value → AH → Prop} (a b : ByteArray) (c : Bool) (h : AH)
  (hv : (brB c (K (bool false) h) (EvC Proofs.Tryd.prog w0 27 #[(string a)] (fun o p => (∃ d : Option Addr, (∃ e : Nat, (∃ g : Nat, ((o = (slice d e g)) ∧ (EvC Proofs.Tryd.prog w0 27 #[(string b)] (fun q r => (∃ i : Option Addr, (∃ k : Nat, (∃ m : Nat, ((q = (slice i k m)) ∧ (EvC Proofs.Tryd.prog w0 33 #[(slice d e g), (slice i k m), (Value.func (Fn.func 35) #[] #[])] (fun s t => (∃ n : Bool, ((s = (bool n)) ∧ (K (bool n) t)))) r)))))) p)))))) h))) :
  f16_2 w0 K a b c h := fun j => LP_intro (P := Proofs.Tryd.prog) (Eq.mp (by kernel_rfl) hv)

theorem f16_go {w0 : World} {K : Value → AH → Prop} (a b : ByteArray) (h : AH)
  (hv : (EvC Proofs.Tryd.prog w0 26 #[(string a)] (fun k c => (∃ d : Bool, ((k = (bool d)) ∧ (brB (!d) (f16_2 w0 K a b true c) (EvC Proofs.Tryd.prog w0 28 #[(string b)] (fun m e => (∃ g : Bool, ((m = (bool g)) ∧ (brB (!g) (f16_2 w0 K a b true e) (EvC Proofs.Tryd.prog w0 32 #[(string a), (string b)] (fun n o => (∃ i : Bool, ((n = (bool i)) ∧ (f16_2 w0 K a b i o)))) e))))) c))))) h)) :
  EvC Proofs.Tryd.prog w0 16 ([(.string a), (.string b)]).toArray K h := EvC_intro (P := Proofs.Tryd.prog) f16_J (Eq.mp (by kernel_rfl) hv)
def f15_J : Nat → List Nat × Nat := jOf [(2, (rn 17 15 (rn 23 5 [])), 0)]

def f15_2 (w0 : World) (K : Value → AH → Prop) (a b : ByteArray) (c : Bool) (h : AH) : Prop :=
  ∀ j : Nat → Value, LPk Proofs.Tryd.prog w0 (EvC Proofs.Tryd.prog w0) f15_J 15 K 2 (.v (.string a) :: (.v (.string b) :: (jv j 17 15 (.v (.bool c) :: (jv j 23 5 []))))) [] h

theorem f15_2_in {w0 : World} {K : Value → AH → Prop} (a b : ByteArray) (c : Bool) (h : AH)
  (hv : (brB c (K (bool false) h) (EvC Proofs.Tryd.prog w0 27 #[(string a)] (fun o p => (∃ d : Option Addr, (∃ e : Nat, (∃ g : Nat, ((o = (slice d e g)) ∧ (EvC Proofs.Tryd.prog w0 27 #[(string b)] (fun q r => (∃ i : Option Addr, (∃ k : Nat, (∃ m : Nat, ((q = (slice i k m)) ∧ (EvC Proofs.Tryd.prog w0 33 #[(slice d e g), (slice i k m), (Value.func (Fn.func 34) #[] #[])] (fun s t => (∃ n : Bool, ((s = (bool n)) ∧ (K (bool n) t)))) r)))))) p)))))) h))) :
  f15_2 w0 K a b c h := fun j => LP_intro (P := Proofs.Tryd.prog) (Eq.mp (by kernel_rfl) hv)

theorem f15_go {w0 : World} {K : Value → AH → Prop} (a b : ByteArray) (h : AH)
  (hv : (EvC Proofs.Tryd.prog w0 26 #[(string a)] (fun k c => (∃ d : Bool, ((k = (bool d)) ∧ (brB (!d) (f15_2 w0 K a b true c) (EvC Proofs.Tryd.prog w0 26 #[(string b)] (fun m e => (∃ g : Bool, ((m = (bool g)) ∧ (brB (!g) (f15_2 w0 K a b true e) (EvC Proofs.Tryd.prog w0 32 #[(string a), (string b)] (fun n o => (∃ i : Bool, ((n = (bool i)) ∧ (f15_2 w0 K a b i o)))) e))))) c))))) h)) :
  EvC Proofs.Tryd.prog w0 15 ([(.string a), (.string b)]).toArray K h := EvC_intro (P := Proofs.Tryd.prog) f15_J (Eq.mp (by kernel_rfl) hv)
def f41_J : Nat → List Nat × Nat := jOf []



theorem f41_go {w0 : World} {K : Value → AH → Prop} (a b : ByteArray) (h : AH)
  (hv : (EvC Proofs.Tryd.prog w0 37 #[(string a)] (fun z d => (∃ e : Bool, ((z = (bool e)) ∧ (brB e (EvC Proofs.Tryd.prog w0 53 #[(string b)] (fun A c => (∃ g : Bool, ((A = (bool g)) ∧ (brB g (((0 : Int) ≤ (0 : Int)) ∧ (((0 : Int) < (((ByteArray.size b) : Nat) : Int)) ∧ (brB ((byteAt b 0) == (36 : Int)) (((0 : Int) ≤ (0 : Int)) ∧ (((0 : Int) < (((ByteArray.size a) : Nat) : Int)) ∧ (brB ((byteAt a 0) == (43 : Int)) (K (bool false) c) (((0 : Int) ≤ (0 : Int)) ∧ (((0 : Int) < (((ByteArray.size a) : Nat) : Int)) ∧ (brB (!((byteAt a 0) == (35 : Int))) (EvC Proofs.Tryd.prog w0 51 #[(string a)] (fun B C => (∃ i : Option Addr, (∃ k : Nat, (∃ m : Nat, ((B = (slice i k m)) ∧ (EvC Proofs.Tryd.prog w0 51 #[(string b)] (fun D E => (∃ n : Option Addr, (∃ o : Nat, (∃ p : Nat, ((D = (slice n o p)) ∧ (EvC Proofs.Tryd.prog w0 54 #[(slice i k m), (slice n o p)] (fun F L => (∃ q : Bool, ((F = (bool q)) ∧ (K (bool q) L)))) E)))))) C)))))) c) (K (bool false) c))))))) (EvC Proofs.Tryd.prog w0 51 #[(string a)] (fun M N => (∃ r : Option Addr, (∃ s : Nat, (∃ t : Nat, ((M = (slice r s t)) ∧ (EvC Proofs.Tryd.prog w0 51 #[(string b)] (fun Q R => (∃ u : Option Addr, (∃ v : Nat, (∃ x : Nat, ((Q = (slice u v x)) ∧ (EvC Proofs.Tryd.prog w0 54 #[(slice r s t), (slice u v x)] (fun T U => (∃ y : Bool, ((T = (bool y)) ∧ (K (bool y) U)))) R)))))) N)))))) c)))) (K (bool false) c))))) d) (K (bool false) d))))) h)) :
  EvC Proofs.Tryd.prog w0 41 ([(.string a), (.string b)]).toArray K h := EvC_intro (P := Proofs.Tryd.prog) f41_J (Eq.mp (by kernel_rfl) hv)
end Go.G.YtnmngjffebbbnaaDoor
