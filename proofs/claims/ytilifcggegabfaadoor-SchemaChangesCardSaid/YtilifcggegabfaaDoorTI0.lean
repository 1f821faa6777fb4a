/- Names, filters. -/
import Derived.Test.YtilifcggegabfaaDoorTH
import Derived.Test.YtilifcggegabfaaDoorProg
set_option maxRecDepth 100000
namespace Go.G.YtilifcggegabfaaDoor
open Go.RowKit
open Value (string slice int bool agg)
def f91_J : Nat → List Nat × Nat := jOf [(2, [1, 2, 3, 4, 7, 8, 9, 10, 11, 12, 13, 14, 15, 16, 17, 18, 19], 0), (5, [1, 2, 3, 4, 7, 8, 9, 10, 11, 12, 13, 14, 15, 16, 17, 19], 0)]

def f91_2 (w0 : World) (K : Value → AH → Prop) (a : ByteArray) (b : Int) (c : Int) (h : AH) : Prop :=
  ∀ j : Nat → Value, LPk Proofs.Tryd.prog w0 (EvC Proofs.Tryd.prog w0) f91_J 91 K 2 [.v (.string a), .v (j 1), .v (j 2), .v (j 3), .v (j 4), .v (.int .i64 b), .v (.int .i64 c), .v (j 7), .v (j 8), .v (j 9), .v (j 10), .v (j 11), .v (j 12), .v (j 13), .v (j 14), .v (j 15), .v (j 16), .v (j 17), .v (j 18), .v (j 19)] [] h

def f91_5 (w0 : World) (K : Value → AH → Prop) (a : ByteArray) (b : Int) (c : Int) (d : Bool) (h : AH) : Prop :=
  ∀ j : Nat → Value, LPk Proofs.Tryd.prog w0 (EvC Proofs.Tryd.prog w0) f91_J 91 K 5 [.v (.string a), .v (j 1), .v (j 2), .v (j 3), .v (j 4), .v (.int .i64 b), .v (.int .i64 c), .v (j 7), .v (j 8), .v (j 9), .v (j 10), .v (j 11), .v (j 12), .v (j 13), .v (j 14), .v (j 15), .v (j 16), .v (j 17), .v (.bool d), .v (j 19)] [] h

theorem f91_2_in {w0 : World} {K : Value → AH → Prop} (b : ByteArray) (c : Int) (a : Int) (h : AH)
  (hv : (brB (decide ((a < c))) (((0 : Int) ≤ a) ∧ ((a < (((ByteArray.size b) : Nat) : Int)) ∧ (brB ((byteAt b (Int.toNat a)) == (43 : Int)) (f91_5 w0 K b c a true h) (((0 : Int) ≤ a) ∧ ((a < (((ByteArray.size b) : Nat) : Int)) ∧ (f91_5 w0 K b c a ((byteAt b (Int.toNat a)) == (35 : Int)) h)))))) (K (bool false) h))) :
  f91_2 w0 K b c a h := fun j => LP_intro (P := Proofs.Tryd.prog) (Eq.mp (by kernel_rfl) hv)

theorem f91_5_in {w0 : World} {K : Value → AH → Prop} (a : ByteArray) (b : Int) (c : Int) (d : Bool) (h : AH)
  (hv : (brB d (K (bool true) h) (f91_2 w0 K a b (IntKind.wrap .i64 (c + (1 : Int))) h))) :
  f91_5 w0 K a b c d h := fun j => LP_intro (P := Proofs.Tryd.prog) (Eq.mp (by kernel_rfl) hv)

theorem f91_go {w0 : World} {K : Value → AH → Prop} (a : ByteArray) (h : AH)
  (hv : (f91_2 w0 K a (((ByteArray.size a) : Nat) : Int) (0 : Int) h)) :
  EvC Proofs.Tryd.prog w0 91 ([(.string a)]).toArray K h := EvC_intro (P := Proofs.Tryd.prog) f91_J (Eq.mp (by kernel_rfl) hv)
def f43_J : Nat → List Nat × Nat := jOf []



theorem f43_go {w0 : World} {K : Value → AH → Prop} (a : ByteArray) (h : AH)
  (hv : (EvC Proofs.Tryd.prog w0 72 #[(string a), (int .i64 (64 : Int))] (fun e b => (∃ c : Bool, ((e = (bool c)) ∧ (brB c (EvC Proofs.Tryd.prog w0 73 #[(string a), (string (ByteArray.mk #[(43 : UInt8), (35 : UInt8)]))] (fun g i => (∃ d : Bool, ((g = (bool d)) ∧ (K (bool (!d)) i)))) b) (K (bool false) b))))) h)) :
  EvC Proofs.Tryd.prog w0 43 ([(.string a)]).toArray K h := EvC_intro (P := Proofs.Tryd.prog) f43_J (Eq.mp (by kernel_rfl) hv)
def f44_J : Nat → List Nat × Nat := jOf []



theorem f44_go {w0 : World} {K : Value → AH → Prop} (a : ByteArray) (h : AH)
  (hv : (EvC Proofs.Tryd.prog w0 72 #[(string a), (int .i64 (32 : Int))] (fun c d => (∃ b : Bool, ((c = (bool b)) ∧ (K (bool b) d)))) h)) :
  EvC Proofs.Tryd.prog w0 44 ([(.string a)]).toArray K h := EvC_intro (P := Proofs.Tryd.prog) f44_J (Eq.mp (by kernel_rfl) hv)
def f47_J : Nat → List Nat × Nat := jOf [(5, [0, 1, 2, 4, 5, 6, 7, 8, 9, 10, 14, 15, 16, 17, 18, 19, 20, 21, 22, 23, 24, 25, 26, 27, 28, 29, 30, 31, 32, 33], 0), (9, [0, 1, 2, 4, 6, 7, 8, 9, 10, 14, 15, 16, 17, 19, 20, 21, 22, 23, 24, 25, 26, 27, 28, 29, 30, 31, 32, 33], 0)]

def f47_5 (w0 : World) (K : Value → AH → Prop) (a : Option Addr) (b : Nat) (c : Nat) (d : Option Addr) (e : Nat) (g : Nat) (i : Int) (k : Int) (h : AH) : Prop :=
  ∀ j : Nat → Value, LPk Proofs.Tryd.prog w0 (EvC Proofs.Tryd.prog w0) f47_J 47 K 5 [.v (j 0), .v (j 1), .v (j 2), .v (.slice a b c), .v (j 4), .v (j 5), .v (j 6), .v (j 7), .v (j 8), .v (j 9), .v (j 10), .v (.slice d e g), .v (.int .i64 i), .v (.int .i64 k), .v (j 14), .v (j 15), .v (j 16), .v (j 17), .v (j 18), .v (j 19), .v (j 20), .v (j 21), .v (j 22), .v (j 23), .v (j 24), .v (j 25), .v (j 26), .v (j 27), .v (j 28), .v (j 29), .v (j 30), .v (j 31), .v (j 32), .v (j 33)] [] h

def f47_9 (w0 : World) (K : Value → AH → Prop) (a : Option Addr) (b : Nat) (c : Nat) (d : ByteArray) (e : Option Addr) (g : Nat) (i : Nat) (k : Int) (m : Int) (n : Bool) (h : AH) : Prop :=
  ∀ j : Nat → Value, LPk Proofs.Tryd.prog w0 (EvC Proofs.Tryd.prog w0) f47_J 47 K 9 [.v (j 0), .v (j 1), .v (j 2), .v (.slice a b c), .v (j 4), .v (.string d), .v (j 6), .v (j 7), .v (j 8), .v (j 9), .v (j 10), .v (.slice e g i), .v (.int .i64 k), .v (.int .i64 m), .v (j 14), .v (j 15), .v (j 16), .v (j 17), .v (.bool n), .v (j 19), .v (j 20), .v (j 21), .v (j 22), .v (j 23), .v (j 24), .v (j 25), .v (j 26), .v (j 27), .v (j 28), .v (j 29), .v (j 30), .v (j 31), .v (j 32), .v (j 33)] [] h

theorem f47_5_in {w0 : World} {K : Value → AH → Prop} (i : Option Addr) (c : Nat) (k : Nat) (d : Option Addr) (e : Nat) (m : Nat) (g : Int) (a : Int) (h : AH)
  (hv : (brB (decide ((a < g))) (∃ n : Addr, ((d = (some n)) ∧ (((0 : Int) ≤ a) ∧ ((a < ((e : Nat) : Int)) ∧ (∃ b : ByteArray, (((cellA w0 h (Addr.add n ((Int.toNat a) * 1))) = (some (string b))) ∧ (brB (decide ((b = (ByteArray.mk #[(43 : UInt8)])))) (f47_9 w0 K i c k b d e m g a true h) (brB (decide ((b = (ByteArray.mk #[(35 : UInt8)])))) (f47_9 w0 K i c k b d e m g a (a == (IntKind.wrap .i64 (((c : Nat) : Int) - (1 : Int)))) h) (f47_9 w0 K i c k b d e m g a false h))))))))) (K (bool true) h))) :
  f47_5 w0 K i c k d e m g a h := fun j => LP_intro (P := Proofs.Tryd.prog) (Eq.mp (by kernel_rfl) hv)

theorem f47_9_in {w0 : World} {K : Value → AH → Prop} (a : Option Addr) (b : Nat) (c : Nat) (m : ByteArray) (d : Option Addr) (e : Nat) (g : Nat) (i : Int) (k : Int) (n : Bool) (h : AH)
  (hv : (brB n (f47_5 w0 K a b c d e g i (IntKind.wrap .i64 (k + (1 : Int))) h) (EvC Proofs.Tryd.prog w0 73 #[(string m), (string (ByteArray.mk #[(43 : UInt8), (35 : UInt8)]))] (fun q o => (∃ p : Bool, ((q = (bool p)) ∧ (brB p (K (bool false) o) (f47_5 w0 K a b c d e g i (IntKind.wrap .i64 (k + (1 : Int))) o))))) h))) :
  f47_9 w0 K a b c m d e g i k n h := fun j => LP_intro (P := Proofs.Tryd.prog) (Eq.mp (by kernel_rfl) hv)

theorem f47_go {w0 : World} {K : Value → AH → Prop} (b : ByteArray) (h : AH)
  (hv : (EvC Proofs.Tryd.prog w0 72 #[(string b), (int .i64 (64 : Int))] (fun i e => (∃ g : Bool, ((i = (bool g)) ∧ (brB (!g) (K (bool false) e) (EvC Proofs.Tryd.prog w0 74 #[(string b)] (fun k m => (∃ c : Option Addr, (∃ a : Nat, (∃ d : Nat, ((k = (slice c a d)) ∧ (f47_5 w0 K c a d c a d ((a : Nat) : Int) (0 : Int) m)))))) e))))) h)) :
  EvC Proofs.Tryd.prog w0 47 ([(.string b)]).toArray K h := EvC_intro (P := Proofs.Tryd.prog) f47_J (Eq.mp (by kernel_rfl) hv)
def f76_J : Nat → List Nat × Nat := jOf []



theorem f76_go {w0 : World} {K : Value → AH → Prop} (a : ByteArray) (h : AH)
  (hv : (brB (decide (((1 : Int) ≤ (((ByteArray.size a) : Nat) : Int)))) (brB (decide (((((ByteArray.size a) : Nat) : Int) ≤ (64 : Int)))) (∀ b : Nat, (((ByteArray.size a) ≤ b) → (newB w0 h (AB.cells (intsOf a) b) (fun g i => (EvC Proofs.Tryd.prog w0 90 #[(slice (some (Addr.mk g 0 none)) (ByteArray.size a) b)] (fun k c => (∃ d : Bool, ((k = (bool d)) ∧ (brB d (EvC Proofs.Tryd.prog w0 91 #[(string a)] (fun m n => (∃ e : Bool, ((m = (bool e)) ∧ (K (bool (!e)) n)))) c) (K (bool false) c))))) i))))) (K (bool false) h)) (K (bool false) h))) :
  EvC Proofs.Tryd.prog w0 76 ([(.string a)]).toArray K h := EvC_intro (P := Proofs.Tryd.prog) f76_J (Eq.mp (by kernel_rfl) hv)
def f77_J : Nat → List Nat × Nat := jOf []



theorem f77_go {w0 : World} {K : Value → AH → Prop} (a : ByteArray) (h : AH)
  (hv : (brB (decide (((1 : Int) ≤ (((ByteArray.size a) : Nat) : Int)))) (brB (decide (((((ByteArray.size a) : Nat) : Int) ≤ (32 : Int)))) (∀ b : Nat, (((ByteArray.size a) ≤ b) → (newB w0 h (AB.cells (intsOf a) b) (fun d e => (EvC Proofs.Tryd.prog w0 90 #[(slice (some (Addr.mk d 0 none)) (ByteArray.size a) b)] (fun g i => (∃ c : Bool, ((g = (bool c)) ∧ (K (bool c) i)))) e))))) (K (bool false) h)) (K (bool false) h))) :
  EvC Proofs.Tryd.prog w0 77 ([(.string a)]).toArray K h := EvC_intro (P := Proofs.Tryd.prog) f77_J (Eq.mp (by kernel_rfl) hv)
def f78_J : Nat → List Nat × Nat := jOf [(2, [1, 2, 3, 4, 5, 6, 7, 8, 9, 10, 11, 12, 13, 14, 15, 16, 17, 18, 20, 21, 22, 23, 24, 25, 26, 27, 28, 29, 30, 31, 32, 33, 34, 35, 36, 37, 38, 39, 40, 41, 42, 43, 44, 45, 46], 0), (3, [1, 2, 3, 4, 5, 6, 7, 8, 9, 10, 11, 12, 13, 14, 15, 16, 17, 18, 19, 20, 21, 22, 23, 24, 25, 26, 27, 28, 29, 30, 31, 32, 33, 34, 35, 36, 37, 38, 39, 40, 41, 42, 43, 44, 45, 46], 0), (5, [0, 1, 2, 4, 5, 6, 7, 8, 9, 10, 11, 12, 13, 14, 15, 16, 17, 18, 19, 20, 21, 25, 26, 27, 28, 29, 30, 31, 32, 33, 34, 35, 36, 37, 38, 39, 40, 41, 42, 43, 44, 45, 46], 0), (8, [0, 1, 2, 4, 5, 6, 7, 8, 9, 10, 11, 12, 13, 14, 15, 16, 17, 18, 19, 20, 21, 25, 26, 27, 28, 29, 30, 31, 32, 33, 34, 35, 36, 37, 38, 39, 40, 41, 42, 43, 44, 46], 0)]

def f78_2 (w0 : World) (K : Value → AH → Prop) (a : ByteArray) (b : Bool) (h : AH) : Prop :=
  ∀ j : Nat → Value, LPk Proofs.Tryd.prog w0 (EvC Proofs.Tryd.prog w0) f78_J 78 K 2 [.v (.string a), .v (j 1), .v (j 2), .v (j 3), .v (j 4), .v (j 5), .v (j 6), .v (j 7), .v (j 8), .v (j 9), .v (j 10), .v (j 11), .v (j 12), .v (j 13), .v (j 14), .v (j 15), .v (j 16), .v (j 17), .v (j 18), .v (.bool b), .v (j 20), .v (j 21), .v (j 22), .v (j 23), .v (j 24), .v (j 25), .v (j 26), .v (j 27), .v (j 28), .v (j 29), .v (j 30), .v (j 31), .v (j 32), .v (j 33), .v (j 34), .v (j 35), .v (j 36), .v (j 37), .v (j 38), .v (j 39), .v (j 40), .v (j 41), .v (j 42), .v (j 43), .v (j 44), .v (j 45), .v (j 46)] [] h

def f78_3 (w0 : World) (K : Value → AH → Prop) (a : ByteArray) (h : AH) : Prop :=
  ∀ j : Nat → Value, LPk Proofs.Tryd.prog w0 (EvC Proofs.Tryd.prog w0) f78_J 78 K 3 [.v (.string a), .v (j 1), .v (j 2), .v (j 3), .v (j 4), .v (j 5), .v (j 6), .v (j 7), .v (j 8), .v (j 9), .v (j 10), .v (j 11), .v (j 12), .v (j 13), .v (j 14), .v (j 15), .v (j 16), .v (j 17), .v (j 18), .v (j 19), .v (j 20), .v (j 21), .v (j 22), .v (j 23), .v (j 24), .v (j 25), .v (j 26), .v (j 27), .v (j 28), .v (j 29), .v (j 30), .v (j 31), .v (j 32), .v (j 33), .v (j 34), .v (j 35), .v (j 36), .v (j 37), .v (j 38), .v (j 39), .v (j 40), .v (j 41), .v (j 42), .v (j 43), .v (j 44), .v (j 45), .v (j 46)] [] h

def f78_5 (w0 : World) (K : Value → AH → Prop) (a : Option Addr) (b : Nat) (c : Nat) (d : Option Addr) (e : Nat) (g : Nat) (i : Int) (k : Int) (h : AH) : Prop :=
  ∀ j : Nat → Value, LPk Proofs.Tryd.prog w0 (EvC Proofs.Tryd.prog w0) f78_J 78 K 5 [.v (j 0), .v (j 1), .v (j 2), .v (.slice a b c), .v (j 4), .v (j 5), .v (j 6), .v (j 7), .v (j 8), .v (j 9), .v (j 10), .v (j 11), .v (j 12), .v (j 13), .v (j 14), .v (j 15), .v (j 16), .v (j 17), .v (j 18), .v (j 19), .v (j 20), .v (j 21), .v (.slice d e g), .v (.int .i64 i), .v (.int .i64 k), .v (j 25), .v (j 26), .v (j 27), .v (j 28), .v (j 29), .v (j 30), .v (j 31), .v (j 32), .v (j 33), .v (j 34), .v (j 35), .v (j 36), .v (j 37), .v (j 38), .v (j 39), .v (j 40), .v (j 41), .v (j 42), .v (j 43), .v (j 44), .v (j 45), .v (j 46)] [] h

def f78_8 (w0 : World) (K : Value → AH → Prop) (a : Option Addr) (b : Nat) (c : Nat) (d : Option Addr) (e : Nat) (g : Nat) (i : Int) (k : Int) (m : Bool) (h : AH) : Prop :=
  ∀ j : Nat → Value, LPk Proofs.Tryd.prog w0 (EvC Proofs.Tryd.prog w0) f78_J 78 K 8 [.v (j 0), .v (j 1), .v (j 2), .v (.slice a b c), .v (j 4), .v (j 5), .v (j 6), .v (j 7), .v (j 8), .v (j 9), .v (j 10), .v (j 11), .v (j 12), .v (j 13), .v (j 14), .v (j 15), .v (j 16), .v (j 17), .v (j 18), .v (j 19), .v (j 20), .v (j 21), .v (.slice d e g), .v (.int .i64 i), .v (.int .i64 k), .v (j 25), .v (j 26), .v (j 27), .v (j 28), .v (j 29), .v (j 30), .v (j 31), .v (j 32), .v (j 33), .v (j 34), .v (j 35), .v (j 36), .v (j 37), .v (j 38), .v (j 39), .v (j 40), .v (j 41), .v (j 42), .v (j 43), .v (j 44), .v (.bool m), .v (j 46)] [] h

theorem f78_2_in {w0 : World} {K : Value → AH → Prop} (a : ByteArray) (b : Bool) (h : AH)
  (hv : (brB b (K (bool false) h) (f78_3 w0 K a h))) :
  f78_2 w0 K a b h := fun j => LP_intro (P := Proofs.Tryd.prog) (Eq.mp (by kernel_rfl) hv)

theorem f78_3_in {w0 : World} {K : Value → AH → Prop} (d : ByteArray) (h : AH)
  (hv : (EvC Proofs.Tryd.prog w0 92 #[(string d)] (fun e g => (∃ b : Option Addr, (∃ a : Nat, (∃ c : Nat, ((e = (slice b a c)) ∧ (f78_5 w0 K b a c b a c ((a : Nat) : Int) (0 : Int) g)))))) h)) :
  f78_3 w0 K d h := fun j => LP_intro (P := Proofs.Tryd.prog) (Eq.mp (by kernel_rfl) hv)

theorem f78_5_in {w0 : World} {K : Value → AH → Prop} (g : Option Addr) (b : Nat) (i : Nat) (c : Option Addr) (d : Nat) (k : Nat) (e : Int) (a : Int) (h : AH)
  (hv : (brB (decide ((a < e))) (∃ o : Addr, ((c = (some o)) ∧ (((0 : Int) ≤ a) ∧ ((a < ((d : Nat) : Int)) ∧ (∃ m : ByteArray, (((cellA w0 h (Addr.add o ((Int.toNat a) * 1))) = (some (string m))) ∧ (EvC Proofs.Tryd.prog w0 91 #[(string m)] (fun q n => (∃ p : Bool, ((q = (bool p)) ∧ (brB p (brB (!(decide ((m = (ByteArray.mk #[(43 : UInt8)]))))) (brB (!(decide ((m = (ByteArray.mk #[(35 : UInt8)]))))) (f78_8 w0 K g b i c d k e a true n) (f78_8 w0 K g b i c d k e a (decide (((IntKind.wrap .i64 (a + (1 : Int))) < ((b : Nat) : Int)))) n)) (f78_8 w0 K g b i c d k e a false n)) (f78_8 w0 K g b i c d k e a false n))))) h))))))) (K (bool true) h))) :
  f78_5 w0 K g b i c d k e a h := fun j => LP_intro (P := Proofs.Tryd.prog) (Eq.mp (by kernel_rfl) hv)

theorem f78_8_in {w0 : World} {K : Value → AH → Prop} (a : Option Addr) (b : Nat) (c : Nat) (d : Option Addr) (e : Nat) (g : Nat) (i : Int) (k : Int) (m : Bool) (h : AH)
  (hv : (brB m (K (bool false) h) (f78_5 w0 K a b c d e g i (IntKind.wrap .i64 (k + (1 : Int))) h))) :
  f78_8 w0 K a b c d e g i k m h := fun j => LP_intro (P := Proofs.Tryd.prog) (Eq.mp (by kernel_rfl) hv)

theorem f78_go {w0 : World} {K : Value → AH → Prop} (a : ByteArray) (h : AH)
  (hv : (brB (decide (((((ByteArray.size a) : Nat) : Int) < (1 : Int)))) (f78_2 w0 K a true h) (brB (decide (((64 : Int) < (((ByteArray.size a) : Nat) : Int)))) (f78_2 w0 K a true h) (∀ b : Nat, (((ByteArray.size a) ≤ b) → (newB w0 h (AB.cells (intsOf a) b) (fun d e => (EvC Proofs.Tryd.prog w0 90 #[(slice (some (Addr.mk d 0 none)) (ByteArray.size a) b)] (fun g i => (∃ c : Bool, ((g = (bool c)) ∧ (f78_2 w0 K a (!c) i)))) e)))))))) :
  EvC Proofs.Tryd.prog w0 78 ([(.string a)]).toArray K h := EvC_intro (P := Proofs.Tryd.prog) f78_J (Eq.mp (by kernel_rfl) hv)
end Go.G.YtilifcggegabfaaDoor
