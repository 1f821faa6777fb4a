/- Names, filters. -/
import Derived.Test.YtilifcggegabfaaDoorTH
import Derived.Test.YtilifcggegabfaaDoorProg
set_option maxRecDepth 100000
namespace Go.G.YtilifcggegabfaaDoor
open Go.RowKit
def f91_J : Nat → List Nat × Nat := jOf [(2, [1, 2, 3, 4, 7, 8, 9, 10, 11, 12, 13, 14, 15, 16, 17, 18, 19], 0), (5, [1, 2, 3, 4, 7, 8, 9, 10, 11, 12, 13, 14, 15, 16, 17, 19], 0)]

def f91_2 (w0 : World) (K : Value → AH → Prop) (x0 : ByteArray) (x5 : Int) (x6 : Int) (h : AH) : Prop :=
  ∀ j : Nat → Value, LPk Go.Proofs.Tryd.prog w0 (EvC Go.Proofs.Tryd.prog w0) f91_J 91 K 2 [.v (.string x0), .v (j 1), .v (j 2), .v (j 3), .v (j 4), .v (.int .i64 x5), .v (.int .i64 x6), .v (j 7), .v (j 8), .v (j 9), .v (j 10), .v (j 11), .v (j 12), .v (j 13), .v (j 14), .v (j 15), .v (j 16), .v (j 17), .v (j 18), .v (j 19)] [] h

def f91_5 (w0 : World) (K : Value → AH → Prop) (x0 : ByteArray) (x5 : Int) (x6 : Int) (x18 : Bool) (h : AH) : Prop :=
  ∀ j : Nat → Value, LPk Go.Proofs.Tryd.prog w0 (EvC Go.Proofs.Tryd.prog w0) f91_J 91 K 5 [.v (.string x0), .v (j 1), .v (j 2), .v (j 3), .v (j 4), .v (.int .i64 x5), .v (.int .i64 x6), .v (j 7), .v (j 8), .v (j 9), .v (j 10), .v (j 11), .v (j 12), .v (j 13), .v (j 14), .v (j 15), .v (j 16), .v (j 17), .v (.bool x18), .v (j 19)] [] h

theorem f91_2_in {w0 : World} {K : Value → AH → Prop} (x0 : ByteArray) (x5 : Int) (x6 : Int) (h : AH)
  (hv : (brB (decide ((x6 < x5))) (((0 : Int) ≤ x6) ∧ ((x6 < (((ByteArray.size x0) : Nat) : Int)) ∧ (brB ((Go.G.byteAt x0 (Int.toNat x6)) == (43 : Int)) (f91_5 w0 K x0 x5 x6 true h) (((0 : Int) ≤ x6) ∧ ((x6 < (((ByteArray.size x0) : Nat) : Int)) ∧ (f91_5 w0 K x0 x5 x6 ((Go.G.byteAt x0 (Int.toNat x6)) == (35 : Int)) h)))))) (K (Go.Value.bool false) h))) :
  f91_2 w0 K x0 x5 x6 h := fun j => LP_intro (P := Go.Proofs.Tryd.prog) (Eq.mp (by kernel_rfl) hv)

theorem f91_5_in {w0 : World} {K : Value → AH → Prop} (x0 : ByteArray) (x5 : Int) (x6 : Int) (x18 : Bool) (h : AH)
  (hv : (brB x18 (K (Go.Value.bool true) h) (f91_2 w0 K x0 x5 (Go.IntKind.wrap .i64 (x6 + (1 : Int))) h))) :
  f91_5 w0 K x0 x5 x6 x18 h := fun j => LP_intro (P := Go.Proofs.Tryd.prog) (Eq.mp (by kernel_rfl) hv)

theorem f91_go {w0 : World} {K : Value → AH → Prop} (x0 : ByteArray) (h : AH)
  (hv : (f91_2 w0 K x0 (((ByteArray.size x0) : Nat) : Int) (0 : Int) h)) :
  EvC Go.Proofs.Tryd.prog w0 91 ([(.string x0)]).toArray K h := EvC_intro (P := Go.Proofs.Tryd.prog) f91_J (Eq.mp (by kernel_rfl) hv)
def f43_J : Nat → List Nat × Nat := jOf []



theorem f43_go {w0 : World} {K : Value → AH → Prop} (x0 : ByteArray) (h : AH)
  (hv : (EvC Go.Proofs.Tryd.prog w0 72 #[(Go.Value.string x0), (Go.Value.int .i64 (64 : Int))] (fun x'0 h'1 => (∃ t'2 : Bool, ((x'0 = (Go.Value.bool t'2)) ∧ (brB t'2 (EvC Go.Proofs.Tryd.prog w0 73 #[(Go.Value.string x0), (Go.Value.string (ByteArray.mk #[(43 : UInt8), (35 : UInt8)]))] (fun x'3 h'4 => (∃ t'5 : Bool, ((x'3 = (Go.Value.bool t'5)) ∧ (K (Go.Value.bool (!t'5)) h'4)))) h'1) (K (Go.Value.bool false) h'1))))) h)) :
  EvC Go.Proofs.Tryd.prog w0 43 ([(.string x0)]).toArray K h := EvC_intro (P := Go.Proofs.Tryd.prog) f43_J (Eq.mp (by kernel_rfl) hv)
def f44_J : Nat → List Nat × Nat := jOf []



theorem f44_go {w0 : World} {K : Value → AH → Prop} (x0 : ByteArray) (h : AH)
  (hv : (EvC Go.Proofs.Tryd.prog w0 72 #[(Go.Value.string x0), (Go.Value.int .i64 (32 : Int))] (fun x'0 h'1 => (∃ t'2 : Bool, ((x'0 = (Go.Value.bool t'2)) ∧ (K (Go.Value.bool t'2) h'1)))) h)) :
  EvC Go.Proofs.Tryd.prog w0 44 ([(.string x0)]).toArray K h := EvC_intro (P := Go.Proofs.Tryd.prog) f44_J (Eq.mp (by kernel_rfl) hv)
def f47_J : Nat → List Nat × Nat := jOf [(5, [0, 1, 2, 4, 5, 6, 7, 8, 9, 10, 14, 15, 16, 17, 18, 19, 20, 21, 22, 23, 24, 25, 26, 27, 28, 29, 30, 31, 32, 33], 0), (9, [0, 1, 2, 4, 6, 7, 8, 9, 10, 14, 15, 16, 17, 19, 20, 21, 22, 23, 24, 25, 26, 27, 28, 29, 30, 31, 32, 33], 0)]

def f47_5 (w0 : World) (K : Value → AH → Prop) (a3 : Option Go.Addr) (n3 : Nat) (c3 : Nat) (a11 : Option Go.Addr) (n11 : Nat) (c11 : Nat) (x12 : Int) (x13 : Int) (h : AH) : Prop :=
  ∀ j : Nat → Value, LPk Go.Proofs.Tryd.prog w0 (EvC Go.Proofs.Tryd.prog w0) f47_J 47 K 5 [.v (j 0), .v (j 1), .v (j 2), .v (.slice a3 n3 c3), .v (j 4), .v (j 5), .v (j 6), .v (j 7), .v (j 8), .v (j 9), .v (j 10), .v (.slice a11 n11 c11), .v (.int .i64 x12), .v (.int .i64 x13), .v (j 14), .v (j 15), .v (j 16), .v (j 17), .v (j 18), .v (j 19), .v (j 20), .v (j 21), .v (j 22), .v (j 23), .v (j 24), .v (j 25), .v (j 26), .v (j 27), .v (j 28), .v (j 29), .v (j 30), .v (j 31), .v (j 32), .v (j 33)] [] h

def f47_9 (w0 : World) (K : Value → AH → Prop) (a3 : Option Go.Addr) (n3 : Nat) (c3 : Nat) (x5 : ByteArray) (a11 : Option Go.Addr) (n11 : Nat) (c11 : Nat) (x12 : Int) (x13 : Int) (x18 : Bool) (h : AH) : Prop :=
  ∀ j : Nat → Value, LPk Go.Proofs.Tryd.prog w0 (EvC Go.Proofs.Tryd.prog w0) f47_J 47 K 9 [.v (j 0), .v (j 1), .v (j 2), .v (.slice a3 n3 c3), .v (j 4), .v (.string x5), .v (j 6), .v (j 7), .v (j 8), .v (j 9), .v (j 10), .v (.slice a11 n11 c11), .v (.int .i64 x12), .v (.int .i64 x13), .v (j 14), .v (j 15), .v (j 16), .v (j 17), .v (.bool x18), .v (j 19), .v (j 20), .v (j 21), .v (j 22), .v (j 23), .v (j 24), .v (j 25), .v (j 26), .v (j 27), .v (j 28), .v (j 29), .v (j 30), .v (j 31), .v (j 32), .v (j 33)] [] h

theorem f47_5_in {w0 : World} {K : Value → AH → Prop} (a3 : Option Go.Addr) (n3 : Nat) (c3 : Nat) (a11 : Option Go.Addr) (n11 : Nat) (c11 : Nat) (x12 : Int) (x13 : Int) (h : AH)
  (hv : (brB (decide ((x13 < x12))) (∃ a'8 : Go.Addr, ((a11 = (some a'8)) ∧ (((0 : Int) ≤ x13) ∧ ((x13 < ((n11 : Nat) : Int)) ∧ (∃ s'9 : ByteArray, (((Go.G.cellA w0 h (Go.Addr.add a'8 ((Int.toNat x13) * 1))) = (some (Go.Value.string s'9))) ∧ (brB (decide ((s'9 = (ByteArray.mk #[(43 : UInt8)])))) (f47_9 w0 K a3 n3 c3 s'9 a11 n11 c11 x12 x13 true h) (brB (decide ((s'9 = (ByteArray.mk #[(35 : UInt8)])))) (f47_9 w0 K a3 n3 c3 s'9 a11 n11 c11 x12 x13 (x13 == (Go.IntKind.wrap .i64 (((n3 : Nat) : Int) - (1 : Int)))) h) (f47_9 w0 K a3 n3 c3 s'9 a11 n11 c11 x12 x13 false h))))))))) (K (Go.Value.bool true) h))) :
  f47_5 w0 K a3 n3 c3 a11 n11 c11 x12 x13 h := fun j => LP_intro (P := Go.Proofs.Tryd.prog) (Eq.mp (by kernel_rfl) hv)

theorem f47_9_in {w0 : World} {K : Value → AH → Prop} (a3 : Option Go.Addr) (n3 : Nat) (c3 : Nat) (x5 : ByteArray) (a11 : Option Go.Addr) (n11 : Nat) (c11 : Nat) (x12 : Int) (x13 : Int) (x18 : Bool) (h : AH)
  (hv : (brB x18 (f47_5 w0 K a3 n3 c3 a11 n11 c11 x12 (Go.IntKind.wrap .i64 (x13 + (1 : Int))) h) (EvC Go.Proofs.Tryd.prog w0 73 #[(Go.Value.string x5), (Go.Value.string (ByteArray.mk #[(43 : UInt8), (35 : UInt8)]))] (fun x'10 h'11 => (∃ t'12 : Bool, ((x'10 = (Go.Value.bool t'12)) ∧ (brB t'12 (K (Go.Value.bool false) h'11) (f47_5 w0 K a3 n3 c3 a11 n11 c11 x12 (Go.IntKind.wrap .i64 (x13 + (1 : Int))) h'11))))) h))) :
  f47_9 w0 K a3 n3 c3 x5 a11 n11 c11 x12 x13 x18 h := fun j => LP_intro (P := Go.Proofs.Tryd.prog) (Eq.mp (by kernel_rfl) hv)

theorem f47_go {w0 : World} {K : Value → AH → Prop} (x0 : ByteArray) (h : AH)
  (hv : (EvC Go.Proofs.Tryd.prog w0 72 #[(Go.Value.string x0), (Go.Value.int .i64 (64 : Int))] (fun x'0 h'1 => (∃ t'2 : Bool, ((x'0 = (Go.Value.bool t'2)) ∧ (brB (!t'2) (K (Go.Value.bool false) h'1) (EvC Go.Proofs.Tryd.prog w0 74 #[(Go.Value.string x0)] (fun x'3 h'4 => (∃ p'5 : Option Go.Addr, (∃ n'6 : Nat, (∃ n'7 : Nat, ((x'3 = (Go.Value.slice p'5 n'6 n'7)) ∧ (f47_5 w0 K p'5 n'6 n'7 p'5 n'6 n'7 ((n'6 : Nat) : Int) (0 : Int) h'4)))))) h'1))))) h)) :
  EvC Go.Proofs.Tryd.prog w0 47 ([(.string x0)]).toArray K h := EvC_intro (P := Go.Proofs.Tryd.prog) f47_J (Eq.mp (by kernel_rfl) hv)
def f76_J : Nat → List Nat × Nat := jOf []



theorem f76_go {w0 : World} {K : Value → AH → Prop} (x0 : ByteArray) (h : AH)
  (hv : (brB (decide (((1 : Int) ≤ (((ByteArray.size x0) : Nat) : Int)))) (brB (decide (((((ByteArray.size x0) : Nat) : Int) ≤ (64 : Int)))) (∀ n'0 : Nat, (((ByteArray.size x0) ≤ n'0) → (newB w0 h (Go.G.AB.cells (Go.G.intsOf x0) n'0) (fun b'1 h'2 => (EvC Go.Proofs.Tryd.prog w0 90 #[(Go.Value.slice (some (Go.Addr.mk b'1 0 none)) (ByteArray.size x0) n'0)] (fun x'3 h'4 => (∃ t'5 : Bool, ((x'3 = (Go.Value.bool t'5)) ∧ (brB t'5 (EvC Go.Proofs.Tryd.prog w0 91 #[(Go.Value.string x0)] (fun x'6 h'7 => (∃ t'8 : Bool, ((x'6 = (Go.Value.bool t'8)) ∧ (K (Go.Value.bool (!t'8)) h'7)))) h'4) (K (Go.Value.bool false) h'4))))) h'2))))) (K (Go.Value.bool false) h)) (K (Go.Value.bool false) h))) :
  EvC Go.Proofs.Tryd.prog w0 76 ([(.string x0)]).toArray K h := EvC_intro (P := Go.Proofs.Tryd.prog) f76_J (Eq.mp (by kernel_rfl) hv)
def f77_J : Nat → List Nat × Nat := jOf []



theorem f77_go {w0 : World} {K : Value → AH → Prop} (x0 : ByteArray) (h : AH)
  (hv : (brB (decide (((1 : Int) ≤ (((ByteArray.size x0) : Nat) : Int)))) (brB (decide (((((ByteArray.size x0) : Nat) : Int) ≤ (32 : Int)))) (∀ n'0 : Nat, (((ByteArray.size x0) ≤ n'0) → (newB w0 h (Go.G.AB.cells (Go.G.intsOf x0) n'0) (fun b'1 h'2 => (EvC Go.Proofs.Tryd.prog w0 90 #[(Go.Value.slice (some (Go.Addr.mk b'1 0 none)) (ByteArray.size x0) n'0)] (fun x'3 h'4 => (∃ t'5 : Bool, ((x'3 = (Go.Value.bool t'5)) ∧ (K (Go.Value.bool t'5) h'4)))) h'2))))) (K (Go.Value.bool false) h)) (K (Go.Value.bool false) h))) :
  EvC Go.Proofs.Tryd.prog w0 77 ([(.string x0)]).toArray K h := EvC_intro (P := Go.Proofs.Tryd.prog) f77_J (Eq.mp (by kernel_rfl) hv)
def f78_J : Nat → List Nat × Nat := jOf [(2, [1, 2, 3, 4, 5, 6, 7, 8, 9, 10, 11, 12, 13, 14, 15, 16, 17, 18, 20, 21, 22, 23, 24, 25, 26, 27, 28, 29, 30, 31, 32, 33, 34, 35, 36, 37, 38, 39, 40, 41, 42, 43, 44, 45, 46], 0), (3, [1, 2, 3, 4, 5, 6, 7, 8, 9, 10, 11, 12, 13, 14, 15, 16, 17, 18, 19, 20, 21, 22, 23, 24, 25, 26, 27, 28, 29, 30, 31, 32, 33, 34, 35, 36, 37, 38, 39, 40, 41, 42, 43, 44, 45, 46], 0), (5, [0, 1, 2, 4, 5, 6, 7, 8, 9, 10, 11, 12, 13, 14, 15, 16, 17, 18, 19, 20, 21, 25, 26, 27, 28, 29, 30, 31, 32, 33, 34, 35, 36, 37, 38, 39, 40, 41, 42, 43, 44, 45, 46], 0), (8, [0, 1, 2, 4, 5, 6, 7, 8, 9, 10, 11, 12, 13, 14, 15, 16, 17, 18, 19, 20, 21, 25, 26, 27, 28, 29, 30, 31, 32, 33, 34, 35, 36, 37, 38, 39, 40, 41, 42, 43, 44, 46], 0)]

def f78_2 (w0 : World) (K : Value → AH → Prop) (x0 : ByteArray) (x19 : Bool) (h : AH) : Prop :=
  ∀ j : Nat → Value, LPk Go.Proofs.Tryd.prog w0 (EvC Go.Proofs.Tryd.prog w0) f78_J 78 K 2 [.v (.string x0), .v (j 1), .v (j 2), .v (j 3), .v (j 4), .v (j 5), .v (j 6), .v (j 7), .v (j 8), .v (j 9), .v (j 10), .v (j 11), .v (j 12), .v (j 13), .v (j 14), .v (j 15), .v (j 16), .v (j 17), .v (j 18), .v (.bool x19), .v (j 20), .v (j 21), .v (j 22), .v (j 23), .v (j 24), .v (j 25), .v (j 26), .v (j 27), .v (j 28), .v (j 29), .v (j 30), .v (j 31), .v (j 32), .v (j 33), .v (j 34), .v (j 35), .v (j 36), .v (j 37), .v (j 38), .v (j 39), .v (j 40), .v (j 41), .v (j 42), .v (j 43), .v (j 44), .v (j 45), .v (j 46)] [] h

def f78_3 (w0 : World) (K : Value → AH → Prop) (x0 : ByteArray) (h : AH) : Prop :=
  ∀ j : Nat → Value, LPk Go.Proofs.Tryd.prog w0 (EvC Go.Proofs.Tryd.prog w0) f78_J 78 K 3 [.v (.string x0), .v (j 1), .v (j 2), .v (j 3), .v (j 4), .v (j 5), .v (j 6), .v (j 7), .v (j 8), .v (j 9), .v (j 10), .v (j 11), .v (j 12), .v (j 13), .v (j 14), .v (j 15), .v (j 16), .v (j 17), .v (j 18), .v (j 19), .v (j 20), .v (j 21), .v (j 22), .v (j 23), .v (j 24), .v (j 25), .v (j 26), .v (j 27), .v (j 28), .v (j 29), .v (j 30), .v (j 31), .v (j 32), .v (j 33), .v (j 34), .v (j 35), .v (j 36), .v (j 37), .v (j 38), .v (j 39), .v (j 40), .v (j 41), .v (j 42), .v (j 43), .v (j 44), .v (j 45), .v (j 46)] [] h

def f78_5 (w0 : World) (K : Value → AH → Prop) (a3 : Option Go.Addr) (n3 : Nat) (c3 : Nat) (a22 : Option Go.Addr) (n22 : Nat) (c22 : Nat) (x23 : Int) (x24 : Int) (h : AH) : Prop :=
  ∀ j : Nat → Value, LPk Go.Proofs.Tryd.prog w0 (EvC Go.Proofs.Tryd.prog w0) f78_J 78 K 5 [.v (j 0), .v (j 1), .v (j 2), .v (.slice a3 n3 c3), .v (j 4), .v (j 5), .v (j 6), .v (j 7), .v (j 8), .v (j 9), .v (j 10), .v (j 11), .v (j 12), .v (j 13), .v (j 14), .v (j 15), .v (j 16), .v (j 17), .v (j 18), .v (j 19), .v (j 20), .v (j 21), .v (.slice a22 n22 c22), .v (.int .i64 x23), .v (.int .i64 x24), .v (j 25), .v (j 26), .v (j 27), .v (j 28), .v (j 29), .v (j 30), .v (j 31), .v (j 32), .v (j 33), .v (j 34), .v (j 35), .v (j 36), .v (j 37), .v (j 38), .v (j 39), .v (j 40), .v (j 41), .v (j 42), .v (j 43), .v (j 44), .v (j 45), .v (j 46)] [] h

def f78_8 (w0 : World) (K : Value → AH → Prop) (a3 : Option Go.Addr) (n3 : Nat) (c3 : Nat) (a22 : Option Go.Addr) (n22 : Nat) (c22 : Nat) (x23 : Int) (x24 : Int) (x45 : Bool) (h : AH) : Prop :=
  ∀ j : Nat → Value, LPk Go.Proofs.Tryd.prog w0 (EvC Go.Proofs.Tryd.prog w0) f78_J 78 K 8 [.v (j 0), .v (j 1), .v (j 2), .v (.slice a3 n3 c3), .v (j 4), .v (j 5), .v (j 6), .v (j 7), .v (j 8), .v (j 9), .v (j 10), .v (j 11), .v (j 12), .v (j 13), .v (j 14), .v (j 15), .v (j 16), .v (j 17), .v (j 18), .v (j 19), .v (j 20), .v (j 21), .v (.slice a22 n22 c22), .v (.int .i64 x23), .v (.int .i64 x24), .v (j 25), .v (j 26), .v (j 27), .v (j 28), .v (j 29), .v (j 30), .v (j 31), .v (j 32), .v (j 33), .v (j 34), .v (j 35), .v (j 36), .v (j 37), .v (j 38), .v (j 39), .v (j 40), .v (j 41), .v (j 42), .v (j 43), .v (j 44), .v (.bool x45), .v (j 46)] [] h

theorem f78_2_in {w0 : World} {K : Value → AH → Prop} (x0 : ByteArray) (x19 : Bool) (h : AH)
  (hv : (brB x19 (K (Go.Value.bool false) h) (f78_3 w0 K x0 h))) :
  f78_2 w0 K x0 x19 h := fun j => LP_intro (P := Go.Proofs.Tryd.prog) (Eq.mp (by kernel_rfl) hv)

theorem f78_3_in {w0 : World} {K : Value → AH → Prop} (x0 : ByteArray) (h : AH)
  (hv : (EvC Go.Proofs.Tryd.prog w0 92 #[(Go.Value.string x0)] (fun x'6 h'7 => (∃ p'8 : Option Go.Addr, (∃ n'9 : Nat, (∃ n'10 : Nat, ((x'6 = (Go.Value.slice p'8 n'9 n'10)) ∧ (f78_5 w0 K p'8 n'9 n'10 p'8 n'9 n'10 ((n'9 : Nat) : Int) (0 : Int) h'7)))))) h)) :
  f78_3 w0 K x0 h := fun j => LP_intro (P := Go.Proofs.Tryd.prog) (Eq.mp (by kernel_rfl) hv)

theorem f78_5_in {w0 : World} {K : Value → AH → Prop} (a3 : Option Go.Addr) (n3 : Nat) (c3 : Nat) (a22 : Option Go.Addr) (n22 : Nat) (c22 : Nat) (x23 : Int) (x24 : Int) (h : AH)
  (hv : (brB (decide ((x24 < x23))) (∃ a'11 : Go.Addr, ((a22 = (some a'11)) ∧ (((0 : Int) ≤ x24) ∧ ((x24 < ((n22 : Nat) : Int)) ∧ (∃ s'12 : ByteArray, (((Go.G.cellA w0 h (Go.Addr.add a'11 ((Int.toNat x24) * 1))) = (some (Go.Value.string s'12))) ∧ (EvC Go.Proofs.Tryd.prog w0 91 #[(Go.Value.string s'12)] (fun x'13 h'14 => (∃ t'15 : Bool, ((x'13 = (Go.Value.bool t'15)) ∧ (brB t'15 (brB (!(decide ((s'12 = (ByteArray.mk #[(43 : UInt8)]))))) (brB (!(decide ((s'12 = (ByteArray.mk #[(35 : UInt8)]))))) (f78_8 w0 K a3 n3 c3 a22 n22 c22 x23 x24 true h'14) (f78_8 w0 K a3 n3 c3 a22 n22 c22 x23 x24 (decide (((Go.IntKind.wrap .i64 (x24 + (1 : Int))) < ((n3 : Nat) : Int)))) h'14)) (f78_8 w0 K a3 n3 c3 a22 n22 c22 x23 x24 false h'14)) (f78_8 w0 K a3 n3 c3 a22 n22 c22 x23 x24 false h'14))))) h))))))) (K (Go.Value.bool true) h))) :
  f78_5 w0 K a3 n3 c3 a22 n22 c22 x23 x24 h := fun j => LP_intro (P := Go.Proofs.Tryd.prog) (Eq.mp (by kernel_rfl) hv)

theorem f78_8_in {w0 : World} {K : Value → AH → Prop} (a3 : Option Go.Addr) (n3 : Nat) (c3 : Nat) (a22 : Option Go.Addr) (n22 : Nat) (c22 : Nat) (x23 : Int) (x24 : Int) (x45 : Bool) (h : AH)
  (hv : (brB x45 (K (Go.Value.bool false) h) (f78_5 w0 K a3 n3 c3 a22 n22 c22 x23 (Go.IntKind.wrap .i64 (x24 + (1 : Int))) h))) :
  f78_8 w0 K a3 n3 c3 a22 n22 c22 x23 x24 x45 h := fun j => LP_intro (P := Go.Proofs.Tryd.prog) (Eq.mp (by kernel_rfl) hv)

theorem f78_go {w0 : World} {K : Value → AH → Prop} (x0 : ByteArray) (h : AH)
  (hv : (brB (decide (((((ByteArray.size x0) : Nat) : Int) < (1 : Int)))) (f78_2 w0 K x0 true h) (brB (decide (((64 : Int) < (((ByteArray.size x0) : Nat) : Int)))) (f78_2 w0 K x0 true h) (∀ n'0 : Nat, (((ByteArray.size x0) ≤ n'0) → (newB w0 h (Go.G.AB.cells (Go.G.intsOf x0) n'0) (fun b'1 h'2 => (EvC Go.Proofs.Tryd.prog w0 90 #[(Go.Value.slice (some (Go.Addr.mk b'1 0 none)) (ByteArray.size x0) n'0)] (fun x'3 h'4 => (∃ t'5 : Bool, ((x'3 = (Go.Value.bool t'5)) ∧ (f78_2 w0 K x0 (!t'5) h'4)))) h'2)))))))) :
  EvC Go.Proofs.Tryd.prog w0 78 ([(.string x0)]).toArray K h := EvC_intro (P := Go.Proofs.Tryd.prog) f78_J (Eq.mp (by kernel_rfl) hv)
end Go.G.YtilifcggegabfaaDoor
