/- The document's bytes. -/
import Derived.Test.YtlghmjehibikeaaLWalEntries
import Derived.Test.YtlghmjehibikeaaWJ
import Derived.Test.YtlghmjehibikeaaProg
set_option maxRecDepth 100000
namespace Go.G.Ytlghmjehibikeaa
open Go.RowKit
def f40_J : Nat → List Nat × Nat := jOf [(1, [2, 3, 4, 5, 6, 7, 8, 9, 10, 11, 12, 13, 14, 15, 16, 17, 18, 19, 20], 0)]

def f40_1 (w0 : World) (K : Value → AH → Prop) (a0 : Option Go.Addr) (n0 : Nat) (c0 : Nat) (x1 : Int) (h : AH) : Prop :=
  ∀ j : Nat → Value, LPk Go.Proofs.Try.prog w0 (EvC Go.Proofs.Try.prog w0) f40_J 40 K 1 [.v (.slice a0 n0 c0), .v (.int .u64 x1), .v (j 2), .v (j 3), .v (j 4), .v (j 5), .v (j 6), .v (j 7), .v (j 8), .v (j 9), .v (j 10), .v (j 11), .v (j 12), .v (j 13), .v (j 14), .v (j 15), .v (j 16), .v (j 17), .v (j 18), .v (j 19), .v (j 20)] [] h

theorem f40_1_in {w0 : World} {K : Value → AH → Prop} (a0 : Option Go.Addr) (n0 : Nat) (c0 : Nat) (x1 : Int) (h : AH)
  (hv : (brB (decide (((128 : Int) ≤ x1))) (App w0 h 1 1 a0 n0 c0 1 [(Go.Value.int .u8 (Go.IntKind.wrap .u8 (((BitVec.toNat ((BitVec.ofInt 8 (Go.IntKind.wrap .u8 (Go.IntKind.wrap .u64 (((BitVec.toNat ((BitVec.ofInt 64 x1) &&& (BitVec.ofInt 64 (127 : Int)))) : Nat) : Int)))) ||| (BitVec.ofInt 8 (128 : Int)))) : Nat) : Int)))] (fun a'0 c'1 h'2 => (((0 : Int) ≤ (7 : Int)) ∧ (f40_1 w0 K a'0 (n0 + 1) c'1 (Int.fdiv x1 (128 : Int)) h'2)))) (App w0 h 1 1 a0 n0 c0 1 [(Go.Value.int .u8 (Go.IntKind.wrap .u8 x1))] (fun a'3 c'4 h'5 => (K (Go.Value.slice a'3 (n0 + 1) c'4) h'5))))) :
  f40_1 w0 K a0 n0 c0 x1 h := fun j => LP_intro (P := Go.Proofs.Try.prog) (Eq.mp (by kernel_rfl) hv)

theorem f40_go {w0 : World} {K : Value → AH → Prop} (a0 : Option Go.Addr) (n0 : Nat) (c0 : Nat) (x1 : Int) (h : AH)
  (hv : (f40_1 w0 K a0 n0 c0 x1 h)) :
  EvC Go.Proofs.Try.prog w0 40 ([(.slice a0 n0 c0), (.int .u64 x1)]).toArray K h := EvC_intro (P := Go.Proofs.Try.prog) f40_J (Eq.mp (by kernel_rfl) hv)
def f41_J : Nat → List Nat × Nat := jOf []



theorem f41_go {w0 : World} {K : Value → AH → Prop} (a0 : Option Go.Addr) (n0 : Nat) (c0 : Nat) (a1 : Option Go.Addr) (n1 : Nat) (c1 : Nat) (h : AH)
  (hv : (EvC Go.Proofs.Try.prog w0 40 #[(Go.Value.slice a0 n0 c0), (Go.Value.int .u64 (Go.IntKind.wrap .u64 ((n1 : Nat) : Int)))] (fun x'0 h'1 => (∃ p'2 : Option Go.Addr, (∃ n'3 : Nat, (∃ n'4 : Nat, ((x'0 = (Go.Value.slice p'2 n'3 n'4)) ∧ (rowsOf w0 h'1 1 a1 n1 (fun ys'5 => (App w0 h'1 1 1 p'2 n'3 n'4 n1 ys'5 (fun a'6 c'7 h'8 => (K (Go.Value.slice a'6 (n'3 + n1) c'7) h'8)))))))))) h)) :
  EvC Go.Proofs.Try.prog w0 41 ([(.slice a0 n0 c0), (.slice a1 n1 c1)]).toArray K h := EvC_intro (P := Go.Proofs.Try.prog) f41_J (Eq.mp (by kernel_rfl) hv)
def f42_J : Nat → List Nat × Nat := jOf []



theorem f42_go {w0 : World} {K : Value → AH → Prop} (x0 : Bool) (h : AH)
  (hv : (brB x0 (K (Go.Value.int .u8 (1 : Int)) h) (K (Go.Value.int .u8 (0 : Int)) h))) :
  EvC Go.Proofs.Try.prog w0 42 ([(.bool x0)]).toArray K h := EvC_intro (P := Go.Proofs.Try.prog) f42_J (Eq.mp (by kernel_rfl) hv)
def f43_J : Nat → List Nat × Nat := jOf [(2, [3, 4, 5, 6, 7, 8, 9, 10, 11, 12, 14, 15, 16, 17, 18, 19, 20, 21, 22, 23, 24, 25, 26, 27, 28, 29, 30], 0), (3, [3, 4, 5, 6, 7, 8, 9, 10, 11, 12, 13, 14, 15, 16, 17, 18, 19, 20, 21, 22, 23, 24, 25, 26, 27, 28, 29, 30], 0), (4, [2, 3, 4, 5, 6, 8, 9, 10, 11, 12, 13, 14, 15, 16, 17, 18, 19, 20, 21, 22, 23, 24, 25, 26, 27, 28, 29, 30], 0)]

def f43_2 (w0 : World) (K : Value → AH → Prop) (a0 : Option Go.Addr) (n0 : Nat) (c0 : Nat) (x1 : Int) (x2 : Int) (x13 : Bool) (h : AH) : Prop :=
  ∀ j : Nat → Value, LPk Go.Proofs.Try.prog w0 (EvC Go.Proofs.Try.prog w0) f43_J 43 K 2 [.v (.slice a0 n0 c0), .v (.int .u64 x1), .v (.int .i64 x2), .v (j 3), .v (j 4), .v (j 5), .v (j 6), .v (j 7), .v (j 8), .v (j 9), .v (j 10), .v (j 11), .v (j 12), .v (.bool x13), .v (j 14), .v (j 15), .v (j 16), .v (j 17), .v (j 18), .v (j 19), .v (j 20), .v (j 21), .v (j 22), .v (j 23), .v (j 24), .v (j 25), .v (j 26), .v (j 27), .v (j 28), .v (j 29), .v (j 30)] [] h

def f43_3 (w0 : World) (K : Value → AH → Prop) (a0 : Option Go.Addr) (n0 : Nat) (c0 : Nat) (x1 : Int) (x2 : Int) (h : AH) : Prop :=
  ∀ j : Nat → Value, LPk Go.Proofs.Try.prog w0 (EvC Go.Proofs.Try.prog w0) f43_J 43 K 3 [.v (.slice a0 n0 c0), .v (.int .u64 x1), .v (.int .i64 x2), .v (j 3), .v (j 4), .v (j 5), .v (j 6), .v (j 7), .v (j 8), .v (j 9), .v (j 10), .v (j 11), .v (j 12), .v (j 13), .v (j 14), .v (j 15), .v (j 16), .v (j 17), .v (j 18), .v (j 19), .v (j 20), .v (j 21), .v (j 22), .v (j 23), .v (j 24), .v (j 25), .v (j 26), .v (j 27), .v (j 28), .v (j 29), .v (j 30)] [] h

def f43_4 (w0 : World) (K : Value → AH → Prop) (a0 : Option Go.Addr) (n0 : Nat) (c0 : Nat) (x1 : Int) (x7 : Int) (h : AH) : Prop :=
  ∀ j : Nat → Value, LPk Go.Proofs.Try.prog w0 (EvC Go.Proofs.Try.prog w0) f43_J 43 K 4 [.v (.slice a0 n0 c0), .v (.int .u64 x1), .v (j 2), .v (j 3), .v (j 4), .v (j 5), .v (j 6), .v (.int .i64 x7), .v (j 8), .v (j 9), .v (j 10), .v (j 11), .v (j 12), .v (j 13), .v (j 14), .v (j 15), .v (j 16), .v (j 17), .v (j 18), .v (j 19), .v (j 20), .v (j 21), .v (j 22), .v (j 23), .v (j 24), .v (j 25), .v (j 26), .v (j 27), .v (j 28), .v (j 29), .v (j 30)] [] h

theorem f43_2_in {w0 : World} {K : Value → AH → Prop} (a0 : Option Go.Addr) (n0 : Nat) (c0 : Nat) (x1 : Int) (x2 : Int) (x13 : Bool) (h : AH)
  (hv : (brB x13 (K (Go.Value.slice a0 n0 c0) h) (f43_3 w0 K a0 n0 c0 x1 x2 h))) :
  f43_2 w0 K a0 n0 c0 x1 x2 x13 h := fun j => LP_intro (P := Go.Proofs.Try.prog) (Eq.mp (by kernel_rfl) hv)

theorem f43_3_in {w0 : World} {K : Value → AH → Prop} (a0 : Option Go.Addr) (n0 : Nat) (c0 : Nat) (x1 : Int) (x2 : Int) (h : AH)
  (hv : (f43_4 w0 K a0 n0 c0 x1 (Go.IntKind.wrap .i64 (x2 - (1 : Int))) h)) :
  f43_3 w0 K a0 n0 c0 x1 x2 h := fun j => LP_intro (P := Go.Proofs.Try.prog) (Eq.mp (by kernel_rfl) hv)

theorem f43_4_in {w0 : World} {K : Value → AH → Prop} (a0 : Option Go.Addr) (n0 : Nat) (c0 : Nat) (x1 : Int) (x7 : Int) (h : AH)
  (hv : (brB (decide (((0 : Int) ≤ x7))) (((0 : Int) ≤ (Go.IntKind.wrap .u64 (Go.IntKind.wrap .i64 ((8 : Int) * x7)))) ∧ (App w0 h 1 1 a0 n0 c0 1 [(Go.Value.int .u8 (Go.IntKind.wrap .u8 (Int.fdiv x1 ((2 : Int) ^ (Min.min (Int.toNat (Go.IntKind.wrap .u64 (Go.IntKind.wrap .i64 ((8 : Int) * x7)))) 64)))))] (fun a'0 c'1 h'2 => (f43_4 w0 K a'0 (n0 + 1) c'1 x1 (Go.IntKind.wrap .i64 (x7 - (1 : Int))) h'2)))) (K (Go.Value.slice a0 n0 c0) h))) :
  f43_4 w0 K a0 n0 c0 x1 x7 h := fun j => LP_intro (P := Go.Proofs.Try.prog) (Eq.mp (by kernel_rfl) hv)

theorem f43_go {w0 : World} {K : Value → AH → Prop} (a0 : Option Go.Addr) (n0 : Nat) (c0 : Nat) (x1 : Int) (x2 : Int) (h : AH)
  (hv : (brB (decide ((x2 < (1 : Int)))) (f43_2 w0 K a0 n0 c0 x1 x2 true h) (f43_2 w0 K a0 n0 c0 x1 x2 (decide (((8 : Int) < x2))) h))) :
  EvC Go.Proofs.Try.prog w0 43 ([(.slice a0 n0 c0), (.int .u64 x1), (.int .i64 x2)]).toArray K h := EvC_intro (P := Go.Proofs.Try.prog) f43_J (Eq.mp (by kernel_rfl) hv)
def f44_J : Nat → List Nat × Nat := jOf []



theorem f44_go {w0 : World} {K : Value → AH → Prop} (x0 : Int) (h : AH)
  (hv : (((0 : Int) ≤ (15 : Int)) ∧ (((0 : Int) ≤ (17 : Int)) ∧ (K (Go.Value.int .u32 (Go.IntKind.wrap .u32 ((Go.IntKind.wrap .u32 (((BitVec.toNat ((BitVec.ofInt 32 (Int.fdiv x0 (32768 : Int))) ||| (BitVec.ofInt 32 (Go.IntKind.wrap .u32 (x0 * (131072 : Int)))))) : Nat) : Int)) + (2726488792 : Int)))) h)))) :
  EvC Go.Proofs.Try.prog w0 44 ([(.int .u32 x0)]).toArray K h := EvC_intro (P := Go.Proofs.Try.prog) f44_J (Eq.mp (by kernel_rfl) hv)
def f70_J : Nat → List Nat × Nat := jOf [(3, [1, 2, 3, 4, 5, 6, 7, 8, 12, 13, 14, 15, 16, 17, 18, 19, 20, 21, 22, 23, 24, 25, 26, 27, 28, 29, 30, 31, 32], 0), (7, [1, 2, 3, 4, 5, 6, 7, 8, 12, 13, 14, 15, 16, 17, 18, 20, 21, 22, 23, 24, 25, 26, 27, 28, 29, 30, 31, 32], 0)]

def f70_3 (w0 : World) (K : Value → AH → Prop) (x0 : Int) (a9 : Option Go.Addr) (n9 : Nat) (c9 : Nat) (x10 : Int) (x11 : Int) (h : AH) : Prop :=
  ∀ j : Nat → Value, LPk Go.Proofs.Try.prog w0 (EvC Go.Proofs.Try.prog w0) f70_J 70 K 3 [.v (.int .u32 x0), .v (j 1), .v (j 2), .v (j 3), .v (j 4), .v (j 5), .v (j 6), .v (j 7), .v (j 8), .v (.slice a9 n9 c9), .v (.int .i64 x10), .v (.int .i64 x11), .v (j 12), .v (j 13), .v (j 14), .v (j 15), .v (j 16), .v (j 17), .v (j 18), .v (j 19), .v (j 20), .v (j 21), .v (j 22), .v (j 23), .v (j 24), .v (j 25), .v (j 26), .v (j 27), .v (j 28), .v (j 29), .v (j 30), .v (j 31), .v (j 32)] [] h

def f70_7 (w0 : World) (K : Value → AH → Prop) (x0 : Int) (a9 : Option Go.Addr) (n9 : Nat) (c9 : Nat) (x10 : Int) (x11 : Int) (x19 : Int) (h : AH) : Prop :=
  ∀ j : Nat → Value, LPk Go.Proofs.Try.prog w0 (EvC Go.Proofs.Try.prog w0) f70_J 70 K 7 [.v (.int .u32 x0), .v (j 1), .v (j 2), .v (j 3), .v (j 4), .v (j 5), .v (j 6), .v (j 7), .v (j 8), .v (.slice a9 n9 c9), .v (.int .i64 x10), .v (.int .i64 x11), .v (j 12), .v (j 13), .v (j 14), .v (j 15), .v (j 16), .v (j 17), .v (j 18), .v (.int .i64 x19), .v (j 20), .v (j 21), .v (j 22), .v (j 23), .v (j 24), .v (j 25), .v (j 26), .v (j 27), .v (j 28), .v (j 29), .v (j 30), .v (j 31), .v (j 32)] [] h

theorem f70_3_in {w0 : World} {K : Value → AH → Prop} (x0 : Int) (a9 : Option Go.Addr) (n9 : Nat) (c9 : Nat) (x10 : Int) (x11 : Int) (h : AH)
  (hv : (brB (decide ((x11 < x10))) (∃ a'0 : Go.Addr, ((a9 = (some a'0)) ∧ (((0 : Int) ≤ x11) ∧ ((x11 < ((n9 : Nat) : Int)) ∧ (∃ i'1 : Int, (((Go.G.cellA w0 h (Go.Addr.add a'0 ((Int.toNat x11) * 1))) = (some (Go.Value.int .u8 i'1))) ∧ (f70_7 w0 K (Go.IntKind.wrap .u32 (((BitVec.toNat ((BitVec.ofInt 32 x0) ^^^ (BitVec.ofInt 32 (Go.IntKind.wrap .u32 i'1)))) : Nat) : Int)) a9 n9 c9 x10 x11 (0 : Int) h))))))) (K (Go.Value.int .u32 (Go.IntKind.wrap .u32 (((BitVec.toNat ((BitVec.ofInt 32 (4294967295 : Int)) ^^^ (BitVec.ofInt 32 x0))) : Nat) : Int))) h))) :
  f70_3 w0 K x0 a9 n9 c9 x10 x11 h := fun j => LP_intro (P := Go.Proofs.Try.prog) (Eq.mp (by kernel_rfl) hv)

theorem f70_7_in {w0 : World} {K : Value → AH → Prop} (x0 : Int) (a9 : Option Go.Addr) (n9 : Nat) (c9 : Nat) (x10 : Int) (x11 : Int) (x19 : Int) (h : AH)
  (hv : (brB (decide ((x19 < (8 : Int)))) (brB ((Go.IntKind.wrap .u32 (((BitVec.toNat ((BitVec.ofInt 32 x0) &&& (BitVec.ofInt 32 (1 : Int)))) : Nat) : Int)) == (1 : Int)) (((0 : Int) ≤ (1 : Int)) ∧ (f70_7 w0 K (Go.IntKind.wrap .u32 (((BitVec.toNat ((BitVec.ofInt 32 (Int.fdiv x0 (2 : Int))) ^^^ (BitVec.ofInt 32 (2197175160 : Int)))) : Nat) : Int)) a9 n9 c9 x10 x11 (Go.IntKind.wrap .i64 (x19 + (1 : Int))) h)) (((0 : Int) ≤ (1 : Int)) ∧ (f70_7 w0 K (Int.fdiv x0 (2 : Int)) a9 n9 c9 x10 x11 (Go.IntKind.wrap .i64 (x19 + (1 : Int))) h))) (f70_3 w0 K x0 a9 n9 c9 x10 (Go.IntKind.wrap .i64 (x11 + (1 : Int))) h))) :
  f70_7 w0 K x0 a9 n9 c9 x10 x11 x19 h := fun j => LP_intro (P := Go.Proofs.Try.prog) (Eq.mp (by kernel_rfl) hv)

theorem f70_go {w0 : World} {K : Value → AH → Prop} (x0 : Int) (a1 : Option Go.Addr) (n1 : Nat) (c1 : Nat) (h : AH)
  (hv : (f70_3 w0 K (Go.IntKind.wrap .u32 (((BitVec.toNat ((BitVec.ofInt 32 (4294967295 : Int)) ^^^ (BitVec.ofInt 32 x0))) : Nat) : Int)) a1 n1 c1 ((n1 : Nat) : Int) (0 : Int) h)) :
  EvC Go.Proofs.Try.prog w0 70 ([(.int .u32 x0), (.slice a1 n1 c1)]).toArray K h := EvC_intro (P := Go.Proofs.Try.prog) f70_J (Eq.mp (by kernel_rfl) hv)
def f45_J : Nat → List Nat × Nat := jOf []



theorem f45_go {w0 : World} {K : Value → AH → Prop} (a0 : Option Go.Addr) (n0 : Nat) (c0 : Nat) (h : AH)
  (hv : (EvC Go.Proofs.Try.prog w0 70 #[(Go.Value.int .u32 (0 : Int)), (Go.Value.slice a0 n0 c0)] (fun x'0 h'1 => (∃ i'2 : Int, ((x'0 = (Go.Value.int .u32 i'2)) ∧ (K (Go.Value.int .u32 i'2) h'1)))) h)) :
  EvC Go.Proofs.Try.prog w0 45 ([(.slice a0 n0 c0)]).toArray K h := EvC_intro (P := Go.Proofs.Try.prog) f45_J (Eq.mp (by kernel_rfl) hv)
def f22_J : Nat → List Nat × Nat := jOf [(6, [0, 1, 2, 3, 4, 6, 7, 8, 9, 10, 11, 12, 13, 14, 15, 16, 17, 18, 19, 20, 21, 22, 26, 27, 28, 29, 30, 31, 32, 33, 34, 35, 36, 37, 38, 39, 40, 41, 42, 43, 44, 45, 46, 47, 48, 49, 50], 0)]

def f22_6 (w0 : World) (K : Value → AH → Prop) (a5 : Option Go.Addr) (n5 : Nat) (c5 : Nat) (a23 : Option Go.Addr) (n23 : Nat) (c23 : Nat) (x24 : Int) (x25 : Int) (h : AH) : Prop :=
  ∀ j : Nat → Value, LPk Go.Proofs.Try.prog w0 (EvC Go.Proofs.Try.prog w0) f22_J 22 K 6 [.v (j 0), .v (j 1), .v (j 2), .v (j 3), .v (j 4), .v (.slice a5 n5 c5), .v (j 6), .v (j 7), .v (j 8), .v (j 9), .v (j 10), .v (j 11), .v (j 12), .v (j 13), .v (j 14), .v (j 15), .v (j 16), .v (j 17), .v (j 18), .v (j 19), .v (j 20), .v (j 21), .v (j 22), .v (.slice a23 n23 c23), .v (.int .i64 x24), .v (.int .i64 x25), .v (j 26), .v (j 27), .v (j 28), .v (j 29), .v (j 30), .v (j 31), .v (j 32), .v (j 33), .v (j 34), .v (j 35), .v (j 36), .v (j 37), .v (j 38), .v (j 39), .v (j 40), .v (j 41), .v (j 42), .v (j 43), .v (j 44), .v (j 45), .v (j 46), .v (j 47), .v (j 48), .v (j 49), .v (j 50)] [] h

theorem f22_6_in {w0 : World} {K : Value → AH → Prop} (a5 : Option Go.Addr) (n5 : Nat) (c5 : Nat) (a23 : Option Go.Addr) (n23 : Nat) (c23 : Nat) (x24 : Int) (x25 : Int) (h : AH)
  (hv : (brB (decide ((x25 < x24))) (∃ a'13 : Go.Addr, ((a23 = (some a'13)) ∧ (((0 : Int) ≤ x25) ∧ ((x25 < ((n23 : Nat) : Int)) ∧ (∃ p'14 : Option Go.Addr, (∃ n'15 : Nat, (∃ n'16 : Nat, (∃ t'17 : Bool, (∃ i'18 : Int, (∃ p'19 : Option Go.Addr, (∃ n'20 : Nat, (∃ n'21 : Nat, ((((Array.size #[(Go.Value.slice p'14 n'15 n'16), (Go.Value.bool t'17), (Go.Value.int .i64 i'18), (Go.Value.slice p'19 n'20 n'21)]) = 4) ∧ (At w0 h (Go.Addr.add a'13 ((Int.toNat x25) * 4)) [(Go.Value.slice p'14 n'15 n'16), (Go.Value.bool t'17), (Go.Value.int .i64 i'18), (Go.Value.slice p'19 n'20 n'21)])) ∧ (EvC Go.Proofs.Try.prog w0 42 #[(Go.Value.bool t'17)] (fun x'22 h'23 => (∃ i'24 : Int, ((x'22 = (Go.Value.int .u8 i'24)) ∧ (App w0 h'23 1 1 a5 n5 c5 1 [(Go.Value.int .u8 i'24)] (fun a'25 c'26 h'27 => (EvC Go.Proofs.Try.prog w0 41 #[(Go.Value.slice a'25 (n5 + 1) c'26), (Go.Value.slice p'14 n'15 n'16)] (fun x'28 h'29 => (∃ p'30 : Option Go.Addr, (∃ n'31 : Nat, (∃ n'32 : Nat, ((x'28 = (Go.Value.slice p'30 n'31 n'32)) ∧ (brB (!t'17) (EvC Go.Proofs.Try.prog w0 40 #[(Go.Value.slice p'30 n'31 n'32), (Go.Value.int .u64 (Go.IntKind.wrap .u64 i'18))] (fun x'33 h'34 => (∃ p'35 : Option Go.Addr, (∃ n'36 : Nat, (∃ n'37 : Nat, ((x'33 = (Go.Value.slice p'35 n'36 n'37)) ∧ (EvC Go.Proofs.Try.prog w0 41 #[(Go.Value.slice p'35 n'36 n'37), (Go.Value.slice p'19 n'20 n'21)] (fun x'38 h'39 => (∃ p'40 : Option Go.Addr, (∃ n'41 : Nat, (∃ n'42 : Nat, ((x'38 = (Go.Value.slice p'40 n'41 n'42)) ∧ (f22_6 w0 K p'40 n'41 n'42 a23 n23 c23 x24 (Go.IntKind.wrap .i64 (x25 + (1 : Int))) h'39)))))) h'34)))))) h'29) (f22_6 w0 K p'30 n'31 n'32 a23 n23 c23 x24 (Go.IntKind.wrap .i64 (x25 + (1 : Int))) h'29))))))) h'27)))))) h)))))))))))))) (K (Go.Value.tuple #[(Go.Value.slice a5 n5 c5), (Go.Value.int .i64 (0 : Int))]) h))) :
  f22_6 w0 K a5 n5 c5 a23 n23 c23 x24 x25 h := fun j => LP_intro (P := Go.Proofs.Try.prog) (Eq.mp (by kernel_rfl) hv)

theorem f22_go {w0 : World} {K : Value → AH → Prop} (x0_0 : Int) (a0_1 : Option Go.Addr) (n0_1 : Nat) (c0_1 : Nat) (h : AH)
  (hv : (EvC Go.Proofs.Try.prog w0 39 #[(Go.Value.agg #[(Go.Value.int .i64 x0_0), (Go.Value.slice a0_1 n0_1 c0_1)])] (fun x'0 h'1 => (∃ i'2 : Int, ((x'0 = (Go.Value.int .i64 i'2)) ∧ (brB (i'2 != (0 : Int)) (K (Go.Value.tuple #[(Go.Value.slice none 0 0), (Go.Value.int .i64 i'2)]) h'1) (EvC Go.Proofs.Try.prog w0 40 #[(Go.Value.slice none 0 0), (Go.Value.int .u64 (Go.IntKind.wrap .u64 x0_0))] (fun x'3 h'4 => (∃ p'5 : Option Go.Addr, (∃ n'6 : Nat, (∃ n'7 : Nat, ((x'3 = (Go.Value.slice p'5 n'6 n'7)) ∧ (EvC Go.Proofs.Try.prog w0 40 #[(Go.Value.slice p'5 n'6 n'7), (Go.Value.int .u64 (Go.IntKind.wrap .u64 ((n0_1 : Nat) : Int)))] (fun x'8 h'9 => (∃ p'10 : Option Go.Addr, (∃ n'11 : Nat, (∃ n'12 : Nat, ((x'8 = (Go.Value.slice p'10 n'11 n'12)) ∧ (f22_6 w0 K p'10 n'11 n'12 a0_1 n0_1 c0_1 ((n0_1 : Nat) : Int) (0 : Int) h'9)))))) h'4)))))) h'1))))) h)) :
  EvC Go.Proofs.Try.prog w0 22 ([(.agg #[(.int .i64 x0_0), (.slice a0_1 n0_1 c0_1)])]).toArray K h := EvC_intro (P := Go.Proofs.Try.prog) f22_J (Eq.mp (by kernel_rfl) hv)
def f23_J : Nat → List Nat × Nat := jOf []



theorem f23_go {w0 : World} {K : Value → AH → Prop} (a0 : Option Go.Addr) (n0 : Nat) (c0 : Nat) (a1 : Option Go.Addr) (n1 : Nat) (c1 : Nat) (h : AH)
  (hv : (brB (decide (((1048576 : Int) < ((n1 : Nat) : Int)))) (K (Go.Value.tuple #[(Go.Value.slice none 0 0), (Go.Value.int .i64 (2 : Int))]) h) (EvC Go.Proofs.Try.prog w0 41 #[(Go.Value.slice none 0 0), (Go.Value.slice a1 n1 c1)] (fun x'0 h'1 => (∃ p'2 : Option Go.Addr, (∃ n'3 : Nat, (∃ n'4 : Nat, ((x'0 = (Go.Value.slice p'2 n'3 n'4)) ∧ (EvC Go.Proofs.Try.prog w0 45 #[(Go.Value.slice p'2 n'3 n'4)] (fun x'5 h'6 => (∃ i'7 : Int, ((x'5 = (Go.Value.int .u32 i'7)) ∧ (EvC Go.Proofs.Try.prog w0 44 #[(Go.Value.int .u32 i'7)] (fun x'8 h'9 => (∃ i'10 : Int, ((x'8 = (Go.Value.int .u32 i'10)) ∧ (EvC Go.Proofs.Try.prog w0 43 #[(Go.Value.slice a0 n0 c0), (Go.Value.int .u64 (Go.IntKind.wrap .u64 i'10)), (Go.Value.int .i64 (4 : Int))] (fun x'11 h'12 => (∃ p'13 : Option Go.Addr, (∃ n'14 : Nat, (∃ n'15 : Nat, ((x'11 = (Go.Value.slice p'13 n'14 n'15)) ∧ (rowsOf w0 h'12 1 p'2 n'3 (fun ys'16 => (App w0 h'12 1 1 p'13 n'14 n'15 n'3 ys'16 (fun a'17 c'18 h'19 => (K (Go.Value.tuple #[(Go.Value.slice a'17 (n'14 + n'3) c'18), (Go.Value.int .i64 (0 : Int))]) h'19)))))))))) h'9)))) h'6)))) h'1)))))) h))) :
  EvC Go.Proofs.Try.prog w0 23 ([(.slice a0 n0 c0), (.slice a1 n1 c1)]).toArray K h := EvC_intro (P := Go.Proofs.Try.prog) f23_J (Eq.mp (by kernel_rfl) hv)
/-! ### the document's bytes: how many they are -/
def iu (l : List Int) : List Value := l.map (Value.int .u8)
theorem iu_len (l : List Int) : (iu l).length = l.length := by simp [iu]
theorem iu_app (l m : List Int) : iu (l ++ m) = iu l ++ iu m := by simp [iu]
theorem iu_cell (l : List Int) : ∀ y ∈ iu l, y.oneCell' = true := fun y hy => by
  obtain ⟨x, _, rfl⟩ := List.mem_map.1 hy
  rfl
theorem u8s_iu (l : List UInt8) : u8s l = iu (l.map fun b => ((b.toNat : Nat) : Int)) := by simp [u8s, iu, Function.comp_def]
section
variable {w0 : World} {K : Value → AH → Prop} {h : AH} {B : List (Nat × AB)}
theorem App_iu {a : Option Addr} {c : Nat} {l x : List Int} {K : Option Addr → Nat → AH → Prop} (v : SlV 1 a l.length c (iu l)) (w : Own w0 h (slB a (iu l) (c * 1) ++ B)) (hl : l.length + x.length ≤ 100000000000000)
    (hk : ∀ a' c' h', SlV 1 a' (l ++ x).length c' (iu (l ++ x)) → Own w0 h' (slB a' (iu (l ++ x)) (c' * 1) ++ B) → K a' c' h') : App w0 h 1 1 a l.length c x.length (iu x) K := by
  refine App_slB v w (by omega) (by omega) (by rw [iu_len, Nat.mul_one]) (iu_cell _) fun a' c' h' v' w' => ?_
  rw [← iu_app] at v' w'
  exact hk a' c' h' (by rw [List.length_append]; exact v') w'
theorem f40_more : ∀ (k n : Nat), n < 128 ^ (k + 1) → ∀ (a : Option Addr) (c : Nat) (h : AH) (l : List Int), SlV 1 a l.length c (iu l) → Own w0 h (slB a (iu l) (c * 1) ++ B) → l.length + k ≤ 10000000000000 →
    (∀ h' a' c' l', l'.length = l.length + (putV n).length → SlV 1 a' l'.length c' (iu l') → Own w0 h' (slB a' (iu l') (c' * 1) ++ B) → K (.slice a' l'.length c') h') → f40_1 w0 K a l.length c ((n : Nat) : Int) h := by
  intro k
  induction k with
  | zero =>
    intro n hn a c h l v w hl hk
    refine f40_1_in _ _ _ _ _ (brB_of (fun z => by have := of_decide_eq_true z; omega) fun _ => ?_)
    refine App_iu (x := [IntKind.u8.wrap ((n : Nat) : Int)]) v w (by simp; omega) fun a' c' h' v' w' => ?_
    have := hk h' a' c' _ (by rw [putV_small (by simpa using hn)]; simp) v' w'
    rw [List.length_append] at this
    exact this
  | succ k ih =>
    intro n hn a c h l v w hl hk
    by_cases q : n < 128
    · refine f40_1_in _ _ _ _ _ (brB_of (fun z => by have := of_decide_eq_true z; omega) fun _ => ?_)
      refine App_iu (x := [IntKind.u8.wrap ((n : Nat) : Int)]) v w (by simp; omega) fun a' c' h' v' w' => ?_
      have := hk h' a' c' _ (by rw [putV_small q]; simp) v' w'
      rw [List.length_append] at this
      exact this
    · refine f40_1_in _ _ _ _ _ (brB_of (fun _ => ?_) fun z => by have := of_decide_eq_false z; omega)
      refine App_iu (x := [_]) v w (by simp; omega) fun a' c' h' v' w' => ⟨by decide, ?_⟩
      rw [fdiv128]
      have hn2 : n / 128 < 128 ^ (k + 1) := by
        rw [Nat.div_lt_iff_lt_mul (by decide)]; rw [Nat.pow_succ] at hn; omega
      have := ih (n / 128) hn2 a' c' h' _ v' w' (by simp; omega) fun h2 a2 c2 l2 e2 v2 w2 => hk h2 a2 c2 l2 (by rw [e2, putV_step q]; simp; omega) v2 w2
      rw [List.length_append] at this
      exact this
theorem f40_spec {a : Option Addr} {c n : Nat} {l : List Int} (v : SlV 1 a l.length c (iu l)) (w : Own w0 h (slB a (iu l) (c * 1) ++ B)) (hl : l.length ≤ 1000000000000) (hn : n < 18446744073709551616)
    (hk : ∀ h' a' c' l', l'.length = l.length + (putV n).length → SlV 1 a' l'.length c' (iu l') → Own w0 h' (slB a' (iu l') (c' * 1) ++ B) → K (.slice a' l'.length c') h') : EvC Go.Proofs.Try.prog w0 40 #[.slice a l.length c, .int .u64 ((n : Nat) : Int)] K h :=
  f40_go _ _ _ _ _ (f40_more 9 n (by omega) a c h l v w (by omega) hk)
theorem f41_spec {a b : Option Addr} {c d : Nat} {l x : List Int} (v : SlV 1 a l.length c (iu l)) (w : Own w0 h (slB a (iu l) (c * 1) ++ B)) (hl : l.length ≤ 1000000000000) (hxl : x.length ≤ 1000000000000) (hx : ∀ h', Own w0 h' B → Rd w0 h' b (iu x))
    (hk : ∀ h' a' c' l', l'.length = l.length + ((putV x.length).length + x.length) → SlV 1 a' l'.length c' (iu l') → Own w0 h' (slB a' (iu l') (c' * 1) ++ B) → K (.slice a' l'.length c') h') : EvC Go.Proofs.Try.prog w0 41 #[.slice a l.length c, .slice b x.length d] K h := by
  refine f41_go _ _ _ _ _ _ _ ?_
  rw [wrap64u (by omega) (by omega)]
  have hp := putV_len10 (n := x.length) (by omega)
  refine f40_spec v w hl (by omega) fun h1 a1 c1 l1 e1 v1 w1 => ⟨_, _, _, rfl, rowsOf_of (hx h1 w1.drop) (by rw [iu_len, Nat.mul_one]) (App_iu v1 w1 (by omega) fun a2 c2 h2 v2 w2 => ?_)⟩
  have := hk h2 a2 c2 _ (by rw [List.length_append, e1]; omega) v2 w2
  rw [List.length_append] at this
  exact this
theorem f70_spec {a : Option Addr} {c : Nat} {x : List Int} {s : Int} (hr : Rd w0 h a (iu x)) (hl : x.length ≤ 1000000000000) (hk : ∀ i, K (.int .u32 i) h) : EvC Go.Proofs.Try.prog w0 70 #[.int .u32 s, .slice a x.length c] K h := by
  have loop : ∀ (k i : Nat), i + k = x.length → ∀ s, f70_3 w0 K s a x.length c ((x.length : Nat) : Int) ((i : Nat) : Int) h := fun k => by
    induction k with
    | zero => exact fun i hi s => f70_3_in _ _ _ _ _ _ _ (brB_of (fun z => by have := of_decide_eq_true z; omega) fun _ => hk _)
    | succ k ih =>
      intro i hi s
      have hg : x[i]? = some x[i] := List.getElem?_eq_getElem _
      obtain ⟨ad, had, c1⟩ := hr i (.int .u8 x[i]) (by simp [iu, hg])
      have inner : ∀ (k2 j : Nat), j + k2 = 8 → ∀ s, f70_7 w0 K s a x.length c ((x.length : Nat) : Int) ((i : Nat) : Int) ((j : Nat) : Int) h := fun k2 => by
        induction k2 with
        | zero =>
          intro j hj s
          refine f70_7_in _ _ _ _ _ _ _ _ (brB_of (fun z => by have := of_decide_eq_true z; omega) fun _ => ?_)
          rw [wrapS (by omega)]; exact ih (i + 1) (by omega) _
        | succ k2 ih2 =>
          intro j hj s
          refine f70_7_in _ _ _ _ _ _ _ _ (brB_of (fun _ => brB_of (fun _ => ⟨by decide, ?_⟩) fun _ => ⟨by decide, ?_⟩) fun z => by have := of_decide_eq_false z; omega)
          · rw [wrapS (by omega)]; exact ih2 (j + 1) (by omega) _
          · rw [wrapS (by omega)]; exact ih2 (j + 1) (by omega) _
      exact f70_3_in _ _ _ _ _ _ _ (brB_of (fun _ => ⟨ad, had, by omega, by omega, _, by rw [Int.toNat_natCast, Nat.mul_one]; exact c1, inner 8 0 rfl _⟩) fun z => by have := of_decide_eq_false z; omega)
  exact f70_go _ _ _ _ _ (loop x.length 0 (by omega) _)
theorem f43_spec {x1 : Int} (w : Own w0 h B) (hk : ∀ h' a' c' l', l'.length = 4 → SlV 1 a' l'.length c' (iu l') → Own w0 h' (slB a' (iu l') (c' * 1) ++ B) → K (.slice a' l'.length c') h') : EvC Go.Proofs.Try.prog w0 43 #[.slice none 0 0, .int .u64 x1, .int .i64 4] K h := by
  have loop : ∀ (k : Nat), k ≤ 4 → ∀ (a : Option Addr) (c : Nat) (h : AH) (l : List Int), l.length + k = 4 → SlV 1 a l.length c (iu l) → Own w0 h (slB a (iu l) (c * 1) ++ B) → f43_4 w0 K a l.length c x1 (((k : Nat) : Int) - 1) h := fun k => by
    induction k with
    | zero => exact fun _ a c h l hl v w => f43_4_in _ _ _ _ _ _ (brB_of (fun z => by have := of_decide_eq_true z; omega) fun _ => hk h a c l (by omega) v w)
    | succ k ih =>
      intro hk4 a c h l hl v w
      refine f43_4_in _ _ _ _ _ _ (brB_of (fun _ => ⟨?_, ?_⟩) fun z => by have := of_decide_eq_false z; omega)
      · simp only [IntKind.wrap, IntKind.signed, IntKind.bits]; exact Int.emod_nonneg _ (by decide)
      · refine App_iu (x := [_]) v w (by simp; omega) fun a' c' h' v' w' => ?_
        rw [wrap64 (by omega) (by omega)]
        have := ih (by omega) a' c' h' _ (by simp; omega) v' w'
        rw [List.length_append] at this
        have e : (((k + 1 : Nat) : Int) - 1 - 1) = ((k : Nat) : Int) - 1 := by omega
        rw [e]; exact this
  refine f43_go _ _ _ _ _ _ (brB_of (fun z => by cases z) fun _ => f43_2_in _ _ _ _ _ _ _ (brB_of (fun z => by cases z) fun _ => f43_3_in _ _ _ _ _ _ ?_))
  rw [wrap64 (by omega) (by omega)]
  exact loop 4 (Nat.le_refl _) none 0 h [] rfl SlV.nil w
theorem f23_spec {b : Option Addr} {d : Nat} {x : List Int} (w : Own w0 h B) (hxl : x.length ≤ 1048576) (hx : ∀ h', Own w0 h' B → Rd w0 h' b (iu x))
    (hk : ∀ h' a' c' l', l'.length = 4 + ((putV x.length).length + x.length) → Own w0 h' (slB a' (iu l') (c' * 1) ++ B) → K (.tuple #[.slice a' l'.length c', .int .i64 0]) h') : EvC Go.Proofs.Try.prog w0 23 #[.slice none 0 0, .slice b x.length d] K h := by
  have hp := putV_len10 (n := x.length) (by omega)
  refine f23_go _ _ _ _ _ _ _ (brB_of (fun z => by have := of_decide_eq_true z; omega) fun _ => ?_)
  refine f41_spec (l := []) SlV.nil w (by decide) (by omega) hx fun h1 a1 c1 l1 e1 v1 w1 => ⟨_, _, _, rfl, ?_⟩
  rw [List.length_nil, Nat.zero_add] at e1
  have rd1 := v1.rd (cs := []) w1
  refine f45_go _ _ _ _ (f70_spec rd1 (by omega) fun i => ⟨_, rfl, _, rfl, f44_go _ _ ⟨by decide, by decide, _, rfl, ?_⟩⟩)
  refine f43_spec w1 fun h2 a2 c2 l2 e2 v2 w2 => ⟨_, _, _, rfl, rowsOf_of (v1.rd (cs := slB a2 (iu l2) (c2 * 1)) w2) (by rw [iu_len, Nat.mul_one]) (App_iu v2 w2 (by omega) fun a3 c3 h3 v3 w3 => ?_)⟩
  have := hk h3 a3 c3 _ (by rw [List.length_append, e2, e1]) w3.cut
  rw [List.length_append] at this
  exact this
theorem f22_spec {seq : Int} {a : Option Addr} {c : Nat} {l : List OpM} (hm : mayB seq (l.map OpM.o) = 0) (w : Own w0 h B) (hO : ∀ h', Own w0 h' B → OpsOk w0 h' a l)
    (hk : ∀ h' a' c' l', l'.length = (encB seq (l.map OpM.o)).length → SlV 1 a' l'.length c' (iu l') → Own w0 h' (slB a' (iu l') (c' * 1) ++ B) → K (.tuple #[.slice a' l'.length c', .int .i64 0]) h') : EvC Go.Proofs.Try.prog w0 22 #[.agg #[.int .i64 seq, .slice a l.length c]] K h := by
  obtain ⟨g1, g2, g3, g4, g5⟩ := mayB_zero hm
  rw [List.length_map] at g1 g2 g4
  have hel := encOs_len (l := l.map OpM.o) g5
  rw [List.length_map] at hel
  have loop : ∀ (rest done : List OpM) (a' : Option Addr) (c' : Nat) (h' : AH) (l' : List Int), l = done ++ rest → l'.length = (putV seq.toNat).length + (putV l.length).length + ((done.map OpM.o).flatMap encO).length → SlV 1 a' l'.length c' (iu l') → Own w0 h' (slB a' (iu l') (c' * 1) ++ B) →
      f22_6 w0 K a' l'.length c' a l.length c ((l.length : Nat) : Int) ((done.length : Nat) : Int) h' := by
    have p1 := putV_len10 (n := seq.toNat) (by omega)
    have p2 := putV_len10 (n := l.length) (by omega)
    intro rest
    induction rest with
    | nil =>
      intro done a' c' h' l' hl e v w'
      rw [List.append_nil] at hl
      subst hl
      exact f22_6_in _ _ _ _ _ _ _ _ _ (brB_of (fun q => by simp at q) fun _ => hk h' a' c' l' (by rw [e]; unfold encB; simp; omega) v w')
    | cons m r ih =>
      intro done a' c' h' l' hl e v w'
      have hll : l.length = done.length + r.length + 1 := by rw [hl]; simp; omega
      have hget : l[done.length]? = some m := by rw [hl]; simp
      have hmem : m ∈ l := by rw [hl]; simp
      obtain ⟨o1, o2, o3, o4, o5, o6⟩ := mayO_zero (g5 m.o (List.mem_map.2 ⟨m, hmem, rfl⟩))
      have hdl : ((done.map OpM.o).flatMap encO).length ≤ 3000 * done.length := by
        have := encOs_len (l := done.map OpM.o) fun o ho => g5 o (by rw [hl, List.map_append]; exact List.mem_append_left _ ho)
        rw [List.length_map] at this; exact this
      have hdn : (((done ++ [m]).map OpM.o).flatMap encO).length = ((done.map OpM.o).flatMap encO).length + (encO m.o).length := by simp
      obtain ⟨ad, had, hat⟩ := rowLoad (enc := OpM.cells) (k := 4) (fun _ => rfl) (by decide) (hO h' w'.drop).rd hget
      refine f22_6_in _ _ _ _ _ _ _ _ _ (brB_of (fun _ => ⟨ad, had, by omega, by omega, _, _, _, _, _, _, _, _, ⟨rfl, hat⟩, ?_⟩) fun q => by have := of_decide_eq_false q; omega)
      have flag : ∀ Q : Value → AH → Prop, (∀ i, Q (.int .u8 i) h') → EvC Go.Proofs.Try.prog w0 42 #[.bool m.o.gone] Q h' := fun Q hQ => f42_go _ _ (brB_of (fun _ => hQ _) fun _ => hQ _)
      have kp := putV_len10 (n := m.o.key.length) (by omega)
      have tp := putV_len10 (n := m.o.til.toNat) (by omega)
      have vp := putV_len10 (n := m.o.val.length) (by omega)
      refine flag _ fun i => ⟨_, rfl, App_iu (x := [i]) v w' (by simp; omega) fun a1 c1 h1 v1 w1 => ?_⟩
      have e1 : (l' ++ [i]).length = l'.length + 1 := by simp
      rw [← e1]
      have hkx : ∀ h'', Own w0 h'' B → Rd w0 h'' m.ka (iu (m.o.key.map fun b => ((b.toNat : Nat) : Int))) := fun h'' w'' => by rw [← u8s_iu]; exact (hO h'' w'').ks m hmem
      have hvx : ∀ h'', Own w0 h'' B → Rd w0 h'' m.va (iu (m.o.val.map fun b => ((b.toNat : Nat) : Int))) := fun h'' w'' => by rw [← u8s_iu]; exact (hO h'' w'').vs m hmem
      have lk : (m.o.key.map fun b => ((b.toNat : Nat) : Int)).length = m.o.key.length := by simp
      have lv : (m.o.val.map fun b => ((b.toNat : Nat) : Int)).length = m.o.val.length := by simp
      have pb := f41_spec (K := fun x'28 h'29 => ∃ p'30 : Option Addr, ∃ n'31 : Nat, ∃ n'32 : Nat, (x'28 = (.slice p'30 n'31 n'32)) ∧ brB (!m.o.gone) (EvC Go.Proofs.Try.prog w0 40 #[.slice p'30 n'31 n'32, .int .u64 (IntKind.u64.wrap m.o.til)] (fun x'33 h'34 => ∃ p'35 : Option Addr, ∃ n'36 : Nat, ∃ n'37 : Nat, (x'33 = (.slice p'35 n'36 n'37)) ∧ EvC Go.Proofs.Try.prog w0 41 #[.slice p'35 n'36 n'37, .slice m.va m.o.val.length m.vc] (fun x'38 h'39 => ∃ p'40 : Option Addr, ∃ n'41 : Nat, ∃ n'42 : Nat, (x'38 = (.slice p'40 n'41 n'42)) ∧ f22_6 w0 K p'40 n'41 n'42 a l.length c ((l.length : Nat) : Int) (IntKind.i64.wrap (((done.length : Nat) : Int) + 1)) h'39) h'34) h'29) (f22_6 w0 K p'30 n'31 n'32 a l.length c ((l.length : Nat) : Int) (IntKind.i64.wrap (((done.length : Nat) : Int) + 1)) h'29)) (d := m.kc) v1 w1 (by omega) (by omega) hkx fun h2 a2 c2 l2 e2 v2 w2 => ⟨_, _, _, rfl, brB_of (fun z => ?_) fun z => ?_⟩
      · rw [lk] at pb; exact pb
      · rw [lk] at e2
        rw [wrap64u (by omega) (by omega), show m.o.til = ((m.o.til.toNat : Nat) : Int) by omega]
        refine f40_spec v2 w2 (by omega) (by omega) fun h3 a3 c3 l3 e3 v3 w3 => ⟨_, _, _, rfl, ?_⟩
        have hz : m.o.gone = false := by simpa using z
        have pb2 := f41_spec (K := fun x'38 h'39 => ∃ p'40 : Option Addr, ∃ n'41 : Nat, ∃ n'42 : Nat, (x'38 = (.slice p'40 n'41 n'42)) ∧ f22_6 w0 K p'40 n'41 n'42 a l.length c ((l.length : Nat) : Int) (IntKind.i64.wrap (((done.length : Nat) : Int) + 1)) h'39) (d := m.vc) v3 w3 (by omega) (by omega) hvx fun h4 a4 c4 l4 e4 v4 w4 => ⟨_, _, _, rfl, ?_⟩
        · rw [lv] at pb2; exact pb2
        · rw [wrapS (by omega)]
          have := ih (done ++ [m]) a4 c4 h4 l4 (by rw [hl]; simp) (by
            rw [hdn, e4, e3, e2, e1, e, lv]
            have : (encO m.o).length = 1 + ((putV m.o.key.length).length + m.o.key.length) + (putV m.o.til.toNat).length + ((putV m.o.val.length).length + m.o.val.length) := by unfold encO; rw [hz]; simp; omega
            omega) v4 w4
          rw [List.length_append] at this
          exact this
      · rw [lk] at e2
        have hz : m.o.gone = true := by simpa using z
        rw [wrapS (by omega)]
        have := ih (done ++ [m]) a2 c2 h2 l2 (by rw [hl]; simp) (by
          rw [hdn, e2, e1, e]
          have : (encO m.o).length = 1 + ((putV m.o.key.length).length + m.o.key.length) := by unfold encO; rw [hz]; simp; omega
          omega) v2 w2
        rw [List.length_append] at this
        exact this
  have p1 := putV_len10 (n := seq.toNat) (by omega)
  refine f22_go _ _ _ _ _ (f39_spec (hO h w).rd ⟨_, rfl, brB_of (fun q => by rw [hm] at q; cases q) fun _ => ?_⟩)
  rw [wrap64u (by omega) (by omega), wrap64u (n := ((l.length : Nat) : Int)) (by omega) (by omega), show seq = ((seq.toNat : Nat) : Int) by omega]
  refine f40_spec (l := []) SlV.nil w (by decide) (by omega) fun h1 a1 c1 l1 e1 v1 w1 => ⟨_, _, _, rfl, ?_⟩
  rw [List.length_nil, Nat.zero_add] at e1
  refine f40_spec v1 w1 (by omega) (by omega) fun h2 a2 c2 l2 e2 v2 w2 => ⟨_, _, _, rfl, ?_⟩
  exact loop l [] a2 c2 h2 l2 rfl (by rw [e2, e1]; simp) v2 w2
end
theorem frameB_len4 (r : List UInt8) : (frameB r).length = 4 + ((putV r.length).length + r.length) := by
  unfold frameB restB
  rw [List.length_append, List.length_append, fixedV_len]
end Go.G.Ytlghmjehibikeaa
