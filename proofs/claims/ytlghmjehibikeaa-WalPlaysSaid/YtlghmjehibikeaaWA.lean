/- Numbers, sums, frames. -/
import Derived.Test.YtlghmjehibikeaaDB
import Derived.Test.YtlghmjehibikeaaProg
set_option maxRecDepth 100000
namespace Go.G.Ytlghmjehibikeaa
open Go.RowKit
def f65_J : Nat → List Nat × Nat := jOf [(10000, [0, 2, 3, 4, 6, 7, 8, 9, 10, 11, 12, 13, 14, 15, 16, 17, 18, 19, 20, 21, 22], 0)]

def f65_10000 (w0 : World) (K : Value → AH → Prop) (x1 : Int) (a5 : Option Go.Addr) (n5 : Nat) (c5 : Nat) (h : AH) : Prop :=
  ∀ j : Nat → Value, LPk Go.Proofs.Try.prog w0 (EvC Go.Proofs.Try.prog w0) f65_J 65 K 10000 [.v (j 0), .v (.int .u64 x1), .v (j 2), .v (j 3), .v (j 4), .v (.slice a5 n5 c5), .v (j 6), .v (j 7), .v (j 8), .v (j 9), .v (j 10), .v (j 11), .v (j 12), .v (j 13), .v (j 14), .v (j 15), .v (j 16), .v (j 17), .v (j 18), .v (j 19), .v (j 20), .v (j 21), .v (j 22)] [] h

theorem f65_10000_in {w0 : World} {K : Value → AH → Prop} (x1 : Int) (a5 : Option Go.Addr) (n5 : Nat) (c5 : Nat) (h : AH)
  (hv : (brB (decide (((128 : Int) ≤ x1))) (App w0 h 1 1 a5 n5 c5 1 [(Go.Value.int .u8 (Go.IntKind.wrap .u8 (((BitVec.toNat ((BitVec.ofInt 8 (Go.IntKind.wrap .u8 x1)) ||| (BitVec.ofInt 8 (128 : Int)))) : Nat) : Int)))] (fun a'10 c'11 h'12 => (((0 : Int) ≤ (7 : Int)) ∧ (f65_10000 w0 K (Int.fdiv x1 (128 : Int)) a'10 (n5 + 1) c'11 h'12)))) (App w0 h 1 1 a5 n5 c5 1 [(Go.Value.int .u8 (Go.IntKind.wrap .u8 x1))] (fun a'13 c'14 h'15 => (K (Go.Value.slice a'13 (n5 + 1) c'14) h'15))))) :
  f65_10000 w0 K x1 a5 n5 c5 h := fun j => LP_intro (P := Go.Proofs.Try.prog) (Eq.mp (by kernel_rfl) hv)

theorem f65_go {w0 : World} {K : Value → AH → Prop} (a0 : Option Go.Addr) (n0 : Nat) (c0 : Nat) (x1 : Int) (h : AH)
  (hv : (rowsOf w0 h 1 a0 n0 (fun ys'0 => (App w0 h 1 1 none 0 0 n0 ys'0 (fun a'1 c'2 h'3 => (brB (decide (((128 : Int) ≤ x1))) (App w0 h'3 1 1 a'1 (0 + n0) c'2 1 [(Go.Value.int .u8 (Go.IntKind.wrap .u8 (((BitVec.toNat ((BitVec.ofInt 8 (Go.IntKind.wrap .u8 x1)) ||| (BitVec.ofInt 8 (128 : Int)))) : Nat) : Int)))] (fun a'4 c'5 h'6 => (((0 : Int) ≤ (7 : Int)) ∧ (f65_10000 w0 K (Int.fdiv x1 (128 : Int)) a'4 ((0 + n0) + 1) c'5 h'6)))) (App w0 h'3 1 1 a'1 (0 + n0) c'2 1 [(Go.Value.int .u8 (Go.IntKind.wrap .u8 x1))] (fun a'7 c'8 h'9 => (K (Go.Value.slice a'7 ((0 + n0) + 1) c'8) h'9))))))))) :
  EvC Go.Proofs.Try.prog w0 65 ([(.slice a0 n0 c0), (.int .u64 x1)]).toArray K h := EvC_intro (P := Go.Proofs.Try.prog) f65_J (Eq.mp (by kernel_rfl) hv)
def f66_J : Nat → List Nat × Nat := jOf []



theorem f66_go {w0 : World} {K : Value → AH → Prop} (a0 : Option Go.Addr) (n0 : Nat) (c0 : Nat) (a1 : Option Go.Addr) (n1 : Nat) (c1 : Nat) (h : AH)
  (hv : (EvC Go.Proofs.Try.prog w0 65 #[(Go.Value.slice a0 n0 c0), (Go.Value.int .u64 (Go.IntKind.wrap .u64 ((n1 : Nat) : Int)))] (fun x'0 h'1 => (∃ p'2 : Option Go.Addr, (∃ n'3 : Nat, (∃ n'4 : Nat, ((x'0 = (Go.Value.slice p'2 n'3 n'4)) ∧ (rowsOf w0 h'1 1 a1 n1 (fun ys'5 => (App w0 h'1 1 1 p'2 n'3 n'4 n1 ys'5 (fun a'6 c'7 h'8 => (K (Go.Value.slice a'6 (n'3 + n1) c'7) h'8)))))))))) h)) :
  EvC Go.Proofs.Try.prog w0 66 ([(.slice a0 n0 c0), (.slice a1 n1 c1)]).toArray K h := EvC_intro (P := Go.Proofs.Try.prog) f66_J (Eq.mp (by kernel_rfl) hv)
def f67_J : Nat → List Nat × Nat := jOf [(3, [0, 3, 4, 5, 6, 8, 9, 10, 11, 12, 13, 14, 15, 17, 18, 19, 20, 21, 22, 23, 24, 25, 26, 27, 28, 29, 30, 31, 32], 0), (4, [0, 3, 4, 5, 6, 8, 9, 10, 11, 12, 13, 14, 15, 16, 17, 18, 19, 20, 21, 22, 23, 24, 25, 26, 27, 28, 29, 30, 31, 32], 0), (5, [0, 2, 3, 4, 5, 6, 9, 10, 11, 12, 13, 14, 15, 16, 17, 18, 19, 20, 21, 22, 23, 24, 25, 26, 27, 28, 29, 30, 31, 32], 0)]

def f67_3 (w0 : World) (K : Value → AH → Prop) (x1 : Int) (x2 : Int) (a7 : Option Go.Addr) (n7 : Nat) (c7 : Nat) (x16 : Bool) (h : AH) : Prop :=
  ∀ j : Nat → Value, LPk Go.Proofs.Try.prog w0 (EvC Go.Proofs.Try.prog w0) f67_J 67 K 3 [.v (j 0), .v (.int .u64 x1), .v (.int .i64 x2), .v (j 3), .v (j 4), .v (j 5), .v (j 6), .v (.slice a7 n7 c7), .v (j 8), .v (j 9), .v (j 10), .v (j 11), .v (j 12), .v (j 13), .v (j 14), .v (j 15), .v (.bool x16), .v (j 17), .v (j 18), .v (j 19), .v (j 20), .v (j 21), .v (j 22), .v (j 23), .v (j 24), .v (j 25), .v (j 26), .v (j 27), .v (j 28), .v (j 29), .v (j 30), .v (j 31), .v (j 32)] [] h

def f67_4 (w0 : World) (K : Value → AH → Prop) (x1 : Int) (x2 : Int) (a7 : Option Go.Addr) (n7 : Nat) (c7 : Nat) (h : AH) : Prop :=
  ∀ j : Nat → Value, LPk Go.Proofs.Try.prog w0 (EvC Go.Proofs.Try.prog w0) f67_J 67 K 4 [.v (j 0), .v (.int .u64 x1), .v (.int .i64 x2), .v (j 3), .v (j 4), .v (j 5), .v (j 6), .v (.slice a7 n7 c7), .v (j 8), .v (j 9), .v (j 10), .v (j 11), .v (j 12), .v (j 13), .v (j 14), .v (j 15), .v (j 16), .v (j 17), .v (j 18), .v (j 19), .v (j 20), .v (j 21), .v (j 22), .v (j 23), .v (j 24), .v (j 25), .v (j 26), .v (j 27), .v (j 28), .v (j 29), .v (j 30), .v (j 31), .v (j 32)] [] h

def f67_5 (w0 : World) (K : Value → AH → Prop) (x1 : Int) (a7 : Option Go.Addr) (n7 : Nat) (c7 : Nat) (x8 : Int) (h : AH) : Prop :=
  ∀ j : Nat → Value, LPk Go.Proofs.Try.prog w0 (EvC Go.Proofs.Try.prog w0) f67_J 67 K 5 [.v (j 0), .v (.int .u64 x1), .v (j 2), .v (j 3), .v (j 4), .v (j 5), .v (j 6), .v (.slice a7 n7 c7), .v (.int .i64 x8), .v (j 9), .v (j 10), .v (j 11), .v (j 12), .v (j 13), .v (j 14), .v (j 15), .v (j 16), .v (j 17), .v (j 18), .v (j 19), .v (j 20), .v (j 21), .v (j 22), .v (j 23), .v (j 24), .v (j 25), .v (j 26), .v (j 27), .v (j 28), .v (j 29), .v (j 30), .v (j 31), .v (j 32)] [] h

theorem f67_3_in {w0 : World} {K : Value → AH → Prop} (x1 : Int) (x2 : Int) (a7 : Option Go.Addr) (n7 : Nat) (c7 : Nat) (x16 : Bool) (h : AH)
  (hv : (brB x16 (K (Go.Value.slice a7 n7 c7) h) (f67_4 w0 K x1 x2 a7 n7 c7 h))) :
  f67_3 w0 K x1 x2 a7 n7 c7 x16 h := fun j => LP_intro (P := Go.Proofs.Try.prog) (Eq.mp (by kernel_rfl) hv)

theorem f67_4_in {w0 : World} {K : Value → AH → Prop} (x1 : Int) (x2 : Int) (a7 : Option Go.Addr) (n7 : Nat) (c7 : Nat) (h : AH)
  (hv : (f67_5 w0 K x1 a7 n7 c7 (Go.IntKind.wrap .i64 (x2 - (1 : Int))) h)) :
  f67_4 w0 K x1 x2 a7 n7 c7 h := fun j => LP_intro (P := Go.Proofs.Try.prog) (Eq.mp (by kernel_rfl) hv)

theorem f67_5_in {w0 : World} {K : Value → AH → Prop} (x1 : Int) (a7 : Option Go.Addr) (n7 : Nat) (c7 : Nat) (x8 : Int) (h : AH)
  (hv : (brB (decide (((0 : Int) ≤ x8))) (((0 : Int) ≤ (Go.IntKind.wrap .i64 ((8 : Int) * x8))) ∧ (App w0 h 1 1 a7 n7 c7 1 [(Go.Value.int .u8 (Go.IntKind.wrap .u8 (Int.fdiv x1 ((2 : Int) ^ (Min.min (Int.toNat (Go.IntKind.wrap .i64 ((8 : Int) * x8))) 64)))))] (fun a'4 c'5 h'6 => (f67_5 w0 K x1 a'4 (n7 + 1) c'5 (Go.IntKind.wrap .i64 (x8 - (1 : Int))) h'6)))) (K (Go.Value.slice a7 n7 c7) h))) :
  f67_5 w0 K x1 a7 n7 c7 x8 h := fun j => LP_intro (P := Go.Proofs.Try.prog) (Eq.mp (by kernel_rfl) hv)

theorem f67_go {w0 : World} {K : Value → AH → Prop} (a0 : Option Go.Addr) (n0 : Nat) (c0 : Nat) (x1 : Int) (x2 : Int) (h : AH)
  (hv : (rowsOf w0 h 1 a0 n0 (fun ys'0 => (App w0 h 1 1 none 0 0 n0 ys'0 (fun a'1 c'2 h'3 => (brB (decide ((x2 < (1 : Int)))) (f67_3 w0 K x1 x2 a'1 (0 + n0) c'2 true h'3) (f67_3 w0 K x1 x2 a'1 (0 + n0) c'2 (decide (((8 : Int) < x2))) h'3))))))) :
  EvC Go.Proofs.Try.prog w0 67 ([(.slice a0 n0 c0), (.int .u64 x1), (.int .i64 x2)]).toArray K h := EvC_intro (P := Go.Proofs.Try.prog) f67_J (Eq.mp (by kernel_rfl) hv)
def f76_J : Nat → List Nat × Nat := jOf []



theorem f76_go {w0 : World} {K : Value → AH → Prop} (x0 : Int) (x1 : Int) (h : AH)
  (hv : (((0 : Int) ≤ (Go.IntKind.wrap .u64 (((BitVec.toNat ((BitVec.ofInt 64 (Go.IntKind.wrap .u64 x1)) &&& (BitVec.ofInt 64 (31 : Int)))) : Nat) : Int))) ∧ (((0 : Int) ≤ (Go.IntKind.wrap .u64 ((32 : Int) - (Go.IntKind.wrap .u64 (((BitVec.toNat ((BitVec.ofInt 64 (Go.IntKind.wrap .u64 x1)) &&& (BitVec.ofInt 64 (31 : Int)))) : Nat) : Int))))) ∧ (K (Go.Value.int .u32 (Go.IntKind.wrap .u32 (((BitVec.toNat ((BitVec.ofInt 32 (Go.IntKind.wrap .u32 (x0 * ((2 : Int) ^ (Min.min (Int.toNat (Go.IntKind.wrap .u64 (((BitVec.toNat ((BitVec.ofInt 64 (Go.IntKind.wrap .u64 x1)) &&& (BitVec.ofInt 64 (31 : Int)))) : Nat) : Int))) 32))))) ||| (BitVec.ofInt 32 (Int.fdiv x0 ((2 : Int) ^ (Min.min (Int.toNat (Go.IntKind.wrap .u64 ((32 : Int) - (Go.IntKind.wrap .u64 (((BitVec.toNat ((BitVec.ofInt 64 (Go.IntKind.wrap .u64 x1)) &&& (BitVec.ofInt 64 (31 : Int)))) : Nat) : Int))))) 32)))))) : Nat) : Int))) h)))) :
  EvC Go.Proofs.Try.prog w0 76 ([(.int .u32 x0), (.int .i64 x1)]).toArray K h := EvC_intro (P := Go.Proofs.Try.prog) f76_J (Eq.mp (by kernel_rfl) hv)
def f84_J : Nat → List Nat × Nat := jOf [(7, [1, 2, 3, 4, 6, 7, 8, 9, 10, 11, 12, 13, 14, 15, 16, 17, 18, 19, 20, 21, 22, 23], 0), (10000, [1, 2, 3, 4, 6, 7, 8, 9, 10, 11, 12, 13, 14, 15, 16, 17, 18, 19, 20, 21, 22, 23], 0)]

def f84_7 (w0 : World) (K : Value → AH → Prop) (x0 : Int) (x5 : Int) (h : AH) : Prop :=
  ∀ j : Nat → Value, LPk Go.Proofs.Try.prog w0 (EvC Go.Proofs.Try.prog w0) f84_J 84 K 7 [.v (.int .u32 x0), .v (j 1), .v (j 2), .v (j 3), .v (j 4), .v (.int .i64 x5), .v (j 6), .v (j 7), .v (j 8), .v (j 9), .v (j 10), .v (j 11), .v (j 12), .v (j 13), .v (j 14), .v (j 15), .v (j 16), .v (j 17), .v (j 18), .v (j 19), .v (j 20), .v (j 21), .v (j 22), .v (j 23)] [] h

def f84_10000 (w0 : World) (K : Value → AH → Prop) (x0 : Int) (x5 : Int) (h : AH) : Prop :=
  ∀ j : Nat → Value, LPk Go.Proofs.Try.prog w0 (EvC Go.Proofs.Try.prog w0) f84_J 84 K 10000 [.v (.int .u32 x0), .v (j 1), .v (j 2), .v (j 3), .v (j 4), .v (.int .i64 x5), .v (j 6), .v (j 7), .v (j 8), .v (j 9), .v (j 10), .v (j 11), .v (j 12), .v (j 13), .v (j 14), .v (j 15), .v (j 16), .v (j 17), .v (j 18), .v (j 19), .v (j 20), .v (j 21), .v (j 22), .v (j 23)] [] h

theorem f84_7_in {w0 : World} {K : Value → AH → Prop} (x0 : Int) (x5 : Int) (h : AH)
  (hv : (brB (decide (((0 : Int) < (Go.IntKind.wrap .i64 (x5 - (1 : Int)))))) (f84_10000 w0 K x0 (Go.IntKind.wrap .i64 (x5 - (1 : Int))) h) (K (Go.Value.int .u32 x0) h))) :
  f84_7 w0 K x0 x5 h := fun j => LP_intro (P := Go.Proofs.Try.prog) (Eq.mp (by kernel_rfl) hv)

theorem f84_10000_in {w0 : World} {K : Value → AH → Prop} (x0 : Int) (x5 : Int) (h : AH)
  (hv : (((0 : Int) ≤ (1 : Int)) ∧ (brB ((Go.IntKind.wrap .u32 (((BitVec.toNat ((BitVec.ofInt 32 x0) &&& (BitVec.ofInt 32 (1 : Int)))) : Nat) : Int)) == (1 : Int)) (f84_7 w0 K (Go.IntKind.wrap .u32 (((BitVec.toNat ((BitVec.ofInt 32 (Int.fdiv x0 (2 : Int))) ^^^ (BitVec.ofInt 32 (2197175160 : Int)))) : Nat) : Int)) x5 h) (f84_7 w0 K (Int.fdiv x0 (2 : Int)) x5 h)))) :
  f84_10000 w0 K x0 x5 h := fun j => LP_intro (P := Go.Proofs.Try.prog) (Eq.mp (by kernel_rfl) hv)

theorem f84_go {w0 : World} {K : Value → AH → Prop} (x0 : Int) (x1 : Int) (h : AH)
  (hv : (((0 : Int) ≤ (1 : Int)) ∧ (brB ((Go.IntKind.wrap .u32 (((BitVec.toNat ((BitVec.ofInt 32 (Go.IntKind.wrap .u32 (((BitVec.toNat ((BitVec.ofInt 32 x0) ^^^ (BitVec.ofInt 32 (Go.IntKind.wrap .u32 x1)))) : Nat) : Int))) &&& (BitVec.ofInt 32 (1 : Int)))) : Nat) : Int)) == (1 : Int)) (f84_7 w0 K (Go.IntKind.wrap .u32 (((BitVec.toNat ((BitVec.ofInt 32 (Int.fdiv (Go.IntKind.wrap .u32 (((BitVec.toNat ((BitVec.ofInt 32 x0) ^^^ (BitVec.ofInt 32 (Go.IntKind.wrap .u32 x1)))) : Nat) : Int)) (2 : Int))) ^^^ (BitVec.ofInt 32 (2197175160 : Int)))) : Nat) : Int)) (8 : Int) h) (f84_7 w0 K (Int.fdiv (Go.IntKind.wrap .u32 (((BitVec.toNat ((BitVec.ofInt 32 x0) ^^^ (BitVec.ofInt 32 (Go.IntKind.wrap .u32 x1)))) : Nat) : Int)) (2 : Int)) (8 : Int) h)))) :
  EvC Go.Proofs.Try.prog w0 84 ([(.int .u32 x0), (.int .u8 x1)]).toArray K h := EvC_intro (P := Go.Proofs.Try.prog) f84_J (Eq.mp (by kernel_rfl) hv)
def f77_J : Nat → List Nat × Nat := jOf [(3, [1, 2, 3, 4, 5, 6, 7, 8, 12, 13, 14, 15, 16, 17, 18, 19, 20], 0)]

def f77_3 (w0 : World) (K : Value → AH → Prop) (x0 : Int) (a9 : Option Go.Addr) (n9 : Nat) (c9 : Nat) (x10 : Int) (x11 : Int) (h : AH) : Prop :=
  ∀ j : Nat → Value, LPk Go.Proofs.Try.prog w0 (EvC Go.Proofs.Try.prog w0) f77_J 77 K 3 [.v (.int .u32 x0), .v (j 1), .v (j 2), .v (j 3), .v (j 4), .v (j 5), .v (j 6), .v (j 7), .v (j 8), .v (.slice a9 n9 c9), .v (.int .i64 x10), .v (.int .i64 x11), .v (j 12), .v (j 13), .v (j 14), .v (j 15), .v (j 16), .v (j 17), .v (j 18), .v (j 19), .v (j 20)] [] h

theorem f77_3_in {w0 : World} {K : Value → AH → Prop} (x0 : Int) (a9 : Option Go.Addr) (n9 : Nat) (c9 : Nat) (x10 : Int) (x11 : Int) (h : AH)
  (hv : (brB (decide ((x11 < x10))) (∃ a'0 : Go.Addr, ((a9 = (some a'0)) ∧ (((0 : Int) ≤ x11) ∧ ((x11 < ((n9 : Nat) : Int)) ∧ (∃ i'1 : Int, (((Go.G.cellA w0 h (Go.Addr.add a'0 ((Int.toNat x11) * 1))) = (some (Go.Value.int .u8 i'1))) ∧ (EvC Go.Proofs.Try.prog w0 84 #[(Go.Value.int .u32 x0), (Go.Value.int .u8 i'1)] (fun x'2 h'3 => (∃ i'4 : Int, ((x'2 = (Go.Value.int .u32 i'4)) ∧ (f77_3 w0 K i'4 a9 n9 c9 x10 (Go.IntKind.wrap .i64 (x11 + (1 : Int))) h'3)))) h))))))) (K (Go.Value.int .u32 (Go.IntKind.wrap .u32 (((BitVec.toNat ((BitVec.ofInt 32 (4294967295 : Int)) ^^^ (BitVec.ofInt 32 x0))) : Nat) : Int))) h))) :
  f77_3 w0 K x0 a9 n9 c9 x10 x11 h := fun j => LP_intro (P := Go.Proofs.Try.prog) (Eq.mp (by kernel_rfl) hv)

theorem f77_go {w0 : World} {K : Value → AH → Prop} (x0 : Int) (a1 : Option Go.Addr) (n1 : Nat) (c1 : Nat) (h : AH)
  (hv : (f77_3 w0 K (Go.IntKind.wrap .u32 (((BitVec.toNat ((BitVec.ofInt 32 (4294967295 : Int)) ^^^ (BitVec.ofInt 32 x0))) : Nat) : Int)) a1 n1 c1 ((n1 : Nat) : Int) (0 : Int) h)) :
  EvC Go.Proofs.Try.prog w0 77 ([(.int .u32 x0), (.slice a1 n1 c1)]).toArray K h := EvC_intro (P := Go.Proofs.Try.prog) f77_J (Eq.mp (by kernel_rfl) hv)
def f60_J : Nat → List Nat × Nat := jOf []



theorem f60_go {w0 : World} {K : Value → AH → Prop} (a0 : Option Go.Addr) (n0 : Nat) (c0 : Nat) (h : AH)
  (hv : (EvC Go.Proofs.Try.prog w0 77 #[(Go.Value.int .u32 (0 : Int)), (Go.Value.slice a0 n0 c0)] (fun x'0 h'1 => (∃ i'2 : Int, ((x'0 = (Go.Value.int .u32 i'2)) ∧ (K (Go.Value.int .u32 i'2) h'1)))) h)) :
  EvC Go.Proofs.Try.prog w0 60 ([(.slice a0 n0 c0)]).toArray K h := EvC_intro (P := Go.Proofs.Try.prog) f60_J (Eq.mp (by kernel_rfl) hv)
def f59_J : Nat → List Nat × Nat := jOf []



theorem f59_go {w0 : World} {K : Value → AH → Prop} (x0 : Int) (h : AH)
  (hv : (EvC Go.Proofs.Try.prog w0 76 #[(Go.Value.int .u32 x0), (Go.Value.int .i64 (-15 : Int))] (fun x'0 h'1 => (∃ i'2 : Int, ((x'0 = (Go.Value.int .u32 i'2)) ∧ (K (Go.Value.int .u32 (Go.IntKind.wrap .u32 (i'2 + (2726488792 : Int)))) h'1)))) h)) :
  EvC Go.Proofs.Try.prog w0 59 ([(.int .u32 x0)]).toArray K h := EvC_intro (P := Go.Proofs.Try.prog) f59_J (Eq.mp (by kernel_rfl) hv)
def f35_J : Nat → List Nat × Nat := jOf []



theorem f35_go {w0 : World} {K : Value → AH → Prop} (a0 : Option Go.Addr) (n0 : Nat) (c0 : Nat) (a1 : Option Go.Addr) (n1 : Nat) (c1 : Nat) (h : AH)
  (hv : (brB (decide (((1048576 : Int) < ((n1 : Nat) : Int)))) (K (Go.Value.tuple #[(Go.Value.slice none 0 0), (Go.Value.int .i64 (2 : Int))]) h) (EvC Go.Proofs.Try.prog w0 66 #[(Go.Value.slice none 0 0), (Go.Value.slice a1 n1 c1)] (fun x'0 h'1 => (∃ p'2 : Option Go.Addr, (∃ n'3 : Nat, (∃ n'4 : Nat, ((x'0 = (Go.Value.slice p'2 n'3 n'4)) ∧ (EvC Go.Proofs.Try.prog w0 60 #[(Go.Value.slice p'2 n'3 n'4)] (fun x'5 h'6 => (∃ i'7 : Int, ((x'5 = (Go.Value.int .u32 i'7)) ∧ (EvC Go.Proofs.Try.prog w0 59 #[(Go.Value.int .u32 i'7)] (fun x'8 h'9 => (∃ i'10 : Int, ((x'8 = (Go.Value.int .u32 i'10)) ∧ (EvC Go.Proofs.Try.prog w0 67 #[(Go.Value.slice a0 n0 c0), (Go.Value.int .u64 (Go.IntKind.wrap .u64 i'10)), (Go.Value.int .i64 (4 : Int))] (fun x'11 h'12 => (∃ p'13 : Option Go.Addr, (∃ n'14 : Nat, (∃ n'15 : Nat, ((x'11 = (Go.Value.slice p'13 n'14 n'15)) ∧ (rowsOf w0 h'12 1 p'2 n'3 (fun ys'16 => (App w0 h'12 1 1 p'13 n'14 n'15 n'3 ys'16 (fun a'17 c'18 h'19 => (K (Go.Value.tuple #[(Go.Value.slice a'17 (n'14 + n'3) c'18), (Go.Value.int .i64 (0 : Int))]) h'19)))))))))) h'9)))) h'6)))) h'1)))))) h))) :
  EvC Go.Proofs.Try.prog w0 35 ([(.slice a0 n0 c0), (.slice a1 n1 c1)]).toArray K h := EvC_intro (P := Go.Proofs.Try.prog) f35_J (Eq.mp (by kernel_rfl) hv)
/-! ### numbers -/
theorem wrap8 (n : Nat) : IntKind.u8.wrap ((n : Nat) : Int) = ((n % 256 : Nat) : Int) := by
  simp [IntKind.wrap, IntKind.signed, IntKind.bits]
theorem wrap64u {n : Int} (h0 : 0 ≤ n) (h1 : n < 18446744073709551616) : IntKind.u64.wrap n = n := by
  simp [IntKind.wrap, IntKind.signed, IntKind.bits]; omega
theorem wrap32u {n : Int} (h0 : 0 ≤ n) (h1 : n < 4294967296) : IntKind.u32.wrap n = n := by
  simp [IntKind.wrap, IntKind.signed, IntKind.bits]; omega
theorem wrap32_rg (n : Int) : 0 ≤ IntKind.u32.wrap n ∧ IntKind.u32.wrap n < 4294967296 := by
  simp [IntKind.wrap, IntKind.signed, IntKind.bits]; omega
theorem ofInt_nat (w n : Nat) : BitVec.ofInt w ((n : Nat) : Int) = BitVec.ofNat w n := BitVec.ofInt_natCast w n
/-- A byte with its highest bit set. -/
theorem or128 (n : Nat) : IntKind.u8.wrap (((BitVec.toNat ((BitVec.ofInt 8 (IntKind.u8.wrap ((n : Nat) : Int))) ||| (BitVec.ofInt 8 (128 : Int)))) : Nat) : Int) = ((n % 128 + 128 : Nat) : Int) := by
  rw [wrap8, wrap8, ofInt_nat, BitVec.toNat_or, BitVec.toNat_ofNat]
  have e1 : (BitVec.ofInt 8 (128 : Int)).toNat = 128 := by decide
  rw [e1]
  have e2 : ∀ m, m < 256 → (m % 256 % 2 ^ 8 ||| 128) % 256 = m % 128 + 128 := by decide
  have := e2 (n % 256) (Nat.mod_lt _ (by decide))
  have e3 : n % 256 % 256 = n % 256 := Nat.mod_mod _ _
  rw [e3] at this
  rw [this]
  congr 1
  omega
theorem fdiv128 (n : Nat) : Int.fdiv ((n : Nat) : Int) (128 : Int) = ((n / 128 : Nat) : Int) := by
  rw [Int.fdiv_eq_ediv_of_nonneg _ (by decide)]; omega
/-- A number of bytes, seven bits a byte. -/
def putV (n : Nat) : List UInt8 := if h : n < 128 then [UInt8.ofNat n] else UInt8.ofNat (n % 128 + 128) :: putV (n / 128)
termination_by n
decreasing_by omega
theorem putV_small {n : Nat} (h : n < 128) : putV n = [UInt8.ofNat n] := by rw [putV, dif_pos h]
theorem putV_step {n : Nat} (h : ¬ n < 128) : putV n = UInt8.ofNat (n % 128 + 128) :: putV (n / 128) := by rw [putV, dif_neg h]
theorem putV_len : ∀ (k n : Nat), n < 128 ^ (k + 1) → 1 ≤ (putV n).length ∧ (putV n).length ≤ k + 1
  | 0, n, h => by rw [putV_small (by simpa using h)]; simp
  | k + 1, n, h => by
    by_cases q : n < 128
    · rw [putV_small q]; simp
    · have := putV_len k (n / 128) (by rw [Nat.pow_succ] at h; omega)
      rw [putV_step q, List.length_cons]; omega
theorem putV_len10 {n : Nat} (h : n < 18446744073709551616) : 1 ≤ (putV n).length ∧ (putV n).length ≤ 10 := putV_len 9 n (by omega)
/-- The lowest bytes of a number, the highest first. -/
def fixedV (n : Nat) : Nat → List UInt8
  | 0 => []
  | k + 1 => UInt8.ofNat (n / 256 ^ k % 256) :: fixedV n k
theorem fixedV_len (n : Nat) : ∀ k, (fixedV n k).length = k
  | 0 => rfl
  | k + 1 => by simp [fixedV, fixedV_len n k]
theorem byte_cell {m : Nat} (h : m < 256) : [Value.int .u8 ((m : Nat) : Int)] = u8s [UInt8.ofNat m] := by
  simp [u8s, UInt8.toNat_ofNat', Nat.mod_eq_of_lt h]
theorem u8s_app (a b : List UInt8) : u8s (a ++ b) = u8s a ++ u8s b := by simp [u8s]
/-- A byte is put behind a new row. -/
theorem App_byte {w0 : World} {h : AH} {B : List (Nat × AB)} {a : Option Addr} {c m : Nat} {l : List UInt8} {K : Option Addr → Nat → AH → Prop} (v : SlV 1 a l.length c (u8s l)) (w : Own w0 h (slB a (u8s l) (c * 1) ++ B)) (hl : l.length ≤ 100000000000000) (hm : m < 256)
    (hk : ∀ a' c' h', SlV 1 a' (l ++ [UInt8.ofNat m]).length c' (u8s (l ++ [UInt8.ofNat m])) → Own w0 h' (slB a' (u8s (l ++ [UInt8.ofNat m])) (c' * 1) ++ B) → K a' c' h') : App w0 h 1 1 a l.length c 1 [.int .u8 ((m : Nat) : Int)] K := by
  refine App_slB v w (by omega) (by omega) rfl (fun y hy => by rw [List.mem_singleton] at hy; subst hy; rfl) fun a' c' h' v' w' => ?_
  rw [byte_cell hm, ← u8s_app] at v' w'
  exact hk a' c' h' (by rw [List.length_append]; exact v') w'
/-- Bytes are put behind a new row. -/
theorem App_bytes {w0 : World} {h : AH} {B : List (Nat × AB)} {a : Option Addr} {c : Nat} {l x : List UInt8} {K : Option Addr → Nat → AH → Prop} (v : SlV 1 a l.length c (u8s l)) (w : Own w0 h (slB a (u8s l) (c * 1) ++ B)) (hl : l.length + x.length ≤ 100000000000000)
    (hk : ∀ a' c' h', SlV 1 a' (l ++ x).length c' (u8s (l ++ x)) → Own w0 h' (slB a' (u8s (l ++ x)) (c' * 1) ++ B) → K a' c' h') : App w0 h 1 1 a l.length c x.length (u8s x) K := by
  refine App_slB v w (by omega) (by omega) (by rw [u8s_length, Nat.mul_one]) (u8s_cell _) fun a' c' h' v' w' => ?_
  rw [← u8s_app] at v' w'
  exact hk a' c' h' (by rw [List.length_append]; exact v') w'
theorem App_copy {w0 : World} {h : AH} {B : List (Nat × AB)} {x : List UInt8} {K : Option Addr → Nat → AH → Prop} (w : Own w0 h B) (hl : x.length ≤ 100000000000000)
    (hk : ∀ a' c' h', SlV 1 a' x.length c' (u8s x) → Own w0 h' (slB a' (u8s x) (c' * 1) ++ B) → K a' c' h') : App w0 h 1 1 none 0 0 x.length (u8s x) K :=
  App_new w (by omega) (by omega) (by rw [u8s_length, Nat.mul_one]) (u8s_cell _) hk

/-! ### vint: Put, PutBytes, Fixed -/
theorem putV_more {w0 : World} {K : Value → AH → Prop} {B : List (Nat × AB)} : ∀ (k n : Nat), n < 128 ^ (k + 1) → ∀ (a : Option Addr) (c : Nat) (h : AH) (l : List UInt8), SlV 1 a l.length c (u8s l) → Own w0 h (slB a (u8s l) (c * 1) ++ B) → l.length + k ≤ 1000000000000 →
    (∀ h' a' c', SlV 1 a' (l ++ putV n).length c' (u8s (l ++ putV n)) → Own w0 h' (slB a' (u8s (l ++ putV n)) (c' * 1) ++ B) → K (.slice a' (l ++ putV n).length c') h') →
    (brB (decide (((128 : Int) ≤ ((n : Nat) : Int)))) (App w0 h 1 1 a l.length c 1 [(.int .u8 (IntKind.u8.wrap (((BitVec.toNat ((BitVec.ofInt 8 (IntKind.u8.wrap ((n : Nat) : Int))) ||| (BitVec.ofInt 8 (128 : Int)))) : Nat) : Int)))]
        (fun a'10 c'11 h'12 => (((0 : Int) ≤ (7 : Int)) ∧ (f65_10000 w0 K (Int.fdiv ((n : Nat) : Int) (128 : Int)) a'10 (l.length + 1) c'11 h'12))))
      (App w0 h 1 1 a l.length c 1 [(.int .u8 (IntKind.u8.wrap ((n : Nat) : Int)))] (fun a'13 c'14 h'15 => (K (.slice a'13 (l.length + 1) c'14) h'15))))
  | k, n, hn, a, c, h, l, v, w, hl, hk => by
    refine brB_of (fun q => ?_) fun q => ?_
    · have q' : ¬ n < 128 := by have := of_decide_eq_true q; omega
      rw [or128]
      refine App_byte v w (by omega) (by omega) fun a' c' h' v' w' => ⟨by decide, ?_⟩
      rw [fdiv128]
      match k, hn with
      | 0, hn => simp at hn; omega
      | k + 1, hn =>
        rw [show l.length + 1 = (l ++ [UInt8.ofNat (n % 128 + 128)]).length by simp]
        refine f65_10000_in _ _ _ _ _ (putV_more k (n / 128) (by rw [Nat.pow_succ] at hn; omega) a' c' h' _ v' w' (by simp; omega) fun h2 a2 c2 v2 w2 => ?_)
        have e : l ++ [UInt8.ofNat (n % 128 + 128)] ++ putV (n / 128) = l ++ putV n := by rw [putV_step q']; simp
        rw [e] at v2 w2 ⊢
        exact hk h2 a2 c2 v2 w2
    · have q' : n < 128 := by have := of_decide_eq_false q; omega
      rw [wrap8, Nat.mod_eq_of_lt (by omega)]
      refine App_byte v w (by omega) (by omega) fun a' c' h' v' w' => ?_
      have e : l ++ [UInt8.ofNat n] = l ++ putV n := by rw [putV_small q']
      rw [e] at v' w'
      have := hk h' a' c' v' w'
      rw [show (l ++ putV n).length = l.length + 1 by rw [putV_small q']; simp] at this
      exact this
/-- vint.Put. -/
theorem f65_spec {w0 : World} {K : Value → AH → Prop} {h : AH} {B : List (Nat × AB)} {a : Option Addr} {c n : Nat} {l : List UInt8} (w : Own w0 h B) (hr : Rd w0 h a (u8s l)) (hl : l.length ≤ 100000000000) (hn : n < 18446744073709551616)
    (hk : ∀ h' a' c', SlV 1 a' (l ++ putV n).length c' (u8s (l ++ putV n)) → Own w0 h' (slB a' (u8s (l ++ putV n)) (c' * 1) ++ B) → K (.slice a' (l ++ putV n).length c') h') :
    EvC Go.Proofs.Try.prog w0 65 #[.slice a l.length c, .int .u64 ((n : Nat) : Int)] K h := by
  refine f65_go _ _ _ _ _ (rowsOf_of hr (by rw [u8s_length, Nat.mul_one]) (App_copy w (by omega) fun a' c' h' v' w' => ?_))
  rw [Nat.zero_add]
  exact putV_more 9 n (by omega) a' c' h' l v' w' (by omega) hk
/-- vint.PutBytes. -/
theorem f66_spec {w0 : World} {K : Value → AH → Prop} {h : AH} {B : List (Nat × AB)} {a b : Option Addr} {c d : Nat} {l x : List UInt8} (w : Own w0 h B) (hr : Rd w0 h a (u8s l)) (hx : ∀ h', Own w0 h' B → Rd w0 h' b (u8s x)) (hl : l.length ≤ 10000000000) (hxl : x.length ≤ 10000000000)
    (hk : ∀ h' a' c', SlV 1 a' (l ++ (putV x.length ++ x)).length c' (u8s (l ++ (putV x.length ++ x))) → Own w0 h' (slB a' (u8s (l ++ (putV x.length ++ x))) (c' * 1) ++ B) → K (.slice a' (l ++ (putV x.length ++ x)).length c') h') :
    EvC Go.Proofs.Try.prog w0 66 #[.slice a l.length c, .slice b x.length d] K h := by
  refine f66_go _ _ _ _ _ _ _ ?_
  rw [wrap64u (by omega) (by omega)]
  have hp := putV_len10 (n := x.length) (by omega)
  refine f65_spec w hr (by omega) (by omega) fun h1 a1 c1 v1 w1 => ⟨_, _, _, rfl, rowsOf_of (hx h1 w1.drop) (by rw [u8s_length, Nat.mul_one]) (App_bytes v1 w1 (by rw [List.length_append]; omega) fun a2 c2 h2 v2 w2 => ?_)⟩
  rw [List.append_assoc] at v2 w2
  have := hk h2 a2 c2 v2 w2
  rw [← List.append_assoc, List.length_append] at this
  exact this
theorem fixed_byte {n k : Nat} (hk : k ≤ 7) : IntKind.u8.wrap (Int.fdiv ((n : Nat) : Int) ((2 : Int) ^ (Min.min (Int.toNat (IntKind.i64.wrap ((8 : Int) * ((k : Nat) : Int)))) 64))) = ((n / 256 ^ k % 256 : Nat) : Int) := by
  rw [wrap64 (by omega) (by omega), show Int.toNat ((8 : Int) * ((k : Nat) : Int)) = 8 * k by omega, Nat.min_eq_left (by omega)]
  have e : ((2 : Int) ^ (8 * k)) = ((256 ^ k : Nat) : Int) := by rw [Int.pow_mul]; norm_cast
  rw [e, Int.fdiv_eq_ediv_of_nonneg _ (Int.natCast_nonneg _), ← Int.natCast_ediv, wrap8]
theorem f67_loop {w0 : World} {K : Value → AH → Prop} {B : List (Nat × AB)} {n : Nat} : ∀ (k : Nat), k ≤ 8 → ∀ (a : Option Addr) (c : Nat) (h : AH) (l : List UInt8), SlV 1 a l.length c (u8s l) → Own w0 h (slB a (u8s l) (c * 1) ++ B) → l.length + k ≤ 100000000000 →
    (∀ h' a' c', SlV 1 a' (l ++ fixedV n k).length c' (u8s (l ++ fixedV n k)) → Own w0 h' (slB a' (u8s (l ++ fixedV n k)) (c' * 1) ++ B) → K (.slice a' (l ++ fixedV n k).length c') h') →
    f67_5 w0 K ((n : Nat) : Int) a l.length c (((k : Nat) : Int) - 1) h
  | 0, _, a, c, h, l, v, w, _, hk => by
    refine f67_5_in _ _ _ _ _ _ (brB_of (fun q => by have := of_decide_eq_true q; omega) fun _ => ?_)
    have := hk h a c (by simpa [fixedV] using v) (by simpa [fixedV] using w)
    simpa [fixedV] using this
  | k + 1, hk8, a, c, h, l, v, w, hl, hk => by
    have e1 : (((k + 1 : Nat) : Int) - 1) = ((k : Nat) : Int) := by omega
    rw [e1]
    refine f67_5_in _ _ _ _ _ _ (brB_of (fun _ => ⟨by rw [show IntKind.i64.wrap ((8 : Int) * ((k : Nat) : Int)) = ((8 * k : Nat) : Int) by rw [wrap64 (by omega) (by omega)]; omega]; exact Int.natCast_nonneg _, ?_⟩) fun q => by have := of_decide_eq_false q; omega)
    rw [fixed_byte (by omega)]
    refine App_byte v w (by omega) (by omega) fun a' c' h' v' w' => ?_
    rw [wrap64 (by omega) (by omega), show l.length + 1 = (l ++ [UInt8.ofNat (n / 256 ^ k % 256)]).length by simp]
    refine f67_loop k (by omega) a' c' h' _ v' w' (by simp; omega) fun h2 a2 c2 v2 w2 => ?_
    have e : l ++ [UInt8.ofNat (n / 256 ^ k % 256)] ++ fixedV n k = l ++ fixedV n (k + 1) := by simp [fixedV]
    rw [e] at v2 w2 ⊢
    exact hk h2 a2 c2 v2 w2
/-- vint.Fixed. -/
theorem f67_spec {w0 : World} {K : Value → AH → Prop} {h : AH} {B : List (Nat × AB)} {a : Option Addr} {c n k : Nat} {l : List UInt8} (w : Own w0 h B) (hr : Rd w0 h a (u8s l)) (hl : l.length ≤ 10000000000) (h1 : 1 ≤ k) (h8 : k ≤ 8)
    (hk : ∀ h' a' c', SlV 1 a' (l ++ fixedV n k).length c' (u8s (l ++ fixedV n k)) → Own w0 h' (slB a' (u8s (l ++ fixedV n k)) (c' * 1) ++ B) → K (.slice a' (l ++ fixedV n k).length c') h') :
    EvC Go.Proofs.Try.prog w0 67 #[.slice a l.length c, .int .u64 ((n : Nat) : Int), .int .i64 ((k : Nat) : Int)] K h := by
  refine f67_go _ _ _ _ _ _ (rowsOf_of hr (by rw [u8s_length, Nat.mul_one]) (App_copy w (by omega) fun a' c' h' v' w' => ?_))
  rw [Nat.zero_add]
  refine brB_of (fun q => by have := of_decide_eq_true q; omega) fun _ => ?_
  rw [decide_eq_false (by omega)]
  refine f67_3_in _ _ _ _ _ _ _ (brB_of (fun z => by cases z) fun _ => f67_4_in _ _ _ _ _ _ ?_)
  rw [wrap64 (by omega) (by omega)]
  exact f67_loop k h8 a' c' h' l v' w' (by omega) hk
/-! ### crc -/
def notZ (x : Int) : Int := IntKind.u32.wrap (((BitVec.toNat ((BitVec.ofInt 32 (4294967295 : Int)) ^^^ (BitVec.ofInt 32 x))) : Nat) : Int)
def lowZ (x : Int) : Bool := (IntKind.u32.wrap (((BitVec.toNat ((BitVec.ofInt 32 x) &&& (BitVec.ofInt 32 (1 : Int)))) : Nat) : Int)) == (1 : Int)
def halfZ (x : Int) : Int := if lowZ x then IntKind.u32.wrap (((BitVec.toNat ((BitVec.ofInt 32 (Int.fdiv x (2 : Int))) ^^^ (BitVec.ofInt 32 (2197175160 : Int)))) : Nat) : Int) else Int.fdiv x (2 : Int)
def halvesZ : Nat → Int → Int
  | 0, x => x
  | k + 1, x => halvesZ k (halfZ x)
def stepZ (x b : Int) : Int := halvesZ 8 (IntKind.u32.wrap (((BitVec.toNat ((BitVec.ofInt 32 x) ^^^ (BitVec.ofInt 32 (IntKind.u32.wrap b)))) : Nat) : Int))
def moreZ (s : Int) (l : List UInt8) : Int := notZ (l.foldl (fun s b => stepZ s (b.toNat : Int)) (notZ s))
theorem f84_more {w0 : World} {K : Value → AH → Prop} {h : AH} : ∀ (k : Nat) (x : Int), k ≤ 100 → K (.int .u32 (halvesZ k x)) h → f84_7 w0 K x (((k + 1 : Nat) : Int)) h
  | 0, x, _, hk => by
    refine f84_7_in _ _ _ ?_
    rw [wrap64 (by omega) (by omega)]
    exact brB_of (fun q => by have := of_decide_eq_true q; omega) fun _ => hk
  | k + 1, x, hk1, hk => by
    refine f84_7_in _ _ _ ?_
    rw [wrap64 (by omega) (by omega), show ((k + 1 + 1 : Nat) : Int) - 1 = ((k + 1 : Nat) : Int) by omega]
    refine brB_of (fun _ => f84_10000_in _ _ _ ⟨by decide, brB_of (fun q => ?_) fun q => ?_⟩) fun q => by have := of_decide_eq_false q; omega
    · refine f84_more k _ (by omega) ?_
      unfold halvesZ halfZ at hk
      rw [if_pos (show lowZ x = true from q)] at hk
      exact hk
    · refine f84_more k _ (by omega) ?_
      unfold halvesZ halfZ at hk
      rw [if_neg (by rw [show lowZ x = false from q]; simp)] at hk
      exact hk
theorem f84_spec {w0 : World} {K : Value → AH → Prop} {h : AH} {x b : Int} (hk : K (.int .u32 (stepZ x b)) h) : EvC Go.Proofs.Try.prog w0 84 #[.int .u32 x, .int .u8 b] K h := by
  unfold stepZ at hk
  generalize hy : IntKind.u32.wrap (((BitVec.toNat ((BitVec.ofInt 32 x) ^^^ (BitVec.ofInt 32 (IntKind.u32.wrap b)))) : Nat) : Int) = y at hk
  refine f84_go _ _ _ ⟨by decide, ?_⟩
  rw [hy]
  refine brB_of (fun q => ?_) fun q => ?_
  · refine f84_more 7 _ (by omega) ?_
    unfold halvesZ halfZ at hk
    rw [if_pos (show lowZ y = true from q)] at hk
    exact hk
  · refine f84_more 7 _ (by omega) ?_
    unfold halvesZ halfZ at hk
    rw [if_neg (by rw [show lowZ y = false from q]; simp)] at hk
    exact hk
theorem u8s_get {l : List UInt8} {i : Nat} {b : UInt8} (h : l[i]? = some b) : (u8s l)[i]? = some (.int .u8 (b.toNat : Int)) := by simp [u8s, h]
/-- crc.More. -/
theorem f77_spec {w0 : World} {K : Value → AH → Prop} {h : AH} {a : Option Addr} {c : Nat} {l : List UInt8} {s : Int} (hr : Rd w0 h a (u8s l)) (hl : l.length ≤ 100000000000) (hk : K (.int .u32 (moreZ s l)) h) : EvC Go.Proofs.Try.prog w0 77 #[.int .u32 s, .slice a l.length c] K h := by
  have loop : ∀ (rest : List UInt8) (i : Nat) (x : Int), l.drop i = rest → i ≤ l.length → K (.int .u32 (notZ (rest.foldl (fun s b => stepZ s (b.toNat : Int)) x))) h → f77_3 w0 K x a l.length c ((l.length : Nat) : Int) ((i : Nat) : Int) h := by
    intro rest
    induction rest with
    | nil =>
      intro i x hd hi hk
      have := drop_done hd
      exact f77_3_in _ _ _ _ _ _ _ (brB_of (fun q => by simp at q; omega) fun _ => hk)
    | cons b r ih =>
      intro i x hd hi hk
      obtain ⟨hget, hd', hlt⟩ := drop_step hd
      obtain ⟨ad, had, hc⟩ := hr i _ (u8s_get hget)
      refine f77_3_in _ _ _ _ _ _ _ (brB_of (fun _ => ⟨ad, had, by omega, by omega, _, by rw [Int.toNat_natCast, Nat.mul_one]; exact hc, f84_spec ⟨_, rfl, ?_⟩⟩) fun q => by simp at q; omega)
      rw [wrapS (by omega)]
      exact ih (i + 1) _ hd' (by omega) hk
  exact f77_go _ _ _ _ _ (loop l 0 _ rfl (Nat.zero_le _) hk)
/-- crc.Sum. -/
theorem f60_spec {w0 : World} {K : Value → AH → Prop} {h : AH} {a : Option Addr} {c : Nat} {l : List UInt8} (hr : Rd w0 h a (u8s l)) (hl : l.length ≤ 100000000000) (hk : K (.int .u32 (moreZ 0 l)) h) : EvC Go.Proofs.Try.prog w0 60 #[.slice a l.length c] K h :=
  f60_go _ _ _ _ (f77_spec hr hl ⟨_, rfl, hk⟩)
def rotZ (x0 : Int) : Int := IntKind.u32.wrap (((BitVec.toNat ((BitVec.ofInt 32 (IntKind.u32.wrap (x0 * (2 : Int) ^ (Min.min (Int.toNat (IntKind.u64.wrap (((BitVec.toNat ((BitVec.ofInt 64 (IntKind.u64.wrap (-15))) &&& (BitVec.ofInt 64 (31 : Int)))) : Nat) : Int))) 32)))) |||
  (BitVec.ofInt 32 (Int.fdiv x0 ((2 : Int) ^ (Min.min (Int.toNat (IntKind.u64.wrap ((32 : Int) - (IntKind.u64.wrap (((BitVec.toNat ((BitVec.ofInt 64 (IntKind.u64.wrap (-15))) &&& (BitVec.ofInt 64 (31 : Int)))) : Nat) : Int))))) 32)))))) : Nat) : Int)
def maskZ (x : Int) : Int := IntKind.u32.wrap (rotZ x + (2726488792 : Int))
theorem f59_spec {w0 : World} {K : Value → AH → Prop} {h : AH} {x : Int} (hk : K (.int .u32 (maskZ x)) h) : EvC Go.Proofs.Try.prog w0 59 #[.int .u32 x] K h :=
  f59_go _ _ (f76_go _ _ _ ⟨by decide, by decide, _, rfl, hk⟩)
/-- A record's frame. -/
def restB (r : List UInt8) : List UInt8 := putV r.length ++ r
def sumB (r : List UInt8) : Nat := (maskZ (moreZ 0 (restB r))).toNat
def frameB (r : List UInt8) : List UInt8 := fixedV (sumB r) 4 ++ restB r
theorem sumB_rg (r : List UInt8) : ((sumB r : Nat) : Int) = maskZ (moreZ 0 (restB r)) ∧ sumB r < 4294967296 := by
  have := wrap32_rg (rotZ (moreZ 0 (restB r)) + 2726488792)
  unfold sumB
  have e : maskZ (moreZ 0 (restB r)) = IntKind.u32.wrap (rotZ (moreZ 0 (restB r)) + 2726488792) := rfl
  rw [e]
  omega
/-- frame.Put, behind nothing. -/
theorem f35_spec {w0 : World} {K : Value → AH → Prop} {h : AH} {B : List (Nat × AB)} {b : Option Addr} {d : Nat} {r : List UInt8} (w : Own w0 h B) (hx : ∀ h', Own w0 h' B → Rd w0 h' b (u8s r)) (hl : r.length ≤ 1048576)
    (hk : ∀ h' a' c', SlV 1 a' (frameB r).length c' (u8s (frameB r)) → Own w0 h' (slB a' (u8s (frameB r)) (c' * 1) ++ B) → K (.tuple #[.slice a' (frameB r).length c', .int .i64 0]) h') :
    EvC Go.Proofs.Try.prog w0 35 #[.slice none 0 0, .slice b r.length d] K h := by
  have hp := putV_len10 (n := r.length) (by omega)
  have hrl : (restB r).length ≤ 1048600 := by unfold restB; rw [List.length_append]; omega
  refine f35_go _ _ _ _ _ _ _ (brB_of (fun q => by have := of_decide_eq_true q; omega) fun _ => ?_)
  refine f66_spec (l := []) w (fun j x hj => by simp [u8s] at hj) hx (by simp) (by omega) fun h1 a1 c1 v1 w1 => ⟨_, _, _, rfl, ?_⟩
  rw [List.nil_append] at v1 w1 ⊢
  have rd1 : Rd w0 h1 a1 (u8s (restB r)) := v1.rd (cs := []) w1
  refine f60_spec (l := restB r) rd1 (by omega) ⟨_, rfl, f59_spec ⟨_, rfl, ?_⟩⟩
  obtain ⟨e, hlt⟩ := sumB_rg r
  rw [← e, wrap64u (by omega) (by omega)]
  refine f67_spec (l := []) (k := 4) w1 (fun j x hj => by simp [u8s] at hj) (by simp) (by decide) (by decide) fun h2 a2 c2 v2 w2 => ⟨_, _, _, rfl, ?_⟩
  rw [List.nil_append] at v2 w2 ⊢
  have rd2 : Rd w0 h2 a1 (u8s (restB r)) := v1.rd (cs := slB a2 (u8s (fixedV (sumB r) 4)) (c2 * 1)) w2
  refine rowsOf_of rd2 (by rw [u8s_length, Nat.mul_one]; rfl) (App_bytes (x := restB r) v2 w2 (by rw [fixedV_len]; omega) fun a3 c3 h3 v3 w3 => ?_)
  have w3' : Own w0 h3 (slB a3 (u8s (frameB r)) (c3 * 1) ++ B) := w3.cut
  have := hk h3 a3 c3 v3 w3'
  rw [show (frameB r).length = (fixedV (sumB r) 4).length + (restB r).length by simp [frameB]] at this
  exact this
end Go.G.Ytlghmjehibikeaa
