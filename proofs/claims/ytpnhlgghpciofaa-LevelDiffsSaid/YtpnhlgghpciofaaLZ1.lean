/- level.Diff. -/
import Derived.Test.YtpnhlgghpciofaaLU
import Derived.Test.YtpnhlgghpciofaaLZ0
import Derived.Test.YtpnhlgghpciofaaProg
set_option maxRecDepth 100000
namespace Go.G.Ytpnhlgghpciofaa
open Go.RowKit
def f83_J : Nat → List Nat × Nat := jOf []



theorem f83_go {w0 : World} {K : Value → AH → Prop} (a0 : Option Go.Addr) (n0 : Nat) (c0 : Nat) (a1 : Option Go.Addr) (n1 : Nat) (c1 : Nat) (h : AH)
  (hv : (rowsOf w0 h 1 a0 n0 (fun ys'0 => (∃ s'1 : ByteArray, ((ys'0 = (Go.G.intsOf s'1)) ∧ (rowsOf w0 h 1 a1 n1 (fun ys'2 => (∃ s'3 : ByteArray, ((ys'2 = (Go.G.intsOf s'3)) ∧ (K (Go.Value.bool (decide ((s'1 = s'3)))) h)))))))))) :
  EvC Go.Proofs.Try.prog w0 83 ([(.slice a0 n0 c0), (.slice a1 n1 c1)]).toArray K h := EvC_intro (P := Go.Proofs.Try.prog) f83_J (Eq.mp (by kernel_rfl) hv)
def f75_J : Nat → List Nat × Nat := jOf []



theorem f75_go {w0 : World} {K : Value → AH → Prop} (x0_0 : Int) (x0_1 : Int) (x0_2 : Int) (a0_3 : Option Go.Addr) (n0_3 : Nat) (c0_3 : Nat) (a0_4 : Option Go.Addr) (n0_4 : Nat) (c0_4 : Nat) (x1_0 : Int) (x1_1 : Int) (x1_2 : Int) (a1_3 : Option Go.Addr) (n1_3 : Nat) (c1_3 : Nat) (a1_4 : Option Go.Addr) (n1_4 : Nat) (c1_4 : Nat) (h : AH)
  (hv : (brB (x0_0 == x1_0) (brB (x0_1 == x1_1) (brB (x0_2 == x1_2) (EvC Go.Proofs.Try.prog w0 83 #[(Go.Value.slice a0_3 n0_3 c0_3), (Go.Value.slice a1_3 n1_3 c1_3)] (fun x'0 h'1 => (∃ t'2 : Bool, ((x'0 = (Go.Value.bool t'2)) ∧ (brB t'2 (EvC Go.Proofs.Try.prog w0 83 #[(Go.Value.slice a0_4 n0_4 c0_4), (Go.Value.slice a1_4 n1_4 c1_4)] (fun x'3 h'4 => (∃ t'5 : Bool, ((x'3 = (Go.Value.bool t'5)) ∧ (K (Go.Value.bool t'5) h'4)))) h'1) (K (Go.Value.bool false) h'1))))) h) (K (Go.Value.bool false) h)) (K (Go.Value.bool false) h)) (K (Go.Value.bool false) h))) :
  EvC Go.Proofs.Try.prog w0 75 ([(.agg #[(.int .i64 x0_0), (.int .i64 x0_1), (.int .i64 x0_2), (.slice a0_3 n0_3 c0_3), (.slice a0_4 n0_4 c0_4)]), (.agg #[(.int .i64 x1_0), (.int .i64 x1_1), (.int .i64 x1_2), (.slice a1_3 n1_3 c1_3), (.slice a1_4 n1_4 c1_4)])]).toArray K h := EvC_intro (P := Go.Proofs.Try.prog) f75_J (Eq.mp (by kernel_rfl) hv)
def f74_J : Nat → List Nat × Nat := jOf []



theorem f74_go {w0 : World} {K : Value → AH → Prop} (x0_0 : Int) (x0_1 : Int) (x0_2 : Int) (a0_3 : Option Go.Addr) (n0_3 : Nat) (c0_3 : Nat) (a0_4 : Option Go.Addr) (n0_4 : Nat) (c0_4 : Nat) (xf0 : Go.Addr) (h : AH)
  (hv : (∃ i'0 : Int, (∃ i'1 : Int, (∃ i'2 : Int, (∃ p'3 : Option Go.Addr, (∃ n'4 : Nat, (∃ n'5 : Nat, (∃ p'6 : Option Go.Addr, (∃ n'7 : Nat, (∃ n'8 : Nat, ((((Array.size #[(Go.Value.int .i64 i'0), (Go.Value.int .i64 i'1), (Go.Value.int .i64 i'2), (Go.Value.slice p'3 n'4 n'5), (Go.Value.slice p'6 n'7 n'8)]) = 5) ∧ (At w0 h xf0 [(Go.Value.int .i64 i'0), (Go.Value.int .i64 i'1), (Go.Value.int .i64 i'2), (Go.Value.slice p'3 n'4 n'5), (Go.Value.slice p'6 n'7 n'8)])) ∧ (EvC Go.Proofs.Try.prog w0 75 #[(Go.Value.agg #[(Go.Value.int .i64 i'0), (Go.Value.int .i64 i'1), (Go.Value.int .i64 i'2), (Go.Value.slice p'3 n'4 n'5), (Go.Value.slice p'6 n'7 n'8)]), (Go.Value.agg #[(Go.Value.int .i64 x0_0), (Go.Value.int .i64 x0_1), (Go.Value.int .i64 x0_2), (Go.Value.slice a0_3 n0_3 c0_3), (Go.Value.slice a0_4 n0_4 c0_4)])] (fun x'9 h'10 => (∃ t'11 : Bool, ((x'9 = (Go.Value.bool t'11)) ∧ (K (Go.Value.bool t'11) h'10)))) h)))))))))))) :
  EvC Go.Proofs.Try.prog w0 74 ([(.agg #[(.int .i64 x0_0), (.int .i64 x0_1), (.int .i64 x0_2), (.slice a0_3 n0_3 c0_3), (.slice a0_4 n0_4 c0_4)]), (.pointer (some xf0))]).toArray K h := EvC_intro (P := Go.Proofs.Try.prog) f74_J (Eq.mp (by kernel_rfl) hv)
def f82_J : Nat → List Nat × Nat := jOf [(2, [2, 3, 4, 5, 6, 9, 10, 11, 12, 13, 14, 15, 16, 17, 18], 0)]

def f82_2 (w0 : World) (K : Value → AH → Prop) (a0 : Option Go.Addr) (n0 : Nat) (c0 : Nat) (x1c0 : Go.Addr) (x7 : Int) (x8 : Int) (h : AH) : Prop :=
  ∀ j : Nat → Value, LPk Go.Proofs.Try.prog w0 (EvC Go.Proofs.Try.prog w0) f82_J 82 K 2 [.v (.slice a0 n0 c0), .v (.func (Go.Fn.func 74) #[] #[(.pointer (some x1c0))]), .v (j 2), .v (j 3), .v (j 4), .v (j 5), .v (j 6), .v (.int .i64 x7), .v (.int .i64 x8), .v (j 9), .v (j 10), .v (j 11), .v (j 12), .v (j 13), .v (j 14), .v (j 15), .v (j 16), .v (j 17), .v (j 18)] [] h

theorem f82_2_in {w0 : World} {K : Value → AH → Prop} (a0 : Option Go.Addr) (n0 : Nat) (c0 : Nat) (x1c0 : Go.Addr) (x7 : Int) (x8 : Int) (h : AH)
  (hv : (brB (decide ((x8 < x7))) (∃ a'0 : Go.Addr, ((a0 = (some a'0)) ∧ (((0 : Int) ≤ x8) ∧ ((x8 < ((n0 : Nat) : Int)) ∧ (∃ i'1 : Int, (∃ i'2 : Int, (∃ i'3 : Int, (∃ p'4 : Option Go.Addr, (∃ n'5 : Nat, (∃ n'6 : Nat, (∃ p'7 : Option Go.Addr, (∃ n'8 : Nat, (∃ n'9 : Nat, ((((Array.size #[(Go.Value.int .i64 i'1), (Go.Value.int .i64 i'2), (Go.Value.int .i64 i'3), (Go.Value.slice p'4 n'5 n'6), (Go.Value.slice p'7 n'8 n'9)]) = 5) ∧ (At w0 h (Go.Addr.add a'0 ((Int.toNat x8) * 5)) [(Go.Value.int .i64 i'1), (Go.Value.int .i64 i'2), (Go.Value.int .i64 i'3), (Go.Value.slice p'4 n'5 n'6), (Go.Value.slice p'7 n'8 n'9)])) ∧ (EvC Go.Proofs.Try.prog w0 74 #[(Go.Value.agg #[(Go.Value.int .i64 i'1), (Go.Value.int .i64 i'2), (Go.Value.int .i64 i'3), (Go.Value.slice p'4 n'5 n'6), (Go.Value.slice p'7 n'8 n'9)]), (Go.Value.pointer (some x1c0))] (fun x'10 h'11 => (∃ t'12 : Bool, ((x'10 = (Go.Value.bool t'12)) ∧ (brB t'12 (K (Go.Value.int .i64 x8) h'11) (f82_2 w0 K a0 n0 c0 x1c0 x7 (Go.IntKind.wrap .i64 (x8 + (1 : Int))) h'11))))) h))))))))))))))) (K (Go.Value.int .i64 (-1 : Int)) h))) :
  f82_2 w0 K a0 n0 c0 x1c0 x7 x8 h := fun j => LP_intro (P := Go.Proofs.Try.prog) (Eq.mp (by kernel_rfl) hv)

theorem f82_go {w0 : World} {K : Value → AH → Prop} (a0 : Option Go.Addr) (n0 : Nat) (c0 : Nat) (fx1 : Go.Addr) (h : AH)
  (hv : (f82_2 w0 K a0 n0 c0 fx1 ((n0 : Nat) : Int) (0 : Int) h)) :
  EvC Go.Proofs.Try.prog w0 82 ([(.slice a0 n0 c0), (.func (.func 74) #[] #[.pointer (some fx1)])]).toArray K h := EvC_intro (P := Go.Proofs.Try.prog) f82_J (Eq.mp (by kernel_rfl) hv)
def f73_J : Nat → List Nat × Nat := jOf []



theorem f73_go {w0 : World} {K : Value → AH → Prop} (a0 : Option Go.Addr) (n0 : Nat) (c0 : Nat) (fx1 : Go.Addr) (h : AH)
  (hv : (EvC Go.Proofs.Try.prog w0 82 #[(Go.Value.slice a0 n0 c0), (Go.Value.func (Go.Fn.func 74) #[] #[(Go.Value.pointer (some fx1))])] (fun x'0 h'1 => (∃ i'2 : Int, ((x'0 = (Go.Value.int .i64 i'2)) ∧ (K (Go.Value.bool (decide (((0 : Int) ≤ i'2)))) h'1)))) h)) :
  EvC Go.Proofs.Try.prog w0 73 ([(.slice a0 n0 c0), (.func (.func 74) #[] #[.pointer (some fx1)])]).toArray K h := EvC_intro (P := Go.Proofs.Try.prog) f73_J (Eq.mp (by kernel_rfl) hv)
def f64_J : Nat → List Nat × Nat := jOf [(3, [0, 2, 3, 4, 6, 7, 11, 12, 13, 14, 15, 16, 17, 18, 19, 20, 21, 22, 23, 24], 0)]

def f64_3 (w0 : World) (K : Value → AH → Prop) (a1 : Option Go.Addr) (n1 : Nat) (c1 : Nat) (a5 : Option Go.Addr) (n5 : Nat) (c5 : Nat) (a8 : Option Go.Addr) (n8 : Nat) (c8 : Nat) (x9 : Int) (x10 : Int) (h : AH) : Prop :=
  ∀ j : Nat → Value, LPk Go.Proofs.Try.prog w0 (EvC Go.Proofs.Try.prog w0) f64_J 64 K 3 [.v (j 0), .v (.slice a1 n1 c1), .v (j 2), .v (j 3), .v (j 4), .v (.slice a5 n5 c5), .v (j 6), .v (j 7), .v (.slice a8 n8 c8), .v (.int .i64 x9), .v (.int .i64 x10), .v (j 11), .v (j 12), .v (j 13), .v (j 14), .v (j 15), .v (j 16), .v (j 17), .v (j 18), .v (j 19), .v (j 20), .v (j 21), .v (j 22), .v (j 23), .v (j 24)] [] h

theorem f64_3_in {w0 : World} {K : Value → AH → Prop} (a1 : Option Go.Addr) (n1 : Nat) (c1 : Nat) (a5 : Option Go.Addr) (n5 : Nat) (c5 : Nat) (a8 : Option Go.Addr) (n8 : Nat) (c8 : Nat) (x9 : Int) (x10 : Int) (h : AH)
  (hv : (brB (decide ((x10 < x9))) (∃ a'0 : Go.Addr, ((a8 = (some a'0)) ∧ (((0 : Int) ≤ x10) ∧ ((x10 < ((n8 : Nat) : Int)) ∧ (∃ i'1 : Int, (∃ i'2 : Int, (∃ i'3 : Int, (∃ p'4 : Option Go.Addr, (∃ n'5 : Nat, (∃ n'6 : Nat, (∃ p'7 : Option Go.Addr, (∃ n'8 : Nat, (∃ n'9 : Nat, ((((Array.size #[(Go.Value.int .i64 i'1), (Go.Value.int .i64 i'2), (Go.Value.int .i64 i'3), (Go.Value.slice p'4 n'5 n'6), (Go.Value.slice p'7 n'8 n'9)]) = 5) ∧ (At w0 h (Go.Addr.add a'0 ((Int.toNat x10) * 5)) [(Go.Value.int .i64 i'1), (Go.Value.int .i64 i'2), (Go.Value.int .i64 i'3), (Go.Value.slice p'4 n'5 n'6), (Go.Value.slice p'7 n'8 n'9)])) ∧ (newB w0 h (Go.G.AB.cells [(Go.Value.int .i64 i'1), (Go.Value.int .i64 i'2), (Go.Value.int .i64 i'3), (Go.Value.slice p'4 n'5 n'6), (Go.Value.slice p'7 n'8 n'9)] (List.length [(Go.Value.int .i64 i'1), (Go.Value.int .i64 i'2), (Go.Value.int .i64 i'3), (Go.Value.slice p'4 n'5 n'6), (Go.Value.slice p'7 n'8 n'9)])) (fun b'10 h'11 => (EvC Go.Proofs.Try.prog w0 73 #[(Go.Value.slice a1 n1 c1), (Go.Value.func (Go.Fn.func 74) #[] #[(Go.Value.pointer (some (Go.Addr.mk b'10 0 none)))])] (fun x'12 h'13 => (∃ t'14 : Bool, ((x'12 = (Go.Value.bool t'14)) ∧ (brB (!t'14) (∃ i'15 : Int, (∃ i'16 : Int, (∃ i'17 : Int, (∃ p'18 : Option Go.Addr, (∃ n'19 : Nat, (∃ n'20 : Nat, (∃ p'21 : Option Go.Addr, (∃ n'22 : Nat, (∃ n'23 : Nat, ((((Array.size #[(Go.Value.int .i64 i'15), (Go.Value.int .i64 i'16), (Go.Value.int .i64 i'17), (Go.Value.slice p'18 n'19 n'20), (Go.Value.slice p'21 n'22 n'23)]) = 5) ∧ (At w0 h'13 (Go.Addr.mk b'10 0 none) [(Go.Value.int .i64 i'15), (Go.Value.int .i64 i'16), (Go.Value.int .i64 i'17), (Go.Value.slice p'18 n'19 n'20), (Go.Value.slice p'21 n'22 n'23)])) ∧ (App w0 h'13 5 72 a5 n5 c5 1 [(Go.Value.int .i64 i'15), (Go.Value.int .i64 i'16), (Go.Value.int .i64 i'17), (Go.Value.slice p'18 n'19 n'20), (Go.Value.slice p'21 n'22 n'23)] (fun a'24 c'25 h'26 => (f64_3 w0 K a1 n1 c1 a'24 (n5 + 1) c'25 a8 n8 c8 x9 (Go.IntKind.wrap .i64 (x10 + (1 : Int))) h'26))))))))))))) (f64_3 w0 K a1 n1 c1 a5 n5 c5 a8 n8 c8 x9 (Go.IntKind.wrap .i64 (x10 + (1 : Int))) h'13))))) h'11))))))))))))))))) (EvC Go.Proofs.Try.prog w0 58 #[(Go.Value.slice a5 n5 c5)] (fun x'27 h'28 => (∃ p'29 : Option Go.Addr, (∃ n'30 : Nat, (∃ n'31 : Nat, ((x'27 = (Go.Value.slice p'29 n'30 n'31)) ∧ (K (Go.Value.slice p'29 n'30 n'31) h'28)))))) h))) :
  f64_3 w0 K a1 n1 c1 a5 n5 c5 a8 n8 c8 x9 x10 h := fun j => LP_intro (P := Go.Proofs.Try.prog) (Eq.mp (by kernel_rfl) hv)

theorem f64_go {w0 : World} {K : Value → AH → Prop} (a0 : Option Go.Addr) (n0 : Nat) (c0 : Nat) (a1 : Option Go.Addr) (n1 : Nat) (c1 : Nat) (h : AH)
  (hv : (f64_3 w0 K a1 n1 c1 none 0 0 a0 n0 c0 ((n0 : Nat) : Int) (0 : Int) h)) :
  EvC Go.Proofs.Try.prog w0 64 ([(.slice a0 n0 c0), (.slice a1 n1 c1)]).toArray K h := EvC_intro (P := Go.Proofs.Try.prog) f64_J (Eq.mp (by kernel_rfl) hv)
def f46_J : Nat → List Nat × Nat := jOf [(2, [0, 1, 5, 6, 7, 8, 9, 10, 11, 12, 13, 14, 15, 16, 17, 18, 19, 20, 21, 22, 23, 24, 25, 26, 27, 28, 29, 30, 31, 32, 33, 34, 35, 36, 38, 39, 40, 41, 42, 43, 44, 45, 46, 47, 48, 49, 50, 51, 52, 53, 54, 55, 56, 57, 58, 59, 60, 61, 62, 63, 64, 65, 66, 67, 68, 69, 70, 71, 72, 73, 74, 75, 76, 77, 78, 79, 80, 81, 82, 83], 3), (3, [0, 1, 5, 6, 7, 8, 9, 10, 11, 12, 13, 14, 15, 16, 17, 18, 19, 20, 21, 22, 23, 24, 25, 26, 27, 28, 29, 30, 31, 32, 33, 34, 35, 36, 37, 38, 39, 40, 41, 42, 43, 44, 45, 46, 47, 48, 49, 50, 51, 52, 53, 54, 55, 56, 57, 58, 59, 60, 61, 62, 63, 64, 65, 66, 67, 68, 69, 70, 71, 72, 73, 74, 75, 76, 77, 78, 79, 80, 81, 82, 83], 3), (5, [0, 1, 2, 3, 5, 7, 8, 9, 10, 11, 12, 13, 14, 15, 16, 17, 18, 19, 20, 21, 22, 23, 24, 25, 26, 27, 28, 29, 30, 31, 32, 33, 34, 35, 36, 37, 38, 39, 40, 41, 42, 43, 44, 45, 46, 47, 48, 49, 50, 51, 52, 53, 54, 58, 59, 60, 61, 62, 63, 64, 65, 66, 67, 68, 69, 70, 71, 72, 73, 74, 75, 76, 77, 78, 79, 80, 81, 82, 83], 4), (11, [0, 1, 2, 3, 5, 7, 8, 9, 10, 11, 12, 13, 14, 15, 16, 17, 18, 19, 20, 21, 22, 23, 24, 25, 26, 27, 28, 29, 30, 31, 32, 33, 34, 35, 36, 37, 38, 39, 40, 41, 42, 43, 44, 45, 46, 47, 48, 49, 50, 51, 52, 53, 54, 55, 56, 57, 58, 59, 60, 61, 62, 63, 64, 65, 66, 67, 68, 69, 70, 71, 72, 73, 74, 75, 76, 77, 78, 79, 80, 82, 83], 4)]

def f46_2 (w0 : World) (K : Value → AH → Prop) (x37 : Bool) (xb0_0 : Int) (xb0_1 : Int) (xb0_2 : Int) (ab0_3 : Option Go.Addr) (nb0_3 : Nat) (cb0_3 : Nat) (xb1_0 : Int) (xb1_1 : Int) (xb1_2 : Int) (ab1_3 : Option Go.Addr) (nb1_3 : Nat) (cb1_3 : Nat) (xb2_0 : Int) (xb2_1 : Int) (xb2_2 : Int) (ab2_3 : Option Go.Addr) (nb2_3 : Nat) (cb2_3 : Nat) (ab2_4 : Option Go.Addr) (nb2_4 : Nat) (cb2_4 : Nat) (h : AH) : Prop :=
  ∀ j : Nat → Value, LPk Go.Proofs.Try.prog w0 (EvC Go.Proofs.Try.prog w0) f46_J 46 K 2 [.v (j 0), .v (j 1), .bp 0 0, .bp 1 0, .bp 2 0, .v (j 5), .v (j 6), .v (j 7), .v (j 8), .v (j 9), .v (j 10), .v (j 11), .v (j 12), .v (j 13), .v (j 14), .v (j 15), .v (j 16), .v (j 17), .v (j 18), .v (j 19), .v (j 20), .v (j 21), .v (j 22), .v (j 23), .v (j 24), .v (j 25), .v (j 26), .v (j 27), .v (j 28), .v (j 29), .v (j 30), .v (j 31), .v (j 32), .v (j 33), .v (j 34), .v (j 35), .v (j 36), .v (.bool x37), .v (j 38), .v (j 39), .v (j 40), .v (j 41), .v (j 42), .v (j 43), .v (j 44), .v (j 45), .v (j 46), .v (j 47), .v (j 48), .v (j 49), .v (j 50), .v (j 51), .v (j 52), .v (j 53), .v (j 54), .v (j 55), .v (j 56), .v (j 57), .v (j 58), .v (j 59), .v (j 60), .v (j 61), .v (j 62), .v (j 63), .v (j 64), .v (j 65), .v (j 66), .v (j 67), .v (j 68), .v (j 69), .v (j 70), .v (j 71), .v (j 72), .v (j 73), .v (j 74), .v (j 75), .v (j 76), .v (j 77), .v (j 78), .v (j 79), .v (j 80), .v (j 81), .v (j 82), .v (j 83)] [some [(.int .i64 xb0_0), (.int .i64 xb0_1), (.int .i64 xb0_2), (.slice ab0_3 nb0_3 cb0_3)], some [(.int .i64 xb1_0), (.int .i64 xb1_1), (.int .i64 xb1_2), (.slice ab1_3 nb1_3 cb1_3)], some [(.int .i64 xb2_0), (.int .i64 xb2_1), (.int .i64 xb2_2), (.slice ab2_3 nb2_3 cb2_3), (.slice ab2_4 nb2_4 cb2_4)]] h

def f46_3 (w0 : World) (K : Value → AH → Prop) (xb0_0 : Int) (xb0_1 : Int) (xb0_2 : Int) (ab0_3 : Option Go.Addr) (nb0_3 : Nat) (cb0_3 : Nat) (xb1_0 : Int) (xb1_1 : Int) (xb1_2 : Int) (ab1_3 : Option Go.Addr) (nb1_3 : Nat) (cb1_3 : Nat) (xb2_0 : Int) (xb2_1 : Int) (xb2_2 : Int) (ab2_3 : Option Go.Addr) (nb2_3 : Nat) (cb2_3 : Nat) (ab2_4 : Option Go.Addr) (nb2_4 : Nat) (cb2_4 : Nat) (h : AH) : Prop :=
  ∀ j : Nat → Value, LPk Go.Proofs.Try.prog w0 (EvC Go.Proofs.Try.prog w0) f46_J 46 K 3 [.v (j 0), .v (j 1), .bp 0 0, .bp 1 0, .bp 2 0, .v (j 5), .v (j 6), .v (j 7), .v (j 8), .v (j 9), .v (j 10), .v (j 11), .v (j 12), .v (j 13), .v (j 14), .v (j 15), .v (j 16), .v (j 17), .v (j 18), .v (j 19), .v (j 20), .v (j 21), .v (j 22), .v (j 23), .v (j 24), .v (j 25), .v (j 26), .v (j 27), .v (j 28), .v (j 29), .v (j 30), .v (j 31), .v (j 32), .v (j 33), .v (j 34), .v (j 35), .v (j 36), .v (j 37), .v (j 38), .v (j 39), .v (j 40), .v (j 41), .v (j 42), .v (j 43), .v (j 44), .v (j 45), .v (j 46), .v (j 47), .v (j 48), .v (j 49), .v (j 50), .v (j 51), .v (j 52), .v (j 53), .v (j 54), .v (j 55), .v (j 56), .v (j 57), .v (j 58), .v (j 59), .v (j 60), .v (j 61), .v (j 62), .v (j 63), .v (j 64), .v (j 65), .v (j 66), .v (j 67), .v (j 68), .v (j 69), .v (j 70), .v (j 71), .v (j 72), .v (j 73), .v (j 74), .v (j 75), .v (j 76), .v (j 77), .v (j 78), .v (j 79), .v (j 80), .v (j 81), .v (j 82), .v (j 83)] [some [(.int .i64 xb0_0), (.int .i64 xb0_1), (.int .i64 xb0_2), (.slice ab0_3 nb0_3 cb0_3)], some [(.int .i64 xb1_0), (.int .i64 xb1_1), (.int .i64 xb1_2), (.slice ab1_3 nb1_3 cb1_3)], some [(.int .i64 xb2_0), (.int .i64 xb2_1), (.int .i64 xb2_2), (.slice ab2_3 nb2_3 cb2_3), (.slice ab2_4 nb2_4 cb2_4)]] h

def f46_5 (w0 : World) (K : Value → AH → Prop) (a55 : Option Go.Addr) (n55 : Nat) (c55 : Nat) (x56 : Int) (x57 : Int) (xb0_0 : Int) (xb0_1 : Int) (xb0_2 : Int) (ab0_3 : Option Go.Addr) (nb0_3 : Nat) (cb0_3 : Nat) (xb1_0 : Int) (xb1_1 : Int) (xb1_2 : Int) (ab1_3 : Option Go.Addr) (nb1_3 : Nat) (cb1_3 : Nat) (xb2_0 : Int) (xb2_1 : Int) (xb2_2 : Int) (ab2_3 : Option Go.Addr) (nb2_3 : Nat) (cb2_3 : Nat) (ab2_4 : Option Go.Addr) (nb2_4 : Nat) (cb2_4 : Nat) (xb3_0 : Int) (xb3_1 : Int) (xb3_2 : Int) (ab3_3 : Option Go.Addr) (nb3_3 : Nat) (cb3_3 : Nat) (ab3_4 : Option Go.Addr) (nb3_4 : Nat) (cb3_4 : Nat) (h : AH) : Prop :=
  ∀ j : Nat → Value, LPk Go.Proofs.Try.prog w0 (EvC Go.Proofs.Try.prog w0) f46_J 46 K 5 [.v (j 0), .v (j 1), .v (j 2), .v (j 3), .bp 2 0, .v (j 5), .bp 3 0, .v (j 7), .v (j 8), .v (j 9), .v (j 10), .v (j 11), .v (j 12), .v (j 13), .v (j 14), .v (j 15), .v (j 16), .v (j 17), .v (j 18), .v (j 19), .v (j 20), .v (j 21), .v (j 22), .v (j 23), .v (j 24), .v (j 25), .v (j 26), .v (j 27), .v (j 28), .v (j 29), .v (j 30), .v (j 31), .v (j 32), .v (j 33), .v (j 34), .v (j 35), .v (j 36), .v (j 37), .v (j 38), .v (j 39), .v (j 40), .v (j 41), .v (j 42), .v (j 43), .v (j 44), .v (j 45), .v (j 46), .v (j 47), .v (j 48), .v (j 49), .v (j 50), .v (j 51), .v (j 52), .v (j 53), .v (j 54), .v (.slice a55 n55 c55), .v (.int .i64 x56), .v (.int .i64 x57), .v (j 58), .v (j 59), .v (j 60), .v (j 61), .v (j 62), .v (j 63), .v (j 64), .v (j 65), .v (j 66), .v (j 67), .v (j 68), .v (j 69), .v (j 70), .v (j 71), .v (j 72), .v (j 73), .v (j 74), .v (j 75), .v (j 76), .v (j 77), .v (j 78), .v (j 79), .v (j 80), .v (j 81), .v (j 82), .v (j 83)] [some [(.int .i64 xb0_0), (.int .i64 xb0_1), (.int .i64 xb0_2), (.slice ab0_3 nb0_3 cb0_3)], some [(.int .i64 xb1_0), (.int .i64 xb1_1), (.int .i64 xb1_2), (.slice ab1_3 nb1_3 cb1_3)], some [(.int .i64 xb2_0), (.int .i64 xb2_1), (.int .i64 xb2_2), (.slice ab2_3 nb2_3 cb2_3), (.slice ab2_4 nb2_4 cb2_4)], some [(.int .i64 xb3_0), (.int .i64 xb3_1), (.int .i64 xb3_2), (.slice ab3_3 nb3_3 cb3_3), (.slice ab3_4 nb3_4 cb3_4)]] h

def f46_11 (w0 : World) (K : Value → AH → Prop) (x81 : Bool) (xb0_0 : Int) (xb0_1 : Int) (xb0_2 : Int) (ab0_3 : Option Go.Addr) (nb0_3 : Nat) (cb0_3 : Nat) (xb1_0 : Int) (xb1_1 : Int) (xb1_2 : Int) (ab1_3 : Option Go.Addr) (nb1_3 : Nat) (cb1_3 : Nat) (xb2_0 : Int) (xb2_1 : Int) (xb2_2 : Int) (ab2_3 : Option Go.Addr) (nb2_3 : Nat) (cb2_3 : Nat) (ab2_4 : Option Go.Addr) (nb2_4 : Nat) (cb2_4 : Nat) (xb3_0 : Int) (xb3_1 : Int) (xb3_2 : Int) (ab3_3 : Option Go.Addr) (nb3_3 : Nat) (cb3_3 : Nat) (ab3_4 : Option Go.Addr) (nb3_4 : Nat) (cb3_4 : Nat) (h : AH) : Prop :=
  ∀ j : Nat → Value, LPk Go.Proofs.Try.prog w0 (EvC Go.Proofs.Try.prog w0) f46_J 46 K 11 [.v (j 0), .v (j 1), .v (j 2), .v (j 3), .bp 2 0, .v (j 5), .bp 3 0, .v (j 7), .v (j 8), .v (j 9), .v (j 10), .v (j 11), .v (j 12), .v (j 13), .v (j 14), .v (j 15), .v (j 16), .v (j 17), .v (j 18), .v (j 19), .v (j 20), .v (j 21), .v (j 22), .v (j 23), .v (j 24), .v (j 25), .v (j 26), .v (j 27), .v (j 28), .v (j 29), .v (j 30), .v (j 31), .v (j 32), .v (j 33), .v (j 34), .v (j 35), .v (j 36), .v (j 37), .v (j 38), .v (j 39), .v (j 40), .v (j 41), .v (j 42), .v (j 43), .v (j 44), .v (j 45), .v (j 46), .v (j 47), .v (j 48), .v (j 49), .v (j 50), .v (j 51), .v (j 52), .v (j 53), .v (j 54), .v (j 55), .v (j 56), .v (j 57), .v (j 58), .v (j 59), .v (j 60), .v (j 61), .v (j 62), .v (j 63), .v (j 64), .v (j 65), .v (j 66), .v (j 67), .v (j 68), .v (j 69), .v (j 70), .v (j 71), .v (j 72), .v (j 73), .v (j 74), .v (j 75), .v (j 76), .v (j 77), .v (j 78), .v (j 79), .v (j 80), .v (.bool x81), .v (j 82), .v (j 83)] [some [(.int .i64 xb0_0), (.int .i64 xb0_1), (.int .i64 xb0_2), (.slice ab0_3 nb0_3 cb0_3)], some [(.int .i64 xb1_0), (.int .i64 xb1_1), (.int .i64 xb1_2), (.slice ab1_3 nb1_3 cb1_3)], some [(.int .i64 xb2_0), (.int .i64 xb2_1), (.int .i64 xb2_2), (.slice ab2_3 nb2_3 cb2_3), (.slice ab2_4 nb2_4 cb2_4)], some [(.int .i64 xb3_0), (.int .i64 xb3_1), (.int .i64 xb3_2), (.slice ab3_3 nb3_3 cb3_3), (.slice ab3_4 nb3_4 cb3_4)]] h

theorem f46_2_in {w0 : World} {K : Value → AH → Prop} (x37 : Bool) (xb0_0 : Int) (xb0_1 : Int) (xb0_2 : Int) (ab0_3 : Option Go.Addr) (nb0_3 : Nat) (cb0_3 : Nat) (xb1_0 : Int) (xb1_1 : Int) (xb1_2 : Int) (ab1_3 : Option Go.Addr) (nb1_3 : Nat) (cb1_3 : Nat) (xb2_0 : Int) (xb2_1 : Int) (xb2_2 : Int) (ab2_3 : Option Go.Addr) (nb2_3 : Nat) (cb2_3 : Nat) (ab2_4 : Option Go.Addr) (nb2_4 : Nat) (cb2_4 : Nat) (h : AH)
  (hv : (brB x37 (K (Go.Value.tuple #[(Go.Value.agg #[(Go.Value.int .i64 (0 : Int)), (Go.Value.int .i64 (0 : Int)), (Go.Value.int .i64 (0 : Int)), (Go.Value.slice none 0 0), (Go.Value.slice none 0 0)]), (Go.Value.int .i64 (1 : Int))]) h) (f46_3 w0 K xb0_0 xb0_1 xb0_2 ab0_3 nb0_3 cb0_3 xb1_0 xb1_1 xb1_2 ab1_3 nb1_3 cb1_3 xb2_0 xb2_1 xb2_2 ab2_3 nb2_3 cb2_3 ab2_4 nb2_4 cb2_4 h))) :
  f46_2 w0 K x37 xb0_0 xb0_1 xb0_2 ab0_3 nb0_3 cb0_3 xb1_0 xb1_1 xb1_2 ab1_3 nb1_3 cb1_3 xb2_0 xb2_1 xb2_2 ab2_3 nb2_3 cb2_3 ab2_4 nb2_4 cb2_4 h := fun j => LP_intro (P := Go.Proofs.Try.prog) (Eq.mp (by kernel_rfl) hv)

theorem f46_3_in {w0 : World} {K : Value → AH → Prop} (xb0_0 : Int) (xb0_1 : Int) (xb0_2 : Int) (ab0_3 : Option Go.Addr) (nb0_3 : Nat) (cb0_3 : Nat) (xb1_0 : Int) (xb1_1 : Int) (xb1_2 : Int) (ab1_3 : Option Go.Addr) (nb1_3 : Nat) (cb1_3 : Nat) (xb2_0 : Int) (xb2_1 : Int) (xb2_2 : Int) (ab2_3 : Option Go.Addr) (nb2_3 : Nat) (cb2_3 : Nat) (ab2_4 : Option Go.Addr) (nb2_4 : Nat) (cb2_4 : Nat) (h : AH)
  (hv : ((EvC Go.Proofs.Try.prog w0 64 #[(Go.Value.slice ab1_3 nb1_3 cb1_3), (Go.Value.slice ab0_3 nb0_3 cb0_3)] (fun x'6 h'7 => (∃ p'8 : Option Go.Addr, (∃ n'9 : Nat, (∃ n'10 : Nat, ((x'6 = (Go.Value.slice p'8 n'9 n'10)) ∧ (EvC Go.Proofs.Try.prog w0 64 #[(Go.Value.slice ab0_3 nb0_3 cb0_3), (Go.Value.slice ab1_3 nb1_3 cb1_3)] (fun x'11 h'12 => (∃ p'13 : Option Go.Addr, (∃ n'14 : Nat, (∃ n'15 : Nat, ((x'11 = (Go.Value.slice p'13 n'14 n'15)) ∧ (f46_5 w0 K p'13 n'14 n'15 ((n'14 : Nat) : Int) (0 : Int) xb0_0 xb0_1 xb0_2 ab0_3 nb0_3 cb0_3 xb1_0 xb1_1 xb1_2 ab1_3 nb1_3 cb1_3 xb2_0 xb2_1 xb2_2 ab2_3 nb2_3 cb2_3 ab2_4 nb2_4 cb2_4 xb1_0 xb1_1 xb1_2 p'8 n'9 n'10 none 0 0 h'12)))))) h'7)))))) h) ∧ (EvC Go.Proofs.Try.prog w0 64 #[(Go.Value.slice ab1_3 nb1_3 cb1_3), (Go.Value.slice ab0_3 nb0_3 cb0_3)] (fun x'16 h'17 => (∃ p'18 : Option Go.Addr, (∃ n'19 : Nat, (∃ n'20 : Nat, ((x'16 = (Go.Value.slice p'18 n'19 n'20)) ∧ (EvC Go.Proofs.Try.prog w0 64 #[(Go.Value.slice ab0_3 nb0_3 cb0_3), (Go.Value.slice ab1_3 nb1_3 cb1_3)] (fun x'21 h'22 => (∃ p'23 : Option Go.Addr, (∃ n'24 : Nat, (∃ n'25 : Nat, ((x'21 = (Go.Value.slice p'23 n'24 n'25)) ∧ (f46_5 w0 K p'23 n'24 n'25 ((n'24 : Nat) : Int) (0 : Int) xb0_0 xb0_1 xb0_2 ab0_3 nb0_3 cb0_3 xb1_0 xb1_1 xb1_2 ab1_3 nb1_3 cb1_3 xb2_0 xb2_1 xb2_2 ab2_3 nb2_3 cb2_3 ab2_4 nb2_4 cb2_4 xb1_0 xb1_1 xb1_2 p'18 n'19 n'20 none 0 0 h'22)))))) h'17)))))) h))) :
  f46_3 w0 K xb0_0 xb0_1 xb0_2 ab0_3 nb0_3 cb0_3 xb1_0 xb1_1 xb1_2 ab1_3 nb1_3 cb1_3 xb2_0 xb2_1 xb2_2 ab2_3 nb2_3 cb2_3 ab2_4 nb2_4 cb2_4 h := fun j => LP_intro (P := Go.Proofs.Try.prog) (Eq.mp (by kernel_rfl) hv)

theorem f46_5_in {w0 : World} {K : Value → AH → Prop} (a55 : Option Go.Addr) (n55 : Nat) (c55 : Nat) (x56 : Int) (x57 : Int) (xb0_0 : Int) (xb0_1 : Int) (xb0_2 : Int) (ab0_3 : Option Go.Addr) (nb0_3 : Nat) (cb0_3 : Nat) (xb1_0 : Int) (xb1_1 : Int) (xb1_2 : Int) (ab1_3 : Option Go.Addr) (nb1_3 : Nat) (cb1_3 : Nat) (xb2_0 : Int) (xb2_1 : Int) (xb2_2 : Int) (ab2_3 : Option Go.Addr) (nb2_3 : Nat) (cb2_3 : Nat) (ab2_4 : Option Go.Addr) (nb2_4 : Nat) (cb2_4 : Nat) (xb3_0 : Int) (xb3_1 : Int) (xb3_2 : Int) (ab3_3 : Option Go.Addr) (nb3_3 : Nat) (cb3_3 : Nat) (ab3_4 : Option Go.Addr) (nb3_4 : Nat) (cb3_4 : Nat) (h : AH)
  (hv : (brB (decide ((x57 < x56))) (∃ a'26 : Go.Addr, ((a55 = (some a'26)) ∧ (((0 : Int) ≤ x57) ∧ ((x57 < ((n55 : Nat) : Int)) ∧ (∃ i'27 : Int, (∃ i'28 : Int, (∃ i'29 : Int, (∃ p'30 : Option Go.Addr, (∃ n'31 : Nat, (∃ n'32 : Nat, (∃ p'33 : Option Go.Addr, (∃ n'34 : Nat, (∃ n'35 : Nat, ((((Array.size #[(Go.Value.int .i64 i'27), (Go.Value.int .i64 i'28), (Go.Value.int .i64 i'29), (Go.Value.slice p'30 n'31 n'32), (Go.Value.slice p'33 n'34 n'35)]) = 5) ∧ (At w0 h (Go.Addr.add a'26 ((Int.toNat x57) * 5)) [(Go.Value.int .i64 i'27), (Go.Value.int .i64 i'28), (Go.Value.int .i64 i'29), (Go.Value.slice p'30 n'31 n'32), (Go.Value.slice p'33 n'34 n'35)])) ∧ (App w0 h 1 8 ab3_4 nb3_4 cb3_4 1 [(Go.Value.int .i64 i'27)] (fun a'36 c'37 h'38 => (f46_5 w0 K a55 n55 c55 x56 (Go.IntKind.wrap .i64 (x57 + (1 : Int))) xb0_0 xb0_1 xb0_2 ab0_3 nb0_3 cb0_3 xb1_0 xb1_1 xb1_2 ab1_3 nb1_3 cb1_3 xb2_0 xb2_1 xb2_2 ab2_3 nb2_3 cb2_3 ab2_4 nb2_4 cb2_4 xb3_0 xb3_1 xb3_2 ab3_3 nb3_3 cb3_3 a'36 (nb3_4 + 1) c'37 h'38))))))))))))))))) (EvC Go.Proofs.Try.prog w0 65 #[(Go.Value.slice ab3_4 nb3_4 cb3_4)] (fun x'39 h'40 => ((x'39 = (Go.Value.tuple #[])) ∧ (brB (decide (((200 : Int) < ((nb3_3 : Nat) : Int)))) (f46_11 w0 K true xb0_0 xb0_1 xb0_2 ab0_3 nb0_3 cb0_3 xb1_0 xb1_1 xb1_2 ab1_3 nb1_3 cb1_3 xb2_0 xb2_1 xb2_2 ab2_3 nb2_3 cb2_3 ab2_4 nb2_4 cb2_4 xb3_0 xb3_1 xb3_2 ab3_3 nb3_3 cb3_3 ab3_4 nb3_4 cb3_4 h'40) (f46_11 w0 K (decide (((200 : Int) < ((nb3_4 : Nat) : Int)))) xb0_0 xb0_1 xb0_2 ab0_3 nb0_3 cb0_3 xb1_0 xb1_1 xb1_2 ab1_3 nb1_3 cb1_3 xb2_0 xb2_1 xb2_2 ab2_3 nb2_3 cb2_3 ab2_4 nb2_4 cb2_4 xb3_0 xb3_1 xb3_2 ab3_3 nb3_3 cb3_3 ab3_4 nb3_4 cb3_4 h'40)))) h))) :
  f46_5 w0 K a55 n55 c55 x56 x57 xb0_0 xb0_1 xb0_2 ab0_3 nb0_3 cb0_3 xb1_0 xb1_1 xb1_2 ab1_3 nb1_3 cb1_3 xb2_0 xb2_1 xb2_2 ab2_3 nb2_3 cb2_3 ab2_4 nb2_4 cb2_4 xb3_0 xb3_1 xb3_2 ab3_3 nb3_3 cb3_3 ab3_4 nb3_4 cb3_4 h := fun j => LP_intro (P := Go.Proofs.Try.prog) (Eq.mp (by kernel_rfl) hv)

theorem f46_11_in {w0 : World} {K : Value → AH → Prop} (x81 : Bool) (xb0_0 : Int) (xb0_1 : Int) (xb0_2 : Int) (ab0_3 : Option Go.Addr) (nb0_3 : Nat) (cb0_3 : Nat) (xb1_0 : Int) (xb1_1 : Int) (xb1_2 : Int) (ab1_3 : Option Go.Addr) (nb1_3 : Nat) (cb1_3 : Nat) (xb2_0 : Int) (xb2_1 : Int) (xb2_2 : Int) (ab2_3 : Option Go.Addr) (nb2_3 : Nat) (cb2_3 : Nat) (ab2_4 : Option Go.Addr) (nb2_4 : Nat) (cb2_4 : Nat) (xb3_0 : Int) (xb3_1 : Int) (xb3_2 : Int) (ab3_3 : Option Go.Addr) (nb3_3 : Nat) (cb3_3 : Nat) (ab3_4 : Option Go.Addr) (nb3_4 : Nat) (cb3_4 : Nat) (h : AH)
  (hv : (brB x81 (K (Go.Value.tuple #[(Go.Value.agg #[(Go.Value.int .i64 (0 : Int)), (Go.Value.int .i64 (0 : Int)), (Go.Value.int .i64 (0 : Int)), (Go.Value.slice none 0 0), (Go.Value.slice none 0 0)]), (Go.Value.int .i64 (13 : Int))]) h) (K (Go.Value.tuple #[(Go.Value.agg #[(Go.Value.int .i64 xb3_0), (Go.Value.int .i64 xb3_1), (Go.Value.int .i64 xb3_2), (Go.Value.slice ab3_3 nb3_3 cb3_3), (Go.Value.slice ab3_4 nb3_4 cb3_4)]), (Go.Value.int .i64 (0 : Int))]) h))) :
  f46_11 w0 K x81 xb0_0 xb0_1 xb0_2 ab0_3 nb0_3 cb0_3 xb1_0 xb1_1 xb1_2 ab1_3 nb1_3 cb1_3 xb2_0 xb2_1 xb2_2 ab2_3 nb2_3 cb2_3 ab2_4 nb2_4 cb2_4 xb3_0 xb3_1 xb3_2 ab3_3 nb3_3 cb3_3 ab3_4 nb3_4 cb3_4 h := fun j => LP_intro (P := Go.Proofs.Try.prog) (Eq.mp (by kernel_rfl) hv)

theorem f46_go {w0 : World} {K : Value → AH → Prop} (x0_0 : Int) (x0_1 : Int) (x0_2 : Int) (a0_3 : Option Go.Addr) (n0_3 : Nat) (c0_3 : Nat) (x1_0 : Int) (x1_1 : Int) (x1_2 : Int) (a1_3 : Option Go.Addr) (n1_3 : Nat) (c1_3 : Nat) (h : AH)
  (hv : (EvC Go.Proofs.Try.prog w0 31 #[(Go.Value.agg #[(Go.Value.int .i64 x0_0), (Go.Value.int .i64 x0_1), (Go.Value.int .i64 x0_2), (Go.Value.slice a0_3 n0_3 c0_3)])] (fun x'0 h'1 => (∃ t'2 : Bool, ((x'0 = (Go.Value.bool t'2)) ∧ (brB (!t'2) (f46_2 w0 K true x0_0 x0_1 x0_2 a0_3 n0_3 c0_3 x1_0 x1_1 x1_2 a1_3 n1_3 c1_3 (0 : Int) (0 : Int) (0 : Int) none 0 0 none 0 0 h'1) (EvC Go.Proofs.Try.prog w0 31 #[(Go.Value.agg #[(Go.Value.int .i64 x1_0), (Go.Value.int .i64 x1_1), (Go.Value.int .i64 x1_2), (Go.Value.slice a1_3 n1_3 c1_3)])] (fun x'3 h'4 => (∃ t'5 : Bool, ((x'3 = (Go.Value.bool t'5)) ∧ (brB (!t'5) (f46_2 w0 K true x0_0 x0_1 x0_2 a0_3 n0_3 c0_3 x1_0 x1_1 x1_2 a1_3 n1_3 c1_3 (0 : Int) (0 : Int) (0 : Int) none 0 0 none 0 0 h'4) (brB (decide ((x1_0 < x0_0))) (f46_2 w0 K true x0_0 x0_1 x0_2 a0_3 n0_3 c0_3 x1_0 x1_1 x1_2 a1_3 n1_3 c1_3 (0 : Int) (0 : Int) (0 : Int) none 0 0 none 0 0 h'4) (brB (decide ((x1_1 < x0_1))) (f46_2 w0 K true x0_0 x0_1 x0_2 a0_3 n0_3 c0_3 x1_0 x1_1 x1_2 a1_3 n1_3 c1_3 (0 : Int) (0 : Int) (0 : Int) none 0 0 none 0 0 h'4) (f46_2 w0 K (decide ((x1_2 < x0_2))) x0_0 x0_1 x0_2 a0_3 n0_3 c0_3 x1_0 x1_1 x1_2 a1_3 n1_3 c1_3 (0 : Int) (0 : Int) (0 : Int) none 0 0 none 0 0 h'4))))))) h'1))))) h)) :
  EvC Go.Proofs.Try.prog w0 46 ([(.agg #[(.int .i64 x0_0), (.int .i64 x0_1), (.int .i64 x0_2), (.slice a0_3 n0_3 c0_3)]), (.agg #[(.int .i64 x1_0), (.int .i64 x1_1), (.int .i64 x1_2), (.slice a1_3 n1_3 c1_3)])]).toArray K h := EvC_intro (P := Go.Proofs.Try.prog) f46_J (Eq.mp (by kernel_rfl) hv)
/-! ### level.without, level.Diff -/
theorem f83_spec {w0 : World} {K : Value → AH → Prop} {h : AH} {a b : Option Addr} {n m c d : Nat} {x y : List UInt8} (hx : Rd w0 h a (u8s x)) (hn : n = x.length) (hy : Rd w0 h b (u8s y)) (hm : m = y.length) (hk : K (.bool (decide (x = y))) h) :
    EvC Go.Proofs.Try.prog w0 83 #[.slice a n c, .slice b m d] K h := by
  refine f83_go _ _ _ _ _ _ _ (rows8 hx hn (rows8 hy hm ?_))
  have : decide ((⟨x.toArray⟩ : ByteArray) = ⟨y.toArray⟩) = decide (x = y) := by
    by_cases e : x = y
    · subst e; simp
    · simp [e]
  rw [this]; exact hk
theorem f75_spec {w0 : World} {K : Value → AH → Prop} {h : AH} {t u : Tab} (ot : t.Ok w0 h) (ou : u.Ok w0 h) (hk : K (.bool (decide (t.dat = u.dat))) h) : EvC Go.Proofs.Try.prog w0 75 #[t.agg, u.agg] K h := by
  have no : ¬ (t.dat = u.dat) → K (.bool false) h := fun q => by rw [decide_eq_false q] at hk; exact hk
  refine f75_go _ _ _ _ _ _ _ _ _ _ _ _ _ _ _ _ _ _ _ (brB_of (fun q0 => brB_of (fun q1 => brB_of (fun q2 => f83_spec ot.lb.rd ot.ln ou.lb.rd ou.ln ⟨_, rfl, brB_of (fun q3 => f83_spec ot.mb.rd ot.mn ou.mb.rd ou.mn ⟨_, rfl, ?_⟩) fun q3 => no fun e => ?_⟩) fun q2 => no fun e => ?_) fun q1 => no fun e => ?_) fun q0 => no fun e => ?_)
  · have e : decide (t.dat = u.dat) = decide (t.mb = u.mb) := by
      have h0 : t.num = u.num := by simpa using q0
      have h1 : t.lev = u.lev := by simpa using q1
      have h2 : t.siz = u.siz := by simpa using q2
      have h3 : t.lb = u.lb := by simpa using q3
      simp [Tab.dat, h0, h1, h2, h3]
    rw [e] at hk; exact hk
  · obtain ⟨_, _, _, e4, _⟩ := dat_ok e
    simp [e4] at q3
  · obtain ⟨_, _, e3, _, _⟩ := dat_ok e
    simp [e3] at q2
  · obtain ⟨_, e2, _, _, _⟩ := dat_ok e
    simp [e2] at q1
  · obtain ⟨e1, _, _, _, _⟩ := dat_ok e
    simp [e1] at q0
theorem f82_spec {w0 : World} {K : Value → AH → Prop} {h : AH} {a : Option Addr} {n c : Nat} {us : List Tab} {t : Tab} {x : Addr} (s : TS w0 h a n c us) (ot : t.Ok w0 h) (hx : At w0 h x t.cells)
    (hk : ∀ i : Int, (0 ≤ i ↔ us.any (fun u => decide (t.dat = u.dat)) = true) → K (.int .i64 i) h) : EvC Go.Proofs.Try.prog w0 82 #[.slice a n c, .func (.func 74) #[] #[.pointer (some x)]] K h := by
  have hl := s.len
  have hsm := s.sm
  have loop : ∀ (rest : List Tab) (i : Nat), us.drop i = rest → i ≤ n → (∀ u ∈ us.take i, ¬ t.dat = u.dat) → f82_2 w0 K a n c x ((n : Nat) : Int) ((i : Nat) : Int) h := by
    intro rest
    induction rest with
    | nil =>
      intro i hd hi hb
      have := drop_done hd
      refine f82_2_in _ _ _ _ _ _ _ (brB_of (fun q => by simp at q; omega) fun _ => hk _ ⟨fun q => by omega, fun q => ?_⟩)
      rw [List.take_of_length_le (by omega)] at hb
      obtain ⟨u, hu, e⟩ := List.any_eq_true.1 q
      exact absurd (of_decide_eq_true e) (hb u hu)
    | cons u r ih =>
      intro i hd hi hb
      obtain ⟨hget, hd', hlt⟩ := drop_step hd
      have ou := s.ok u (List.mem_of_getElem? hget)
      refine f82_2_in _ _ _ _ _ _ _ (brB_of (fun _ => tabLoad s.rs.rd hl hget (f74_go _ _ _ _ _ _ _ _ _ _ _ ⟨_, _, _, _, _, _, _, _, _, ⟨rfl, hx⟩, f75_spec ot ou ⟨_, rfl, _, rfl, brB_of (fun q => ?_) fun q => ?_⟩⟩)) fun q => by simp at q; omega)
      · exact hk _ ⟨fun _ => List.any_eq_true.2 ⟨u, List.mem_of_getElem? hget, q⟩, fun _ => by omega⟩
      · rw [wrapS (by omega)]
        refine ih (i + 1) hd' (by omega) fun v hv => ?_
        rw [List.take_add_one, hget] at hv
        rcases List.mem_append.1 hv with hv | hv
        · exact hb v hv
        · simp at hv; subst hv
          exact of_decide_eq_false q
  exact f82_go _ _ _ _ _ (loop us 0 rfl (by omega) (by simp))
theorem f73_spec {w0 : World} {K : Value → AH → Prop} {h : AH} {a : Option Addr} {n c : Nat} {us : List Tab} {t : Tab} {x : Addr} (s : TS w0 h a n c us) (ot : t.Ok w0 h) (hx : At w0 h x t.cells)
    (hk : K (.bool (us.any fun u => decide (t.dat = u.dat))) h) : EvC Go.Proofs.Try.prog w0 73 #[.slice a n c, .func (.func 74) #[] #[.pointer (some x)]] K h :=
  f73_go _ _ _ _ _ (f82_spec s ot hx fun i hi => ⟨_, rfl, by
    have : decide ((0 : Int) ≤ i) = us.any fun u => decide (t.dat = u.dat) := by
      rw [Bool.eq_iff_iff, decide_eq_true_eq]; exact hi
    rw [this]; exact hk⟩)
/-- The tables of one list that are not in another one. -/
def withoutR (l m : List Tab) : List Tab := l.filter fun t => !(m.any fun u => decide (t.dat = u.dat))
theorem tab_cell (t : Tab) : ∀ y ∈ t.cells, y.oneCell' = true := by
  intro y hy
  simp [Tab.cells] at hy
  rcases hy with rfl | rfl | rfl | rfl | rfl <;> rfl
theorem own_cell {w0 : World} {h : AH} {b : Nat} {xs : List Value} {sz j : Nat} {x : Value} (hb : w0.heap.size ≤ b) (hh : h b = some (.cells xs sz)) (hj : xs[j]? = some x) : cellA w0 h (Addr.add ⟨b, 0, none⟩ j) = some x := by
  rw [add_plain]
  simp only [cellA]
  rw [if_neg (by omega), hh]
  simpa using hj
theorem f64_spec {w0 : World} {K : Value → AH → Prop} {h0 : AH} {a b : Option Addr} {n c m d : Nat} {ts us : List Tab} (s : TS w0 h0 a n c ts) (r : TS w0 h0 b m d us) (hn : n ≤ 1000)
    (hk : ∀ a' n' c' h' ts', Sl w0 h' 5 a' n' c' (tabs ts') → ts'.map Tab.dat = (withoutR ts us).map Tab.dat → (∀ t ∈ ts', t.Ok w0 h') → Ext h0 h' none → K (.slice a' n' c') h') :
    EvC Go.Proofs.Try.prog w0 64 #[.slice a n c, .slice b m d] K h0 := by
  have hl := s.len
  have loop : ∀ (rest : List Tab) (i : Nat) (a3 : Option Addr) (n3 c3 : Nat) (h : AH) (out : List Tab), ts.drop i = rest → i ≤ n → Ext h0 h none → New h0 a3 → Sl w0 h 5 a3 n3 c3 (tabs out) → withoutR ts us = out ++ withoutR rest us → out.length ≤ i → (∀ t ∈ out, t ∈ ts) →
      f64_3 w0 K b m d a3 n3 c3 a n c ((n : Nat) : Int) ((i : Nat) : Int) h := by
    intro rest
    induction rest with
    | nil =>
      intro i a3 n3 c3 h out hd hi hx hnew so he ho hin
      have := drop_done hd
      have e : withoutR ts us = out := by rw [he]; simp [withoutR]
      have hl5 := so.len5
      refine f64_3_in _ _ _ _ _ _ _ _ _ _ _ _ (brB_of (fun q => by simp at q; omega) fun _ => f58_spec (so.ts (by omega) fun t ht => (s.ok t (hin t ht)).ext hx) (by omega) fun a' n' c' h' ts' s' e' o' x' _ => ⟨_, _, _, rfl, hk a' n' c' h' ts' s' (by rw [e', e]) o' (hx.trans x')⟩)
    | cons t rs ih =>
      intro i a3 n3 c3 h out hd hi hx hnew so he ho hin
      obtain ⟨hget, hd', hlt⟩ := drop_step hd
      have htm := List.mem_of_getElem? hget
      have o := (s.ok t htm).ext hx
      have hl5 := so.len5
      refine f64_3_in _ _ _ _ _ _ _ _ _ _ _ _ (brB_of (fun _ => tabLoad (s.ext hx).rs.rd hl hget fun b' hb hbn => ?_) fun q => by simp at q; omega)
      have hx2 : Ext h (h.put b' (.cells t.cells 5)) none := Ext_put hbn
      have hat : At w0 (h.put b' (.cells t.cells 5)) ⟨b', 0, none⟩ t.cells := fun j x hj => own_cell hb (put_same _ _ _) hj
      have hx3 := hx.trans hx2
      have so2 := so.ext hx2
      refine f73_spec (r.ext hx3) (o.ext hx2) hat ⟨_, rfl, brB_of (fun q => ?_) fun q => ?_⟩
      · have q' : us.any (fun u => decide (t.dat = u.dat)) = false := by simpa using q
        refine ⟨_, _, _, _, _, _, _, _, _, ⟨rfl, hat⟩, ?_⟩
        refine App_own so2 (by omega) (by omega) rfl (tab_cell t) fun a' c' h' s3 x3 f3 => ?_
        rw [wrapS (by omega)]
        refine ih (i + 1) a' (n3 + 1) c' h' (out ++ [t]) hd' (by omega) (hx3.past hnew x3) (hnew.grown hx3 f3) (by rw [tabs_append]; exact s3) ?_ (by simp; omega) fun u hu => ?_
        · rw [he, List.append_assoc]; simp only [withoutR, List.filter_cons, q']; rfl
        · rcases List.mem_append.1 hu with hu | hu
          · exact hin u hu
          · simp at hu; subst hu; exact htm
      · have q' : us.any (fun u => decide (t.dat = u.dat)) = true := by simpa using q
        rw [wrapS (by omega)]
        exact ih (i + 1) a3 n3 c3 _ out hd' (by omega) hx3 hnew so2 (by rw [he]; simp only [withoutR, List.filter_cons, q']; rfl) (by omega) hin
  exact f64_go _ _ _ _ _ _ _ (loop ts 0 none 0 0 h0 [] rfl (by omega) (Ext.refl _ _) New.none Sl.nil rfl (Nat.le_refl _) fun t ht => by cases ht)
/-- May the one become the other? -/
def diffB (x y : Ver) : Bool := mayV x.lo x.nx x.sq x.ts && mayV y.lo y.nx y.sq y.ts && !(decide (y.lo < x.lo)) && !(decide (y.nx < x.nx)) && !(decide (y.sq < x.sq))
theorem withoutR_le (l m : List Tab) : (withoutR l m).length ≤ l.length := List.length_filter_le _ _
/-- level.Diff. -/
theorem f46_spec {w0 : World} {K : Value → AH → Prop} {h0 : AH} {a b : Option Addr} {n c m d : Nat} {x y : Ver} (s : TS w0 h0 a n c x.ts) (r : TS w0 h0 b m d y.ts) (hx2 : mayV x.lo x.nx x.sq x.ts = true → x.ts.length ≤ 200) (hy2 : mayV y.lo y.nx y.sq y.ts = true → y.ts.length ≤ 200)
    (hk : ∀ a' n' c' h' ts' b' d', diffB x y = true → Sl w0 h' 5 a' n' c' (tabs ts') → ts'.map Tab.dat = (withoutR y.ts x.ts).map Tab.dat → (∀ t ∈ ts', t.Ok w0 h') → Sl w0 h' 1 b' (withoutR x.ts y.ts).length d' (ints (sortL ((withoutR x.ts y.ts).map Tab.num))) → Ext h0 h' none →
      K (.tuple #[.agg #[.int .i64 y.lo, .int .i64 y.nx, .int .i64 y.sq, .slice a' n' c', .slice b' (withoutR x.ts y.ts).length d'], .int .i64 0]) h')
    (hk0 : ∀ h', diffB x y = false → Ext h0 h' none → K (.tuple #[.agg #[.int .i64 0, .int .i64 0, .int .i64 0, .slice none 0 0, .slice none 0 0], .int .i64 1]) h') :
    EvC Go.Proofs.Try.prog w0 46 #[.agg #[.int .i64 x.lo, .int .i64 x.nx, .int .i64 x.sq, .slice a n c], .agg #[.int .i64 y.lo, .int .i64 y.nx, .int .i64 y.sq, .slice b m d]] K h0 := by
  have hl := s.len
  have hl2 := r.len
  have no : ∀ h', Ext h0 h' none → diffB x y = false → f46_2 w0 K true x.lo x.nx x.sq a n c y.lo y.nx y.sq b m d 0 0 0 none 0 0 none 0 0 h' := fun h' hx e =>
    f46_2_in _ _ _ _ _ _ _ _ _ _ _ _ _ _ _ _ _ _ _ _ _ _ _ (brB_of (fun _ => hk0 h' e hx) fun z => by cases z)
  refine f46_go _ _ _ _ _ _ _ _ _ _ _ _ _ (f31_spec s fun h1 x1 => ⟨_, rfl, brB_of (fun q => no h1 x1 ?_) fun q => f31_spec (r.ext x1) fun h2 x2 => ⟨_, rfl, brB_of (fun q1 => no h2 (x1.trans x2) ?_) fun q1 => brB_of (fun q2 => no h2 (x1.trans x2) ?_) fun q2 => brB_of (fun q3 => no h2 (x1.trans x2) ?_) fun q3 => ?_⟩⟩)
  · have : mayV x.lo x.nx x.sq x.ts = false := by simpa using q
    simp [diffB, this]
  · have : mayV y.lo y.nx y.sq y.ts = false := by simpa using q1
    simp [diffB, this]
  · have := of_decide_eq_true q2; simp [diffB, this]
  · have := of_decide_eq_true q3; simp [diffB, this]
  have mx : mayV x.lo x.nx x.sq x.ts = true := by simpa using q
  have my : mayV y.lo y.nx y.sq y.ts = true := by simpa using q1
  have q2' := of_decide_eq_false q2
  have q3' := of_decide_eq_false q3
  have hx12 := x1.trans x2
  by_cases q4 : y.sq < x.sq
  · rw [decide_eq_true q4]
    exact no h2 hx12 (by simp [diffB, q4])
  rw [decide_eq_false q4]
  have hd : diffB x y = true := by simp [diffB, mx, my, q2', q3', q4]
  have lx := hx2 mx
  have ly := hy2 my
  refine f46_2_in _ _ _ _ _ _ _ _ _ _ _ _ _ _ _ _ _ _ _ _ _ _ _ (brB_of (fun z => by cases z) fun _ => f46_3_in _ _ _ _ _ _ _ _ _ _ _ _ _ _ _ _ _ _ _ _ _ _ (dup ?_))
  refine f64_spec (r.ext hx12) (s.ext hx12) (by omega) fun a3 n3 c3 h3 ts3 s3 e3 o3 x3 => ⟨_, _, _, rfl, f64_spec (s.ext (hx12.trans x3)) (r.ext (hx12.trans x3)) (by omega) fun a4 n4 c4 h4 ts4 s4 e4 o4 x4 => ⟨_, _, _, rfl, ?_⟩⟩
  have hn3 := s3.len5
  have hn4 := s4.len5
  have hw3 := withoutR_le y.ts x.ts
  have hw4 := withoutR_le x.ts y.ts
  have he3 := congrArg List.length e3
  have he4 := congrArg List.length e4
  simp only [List.length_map] at he3 he4
  have hnum : ts4.map Tab.num = (withoutR x.ts y.ts).map Tab.num := by
    have := congrArg (List.map fun z : Int × Int × Int × List UInt8 × List UInt8 => z.1) e4
    simpa [List.map_map, Tab.dat, Function.comp_def] using this
  have loop : ∀ (rest : List Tab) (i : Nat) (a5 : Option Addr) (n5 c5 : Nat) (h5 : AH), ts4.drop i = rest → i ≤ n4 → Ext h4 h5 none → New h4 a5 → Sl w0 h5 1 a5 n5 c5 (ints ((ts4.take i).map Tab.num)) →
      f46_5 w0 K a4 n4 c4 ((n4 : Nat) : Int) ((i : Nat) : Int) x.lo x.nx x.sq a n c y.lo y.nx y.sq b m d 0 0 0 none 0 0 none 0 0 y.lo y.nx y.sq a3 n3 c3 a5 n5 c5 h5 := by
    intro rest
    induction rest with
    | nil =>
      intro i a5 n5 c5 h5 hd' hi hx hnew so
      have := drop_done hd'
      rw [List.take_of_length_le (by omega)] at so
      have hlen : n5 = (ts4.map Tab.num).length := by have := so.1; simp [ints] at this; simp; omega
      have hzl : (ts4.map Tab.num).length ≤ 200 := by simp; omega
      refine f46_5_in _ _ _ _ _ _ _ _ _ _ _ _ _ _ _ _ _ _ _ _ _ _ _ _ _ _ _ _ _ _ _ _ _ _ _ _ (brB_of (fun z => by simp at z; omega) fun _ => ?_)
      rw [hlen] at so ⊢
      refine f65_spec so (by omega) fun h6 s6 x6 => ⟨rfl, brB_of (fun z => by have := of_decide_eq_true z; omega) fun _ => ?_⟩
      rw [decide_eq_false (by omega)]
      refine f46_11_in _ _ _ _ _ _ _ _ _ _ _ _ _ _ _ _ _ _ _ _ _ _ _ _ _ _ _ _ _ _ _ _ (brB_of (fun z => by cases z) fun _ => ?_)
      have hxx : Ext h4 h6 none := hx.past hnew x6
      rw [hnum] at s6 ⊢
      rw [List.length_map] at s6 ⊢
      exact hk a3 n3 c3 h6 ts3 a5 c5 hd (s3.ext (x4.trans hxx)) e3 (fun t ht => (o3 t ht).ext (x4.trans hxx)) s6 (hx12.trans (x3.trans (x4.trans hxx)))
    | cons t rs ih =>
      intro i a5 n5 c5 h5 hd' hi hx hnew so
      obtain ⟨hget, hd2, hlt⟩ := drop_step hd'
      have hlen : n5 = i := by have := so.1; simp [ints] at this; omega
      refine f46_5_in _ _ _ _ _ _ _ _ _ _ _ _ _ _ _ _ _ _ _ _ _ _ _ _ _ _ _ _ _ _ _ _ _ _ _ _ (brB_of (fun _ => tabLoad (s4.ext hx).rd hn4 hget ?_) fun z => by simp at z; omega)
      refine App_own so (by omega) (by omega) rfl (fun v hv => by simp at hv; subst hv; rfl) fun a' c' h' s5 x5 f5 => ?_
      rw [wrapS (by omega)]
      refine ih (i + 1) a' (n5 + 1) c' h' hd2 (by omega) (hx.past hnew x5) (hnew.grown hx f5) ?_
      rw [List.take_add_one, hget]
      simpa [ints] using s5
  exact loop ts4 0 none 0 0 h4 rfl (by omega) (Ext.refl _ _) New.none (by simpa [ints] using Sl.nil)
end Go.G.Ytpnhlgghpciofaa
