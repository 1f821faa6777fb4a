/- The log: Open. -/
import Derived.Test.YtlghmjehibikeaaWE
import Derived.Test.YtlghmjehibikeaaProg
set_option maxRecDepth 100000
namespace Go.G.Ytlghmjehibikeaa
open Go.RowKit
def f13_J : Nat → List Nat × Nat := jOf [(3, [0, 1, 2, 3, 6, 7, 8, 11, 12, 13, 14, 15, 16, 17, 18, 19, 20, 21, 22, 23, 24], 2)]

def f13_3 (w0 : World) (K : Value → AH → Prop) (x9 : Int) (x10 : Int) (xb0_0 : Int) (ab0_1 : Option Go.Addr) (nb0_1 : Nat) (cb0_1 : Nat) (xb1_0 : Int) (ab1_1 : Option Go.Addr) (nb1_1 : Nat) (cb1_1 : Nat) (h : AH) : Prop :=
  ∀ j : Nat → Value, LPk Go.Proofs.Try.prog w0 (EvC Go.Proofs.Try.prog w0) f13_J 13 K 3 [.v (j 0), .v (j 1), .v (j 2), .v (j 3), .bp 0 0, .bp 1 0, .v (j 6), .v (j 7), .v (j 8), .v (.int .i64 x9), .v (.int .i64 x10), .v (j 11), .v (j 12), .v (j 13), .v (j 14), .v (j 15), .v (j 16), .v (j 17), .v (j 18), .v (j 19), .v (j 20), .v (j 21), .v (j 22), .v (j 23), .v (j 24)] [some [(.int .i64 xb0_0), (.slice ab0_1 nb0_1 cb0_1)], some [(.int .i64 xb1_0), (.slice ab1_1 nb1_1 cb1_1)]] h

theorem f13_3_in {w0 : World} {K : Value → AH → Prop} (x9 : Int) (x10 : Int) (xb0_0 : Int) (ab0_1 : Option Go.Addr) (nb0_1 : Nat) (cb0_1 : Nat) (xb1_0 : Int) (ab1_1 : Option Go.Addr) (nb1_1 : Nat) (cb1_1 : Nat) (h : AH)
  (hv : (brB (decide ((x10 < x9))) (newB w0 h (Go.G.AB.cells [(Go.Value.int .u8 (Go.IntKind.wrap .u8 ((Go.IntKind.wrap .u8 x10) + (1 : Int))))] (List.length [(Go.Value.int .u8 (Go.IntKind.wrap .u8 ((Go.IntKind.wrap .u8 x10) + (1 : Int))))])) (fun b'0 h'1 => (App w0 h'1 4 64 ab1_1 nb1_1 cb1_1 1 [(Go.Value.slice (some (Go.Addr.mk b'0 0 none)) 1 1), (Go.Value.bool false), (Go.Value.int .i64 (0 : Int)), (Go.Value.slice none 0 0)] (fun a'2 c'3 h'4 => (f13_3 w0 K x9 (Go.IntKind.wrap .i64 (x10 + (1 : Int))) xb0_0 ab0_1 nb0_1 cb0_1 xb1_0 a'2 (nb1_1 + 1) c'3 h'4))))) (K (Go.Value.agg #[(Go.Value.int .i64 xb1_0), (Go.Value.slice ab1_1 nb1_1 cb1_1)]) h))) :
  f13_3 w0 K x9 x10 xb0_0 ab0_1 nb0_1 cb0_1 xb1_0 ab1_1 nb1_1 cb1_1 h := fun j => LP_intro (P := Go.Proofs.Try.prog) (Eq.mp (by kernel_rfl) hv)

theorem f13_go {w0 : World} {K : Value → AH → Prop} (x0 : Int) (x1 : Int) (h : AH)
  (hv : (f13_3 w0 K x1 (0 : Int) (0 : Int) none 0 0 x0 none 0 0 h)) :
  EvC Go.Proofs.Try.prog w0 13 ([(.int .i64 x0), (.int .i64 x1)]).toArray K h := EvC_intro (P := Go.Proofs.Try.prog) f13_J (Eq.mp (by kernel_rfl) hv)
def f69_J : Nat → List Nat × Nat := jOf [(4, [0, 2, 3, 4, 5, 6, 7, 8, 9, 10, 11, 12, 16, 17, 18, 19, 20, 21, 22, 23, 24, 25, 26, 27, 28, 29, 30, 31, 32, 33, 34, 35, 36, 37, 38, 39, 40, 41, 42, 43, 44, 45, 46, 47, 48, 49, 50, 51, 52, 53, 54], 0), (8, [0, 2, 3, 4, 5, 6, 7, 8, 9, 10, 11, 12, 16, 17, 18, 19, 20, 21, 22, 23, 24, 25, 26, 27, 28, 29, 30, 31, 32, 33, 34, 35, 36, 37, 38, 39, 40, 41, 42, 43, 44, 45, 46, 47, 48, 49, 50, 51, 52, 54], 0)]

def f69_4 (w0 : World) (K : Value → AH → Prop) (a1 : Option Go.Addr) (n1 : Nat) (c1 : Nat) (a13 : Option Go.Addr) (n13 : Nat) (c13 : Nat) (x14 : Int) (x15 : Int) (h : AH) : Prop :=
  ∀ j : Nat → Value, LPk Go.Proofs.Try.prog w0 (EvC Go.Proofs.Try.prog w0) f69_J 69 K 4 [.v (j 0), .v (.slice a1 n1 c1), .v (j 2), .v (j 3), .v (j 4), .v (j 5), .v (j 6), .v (j 7), .v (j 8), .v (j 9), .v (j 10), .v (j 11), .v (j 12), .v (.slice a13 n13 c13), .v (.int .i64 x14), .v (.int .i64 x15), .v (j 16), .v (j 17), .v (j 18), .v (j 19), .v (j 20), .v (j 21), .v (j 22), .v (j 23), .v (j 24), .v (j 25), .v (j 26), .v (j 27), .v (j 28), .v (j 29), .v (j 30), .v (j 31), .v (j 32), .v (j 33), .v (j 34), .v (j 35), .v (j 36), .v (j 37), .v (j 38), .v (j 39), .v (j 40), .v (j 41), .v (j 42), .v (j 43), .v (j 44), .v (j 45), .v (j 46), .v (j 47), .v (j 48), .v (j 49), .v (j 50), .v (j 51), .v (j 52), .v (j 53), .v (j 54)] [] h

def f69_8 (w0 : World) (K : Value → AH → Prop) (a1 : Option Go.Addr) (n1 : Nat) (c1 : Nat) (a13 : Option Go.Addr) (n13 : Nat) (c13 : Nat) (x14 : Int) (x15 : Int) (x53 : Bool) (h : AH) : Prop :=
  ∀ j : Nat → Value, LPk Go.Proofs.Try.prog w0 (EvC Go.Proofs.Try.prog w0) f69_J 69 K 8 [.v (j 0), .v (.slice a1 n1 c1), .v (j 2), .v (j 3), .v (j 4), .v (j 5), .v (j 6), .v (j 7), .v (j 8), .v (j 9), .v (j 10), .v (j 11), .v (j 12), .v (.slice a13 n13 c13), .v (.int .i64 x14), .v (.int .i64 x15), .v (j 16), .v (j 17), .v (j 18), .v (j 19), .v (j 20), .v (j 21), .v (j 22), .v (j 23), .v (j 24), .v (j 25), .v (j 26), .v (j 27), .v (j 28), .v (j 29), .v (j 30), .v (j 31), .v (j 32), .v (j 33), .v (j 34), .v (j 35), .v (j 36), .v (j 37), .v (j 38), .v (j 39), .v (j 40), .v (j 41), .v (j 42), .v (j 43), .v (j 44), .v (j 45), .v (j 46), .v (j 47), .v (j 48), .v (j 49), .v (j 50), .v (j 51), .v (j 52), .v (.bool x53), .v (j 54)] [] h

theorem f69_4_in {w0 : World} {K : Value → AH → Prop} (a1 : Option Go.Addr) (n1 : Nat) (c1 : Nat) (a13 : Option Go.Addr) (n13 : Nat) (c13 : Nat) (x14 : Int) (x15 : Int) (h : AH)
  (hv : (brB (decide ((x15 < x14))) (∃ a'0 : Go.Addr, ((a13 = (some a'0)) ∧ (((0 : Int) ≤ x15) ∧ ((x15 < ((n13 : Nat) : Int)) ∧ (∃ p'1 : Option Go.Addr, (∃ n'2 : Nat, (∃ n'3 : Nat, (∃ t'4 : Bool, (∃ i'5 : Int, (∃ p'6 : Option Go.Addr, (∃ n'7 : Nat, (∃ n'8 : Nat, ((((Array.size #[(Go.Value.slice p'1 n'2 n'3), (Go.Value.bool t'4), (Go.Value.int .i64 i'5), (Go.Value.slice p'6 n'7 n'8)]) = 4) ∧ (At w0 h (Go.Addr.add a'0 ((Int.toNat x15) * 4)) [(Go.Value.slice p'1 n'2 n'3), (Go.Value.bool t'4), (Go.Value.int .i64 i'5), (Go.Value.slice p'6 n'7 n'8)])) ∧ (∃ a'9 : Go.Addr, ((a1 = (some a'9)) ∧ (((0 : Int) ≤ x15) ∧ ((x15 < ((n1 : Nat) : Int)) ∧ (∃ p'10 : Option Go.Addr, (∃ n'11 : Nat, (∃ n'12 : Nat, (∃ t'13 : Bool, (∃ i'14 : Int, (∃ p'15 : Option Go.Addr, (∃ n'16 : Nat, (∃ n'17 : Nat, ((((Array.size #[(Go.Value.slice p'10 n'11 n'12), (Go.Value.bool t'13), (Go.Value.int .i64 i'14), (Go.Value.slice p'15 n'16 n'17)]) = 4) ∧ (At w0 h (Go.Addr.add a'9 ((Int.toNat x15) * 4)) [(Go.Value.slice p'10 n'11 n'12), (Go.Value.bool t'13), (Go.Value.int .i64 i'14), (Go.Value.slice p'15 n'16 n'17)])) ∧ (rowsOf w0 h 1 p'1 n'2 (fun ys'18 => (∃ s'19 : ByteArray, ((ys'18 = (Go.G.intsOf s'19)) ∧ (rowsOf w0 h 1 p'10 n'11 (fun ys'20 => (∃ s'21 : ByteArray, ((ys'20 = (Go.G.intsOf s'21)) ∧ (brB (!(decide ((s'19 = s'21)))) (f69_8 w0 K a1 n1 c1 a13 n13 c13 x14 x15 true h) (brB (t'4 != t'13) (f69_8 w0 K a1 n1 c1 a13 n13 c13 x14 x15 true h) (brB (i'5 != i'14) (f69_8 w0 K a1 n1 c1 a13 n13 c13 x14 x15 true h) (rowsOf w0 h 1 p'6 n'7 (fun ys'22 => (∃ s'23 : ByteArray, ((ys'22 = (Go.G.intsOf s'23)) ∧ (rowsOf w0 h 1 p'15 n'16 (fun ys'24 => (∃ s'25 : ByteArray, ((ys'24 = (Go.G.intsOf s'25)) ∧ (f69_8 w0 K a1 n1 c1 a13 n13 c13 x14 x15 (!(decide ((s'23 = s'25)))) h)))))))))))))))))))))))))))))))))))))))))))))) (K (Go.Value.bool true) h))) :
  f69_4 w0 K a1 n1 c1 a13 n13 c13 x14 x15 h := fun j => LP_intro (P := Go.Proofs.Try.prog) (Eq.mp (by kernel_rfl) hv)

theorem f69_8_in {w0 : World} {K : Value → AH → Prop} (a1 : Option Go.Addr) (n1 : Nat) (c1 : Nat) (a13 : Option Go.Addr) (n13 : Nat) (c13 : Nat) (x14 : Int) (x15 : Int) (x53 : Bool) (h : AH)
  (hv : (brB x53 (K (Go.Value.bool false) h) (f69_4 w0 K a1 n1 c1 a13 n13 c13 x14 (Go.IntKind.wrap .i64 (x15 + (1 : Int))) h))) :
  f69_8 w0 K a1 n1 c1 a13 n13 c13 x14 x15 x53 h := fun j => LP_intro (P := Go.Proofs.Try.prog) (Eq.mp (by kernel_rfl) hv)

theorem f69_go {w0 : World} {K : Value → AH → Prop} (a0 : Option Go.Addr) (n0 : Nat) (c0 : Nat) (a1 : Option Go.Addr) (n1 : Nat) (c1 : Nat) (h : AH)
  (hv : (brB (((n0 : Nat) : Int) != ((n1 : Nat) : Int)) (K (Go.Value.bool false) h) (f69_4 w0 K a1 n1 c1 a0 n0 c0 ((n0 : Nat) : Int) (0 : Int) h))) :
  EvC Go.Proofs.Try.prog w0 69 ([(.slice a0 n0 c0), (.slice a1 n1 c1)]).toArray K h := EvC_intro (P := Go.Proofs.Try.prog) f69_J (Eq.mp (by kernel_rfl) hv)
def f38_J : Nat → List Nat × Nat := jOf []



theorem f38_go {w0 : World} {K : Value → AH → Prop} (x0_0 : Int) (a0_1 : Option Go.Addr) (n0_1 : Nat) (c0_1 : Nat) (x1_0 : Int) (a1_1 : Option Go.Addr) (n1_1 : Nat) (c1_1 : Nat) (h : AH)
  (hv : (brB (x0_0 == x1_0) (EvC Go.Proofs.Try.prog w0 69 #[(Go.Value.slice a0_1 n0_1 c0_1), (Go.Value.slice a1_1 n1_1 c1_1)] (fun x'0 h'1 => (∃ t'2 : Bool, ((x'0 = (Go.Value.bool t'2)) ∧ (K (Go.Value.bool t'2) h'1)))) h) (K (Go.Value.bool false) h))) :
  EvC Go.Proofs.Try.prog w0 38 ([(.agg #[(.int .i64 x0_0), (.slice a0_1 n0_1 c0_1)]), (.agg #[(.int .i64 x1_0), (.slice a1_1 n1_1 c1_1)])]).toArray K h := EvC_intro (P := Go.Proofs.Try.prog) f38_J (Eq.mp (by kernel_rfl) hv)
def f16_J : Nat → List Nat × Nat := jOf [(4, [2, 3, 4, 5, 6, 7, 8, 9, 10, 11, 14, 15, 16, 17, 18, 19, 20, 21, 22, 23, 24, 25, 26], 0)]

def f16_4 (w0 : World) (K : Value → AH → Prop) (a0 : Option Go.Addr) (n0 : Nat) (c0 : Nat) (a1 : Option Go.Addr) (n1 : Nat) (c1 : Nat) (x12 : Int) (x13 : Int) (h : AH) : Prop :=
  ∀ j : Nat → Value, LPk Go.Proofs.Try.prog w0 (EvC Go.Proofs.Try.prog w0) f16_J 16 K 4 [.v (.slice a0 n0 c0), .v (.slice a1 n1 c1), .v (j 2), .v (j 3), .v (j 4), .v (j 5), .v (j 6), .v (j 7), .v (j 8), .v (j 9), .v (j 10), .v (j 11), .v (.int .i64 x12), .v (.int .i64 x13), .v (j 14), .v (j 15), .v (j 16), .v (j 17), .v (j 18), .v (j 19), .v (j 20), .v (j 21), .v (j 22), .v (j 23), .v (j 24), .v (j 25), .v (j 26)] [] h

theorem f16_4_in {w0 : World} {K : Value → AH → Prop} (a0 : Option Go.Addr) (n0 : Nat) (c0 : Nat) (a1 : Option Go.Addr) (n1 : Nat) (c1 : Nat) (x12 : Int) (x13 : Int) (h : AH)
  (hv : (brB (decide ((x13 < x12))) (∃ a'0 : Go.Addr, ((a0 = (some a'0)) ∧ (((0 : Int) ≤ x13) ∧ ((x13 < ((n0 : Nat) : Int)) ∧ (∃ a'1 : Go.Addr, ((a1 = (some a'1)) ∧ (((0 : Int) ≤ x13) ∧ ((x13 < ((n1 : Nat) : Int)) ∧ ((∃ i'2 : Int, (∃ p'3 : Option Go.Addr, (∃ n'4 : Nat, (∃ n'5 : Nat, ((((Array.size #[(Go.Value.int .i64 i'2), (Go.Value.slice p'3 n'4 n'5)]) = 2) ∧ (At w0 h (Go.Addr.add a'0 ((Int.toNat x13) * 2)) [(Go.Value.int .i64 i'2), (Go.Value.slice p'3 n'4 n'5)])) ∧ (∃ i'6 : Int, (∃ p'7 : Option Go.Addr, (∃ n'8 : Nat, (∃ n'9 : Nat, ((((Array.size #[(Go.Value.int .i64 i'6), (Go.Value.slice p'7 n'8 n'9)]) = 2) ∧ (At w0 h (Go.Addr.add a'1 ((Int.toNat x13) * 2)) [(Go.Value.int .i64 i'6), (Go.Value.slice p'7 n'8 n'9)])) ∧ (EvC Go.Proofs.Try.prog w0 38 #[(Go.Value.agg #[(Go.Value.int .i64 i'2), (Go.Value.slice p'3 n'4 n'5)]), (Go.Value.agg #[(Go.Value.int .i64 i'6), (Go.Value.slice p'7 n'8 n'9)])] (fun x'10 h'11 => (∃ t'12 : Bool, ((x'10 = (Go.Value.bool t'12)) ∧ (brB (!t'12) (K (Go.Value.bool false) h'11) (f16_4 w0 K a0 n0 c0 a1 n1 c1 x12 (Go.IntKind.wrap .i64 (x13 + (1 : Int))) h'11))))) h))))))))))) ∧ (∃ i'13 : Int, (∃ p'14 : Option Go.Addr, (∃ n'15 : Nat, (∃ n'16 : Nat, ((((Array.size #[(Go.Value.int .i64 i'13), (Go.Value.slice p'14 n'15 n'16)]) = 2) ∧ (At w0 h (Go.Addr.add a'1 ((Int.toNat x13) * 2)) [(Go.Value.int .i64 i'13), (Go.Value.slice p'14 n'15 n'16)])) ∧ (∃ i'17 : Int, (∃ p'18 : Option Go.Addr, (∃ n'19 : Nat, (∃ n'20 : Nat, ((((Array.size #[(Go.Value.int .i64 i'17), (Go.Value.slice p'18 n'19 n'20)]) = 2) ∧ (At w0 h (Go.Addr.add a'0 ((Int.toNat x13) * 2)) [(Go.Value.int .i64 i'17), (Go.Value.slice p'18 n'19 n'20)])) ∧ (EvC Go.Proofs.Try.prog w0 38 #[(Go.Value.agg #[(Go.Value.int .i64 i'17), (Go.Value.slice p'18 n'19 n'20)]), (Go.Value.agg #[(Go.Value.int .i64 i'13), (Go.Value.slice p'14 n'15 n'16)])] (fun x'21 h'22 => (∃ t'23 : Bool, ((x'21 = (Go.Value.bool t'23)) ∧ (brB (!t'23) (K (Go.Value.bool false) h'22) (f16_4 w0 K a0 n0 c0 a1 n1 c1 x12 (Go.IntKind.wrap .i64 (x13 + (1 : Int))) h'22))))) h)))))))))))))))))))) (K (Go.Value.bool true) h))) :
  f16_4 w0 K a0 n0 c0 a1 n1 c1 x12 x13 h := fun j => LP_intro (P := Go.Proofs.Try.prog) (Eq.mp (by kernel_rfl) hv)

theorem f16_go {w0 : World} {K : Value → AH → Prop} (a0 : Option Go.Addr) (n0 : Nat) (c0 : Nat) (a1 : Option Go.Addr) (n1 : Nat) (c1 : Nat) (h : AH)
  (hv : (brB (((n0 : Nat) : Int) != ((n1 : Nat) : Int)) (K (Go.Value.bool false) h) (f16_4 w0 K a0 n0 c0 a1 n1 c1 ((n0 : Nat) : Int) (0 : Int) h))) :
  EvC Go.Proofs.Try.prog w0 16 ([(.slice a0 n0 c0), (.slice a1 n1 c1)]).toArray K h := EvC_intro (P := Go.Proofs.Try.prog) f16_J (Eq.mp (by kernel_rfl) hv)
def f11_J : Nat → List Nat × Nat := jOf [(6, [0, 1, 2, 3, 4, 5, 6, 8, 11, 12, 13, 14, 15, 16, 17, 18, 19, 20, 21, 22, 23, 24, 25, 26, 27, 28, 29, 30, 31, 32, 33, 34, 35, 36, 37, 38, 39, 40, 41, 42, 43, 44, 45, 46, 47, 48, 49, 50, 51, 52, 53, 54, 55, 56, 57, 58, 59, 60, 61, 62, 63, 64, 65, 66, 67, 68, 69, 70, 71, 72, 73, 74, 75, 76, 77, 78, 79, 80, 81, 82, 83, 84, 85, 86, 87, 88, 89, 90, 91, 92, 93, 94, 95, 96, 97, 98, 99, 100, 101, 102, 103, 104, 105], 1), (10000, [0, 1, 2, 3, 4, 5, 6, 8, 11, 12, 13, 14, 15, 16, 17, 18, 19, 20, 21, 22, 23, 24, 25, 26, 27, 28, 29, 30, 31, 32, 33, 34, 35, 36, 37, 38, 39, 40, 41, 42, 43, 44, 45, 46, 47, 48, 49, 50, 51, 52, 53, 54, 55, 56, 57, 58, 59, 60, 61, 62, 63, 64, 65, 66, 67, 68, 69, 70, 71, 72, 73, 74, 75, 76, 77, 78, 79, 80, 81, 82, 83, 84, 85, 86, 87, 88, 89, 90, 91, 92, 93, 94, 95, 96, 97, 98, 99, 100, 101, 102, 103, 104, 105], 1), (11, [0, 1, 2, 3, 4, 5, 6, 8, 11, 13, 15, 16, 17, 18, 19, 20, 21, 22, 23, 24, 25, 26, 27, 28, 29, 30, 31, 32, 33, 34, 35, 36, 37, 38, 39, 40, 41, 42, 43, 44, 45, 46, 47, 48, 49, 50, 51, 52, 53, 54, 55, 56, 57, 58, 59, 60, 61, 62, 63, 64, 65, 66, 67, 68, 69, 70, 71, 72, 73, 74, 75, 76, 77, 78, 79, 80, 81, 82, 83, 84, 85, 86, 87, 88, 89, 90, 91, 92, 93, 94, 95, 96, 97, 98, 99, 100, 101, 102, 103, 104, 105], 2)]

def f11_6 (w0 : World) (K : Value → AH → Prop) (a7 : Option Go.Addr) (n7 : Nat) (c7 : Nat) (a10 : Option Go.Addr) (n10 : Nat) (c10 : Nat) (xb0_0 : Option Go.Addr) (xb0_1 : ByteArray) (xb0_2 : Int) (xb0_3 : Int) (xb0_4 : Bool) (xb0_5 : Bool) (h : AH) : Prop :=
  ∀ j : Nat → Value, LPk Go.Proofs.Try.prog w0 (EvC Go.Proofs.Try.prog w0) f11_J 11 K 6 [.v (j 0), .v (j 1), .v (j 2), .v (j 3), .v (j 4), .v (j 5), .v (j 6), .v (.slice a7 n7 c7), .v (j 8), .bp 0 0, .v (.slice a10 n10 c10), .v (j 11), .v (j 12), .v (j 13), .v (j 14), .v (j 15), .v (j 16), .v (j 17), .v (j 18), .v (j 19), .v (j 20), .v (j 21), .v (j 22), .v (j 23), .v (j 24), .v (j 25), .v (j 26), .v (j 27), .v (j 28), .v (j 29), .v (j 30), .v (j 31), .v (j 32), .v (j 33), .v (j 34), .v (j 35), .v (j 36), .v (j 37), .v (j 38), .v (j 39), .v (j 40), .v (j 41), .v (j 42), .v (j 43), .v (j 44), .v (j 45), .v (j 46), .v (j 47), .v (j 48), .v (j 49), .v (j 50), .v (j 51), .v (j 52), .v (j 53), .v (j 54), .v (j 55), .v (j 56), .v (j 57), .v (j 58), .v (j 59), .v (j 60), .v (j 61), .v (j 62), .v (j 63), .v (j 64), .v (j 65), .v (j 66), .v (j 67), .v (j 68), .v (j 69), .v (j 70), .v (j 71), .v (j 72), .v (j 73), .v (j 74), .v (j 75), .v (j 76), .v (j 77), .v (j 78), .v (j 79), .v (j 80), .v (j 81), .v (j 82), .v (j 83), .v (j 84), .v (j 85), .v (j 86), .v (j 87), .v (j 88), .v (j 89), .v (j 90), .v (j 91), .v (j 92), .v (j 93), .v (j 94), .v (j 95), .v (j 96), .v (j 97), .v (j 98), .v (j 99), .v (j 100), .v (j 101), .v (j 102), .v (j 103), .v (j 104), .v (j 105)] [some [(.pointer xb0_0), (.string xb0_1), (.int .i64 xb0_2), (.int .i64 xb0_3), (.bool xb0_4), (.bool xb0_5)]] h

def f11_10000 (w0 : World) (K : Value → AH → Prop) (a7 : Option Go.Addr) (n7 : Nat) (c7 : Nat) (a10 : Option Go.Addr) (n10 : Nat) (c10 : Nat) (xb0_0 : Option Go.Addr) (xb0_1 : ByteArray) (xb0_2 : Int) (xb0_3 : Int) (xb0_4 : Bool) (xb0_5 : Bool) (h : AH) : Prop :=
  ∀ j : Nat → Value, LPk Go.Proofs.Try.prog w0 (EvC Go.Proofs.Try.prog w0) f11_J 11 K 10000 [.v (j 0), .v (j 1), .v (j 2), .v (j 3), .v (j 4), .v (j 5), .v (j 6), .v (.slice a7 n7 c7), .v (j 8), .bp 0 0, .v (.slice a10 n10 c10), .v (j 11), .v (j 12), .v (j 13), .v (j 14), .v (j 15), .v (j 16), .v (j 17), .v (j 18), .v (j 19), .v (j 20), .v (j 21), .v (j 22), .v (j 23), .v (j 24), .v (j 25), .v (j 26), .v (j 27), .v (j 28), .v (j 29), .v (j 30), .v (j 31), .v (j 32), .v (j 33), .v (j 34), .v (j 35), .v (j 36), .v (j 37), .v (j 38), .v (j 39), .v (j 40), .v (j 41), .v (j 42), .v (j 43), .v (j 44), .v (j 45), .v (j 46), .v (j 47), .v (j 48), .v (j 49), .v (j 50), .v (j 51), .v (j 52), .v (j 53), .v (j 54), .v (j 55), .v (j 56), .v (j 57), .v (j 58), .v (j 59), .v (j 60), .v (j 61), .v (j 62), .v (j 63), .v (j 64), .v (j 65), .v (j 66), .v (j 67), .v (j 68), .v (j 69), .v (j 70), .v (j 71), .v (j 72), .v (j 73), .v (j 74), .v (j 75), .v (j 76), .v (j 77), .v (j 78), .v (j 79), .v (j 80), .v (j 81), .v (j 82), .v (j 83), .v (j 84), .v (j 85), .v (j 86), .v (j 87), .v (j 88), .v (j 89), .v (j 90), .v (j 91), .v (j 92), .v (j 93), .v (j 94), .v (j 95), .v (j 96), .v (j 97), .v (j 98), .v (j 99), .v (j 100), .v (j 101), .v (j 102), .v (j 103), .v (j 104), .v (j 105)] [some [(.pointer xb0_0), (.string xb0_1), (.int .i64 xb0_2), (.int .i64 xb0_3), (.bool xb0_4), (.bool xb0_5)]] h

def f11_11 (w0 : World) (K : Value → AH → Prop) (a7 : Option Go.Addr) (n7 : Nat) (c7 : Nat) (a10 : Option Go.Addr) (n10 : Nat) (c10 : Nat) (x12 : Int) (xb0_0 : Option Go.Addr) (xb0_1 : ByteArray) (xb0_2 : Int) (xb0_3 : Int) (xb0_4 : Bool) (xb0_5 : Bool) (xb1_0 : Int) (ab1_1 : Option Go.Addr) (nb1_1 : Nat) (cb1_1 : Nat) (h : AH) : Prop :=
  ∀ j : Nat → Value, LPk Go.Proofs.Try.prog w0 (EvC Go.Proofs.Try.prog w0) f11_J 11 K 11 [.v (j 0), .v (j 1), .v (j 2), .v (j 3), .v (j 4), .v (j 5), .v (j 6), .v (.slice a7 n7 c7), .v (j 8), .bp 0 0, .v (.slice a10 n10 c10), .v (j 11), .v (.int .i64 x12), .v (j 13), .bp 1 0, .v (j 15), .v (j 16), .v (j 17), .v (j 18), .v (j 19), .v (j 20), .v (j 21), .v (j 22), .v (j 23), .v (j 24), .v (j 25), .v (j 26), .v (j 27), .v (j 28), .v (j 29), .v (j 30), .v (j 31), .v (j 32), .v (j 33), .v (j 34), .v (j 35), .v (j 36), .v (j 37), .v (j 38), .v (j 39), .v (j 40), .v (j 41), .v (j 42), .v (j 43), .v (j 44), .v (j 45), .v (j 46), .v (j 47), .v (j 48), .v (j 49), .v (j 50), .v (j 51), .v (j 52), .v (j 53), .v (j 54), .v (j 55), .v (j 56), .v (j 57), .v (j 58), .v (j 59), .v (j 60), .v (j 61), .v (j 62), .v (j 63), .v (j 64), .v (j 65), .v (j 66), .v (j 67), .v (j 68), .v (j 69), .v (j 70), .v (j 71), .v (j 72), .v (j 73), .v (j 74), .v (j 75), .v (j 76), .v (j 77), .v (j 78), .v (j 79), .v (j 80), .v (j 81), .v (j 82), .v (j 83), .v (j 84), .v (j 85), .v (j 86), .v (j 87), .v (j 88), .v (j 89), .v (j 90), .v (j 91), .v (j 92), .v (j 93), .v (j 94), .v (j 95), .v (j 96), .v (j 97), .v (j 98), .v (j 99), .v (j 100), .v (j 101), .v (j 102), .v (j 103), .v (j 104), .v (j 105)] [some [(.pointer xb0_0), (.string xb0_1), (.int .i64 xb0_2), (.int .i64 xb0_3), (.bool xb0_4), (.bool xb0_5)], some [(.int .i64 xb1_0), (.slice ab1_1 nb1_1 cb1_1)]] h

theorem f11_6_in {w0 : World} {K : Value → AH → Prop} (a7 : Option Go.Addr) (n7 : Nat) (c7 : Nat) (a10 : Option Go.Addr) (n10 : Nat) (c10 : Nat) (xb0_0 : Option Go.Addr) (xb0_1 : ByteArray) (xb0_2 : Int) (xb0_3 : Int) (xb0_4 : Bool) (xb0_5 : Bool) (h : AH)
  (hv : (brB (decide ((xb0_3 < ((n7 : Nat) : Int)))) (((0 : Int) ≤ xb0_3) ∧ ((xb0_3 ≤ ((n7 : Nat) : Int)) ∧ (EvC Go.Proofs.Try.prog w0 32 #[(Go.Value.slice (Go.G.cutA 1 a7 c7 (Int.toNat xb0_3)) (n7 - (Int.toNat xb0_3)) (c7 - (Int.toNat xb0_3)))] (fun x'6 h'7 => (∃ p'8 : Option Go.Addr, (∃ n'9 : Nat, (∃ n'10 : Nat, (∃ i'11 : Int, (∃ i'12 : Int, ((x'6 = (Go.Value.tuple #[(Go.Value.slice p'8 n'9 n'10), (Go.Value.int .i64 i'11), (Go.Value.int .i64 i'12)])) ∧ (brB (i'12 != (0 : Int)) (f11_10000 w0 K a7 n7 c7 a10 n10 c10 xb0_0 xb0_1 xb0_2 xb0_3 xb0_4 xb0_5 h'7) (EvC Go.Proofs.Try.prog w0 33 #[(Go.Value.slice p'8 n'9 n'10)] (fun x'13 h'14 => (∃ i'15 : Int, (∃ p'16 : Option Go.Addr, (∃ n'17 : Nat, (∃ n'18 : Nat, (∃ i'19 : Int, ((x'13 = (Go.Value.tuple #[(Go.Value.agg #[(Go.Value.int .i64 i'15), (Go.Value.slice p'16 n'17 n'18)]), (Go.Value.int .i64 i'19)])) ∧ (brB (i'19 != (0 : Int)) (f11_10000 w0 K a7 n7 c7 a10 n10 c10 xb0_0 xb0_1 xb0_2 xb0_3 xb0_4 xb0_5 h'14) (brB (decide (((0 : Int) < xb0_2))) (brB (i'15 != (Go.IntKind.wrap .i64 (xb0_2 + (1 : Int)))) (f11_10000 w0 K a7 n7 c7 a10 n10 c10 xb0_0 xb0_1 xb0_2 xb0_3 xb0_4 xb0_5 h'14) (f11_11 w0 K a7 n7 c7 a10 n10 c10 i'11 xb0_0 xb0_1 xb0_2 xb0_3 xb0_4 xb0_5 i'15 p'16 n'17 n'18 h'14)) (f11_11 w0 K a7 n7 c7 a10 n10 c10 i'11 xb0_0 xb0_1 xb0_2 xb0_3 xb0_4 xb0_5 i'15 p'16 n'17 n'18 h'14)))))))))) h'7))))))))) h))) (newB w0 h (Go.G.AB.cells [(Go.Value.pointer xb0_0), (Go.Value.string xb0_1), (Go.Value.int .i64 xb0_2), (Go.Value.int .i64 xb0_3), (Go.Value.bool (decide ((xb0_3 < ((n7 : Nat) : Int))))), (Go.Value.bool xb0_5)] (List.length [(Go.Value.pointer xb0_0), (Go.Value.string xb0_1), (Go.Value.int .i64 xb0_2), (Go.Value.int .i64 xb0_3), (Go.Value.bool (decide ((xb0_3 < ((n7 : Nat) : Int))))), (Go.Value.bool xb0_5)])) (fun b'20 h'21 => (K (Go.Value.tuple #[(Go.Value.pointer (some (Go.Addr.mk b'20 0 none))), (Go.Value.slice a10 n10 c10), (Go.Value.int .i64 (0 : Int))]) h'21))))) :
  f11_6 w0 K a7 n7 c7 a10 n10 c10 xb0_0 xb0_1 xb0_2 xb0_3 xb0_4 xb0_5 h := fun j => LP_intro (P := Go.Proofs.Try.prog) (Eq.mp (by kernel_rfl) hv)

theorem f11_10000_in {w0 : World} {K : Value → AH → Prop} (a7 : Option Go.Addr) (n7 : Nat) (c7 : Nat) (a10 : Option Go.Addr) (n10 : Nat) (c10 : Nat) (xb0_0 : Option Go.Addr) (xb0_1 : ByteArray) (xb0_2 : Int) (xb0_3 : Int) (xb0_4 : Bool) (xb0_5 : Bool) (h : AH)
  (hv : (newB w0 h (Go.G.AB.cells [(Go.Value.pointer xb0_0), (Go.Value.string xb0_1), (Go.Value.int .i64 xb0_2), (Go.Value.int .i64 xb0_3), (Go.Value.bool (decide ((xb0_3 < ((n7 : Nat) : Int))))), (Go.Value.bool xb0_5)] (List.length [(Go.Value.pointer xb0_0), (Go.Value.string xb0_1), (Go.Value.int .i64 xb0_2), (Go.Value.int .i64 xb0_3), (Go.Value.bool (decide ((xb0_3 < ((n7 : Nat) : Int))))), (Go.Value.bool xb0_5)])) (fun b'22 h'23 => (K (Go.Value.tuple #[(Go.Value.pointer (some (Go.Addr.mk b'22 0 none))), (Go.Value.slice a10 n10 c10), (Go.Value.int .i64 (0 : Int))]) h'23)))) :
  f11_10000 w0 K a7 n7 c7 a10 n10 c10 xb0_0 xb0_1 xb0_2 xb0_3 xb0_4 xb0_5 h := fun j => LP_intro (P := Go.Proofs.Try.prog) (Eq.mp (by kernel_rfl) hv)

theorem f11_11_in {w0 : World} {K : Value → AH → Prop} (a7 : Option Go.Addr) (n7 : Nat) (c7 : Nat) (a10 : Option Go.Addr) (n10 : Nat) (c10 : Nat) (x12 : Int) (xb0_0 : Option Go.Addr) (xb0_1 : ByteArray) (xb0_2 : Int) (xb0_3 : Int) (xb0_4 : Bool) (xb0_5 : Bool) (xb1_0 : Int) (ab1_1 : Option Go.Addr) (nb1_1 : Nat) (cb1_1 : Nat) (h : AH)
  (hv : (App w0 h 2 32 a10 n10 c10 1 [(Go.Value.int .i64 xb1_0), (Go.Value.slice ab1_1 nb1_1 cb1_1)] (fun a'24 c'25 h'26 => (f11_6 w0 K a7 n7 c7 a'24 (n10 + 1) c'25 xb0_0 xb0_1 (Go.IntKind.wrap .i64 ((Go.IntKind.wrap .i64 (xb1_0 + ((nb1_1 : Nat) : Int))) - (1 : Int))) (Go.IntKind.wrap .i64 (xb0_3 + x12)) xb0_4 xb0_5 h'26)))) :
  f11_11 w0 K a7 n7 c7 a10 n10 c10 x12 xb0_0 xb0_1 xb0_2 xb0_3 xb0_4 xb0_5 xb1_0 ab1_1 nb1_1 cb1_1 h := fun j => LP_intro (P := Go.Proofs.Try.prog) (Eq.mp (by kernel_rfl) hv)

theorem f11_go {w0 : World} {K : Value → AH → Prop} (x0 : Option Go.Addr) (x1 : ByteArray) (h : AH)
  (hv : (EvC Go.Proofs.Try.prog w0 31 #[(Go.Value.pointer x0), (Go.Value.string x1)] (fun x'0 h'1 => (∃ p'2 : Option Go.Addr, (∃ n'3 : Nat, (∃ n'4 : Nat, (∃ i'5 : Int, ((x'0 = (Go.Value.tuple #[(Go.Value.slice p'2 n'3 n'4), (Go.Value.int .i64 i'5)])) ∧ (brB (i'5 != (0 : Int)) (K (Go.Value.tuple #[(Go.Value.pointer none), (Go.Value.slice none 0 0), (Go.Value.int .i64 i'5)]) h'1) (f11_6 w0 K p'2 n'3 n'4 none 0 0 x0 x1 (0 : Int) (0 : Int) false false h'1)))))))) h)) :
  EvC Go.Proofs.Try.prog w0 11 ([(.pointer x0), (.string x1)]).toArray K h := EvC_intro (P := Go.Proofs.Try.prog) f11_J (Eq.mp (by kernel_rfl) hv)
/-! ### rows of batches; one; are they the same -/
abbrev Bat := Int × List Op
structure BaM where
  seq : Int
  a : Option Addr
  c : Nat
  os : List OpM
def BaM.bat (m : BaM) : Bat := (m.seq, m.os.map OpM.o)
@[reducible] def BaM.cells (m : BaM) : List Value := [.int .i64 m.seq, .slice m.a m.os.length m.c]
def batC (l : List BaM) : List Value := l.flatMap BaM.cells
def ownB (l : List BaM) : List (Nat × AB) := l.flatMap fun m => slB m.a (opsC m.os) (m.c * 4) ++ ownO m.os
def BsV (l : List BaM) : Prop := ∀ m ∈ l, SlV 4 m.a m.os.length m.c (opsC m.os) ∧ OsV m.os
structure BatsOk (w0 : World) (h : AH) (a : Option Addr) (l : List BaM) : Prop where
  rd : Rd w0 h a (batC l)
  os : ∀ m ∈ l, OpsOk w0 h m.a m.os
theorem ownB_split {l : List BaM} {m : BaM} (h : m ∈ l) : ∃ C D, ownB l = C ++ (slB m.a (opsC m.os) (m.c * 4) ++ (ownO m.os ++ D)) := by
  obtain ⟨x, y, rfl⟩ := List.append_of_mem h
  exact ⟨ownB x, ownB y, by simp [ownB]⟩
theorem batsOk_own {w0 : World} {h : AH} {C B : List (Nat × AB)} {a : Option Addr} {c : Nat} {l : List BaM} (v : SlV 2 a l.length c (batC l)) (vs : BsV l) (w : Own w0 h (C ++ (slB a (batC l) (c * 2) ++ (ownB l ++ B)))) : BatsOk w0 h a l := by
  refine ⟨v.rd w, fun m hm => ?_⟩
  obtain ⟨X, Y, e⟩ := ownB_split hm
  rw [e] at w
  exact opsOk_own (C := C ++ (slB a (batC l) (c * 2) ++ X)) (B := Y ++ B) (vs m hm).1 (vs m hm).2 (by simpa only [List.append_assoc] using w)
def oneS (n : Nat) : List Op := (List.range n).map fun i => ⟨[UInt8.ofNat (i + 1)], false, 0, []⟩
theorem oneS_len (n : Nat) : (oneS n).length = n := by simp [oneS]
theorem oneS_step (n : Nat) : oneS (n + 1) = oneS n ++ [⟨[UInt8.ofNat (n + 1)], false, 0, []⟩] := by simp [oneS, List.range_succ]
theorem mayO_one (b : UInt8) : mayO ⟨[b], false, 0, []⟩ = 0 := by simp [mayO]
theorem mayOs_of : ∀ {l : List Op}, (∀ o ∈ l, mayO o = 0) → mayOs l = 0
  | [], _ => rfl
  | o :: r, h => by
    unfold mayOs
    rw [if_neg (by rw [h o (List.mem_cons_self ..)]; simp)]
    exact mayOs_of fun x hx => h x (List.mem_cons_of_mem _ hx)
theorem mayB_one {seq : Int} {n : Nat} (h1 : 1 ≤ n) (h2 : n ≤ 400) (h3 : 1 ≤ seq) (h4 : seq ≤ 4611686018427387904 - (n : Int) + 1) : mayB seq (oneS n) = 0 := by
  unfold mayB
  rw [oneS_len, if_neg (by omega), if_neg (by omega)]
  refine mayOs_of fun o ho => ?_
  obtain ⟨i, _, rfl⟩ := List.mem_map.1 ho
  exact mayO_one _
section
variable {w0 : World} {K : Value → AH → Prop} {h : AH} {B : List (Nat × AB)}
/-- one. -/
theorem f13_spec {seq : Int} {n : Nat} (w : Own w0 h B) (hn : n ≤ 200)
    (hk : ∀ h' a' c' os, os.map OpM.o = oneS n → SlV 4 a' os.length c' (opsC os) → OsV os → Own w0 h' (slB a' (opsC os) (c' * 4) ++ (ownO os ++ B)) → K (.agg #[.int .i64 seq, .slice a' os.length c']) h') :
    EvC Go.Proofs.Try.prog w0 13 #[.int .i64 seq, .int .i64 ((n : Nat) : Int)] K h := by
  have loop : ∀ (k i : Nat) (os : List OpM) (a' : Option Addr) (c' : Nat) (h1 : AH), i + k = n → os.map OpM.o = oneS i → SlV 4 a' os.length c' (opsC os) → OsV os → Own w0 h1 (slB a' (opsC os) (c' * 4) ++ (ownO os ++ B)) →
      f13_3 w0 K ((n : Nat) : Int) ((i : Nat) : Int) 0 none 0 0 seq a' os.length c' h1 := by
    intro k
    induction k with
    | zero =>
      intro i os a' c' h1 hi he v vs w
      have : i = n := by omega
      subst this
      exact f13_3_in _ _ _ _ _ _ _ _ _ _ _ (brB_of (fun q => by have := of_decide_eq_true q; omega) fun _ => hk h1 a' c' os he v vs w)
    | succ k ih =>
      intro i os a' c' h1 hi he v vs w
      have hol : os.length = i := by have := congrArg List.length he; rw [oneS_len] at this; simpa using this
      refine f13_3_in _ _ _ _ _ _ _ _ _ _ _ (brB_of (fun _ b hb hbn => ?_) fun q => by have := of_decide_eq_false q; omega)
      have eb : IntKind.u8.wrap (IntKind.u8.wrap ((i : Nat) : Int) + 1) = ((i + 1 : Nat) : Int) := by
        rw [wrap8, Nat.mod_eq_of_lt (by omega), show (((i : Nat) : Int) + 1) = ((i + 1 : Nat) : Int) by omega, wrap8, Nat.mod_eq_of_lt (by omega)]
      rw [eb, byte_cell (by omega)]
      have w2 := w.new (o := .cells (u8s [UInt8.ofNat (i + 1)]) 1) hb hbn
      refine App_mid (cs := [(b, .cells (u8s [UInt8.ofNat (i + 1)]) 1)]) v w2 (by omega) (by omega) rfl (row4_cell ⟨some ⟨b, 0, none⟩, 1, none, 0, ⟨[UInt8.ofNat (i + 1)], false, 0, []⟩⟩) fun a8 c8 h8 v8 w8 => ?_
      rw [wrapS (by omega)]
      have eo : opsC os ++ [.slice (some ⟨b, 0, none⟩) 1 1, .bool false, .int .i64 0, .slice none 0 0] = opsC (os ++ [(⟨some ⟨b, 0, none⟩, 1, none, 0, ⟨[UInt8.ofNat (i + 1)], false, 0, []⟩⟩ : OpM)]) := by simp [opsC]
      have ex : OpM.cells ⟨some ⟨b, 0, none⟩, 1, none, 0, ⟨[UInt8.ofNat (i + 1)], false, 0, []⟩⟩ = [.slice (some ⟨b, 0, none⟩) 1 1, .bool false, .int .i64 0, .slice none 0 0] := rfl
      rw [eo] at v8 w8
      have := ih (i + 1) (os ++ [(⟨some ⟨b, 0, none⟩, 1, none, 0, ⟨[UInt8.ofNat (i + 1)], false, 0, []⟩⟩ : OpM)]) a8 c8 h8 (by omega) (by rw [List.map_append, he, oneS_step]; rfl) (by rw [List.length_append]; exact v8) (fun m hm => ?_) ?_
      · rw [List.length_append] at this
        exact this
      · rcases List.mem_append.1 hm with hm | hm
        · exact vs m hm
        · rw [List.mem_singleton] at hm; subst hm
          exact ⟨⟨rfl, Nat.le_refl _, rfl, rfl⟩, SlV.nil⟩
      · have eow : ownO (os ++ [(⟨some ⟨b, 0, none⟩, 1, none, 0, ⟨[UInt8.ofNat (i + 1)], false, 0, []⟩⟩ : OpM)]) = ownO os ++ [(b, .cells (u8s [UInt8.ofNat (i + 1)]) 1)] := by simp [ownO, slB]
        rw [eow]
        refine w8.perm ?_
        have := List.perm_append_comm_assoc [(b, AB.cells (u8s [UInt8.ofNat (i + 1)]) 1)] (slB a8 (opsC (os ++ [(⟨some ⟨b, 0, none⟩, 1, none, 0, ⟨[UInt8.ofNat (i + 1)], false, 0, []⟩⟩ : OpM)])) (c8 * 4) ++ ownO os) B
        simpa only [List.append_assoc] using this
  exact f13_go _ _ _ (loop n 0 [] none 0 h (by omega) rfl SlV.nil (fun m hm => by cases hm) w)
/-- SameOps, of the same. -/
theorem f69_same {a b : Option Addr} {c d : Nat} {l m : List OpM} (h1 : OpsOk w0 h a l) (h2 : OpsOk w0 h b m) (he : l.map OpM.o = m.map OpM.o) (hl : l.length ≤ 1000000) (hk : K (.bool true) h) : EvC Go.Proofs.Try.prog w0 69 #[.slice a l.length c, .slice b m.length d] K h := by
  have hlen : l.length = m.length := by have := congrArg List.length he; simpa using this
  have loop : ∀ (k i : Nat), i + k = l.length → f69_4 w0 K b m.length d a l.length c ((l.length : Nat) : Int) ((i : Nat) : Int) h := by
    intro k
    induction k with
    | zero => exact fun i hi => f69_4_in _ _ _ _ _ _ _ _ _ (brB_of (fun q => by have := of_decide_eq_true q; omega) fun _ => hk)
    | succ k ih =>
      intro i hi
      have hil : i < l.length := by omega
      have g1 := List.getElem?_eq_getElem hil
      have g2 : m[i]? = some m[i] := List.getElem?_eq_getElem (by omega)
      have eo : l[i].o = m[i].o := by
        have e1 : (l.map OpM.o)[i]? = some l[i].o := by rw [List.getElem?_map, g1]; rfl
        have e2 : (m.map OpM.o)[i]? = some m[i].o := by rw [List.getElem?_map, g2]; rfl
        rw [he, e2] at e1
        injection e1 with e1
        exact e1.symm
      generalize l[i] = x at g1 eo
      generalize m[i] = y at g2 eo
      have m1 := List.mem_of_getElem? g1
      have m2 := List.mem_of_getElem? g2
      obtain ⟨ad, had, hat⟩ := rowLoad (enc := OpM.cells) (k := 4) (fun _ => rfl) (by decide) h1.rd g1
      obtain ⟨bd, hbd, hbt⟩ := rowLoad (enc := OpM.cells) (k := 4) (fun _ => rfl) (by decide) h2.rd g2
      have k1 := h1.ks x m1
      have k2 := h2.ks y m2
      have v1 := h1.vs x m1
      have v2 := h2.vs y m2
      simp only [OpM.cells] at hbt
      rw [← eo] at k2 v2 hbt
      have e8 : f69_8 w0 K b m.length d a l.length c ((l.length : Nat) : Int) ((i : Nat) : Int) false h := f69_8_in _ _ _ _ _ _ _ _ _ _ (brB_of (fun z => by cases z) fun _ => by rw [wrapS (by omega)]; exact ih (i + 1) (by omega))
      refine f69_4_in _ _ _ _ _ _ _ _ _ (brB_of (fun _ => ⟨ad, had, by omega, by omega, _, _, _, _, _, _, _, _, ⟨rfl, hat⟩, bd, hbd, by omega, by omega, _, _, _, _, _, _, _, _, ⟨rfl, hbt⟩, rows8 k1 rfl (rows8 k2 rfl ?_)⟩) fun q => by have := of_decide_eq_false q; omega)
      refine brB_of (fun z => by simp at z) fun _ => brB_of (fun z => by simp at z) fun _ => brB_of (fun z => by simp at z) fun _ => rows8 v1 rfl (rows8 v2 rfl ?_)
      simp only [decide_true, Bool.not_true]
      exact e8
  exact f69_go _ _ _ _ _ _ _ (brB_of (fun q => by rw [hlen] at q; simp at q) fun _ => loop l.length 0 (by omega))
theorem bat_at {l m : List BaM} {i : Nat} {x y : BaM} (he : l.map BaM.bat = m.map BaM.bat) (g1 : l[i]? = some x) (g2 : m[i]? = some y) : x.seq = y.seq ∧ x.os.map OpM.o = y.os.map OpM.o := by
  have e1 : (l.map BaM.bat)[i]? = some x.bat := by rw [List.getElem?_map, g1]; rfl
  have e2 : (m.map BaM.bat)[i]? = some y.bat := by rw [List.getElem?_map, g2]; rfl
  rw [he, e2] at e1
  injection e1 with e1
  unfold BaM.bat at e1
  injection e1 with a1 a2
  exact ⟨a1.symm, a2.symm⟩
/-- sameAll, of the same. -/
theorem f16_same {a b : Option Addr} {c d : Nat} {l m : List BaM} (h1 : BatsOk w0 h a l) (h2 : BatsOk w0 h b m) (he : l.map BaM.bat = m.map BaM.bat) (hl : l.length ≤ 1000000) (ho : ∀ x ∈ l, x.os.length ≤ 1000000) (hk : K (.bool true) h) :
    EvC Go.Proofs.Try.prog w0 16 #[.slice a l.length c, .slice b m.length d] K h := by
  have hlen : l.length = m.length := by have := congrArg List.length he; simpa using this
  have loop : ∀ (k i : Nat), i + k = l.length → f16_4 w0 K a l.length c b m.length d ((l.length : Nat) : Int) ((i : Nat) : Int) h := by
    intro k
    induction k with
    | zero => exact fun i hi => f16_4_in _ _ _ _ _ _ _ _ _ (brB_of (fun q => by have := of_decide_eq_true q; omega) fun _ => hk)
    | succ k ih =>
      intro i hi
      have hil : i < l.length := by omega
      have g1 := List.getElem?_eq_getElem hil
      have g2 : m[i]? = some m[i] := List.getElem?_eq_getElem (by omega)
      generalize l[i] = x at g1
      generalize m[i] = y at g2
      obtain ⟨es, eo⟩ := bat_at he g1 g2
      have m1 := List.mem_of_getElem? g1
      have m2 := List.mem_of_getElem? g2
      obtain ⟨ad, had, hat⟩ := rowLoad (enc := BaM.cells) (k := 2) (fun _ => rfl) (by decide) h1.rd g1
      obtain ⟨bd, hbd, hbt⟩ := rowLoad (enc := BaM.cells) (k := 2) (fun _ => rfl) (by decide) h2.rd g2
      have same : EvC Go.Proofs.Try.prog w0 38 #[.agg #[.int .i64 x.seq, .slice x.a x.os.length x.c], .agg #[.int .i64 y.seq, .slice y.a y.os.length y.c]] (fun x'10 h'11 => ∃ t'12 : Bool, ((x'10 = (.bool t'12)) ∧ (brB (!t'12) (K (.bool false) h'11) (f16_4 w0 K a l.length c b m.length d ((l.length : Nat) : Int) (IntKind.i64.wrap (((i : Nat) : Int) + (1 : Int))) h'11)))) h := by
        refine f38_go _ _ _ _ _ _ _ _ _ (brB_of (fun _ => f69_same (h1.os x m1) (h2.os y m2) eo (ho x m1) ⟨_, rfl, _, rfl, brB_of (fun z => by cases z) fun _ => ?_⟩) fun z => by rw [es] at z; simp at z)
        rw [wrapS (by omega)]
        exact ih (i + 1) (by omega)
      refine f16_4_in _ _ _ _ _ _ _ _ _ (brB_of (fun _ => ⟨ad, had, by omega, by omega, bd, hbd, by omega, by omega, ⟨_, _, _, _, ⟨rfl, hat⟩, _, _, _, _, ⟨rfl, hbt⟩, same⟩, ⟨_, _, _, _, ⟨rfl, hbt⟩, _, _, _, _, ⟨rfl, hat⟩, same⟩⟩) fun q => by have := of_decide_eq_false q; omega)
  exact f16_go _ _ _ _ _ _ _ (brB_of (fun q => by rw [hlen] at q; simp at q) fun _ => loop l.length 0 (by omega))
theorem f16_diff {a b : Option Addr} {c d : Nat} {n m : Nat} (he : n ≠ m) (hk : K (.bool false) h) : EvC Go.Proofs.Try.prog w0 16 #[.slice a n c, .slice b m d] K h :=
  f16_go _ _ _ _ _ _ _ (brB_of (fun _ => hk) fun q => by simp at q; omega)
end
/-! ### Open -/
def fileB (l : List Bat) : List UInt8 := l.flatMap fun b => frameB (encB b.1 b.2)
def lastB : Int → List Bat → Int
  | x, [] => x
  | _, b :: r => lastB (b.1 + b.2.length - 1) r
def chainB : Int → List Bat → Prop
  | _, [] => True
  | x, b :: r => (0 < x → b.1 = x + 1) ∧ chainB (b.1 + b.2.length - 1) r
def okB (b : Bat) : Prop := mayB b.1 b.2 = 0 ∧ (encB b.1 b.2).length ≤ 1048576
def cutB (t : List UInt8) : Prop := t = [] ∨ ∃ r u : List UInt8, r.length ≤ 1048576 ∧ frameB r = t ++ u ∧ u ≠ []
theorem row2_cell (m : BaM) : ∀ y ∈ m.cells, y.oneCell' = true := by
  intro y hy
  simp at hy
  rcases hy with rfl | rfl <;> rfl
section
variable {w0 : World} {K : Value → AH → Prop} {h : AH} {B : List (Nat × AB)}
set_option maxHeartbeats 1000000 in
/-- wal.Open. -/
theorem f11_spec {s : Ds} {D : PD} {n : ByteArray} {bs : List Bat} {tl : List UInt8} (r : PRep s D) (w : Own w0 h (D.blocks s ++ B)) (hread : readS n s = (0, fileB bs ++ tl)) (hlen : (fileB bs ++ tl).length ≤ 4194304) (hb : bs.length ≤ 1000) (hok : ∀ b ∈ bs, okB b) (hch : chainB 0 bs) (htl : cutB tl)
    (hk : ∀ h' lb a' c' ms, ms.map BaM.bat = bs → SlV 2 a' ms.length c' (batC ms) → BsV ms → Own w0 h' ((lb, .cells (logC D.bd ⟨n, lastB 0 bs, ((fileB bs).length : Nat), !tl.isEmpty, false⟩) 6) :: (slB a' (batC ms) (c' * 2) ++ (ownB ms ++ (D.blocks s ++ B)))) → K (.tuple #[.pointer (some ⟨lb, 0, none⟩), .slice a' ms.length c', .int .i64 0]) h') :
    EvC Go.Proofs.Try.prog w0 11 #[.pointer (some ⟨D.bd, 0, none⟩), .string n] K h := by
  refine f11_go _ _ _ (f31_spec r w fun h1 fa fc fv w1 => ⟨_, _, _, _, rfl, ?_⟩)
  rw [hread] at fv w1 ⊢
  dsimp only at fv w1 ⊢
  generalize hd : fileB bs ++ tl = d at *
  have hcap := fv.2.1
  refine brB_of (fun q => by cases q) fun _ => ?_
  have fin : ∀ (ms : List BaM) (a' : Option Addr) (c' : Nat) (h2 : AH), ms.map BaM.bat = bs → SlV 2 a' ms.length c' (batC ms) → BsV ms → Own w0 h2 (slB fa (u8s d) (fc * 1) ++ (slB a' (batC ms) (c' * 2) ++ (ownB ms ++ (D.blocks s ++ B)))) →
      newB w0 h2 (AB.cells [(.pointer (some ⟨D.bd, 0, none⟩)), (.string n), (.int .i64 (lastB 0 bs)), (.int .i64 (((fileB bs).length : Nat) : Int)), (.bool (decide (((((fileB bs).length : Nat) : Int) < ((d.length : Nat) : Int))))), (.bool false)] (List.length [(Value.pointer (some ⟨D.bd, 0, none⟩)), (.string n), (.int .i64 (lastB 0 bs)), (.int .i64 (((fileB bs).length : Nat) : Int)), (.bool (decide (((((fileB bs).length : Nat) : Int) < ((d.length : Nat) : Int))))), (.bool false)]))
        (fun b'20 h'21 => (K (.tuple #[(.pointer (some (Addr.mk b'20 0 none))), (.slice a' ms.length c'), (.int .i64 (0 : Int))]) h'21)) := fun ms a' c' h2 he v vs w2 b hb hn => by
    have e : decide (((((fileB bs).length : Nat) : Int) < ((d.length : Nat) : Int))) = !tl.isEmpty := by
      rw [← hd, List.length_append]
      cases tl with
      | nil => simp
      | cons x y => simp; omega
    rw [e]
    have w3 := w2.drop.new (o := .cells (logC D.bd ⟨n, lastB 0 bs, ((fileB bs).length : Nat), !tl.isEmpty, false⟩) 6) hb hn
    exact hk _ b a' c' ms he v vs w3
  have loop : ∀ (rest done : List Bat) (ms : List BaM) (a' : Option Addr) (c' : Nat) (h2 : AH), bs = done ++ rest → ms.map BaM.bat = done → SlV 2 a' ms.length c' (batC ms) → BsV ms → chainB (lastB 0 done) rest → 0 ≤ lastB 0 done → lastB 0 done ≤ 4611686018427387904 → lastB 0 bs = lastB (lastB 0 done) rest →
      Own w0 h2 (slB fa (u8s d) (fc * 1) ++ (slB a' (batC ms) (c' * 2) ++ (ownB ms ++ (D.blocks s ++ B)))) →
      f11_6 w0 K fa d.length fc a' ms.length c' (some ⟨D.bd, 0, none⟩) n (lastB 0 done) (((fileB done).length : Nat) : Int) false false h2 := by
    intro rest
    induction rest with
    | nil =>
      intro done ms a' c' h2 hbs he v vs hc hl0 hl1 hlast w2
      rw [List.append_nil] at hbs
      subst hbs
      have f := fin ms a' c' h2 he v vs w2
      refine f11_6_in _ _ _ _ _ _ _ _ _ _ _ _ _ (brB_of (fun q => ?_) fun _ => f)
      rcases htl with rfl | ⟨rr, u, h1, h3, h4⟩
      · rw [List.append_nil] at hd
        rw [← hd] at q; simp at q
      · have hl : d.length = (fileB bs).length + tl.length := by rw [← hd, List.length_append]
        refine ⟨by omega, by omega, ?_⟩
        have hr2 : Rd w0 h2 (cutA 1 fa fc (Int.toNat (((fileB bs).length : Nat) : Int))) (u8s tl) := by
          rw [Int.toNat_natCast]
          exact rd_cut (fv.rd (cs := []) w2) hd.symm hcap
        rw [show d.length - Int.toNat (((fileB bs).length : Nat) : Int) = tl.length by omega]
        exact f32_short hr2 (by omega) h1 h3 h4 fun e he => ⟨_, _, _, _, _, rfl, brB_of (fun _ => f11_10000_in _ _ _ _ _ _ _ _ _ _ _ _ _ f) fun z => absurd (by simpa using z) he⟩
    | cons b rest ih =>
      intro done ms a' c' h2 hbs he v vs hc hl0 hl1 hlast w2
      obtain ⟨ok1, ok2⟩ := hok b (by rw [hbs]; simp)
      obtain ⟨g1, g2, g3, g4, g5⟩ := mayB_zero ok1
      have hml : ms.length = done.length := by have := congrArg List.length he; simpa using this
      have hdl : done.length + rest.length + 1 = bs.length := by rw [hbs]; simp; omega
      have hsp : d = fileB done ++ (frameB (encB b.1 b.2) ++ (fileB rest ++ tl)) := by rw [← hd, hbs]; simp [fileB]
      have hll : d.length = (fileB done).length + (frameB (encB b.1 b.2) ++ (fileB rest ++ tl)).length := by
        conv => lhs; rw [hsp]
        rw [List.length_append]
      have hfl := frameB_len (encB b.1 b.2) (by omega)
      have hfl2 : (frameB (encB b.1 b.2) ++ (fileB rest ++ tl)).length = (frameB (encB b.1 b.2)).length + (fileB rest ++ tl).length := List.length_append ..
      have hcut : ∀ h', Own w0 h' (slB fa (u8s d) (fc * 1) ++ (slB a' (batC ms) (c' * 2) ++ (ownB ms ++ (D.blocks s ++ B)))) → Rd w0 h' (cutA 1 fa fc (fileB done).length) (u8s (frameB (encB b.1 b.2) ++ (fileB rest ++ tl))) := fun h' w' => rd_cut (fv.rd (cs := []) w') hsp hcap
      have hfd : (fileB (done ++ [b])).length = (fileB done).length + (frameB (encB b.1 b.2)).length := by simp [fileB]
      have hlastd : lastB 0 (done ++ [b]) = b.1 + b.2.length - 1 := by
        have : ∀ (l : List Bat) (x : Int), lastB x (l ++ [b]) = b.1 + b.2.length - 1 := fun l => by
          induction l with
          | nil => intro x; rfl
          | cons z l ih => intro x; exact ih _
        exact this done 0
      refine f11_6_in _ _ _ _ _ _ _ _ _ _ _ _ _ (brB_of (fun _ => ?_) fun q => by have := of_decide_eq_false q; omega)
      refine ⟨by omega, by omega, ?_⟩
      rw [Int.toNat_natCast, show d.length - (fileB done).length = (frameB (encB b.1 b.2) ++ (fileB rest ++ tl)).length by omega]
      refine f32_ok (r := encB b.1 b.2) (t := fileB rest ++ tl) w2 hcut (by omega) (by omega) ok2 rfl fun h3 ra rc rv w3 => ⟨_, _, _, _, _, rfl, brB_of (fun z => by cases z) fun _ => ?_⟩
      refine f33_spec ok1 w3 (fun h' w' => rv.rd (cs := []) w') rv.2.1 fun h4 oa oc os oe ov ovs w4 => ⟨_, _, _, _, _, rfl, brB_of (fun z => by cases z) fun _ => ?_⟩
      have hol : os.length = b.2.length := by have := congrArg List.length oe; simpa using this
      have ele : f11_11 w0 K fa d.length fc a' ms.length c' (((frameB (encB b.1 b.2)).length : Nat) : Int) (some ⟨D.bd, 0, none⟩) n (lastB 0 done) (((fileB done).length : Nat) : Int) false false b.1 oa os.length oc h4 := by
        refine f11_11_in _ _ _ _ _ _ _ _ _ _ _ _ _ _ _ _ _ _ ?_
        have w5 : Own w0 h4 ((slB oa (opsC os) (oc * 4) ++ (ownO os ++ slB fa (u8s d) (fc * 1))) ++ (slB a' (batC ms) (c' * 2) ++ (ownB ms ++ (D.blocks s ++ B)))) := by
          have q1 : Own w0 h4 ((slB oa (opsC os) (oc * 4) ++ ownO os) ++ (slB ra (u8s (encB b.1 b.2)) (rc * 1) ++ (slB fa (u8s d) (fc * 1) ++ (slB a' (batC ms) (c' * 2) ++ (ownB ms ++ (D.blocks s ++ B)))))) := by
            simpa only [List.append_assoc] using w4
          simpa only [List.append_assoc] using q1.cut
        refine App_mid v w5 (by omega) (by omega) rfl (row2_cell ⟨b.1, oa, oc, os⟩) fun a8 c8 h8 v8 w8 => ?_
        have eo : batC ms ++ [.int .i64 b.1, .slice oa os.length oc] = batC (ms ++ [(⟨b.1, oa, oc, os⟩ : BaM)]) := by simp [batC]
        rw [eo] at v8 w8
        have e1 : IntKind.i64.wrap (IntKind.i64.wrap (b.1 + ((os.length : Nat) : Int)) - 1) = lastB 0 (done ++ [b]) := by rw [hlastd, wrap64 (x := b.1 + ((os.length : Nat) : Int)) (by omega) (by omega), wrap64 (by omega) (by omega), hol]
        have e2 : IntKind.i64.wrap ((((fileB done).length : Nat) : Int) + (((frameB (encB b.1 b.2)).length : Nat) : Int)) = (((fileB (done ++ [b])).length : Nat) : Int) := by rw [wrap64 (by omega) (by omega), hfd]; omega
        rw [e1, e2]
        have := ih (done ++ [b]) (ms ++ [(⟨b.1, oa, oc, os⟩ : BaM)]) a8 c8 h8 (by rw [hbs]; simp) (by rw [List.map_append, he]; simp [BaM.bat, oe]) (by rw [List.length_append]; exact v8) (fun m hm => ?_) (by rw [hlastd]; exact hc.2) (by rw [hlastd]; omega) (by rw [hlastd]; omega) (by rw [hlastd, hlast]; rfl) ?_
        · rw [List.length_append] at this
          exact this
        · rcases List.mem_append.1 hm with hm | hm
          · exact vs m hm
          · rw [List.mem_singleton] at hm; subst hm; exact ⟨ov, ovs⟩
        · have eow : ownB (ms ++ [(⟨b.1, oa, oc, os⟩ : BaM)]) = ownB ms ++ (slB oa (opsC os) (oc * 4) ++ ownO os) := by simp [ownB]
          rw [eow]
          refine w8.perm ?_
          have := List.perm_append_comm_assoc (slB oa (opsC os) (oc * 4) ++ ownO os) (slB fa (u8s d) (fc * 1) ++ (slB a8 (batC (ms ++ [(⟨b.1, oa, oc, os⟩ : BaM)])) (c8 * 2) ++ ownB ms)) (D.blocks s ++ B)
          simpa only [List.append_assoc] using this
      refine brB_of (fun q => brB_of (fun z => ?_) fun _ => ele) fun _ => ele
      have := hc.1 (of_decide_eq_true q)
      rw [wrap64 (by omega) (by omega)] at z
      rw [this] at z; simp at z
  exact loop bs [] [] none 0 h1 rfl rfl SlV.nil (fun m hm => by cases hm) hch (Int.le_refl _) (by decide) rfl w1
/-- Open, of a name that isn't there, or of a disk that is down. -/
theorem f11_none {s : Ds} {D : PD} {n : ByteArray} (r : PRep s D) (w : Own w0 h (D.blocks s ++ B)) (hread : (readS n s).1 ≠ 0)
    (hk : ∀ h', Own w0 h' (D.blocks s ++ B) → K (.tuple #[.pointer none, .slice none 0 0, .int .i64 (readS n s).1]) h') : EvC Go.Proofs.Try.prog w0 11 #[.pointer (some ⟨D.bd, 0, none⟩), .string n] K h :=
  f11_go _ _ _ (f31_spec r w fun h1 fa fc fv w1 => ⟨_, _, _, _, rfl, brB_of (fun _ => hk h1 w1.drop) fun q => absurd (by simpa using q) hread⟩)
end
end Go.G.Ytlghmjehibikeaa
