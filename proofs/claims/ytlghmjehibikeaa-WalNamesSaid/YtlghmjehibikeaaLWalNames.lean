/- WalNames by the evaluator. -/
import Derived.Test.YtlghmjehibikeaaWH
import Derived.Test.YtlghmjehibikeaaLT
import Derived.Test.YtlghmjehibikeaaProg
set_option maxRecDepth 100000
namespace Go.G.Ytlghmjehibikeaa
open Go.RowKit
def f3_J : Nat → List Nat × Nat := jOf [(5, [2, 3, 4, 6, 9, 10, 11, 12, 13, 14, 15, 16, 17, 18, 19, 20, 21, 22, 23, 24, 25, 26, 27, 28, 29, 30, 32, 33, 34, 35, 36, 37, 38, 39, 40, 41, 42, 43, 44, 45, 46, 47, 48, 49, 50, 51, 52, 53, 54, 55, 56, 57, 58, 59, 60, 61, 62, 63, 64, 65, 66, 67, 68, 69, 70, 71, 72, 73, 74, 75, 76, 77, 78, 79, 80, 81, 82, 83, 84, 85, 86, 87, 88, 89, 90, 91, 92, 93, 94, 95, 96, 97, 98, 99, 100, 101, 102, 103, 104, 105, 106, 107, 108, 109], 0), (7, [2, 3, 4, 6, 9, 10, 11, 12, 13, 14, 15, 16, 17, 18, 19, 20, 21, 22, 23, 24, 25, 26, 27, 28, 29, 30, 31, 32, 35, 36, 37, 38, 39, 40, 41, 42, 43, 44, 45, 46, 47, 48, 49, 50, 51, 52, 53, 54, 55, 56, 57, 58, 59, 60, 61, 62, 63, 64, 65, 66, 67, 68, 69, 70, 71, 72, 73, 74, 75, 76, 77, 78, 79, 80, 81, 82, 83, 84, 85, 86, 87, 88, 89, 90, 91, 92, 93, 94, 95, 96, 97, 98, 99, 100, 101, 102, 103, 104, 105, 106, 107, 108, 109], 0), (12, [2, 3, 4, 6, 9, 10, 11, 12, 13, 14, 15, 16, 17, 18, 19, 20, 21, 22, 23, 24, 25, 26, 27, 28, 29, 30, 31, 32, 33, 34, 35, 36, 37, 38, 39, 40, 41, 42, 43, 44, 45, 46, 47, 48, 49, 50, 51, 52, 53, 54, 55, 56, 57, 58, 59, 60, 61, 62, 63, 64, 65, 66, 67, 68, 69, 70, 71, 72, 73, 74, 75, 76, 77, 78, 79, 80, 81, 82, 83, 84, 85, 86, 87, 88, 89, 90, 91, 92, 93, 94, 95, 96, 97, 98, 99, 100, 101, 102, 103, 104, 105, 106, 107, 108, 109], 0), (10, [2, 3, 4, 6, 9, 10, 11, 12, 13, 14, 15, 16, 17, 18, 19, 20, 21, 22, 23, 24, 25, 26, 27, 28, 29, 30, 31, 32, 35, 36, 37, 38, 39, 40, 41, 42, 43, 44, 45, 47, 48, 49, 50, 51, 52, 53, 54, 55, 56, 57, 58, 59, 60, 61, 62, 63, 64, 65, 66, 67, 68, 69, 70, 71, 72, 73, 74, 75, 76, 77, 78, 79, 80, 81, 82, 83, 84, 85, 86, 87, 88, 89, 90, 91, 92, 93, 94, 95, 96, 97, 98, 99, 100, 101, 102, 103, 104, 105, 106, 107, 108, 109], 0), (18, [2, 3, 4, 6, 7, 9, 10, 11, 12, 13, 14, 15, 16, 17, 18, 19, 20, 21, 22, 23, 24, 25, 26, 27, 28, 29, 30, 31, 32, 33, 34, 35, 36, 37, 38, 39, 40, 41, 42, 43, 44, 45, 46, 47, 48, 49, 50, 51, 52, 53, 54, 55, 56, 57, 58, 59, 60, 61, 62, 63, 64, 65, 66, 67, 68, 69, 70, 71, 72, 73, 74, 75, 76, 77, 78, 79, 80, 81, 82, 83, 84, 85, 86, 87, 88, 89, 90, 91, 92, 93, 94, 95, 96, 97, 98, 99, 100, 101, 102, 103, 104, 105, 106, 107, 108, 109], 0)]

def f3_5 (w0 : World) (K : Value → AH → Prop) (x0 : ByteArray) (x1 : ByteArray) (x5 : Option Go.Addr) (x7 : Int) (x8 : Int) (x31 : Bool) (h : AH) : Prop :=
  ∀ j : Nat → Value, LPk Go.Proofs.Try.prog w0 (EvC Go.Proofs.Try.prog w0) f3_J 3 K 5 [.v (.string x0), .v (.string x1), .v (j 2), .v (j 3), .v (j 4), .v (.pointer x5), .v (j 6), .v (.int .i64 x7), .v (.int .i64 x8), .v (j 9), .v (j 10), .v (j 11), .v (j 12), .v (j 13), .v (j 14), .v (j 15), .v (j 16), .v (j 17), .v (j 18), .v (j 19), .v (j 20), .v (j 21), .v (j 22), .v (j 23), .v (j 24), .v (j 25), .v (j 26), .v (j 27), .v (j 28), .v (j 29), .v (j 30), .v (.bool x31), .v (j 32), .v (j 33), .v (j 34), .v (j 35), .v (j 36), .v (j 37), .v (j 38), .v (j 39), .v (j 40), .v (j 41), .v (j 42), .v (j 43), .v (j 44), .v (j 45), .v (j 46), .v (j 47), .v (j 48), .v (j 49), .v (j 50), .v (j 51), .v (j 52), .v (j 53), .v (j 54), .v (j 55), .v (j 56), .v (j 57), .v (j 58), .v (j 59), .v (j 60), .v (j 61), .v (j 62), .v (j 63), .v (j 64), .v (j 65), .v (j 66), .v (j 67), .v (j 68), .v (j 69), .v (j 70), .v (j 71), .v (j 72), .v (j 73), .v (j 74), .v (j 75), .v (j 76), .v (j 77), .v (j 78), .v (j 79), .v (j 80), .v (j 81), .v (j 82), .v (j 83), .v (j 84), .v (j 85), .v (j 86), .v (j 87), .v (j 88), .v (j 89), .v (j 90), .v (j 91), .v (j 92), .v (j 93), .v (j 94), .v (j 95), .v (j 96), .v (j 97), .v (j 98), .v (j 99), .v (j 100), .v (j 101), .v (j 102), .v (j 103), .v (j 104), .v (j 105), .v (j 106), .v (j 107), .v (j 108), .v (j 109)] [] h

def f3_7 (w0 : World) (K : Value → AH → Prop) (x0 : ByteArray) (x1 : ByteArray) (x5 : Option Go.Addr) (x7 : Int) (x8 : Int) (x33 : Int) (x34 : Int) (h : AH) : Prop :=
  ∀ j : Nat → Value, LPk Go.Proofs.Try.prog w0 (EvC Go.Proofs.Try.prog w0) f3_J 3 K 7 [.v (.string x0), .v (.string x1), .v (j 2), .v (j 3), .v (j 4), .v (.pointer x5), .v (j 6), .v (.int .i64 x7), .v (.int .i64 x8), .v (j 9), .v (j 10), .v (j 11), .v (j 12), .v (j 13), .v (j 14), .v (j 15), .v (j 16), .v (j 17), .v (j 18), .v (j 19), .v (j 20), .v (j 21), .v (j 22), .v (j 23), .v (j 24), .v (j 25), .v (j 26), .v (j 27), .v (j 28), .v (j 29), .v (j 30), .v (j 31), .v (j 32), .v (.int .i64 x33), .v (.int .i64 x34), .v (j 35), .v (j 36), .v (j 37), .v (j 38), .v (j 39), .v (j 40), .v (j 41), .v (j 42), .v (j 43), .v (j 44), .v (j 45), .v (j 46), .v (j 47), .v (j 48), .v (j 49), .v (j 50), .v (j 51), .v (j 52), .v (j 53), .v (j 54), .v (j 55), .v (j 56), .v (j 57), .v (j 58), .v (j 59), .v (j 60), .v (j 61), .v (j 62), .v (j 63), .v (j 64), .v (j 65), .v (j 66), .v (j 67), .v (j 68), .v (j 69), .v (j 70), .v (j 71), .v (j 72), .v (j 73), .v (j 74), .v (j 75), .v (j 76), .v (j 77), .v (j 78), .v (j 79), .v (j 80), .v (j 81), .v (j 82), .v (j 83), .v (j 84), .v (j 85), .v (j 86), .v (j 87), .v (j 88), .v (j 89), .v (j 90), .v (j 91), .v (j 92), .v (j 93), .v (j 94), .v (j 95), .v (j 96), .v (j 97), .v (j 98), .v (j 99), .v (j 100), .v (j 101), .v (j 102), .v (j 103), .v (j 104), .v (j 105), .v (j 106), .v (j 107), .v (j 108), .v (j 109)] [] h

def f3_12 (w0 : World) (K : Value → AH → Prop) (x0 : ByteArray) (x1 : ByteArray) (x5 : Option Go.Addr) (x7 : Int) (x8 : Int) (h : AH) : Prop :=
  ∀ j : Nat → Value, LPk Go.Proofs.Try.prog w0 (EvC Go.Proofs.Try.prog w0) f3_J 3 K 12 [.v (.string x0), .v (.string x1), .v (j 2), .v (j 3), .v (j 4), .v (.pointer x5), .v (j 6), .v (.int .i64 x7), .v (.int .i64 x8), .v (j 9), .v (j 10), .v (j 11), .v (j 12), .v (j 13), .v (j 14), .v (j 15), .v (j 16), .v (j 17), .v (j 18), .v (j 19), .v (j 20), .v (j 21), .v (j 22), .v (j 23), .v (j 24), .v (j 25), .v (j 26), .v (j 27), .v (j 28), .v (j 29), .v (j 30), .v (j 31), .v (j 32), .v (j 33), .v (j 34), .v (j 35), .v (j 36), .v (j 37), .v (j 38), .v (j 39), .v (j 40), .v (j 41), .v (j 42), .v (j 43), .v (j 44), .v (j 45), .v (j 46), .v (j 47), .v (j 48), .v (j 49), .v (j 50), .v (j 51), .v (j 52), .v (j 53), .v (j 54), .v (j 55), .v (j 56), .v (j 57), .v (j 58), .v (j 59), .v (j 60), .v (j 61), .v (j 62), .v (j 63), .v (j 64), .v (j 65), .v (j 66), .v (j 67), .v (j 68), .v (j 69), .v (j 70), .v (j 71), .v (j 72), .v (j 73), .v (j 74), .v (j 75), .v (j 76), .v (j 77), .v (j 78), .v (j 79), .v (j 80), .v (j 81), .v (j 82), .v (j 83), .v (j 84), .v (j 85), .v (j 86), .v (j 87), .v (j 88), .v (j 89), .v (j 90), .v (j 91), .v (j 92), .v (j 93), .v (j 94), .v (j 95), .v (j 96), .v (j 97), .v (j 98), .v (j 99), .v (j 100), .v (j 101), .v (j 102), .v (j 103), .v (j 104), .v (j 105), .v (j 106), .v (j 107), .v (j 108), .v (j 109)] [] h

def f3_10 (w0 : World) (K : Value → AH → Prop) (x0 : ByteArray) (x1 : ByteArray) (x5 : Option Go.Addr) (x7 : Int) (x8 : Int) (x33 : Int) (x34 : Int) (x46 : Bool) (h : AH) : Prop :=
  ∀ j : Nat → Value, LPk Go.Proofs.Try.prog w0 (EvC Go.Proofs.Try.prog w0) f3_J 3 K 10 [.v (.string x0), .v (.string x1), .v (j 2), .v (j 3), .v (j 4), .v (.pointer x5), .v (j 6), .v (.int .i64 x7), .v (.int .i64 x8), .v (j 9), .v (j 10), .v (j 11), .v (j 12), .v (j 13), .v (j 14), .v (j 15), .v (j 16), .v (j 17), .v (j 18), .v (j 19), .v (j 20), .v (j 21), .v (j 22), .v (j 23), .v (j 24), .v (j 25), .v (j 26), .v (j 27), .v (j 28), .v (j 29), .v (j 30), .v (j 31), .v (j 32), .v (.int .i64 x33), .v (.int .i64 x34), .v (j 35), .v (j 36), .v (j 37), .v (j 38), .v (j 39), .v (j 40), .v (j 41), .v (j 42), .v (j 43), .v (j 44), .v (j 45), .v (.bool x46), .v (j 47), .v (j 48), .v (j 49), .v (j 50), .v (j 51), .v (j 52), .v (j 53), .v (j 54), .v (j 55), .v (j 56), .v (j 57), .v (j 58), .v (j 59), .v (j 60), .v (j 61), .v (j 62), .v (j 63), .v (j 64), .v (j 65), .v (j 66), .v (j 67), .v (j 68), .v (j 69), .v (j 70), .v (j 71), .v (j 72), .v (j 73), .v (j 74), .v (j 75), .v (j 76), .v (j 77), .v (j 78), .v (j 79), .v (j 80), .v (j 81), .v (j 82), .v (j 83), .v (j 84), .v (j 85), .v (j 86), .v (j 87), .v (j 88), .v (j 89), .v (j 90), .v (j 91), .v (j 92), .v (j 93), .v (j 94), .v (j 95), .v (j 96), .v (j 97), .v (j 98), .v (j 99), .v (j 100), .v (j 101), .v (j 102), .v (j 103), .v (j 104), .v (j 105), .v (j 106), .v (j 107), .v (j 108), .v (j 109)] [] h

def f3_18 (w0 : World) (K : Value → AH → Prop) (x0 : ByteArray) (x1 : ByteArray) (x5 : Option Go.Addr) (x8 : Int) (h : AH) : Prop :=
  ∀ j : Nat → Value, LPk Go.Proofs.Try.prog w0 (EvC Go.Proofs.Try.prog w0) f3_J 3 K 18 [.v (.string x0), .v (.string x1), .v (j 2), .v (j 3), .v (j 4), .v (.pointer x5), .v (j 6), .v (j 7), .v (.int .i64 x8), .v (j 9), .v (j 10), .v (j 11), .v (j 12), .v (j 13), .v (j 14), .v (j 15), .v (j 16), .v (j 17), .v (j 18), .v (j 19), .v (j 20), .v (j 21), .v (j 22), .v (j 23), .v (j 24), .v (j 25), .v (j 26), .v (j 27), .v (j 28), .v (j 29), .v (j 30), .v (j 31), .v (j 32), .v (j 33), .v (j 34), .v (j 35), .v (j 36), .v (j 37), .v (j 38), .v (j 39), .v (j 40), .v (j 41), .v (j 42), .v (j 43), .v (j 44), .v (j 45), .v (j 46), .v (j 47), .v (j 48), .v (j 49), .v (j 50), .v (j 51), .v (j 52), .v (j 53), .v (j 54), .v (j 55), .v (j 56), .v (j 57), .v (j 58), .v (j 59), .v (j 60), .v (j 61), .v (j 62), .v (j 63), .v (j 64), .v (j 65), .v (j 66), .v (j 67), .v (j 68), .v (j 69), .v (j 70), .v (j 71), .v (j 72), .v (j 73), .v (j 74), .v (j 75), .v (j 76), .v (j 77), .v (j 78), .v (j 79), .v (j 80), .v (j 81), .v (j 82), .v (j 83), .v (j 84), .v (j 85), .v (j 86), .v (j 87), .v (j 88), .v (j 89), .v (j 90), .v (j 91), .v (j 92), .v (j 93), .v (j 94), .v (j 95), .v (j 96), .v (j 97), .v (j 98), .v (j 99), .v (j 100), .v (j 101), .v (j 102), .v (j 103), .v (j 104), .v (j 105), .v (j 106), .v (j 107), .v (j 108), .v (j 109)] [] h

theorem f3_5_in {w0 : World} {K : Value → AH → Prop} (x0 : ByteArray) (x1 : ByteArray) (x5 : Option Go.Addr) (x7 : Int) (x8 : Int) (x31 : Bool) (h : AH)
  (hv : (brB x31 (f3_7 w0 K x0 x1 x5 x7 (0 : Int) (((ByteArray.size x0) : Nat) : Int) (0 : Int) h) (f3_12 w0 K x0 x1 x5 x7 x8 h))) :
  f3_5 w0 K x0 x1 x5 x7 x8 x31 h := fun j => LP_intro (P := Go.Proofs.Try.prog) (Eq.mp (by kernel_rfl) hv)

theorem f3_7_in {w0 : World} {K : Value → AH → Prop} (x0 : ByteArray) (x1 : ByteArray) (x5 : Option Go.Addr) (x7 : Int) (x8 : Int) (x33 : Int) (x34 : Int) (h : AH)
  (hv : (brB (decide ((x34 < x33))) (((0 : Int) ≤ x34) ∧ ((x34 < (((ByteArray.size x0) : Nat) : Int)) ∧ (brB ((Go.G.byteAt x0 (Int.toNat x34)) == (47 : Int)) (f3_10 w0 K x0 x1 x5 x7 x8 x33 x34 true h) (((0 : Int) ≤ x34) ∧ ((x34 < (((ByteArray.size x0) : Nat) : Int)) ∧ (f3_10 w0 K x0 x1 x5 x7 x8 x33 x34 ((Go.G.byteAt x0 (Int.toNat x34)) == (0 : Int)) h)))))) (f3_12 w0 K x0 x1 x5 x7 x8 h))) :
  f3_7 w0 K x0 x1 x5 x7 x8 x33 x34 h := fun j => LP_intro (P := Go.Proofs.Try.prog) (Eq.mp (by kernel_rfl) hv)

theorem f3_12_in {w0 : World} {K : Value → AH → Prop} (x0 : ByteArray) (x1 : ByteArray) (x5 : Option Go.Addr) (x7 : Int) (x8 : Int) (h : AH)
  (hv : (brB (x7 != x8) (K (Go.Value.bool false) h) (brB (x8 == (0 : Int)) (EvC Go.Proofs.Try.prog w0 10 #[(Go.Value.pointer x5), (Go.Value.string x0)] (fun x'7 h'8 => (∃ p'9 : Option Go.Addr, (∃ i'10 : Int, ((x'7 = (Go.Value.tuple #[(Go.Value.pointer p'9), (Go.Value.int .i64 i'10)])) ∧ (brB (i'10 != (6 : Int)) (K (Go.Value.bool false) h'8) (f3_18 w0 K x0 x1 x5 x8 h'8)))))) h) (f3_18 w0 K x0 x1 x5 x8 h)))) :
  f3_12 w0 K x0 x1 x5 x7 x8 h := fun j => LP_intro (P := Go.Proofs.Try.prog) (Eq.mp (by kernel_rfl) hv)

theorem f3_10_in {w0 : World} {K : Value → AH → Prop} (x0 : ByteArray) (x1 : ByteArray) (x5 : Option Go.Addr) (x7 : Int) (x8 : Int) (x33 : Int) (x34 : Int) (x46 : Bool) (h : AH)
  (hv : (brB x46 (f3_7 w0 K x0 x1 x5 x7 (15 : Int) x33 (Go.IntKind.wrap .i64 (x34 + (1 : Int))) h) (f3_7 w0 K x0 x1 x5 x7 x8 x33 (Go.IntKind.wrap .i64 (x34 + (1 : Int))) h))) :
  f3_10 w0 K x0 x1 x5 x7 x8 x33 x34 x46 h := fun j => LP_intro (P := Go.Proofs.Try.prog) (Eq.mp (by kernel_rfl) hv)

theorem f3_18_in {w0 : World} {K : Value → AH → Prop} (x0 : ByteArray) (x1 : ByteArray) (x5 : Option Go.Addr) (x8 : Int) (h : AH)
  (hv : (EvC Go.Proofs.Try.prog w0 11 #[(Go.Value.pointer x5), (Go.Value.string x1)] (fun x'11 h'12 => (∃ p'13 : Option Go.Addr, (∃ p'14 : Option Go.Addr, (∃ n'15 : Nat, (∃ n'16 : Nat, (∃ i'17 : Int, ((x'11 = (Go.Value.tuple #[(Go.Value.pointer p'13), (Go.Value.slice p'14 n'15 n'16), (Go.Value.int .i64 i'17)])) ∧ (EvC Go.Proofs.Try.prog w0 10 #[(Go.Value.pointer none), (Go.Value.string x0)] (fun x'18 h'19 => (∃ p'20 : Option Go.Addr, (∃ i'21 : Int, ((x'18 = (Go.Value.tuple #[(Go.Value.pointer p'20), (Go.Value.int .i64 i'21)])) ∧ (brB (x8 == (0 : Int)) (brB ((i'17 == (0 : Int)) == (decide ((x1 = x0)))) (brB (((n'15 : Nat) : Int) == (0 : Int)) (brB (Option.isNone p'20) (brB (i'21 == (1 : Int)) (EvC Go.Proofs.Try.prog w0 13 #[(Go.Value.int .i64 (1 : Int)), (Go.Value.int .i64 (1 : Int))] (fun x'22 h'23 => (∃ i'24 : Int, (∃ p'25 : Option Go.Addr, (∃ n'26 : Nat, (∃ n'27 : Nat, ((x'22 = (Go.Value.agg #[(Go.Value.int .i64 i'24), (Go.Value.slice p'25 n'26 n'27)])) ∧ (EvC Go.Proofs.Try.prog w0 12 #[(Go.Value.pointer p'20), (Go.Value.agg #[(Go.Value.int .i64 i'24), (Go.Value.slice p'25 n'26 n'27)])] (fun x'28 h'29 => (∃ i'30 : Int, ((x'28 = (Go.Value.int .i64 i'30)) ∧ (brB (i'30 == (1 : Int)) (EvC Go.Proofs.Try.prog w0 14 #[(Go.Value.pointer p'20)] (fun x'31 h'32 => (∃ i'33 : Int, ((x'31 = (Go.Value.int .i64 i'33)) ∧ (brB (i'33 == (0 : Int)) (EvC Go.Proofs.Try.prog w0 15 #[] (fun x'34 h'35 => (∃ t'36 : Bool, ((x'34 = (Go.Value.bool t'36)) ∧ (K (Go.Value.bool t'36) h'35)))) h'32) (K (Go.Value.bool false) h'32))))) h'29) (K (Go.Value.bool false) h'29))))) h'23))))))) h'19) (K (Go.Value.bool false) h'19)) (K (Go.Value.bool false) h'19)) (K (Go.Value.bool false) h'19)) (K (Go.Value.bool false) h'19)) (brB ((i'17 == (0 : Int)) == false) (brB (((n'15 : Nat) : Int) == (0 : Int)) (brB (Option.isNone p'20) (brB (i'21 == (1 : Int)) (EvC Go.Proofs.Try.prog w0 13 #[(Go.Value.int .i64 (1 : Int)), (Go.Value.int .i64 (1 : Int))] (fun x'37 h'38 => (∃ i'39 : Int, (∃ p'40 : Option Go.Addr, (∃ n'41 : Nat, (∃ n'42 : Nat, ((x'37 = (Go.Value.agg #[(Go.Value.int .i64 i'39), (Go.Value.slice p'40 n'41 n'42)])) ∧ (EvC Go.Proofs.Try.prog w0 12 #[(Go.Value.pointer p'20), (Go.Value.agg #[(Go.Value.int .i64 i'39), (Go.Value.slice p'40 n'41 n'42)])] (fun x'43 h'44 => (∃ i'45 : Int, ((x'43 = (Go.Value.int .i64 i'45)) ∧ (brB (i'45 == (1 : Int)) (EvC Go.Proofs.Try.prog w0 14 #[(Go.Value.pointer p'20)] (fun x'46 h'47 => (∃ i'48 : Int, ((x'46 = (Go.Value.int .i64 i'48)) ∧ (brB (i'48 == (0 : Int)) (EvC Go.Proofs.Try.prog w0 15 #[] (fun x'49 h'50 => (∃ t'51 : Bool, ((x'49 = (Go.Value.bool t'51)) ∧ (K (Go.Value.bool t'51) h'50)))) h'47) (K (Go.Value.bool false) h'47))))) h'44) (K (Go.Value.bool false) h'44))))) h'38))))))) h'19) (K (Go.Value.bool false) h'19)) (K (Go.Value.bool false) h'19)) (K (Go.Value.bool false) h'19)) (K (Go.Value.bool false) h'19))))))) h'12)))))))) h)) :
  f3_18 w0 K x0 x1 x5 x8 h := fun j => LP_intro (P := Go.Proofs.Try.prog) (Eq.mp (by kernel_rfl) hv)

theorem f3_go {w0 : World} {K : Value → AH → Prop} (x0 : ByteArray) (x1 : ByteArray) (h : AH)
  (hv : (EvC Go.Proofs.Try.prog w0 9 #[(Go.Value.int .i64 (1048576 : Int))] (fun x'0 h'1 => (∃ p'2 : Option Go.Addr, ((x'0 = (Go.Value.pointer p'2)) ∧ (EvC Go.Proofs.Try.prog w0 10 #[(Go.Value.pointer p'2), (Go.Value.string x0)] (fun x'3 h'4 => (∃ p'5 : Option Go.Addr, (∃ i'6 : Int, ((x'3 = (Go.Value.tuple #[(Go.Value.pointer p'5), (Go.Value.int .i64 i'6)])) ∧ (brB (decide (((1 : Int) ≤ (((ByteArray.size x0) : Nat) : Int)))) (f3_5 w0 K x0 x1 p'2 i'6 (15 : Int) (decide (((((ByteArray.size x0) : Nat) : Int) ≤ (64 : Int)))) h'4) (f3_5 w0 K x0 x1 p'2 i'6 (15 : Int) false h'4)))))) h'1)))) h)) :
  EvC Go.Proofs.Try.prog w0 3 ([(.string x0), (.string x1)]).toArray K h := EvC_intro (P := Go.Proofs.Try.prog) f3_J (Eq.mp (by kernel_rfl) hv)
/-! ### WalNames -/
section
variable {w0 : World} {K : Value → AH → Prop} {h : AH} {B : List (Nat × AB)}
theorem f10_nil {n : ByteArray} (hk : K (.tuple #[.pointer none, .int .i64 1]) h) : EvC Go.Proofs.Try.prog w0 10 #[.pointer none, .string n] K h :=
  f10_go _ _ _ (f29_go _ _ _ (brB_of (fun _ => ⟨_, rfl, brB_of (fun _ => hk) fun z => by cases z⟩) fun z => by cases z))
def badB (b : UInt8) : Bool := b == 47 || b == 0
theorem nameB_eq (n : ByteArray) : nameB n = (decide (1 ≤ n.size) && decide (n.size ≤ 64) && !(n.data.toList.any badB)) := rfl
theorem byteAt_get (n : ByteArray) (i : Nat) (hi : i < n.data.toList.length) : byteAt n i = ((n.data.toList[i]).toNat : Int) := by
  unfold byteAt
  have : i < n.data.size := by rwa [Array.length_toList] at hi
  simp [Array.getElem?_eq_getElem this]
theorem f3_spec {a b : ByteArray} (ha : a.size < 1000000000000000) (hk : ∀ h, K (.bool true) h) : EvC Go.Proofs.Try.prog w0 3 #[.string a, .string b] K (fun _ => none) := by
  have wB : Own w0 (fun _ => none) [] := ⟨by simp, fun _ h => (by cases h), fun _ h => (by cases h)⟩
  refine f3_go _ _ _ (f9_spec (room := 1048576) (by omega) wB fun h1 D r1 w1 => ⟨_, rfl, ?_⟩)
  have q1 := newS_q 1048576 (by omega)
  have hcn : (newS 1048576).calls = 0 := rfl
  -- behind the names: what is there is told by `x`
  have tail : ∀ (s : Ds) (D' : PD) (h' : AH) (B' : List (Nat × AB)) (x : Bool), D'.bd = D.bd → PRep s D' → Qu s → s.calls < 100 → (∀ m, hasD s m = if x = true ∧ m = a then some [] else none) → Own w0 h' (D'.blocks s ++ B') → f3_18 w0 K a b (some ⟨D.bd, 0, none⟩) (if x then 0 else 15) h' := fun s D' h' B' x hb r q hc hh w => by
    have fin : ∀ (B'' : List (Nat × AB)) (h2 : AH), Own w0 h2 B'' → EvC Go.Proofs.Try.prog w0 13 #[(.int .i64 (1 : Int)), (.int .i64 (1 : Int))] (fun x'22 h'23 => (∃ i'24 : Int, ∃ p'25 : Option Addr, ∃ n'26 : Nat, ∃ n'27 : Nat, ((x'22 = (.agg #[(.int .i64 i'24), (.slice p'25 n'26 n'27)])) ∧ (EvC Go.Proofs.Try.prog w0 12 #[(.pointer none), (.agg #[(.int .i64 i'24), (.slice p'25 n'26 n'27)])] (fun x'28 h'29 => (∃ i'30 : Int, ((x'28 = (.int .i64 i'30)) ∧ (brB (i'30 == (1 : Int)) (EvC Go.Proofs.Try.prog w0 14 #[(.pointer none)] (fun x'31 h'32 => (∃ i'33 : Int, ((x'31 = (.int .i64 i'33)) ∧ (brB (i'33 == (0 : Int)) (EvC Go.Proofs.Try.prog w0 15 #[] (fun x'34 h'35 => (∃ t'36 : Bool, ((x'34 = (.bool t'36)) ∧ (K (.bool t'36) h'35)))) h'32) (K (.bool false) h'32))))) h'29) (K (.bool false) h'29))))) h'23)))) h2 := fun B'' h2 w2 => by
      refine f13_spec (n := 1) w2 (by omega) fun h3 a3 c3 os e v vs w3 => ⟨_, _, _, _, rfl, ?_⟩
      refine f12_go _ _ _ _ _ _ (brB_of (fun _ => ⟨_, rfl, brB_of (fun _ => ?_) fun z => by cases z⟩) fun z => by cases z)
      refine f14_go _ _ (brB_of (fun _ => ⟨_, rfl, brB_of (fun _ => ?_) fun z => by cases z⟩) fun z => by cases z)
      exact f15_spec w3 fun h4 _ => ⟨_, rfl, hk h4⟩
    rw [← hb]
    refine f3_18_in _ _ _ _ _ ?_
    by_cases q0 : x = true ∧ b = a
    · refine f11_log (bs := []) rfl r w q (by rw [hh, if_pos q0]; rfl) (fun _ z => by cases z) trivial (by decide) (by decide) fun h2 lb a' c' ms he v vs _ w2 => ⟨_, _, _, _, _, rfl, f10_nil ⟨_, _, rfl, ?_⟩⟩
      have hml : ms.length = 0 := by have := congrArg List.length he; simpa using this
      rw [q0.1, if_pos rfl]
      refine brB_of (fun _ => brB_of (fun _ => brB_of (fun _ => brB_of (fun _ => brB_of (fun _ => fin _ _ w2) fun z => by cases z) fun z => by cases z) fun z => by rw [hml] at z; cases z) fun z => by simp [q0.2] at z) fun z => by cases z
    · refine f11_none r w (by rw [read_none q (by rw [hh, if_neg q0])]; simp) fun h2 w2 => ⟨_, _, _, _, _, rfl, f10_nil ⟨_, _, rfl, ?_⟩⟩
      rw [read_none q (by rw [hh, if_neg q0])]
      cases x with
      | true =>
        have : ¬ b = a := fun z => q0 ⟨rfl, z⟩
        refine brB_of (fun _ => brB_of (fun _ => brB_of (fun _ => brB_of (fun _ => brB_of (fun _ => fin _ _ w2) fun z => by cases z) fun z => by cases z) fun z => by cases z) fun z => by simp [this] at z) fun z => by cases z
      | false =>
        refine brB_of (fun z => by cases z) fun _ => brB_of (fun _ => brB_of (fun _ => brB_of (fun _ => brB_of (fun _ => fin _ _ w2) fun z => by cases z) fun z => by cases z) fun z => by cases z) fun z => by cases z
  have h0 : ∀ m, hasD (newS 1048576) m = none := fun m => rfl
  -- the answer that the text reckons is nameB
  have loop : ∀ (s : Ds) (p : Option Addr) (i7 : Int) (h' : AH), (f3_12 w0 K a b p i7 (if a.data.toList.any badB then 15 else 0) h') → ∀ (k i : Nat), i + k = a.size → f3_7 w0 K a b p i7 (if (a.data.toList.take i).any badB then 15 else 0) ((a.size : Nat) : Int) ((i : Nat) : Int) h' := fun s p i7 h' hh k => by
    induction k with
    | zero =>
      intro i hi
      refine f3_7_in _ _ _ _ _ _ _ _ (brB_of (fun z => by have := of_decide_eq_true z; omega) fun _ => ?_)
      have : a.data.toList.take i = a.data.toList := List.take_of_length_le (by rw [Array.length_toList]; show a.size ≤ i; omega)
      rw [this]; exact hh
    | succ k ih =>
      intro i hi
      have hil : i < a.data.toList.length := by rw [Array.length_toList]; show i < a.size; omega
      have hb := byteAt_get a i hil
      have hgt : a.data.toList.take (i + 1) = a.data.toList.take i ++ [a.data.toList[i]] := by rw [List.take_succ_eq_append_getElem hil]
      have nxt := ih (i + 1) (by omega)
      rw [hgt, List.any_append] at nxt
      have ten : ∀ t : Bool, t = badB (a.data.toList[i]) → f3_10 w0 K a b p i7 (if (a.data.toList.take i).any badB then 15 else 0) ((a.size : Nat) : Int) ((i : Nat) : Int) t h' := fun t ht => by
        have e1 : [a.data.toList[i]].any badB = t := by rw [ht]; simp
        rw [e1] at nxt
        refine f3_10_in _ _ _ _ _ _ _ _ _ (brB_of (fun z => ?_) fun z => ?_)
        · rw [wrapS (by omega)]; subst z; simpa using nxt
        · rw [wrapS (by omega)]; subst z; simpa using nxt
      have u := UInt8.toNat_lt (a.data.toList[i])
      refine f3_7_in _ _ _ _ _ _ _ _ (brB_of (fun _ => ⟨by omega, by omega, ?_⟩) fun z => by have := of_decide_eq_false z; omega)
      rw [Int.toNat_natCast, hb]
      refine brB_of (fun z => ten true ?_) fun z => ⟨by omega, by omega, ?_⟩
      · have z1 : (a.data.toList[i]).toNat = 47 := by have := eq_of_beq z; omega
        have : a.data.toList[i] = 47 := UInt8.toNat_inj.1 z1
        rw [this]; rfl
      · refine ten _ ?_
        have z1 : (a.data.toList[i]).toNat ≠ 47 := by have := ne_of_beq_false z; omega
        have z2 : (a.data.toList[i] == 47) = false := by
          rw [beq_eq_false_iff_ne]; intro e; rw [e] at z1; exact z1 rfl
        unfold badB; rw [z2, Bool.false_or]
        by_cases q : a.data.toList[i] = 0
        · rw [q]; rfl
        · have q2 : (a.data.toList[i]).toNat ≠ 0 := fun e => q (UInt8.toNat_inj.1 e)
          rw [beq_eq_false_iff_ne.2 q, beq_eq_false_iff_ne.2 (by omega)]
  have hsz : a.data.toList.length = a.size := Array.length_toList
  by_cases hn : nameB a = true
  · have hn' := hn
    rw [nameB_eq] at hn'
    simp only [Bool.and_eq_true, decide_eq_true_eq, Bool.not_eq_true'] at hn'
    refine f10_log rfl r1 w1 (by omega) q1 hn (h0 a) fun h2 s2 D2 lb b2 r2 q2 l2 o2 u2 m2 c2 w2 => ⟨_, _, rfl, ?_⟩
    have hh : ∀ m, hasD s2 m = if m = a then some [] else none := fun m => by
      by_cases e : m = a
      · rw [if_pos e, e]; exact l2.data
      · rw [if_neg e, o2 m e]; rfl
    have twelve : f3_12 w0 K a b (some ⟨D.bd, 0, none⟩) 0 (if a.data.toList.any badB then 15 else 0) h2 := by
      rw [hn'.2]
      refine f3_12_in _ _ _ _ _ _ (brB_of (fun z => by cases z) fun _ => brB_of (fun _ => ?_) fun z => by cases z)
      refine f10_bad b2 r2 w2.tail (by omega) q2 (Or.inr ⟨hn, ⟨_, by rw [hh, if_pos rfl]⟩, rfl⟩) fun h3 s3 D3 b3 r3 q3 o3 c3 w3 => ⟨_, _, rfl, brB_of (fun z => by cases z) fun _ => ?_⟩
      refine tail s3 D3 h3 _ true b3 r3 q3 (by omega) (fun m => ?_) w3
      rw [o3, hh]; simp
    refine brB_of (fun _ => f3_5_in _ _ _ _ _ _ _ (brB_of (fun _ => ?_) fun z => by have := of_decide_eq_false z; omega)) fun z => by have := of_decide_eq_false z; omega
    exact loop s2 _ _ _ twelve a.size 0 (by omega)
  · have hn0 : nameB a = false := by simpa using hn
    refine f10_bad rfl r1 w1 (by omega) q1 (Or.inl ⟨hn0, rfl⟩) fun h3 s3 D3 b3 r3 q3 o3 c3 w3 => ⟨_, _, rfl, ?_⟩
    have twelve : f3_12 w0 K a b (some ⟨D.bd, 0, none⟩) 15 15 h3 := by
      refine f3_12_in _ _ _ _ _ _ (brB_of (fun z => by cases z) fun _ => brB_of (fun z => by cases z) fun _ => ?_)
      exact tail s3 D3 h3 _ false b3 r3 q3 (by omega) (fun m => by rw [o3, h0]; simp) w3
    rw [nameB_eq] at hn0
    have five : ∀ t : Bool, (t = true → a.data.toList.any badB = true) → f3_5 w0 K a b (some ⟨D.bd, 0, none⟩) 15 15 t h3 := fun t ht => by
      refine f3_5_in _ _ _ _ _ _ _ (brB_of (fun z => ?_) fun z => twelve)
      have := loop s3 _ 15 _ (by rw [ht z]; exact twelve) a.size 0 (by omega)
      exact this
    refine brB_of (fun z => five _ fun z2 => ?_) fun z => five _ fun z2 => by cases z2
    have z1 := of_decide_eq_true z
    have z3 := of_decide_eq_true z2
    have e1 : decide (1 ≤ a.size) = true := decide_eq_true (by omega)
    have e2 : decide (a.size ≤ 64) = true := decide_eq_true (by omega)
    rw [e1, e2] at hn0
    simpa using hn0
end
end Go.G.Ytlghmjehibikeaa
