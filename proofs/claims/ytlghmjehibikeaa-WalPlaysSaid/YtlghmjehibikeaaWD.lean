/- Batches decoded. -/
import Derived.Test.YtlghmjehibikeaaWC
import Derived.Test.YtlghmjehibikeaaProg
set_option maxRecDepth 100000
namespace Go.G.Ytlghmjehibikeaa
open Go.RowKit
def f78_J : Nat → List Nat × Nat := jOf [(5, [1, 2, 3, 4, 5, 6, 9, 10, 11, 12, 13, 14, 15, 16, 17, 18, 19, 20, 22, 23, 24, 25, 26, 27, 28, 29, 30, 31, 32, 33, 34, 35, 36, 37, 38, 39, 40, 41, 42, 43, 44, 45, 46, 47], 0)]

def f78_5 (w0 : World) (K : Value → AH → Prop) (a0 : Option Go.Addr) (n0 : Nat) (c0 : Nat) (x7 : Int) (x8 : Int) (x21 : Bool) (h : AH) : Prop :=
  ∀ j : Nat → Value, LPk Go.Proofs.Try.prog w0 (EvC Go.Proofs.Try.prog w0) f78_J 78 K 5 [.v (.slice a0 n0 c0), .v (j 1), .v (j 2), .v (j 3), .v (j 4), .v (j 5), .v (j 6), .v (.int .u64 x7), .v (.int .i64 x8), .v (j 9), .v (j 10), .v (j 11), .v (j 12), .v (j 13), .v (j 14), .v (j 15), .v (j 16), .v (j 17), .v (j 18), .v (j 19), .v (j 20), .v (.bool x21), .v (j 22), .v (j 23), .v (j 24), .v (j 25), .v (j 26), .v (j 27), .v (j 28), .v (j 29), .v (j 30), .v (j 31), .v (j 32), .v (j 33), .v (j 34), .v (j 35), .v (j 36), .v (j 37), .v (j 38), .v (j 39), .v (j 40), .v (j 41), .v (j 42), .v (j 43), .v (j 44), .v (j 45), .v (j 46), .v (j 47)] [] h

theorem f78_5_in {w0 : World} {K : Value → AH → Prop} (a0 : Option Go.Addr) (n0 : Nat) (c0 : Nat) (x7 : Int) (x8 : Int) (x21 : Bool) (h : AH)
  (hv : (brB x21 (K (Go.Value.tuple #[(Go.Value.slice none 0 0), (Go.Value.int .i64 (0 : Int)), (Go.Value.int .i64 (2 : Int))]) h) (brB (decide (((Go.IntKind.wrap .u64 (Go.IntKind.wrap .i64 (((n0 : Nat) : Int) - x8))) < x7))) (K (Go.Value.tuple #[(Go.Value.slice none 0 0), (Go.Value.int .i64 (0 : Int)), (Go.Value.int .i64 (5 : Int))]) h) (((0 : Int) ≤ x8) ∧ ((x8 ≤ (Go.IntKind.wrap .i64 (x8 + (Go.IntKind.wrap .i64 x7)))) ∧ (((Go.IntKind.wrap .i64 (x8 + (Go.IntKind.wrap .i64 x7))) ≤ ((c0 : Nat) : Int)) ∧ (rowsOf w0 h 1 (Go.G.cutA 1 a0 c0 (Int.toNat x8)) ((Int.toNat (Go.IntKind.wrap .i64 (x8 + (Go.IntKind.wrap .i64 x7)))) - (Int.toNat x8)) (fun ys'5 => (App w0 h 1 1 none 0 0 ((Int.toNat (Go.IntKind.wrap .i64 (x8 + (Go.IntKind.wrap .i64 x7)))) - (Int.toNat x8)) ys'5 (fun a'6 c'7 h'8 => (K (Go.Value.tuple #[(Go.Value.slice a'6 (0 + ((Int.toNat (Go.IntKind.wrap .i64 (x8 + (Go.IntKind.wrap .i64 x7)))) - (Int.toNat x8))) c'7), (Go.Value.int .i64 (Go.IntKind.wrap .i64 (x8 + (Go.IntKind.wrap .i64 x7)))), (Go.Value.int .i64 (0 : Int))]) h'8))))))))))) :
  f78_5 w0 K a0 n0 c0 x7 x8 x21 h := fun j => LP_intro (P := Go.Proofs.Try.prog) (Eq.mp (by kernel_rfl) hv)

theorem f78_go {w0 : World} {K : Value → AH → Prop} (a0 : Option Go.Addr) (n0 : Nat) (c0 : Nat) (x1 : Int) (h : AH)
  (hv : (EvC Go.Proofs.Try.prog w0 58 #[(Go.Value.slice a0 n0 c0)] (fun x'0 h'1 => (∃ i'2 : Int, (∃ i'3 : Int, (∃ i'4 : Int, ((x'0 = (Go.Value.tuple #[(Go.Value.int .u64 i'2), (Go.Value.int .i64 i'3), (Go.Value.int .i64 i'4)])) ∧ (brB (i'4 != (0 : Int)) (K (Go.Value.tuple #[(Go.Value.slice none 0 0), (Go.Value.int .i64 (0 : Int)), (Go.Value.int .i64 i'4)]) h'1) (brB (decide ((x1 < (0 : Int)))) (f78_5 w0 K a0 n0 c0 i'2 i'3 true h'1) (f78_5 w0 K a0 n0 c0 i'2 i'3 (decide (((Go.IntKind.wrap .u64 x1) < i'2))) h'1)))))))) h)) :
  EvC Go.Proofs.Try.prog w0 78 ([(.slice a0 n0 c0), (.int .i64 x1)]).toArray K h := EvC_intro (P := Go.Proofs.Try.prog) f78_J (Eq.mp (by kernel_rfl) hv)
def f61_J : Nat → List Nat × Nat := jOf [(5, [1, 2, 3, 4, 8, 9, 10, 11, 12, 13, 14, 15, 16, 17, 18, 19, 20, 21, 22, 23, 24, 25, 26, 27, 29, 30, 31, 32, 33, 34, 35, 36, 37, 38, 39, 40, 41, 42, 43, 44], 0), (6, [1, 2, 3, 4, 8, 9, 10, 11, 12, 13, 14, 15, 16, 17, 18, 19, 20, 21, 22, 23, 24, 25, 26, 27, 28, 29, 30, 31, 32, 33, 34, 35, 36, 37, 38, 39, 40, 41, 42, 43, 44], 0)]

def f61_5 (w0 : World) (K : Value → AH → Prop) (x0 : Option Go.Addr) (x5 : Int) (x6 : Int) (x7 : Int) (x28 : Bool) (h : AH) : Prop :=
  ∀ j : Nat → Value, LPk Go.Proofs.Try.prog w0 (EvC Go.Proofs.Try.prog w0) f61_J 61 K 5 [.v (.pointer x0), .v (j 1), .v (j 2), .v (j 3), .v (j 4), .v (.int .u64 x5), .v (.int .i64 x6), .v (.int .i64 x7), .v (j 8), .v (j 9), .v (j 10), .v (j 11), .v (j 12), .v (j 13), .v (j 14), .v (j 15), .v (j 16), .v (j 17), .v (j 18), .v (j 19), .v (j 20), .v (j 21), .v (j 22), .v (j 23), .v (j 24), .v (j 25), .v (j 26), .v (j 27), .v (.bool x28), .v (j 29), .v (j 30), .v (j 31), .v (j 32), .v (j 33), .v (j 34), .v (j 35), .v (j 36), .v (j 37), .v (j 38), .v (j 39), .v (j 40), .v (j 41), .v (j 42), .v (j 43), .v (j 44)] [] h

def f61_6 (w0 : World) (K : Value → AH → Prop) (x0 : Option Go.Addr) (x5 : Int) (x6 : Int) (x7 : Int) (h : AH) : Prop :=
  ∀ j : Nat → Value, LPk Go.Proofs.Try.prog w0 (EvC Go.Proofs.Try.prog w0) f61_J 61 K 6 [.v (.pointer x0), .v (j 1), .v (j 2), .v (j 3), .v (j 4), .v (.int .u64 x5), .v (.int .i64 x6), .v (.int .i64 x7), .v (j 8), .v (j 9), .v (j 10), .v (j 11), .v (j 12), .v (j 13), .v (j 14), .v (j 15), .v (j 16), .v (j 17), .v (j 18), .v (j 19), .v (j 20), .v (j 21), .v (j 22), .v (j 23), .v (j 24), .v (j 25), .v (j 26), .v (j 27), .v (j 28), .v (j 29), .v (j 30), .v (j 31), .v (j 32), .v (j 33), .v (j 34), .v (j 35), .v (j 36), .v (j 37), .v (j 38), .v (j 39), .v (j 40), .v (j 41), .v (j 42), .v (j 43), .v (j 44)] [] h

theorem f61_5_in {w0 : World} {K : Value → AH → Prop} (x0 : Option Go.Addr) (x5 : Int) (x6 : Int) (x7 : Int) (x28 : Bool) (h : AH)
  (hv : (brB x28 (f61_6 w0 K x0 x5 x6 (3 : Int) h) (f61_6 w0 K x0 x5 x6 x7 h))) :
  f61_5 w0 K x0 x5 x6 x7 x28 h := fun j => LP_intro (P := Go.Proofs.Try.prog) (Eq.mp (by kernel_rfl) hv)

theorem f61_6_in {w0 : World} {K : Value → AH → Prop} (x0 : Option Go.Addr) (x5 : Int) (x6 : Int) (x7 : Int) (h : AH)
  (hv : (∃ a'11 : Go.Addr, ((x0 = (some a'11)) ∧ (∃ l'12 : List Go.Value, (∃ n'13 : Nat, (((Array.size (Go.World.heap w0)) ≤ (Go.Addr.block (Go.Addr.add a'11 1))) ∧ (((none : Option Nat) = none) ∧ (((h (Go.Addr.block (Go.Addr.add a'11 1))) = (some (Go.G.AB.cells l'12 n'13))) ∧ ((((Go.Addr.off (Go.Addr.add a'11 1)) + (Array.size #[(Go.Value.int .i64 x7)])) ≤ (List.length l'12)) ∧ (brB (x7 != (0 : Int)) (K (Go.Value.int .u64 (0 : Int)) (Go.G.AH.put h (Go.Addr.block (Go.Addr.add a'11 1)) (Go.G.AB.cells (Go.G.setCells l'12 (Go.Addr.off (Go.Addr.add a'11 1)) [(Go.Value.int .i64 x7)]) n'13))) (∃ a'14 : Go.Addr, ((x0 = (some a'14)) ∧ (∃ p'15 : Option Go.Addr, (∃ n'16 : Nat, (∃ n'17 : Nat, (((Go.G.cellA w0 (Go.G.AH.put h (Go.Addr.block (Go.Addr.add a'11 1)) (Go.G.AB.cells (Go.G.setCells l'12 (Go.Addr.off (Go.Addr.add a'11 1)) [(Go.Value.int .i64 x7)]) n'13)) (Go.Addr.add a'14 0)) = (some (Go.Value.slice p'15 n'16 n'17))) ∧ (((0 : Int) ≤ x6) ∧ ((x6 ≤ ((n'16 : Nat) : Int)) ∧ (∃ a'18 : Go.Addr, ((x0 = (some a'18)) ∧ (∃ l'19 : List Go.Value, (∃ n'20 : Nat, (((Array.size (Go.World.heap w0)) ≤ (Go.Addr.block (Go.Addr.add a'18 0))) ∧ (((Go.Addr.spot (Go.Addr.add a'18 0)) = none) ∧ (((Go.G.AH.put h (Go.Addr.block (Go.Addr.add a'11 1)) (Go.G.AB.cells (Go.G.setCells l'12 (Go.Addr.off (Go.Addr.add a'11 1)) [(Go.Value.int .i64 x7)]) n'13) (Go.Addr.block (Go.Addr.add a'18 0))) = (some (Go.G.AB.cells l'19 n'20))) ∧ ((((Go.Addr.off (Go.Addr.add a'18 0)) + (Array.size #[(Go.Value.slice (Go.G.cutA 1 p'15 n'17 (Int.toNat x6)) (n'16 - (Int.toNat x6)) (n'17 - (Int.toNat x6)))])) ≤ (List.length l'19)) ∧ (K (Go.Value.int .u64 x5) (Go.G.AH.put (Go.G.AH.put h (Go.Addr.block (Go.Addr.add a'11 1)) (Go.G.AB.cells (Go.G.setCells l'12 (Go.Addr.off (Go.Addr.add a'11 1)) [(Go.Value.int .i64 x7)]) n'13)) (Go.Addr.block (Go.Addr.add a'18 0)) (Go.G.AB.cells (Go.G.setCells l'19 (Go.Addr.off (Go.Addr.add a'18 0)) [(Go.Value.slice (Go.G.cutA 1 p'15 n'17 (Int.toNat x6)) (n'16 - (Int.toNat x6)) (n'17 - (Int.toNat x6)))]) n'20))))))))))))))))))))))))))))) :
  f61_6 w0 K x0 x5 x6 x7 h := fun j => LP_intro (P := Go.Proofs.Try.prog) (Eq.mp (by kernel_rfl) hv)

theorem f61_go {w0 : World} {K : Value → AH → Prop} (x0 : Option Go.Addr) (x1 : Int) (h : AH)
  (hv : (∃ a'0 : Go.Addr, ((x0 = (some a'0)) ∧ (∃ i'1 : Int, (((Go.G.cellA w0 h (Go.Addr.add a'0 1)) = (some (Go.Value.int .i64 i'1))) ∧ (brB (i'1 != (0 : Int)) (K (Go.Value.int .u64 (0 : Int)) h) (∃ a'2 : Go.Addr, ((x0 = (some a'2)) ∧ (∃ p'3 : Option Go.Addr, (∃ n'4 : Nat, (∃ n'5 : Nat, (((Go.G.cellA w0 h (Go.Addr.add a'2 0)) = (some (Go.Value.slice p'3 n'4 n'5))) ∧ (EvC Go.Proofs.Try.prog w0 58 #[(Go.Value.slice p'3 n'4 n'5)] (fun x'6 h'7 => (∃ i'8 : Int, (∃ i'9 : Int, (∃ i'10 : Int, ((x'6 = (Go.Value.tuple #[(Go.Value.int .u64 i'8), (Go.Value.int .i64 i'9), (Go.Value.int .i64 i'10)])) ∧ (brB (i'10 == (0 : Int)) (f61_5 w0 K x0 i'8 i'9 i'10 (decide ((x1 < i'8))) h'7) (f61_5 w0 K x0 i'8 i'9 i'10 false h'7))))))) h))))))))))))) :
  EvC Go.Proofs.Try.prog w0 61 ([(.pointer x0), (.int .u64 x1)]).toArray K h := EvC_intro (P := Go.Proofs.Try.prog) f61_J (Eq.mp (by kernel_rfl) hv)
def f62_J : Nat → List Nat × Nat := jOf []



theorem f62_go {w0 : World} {K : Value → AH → Prop} (x0 : Option Go.Addr) (h : AH)
  (hv : (∃ a'0 : Go.Addr, ((x0 = (some a'0)) ∧ (∃ i'1 : Int, (((Go.G.cellA w0 h (Go.Addr.add a'0 1)) = (some (Go.Value.int .i64 i'1))) ∧ (brB (i'1 != (0 : Int)) (K (Go.Value.bool false) h) (∃ a'2 : Go.Addr, ((x0 = (some a'2)) ∧ (∃ p'3 : Option Go.Addr, (∃ n'4 : Nat, (∃ n'5 : Nat, (((Go.G.cellA w0 h (Go.Addr.add a'2 0)) = (some (Go.Value.slice p'3 n'4 n'5))) ∧ (brB (((n'4 : Nat) : Int) == (0 : Int)) (∃ a'6 : Go.Addr, ((x0 = (some a'6)) ∧ (∃ l'7 : List Go.Value, (∃ n'8 : Nat, (((Array.size (Go.World.heap w0)) ≤ (Go.Addr.block (Go.Addr.add a'6 1))) ∧ (((none : Option Nat) = none) ∧ (((h (Go.Addr.block (Go.Addr.add a'6 1))) = (some (Go.G.AB.cells l'7 n'8))) ∧ ((((Go.Addr.off (Go.Addr.add a'6 1)) + 1) ≤ (List.length l'7)) ∧ (K (Go.Value.bool false) (Go.G.AH.put h (Go.Addr.block (Go.Addr.add a'6 1)) (Go.G.AB.cells (Go.G.setCells l'7 (Go.Addr.off (Go.Addr.add a'6 1)) [(Go.Value.int .i64 (5 : Int))]) n'8))))))))))) (∃ a'9 : Go.Addr, ((x0 = (some a'9)) ∧ (∃ p'10 : Option Go.Addr, (∃ n'11 : Nat, (∃ n'12 : Nat, (((Go.G.cellA w0 h (Go.Addr.add a'9 0)) = (some (Go.Value.slice p'10 n'11 n'12))) ∧ (∃ a'13 : Go.Addr, ((p'10 = (some a'13)) ∧ (((0 : Int) ≤ (0 : Int)) ∧ (((0 : Int) < ((n'11 : Nat) : Int)) ∧ (∃ i'14 : Int, (((Go.G.cellA w0 h (Go.Addr.add a'13 0)) = (some (Go.Value.int .u8 i'14))) ∧ (brB (decide (((1 : Int) < i'14))) (∃ a'15 : Go.Addr, ((x0 = (some a'15)) ∧ (∃ l'16 : List Go.Value, (∃ n'17 : Nat, (((Array.size (Go.World.heap w0)) ≤ (Go.Addr.block (Go.Addr.add a'15 1))) ∧ (((none : Option Nat) = none) ∧ (((h (Go.Addr.block (Go.Addr.add a'15 1))) = (some (Go.G.AB.cells l'16 n'17))) ∧ ((((Go.Addr.off (Go.Addr.add a'15 1)) + 1) ≤ (List.length l'16)) ∧ (K (Go.Value.bool false) (Go.G.AH.put h (Go.Addr.block (Go.Addr.add a'15 1)) (Go.G.AB.cells (Go.G.setCells l'16 (Go.Addr.off (Go.Addr.add a'15 1)) [(Go.Value.int .i64 (3 : Int))]) n'17))))))))))) (∃ a'18 : Go.Addr, ((x0 = (some a'18)) ∧ (∃ p'19 : Option Go.Addr, (∃ n'20 : Nat, (∃ n'21 : Nat, (((Go.G.cellA w0 h (Go.Addr.add a'18 0)) = (some (Go.Value.slice p'19 n'20 n'21))) ∧ (∃ a'22 : Go.Addr, ((p'19 = (some a'22)) ∧ (((0 : Int) ≤ (0 : Int)) ∧ (((0 : Int) < ((n'20 : Nat) : Int)) ∧ (∃ i'23 : Int, (((Go.G.cellA w0 h (Go.Addr.add a'22 0)) = (some (Go.Value.int .u8 i'23))) ∧ (∃ a'24 : Go.Addr, ((x0 = (some a'24)) ∧ (∃ p'25 : Option Go.Addr, (∃ n'26 : Nat, (∃ n'27 : Nat, (((Go.G.cellA w0 h (Go.Addr.add a'24 0)) = (some (Go.Value.slice p'25 n'26 n'27))) ∧ (((0 : Int) ≤ (1 : Int)) ∧ (((1 : Int) ≤ ((n'26 : Nat) : Int)) ∧ (∃ a'28 : Go.Addr, ((x0 = (some a'28)) ∧ (∃ l'29 : List Go.Value, (∃ n'30 : Nat, (((Array.size (Go.World.heap w0)) ≤ (Go.Addr.block (Go.Addr.add a'28 0))) ∧ (((Go.Addr.spot (Go.Addr.add a'28 0)) = none) ∧ (((h (Go.Addr.block (Go.Addr.add a'28 0))) = (some (Go.G.AB.cells l'29 n'30))) ∧ ((((Go.Addr.off (Go.Addr.add a'28 0)) + (Array.size #[(Go.Value.slice (Go.G.cutA 1 p'25 n'27 1) (n'26 - 1) (n'27 - 1))])) ≤ (List.length l'29)) ∧ (K (Go.Value.bool (i'23 == (1 : Int))) (Go.G.AH.put h (Go.Addr.block (Go.Addr.add a'28 0)) (Go.G.AB.cells (Go.G.setCells l'29 (Go.Addr.off (Go.Addr.add a'28 0)) [(Go.Value.slice (Go.G.cutA 1 p'25 n'27 1) (n'26 - 1) (n'27 - 1))]) n'30))))))))))))))))))))))))))))))))))))))))))))))))))))))))) :
  EvC Go.Proofs.Try.prog w0 62 ([(.pointer x0)]).toArray K h := EvC_intro (P := Go.Proofs.Try.prog) f62_J (Eq.mp (by kernel_rfl) hv)
def f63_J : Nat → List Nat × Nat := jOf []



theorem f63_go {w0 : World} {K : Value → AH → Prop} (x0 : Option Go.Addr) (x1 : Int) (h : AH)
  (hv : (∃ a'0 : Go.Addr, ((x0 = (some a'0)) ∧ (∃ i'1 : Int, (((Go.G.cellA w0 h (Go.Addr.add a'0 1)) = (some (Go.Value.int .i64 i'1))) ∧ (brB (i'1 != (0 : Int)) (K (Go.Value.slice none 0 0) h) (∃ a'2 : Go.Addr, ((x0 = (some a'2)) ∧ (∃ p'3 : Option Go.Addr, (∃ n'4 : Nat, (∃ n'5 : Nat, (((Go.G.cellA w0 h (Go.Addr.add a'2 0)) = (some (Go.Value.slice p'3 n'4 n'5))) ∧ (EvC Go.Proofs.Try.prog w0 78 #[(Go.Value.slice p'3 n'4 n'5), (Go.Value.int .i64 x1)] (fun x'6 h'7 => (∃ p'8 : Option Go.Addr, (∃ n'9 : Nat, (∃ n'10 : Nat, (∃ i'11 : Int, (∃ i'12 : Int, ((x'6 = (Go.Value.tuple #[(Go.Value.slice p'8 n'9 n'10), (Go.Value.int .i64 i'11), (Go.Value.int .i64 i'12)])) ∧ (∃ a'13 : Go.Addr, ((x0 = (some a'13)) ∧ (∃ p'14 : Option Go.Addr, (∃ n'15 : Nat, (∃ n'16 : Nat, (((Go.G.cellA w0 h'7 (Go.Addr.add a'13 0)) = (some (Go.Value.slice p'14 n'15 n'16))) ∧ (((0 : Int) ≤ i'11) ∧ ((i'11 ≤ ((n'15 : Nat) : Int)) ∧ (∃ a'17 : Go.Addr, ((x0 = (some a'17)) ∧ (∃ l'18 : List Go.Value, (∃ n'19 : Nat, (((Array.size (Go.World.heap w0)) ≤ (Go.Addr.block (Go.Addr.add a'17 0))) ∧ (((Go.Addr.spot (Go.Addr.add a'17 0)) = none) ∧ (((h'7 (Go.Addr.block (Go.Addr.add a'17 0))) = (some (Go.G.AB.cells l'18 n'19))) ∧ ((((Go.Addr.off (Go.Addr.add a'17 0)) + (Array.size #[(Go.Value.slice (Go.G.cutA 1 p'14 n'16 (Int.toNat i'11)) (n'15 - (Int.toNat i'11)) (n'16 - (Int.toNat i'11)))])) ≤ (List.length l'18)) ∧ (∃ a'20 : Go.Addr, ((x0 = (some a'20)) ∧ (∃ l'21 : List Go.Value, (∃ n'22 : Nat, (((Array.size (Go.World.heap w0)) ≤ (Go.Addr.block (Go.Addr.add a'20 1))) ∧ (((none : Option Nat) = none) ∧ (((Go.G.AH.put h'7 (Go.Addr.block (Go.Addr.add a'17 0)) (Go.G.AB.cells (Go.G.setCells l'18 (Go.Addr.off (Go.Addr.add a'17 0)) [(Go.Value.slice (Go.G.cutA 1 p'14 n'16 (Int.toNat i'11)) (n'15 - (Int.toNat i'11)) (n'16 - (Int.toNat i'11)))]) n'19) (Go.Addr.block (Go.Addr.add a'20 1))) = (some (Go.G.AB.cells l'21 n'22))) ∧ ((((Go.Addr.off (Go.Addr.add a'20 1)) + (Array.size #[(Go.Value.int .i64 i'12)])) ≤ (List.length l'21)) ∧ (K (Go.Value.slice p'8 n'9 n'10) (Go.G.AH.put (Go.G.AH.put h'7 (Go.Addr.block (Go.Addr.add a'17 0)) (Go.G.AB.cells (Go.G.setCells l'18 (Go.Addr.off (Go.Addr.add a'17 0)) [(Go.Value.slice (Go.G.cutA 1 p'14 n'16 (Int.toNat i'11)) (n'15 - (Int.toNat i'11)) (n'16 - (Int.toNat i'11)))]) n'19)) (Go.Addr.block (Go.Addr.add a'20 1)) (Go.G.AB.cells (Go.G.setCells l'21 (Go.Addr.off (Go.Addr.add a'20 1)) [(Go.Value.int .i64 i'12)]) n'22)))))))))))))))))))))))))))))))))) h))))))))))))) :
  EvC Go.Proofs.Try.prog w0 63 ([(.pointer x0), (.int .i64 x1)]).toArray K h := EvC_intro (P := Go.Proofs.Try.prog) f63_J (Eq.mp (by kernel_rfl) hv)
def f33_J : Nat → List Nat × Nat := jOf [(5, [0, 1, 3, 8, 9, 10, 11, 12, 13, 14, 15, 16, 17, 18, 19, 20, 21, 22, 23, 24, 25, 26, 27, 28, 29, 30, 31, 32, 33, 34, 35, 36, 37, 38, 39, 40, 41, 42, 43, 44, 45, 46, 47, 48, 49, 50, 51, 52, 53, 54, 55, 56, 57, 58, 59, 60, 61, 62, 63, 64, 65, 66, 67, 68, 69, 70, 71, 72, 73, 74, 75, 76, 77, 78, 79, 80, 81, 82, 83, 84, 85, 86, 87, 88], 3), (7, [0, 1, 3, 8, 9, 10, 11, 12, 13, 14, 15, 16, 17, 18, 19, 20, 21, 22, 23, 24, 25, 26, 27, 28, 29, 30, 31, 32, 33, 34, 35, 36, 37, 38, 39, 40, 41, 42, 43, 44, 45, 46, 47, 48, 49, 50, 51, 52, 53, 54, 55, 56, 57, 58, 59, 60, 61, 62, 63, 64, 65, 66, 67, 68, 69, 70, 71, 72, 73, 74, 75, 76, 77, 78, 79, 80, 81, 82, 83, 84, 85, 86, 87, 88], 3), (13, [0, 1, 3, 6, 7, 8, 9, 10, 11, 12, 13, 14, 15, 16, 17, 18, 19, 20, 21, 22, 23, 24, 25, 26, 27, 28, 29, 30, 31, 32, 33, 34, 35, 36, 37, 38, 39, 40, 41, 42, 43, 44, 45, 46, 47, 48, 49, 50, 51, 52, 53, 54, 55, 56, 57, 58, 59, 60, 61, 62, 63, 64, 65, 66, 67, 68, 69, 70, 71, 72, 73, 74, 75, 76, 77, 78, 79, 80, 81, 82, 83, 84, 85, 86, 87, 88], 3), (14, [0, 1, 3, 6, 7, 8, 9, 10, 11, 12, 13, 14, 15, 16, 17, 18, 19, 20, 21, 22, 23, 24, 25, 26, 27, 28, 29, 30, 31, 32, 33, 34, 35, 36, 37, 38, 39, 40, 41, 42, 43, 44, 45, 46, 47, 48, 49, 50, 51, 52, 53, 54, 55, 56, 57, 58, 59, 60, 61, 62, 63, 65, 66, 67, 68, 69, 70, 71, 72, 73, 74, 75, 76, 77, 78, 79, 80, 81, 82, 83, 84, 85, 86, 87, 88], 3), (15, [0, 1, 3, 6, 7, 8, 9, 10, 11, 12, 13, 14, 15, 16, 17, 18, 19, 20, 21, 22, 23, 24, 25, 26, 27, 28, 29, 30, 31, 32, 33, 34, 35, 36, 37, 38, 39, 40, 41, 42, 43, 44, 45, 46, 47, 48, 49, 50, 51, 52, 53, 54, 55, 56, 57, 58, 59, 60, 61, 62, 63, 64, 65, 66, 67, 68, 69, 70, 71, 72, 73, 74, 75, 76, 77, 78, 79, 80, 81, 82, 83, 84, 85, 86, 87, 88], 3), (17, [0, 1, 3, 6, 7, 8, 9, 10, 11, 12, 13, 14, 15, 16, 17, 18, 19, 20, 21, 22, 23, 24, 25, 26, 27, 28, 29, 30, 31, 32, 33, 34, 35, 36, 37, 38, 39, 40, 41, 42, 43, 44, 45, 46, 47, 48, 49, 50, 51, 52, 53, 54, 55, 56, 57, 58, 59, 60, 61, 62, 63, 64, 65, 66, 67, 68, 69, 70, 71, 72, 73, 74, 75, 76, 77, 78, 79, 80, 81, 82, 83, 84, 85, 86, 87, 88], 3)]

def f33_5 (w0 : World) (K : Value → AH → Prop) (x4 : Go.Addr) (x6 : Int) (x7 : Int) (xb0_0 : Int) (ab0_1 : Option Go.Addr) (nb0_1 : Nat) (cb0_1 : Nat) (xb2_0 : Int) (ab2_1 : Option Go.Addr) (nb2_1 : Nat) (cb2_1 : Nat) (h : AH) : Prop :=
  ∀ j : Nat → Value, LPk Go.Proofs.Try.prog w0 (EvC Go.Proofs.Try.prog w0) f33_J 33 K 5 [.v (j 0), .v (j 1), .bp 0 0, .v (j 3), .v (.pointer (some x4)), .bp 2 0, .v (.int .u64 x6), .v (.int .u64 x7), .v (j 8), .v (j 9), .v (j 10), .v (j 11), .v (j 12), .v (j 13), .v (j 14), .v (j 15), .v (j 16), .v (j 17), .v (j 18), .v (j 19), .v (j 20), .v (j 21), .v (j 22), .v (j 23), .v (j 24), .v (j 25), .v (j 26), .v (j 27), .v (j 28), .v (j 29), .v (j 30), .v (j 31), .v (j 32), .v (j 33), .v (j 34), .v (j 35), .v (j 36), .v (j 37), .v (j 38), .v (j 39), .v (j 40), .v (j 41), .v (j 42), .v (j 43), .v (j 44), .v (j 45), .v (j 46), .v (j 47), .v (j 48), .v (j 49), .v (j 50), .v (j 51), .v (j 52), .v (j 53), .v (j 54), .v (j 55), .v (j 56), .v (j 57), .v (j 58), .v (j 59), .v (j 60), .v (j 61), .v (j 62), .v (j 63), .v (j 64), .v (j 65), .v (j 66), .v (j 67), .v (j 68), .v (j 69), .v (j 70), .v (j 71), .v (j 72), .v (j 73), .v (j 74), .v (j 75), .v (j 76), .v (j 77), .v (j 78), .v (j 79), .v (j 80), .v (j 81), .v (j 82), .v (j 83), .v (j 84), .v (j 85), .v (j 86), .v (j 87), .v (j 88)] [some [(.int .i64 xb0_0), (.slice ab0_1 nb0_1 cb0_1)], none, some [(.int .i64 xb2_0), (.slice ab2_1 nb2_1 cb2_1)]] h

def f33_7 (w0 : World) (K : Value → AH → Prop) (x4 : Go.Addr) (x6 : Int) (x7 : Int) (xb0_0 : Int) (ab0_1 : Option Go.Addr) (nb0_1 : Nat) (cb0_1 : Nat) (xb2_0 : Int) (ab2_1 : Option Go.Addr) (nb2_1 : Nat) (cb2_1 : Nat) (h : AH) : Prop :=
  ∀ j : Nat → Value, LPk Go.Proofs.Try.prog w0 (EvC Go.Proofs.Try.prog w0) f33_J 33 K 7 [.v (j 0), .v (j 1), .bp 0 0, .v (j 3), .v (.pointer (some x4)), .bp 2 0, .v (.int .u64 x6), .v (.int .u64 x7), .v (j 8), .v (j 9), .v (j 10), .v (j 11), .v (j 12), .v (j 13), .v (j 14), .v (j 15), .v (j 16), .v (j 17), .v (j 18), .v (j 19), .v (j 20), .v (j 21), .v (j 22), .v (j 23), .v (j 24), .v (j 25), .v (j 26), .v (j 27), .v (j 28), .v (j 29), .v (j 30), .v (j 31), .v (j 32), .v (j 33), .v (j 34), .v (j 35), .v (j 36), .v (j 37), .v (j 38), .v (j 39), .v (j 40), .v (j 41), .v (j 42), .v (j 43), .v (j 44), .v (j 45), .v (j 46), .v (j 47), .v (j 48), .v (j 49), .v (j 50), .v (j 51), .v (j 52), .v (j 53), .v (j 54), .v (j 55), .v (j 56), .v (j 57), .v (j 58), .v (j 59), .v (j 60), .v (j 61), .v (j 62), .v (j 63), .v (j 64), .v (j 65), .v (j 66), .v (j 67), .v (j 68), .v (j 69), .v (j 70), .v (j 71), .v (j 72), .v (j 73), .v (j 74), .v (j 75), .v (j 76), .v (j 77), .v (j 78), .v (j 79), .v (j 80), .v (j 81), .v (j 82), .v (j 83), .v (j 84), .v (j 85), .v (j 86), .v (j 87), .v (j 88)] [some [(.int .i64 xb0_0), (.slice ab0_1 nb0_1 cb0_1)], none, some [(.int .i64 xb2_0), (.slice ab2_1 nb2_1 cb2_1)]] h

def f33_13 (w0 : World) (K : Value → AH → Prop) (x4 : Go.Addr) (xb0_0 : Int) (ab0_1 : Option Go.Addr) (nb0_1 : Nat) (cb0_1 : Nat) (xb2_0 : Int) (ab2_1 : Option Go.Addr) (nb2_1 : Nat) (cb2_1 : Nat) (h : AH) : Prop :=
  ∀ j : Nat → Value, LPk Go.Proofs.Try.prog w0 (EvC Go.Proofs.Try.prog w0) f33_J 33 K 13 [.v (j 0), .v (j 1), .bp 0 0, .v (j 3), .v (.pointer (some x4)), .bp 2 0, .v (j 6), .v (j 7), .v (j 8), .v (j 9), .v (j 10), .v (j 11), .v (j 12), .v (j 13), .v (j 14), .v (j 15), .v (j 16), .v (j 17), .v (j 18), .v (j 19), .v (j 20), .v (j 21), .v (j 22), .v (j 23), .v (j 24), .v (j 25), .v (j 26), .v (j 27), .v (j 28), .v (j 29), .v (j 30), .v (j 31), .v (j 32), .v (j 33), .v (j 34), .v (j 35), .v (j 36), .v (j 37), .v (j 38), .v (j 39), .v (j 40), .v (j 41), .v (j 42), .v (j 43), .v (j 44), .v (j 45), .v (j 46), .v (j 47), .v (j 48), .v (j 49), .v (j 50), .v (j 51), .v (j 52), .v (j 53), .v (j 54), .v (j 55), .v (j 56), .v (j 57), .v (j 58), .v (j 59), .v (j 60), .v (j 61), .v (j 62), .v (j 63), .v (j 64), .v (j 65), .v (j 66), .v (j 67), .v (j 68), .v (j 69), .v (j 70), .v (j 71), .v (j 72), .v (j 73), .v (j 74), .v (j 75), .v (j 76), .v (j 77), .v (j 78), .v (j 79), .v (j 80), .v (j 81), .v (j 82), .v (j 83), .v (j 84), .v (j 85), .v (j 86), .v (j 87), .v (j 88)] [some [(.int .i64 xb0_0), (.slice ab0_1 nb0_1 cb0_1)], none, some [(.int .i64 xb2_0), (.slice ab2_1 nb2_1 cb2_1)]] h

def f33_14 (w0 : World) (K : Value → AH → Prop) (x4 : Go.Addr) (x64 : Bool) (xb0_0 : Int) (ab0_1 : Option Go.Addr) (nb0_1 : Nat) (cb0_1 : Nat) (xb2_0 : Int) (ab2_1 : Option Go.Addr) (nb2_1 : Nat) (cb2_1 : Nat) (h : AH) : Prop :=
  ∀ j : Nat → Value, LPk Go.Proofs.Try.prog w0 (EvC Go.Proofs.Try.prog w0) f33_J 33 K 14 [.v (j 0), .v (j 1), .bp 0 0, .v (j 3), .v (.pointer (some x4)), .bp 2 0, .v (j 6), .v (j 7), .v (j 8), .v (j 9), .v (j 10), .v (j 11), .v (j 12), .v (j 13), .v (j 14), .v (j 15), .v (j 16), .v (j 17), .v (j 18), .v (j 19), .v (j 20), .v (j 21), .v (j 22), .v (j 23), .v (j 24), .v (j 25), .v (j 26), .v (j 27), .v (j 28), .v (j 29), .v (j 30), .v (j 31), .v (j 32), .v (j 33), .v (j 34), .v (j 35), .v (j 36), .v (j 37), .v (j 38), .v (j 39), .v (j 40), .v (j 41), .v (j 42), .v (j 43), .v (j 44), .v (j 45), .v (j 46), .v (j 47), .v (j 48), .v (j 49), .v (j 50), .v (j 51), .v (j 52), .v (j 53), .v (j 54), .v (j 55), .v (j 56), .v (j 57), .v (j 58), .v (j 59), .v (j 60), .v (j 61), .v (j 62), .v (j 63), .v (.bool x64), .v (j 65), .v (j 66), .v (j 67), .v (j 68), .v (j 69), .v (j 70), .v (j 71), .v (j 72), .v (j 73), .v (j 74), .v (j 75), .v (j 76), .v (j 77), .v (j 78), .v (j 79), .v (j 80), .v (j 81), .v (j 82), .v (j 83), .v (j 84), .v (j 85), .v (j 86), .v (j 87), .v (j 88)] [some [(.int .i64 xb0_0), (.slice ab0_1 nb0_1 cb0_1)], none, some [(.int .i64 xb2_0), (.slice ab2_1 nb2_1 cb2_1)]] h

def f33_15 (w0 : World) (K : Value → AH → Prop) (x4 : Go.Addr) (xb0_0 : Int) (ab0_1 : Option Go.Addr) (nb0_1 : Nat) (cb0_1 : Nat) (xb2_0 : Int) (ab2_1 : Option Go.Addr) (nb2_1 : Nat) (cb2_1 : Nat) (h : AH) : Prop :=
  ∀ j : Nat → Value, LPk Go.Proofs.Try.prog w0 (EvC Go.Proofs.Try.prog w0) f33_J 33 K 15 [.v (j 0), .v (j 1), .bp 0 0, .v (j 3), .v (.pointer (some x4)), .bp 2 0, .v (j 6), .v (j 7), .v (j 8), .v (j 9), .v (j 10), .v (j 11), .v (j 12), .v (j 13), .v (j 14), .v (j 15), .v (j 16), .v (j 17), .v (j 18), .v (j 19), .v (j 20), .v (j 21), .v (j 22), .v (j 23), .v (j 24), .v (j 25), .v (j 26), .v (j 27), .v (j 28), .v (j 29), .v (j 30), .v (j 31), .v (j 32), .v (j 33), .v (j 34), .v (j 35), .v (j 36), .v (j 37), .v (j 38), .v (j 39), .v (j 40), .v (j 41), .v (j 42), .v (j 43), .v (j 44), .v (j 45), .v (j 46), .v (j 47), .v (j 48), .v (j 49), .v (j 50), .v (j 51), .v (j 52), .v (j 53), .v (j 54), .v (j 55), .v (j 56), .v (j 57), .v (j 58), .v (j 59), .v (j 60), .v (j 61), .v (j 62), .v (j 63), .v (j 64), .v (j 65), .v (j 66), .v (j 67), .v (j 68), .v (j 69), .v (j 70), .v (j 71), .v (j 72), .v (j 73), .v (j 74), .v (j 75), .v (j 76), .v (j 77), .v (j 78), .v (j 79), .v (j 80), .v (j 81), .v (j 82), .v (j 83), .v (j 84), .v (j 85), .v (j 86), .v (j 87), .v (j 88)] [some [(.int .i64 xb0_0), (.slice ab0_1 nb0_1 cb0_1)], none, some [(.int .i64 xb2_0), (.slice ab2_1 nb2_1 cb2_1)]] h

def f33_17 (w0 : World) (K : Value → AH → Prop) (x4 : Go.Addr) (xb0_0 : Int) (ab0_1 : Option Go.Addr) (nb0_1 : Nat) (cb0_1 : Nat) (xb2_0 : Int) (ab2_1 : Option Go.Addr) (nb2_1 : Nat) (cb2_1 : Nat) (h : AH) : Prop :=
  ∀ j : Nat → Value, LPk Go.Proofs.Try.prog w0 (EvC Go.Proofs.Try.prog w0) f33_J 33 K 17 [.v (j 0), .v (j 1), .bp 0 0, .v (j 3), .v (.pointer (some x4)), .bp 2 0, .v (j 6), .v (j 7), .v (j 8), .v (j 9), .v (j 10), .v (j 11), .v (j 12), .v (j 13), .v (j 14), .v (j 15), .v (j 16), .v (j 17), .v (j 18), .v (j 19), .v (j 20), .v (j 21), .v (j 22), .v (j 23), .v (j 24), .v (j 25), .v (j 26), .v (j 27), .v (j 28), .v (j 29), .v (j 30), .v (j 31), .v (j 32), .v (j 33), .v (j 34), .v (j 35), .v (j 36), .v (j 37), .v (j 38), .v (j 39), .v (j 40), .v (j 41), .v (j 42), .v (j 43), .v (j 44), .v (j 45), .v (j 46), .v (j 47), .v (j 48), .v (j 49), .v (j 50), .v (j 51), .v (j 52), .v (j 53), .v (j 54), .v (j 55), .v (j 56), .v (j 57), .v (j 58), .v (j 59), .v (j 60), .v (j 61), .v (j 62), .v (j 63), .v (j 64), .v (j 65), .v (j 66), .v (j 67), .v (j 68), .v (j 69), .v (j 70), .v (j 71), .v (j 72), .v (j 73), .v (j 74), .v (j 75), .v (j 76), .v (j 77), .v (j 78), .v (j 79), .v (j 80), .v (j 81), .v (j 82), .v (j 83), .v (j 84), .v (j 85), .v (j 86), .v (j 87), .v (j 88)] [some [(.int .i64 xb0_0), (.slice ab0_1 nb0_1 cb0_1)], none, some [(.int .i64 xb2_0), (.slice ab2_1 nb2_1 cb2_1)]] h

theorem f33_5_in {w0 : World} {K : Value → AH → Prop} (x4 : Go.Addr) (x6 : Int) (x7 : Int) (xb0_0 : Int) (ab0_1 : Option Go.Addr) (nb0_1 : Nat) (cb0_1 : Nat) (xb2_0 : Int) (ab2_1 : Option Go.Addr) (nb2_1 : Nat) (cb2_1 : Nat) (h : AH)
  (hv : (brB (decide ((x7 < x6))) (∃ a'8 : Go.Addr, (((some x4) = (some a'8)) ∧ (∃ i'9 : Int, (((Go.G.cellA w0 h (Go.Addr.add a'8 1)) = (some (Go.Value.int .i64 i'9))) ∧ (brB (i'9 == (0 : Int)) (f33_7 w0 K x4 x6 x7 xb0_0 ab0_1 nb0_1 cb0_1 xb2_0 ab2_1 nb2_1 cb2_1 h) (f33_13 w0 K x4 xb0_0 ab0_1 nb0_1 cb0_1 xb2_0 ab2_1 nb2_1 cb2_1 h)))))) (f33_13 w0 K x4 xb0_0 ab0_1 nb0_1 cb0_1 xb2_0 ab2_1 nb2_1 cb2_1 h))) :
  f33_5 w0 K x4 x6 x7 xb0_0 ab0_1 nb0_1 cb0_1 xb2_0 ab2_1 nb2_1 cb2_1 h := fun j => LP_intro (P := Go.Proofs.Try.prog) (Eq.mp (by kernel_rfl) hv)

theorem f33_7_in {w0 : World} {K : Value → AH → Prop} (x4 : Go.Addr) (x6 : Int) (x7 : Int) (xb0_0 : Int) (ab0_1 : Option Go.Addr) (nb0_1 : Nat) (cb0_1 : Nat) (xb2_0 : Int) (ab2_1 : Option Go.Addr) (nb2_1 : Nat) (cb2_1 : Nat) (h : AH)
  (hv : (EvC Go.Proofs.Try.prog w0 62 #[(Go.Value.pointer (some x4))] (fun x'10 h'11 => (∃ t'12 : Bool, ((x'10 = (Go.Value.bool t'12)) ∧ (EvC Go.Proofs.Try.prog w0 63 #[(Go.Value.pointer (some x4)), (Go.Value.int .i64 (512 : Int))] (fun x'13 h'14 => (∃ p'15 : Option Go.Addr, (∃ n'16 : Nat, (∃ n'17 : Nat, ((x'13 = (Go.Value.slice p'15 n'16 n'17)) ∧ (brB (!t'12) (EvC Go.Proofs.Try.prog w0 61 #[(Go.Value.pointer (some x4)), (Go.Value.int .u64 (4611686018427387904 : Int))] (fun x'18 h'19 => (∃ i'20 : Int, ((x'18 = (Go.Value.int .u64 i'20)) ∧ (EvC Go.Proofs.Try.prog w0 63 #[(Go.Value.pointer (some x4)), (Go.Value.int .i64 (2048 : Int))] (fun x'21 h'22 => (∃ p'23 : Option Go.Addr, (∃ n'24 : Nat, (∃ n'25 : Nat, ((x'21 = (Go.Value.slice p'23 n'24 n'25)) ∧ (App w0 h'22 4 64 ab2_1 nb2_1 cb2_1 1 [(Go.Value.slice p'15 n'16 n'17), (Go.Value.bool t'12), (Go.Value.int .i64 (Go.IntKind.wrap .i64 i'20)), (Go.Value.slice p'23 n'24 n'25)] (fun a'26 c'27 h'28 => (f33_5 w0 K x4 x6 (Go.IntKind.wrap .u64 (x7 + (1 : Int))) xb0_0 ab0_1 nb0_1 cb0_1 xb2_0 a'26 (nb2_1 + 1) c'27 h'28)))))))) h'19)))) h'14) (App w0 h'14 4 64 ab2_1 nb2_1 cb2_1 1 [(Go.Value.slice p'15 n'16 n'17), (Go.Value.bool t'12), (Go.Value.int .i64 (0 : Int)), (Go.Value.slice none 0 0)] (fun a'29 c'30 h'31 => (f33_5 w0 K x4 x6 (Go.IntKind.wrap .u64 (x7 + (1 : Int))) xb0_0 ab0_1 nb0_1 cb0_1 xb2_0 a'29 (nb2_1 + 1) c'30 h'31))))))))) h'11)))) h)) :
  f33_7 w0 K x4 x6 x7 xb0_0 ab0_1 nb0_1 cb0_1 xb2_0 ab2_1 nb2_1 cb2_1 h := fun j => LP_intro (P := Go.Proofs.Try.prog) (Eq.mp (by kernel_rfl) hv)

theorem f33_13_in {w0 : World} {K : Value → AH → Prop} (x4 : Go.Addr) (xb0_0 : Int) (ab0_1 : Option Go.Addr) (nb0_1 : Nat) (cb0_1 : Nat) (xb2_0 : Int) (ab2_1 : Option Go.Addr) (nb2_1 : Nat) (cb2_1 : Nat) (h : AH)
  (hv : (∃ a'32 : Go.Addr, (((some x4) = (some a'32)) ∧ (∃ i'33 : Int, (((Go.G.cellA w0 h (Go.Addr.add a'32 1)) = (some (Go.Value.int .i64 i'33))) ∧ (brB (i'33 == (0 : Int)) (∃ a'34 : Go.Addr, (((some x4) = (some a'34)) ∧ (∃ p'35 : Option Go.Addr, (∃ n'36 : Nat, (∃ n'37 : Nat, (((Go.G.cellA w0 h (Go.Addr.add a'34 0)) = (some (Go.Value.slice p'35 n'36 n'37))) ∧ (f33_14 w0 K x4 (decide (((0 : Int) < ((n'36 : Nat) : Int)))) xb0_0 ab0_1 nb0_1 cb0_1 xb2_0 ab2_1 nb2_1 cb2_1 h))))))) (f33_14 w0 K x4 false xb0_0 ab0_1 nb0_1 cb0_1 xb2_0 ab2_1 nb2_1 cb2_1 h))))))) :
  f33_13 w0 K x4 xb0_0 ab0_1 nb0_1 cb0_1 xb2_0 ab2_1 nb2_1 cb2_1 h := fun j => LP_intro (P := Go.Proofs.Try.prog) (Eq.mp (by kernel_rfl) hv)

theorem f33_14_in {w0 : World} {K : Value → AH → Prop} (x4 : Go.Addr) (x64 : Bool) (xb0_0 : Int) (ab0_1 : Option Go.Addr) (nb0_1 : Nat) (cb0_1 : Nat) (xb2_0 : Int) (ab2_1 : Option Go.Addr) (nb2_1 : Nat) (cb2_1 : Nat) (h : AH)
  (hv : (brB x64 (∃ a'38 : Go.Addr, (((some x4) = (some a'38)) ∧ (∃ l'39 : List Go.Value, (∃ n'40 : Nat, (((Array.size (Go.World.heap w0)) ≤ (Go.Addr.block (Go.Addr.add a'38 1))) ∧ (((none : Option Nat) = none) ∧ (((h (Go.Addr.block (Go.Addr.add a'38 1))) = (some (Go.G.AB.cells l'39 n'40))) ∧ ((((Go.Addr.off (Go.Addr.add a'38 1)) + 1) ≤ (List.length l'39)) ∧ (f33_15 w0 K x4 xb0_0 ab0_1 nb0_1 cb0_1 xb2_0 ab2_1 nb2_1 cb2_1 (Go.G.AH.put h (Go.Addr.block (Go.Addr.add a'38 1)) (Go.G.AB.cells (Go.G.setCells l'39 (Go.Addr.off (Go.Addr.add a'38 1)) [(Go.Value.int .i64 (3 : Int))]) n'40))))))))))) (f33_15 w0 K x4 xb0_0 ab0_1 nb0_1 cb0_1 xb2_0 ab2_1 nb2_1 cb2_1 h))) :
  f33_14 w0 K x4 x64 xb0_0 ab0_1 nb0_1 cb0_1 xb2_0 ab2_1 nb2_1 cb2_1 h := fun j => LP_intro (P := Go.Proofs.Try.prog) (Eq.mp (by kernel_rfl) hv)

theorem f33_15_in {w0 : World} {K : Value → AH → Prop} (x4 : Go.Addr) (xb0_0 : Int) (ab0_1 : Option Go.Addr) (nb0_1 : Nat) (cb0_1 : Nat) (xb2_0 : Int) (ab2_1 : Option Go.Addr) (nb2_1 : Nat) (cb2_1 : Nat) (h : AH)
  (hv : (∃ a'41 : Go.Addr, (((some x4) = (some a'41)) ∧ (∃ i'42 : Int, (((Go.G.cellA w0 h (Go.Addr.add a'41 1)) = (some (Go.Value.int .i64 i'42))) ∧ (brB (i'42 == (0 : Int)) (EvC Go.Proofs.Try.prog w0 64 #[(Go.Value.agg #[(Go.Value.int .i64 xb2_0), (Go.Value.slice ab2_1 nb2_1 cb2_1)])] (fun x'43 h'44 => (∃ i'45 : Int, ((x'43 = (Go.Value.int .i64 i'45)) ∧ (∃ a'46 : Go.Addr, (((some x4) = (some a'46)) ∧ (∃ l'47 : List Go.Value, (∃ n'48 : Nat, (((Array.size (Go.World.heap w0)) ≤ (Go.Addr.block (Go.Addr.add a'46 1))) ∧ (((none : Option Nat) = none) ∧ (((h'44 (Go.Addr.block (Go.Addr.add a'46 1))) = (some (Go.G.AB.cells l'47 n'48))) ∧ ((((Go.Addr.off (Go.Addr.add a'46 1)) + (Array.size #[(Go.Value.int .i64 i'45)])) ≤ (List.length l'47)) ∧ (f33_17 w0 K x4 xb0_0 ab0_1 nb0_1 cb0_1 xb2_0 ab2_1 nb2_1 cb2_1 (Go.G.AH.put h'44 (Go.Addr.block (Go.Addr.add a'46 1)) (Go.G.AB.cells (Go.G.setCells l'47 (Go.Addr.off (Go.Addr.add a'46 1)) [(Go.Value.int .i64 i'45)]) n'48)))))))))))))) h) (f33_17 w0 K x4 xb0_0 ab0_1 nb0_1 cb0_1 xb2_0 ab2_1 nb2_1 cb2_1 h))))))) :
  f33_15 w0 K x4 xb0_0 ab0_1 nb0_1 cb0_1 xb2_0 ab2_1 nb2_1 cb2_1 h := fun j => LP_intro (P := Go.Proofs.Try.prog) (Eq.mp (by kernel_rfl) hv)

theorem f33_17_in {w0 : World} {K : Value → AH → Prop} (x4 : Go.Addr) (xb0_0 : Int) (ab0_1 : Option Go.Addr) (nb0_1 : Nat) (cb0_1 : Nat) (xb2_0 : Int) (ab2_1 : Option Go.Addr) (nb2_1 : Nat) (cb2_1 : Nat) (h : AH)
  (hv : (∃ a'49 : Go.Addr, (((some x4) = (some a'49)) ∧ (∃ i'50 : Int, (((Go.G.cellA w0 h (Go.Addr.add a'49 1)) = (some (Go.Value.int .i64 i'50))) ∧ (brB (i'50 != (0 : Int)) (∃ a'51 : Go.Addr, (((some x4) = (some a'51)) ∧ ((∃ i'52 : Int, (((Go.G.cellA w0 h (Go.Addr.add a'51 1)) = (some (Go.Value.int .i64 i'52))) ∧ (K (Go.Value.tuple #[(Go.Value.agg #[(Go.Value.int .i64 (0 : Int)), (Go.Value.slice none 0 0)]), (Go.Value.int .i64 i'52)]) h))) ∧ (∃ i'53 : Int, (((Go.G.cellA w0 h (Go.Addr.add a'51 1)) = (some (Go.Value.int .i64 i'53))) ∧ (K (Go.Value.tuple #[(Go.Value.agg #[(Go.Value.int .i64 (0 : Int)), (Go.Value.slice none 0 0)]), (Go.Value.int .i64 i'53)]) h)))))) (K (Go.Value.tuple #[(Go.Value.agg #[(Go.Value.int .i64 xb2_0), (Go.Value.slice ab2_1 nb2_1 cb2_1)]), (Go.Value.int .i64 (0 : Int))]) h))))))) :
  f33_17 w0 K x4 xb0_0 ab0_1 nb0_1 cb0_1 xb2_0 ab2_1 nb2_1 cb2_1 h := fun j => LP_intro (P := Go.Proofs.Try.prog) (Eq.mp (by kernel_rfl) hv)

theorem f33_go {w0 : World} {K : Value → AH → Prop} (a0 : Option Go.Addr) (n0 : Nat) (c0 : Nat) (h : AH)
  (hv : (newB w0 h (Go.G.AB.cells [(Go.Value.slice a0 n0 c0), (Go.Value.int .i64 (0 : Int))] (List.length [(Go.Value.slice a0 n0 c0), (Go.Value.int .i64 (0 : Int))])) (fun b'0 h'1 => (EvC Go.Proofs.Try.prog w0 61 #[(Go.Value.pointer (some (Go.Addr.mk b'0 0 none))), (Go.Value.int .u64 (4611686018427387904 : Int))] (fun x'2 h'3 => (∃ i'4 : Int, ((x'2 = (Go.Value.int .u64 i'4)) ∧ (EvC Go.Proofs.Try.prog w0 61 #[(Go.Value.pointer (some (Go.Addr.mk b'0 0 none))), (Go.Value.int .u64 (400 : Int))] (fun x'5 h'6 => (∃ i'7 : Int, ((x'5 = (Go.Value.int .u64 i'7)) ∧ (f33_5 w0 K (Go.Addr.mk b'0 0 none) i'7 (0 : Int) (0 : Int) none 0 0 (Go.IntKind.wrap .i64 i'4) none 0 0 h'6)))) h'3)))) h'1)))) :
  EvC Go.Proofs.Try.prog w0 33 ([(.slice a0 n0 c0)]).toArray K h := EvC_intro (P := Go.Proofs.Try.prog) f33_J (Eq.mp (by kernel_rfl) hv)
/-! ### a batch out of its bytes -/
def ownO (l : List OpM) : List (Nat × AB) := l.flatMap fun m => slB m.ka (u8s m.o.key) (m.kc * 1) ++ slB m.va (u8s m.o.val) (m.vc * 1)
def OsV (l : List OpM) : Prop := ∀ m ∈ l, SlV 1 m.ka m.o.key.length m.kc (u8s m.o.key) ∧ SlV 1 m.va m.o.val.length m.vc (u8s m.o.val)
theorem ownO_split {l : List OpM} {m : OpM} (h : m ∈ l) : ∃ C D, ownO l = C ++ (slB m.ka (u8s m.o.key) (m.kc * 1) ++ (slB m.va (u8s m.o.val) (m.vc * 1) ++ D)) := by
  obtain ⟨x, y, rfl⟩ := List.append_of_mem h
  exact ⟨ownO x, ownO y, by simp [ownO]⟩
theorem opsOk_own {w0 : World} {h : AH} {C B : List (Nat × AB)} {a : Option Addr} {c : Nat} {l : List OpM} (v : SlV 4 a l.length c (opsC l)) (vs : OsV l) (w : Own w0 h (C ++ (slB a (opsC l) (c * 4) ++ (ownO l ++ B)))) : OpsOk w0 h a l := by
  refine ⟨v.rd w, fun m hm => ?_, fun m hm => ?_⟩
  · obtain ⟨X, Y, e⟩ := ownO_split hm
    rw [e] at w
    exact (vs m hm).1.rd (cs := C ++ (slB a (opsC l) (c * 4) ++ X)) (bs := slB m.va (u8s m.o.val) (m.vc * 1) ++ (Y ++ B)) (by simpa only [List.append_assoc] using w)
  · obtain ⟨X, Y, e⟩ := ownO_split hm
    rw [e] at w
    exact (vs m hm).2.rd (cs := C ++ (slB a (opsC l) (c * 4) ++ (X ++ slB m.ka (u8s m.o.key) (m.kc * 1)))) (bs := Y ++ B) (by simpa only [List.append_assoc] using w)
@[reducible] def rdrC (p : Option Addr) (n c : Nat) : List Value := [.slice p n c, .int .i64 0]
section
variable {w0 : World} {K : Value → AH → Prop} {h : AH} {B : List (Nat × AB)} {rb : Nat} {p : Option Addr} {c : Nat} {l x t : List UInt8}
theorem f61_ok {n : Nat} {most : Int} (w : Own w0 h ((rb, .cells (rdrC p l.length c) 2) :: B)) (hr : ∀ h', Own w0 h' B → Rd w0 h' p (u8s l)) (hl : l.length ≤ 10000000000) (hc : l.length ≤ c) (hn : n < 18446744073709551616) (hm : ((n : Nat) : Int) ≤ most) (he : l = putV n ++ t)
    (hk : ∀ h', Own w0 h' ((rb, .cells (rdrC (cutA 1 p c (putV n).length) t.length (c - (putV n).length)) 2) :: B) → K (.int .u64 ((n : Nat) : Int)) h') : EvC Go.Proofs.Try.prog w0 61 #[.pointer (some ⟨rb, 0, none⟩), .int .u64 most] K h := by
  have hll : l.length = (putV n).length + t.length := by rw [he, List.length_append]
  refine f61_go _ _ _ ⟨_, rfl, _, w.cell0 rfl, brB_of (fun q => by cases q) fun _ => ⟨_, rfl, _, _, _, w.cell0 rfl, f58_ok (hr h w.tail) (by omega) hn he ⟨_, _, _, rfl, brB_of (fun _ => ?_) fun q => by cases q⟩⟩⟩
  rw [decide_eq_false (by omega)]
  refine f61_5_in _ _ _ _ _ _ (brB_of (fun q => by cases q) fun _ => f61_6_in _ _ _ _ _ ?_)
  have w2 := w.put (o' := .cells (rdrC p l.length c) 2)
  refine ⟨_, rfl, _, 2, w.ge, rfl, w.hd, by simp [Addr.add], brB_of (fun q => by cases q) fun _ => ⟨_, rfl, _, _, _, w2.cell0 rfl, by omega, by omega, _, rfl, _, 2, w2.ge, rfl, w2.hd, by simp [Addr.add], ?_⟩⟩
  have w3 := w2.put (o' := .cells (rdrC (cutA 1 p c (putV n).length) t.length (c - (putV n).length)) 2)
  rw [Int.toNat_natCast, show l.length - (putV n).length = t.length by omega]
  exact hk _ w3
theorem f78_ok {most : Int} (w : Own w0 h B) (hr : Rd w0 h p (u8s l)) (hl : l.length ≤ 10000000000) (hc : l.length ≤ c) (hm : ((x.length : Nat) : Int) ≤ most) (hm2 : most ≤ 1000000000) (he : l = putV x.length ++ (x ++ t))
    (hk : ∀ h' a' c', SlV 1 a' x.length c' (u8s x) → Own w0 h' (slB a' (u8s x) (c' * 1) ++ B) → K (.tuple #[.slice a' x.length c', .int .i64 (((putV x.length).length + x.length : Nat) : Int), .int .i64 0]) h') : EvC Go.Proofs.Try.prog w0 78 #[.slice p l.length c, .int .i64 most] K h := by
  have hll : l.length = (putV x.length).length + (x.length + t.length) := by rw [he, List.length_append, List.length_append]
  have hp := putV_len10 (n := x.length) (by omega)
  refine f78_go _ _ _ _ _ (f58_ok hr (by omega) (by omega) he ⟨_, _, _, rfl, brB_of (fun q => by cases q) fun _ => brB_of (fun q => by have := of_decide_eq_true q; omega) fun _ => ?_⟩)
  rw [wrap64u (by omega) (by omega), decide_eq_false (by omega)]
  have ea : IntKind.i64.wrap (((l.length : Nat) : Int) - (((putV x.length).length : Nat) : Int)) = ((x.length + t.length : Nat) : Int) := by rw [wrap64 (by omega) (by omega)]; omega
  have eb : IntKind.i64.wrap ((((putV x.length).length : Nat) : Int) + (IntKind.i64.wrap ((x.length : Nat) : Int))) = (((putV x.length).length + x.length : Nat) : Int) := by rw [wrap64 (x := ((x.length : Nat) : Int)) (by omega) (by omega), wrap64 (by omega) (by omega)]; omega
  refine f78_5_in _ _ _ _ _ _ _ (brB_of (fun q => by cases q) fun _ => ?_)
  rw [ea, eb, wrap64u (by omega) (by omega), Int.toNat_natCast, Int.toNat_natCast, show (putV x.length).length + x.length - (putV x.length).length = x.length by omega]
  refine brB_of (fun q => by have := of_decide_eq_true q; omega) fun _ => ⟨by omega, by omega, by omega, rowsOf_of (rd_take (rd_cut hr he hc) rfl) (by rw [u8s_length, Nat.mul_one]) (App_copy w (by omega) fun a' c' h' v' w' => ?_)⟩
  rw [Nat.zero_add]
  exact hk h' a' c' v' w'
theorem f63_ok {most : Int} (w : Own w0 h ((rb, .cells (rdrC p l.length c) 2) :: B)) (hr : ∀ h', Own w0 h' B → Rd w0 h' p (u8s l)) (hl : l.length ≤ 10000000000) (hc : l.length ≤ c) (hm : ((x.length : Nat) : Int) ≤ most) (hm2 : most ≤ 1000000000) (he : l = putV x.length ++ (x ++ t))
    (hk : ∀ h' a' c', SlV 1 a' x.length c' (u8s x) → Own w0 h' ((rb, .cells (rdrC (cutA 1 p c ((putV x.length).length + x.length)) t.length (c - ((putV x.length).length + x.length))) 2) :: (slB a' (u8s x) (c' * 1) ++ B)) → K (.slice a' x.length c') h') :
    EvC Go.Proofs.Try.prog w0 63 #[.pointer (some ⟨rb, 0, none⟩), .int .i64 most] K h := by
  have hll : l.length = (putV x.length).length + (x.length + t.length) := by rw [he, List.length_append, List.length_append]
  refine f63_go _ _ _ ⟨_, rfl, _, w.cell0 rfl, brB_of (fun q => by cases q) fun _ => ⟨_, rfl, _, _, _, w.cell0 rfl, f78_ok w (hr h w.tail) hl hc hm hm2 he fun h1 a' c' v' w1 => ⟨_, _, _, _, _, rfl, ?_⟩⟩⟩
  have w2 : Own w0 h1 ((rb, .cells (rdrC p l.length c) 2) :: (slB a' (u8s x) (c' * 1) ++ B)) := w1.perm List.perm_middle
  have w3 := w2.put (o' := .cells (rdrC (cutA 1 p c ((putV x.length).length + x.length)) t.length (c - ((putV x.length).length + x.length))) 2)
  have w4 := w3.put (o' := .cells (rdrC (cutA 1 p c ((putV x.length).length + x.length)) t.length (c - ((putV x.length).length + x.length))) 2)
  refine ⟨_, rfl, _, _, _, w2.cell0 rfl, by omega, by omega, _, rfl, _, 2, w2.ge, rfl, w2.hd, by simp [Addr.add], _, rfl, _, 2, w2.ge, rfl, put_same _ _ _, by simp [Addr.add, setCells], ?_⟩
  rw [Int.toNat_natCast, show l.length - ((putV x.length).length + x.length) = t.length by omega]
  exact hk _ a' c' v' w4
theorem f62_ok {g : Bool} (w : Own w0 h ((rb, .cells (rdrC p l.length c) 2) :: B)) (hr : ∀ h', Own w0 h' B → Rd w0 h' p (u8s l)) (hc : l.length ≤ c) (he : l = (if g then (1 : UInt8) else 0) :: t)
    (hk : ∀ h', Own w0 h' ((rb, .cells (rdrC (cutA 1 p c 1) t.length (c - 1)) 2) :: B) → K (.bool g) h') : EvC Go.Proofs.Try.prog w0 62 #[.pointer (some ⟨rb, 0, none⟩)] K h := by
  have hll : l.length = t.length + 1 := by rw [he, List.length_cons]
  obtain ⟨ad, had, hcell⟩ := hr h w.tail 0 (.int .u8 ((if g then 1 else 0 : Nat) : Int)) (by rw [he]; cases g <;> rfl)
  refine f62_go _ _ ⟨_, rfl, _, w.cell0 rfl, brB_of (fun q => by cases q) fun _ => ⟨_, rfl, _, _, _, w.cell0 rfl, brB_of (fun q => by simp at q; rw [q] at hll; simp at hll) fun _ => ⟨_, rfl, _, _, _, w.cell0 rfl, ad, had, by decide, by omega, _, hcell, brB_of (fun q => by have := of_decide_eq_true q; cases g <;> simp at this) fun _ => ?_⟩⟩⟩
  have w2 := w.put (o' := .cells (rdrC (cutA 1 p c 1) t.length (c - 1)) 2)
  refine ⟨_, rfl, _, _, _, w.cell0 rfl, ad, had, by decide, by omega, _, hcell, _, rfl, _, _, _, w.cell0 rfl, by decide, by omega, _, rfl, _, 2, w.ge, rfl, w.hd, by simp [Addr.add], ?_⟩
  rw [show l.length - 1 = t.length by omega]
  have := hk _ w2
  have e : ((((if g then 1 else 0 : Nat) : Int)) == (1 : Int)) = g := by cases g <;> rfl
  rw [e]
  exact this
end
theorem row4_cell (m : OpM) : ∀ y ∈ m.cells, y.oneCell' = true := by
  intro y hy
  simp at hy
  rcases hy with rfl | rfl | rfl | rfl <;> rfl
theorem wrapU1 {n : Nat} (h : n ≤ 1000000000) : IntKind.u64.wrap (((n : Nat) : Int) + 1) = ((n + 1 : Nat) : Int) := by rw [wrap64u (by omega) (by omega)]; omega
set_option maxHeartbeats 1000000 in
/-- batch.Decode, of a batch's bytes. -/
theorem f33_spec {w0 : World} {K : Value → AH → Prop} {h : AH} {B : List (Nat × AB)} {p : Option Addr} {c : Nat} {seq : Int} {ops : List Op} (hmay : mayB seq ops = 0) (w : Own w0 h B) (hr0 : ∀ h', Own w0 h' B → Rd w0 h' p (u8s (encB seq ops))) (hc0 : (encB seq ops).length ≤ c)
    (hk : ∀ h' a' c' os, os.map OpM.o = ops → SlV 4 a' os.length c' (opsC os) → OsV os → Own w0 h' (slB a' (opsC os) (c' * 4) ++ (ownO os ++ B)) → K (.tuple #[.agg #[.int .i64 seq, .slice a' os.length c'], .int .i64 0]) h') :
    EvC Go.Proofs.Try.prog w0 33 #[.slice p (encB seq ops).length c] K h := by
  obtain ⟨g1, g2, g3, g4, g5⟩ := mayB_zero hmay
  have hbl := encB_len hmay
  refine f33_go _ _ _ _ fun rb hb hbn => ?_
  have w1 : Own w0 (h.put rb (.cells (rdrC p (encB seq ops).length c) 2)) ((rb, .cells (rdrC p (encB seq ops).length c) 2) :: B) := w.new hb hbn
  generalize (h.put rb (.cells (rdrC p (encB seq ops).length c) 2)) = h1 at w1
  generalize hd : encB seq ops = d at *
  have e1 : d = putV seq.toNat ++ (putV ops.length ++ ops.flatMap encO) := hd.symm
  refine f61_ok w1 hr0 (by omega) hc0 (by omega) (by omega) e1 fun h2 w2 => ⟨_, rfl, ?_⟩
  have hr1 : ∀ h', Own w0 h' B → Rd w0 h' (cutA 1 p c (putV seq.toNat).length) (u8s (putV ops.length ++ ops.flatMap encO)) := fun h' w' => rd_cut (hr0 h' w') e1 hc0
  have hl1 : d.length = (putV seq.toNat).length + (putV ops.length ++ ops.flatMap encO).length := by rw [e1, List.length_append]
  have hc1 : (putV ops.length ++ ops.flatMap encO).length ≤ c - (putV seq.toNat).length := by omega
  generalize hd1 : putV ops.length ++ ops.flatMap encO = d1 at *
  generalize (cutA 1 p c (putV seq.toNat).length) = p1 at *
  generalize (c - (putV seq.toNat).length) = c1 at *
  refine f61_ok w2 hr1 (by omega) hc1 (by omega) (by omega) hd1.symm fun h3 w3 => ⟨_, rfl, ?_⟩
  have hr2 : ∀ h', Own w0 h' B → Rd w0 h' (cutA 1 p1 c1 (putV ops.length).length) (u8s (ops.flatMap encO)) := fun h' w' => rd_cut (hr1 h' w') hd1.symm hc1
  have hl2 : d1.length = (putV ops.length).length + (ops.flatMap encO).length := by rw [← hd1, List.length_append]
  have hc2 : (ops.flatMap encO).length ≤ c1 - (putV ops.length).length := by omega
  have hs2 : (ops.flatMap encO).length ≤ 1300000 := by omega
  generalize (cutA 1 p1 c1 (putV ops.length).length) = p2 at *
  generalize (c1 - (putV ops.length).length) = c2 at *
  rw [wrap64 (by omega) (by omega), show ((seq.toNat : Nat) : Int) = seq by omega]
  have fin : ∀ (a' : Option Addr) (c' : Nat) (os : List OpM) (h5 : AH) (p3 : Option Addr) (c3 : Nat), os.map OpM.o = ops → SlV 4 a' os.length c' (opsC os) → OsV os → Own w0 h5 ((rb, .cells (rdrC p3 0 c3) 2) :: (slB a' (opsC os) (c' * 4) ++ (ownO os ++ B))) →
      f33_13 w0 K ⟨rb, 0, none⟩ 0 none 0 0 seq a' os.length c' h5 := fun a' c' os h5 p3 c3 he v vs w5 => by
    refine f33_13_in _ _ _ _ _ _ _ _ _ _ ⟨_, rfl, _, w5.cell0 rfl, brB_of (fun _ => ⟨_, rfl, _, _, _, w5.cell0 rfl, ?_⟩) fun q => by cases q⟩
    refine f33_14_in _ _ _ _ _ _ _ _ _ _ _ (brB_of (fun q => by cases q) fun _ => f33_15_in _ _ _ _ _ _ _ _ _ _ ⟨_, rfl, _, w5.cell0 rfl, brB_of (fun _ => ?_) fun q => by cases q⟩)
    refine f64_spec (v.rd (cs := [_]) w5) ⟨_, rfl, ?_⟩
    rw [he, hmay]
    have w6 := w5.put (o' := .cells (rdrC p3 0 c3) 2)
    refine ⟨_, rfl, _, 2, w5.ge, rfl, w5.hd, by simp [Addr.add], f33_17_in _ _ _ _ _ _ _ _ _ _ ⟨_, rfl, _, w6.cell0 rfl, brB_of (fun q => by cases q) fun _ => ?_⟩⟩
    exact hk _ a' c' os he v vs w6.tail
  have loop : ∀ (rest : List Op) (i : Nat) (os : List OpM) (a' : Option Addr) (c' : Nat) (p3 : Option Addr) (c3 : Nat) (h5 : AH), ops.drop i = rest → i ≤ ops.length → os.map OpM.o = ops.take i → SlV 4 a' os.length c' (opsC os) → OsV os → (∀ h', Own w0 h' B → Rd w0 h' p3 (u8s (rest.flatMap encO))) → (rest.flatMap encO).length ≤ c3 → (rest.flatMap encO).length ≤ 1300000 →
      Own w0 h5 ((rb, .cells (rdrC p3 (rest.flatMap encO).length c3) 2) :: (slB a' (opsC os) (c' * 4) ++ (ownO os ++ B))) →
      f33_5 w0 K ⟨rb, 0, none⟩ ((ops.length : Nat) : Int) ((i : Nat) : Int) 0 none 0 0 seq a' os.length c' h5 := by
    intro rest
    induction rest with
    | nil =>
      intro i os a' c' p3 c3 h5 hdr hi he v vs hr hc hs w5
      have := drop_done hdr
      rw [List.take_of_length_le (by omega)] at he
      exact f33_5_in _ _ _ _ _ _ _ _ _ _ _ _ (brB_of (fun q => by simp at q; omega) fun _ => fin a' c' os h5 p3 c3 he v vs w5)
    | cons o r ih =>
      intro i os a' c' p3 c3 h5 hdr hi he v vs hr hc hs w5
      obtain ⟨hget, hdr', hlt⟩ := drop_step hdr
      have mo := g5 o (List.mem_of_getElem? hget)
      obtain ⟨k1, k2, k3, k4, k5, k6⟩ := mayO_zero mo
      have hol : os.length = i := by have := congrArg List.length he; simp at this; omega
      have q1 := putV_len10 (n := o.key.length) (by omega)
      have q2 := putV_len10 (n := o.til.toNat) (by omega)
      have q3 := putV_len10 (n := o.val.length) (by omega)
      have htake : ops.take (i + 1) = ops.take i ++ [o] := by rw [List.take_add_one, hget]; rfl
      rw [List.flatMap_cons] at hr hc hs w5
      have esplit : ∃ tl, encO o = (if o.gone then (1 : UInt8) else 0) :: (putV o.key.length ++ (o.key ++ tl)) ∧ tl = if o.gone then [] else putV o.til.toNat ++ (putV o.val.length ++ o.val) := by
        unfold encO
        cases hg : o.gone
        · exact ⟨_, rfl, rfl⟩
        · exact ⟨[], by simp, rfl⟩
      obtain ⟨tl, ee, et⟩ := esplit
      -- the next state
      have next : ∀ (ka : Option Addr) (kc : Nat) (va : Option Addr) (vc : Nat) (p6 : Option Addr) (c6 : Nat) (h6 : AH), SlV 1 ka o.key.length kc (u8s o.key) → SlV 1 va o.val.length vc (u8s o.val) → (∀ h', Own w0 h' B → Rd w0 h' p6 (u8s (r.flatMap encO))) → (r.flatMap encO).length ≤ c6 →
          Own w0 h6 ((rb, .cells (rdrC p6 (r.flatMap encO).length c6) 2) :: (slB va (u8s o.val) (vc * 1) ++ (slB ka (u8s o.key) (kc * 1) ++ (slB a' (opsC os) (c' * 4) ++ (ownO os ++ B))))) →
          App w0 h6 4 64 a' os.length c' 1 [.slice ka o.key.length kc, .bool o.gone, .int .i64 o.til, .slice va o.val.length vc] (fun a'26 c'27 h'28 => (f33_5 w0 K ⟨rb, 0, none⟩ ((ops.length : Nat) : Int) (IntKind.u64.wrap (((i : Nat) : Int) + (1 : Int))) 0 none 0 0 seq a'26 (os.length + 1) c'27 h'28)) := fun ka kc va vc p6 c6 h6 vk vv hr6 hc6 w6 => by
        have w7 : Own w0 h6 (((rb, .cells (rdrC p6 (r.flatMap encO).length c6) 2) :: (slB va (u8s o.val) (vc * 1) ++ slB ka (u8s o.key) (kc * 1))) ++ (slB a' (opsC os) (c' * 4) ++ (ownO os ++ B))) := by
          simpa only [List.cons_append, List.append_assoc] using w6
        refine App_mid v w7 (by omega) (by omega) rfl (row4_cell ⟨ka, kc, va, vc, o⟩) fun a8 c8 h8 v8 w8 => ?_
        rw [wrapU1 (by omega)]
        have eo : opsC os ++ [.slice ka o.key.length kc, .bool o.gone, .int .i64 o.til, .slice va o.val.length vc] = opsC (os ++ [(⟨ka, kc, va, vc, o⟩ : OpM)]) := by simp [opsC]
        rw [eo] at v8 w8
        have w9 : Own w0 h8 ((rb, .cells (rdrC p6 (r.flatMap encO).length c6) 2) :: (slB a8 (opsC (os ++ [(⟨ka, kc, va, vc, o⟩ : OpM)])) (c8 * 4) ++ (ownO (os ++ [(⟨ka, kc, va, vc, o⟩ : OpM)]) ++ B))) := by
          have eow : ownO (os ++ [(⟨ka, kc, va, vc, o⟩ : OpM)]) = ownO os ++ (slB ka (u8s o.key) (kc * 1) ++ slB va (u8s o.val) (vc * 1)) := by simp [ownO]
          rw [eow]
          refine w8.perm ?_
          simp only [List.cons_append, List.append_assoc]
          refine List.Perm.cons _ ?_
          -- va ++ (ka ++ (S ++ (O ++ B))) ~ S ++ (O ++ (ka ++ (va ++ B)))
          generalize slB va (u8s o.val) (vc * 1) = V
          generalize slB ka (u8s o.key) (kc * 1) = Kk
          generalize slB a8 (opsC (os ++ [(⟨ka, kc, va, vc, o⟩ : OpM)])) (c8 * 4) = S
          generalize ownO os = O
          have p1 : (V ++ (Kk ++ (S ++ (O ++ B)))).Perm (Kk ++ (V ++ (S ++ (O ++ B)))) := List.perm_append_comm_assoc _ _ _
          have p2 : (Kk ++ (V ++ (S ++ (O ++ B)))).Perm ((S ++ O) ++ ((Kk ++ V) ++ B)) := by
            have := List.perm_append_comm_assoc (Kk ++ V) (S ++ O) B
            simpa only [List.append_assoc] using this
          simpa only [List.append_assoc] using p1.trans p2
        have := ih (i + 1) (os ++ [(⟨ka, kc, va, vc, o⟩ : OpM)]) a8 c8 p6 c6 h8 hdr' (by omega) (by rw [List.map_append, he, htake]; rfl) (by rw [List.length_append]; exact v8) (fun m hm => ?_) hr6 hc6 (by rw [List.length_append] at hs; omega) w9
        · rw [List.length_append] at this
          exact this
        · rcases List.mem_append.1 hm with hm | hm
          · exact vs m hm
          · rw [List.mem_singleton] at hm; subst hm; exact ⟨vk, vv⟩
      refine f33_5_in _ _ _ _ _ _ _ _ _ _ _ _ (brB_of (fun _ => ⟨_, rfl, _, w5.cell0 rfl, brB_of (fun _ => f33_7_in _ _ _ _ _ _ _ _ _ _ _ _ ?_) fun q => by cases q⟩) fun q => by simp at q; omega)
      -- gone
      have hdat : encO o ++ r.flatMap encO = (if o.gone then (1 : UInt8) else 0) :: (putV o.key.length ++ (o.key ++ (tl ++ r.flatMap encO))) := by rw [ee]; simp
      rw [hdat] at hr hc hs w5
      refine f62_ok (g := o.gone) w5 (fun h' w' => hr h' w'.drop.drop) hc rfl fun h6 w6 => ⟨_, rfl, ?_⟩
      have hr6 : ∀ h', Own w0 h' B → Rd w0 h' (cutA 1 p3 c3 1) (u8s (putV o.key.length ++ (o.key ++ (tl ++ r.flatMap encO)))) := fun h' w' => rd_cut (x := [if o.gone then (1 : UInt8) else 0]) (hr h' w') rfl hc
      have hc6 : (putV o.key.length ++ (o.key ++ (tl ++ r.flatMap encO))).length ≤ c3 - 1 := by rw [List.length_cons] at hc; omega
      have hs6 : (putV o.key.length ++ (o.key ++ (tl ++ r.flatMap encO))).length ≤ 1300000 := by rw [List.length_cons] at hs; omega
      generalize cutA 1 p3 c3 1 = p6 at *
      generalize c3 - 1 = c6 at *
      -- the key
      refine f63_ok (x := o.key) w6 (fun h' w' => hr6 h' w'.drop.drop) (by omega) hc6 (by omega) (by decide) rfl fun h7 ka kc vk w7 => ⟨_, _, _, rfl, ?_⟩
      have hsp : putV o.key.length ++ (o.key ++ (tl ++ r.flatMap encO)) = (putV o.key.length ++ o.key) ++ (tl ++ r.flatMap encO) := by rw [List.append_assoc]
      have hr7 : ∀ h', Own w0 h' B → Rd w0 h' (cutA 1 p6 c6 ((putV o.key.length).length + o.key.length)) (u8s (tl ++ r.flatMap encO)) := fun h' w' => by
        have := rd_cut (hr6 h' w') hsp hc6
        rw [List.length_append] at this; exact this
      have hc7 : (tl ++ r.flatMap encO).length ≤ c6 - ((putV o.key.length).length + o.key.length) := by rw [hsp, List.length_append, List.length_append] at hc6; omega
      have hs7 : (tl ++ r.flatMap encO).length ≤ 1300000 := by rw [hsp, List.length_append] at hs6; omega
      generalize cutA 1 p6 c6 ((putV o.key.length).length + o.key.length) = p7 at *
      generalize c6 - ((putV o.key.length).length + o.key.length) = c7 at *
      refine brB_of (fun q => ?_) fun q => ?_
      · have hg : o.gone = false := by simpa using q
        rw [hg] at et
        simp only [Bool.false_eq_true, if_false] at et
        subst et
        have e8 : (putV o.til.toNat ++ (putV o.val.length ++ o.val)) ++ r.flatMap encO = putV o.til.toNat ++ (putV o.val.length ++ (o.val ++ r.flatMap encO)) := by simp
        rw [e8] at hr7 hc7 hs7 w7
        refine f61_ok w7 (fun h' w' => hr7 h' w'.drop.drop.drop) (by omega) hc7 (by omega) (by omega) rfl fun h8 w8 => ⟨_, rfl, ?_⟩
        have hr8 : ∀ h', Own w0 h' B → Rd w0 h' (cutA 1 p7 c7 (putV o.til.toNat).length) (u8s (putV o.val.length ++ (o.val ++ r.flatMap encO))) := fun h' w' => rd_cut (hr7 h' w') rfl hc7
        have hc8 : (putV o.val.length ++ (o.val ++ r.flatMap encO)).length ≤ c7 - (putV o.til.toNat).length := by rw [List.length_append] at hc7; omega
        have hs8 : (putV o.val.length ++ (o.val ++ r.flatMap encO)).length ≤ 1300000 := by rw [List.length_append] at hs7; omega
        generalize cutA 1 p7 c7 (putV o.til.toNat).length = p8 at *
        generalize c7 - (putV o.til.toNat).length = c8 at *
        refine f63_ok (x := o.val) w8 (fun h' w' => hr8 h' w'.drop.drop.drop) (by omega) hc8 (by omega) (by decide) rfl fun h9 va vc vv w9 => ⟨_, _, _, rfl, ?_⟩
        have hsp9 : putV o.val.length ++ (o.val ++ r.flatMap encO) = (putV o.val.length ++ o.val) ++ r.flatMap encO := by rw [List.append_assoc]
        have hr9 : ∀ h', Own w0 h' B → Rd w0 h' (cutA 1 p8 c8 ((putV o.val.length).length + o.val.length)) (u8s (r.flatMap encO)) := fun h' w' => by
          have := rd_cut (hr8 h' w') hsp9 hc8
          rw [List.length_append] at this; exact this
        have hc9 : (r.flatMap encO).length ≤ c8 - ((putV o.val.length).length + o.val.length) := by rw [hsp9, List.length_append, List.length_append] at hc8; omega
        rw [wrap64 (by omega) (by omega), show ((o.til.toNat : Nat) : Int) = o.til by omega]
        have := next ka kc va vc _ _ h9 vk vv hr9 hc9 w9
        rw [hg] at this ⊢
        exact this
      · have hg : o.gone = true := by simpa using q
        rw [hg] at et
        simp only [if_true] at et
        subst et
        obtain ⟨kt, kv⟩ := k6 hg
        rw [List.nil_append] at hr7 hc7 w7
        have := next ka kc none 0 _ _ h7 vk (by rw [kv]; exact SlV.nil) hr7 hc7 (by rw [kv]; exact w7)
        rw [hg, kt, kv] at this
        rw [hg]
        exact this
  exact loop ops 0 [] none 0 p2 c2 h3 rfl (Nat.zero_le _) rfl SlV.nil (fun m hm => by cases hm) hr2 hc2 hs2 w3
end Go.G.Ytlghmjehibikeaa
