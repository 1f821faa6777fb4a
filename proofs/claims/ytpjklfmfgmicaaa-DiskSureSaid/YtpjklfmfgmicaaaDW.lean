/- The document's picks, reads, names. -/
import Derived.Test.YtpjklfmfgmicaaaDV
import Derived.Test.YtpjklfmfgmicaaaProg
set_option maxRecDepth 100000
namespace Go.G.Ytpjklfmfgmicaaa
open Go.RowKit
def f76_J : Nat → List Nat × Nat := jOf []



theorem f76_go {w0 : World} {K : Value → AH → Prop} (a0 : Option Go.Addr) (n0 : Nat) (c0 : Nat) (x1 : Int) (x2 : Int) (h : AH)
  (hv : (brB (decide ((((n0 : Nat) : Int) ≤ x1))) (K (Go.Value.int .i64 (0 : Int)) h) (∃ a'0 : Go.Addr, ((a0 = (some a'0)) ∧ (((0 : Int) ≤ x1) ∧ ((x1 < ((n0 : Nat) : Int)) ∧ (∃ i'1 : Int, (((Go.G.cellA w0 h (Go.Addr.add a'0 ((Int.toNat x1) * 1))) = (some (Go.Value.int .i64 i'1))) ∧ (∃ a'2 : Go.Addr, ((a0 = (some a'2)) ∧ (((0 : Int) ≤ x1) ∧ ((x1 < ((n0 : Nat) : Int)) ∧ (∃ i'3 : Int, (((Go.G.cellA w0 h (Go.Addr.add a'2 ((Int.toNat x1) * 1))) = (some (Go.Value.int .i64 i'3))) ∧ (brB (decide ((i'3 < (0 : Int)))) (((Go.IntKind.wrap .u64 (Go.IntKind.wrap .i64 (x2 + (1 : Int)))) ≠ (0 : Int)) ∧ (K (Go.Value.int .i64 (Go.IntKind.wrap .i64 (Int.tmod (Go.IntKind.wrap .u64 (((BitVec.toNat ((BitVec.ofInt 64 (Go.IntKind.wrap .u64 i'1)) &&& (BitVec.ofInt 64 (4611686018427387903 : Int)))) : Nat) : Int)) (Go.IntKind.wrap .u64 (Go.IntKind.wrap .i64 (x2 + (1 : Int))))))) h)) (((Go.IntKind.wrap .u64 (Go.IntKind.wrap .i64 (x2 + (1 : Int)))) ≠ (0 : Int)) ∧ (K (Go.Value.int .i64 (Go.IntKind.wrap .i64 (Int.tmod (Go.IntKind.wrap .u64 i'1) (Go.IntKind.wrap .u64 (Go.IntKind.wrap .i64 (x2 + (1 : Int))))))) h))))))))))))))))) :
  EvC Go.Proofs.Try.prog w0 76 ([(.slice a0 n0 c0), (.int .i64 x1), (.int .i64 x2)]).toArray K h := EvC_intro (P := Go.Proofs.Try.prog) f76_J (Eq.mp (by kernel_rfl) hv)
def f36_J : Nat → List Nat × Nat := jOf []



theorem f36_go {w0 : World} {K : Value → AH → Prop} (x0 : Option Go.Addr) (x1 : ByteArray) (h : AH)
  (hv : (∃ a'0 : Go.Addr, ((x0 = (some a'0)) ∧ (∃ t'1 : Bool, (((Go.G.cellA w0 h (Go.Addr.add a'0 7)) = (some (Go.Value.bool t'1))) ∧ (brB t'1 (K (Go.Value.tuple #[(Go.Value.slice none 0 0), (Go.Value.int .i64 (10 : Int))]) h) (EvC Go.Proofs.Try.prog w0 49 #[(Go.Value.pointer x0), (Go.Value.string x1)] (fun x'2 h'3 => (∃ p'4 : Option Go.Addr, ((x'2 = (Go.Value.pointer p'4)) ∧ (brB (Option.isNone p'4) (K (Go.Value.tuple #[(Go.Value.slice none 0 0), (Go.Value.int .i64 (7 : Int))]) h'3) (∃ a'5 : Go.Addr, ((p'4 = (some a'5)) ∧ (∃ p'6 : Option Go.Addr, (∃ n'7 : Nat, (∃ n'8 : Nat, (((Go.G.cellA w0 h'3 (Go.Addr.add a'5 0)) = (some (Go.Value.slice p'6 n'7 n'8))) ∧ (rowsOf w0 h'3 1 p'6 n'7 (fun ys'9 => (App w0 h'3 1 1 none 0 0 n'7 ys'9 (fun a'10 c'11 h'12 => (K (Go.Value.tuple #[(Go.Value.slice a'10 (0 + n'7) c'11), (Go.Value.int .i64 (0 : Int))]) h'12))))))))))))))) h))))))) :
  EvC Go.Proofs.Try.prog w0 36 ([(.pointer x0), (.string x1)]).toArray K h := EvC_intro (P := Go.Proofs.Try.prog) f36_J (Eq.mp (by kernel_rfl) hv)
def f67_J : Nat → List Nat × Nat := jOf [(3, [1, 2, 4, 5, 6, 7, 8, 12, 13, 14, 15, 16, 17, 18, 19, 20, 21, 22, 23, 24, 25, 26], 0)]

def f67_3 (w0 : World) (K : Value → AH → Prop) (x0 : Option Go.Addr) (a3 : Option Go.Addr) (n3 : Nat) (c3 : Nat) (a9 : Option Go.Addr) (n9 : Nat) (c9 : Nat) (x10 : Int) (x11 : Int) (h : AH) : Prop :=
  ∀ j : Nat → Value, LPk Go.Proofs.Try.prog w0 (EvC Go.Proofs.Try.prog w0) f67_J 67 K 3 [.v (.pointer x0), .v (j 1), .v (j 2), .v (.slice a3 n3 c3), .v (j 4), .v (j 5), .v (j 6), .v (j 7), .v (j 8), .v (.slice a9 n9 c9), .v (.int .i64 x10), .v (.int .i64 x11), .v (j 12), .v (j 13), .v (j 14), .v (j 15), .v (j 16), .v (j 17), .v (j 18), .v (j 19), .v (j 20), .v (j 21), .v (j 22), .v (j 23), .v (j 24), .v (j 25), .v (j 26)] [] h

theorem f67_3_in {w0 : World} {K : Value → AH → Prop} (x0 : Option Go.Addr) (a3 : Option Go.Addr) (n3 : Nat) (c3 : Nat) (a9 : Option Go.Addr) (n9 : Nat) (c9 : Nat) (x10 : Int) (x11 : Int) (h : AH)
  (hv : (brB (decide ((x11 < x10))) (∃ a'4 : Go.Addr, ((a9 = (some a'4)) ∧ (((0 : Int) ≤ x11) ∧ ((x11 < ((n9 : Nat) : Int)) ∧ (∃ s'5 : ByteArray, (∃ p'6 : Option Go.Addr, ((((Array.size #[(Go.Value.string s'5), (Go.Value.pointer p'6)]) = 2) ∧ (At w0 h (Go.Addr.add a'4 ((Int.toNat x11) * 2)) [(Go.Value.string s'5), (Go.Value.pointer p'6)])) ∧ (∃ a'7 : Go.Addr, ((x0 = (some a'7)) ∧ (∃ t'8 : Bool, (((Go.G.cellA w0 h (Go.Addr.add a'7 7)) = (some (Go.Value.bool t'8))) ∧ (brB (!t'8) (App w0 h 1 16 a3 n3 c3 1 [(Go.Value.string s'5)] (fun a'9 c'10 h'11 => (f67_3 w0 K x0 a'9 (n3 + 1) c'10 a9 n9 c9 x10 (Go.IntKind.wrap .i64 (x11 + (1 : Int))) h'11))) (f67_3 w0 K x0 a3 n3 c3 a9 n9 c9 x10 (Go.IntKind.wrap .i64 (x11 + (1 : Int))) h))))))))))))) (K (Go.Value.slice a3 n3 c3) h))) :
  f67_3 w0 K x0 a3 n3 c3 a9 n9 c9 x10 x11 h := fun j => LP_intro (P := Go.Proofs.Try.prog) (Eq.mp (by kernel_rfl) hv)

theorem f67_go {w0 : World} {K : Value → AH → Prop} (x0 : Option Go.Addr) (h : AH)
  (hv : (∃ a'0 : Go.Addr, ((x0 = (some a'0)) ∧ (∃ p'1 : Option Go.Addr, (∃ n'2 : Nat, (∃ n'3 : Nat, (((Go.G.cellA w0 h (Go.Addr.add a'0 1)) = (some (Go.Value.slice p'1 n'2 n'3))) ∧ (f67_3 w0 K x0 none 0 0 p'1 n'2 n'3 ((n'2 : Nat) : Int) (0 : Int) h)))))))) :
  EvC Go.Proofs.Try.prog w0 67 ([(.pointer x0)]).toArray K h := EvC_intro (P := Go.Proofs.Try.prog) f67_J (Eq.mp (by kernel_rfl) hv)
def f35_J : Nat → List Nat × Nat := jOf [(5, [0, 1, 4, 5, 6, 7, 8, 9, 12, 13, 14, 15, 16, 17, 18, 19, 20, 21, 23, 24, 25, 26, 27, 28, 29, 30, 31, 32, 33, 34, 35, 36, 37, 38, 39, 40, 41, 42, 43, 44, 45, 46, 47, 48], 0), (7, [0, 1, 4, 5, 6, 7, 8, 9, 12, 13, 14, 15, 16, 17, 18, 19, 20, 21, 22, 23, 24, 25, 26, 27, 28, 30, 31, 32, 33, 34, 35, 36, 37, 38, 39, 40, 41, 42, 43, 44, 45, 46, 47, 48], 0)]

def f35_5 (w0 : World) (K : Value → AH → Prop) (x2 : Int) (x3 : Int) (a10 : Option Go.Addr) (n10 : Nat) (c10 : Nat) (x11 : Int) (x22 : Bool) (h : AH) : Prop :=
  ∀ j : Nat → Value, LPk Go.Proofs.Try.prog w0 (EvC Go.Proofs.Try.prog w0) f35_J 35 K 5 [.v (j 0), .v (j 1), .v (.int .i64 x2), .v (.int .i64 x3), .v (j 4), .v (j 5), .v (j 6), .v (j 7), .v (j 8), .v (j 9), .v (.slice a10 n10 c10), .v (.int .i64 x11), .v (j 12), .v (j 13), .v (j 14), .v (j 15), .v (j 16), .v (j 17), .v (j 18), .v (j 19), .v (j 20), .v (j 21), .v (.bool x22), .v (j 23), .v (j 24), .v (j 25), .v (j 26), .v (j 27), .v (j 28), .v (j 29), .v (j 30), .v (j 31), .v (j 32), .v (j 33), .v (j 34), .v (j 35), .v (j 36), .v (j 37), .v (j 38), .v (j 39), .v (j 40), .v (j 41), .v (j 42), .v (j 43), .v (j 44), .v (j 45), .v (j 46), .v (j 47), .v (j 48)] [] h

def f35_7 (w0 : World) (K : Value → AH → Prop) (x2 : Int) (x3 : Int) (a10 : Option Go.Addr) (n10 : Nat) (c10 : Nat) (x11 : Int) (x29 : Bool) (h : AH) : Prop :=
  ∀ j : Nat → Value, LPk Go.Proofs.Try.prog w0 (EvC Go.Proofs.Try.prog w0) f35_J 35 K 7 [.v (j 0), .v (j 1), .v (.int .i64 x2), .v (.int .i64 x3), .v (j 4), .v (j 5), .v (j 6), .v (j 7), .v (j 8), .v (j 9), .v (.slice a10 n10 c10), .v (.int .i64 x11), .v (j 12), .v (j 13), .v (j 14), .v (j 15), .v (j 16), .v (j 17), .v (j 18), .v (j 19), .v (j 20), .v (j 21), .v (j 22), .v (j 23), .v (j 24), .v (j 25), .v (j 26), .v (j 27), .v (j 28), .v (.bool x29), .v (j 30), .v (j 31), .v (j 32), .v (j 33), .v (j 34), .v (j 35), .v (j 36), .v (j 37), .v (j 38), .v (j 39), .v (j 40), .v (j 41), .v (j 42), .v (j 43), .v (j 44), .v (j 45), .v (j 46), .v (j 47), .v (j 48)] [] h

theorem f35_5_in {w0 : World} {K : Value → AH → Prop} (x2 : Int) (x3 : Int) (a10 : Option Go.Addr) (n10 : Nat) (c10 : Nat) (x11 : Int) (x22 : Bool) (h : AH)
  (hv : (brB x22 (K (Go.Value.tuple #[(Go.Value.slice none 0 0), (Go.Value.int .i64 (1 : Int))]) h) (brB (decide ((((n10 : Nat) : Int) < x2))) (f35_7 w0 K x2 x3 a10 n10 c10 x11 true h) (f35_7 w0 K x2 x3 a10 n10 c10 x11 (decide (((Go.IntKind.wrap .i64 (((n10 : Nat) : Int) - x2)) < x3))) h)))) :
  f35_5 w0 K x2 x3 a10 n10 c10 x11 x22 h := fun j => LP_intro (P := Go.Proofs.Try.prog) (Eq.mp (by kernel_rfl) hv)

theorem f35_7_in {w0 : World} {K : Value → AH → Prop} (x2 : Int) (x3 : Int) (a10 : Option Go.Addr) (n10 : Nat) (c10 : Nat) (x11 : Int) (x29 : Bool) (h : AH)
  (hv : (brB x29 (K (Go.Value.tuple #[(Go.Value.slice none 0 0), (Go.Value.int .i64 (5 : Int))]) h) (((0 : Int) ≤ x2) ∧ ((x2 ≤ (Go.IntKind.wrap .i64 (x2 + x3))) ∧ (((Go.IntKind.wrap .i64 (x2 + x3)) ≤ ((c10 : Nat) : Int)) ∧ (K (Go.Value.tuple #[(Go.Value.slice (Go.G.cutA 1 a10 c10 (Int.toNat x2)) ((Int.toNat (Go.IntKind.wrap .i64 (x2 + x3))) - (Int.toNat x2)) (c10 - (Int.toNat x2))), (Go.Value.int .i64 x11)]) h)))))) :
  f35_7 w0 K x2 x3 a10 n10 c10 x11 x29 h := fun j => LP_intro (P := Go.Proofs.Try.prog) (Eq.mp (by kernel_rfl) hv)

theorem f35_go {w0 : World} {K : Value → AH → Prop} (x0 : Option Go.Addr) (x1 : ByteArray) (x2 : Int) (x3 : Int) (h : AH)
  (hv : (EvC Go.Proofs.Try.prog w0 36 #[(Go.Value.pointer x0), (Go.Value.string x1)] (fun x'0 h'1 => (∃ p'2 : Option Go.Addr, (∃ n'3 : Nat, (∃ n'4 : Nat, (∃ i'5 : Int, ((x'0 = (Go.Value.tuple #[(Go.Value.slice p'2 n'3 n'4), (Go.Value.int .i64 i'5)])) ∧ (brB (i'5 != (0 : Int)) (K (Go.Value.tuple #[(Go.Value.slice none 0 0), (Go.Value.int .i64 i'5)]) h'1) (brB (decide ((x2 < (0 : Int)))) (f35_5 w0 K x2 x3 p'2 n'3 n'4 i'5 true h'1) (f35_5 w0 K x2 x3 p'2 n'3 n'4 i'5 (decide ((x3 < (0 : Int)))) h'1))))))))) h)) :
  EvC Go.Proofs.Try.prog w0 35 ([(.pointer x0), (.string x1), (.int .i64 x2), (.int .i64 x3)]).toArray K h := EvC_intro (P := Go.Proofs.Try.prog) f35_J (Eq.mp (by kernel_rfl) hv)
def f66_J : Nat → List Nat × Nat := jOf [(3, [0, 1, 4, 5, 6, 7, 8, 10, 11, 12, 13, 14, 15, 16, 17, 18, 19, 20, 21, 22, 23, 24, 25, 26, 27, 28, 29, 30, 31, 32, 34, 35, 36, 37, 38, 39, 40, 41, 42, 43, 44, 45, 46, 47, 48], 0), (4, [0, 1, 4, 5, 6, 7, 8, 10, 11, 12, 13, 14, 15, 16, 17, 18, 19, 20, 21, 22, 23, 24, 25, 26, 27, 28, 29, 30, 31, 32, 33, 34, 35, 36, 37, 38, 39, 40, 41, 42, 43, 44, 45, 46, 47, 48], 0)]

def f66_3 (w0 : World) (K : Value → AH → Prop) (x2 : Int) (x3 : Int) (x9 : Option Go.Addr) (x33 : Bool) (h : AH) : Prop :=
  ∀ j : Nat → Value, LPk Go.Proofs.Try.prog w0 (EvC Go.Proofs.Try.prog w0) f66_J 66 K 3 [.v (j 0), .v (j 1), .v (.int .i64 x2), .v (.int .u8 x3), .v (j 4), .v (j 5), .v (j 6), .v (j 7), .v (j 8), .v (.pointer x9), .v (j 10), .v (j 11), .v (j 12), .v (j 13), .v (j 14), .v (j 15), .v (j 16), .v (j 17), .v (j 18), .v (j 19), .v (j 20), .v (j 21), .v (j 22), .v (j 23), .v (j 24), .v (j 25), .v (j 26), .v (j 27), .v (j 28), .v (j 29), .v (j 30), .v (j 31), .v (j 32), .v (.bool x33), .v (j 34), .v (j 35), .v (j 36), .v (j 37), .v (j 38), .v (j 39), .v (j 40), .v (j 41), .v (j 42), .v (j 43), .v (j 44), .v (j 45), .v (j 46), .v (j 47), .v (j 48)] [] h

def f66_4 (w0 : World) (K : Value → AH → Prop) (x2 : Int) (x3 : Int) (x9 : Option Go.Addr) (h : AH) : Prop :=
  ∀ j : Nat → Value, LPk Go.Proofs.Try.prog w0 (EvC Go.Proofs.Try.prog w0) f66_J 66 K 4 [.v (j 0), .v (j 1), .v (.int .i64 x2), .v (.int .u8 x3), .v (j 4), .v (j 5), .v (j 6), .v (j 7), .v (j 8), .v (.pointer x9), .v (j 10), .v (j 11), .v (j 12), .v (j 13), .v (j 14), .v (j 15), .v (j 16), .v (j 17), .v (j 18), .v (j 19), .v (j 20), .v (j 21), .v (j 22), .v (j 23), .v (j 24), .v (j 25), .v (j 26), .v (j 27), .v (j 28), .v (j 29), .v (j 30), .v (j 31), .v (j 32), .v (j 33), .v (j 34), .v (j 35), .v (j 36), .v (j 37), .v (j 38), .v (j 39), .v (j 40), .v (j 41), .v (j 42), .v (j 43), .v (j 44), .v (j 45), .v (j 46), .v (j 47), .v (j 48)] [] h

theorem f66_3_in {w0 : World} {K : Value → AH → Prop} (x2 : Int) (x3 : Int) (x9 : Option Go.Addr) (x33 : Bool) (h : AH)
  (hv : (brB x33 (K (Go.Value.bool false) h) (f66_4 w0 K x2 x3 x9 h))) :
  f66_3 w0 K x2 x3 x9 x33 h := fun j => LP_intro (P := Go.Proofs.Try.prog) (Eq.mp (by kernel_rfl) hv)

theorem f66_4_in {w0 : World} {K : Value → AH → Prop} (x2 : Int) (x3 : Int) (x9 : Option Go.Addr) (h : AH)
  (hv : (∃ a'9 : Go.Addr, ((x9 = (some a'9)) ∧ (∃ p'10 : Option Go.Addr, (∃ n'11 : Nat, (∃ n'12 : Nat, (((Go.G.cellA w0 h (Go.Addr.add a'9 0)) = (some (Go.Value.slice p'10 n'11 n'12))) ∧ (rowsOf w0 h 1 p'10 n'11 (fun ys'13 => (App w0 h 1 1 none 0 0 n'11 ys'13 (fun a'14 c'15 h'16 => (∃ a'17 : Go.Addr, ((x9 = (some a'17)) ∧ (∃ l'18 : List Go.Value, (∃ n'19 : Nat, (((Array.size (Go.World.heap w0)) ≤ (Go.Addr.block (Go.Addr.add a'17 0))) ∧ (((Go.Addr.spot (Go.Addr.add a'17 0)) = none) ∧ (((h'16 (Go.Addr.block (Go.Addr.add a'17 0))) = (some (Go.G.AB.cells l'18 n'19))) ∧ ((((Go.Addr.off (Go.Addr.add a'17 0)) + (Array.size #[(Go.Value.slice a'14 (0 + n'11) c'15)])) ≤ (List.length l'18)) ∧ (∃ a'20 : Go.Addr, ((x9 = (some a'20)) ∧ (∃ p'21 : Option Go.Addr, (∃ n'22 : Nat, (∃ n'23 : Nat, (((Go.G.cellA w0 (Go.G.AH.put h'16 (Go.Addr.block (Go.Addr.add a'17 0)) (Go.G.AB.cells (Go.G.setCells l'18 (Go.Addr.off (Go.Addr.add a'17 0)) [(Go.Value.slice a'14 (0 + n'11) c'15)]) n'19)) (Go.Addr.add a'20 0)) = (some (Go.Value.slice p'21 n'22 n'23))) ∧ (∃ a'24 : Go.Addr, ((p'21 = (some a'24)) ∧ (((0 : Int) ≤ x2) ∧ ((x2 < ((n'22 : Nat) : Int)) ∧ (∃ l'25 : List Go.Value, (∃ n'26 : Nat, (((Array.size (Go.World.heap w0)) ≤ (Go.Addr.block (Go.Addr.add a'24 ((Int.toNat x2) * 1)))) ∧ (((Go.Addr.spot (Go.Addr.add a'24 ((Int.toNat x2) * 1))) = none) ∧ (((Go.G.AH.put h'16 (Go.Addr.block (Go.Addr.add a'17 0)) (Go.G.AB.cells (Go.G.setCells l'18 (Go.Addr.off (Go.Addr.add a'17 0)) [(Go.Value.slice a'14 (0 + n'11) c'15)]) n'19) (Go.Addr.block (Go.Addr.add a'24 ((Int.toNat x2) * 1)))) = (some (Go.G.AB.cells l'25 n'26))) ∧ ((((Go.Addr.off (Go.Addr.add a'24 ((Int.toNat x2) * 1))) + (Array.size #[(Go.Value.int .u8 x3)])) ≤ (List.length l'25)) ∧ (K (Go.Value.bool true) (Go.G.AH.put (Go.G.AH.put h'16 (Go.Addr.block (Go.Addr.add a'17 0)) (Go.G.AB.cells (Go.G.setCells l'18 (Go.Addr.off (Go.Addr.add a'17 0)) [(Go.Value.slice a'14 (0 + n'11) c'15)]) n'19)) (Go.Addr.block (Go.Addr.add a'24 ((Int.toNat x2) * 1))) (Go.G.AB.cells (Go.G.setCells l'25 (Go.Addr.off (Go.Addr.add a'24 ((Int.toNat x2) * 1))) [(Go.Value.int .u8 x3)]) n'26)))))))))))))))))))))))))))))))))))))) :
  f66_4 w0 K x2 x3 x9 h := fun j => LP_intro (P := Go.Proofs.Try.prog) (Eq.mp (by kernel_rfl) hv)

theorem f66_go {w0 : World} {K : Value → AH → Prop} (x0 : Option Go.Addr) (x1 : ByteArray) (x2 : Int) (x3 : Int) (h : AH)
  (hv : (EvC Go.Proofs.Try.prog w0 49 #[(Go.Value.pointer x0), (Go.Value.string x1)] (fun x'0 h'1 => (∃ p'2 : Option Go.Addr, ((x'0 = (Go.Value.pointer p'2)) ∧ (∃ a'3 : Go.Addr, ((x0 = (some a'3)) ∧ (∃ t'4 : Bool, (((Go.G.cellA w0 h'1 (Go.Addr.add a'3 7)) = (some (Go.Value.bool t'4))) ∧ (brB t'4 (f66_3 w0 K x2 x3 p'2 true h'1) (brB (Option.isNone p'2) (f66_3 w0 K x2 x3 p'2 true h'1) (brB (decide ((x2 < (0 : Int)))) (f66_3 w0 K x2 x3 p'2 true h'1) (∃ a'5 : Go.Addr, ((p'2 = (some a'5)) ∧ (∃ p'6 : Option Go.Addr, (∃ n'7 : Nat, (∃ n'8 : Nat, (((Go.G.cellA w0 h'1 (Go.Addr.add a'5 0)) = (some (Go.Value.slice p'6 n'7 n'8))) ∧ (f66_3 w0 K x2 x3 p'2 (decide ((((n'7 : Nat) : Int) ≤ x2))) h'1))))))))))))))))) h)) :
  EvC Go.Proofs.Try.prog w0 66 ([(.pointer x0), (.string x1), (.int .i64 x2), (.int .u8 x3)]).toArray K h := EvC_intro (P := Go.Proofs.Try.prog) f66_J (Eq.mp (by kernel_rfl) hv)
def f39_J : Nat → List Nat × Nat := jOf [(4, [2, 3, 4, 5, 6, 7, 8, 9, 10, 11, 14, 15, 16, 17, 18, 19, 20, 21, 22, 23, 24, 25], 0)]

def f39_4 (w0 : World) (K : Value → AH → Prop) (a0 : Option Go.Addr) (n0 : Nat) (c0 : Nat) (a1 : Option Go.Addr) (n1 : Nat) (c1 : Nat) (x12 : Int) (x13 : Int) (h : AH) : Prop :=
  ∀ j : Nat → Value, LPk Go.Proofs.Try.prog w0 (EvC Go.Proofs.Try.prog w0) f39_J 39 K 4 [.v (.slice a0 n0 c0), .v (.slice a1 n1 c1), .v (j 2), .v (j 3), .v (j 4), .v (j 5), .v (j 6), .v (j 7), .v (j 8), .v (j 9), .v (j 10), .v (j 11), .v (.int .i64 x12), .v (.int .i64 x13), .v (j 14), .v (j 15), .v (j 16), .v (j 17), .v (j 18), .v (j 19), .v (j 20), .v (j 21), .v (j 22), .v (j 23), .v (j 24), .v (j 25)] [] h

theorem f39_4_in {w0 : World} {K : Value → AH → Prop} (a0 : Option Go.Addr) (n0 : Nat) (c0 : Nat) (a1 : Option Go.Addr) (n1 : Nat) (c1 : Nat) (x12 : Int) (x13 : Int) (h : AH)
  (hv : (brB (decide ((x13 < x12))) (∃ a'0 : Go.Addr, ((a0 = (some a'0)) ∧ (((0 : Int) ≤ x13) ∧ ((x13 < ((n0 : Nat) : Int)) ∧ (∃ s'1 : ByteArray, (((Go.G.cellA w0 h (Go.Addr.add a'0 ((Int.toNat x13) * 1))) = (some (Go.Value.string s'1))) ∧ (∃ a'2 : Go.Addr, ((a1 = (some a'2)) ∧ (((0 : Int) ≤ x13) ∧ ((x13 < ((n1 : Nat) : Int)) ∧ (∃ s'3 : ByteArray, (((Go.G.cellA w0 h (Go.Addr.add a'2 ((Int.toNat x13) * 1))) = (some (Go.Value.string s'3))) ∧ (brB (!(decide ((s'1 = s'3)))) (K (Go.Value.bool false) h) (f39_4 w0 K a0 n0 c0 a1 n1 c1 x12 (Go.IntKind.wrap .i64 (x13 + (1 : Int))) h)))))))))))))) (K (Go.Value.bool true) h))) :
  f39_4 w0 K a0 n0 c0 a1 n1 c1 x12 x13 h := fun j => LP_intro (P := Go.Proofs.Try.prog) (Eq.mp (by kernel_rfl) hv)

theorem f39_go {w0 : World} {K : Value → AH → Prop} (a0 : Option Go.Addr) (n0 : Nat) (c0 : Nat) (a1 : Option Go.Addr) (n1 : Nat) (c1 : Nat) (h : AH)
  (hv : (brB (((n0 : Nat) : Int) != ((n1 : Nat) : Int)) (K (Go.Value.bool false) h) (f39_4 w0 K a0 n0 c0 a1 n1 c1 ((n0 : Nat) : Int) (0 : Int) h))) :
  EvC Go.Proofs.Try.prog w0 39 ([(.slice a0 n0 c0), (.slice a1 n1 c1)]).toArray K h := EvC_intro (P := Go.Proofs.Try.prog) f39_J (Eq.mp (by kernel_rfl) hv)
/-! ### the document's picks, reads, names -/
def pickAt (l : List Int) (k n : Nat) : Nat := match l[k]? with | none => 0 | some x => pickV x n
theorem pickS_drop (l : List Int) (k n : Nat) : pickS (l.drop k) n = (pickAt l k n, l.drop (k + 1)) := by
  unfold pickAt
  cases hq : l[k]? with
  | none =>
    have hl : l.length ≤ k := List.getElem?_eq_none_iff.1 hq
    rw [List.drop_eq_nil_of_le hl, List.drop_eq_nil_of_le (by omega)]
    rfl
  | some x =>
    obtain ⟨hl, hx⟩ := List.getElem?_eq_some_iff.1 hq
    rw [List.drop_eq_getElem_cons hl, hx]
    rfl
theorem wrapU0 (x : Int) : IntKind.u64.wrap x = x % 18446744073709551616 := by simp [IntKind.wrap, IntKind.signed, IntKind.bits]
/-- next. -/
theorem f76_spec {w0 : World} {K : Value → AH → Prop} {h : AH} {c k n : Nat} {a : Option Addr} {l : List Int} {m : Int} (p : PickOk w0 a c l) (hn : n ≤ 1000000000000) (hm : m = (n : Int))
    (hk : K (.int .i64 ((pickAt l k n : Nat) : Int)) h) : EvC Go.Proofs.Try.prog w0 76 #[.slice a l.length c, .int .i64 ((k : Nat) : Int), .int .i64 m] K h := by
  subst hm
  unfold pickAt at hk
  refine f76_go _ _ _ _ _ _ (brB_of (fun q => ?_) fun q => ?_)
  · have q' : l.length ≤ k := by have := of_decide_eq_true q; omega
    rw [List.getElem?_eq_none_iff.2 q'] at hk
    exact hk
  · have q' : k < l.length := by have := of_decide_eq_false q; omega
    have hg := List.getElem?_eq_getElem q'
    have hx := p.rg _ (List.getElem_mem q')
    generalize l[k] = x at hg hx
    rw [hg] at hk
    dsimp only at hk
    obtain ⟨ad, had, hc⟩ := p.rd h k (.int .i64 x) (by simp [i64s, hg])
    have wr : IntKind.i64.wrap ((n : Int) + 1) = (n : Int) + 1 := wrap64 (by omega) (by omega)
    have wu : IntKind.u64.wrap ((n : Int) + 1) = (n : Int) + 1 := by rw [wrapU0]; omega
    have hc' : cellA w0 h (Addr.add ad ((Int.toNat ((k : Nat) : Int)) * 1)) = some (.int .i64 x) := by rw [Int.toNat_natCast, Nat.mul_one]; exact hc
    refine ⟨ad, had, by omega, by omega, x, hc', ad, had, by omega, by omega, x, hc', brB_of (fun q => ?_) fun q => ?_⟩
    · have q2 := of_decide_eq_true q
      rw [wr, wu]
      refine ⟨by omega, ?_⟩
      have e1 : BitVec.ofInt 64 (IntKind.u64.wrap x) = BitVec.ofInt 64 x := by
        rw [wrapU0]
        apply BitVec.eq_of_toNat_eq
        rw [BitVec.toNat_ofInt, BitVec.toNat_ofInt]
        have e2 : ((2 ^ 64 : Nat) : Int) = 18446744073709551616 := by decide
        rw [e2]; omega
      have e : ((pickV x n : Nat) : Int) = x % 4611686018427387904 % ((n : Int) + 1) := by
        unfold pickV; rw [if_pos q2]
        have := Int.emod_nonneg (x % 4611686018427387904) (show (n : Int) + 1 ≠ 0 by omega)
        omega
      have hb := Int.emod_lt_of_pos (x % 4611686018427387904) (show (0 : Int) < (n : Int) + 1 by omega)
      have hb2 := Int.emod_nonneg (x % 4611686018427387904) (show (n : Int) + 1 ≠ 0 by omega)
      rw [e1, and_low, show IntKind.u64.wrap (x % 4611686018427387904) = x % 4611686018427387904 by rw [wrapU0]; omega, tmod_pos (by omega), wrap64 (by omega) (by omega), ← e]
      exact hk
    · have q2 := of_decide_eq_false q
      rw [wr, wu]
      refine ⟨by omega, ?_⟩
      have e : ((pickV x n : Nat) : Int) = x % ((n : Int) + 1) := by
        unfold pickV; rw [if_neg q2]
        have := Int.emod_nonneg x (show (n : Int) + 1 ≠ 0 by omega)
        omega
      have hb := Int.emod_lt_of_pos x (show (0 : Int) < (n : Int) + 1 by omega)
      have hb2 := Int.emod_nonneg x (show (n : Int) + 1 ≠ 0 by omega)
      rw [show IntKind.u64.wrap x = x by rw [wrapU0]; omega, tmod_pos (by omega), wrap64 (by omega) (by omega), ← e]
      exact hk
theorem rlook {s : Ds} {R : RD} {n : ByteArray} (r : RRep s R) : (∃ e, e ≠ 0 ∧ lookS n s = (e, none)) ∨ ∃ i f, lookS n s = (0, some i) ∧ findD n s.dir = some i ∧ R.F[i]? = some f ∧ dataAt s.fs i = f.data := by
  unfold lookS
  split
  · exact .inl ⟨10, by decide, rfl⟩
  · cases hf : findD n s.dir with
    | none => exact .inl ⟨7, by decide, rfl⟩
    | some i =>
      obtain ⟨fo, hgi, _⟩ := r.file hf
      refine .inr ⟨i, fo, rfl, rfl, hgi, ?_⟩
      unfold dataAt
      rw [← r.fs, List.getElem?_map, hgi]
      rfl
theorem rfile_rd {w0 : World} {h : AH} {B : List (Nat × AB)} {s : Ds} {R : RD} {i : Nat} {f : FO} (r : RRep s R) (w : Own w0 h (R.blocks s ++ B)) (hi : R.F[i]? = some f) : Rd w0 h f.a (u8s f.data) := by
  have hfv : SlV 1 f.a f.data.length f.c (u8s f.data) := r.fv _ (List.mem_of_getElem? hi)
  have := RD.open hi w
  refine hfv.rd (cs := R.pre s i ++ [(f.b, .cells f.cells 2)]) (bs := fobs (R.F.drop (i + 1)) ++ B) ?_
  simpa only [List.cons_append, List.append_assoc, List.nil_append] using this
/-- Read, as the document answers. -/
theorem f36_spec {w0 : World} {K : Value → AH → Prop} {h : AH} {B : List (Nat × AB)} {s : Ds} {R : RD} {n : ByteArray} (r : RRep s R) (w : Own w0 h (R.blocks s ++ B)) (hc : s.calls < 1000000000)
    (hk : ∀ h' a c, SlV 1 a (readS n s).2.length c (u8s (readS n s).2) → Own w0 h' (slB a (u8s (readS n s).2) (c * 1) ++ (R.blocks s ++ B)) → K (.tuple #[.slice a (readS n s).2.length c, .int .i64 (readS n s).1]) h') :
    EvC Go.Proofs.Try.prog w0 36 #[.pointer (some ⟨R.bd, 0, none⟩), .string n] K h := by
  have od := r.ok.dir.len
  have wf := w
  rw [RD.flat] at wf
  refine f36_go _ _ _ ⟨_, rfl, _, wf.cell0 rfl, brB_of (fun q => ?_) fun q => f49_spec wf r.lv (by omega) ⟨_, rfl, ?_⟩⟩
  · have e : readS n s = (10, []) := by unfold readS lookS; rw [if_pos q]
    rw [e] at hk
    exact hk h none 0 SlV.nil w
  · cases hf : findD n s.dir with
    | none =>
      have e : readS n s = (7, []) := by unfold readS lookS; rw [if_neg (by simp [q]), hf]
      rw [e] at hk
      exact brB_of (fun _ => hk h none 0 SlV.nil w) fun z => by cases z
    | some i =>
      obtain ⟨f, hi, hp⟩ := r.file hf
      have hd : dataAt s.fs i = f.data := by unfold dataAt; rw [← r.fs, List.getElem?_map, hi]; rfl
      have e : readS n s = (0, f.data) := by unfold readS lookS; rw [if_neg (by simp [q]), hf]; dsimp only; rw [hd]
      rw [e] at hk
      dsimp only at hk ⊢
      rw [hp]
      have hmem : ∀ p ∈ fobs R.F, p ∈ R.blocks s ++ B := fun p hp => by rw [RD.flat]; simp [hp]
      obtain ⟨_, c0, _⟩ := file_cells w hmem hi
      have hle : f.data.length ≤ 4194304 := by have := lenAt_le r.ok i; rw [lenAt_abs r.fs hi] at this; exact this
      refine brB_of (fun z => by cases z) fun _ => ⟨_, rfl, _, _, _, c0, rowsOf_of (rfile_rd r w hi) (by rw [u8s_length, Nat.mul_one]) (App_new w (by omega) (by omega) (by rw [u8s_length, Nat.mul_one]) (u8s_cell _) fun a' c' h' v w' => ?_)⟩
      rw [Nat.zero_add]
      exact hk h' a' c' v w'
theorem str_cell (l : List ByteArray) : ∀ y ∈ strs l, y.oneCell' = true := fun y hy => by
  obtain ⟨e, _, rfl⟩ := List.mem_map.1 hy
  rfl
theorem strs_length (l : List ByteArray) : (strs l).length = l.length := by simp [strs]
/-- List, as the document answers. -/
theorem f67_spec {w0 : World} {K : Value → AH → Prop} {h : AH} {B : List (Nat × AB)} {s : Ds} {R : RD} (r : RRep s R) (w : Own w0 h (R.blocks s ++ B)) (hc : s.calls < 1000000000)
    (hk : ∀ a c h', SlV 1 a (listS s).length c (strs (listS s)) → Own w0 h' (slB a (strs (listS s)) (c * 1) ++ (R.blocks s ++ B)) → K (.slice a (listS s).length c) h') :
    EvC Go.Proofs.Try.prog w0 67 #[.pointer (some ⟨R.bd, 0, none⟩)] K h := by
  have od := r.ok.dir.len
  have wf := w
  rw [RD.flat] at wf
  have loop : ∀ (k i : Nat) (out : List ByteArray) (a : Option Addr) (c : Nat) (h' : AH), i + k = s.dir.length → out.length ≤ i → listS s = out ++ (if s.off then [] else (s.dir.drop i).map (·.1)) →
      SlV 1 a out.length c (strs out) → Own w0 h' (slB a (strs out) (c * 1) ++ ((R.bd, .cells (rcells s R) 8) :: (slB R.la (entC R.F s.dir) (R.lc * 2) ++ (slB R.wa (wasC s.was R.W) (R.wc * 1) ++ (wasB R.F s.was R.W ++ (fobs R.F ++ B)))))) →
      f67_3 w0 K (some ⟨R.bd, 0, none⟩) a out.length c R.la s.dir.length R.lc ((s.dir.length : Nat) : Int) ((i : Nat) : Int) h' := by
    intro k
    induction k with
    | zero =>
      intro i out a c h' hi ho he v w'
      rw [List.drop_eq_nil_of_le (by omega)] at he
      have e : listS s = out := by rw [he]; simp
      subst e
      refine f67_3_in _ _ _ _ _ _ _ _ _ _ (brB_of (fun q => by simp at q; omega) fun _ => hk a c h' v ?_)
      rw [RD.flat]; exact w'
    | succ k ih =>
      intro i out a c h' hi ho he v w'
      have hil : i < s.dir.length := by omega
      have hget : s.dir[i]? = some s.dir[i] := List.getElem?_eq_getElem hil
      rw [List.drop_eq_getElem_cons hil] at he
      generalize s.dir[i] = e at hget he
      have wd := w'.drop
      have rd : Rd w0 h' R.la (entC R.F s.dir) := r.lv.rd (cs := [_]) wd
      refine f67_3_in _ _ _ _ _ _ _ _ _ _ (brB_of (fun _ => entLoad rd hget rfl fun ad => ⟨_, rfl, _, wd.cell0 rfl, brB_of (fun q => ?_) fun q => ?_⟩) fun q => by simp at q; omega)
      · have q' : s.off = false := by simpa using q
        refine App_slB v w' (by omega) (by omega) rfl (fun y hy => by rw [List.mem_singleton] at hy; subst hy; rfl) fun a' c' h2 v2 w2 => ?_
        rw [wrapS (by omega)]
        have e2 : strs out ++ [Value.string e.1] = strs (out ++ [e.1]) := by simp [strs]
        rw [e2] at v2 w2
        have := ih (i + 1) (out ++ [e.1]) a' c' h2 (by omega) (by simp; omega) (by rw [he]; simp [q']) (by simpa using v2) w2
        rw [show (out ++ [e.1]).length = out.length + 1 by simp] at this
        exact this
      · have q' : s.off = true := by simpa using q
        rw [wrapS (by omega)]
        exact ih (i + 1) out a c h' (by omega) (by omega) (by rw [he]; simp [q']) v w'
  exact f67_go _ _ ⟨_, rfl, _, _, _, wf.cell0 rfl, loop s.dir.length 0 [] none 0 h (by omega) (Nat.zero_le _) (by simp [listS]) SlV.nil wf⟩
/-- ReadAt, as the document answers. -/
theorem f35_spec {w0 : World} {K : Value → AH → Prop} {h : AH} {B : List (Nat × AB)} {s : Ds} {R : RD} {n : ByteArray} {at' k : Int} (r : RRep s R) (w : Own w0 h (R.blocks s ++ B)) (hc : s.calls < 1000000000) (ha : -9223372036854775808 ≤ at' ∧ at' ≤ 9223372036854775807) (hkk : k ≤ 9223372036854775807)
    (hk : ∀ h' a c C, (∀ h2, Own w0 h2 C → Rd w0 h2 a (u8s (readAtS n at' k s).2)) → Own w0 h' (C ++ (R.blocks s ++ B)) → K (.tuple #[.slice a (readAtS n at' k s).2.length c, .int .i64 (readAtS n at' k s).1]) h') :
    EvC Go.Proofs.Try.prog w0 35 #[.pointer (some ⟨R.bd, 0, none⟩), .string n, .int .i64 at', .int .i64 k] K h := by
  refine f35_go _ _ _ _ _ (f36_spec r w hc fun h1 a c v w1 => ⟨_, _, _, _, rfl, ?_⟩)
  unfold readAtS at hk
  have hd : (readS n s).2.length ≤ 4194304 := by
    rcases rlook (n := n) r with ⟨e, _, hl⟩ | ⟨i, f, hl, _, hi, hd⟩
    · unfold readS; rw [hl]; simp
    · unfold readS; rw [hl]; dsimp only; rw [hd]
      have := lenAt_le r.ok i; rw [lenAt_abs r.fs hi] at this; exact this
  refine brB_of (fun q => ?_) fun q => ?_
  · rw [if_pos (by simpa using q)] at hk
    exact hk h1 none 0 _ (fun _ _ j x hj => by simp [u8s] at hj) w1
  rw [if_neg (by simpa using q)] at hk
  have q0 : (readS n s).1 = 0 := by simpa using q
  rw [q0]
  generalize (readS n s).2 = d at hk v w1 hd
  have five : ∀ x, (x = true ↔ (at' < 0 ∨ k < 0)) → f35_5 w0 K at' k a d.length c 0 x h1 := fun x hx => by
    refine f35_5_in _ _ _ _ _ _ _ _ (brB_of (fun z => ?_) fun z => ?_)
    · rw [if_pos (hx.1 z)] at hk
      exact hk h1 none 0 _ (fun _ _ j x hj => by simp [u8s] at hj) w1
    have hn : ¬ (at' < 0 ∨ k < 0) := fun y => by rw [hx.2 y] at z; cases z
    rw [if_neg hn] at hk
    have seven : ∀ y, (y = true ↔ ((d.length : Int) < at' ∨ (d.length : Int) - at' < k)) → f35_7 w0 K at' k a d.length c 0 y h1 := fun y hy => by
      refine f35_7_in _ _ _ _ _ _ _ _ (brB_of (fun z => ?_) fun z => ?_)
      · rw [if_pos (hy.1 z)] at hk
        exact hk h1 none 0 _ (fun _ _ j x hj => by simp [u8s] at hj) w1
      have hn2 : ¬ ((d.length : Int) < at' ∨ (d.length : Int) - at' < k) := fun y' => by rw [hy.2 y'] at z; cases z
      rw [if_neg hn2] at hk
      have hcap := v.2.1
      rw [wrap64 (by omega) (by omega)]
      refine ⟨by omega, by omega, by omega, ?_⟩
      have hl : ((d.drop at'.toNat).take k.toNat).length = Int.toNat (at' + k) - Int.toNat at' := by rw [List.length_take, List.length_drop]; omega
      rw [← hl]
      refine hk h1 _ _ _ (fun h2 wC => ?_) w1
      have rd : Rd w0 h2 a (u8s d) := v.rd (cs := []) (bs := []) (by simpa using wC)
      have e : u8s d = u8s (d.take at'.toNat) ++ (u8s ((d.drop at'.toNat).take k.toNat) ++ u8s ((d.drop at'.toNat).drop k.toNat)) := by
        simp only [u8s, ← List.map_append, List.take_append_drop]
      rw [e] at rd
      have r2 := rd.cut (e := 1) (c := c) (k := at'.toNat) (by rw [u8s_length, List.length_take]; omega) (fun hne q => by
        apply hne
        have h0 : d.drop at'.toNat = [] := List.drop_eq_nil_of_le (by omega)
        rw [h0]; simp [u8s])
      exact r2.front
    refine brB_of (fun q => seven _ ?_) fun q => seven _ ?_
    · have := of_decide_eq_true q; simp [this]
    · have := of_decide_eq_false q
      rw [wrap64 (by omega) (by omega)]
      simp; omega
  refine brB_of (fun q => five _ ?_) fun q => five _ ?_
  · have := of_decide_eq_true q; simp [this]
  · have := of_decide_eq_false q; simp; omega
/-- Spoil, as the document answers. -/
theorem f66_spec {w0 : World} {K : Value → AH → Prop} {h : AH} {B : List (Nat × AB)} {s : Ds} {R : RD} {n : ByteArray} {a : Int} {x : UInt8} (r : RRep s R) (w : Own w0 h (R.blocks s ++ B)) (hc : s.calls < 1000000000)
    (hk : ∀ h' R', R'.bd = R.bd → RRep (spoilS n a x s).2 R' → Own w0 h' (R'.blocks (spoilS n a x s).2 ++ B) → K (.bool (spoilS n a x s).1) h') :
    EvC Go.Proofs.Try.prog w0 66 #[.pointer (some ⟨R.bd, 0, none⟩), .string n, .int .i64 a, .int .u8 x.toNat] K h := by
  have ook := spoilS_ok r.ok n a x
  have od := r.ok.dir.len
  have wf := w
  rw [RD.flat] at wf
  have no : ∀ p y, y = true → spoilS n a x s = (false, s) → f66_3 w0 K a (x.toNat : Int) p y h := fun p y hy e => by
    rw [e] at hk
    exact f66_3_in _ _ _ _ _ (brB_of (fun _ => hk h R rfl r w) fun z => by rw [hy] at z; cases z)
  refine f66_go _ _ _ _ _ (f49_spec wf r.lv (by omega) ⟨_, rfl, _, rfl, _, wf.cell0 rfl, brB_of (fun q => ?_) fun hoff => ?_⟩)
  · refine no _ _ rfl ?_
    unfold spoilS; rw [if_pos q]
  cases hf : findD n s.dir with
  | none =>
    refine brB_of (fun _ => no _ _ rfl ?_) fun z => by cases z
    unfold spoilS; rw [if_neg (by simp [hoff]), hf]
  | some i =>
    dsimp only
    obtain ⟨fo, hgi, hp⟩ := r.file hf
    have ws := RD.open hgi w
    have wd := ws.drop
    have hln := lenAt_abs r.fs hgi
    have esp : spoilS n a x s = if a < 0 ∨ (lenAt s.fs i : Int) ≤ a then (false, s) else (true, { s with fs := s.fs.modify i fun f => { f with data := f.data.set a.toNat x } }) := by
      unfold spoilS; rw [hoff, hf]; rfl
    have hle := lenAt_le r.ok i
    rw [hln] at esp hle
    rw [hp]
    refine brB_of (fun z => by cases z) fun _ => brB_of (fun q1 => no _ _ rfl ?_) fun q1 => ⟨_, rfl, _, _, _, wd.cell0 rfl, ?_⟩
    · rw [esp, if_pos (.inl (of_decide_eq_true q1))]
    have q1' := of_decide_eq_false q1
    by_cases q2 : (fo.data.length : Int) ≤ a
    · refine no _ _ (decide_eq_true q2) ?_
      rw [esp, if_pos (.inr q2)]
    · rw [decide_eq_false q2]
      rw [esp, if_neg (by omega)] at hk ook
      have hv := r.fv _ (List.mem_of_getElem? hgi)
      have rd := rfile_rd r w hgi
      have hal : a.toNat < fo.data.length := by omega
      have wq : Own w0 h ((fo.b, .cells fo.cells 2) :: (R.pre s i ++ (slB fo.a (u8s fo.data) (fo.c * 1) ++ (fobs (R.F.drop (i + 1)) ++ B)))) := ws.perm List.perm_middle
      refine f66_3_in _ _ _ _ _ (brB_of (fun z => by cases z) fun _ => f66_4_in _ _ _ _ ⟨_, rfl, _, _, _, wd.cell0 rfl, rowsOf_of rd (by rw [u8s_length, Nat.mul_one]) (App_new wq (by omega) (by omega) (by rw [u8s_length, Nat.mul_one]) (u8s_cell _) fun a' c' h' v w' => ?_)⟩)
      cases a' with
      | none => have := v.2.2.1; omega
      | some ad =>
        obtain ⟨ho1, ho2⟩ := v.2.2
        have had : ad = ⟨ad.block, 0, none⟩ := by cases ad; simp_all
        generalize hb : ad.block = b at had
        subst had
        have w2 : Own w0 h' ((fo.b, .cells fo.cells 2) :: (b, .cells (u8s fo.data) (c' * 1)) :: (R.pre s i ++ (fobs (R.F.drop (i + 1)) ++ B))) := by
          have q1 : Own w0 h' (([(b, .cells (u8s fo.data) (c' * 1)), (fo.b, .cells fo.cells 2)] ++ R.pre s i) ++ (slB fo.a (u8s fo.data) (fo.c * 1) ++ (fobs (R.F.drop (i + 1)) ++ B))) := by
            simpa only [List.cons_append, List.nil_append, List.append_assoc, slB] using w'
          have q2 := q1.cut
          exact (show Own w0 h' ((b, .cells (u8s fo.data) (c' * 1)) :: (fo.b, .cells fo.cells 2) :: (R.pre s i ++ (fobs (R.F.drop (i + 1)) ++ B))) by simpa only [List.cons_append, List.nil_append, List.append_assoc] using q2).perm (List.Perm.swap _ _ _)
        have w3 := w2.put (o' := .cells [.slice (some ⟨b, 0, none⟩) fo.data.length c', .int .i64 (fo.sure : Nat)] 2)
        have w4 : Own w0 (h'.put fo.b (.cells [.slice (some ⟨b, 0, none⟩) fo.data.length c', .int .i64 (fo.sure : Nat)] 2)) ((b, .cells (u8s fo.data) (c' * 1)) :: (fo.b, .cells [.slice (some ⟨b, 0, none⟩) fo.data.length c', .int .i64 (fo.sure : Nat)] 2) :: (R.pre s i ++ (fobs (R.F.drop (i + 1)) ++ B))) := w3.perm (List.Perm.swap _ _ _)
        rw [Nat.zero_add]
        refine ⟨_, rfl, _, 2, w2.ge, rfl, w2.hd, by simp [FO.cells, Addr.add], _, rfl, _, _, _, w3.cell0 rfl, ⟨b, 0, none⟩, rfl, by omega, by omega, u8s fo.data, c' * 1, ?_, ?_, ?_, ?_, ?_⟩
        · simp only [add_plain]; exact w4.ge
        · simp only [add_plain]
        · simp only [add_plain]; exact w4.hd
        · simp only [add_plain]; simp [u8s]; omega
        simp only [add_plain, Nat.zero_add, Nat.mul_one]
        rw [setCells_one, setCells_one, u8s_set]
        have w5 := w4.put (o' := .cells (u8s (fo.data.set a.toNat x)) c')
        refine hk _ { R with F := R.F.set i { fo with data := fo.data.set a.toNat x, a := some ⟨b, 0, none⟩, c := c' } } rfl (r.set (f' := { fo with data := fo.data.set a.toNat x, a := some ⟨b, 0, none⟩, c := c' }) hgi rfl rfl ?_ ook) (RD.shut (s := s) (f' := { fo with data := fo.data.set a.toNat x, a := some ⟨b, 0, none⟩, c := c' }) hgi rfl ?_)
        · show SlV 1 (some ⟨b, 0, none⟩) (fo.data.set a.toNat x).length c' (u8s (fo.data.set a.toNat x))
          rw [List.length_set]
          exact ⟨by simp [u8s], v.2.1, rfl, rfl⟩
        · show Own w0 _ (R.pre s i ++ ((fo.b, .cells [.slice (some ⟨b, 0, none⟩) (fo.data.set a.toNat x).length c', .int .i64 (fo.sure : Nat)] 2) :: ((b, .cells (u8s (fo.data.set a.toNat x)) (c' * 1)) :: (fobs (R.F.drop (i + 1)) ++ B))))
          rw [List.length_set, Nat.mul_one]
          refine w5.perm ?_
          refine (List.Perm.swap _ _ _).trans ?_
          exact ((List.perm_middle.symm.cons _).trans List.perm_middle.symm)
/-- Are two rows of texts the same? -/
theorem f39_same {w0 : World} {K : Value → AH → Prop} {h : AH} {a b : Option Addr} {c d : Nat} {l : List ByteArray} (h1 : Rd w0 h a (strs l)) (h2 : Rd w0 h b (strs l)) (hn : l.length ≤ 1000000000) (hk : K (.bool true) h) :
    EvC Go.Proofs.Try.prog w0 39 #[.slice a l.length c, .slice b l.length d] K h := by
  have loop : ∀ (k i : Nat), i + k = l.length → f39_4 w0 K a l.length c b l.length d ((l.length : Nat) : Int) ((i : Nat) : Int) h := by
    intro k
    induction k with
    | zero => exact fun i hi => f39_4_in _ _ _ _ _ _ _ _ _ (brB_of (fun q => by simp at q; omega) fun _ => hk)
    | succ k ih =>
      intro i hi
      have hil : i < l.length := by omega
      have hg : (strs l)[i]? = some (.string l[i]) := by simp [strs, hil]
      obtain ⟨ad, had, c1⟩ := h1 _ _ hg
      obtain ⟨bd, hbd, c2⟩ := h2 _ _ hg
      refine f39_4_in _ _ _ _ _ _ _ _ _ (brB_of (fun _ => ⟨ad, had, by omega, by omega, _, by rw [Int.toNat_natCast, Nat.mul_one]; exact c1, bd, hbd, by omega, by omega, _, by rw [Int.toNat_natCast, Nat.mul_one]; exact c2, brB_of (fun q => by simp at q) fun _ => ?_⟩) fun q => by simp at q; omega)
      rw [wrapS (by omega)]
      exact ih (i + 1) (by omega)
  exact f39_go _ _ _ _ _ _ _ (brB_of (fun q => by simp at q) fun _ => loop l.length 0 (by omega))
end Go.G.Ytpjklfmfgmicaaa
