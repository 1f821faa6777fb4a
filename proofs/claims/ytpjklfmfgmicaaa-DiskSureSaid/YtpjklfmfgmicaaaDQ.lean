/- Calls of the program's disk. -/
import Derived.Test.YtpjklfmfgmicaaaDN
import Derived.Test.YtpjklfmfgmicaaaDO
import Derived.Test.YtpjklfmfgmicaaaDP
import Derived.Test.YtpjklfmfgmicaaaProg
set_option maxRecDepth 100000
namespace Go.G.Ytpjklfmfgmicaaa
open Go.RowKit
def f24_J : Nat → List Nat × Nat := jOf []



theorem f24_go {w0 : World} {K : Value → AH → Prop} (x0 : Option Go.Addr) (x1 : Int) (h : AH)
  (hv : (brB (Option.isSome x0) (∃ a'0 : Go.Addr, ((x0 = (some a'0)) ∧ (∃ l'1 : List Go.Value, (∃ n'2 : Nat, (((Array.size (Go.World.heap w0)) ≤ (Go.Addr.block (Go.Addr.add a'0 6))) ∧ (((none : Option Nat) = none) ∧ (((h (Go.Addr.block (Go.Addr.add a'0 6))) = (some (Go.G.AB.cells l'1 n'2))) ∧ ((((Go.Addr.off (Go.Addr.add a'0 6)) + (Array.size #[(Go.Value.int .i64 (if ((0 : Int) < x1) then x1 else (0 : Int)))])) ≤ (List.length l'1)) ∧ (K (Go.Value.tuple #[]) (Go.G.AH.put h (Go.Addr.block (Go.Addr.add a'0 6)) (Go.G.AB.cells (Go.G.setCells l'1 (Go.Addr.off (Go.Addr.add a'0 6)) [(Go.Value.int .i64 (if ((0 : Int) < x1) then x1 else (0 : Int)))]) n'2))))))))))) (K (Go.Value.tuple #[]) h))) :
  EvC Go.Proofs.Try.prog w0 24 ([(.pointer x0), (.int .i64 x1)]).toArray K h := EvC_intro (P := Go.Proofs.Try.prog) f24_J (Eq.mp (by kernel_rfl) hv)
def f25_J : Nat → List Nat × Nat := jOf [(3, [1, 2, 3, 4, 5, 6, 7, 8, 9, 10, 11, 12, 13, 14, 15, 16, 17, 18, 19, 20, 22, 23, 24, 25, 26, 27], 0)]

def f25_3 (w0 : World) (K : Value → AH → Prop) (x0 : Option Go.Addr) (x21 : Bool) (h : AH) : Prop :=
  ∀ j : Nat → Value, LPk Go.Proofs.Try.prog w0 (EvC Go.Proofs.Try.prog w0) f25_J 25 K 3 [.v (.pointer x0), .v (j 1), .v (j 2), .v (j 3), .v (j 4), .v (j 5), .v (j 6), .v (j 7), .v (j 8), .v (j 9), .v (j 10), .v (j 11), .v (j 12), .v (j 13), .v (j 14), .v (j 15), .v (j 16), .v (j 17), .v (j 18), .v (j 19), .v (j 20), .v (.bool x21), .v (j 22), .v (j 23), .v (j 24), .v (j 25), .v (j 26), .v (j 27)] [] h

theorem f25_3_in {w0 : World} {K : Value → AH → Prop} (x0 : Option Go.Addr) (x21 : Bool) (h : AH)
  (hv : (brB x21 (∃ a'6 : Go.Addr, ((x0 = (some a'6)) ∧ (∃ l'7 : List Go.Value, (∃ n'8 : Nat, (((Array.size (Go.World.heap w0)) ≤ (Go.Addr.block (Go.Addr.add a'6 7))) ∧ (((none : Option Nat) = none) ∧ (((h (Go.Addr.block (Go.Addr.add a'6 7))) = (some (Go.G.AB.cells l'7 n'8))) ∧ ((((Go.Addr.off (Go.Addr.add a'6 7)) + 1) ≤ (List.length l'7)) ∧ (∃ a'9 : Go.Addr, ((x0 = (some a'9)) ∧ (∃ l'10 : List Go.Value, (∃ n'11 : Nat, (((Array.size (Go.World.heap w0)) ≤ (Go.Addr.block (Go.Addr.add a'9 8))) ∧ (((none : Option Nat) = none) ∧ (((Go.G.AH.put h (Go.Addr.block (Go.Addr.add a'6 7)) (Go.G.AB.cells (Go.G.setCells l'7 (Go.Addr.off (Go.Addr.add a'6 7)) [(Go.Value.int .i64 (0 : Int))]) n'8) (Go.Addr.block (Go.Addr.add a'9 8))) = (some (Go.G.AB.cells l'10 n'11))) ∧ ((((Go.Addr.off (Go.Addr.add a'9 8)) + 1) ≤ (List.length l'10)) ∧ (K (Go.Value.tuple #[]) (Go.G.AH.put (Go.G.AH.put h (Go.Addr.block (Go.Addr.add a'6 7)) (Go.G.AB.cells (Go.G.setCells l'7 (Go.Addr.off (Go.Addr.add a'6 7)) [(Go.Value.int .i64 (0 : Int))]) n'8)) (Go.Addr.block (Go.Addr.add a'9 8)) (Go.G.AB.cells (Go.G.setCells l'10 (Go.Addr.off (Go.Addr.add a'9 8)) [(Go.Value.int .i64 (0 : Int))]) n'11))))))))))))))))))) (K (Go.Value.tuple #[]) h))) :
  f25_3 w0 K x0 x21 h := fun j => LP_intro (P := Go.Proofs.Try.prog) (Eq.mp (by kernel_rfl) hv)

theorem f25_go {w0 : World} {K : Value → AH → Prop} (x0 : Option Go.Addr) (x1 : Int) (x2 : Int) (h : AH)
  (hv : (brB (Option.isNone x0) (K (Go.Value.tuple #[]) h) (∃ a'0 : Go.Addr, ((x0 = (some a'0)) ∧ (∃ l'1 : List Go.Value, (∃ n'2 : Nat, (((Array.size (Go.World.heap w0)) ≤ (Go.Addr.block (Go.Addr.add a'0 7))) ∧ (((none : Option Nat) = none) ∧ (((h (Go.Addr.block (Go.Addr.add a'0 7))) = (some (Go.G.AB.cells l'1 n'2))) ∧ ((((Go.Addr.off (Go.Addr.add a'0 7)) + (Array.size #[(Go.Value.int .i64 x1)])) ≤ (List.length l'1)) ∧ (∃ a'3 : Go.Addr, ((x0 = (some a'3)) ∧ (∃ l'4 : List Go.Value, (∃ n'5 : Nat, (((Array.size (Go.World.heap w0)) ≤ (Go.Addr.block (Go.Addr.add a'3 8))) ∧ (((none : Option Nat) = none) ∧ (((Go.G.AH.put h (Go.Addr.block (Go.Addr.add a'0 7)) (Go.G.AB.cells (Go.G.setCells l'1 (Go.Addr.off (Go.Addr.add a'0 7)) [(Go.Value.int .i64 x1)]) n'2) (Go.Addr.block (Go.Addr.add a'3 8))) = (some (Go.G.AB.cells l'4 n'5))) ∧ ((((Go.Addr.off (Go.Addr.add a'3 8)) + (Array.size #[(Go.Value.int .i64 x2)])) ≤ (List.length l'4)) ∧ (brB (decide ((x1 < (1 : Int)))) (f25_3 w0 K x0 true (Go.G.AH.put (Go.G.AH.put h (Go.Addr.block (Go.Addr.add a'0 7)) (Go.G.AB.cells (Go.G.setCells l'1 (Go.Addr.off (Go.Addr.add a'0 7)) [(Go.Value.int .i64 x1)]) n'2)) (Go.Addr.block (Go.Addr.add a'3 8)) (Go.G.AB.cells (Go.G.setCells l'4 (Go.Addr.off (Go.Addr.add a'3 8)) [(Go.Value.int .i64 x2)]) n'5))) (f25_3 w0 K x0 (decide ((x2 < (1 : Int)))) (Go.G.AH.put (Go.G.AH.put h (Go.Addr.block (Go.Addr.add a'0 7)) (Go.G.AB.cells (Go.G.setCells l'1 (Go.Addr.off (Go.Addr.add a'0 7)) [(Go.Value.int .i64 x1)]) n'2)) (Go.Addr.block (Go.Addr.add a'3 8)) (Go.G.AB.cells (Go.G.setCells l'4 (Go.Addr.off (Go.Addr.add a'3 8)) [(Go.Value.int .i64 x2)]) n'5)))))))))))))))))))))) :
  EvC Go.Proofs.Try.prog w0 25 ([(.pointer x0), (.int .i64 x1), (.int .i64 x2)]).toArray K h := EvC_intro (P := Go.Proofs.Try.prog) f25_J (Eq.mp (by kernel_rfl) hv)
def f26_J : Nat → List Nat × Nat := jOf []



theorem f26_go {w0 : World} {K : Value → AH → Prop} (x0 : Option Go.Addr) (h : AH)
  (hv : (brB (Option.isNone x0) (K (Go.Value.int .i64 (0 : Int)) h) (∃ a'0 : Go.Addr, ((x0 = (some a'0)) ∧ (∃ i'1 : Int, (((Go.G.cellA w0 h (Go.Addr.add a'0 5)) = (some (Go.Value.int .i64 i'1))) ∧ (K (Go.Value.int .i64 i'1) h))))))) :
  EvC Go.Proofs.Try.prog w0 26 ([(.pointer x0)]).toArray K h := EvC_intro (P := Go.Proofs.Try.prog) f26_J (Eq.mp (by kernel_rfl) hv)
def f27_J : Nat → List Nat × Nat := jOf []



theorem f27_go {w0 : World} {K : Value → AH → Prop} (x0 : Option Go.Addr) (h : AH)
  (hv : (brB (Option.isSome x0) (∃ a'0 : Go.Addr, ((x0 = (some a'0)) ∧ (∃ t'1 : Bool, (((Go.G.cellA w0 h (Go.Addr.add a'0 4)) = (some (Go.Value.bool t'1))) ∧ (K (Go.Value.bool t'1) h))))) (K (Go.Value.bool false) h))) :
  EvC Go.Proofs.Try.prog w0 27 ([(.pointer x0)]).toArray K h := EvC_intro (P := Go.Proofs.Try.prog) f27_J (Eq.mp (by kernel_rfl) hv)
def f29_J : Nat → List Nat × Nat := jOf [(5, [2, 3, 4, 7, 8, 9, 10, 11, 12, 13, 14, 15, 16, 17, 18, 20, 21, 22, 23, 24, 25, 26, 27, 28, 29, 30, 31, 32, 33, 34, 35, 36, 37, 38], 0), (6, [2, 3, 4, 5, 6, 7, 8, 9, 10, 11, 12, 13, 14, 15, 16, 17, 18, 19, 20, 21, 22, 23, 24, 25, 26, 27, 28, 29, 30, 31, 32, 33, 34, 35, 36, 37, 38], 0)]

def f29_5 (w0 : World) (K : Value → AH → Prop) (x0 : Option Go.Addr) (x1 : ByteArray) (x5 : Int) (x6 : Bool) (x19 : Bool) (h : AH) : Prop :=
  ∀ j : Nat → Value, LPk Go.Proofs.Try.prog w0 (EvC Go.Proofs.Try.prog w0) f29_J 29 K 5 [.v (.pointer x0), .v (.string x1), .v (j 2), .v (j 3), .v (j 4), .v (.int .i64 x5), .v (.bool x6), .v (j 7), .v (j 8), .v (j 9), .v (j 10), .v (j 11), .v (j 12), .v (j 13), .v (j 14), .v (j 15), .v (j 16), .v (j 17), .v (j 18), .v (.bool x19), .v (j 20), .v (j 21), .v (j 22), .v (j 23), .v (j 24), .v (j 25), .v (j 26), .v (j 27), .v (j 28), .v (j 29), .v (j 30), .v (j 31), .v (j 32), .v (j 33), .v (j 34), .v (j 35), .v (j 36), .v (j 37), .v (j 38)] [] h

def f29_6 (w0 : World) (K : Value → AH → Prop) (x0 : Option Go.Addr) (x1 : ByteArray) (h : AH) : Prop :=
  ∀ j : Nat → Value, LPk Go.Proofs.Try.prog w0 (EvC Go.Proofs.Try.prog w0) f29_J 29 K 6 [.v (.pointer x0), .v (.string x1), .v (j 2), .v (j 3), .v (j 4), .v (j 5), .v (j 6), .v (j 7), .v (j 8), .v (j 9), .v (j 10), .v (j 11), .v (j 12), .v (j 13), .v (j 14), .v (j 15), .v (j 16), .v (j 17), .v (j 18), .v (j 19), .v (j 20), .v (j 21), .v (j 22), .v (j 23), .v (j 24), .v (j 25), .v (j 26), .v (j 27), .v (j 28), .v (j 29), .v (j 30), .v (j 31), .v (j 32), .v (j 33), .v (j 34), .v (j 35), .v (j 36), .v (j 37), .v (j 38)] [] h

theorem f29_5_in {w0 : World} {K : Value → AH → Prop} (x0 : Option Go.Addr) (x1 : ByteArray) (x5 : Int) (x6 : Bool) (x19 : Bool) (h : AH)
  (hv : (brB x19 (EvC Go.Proofs.Try.prog w0 43 #[(Go.Value.bool x6), (Go.Value.int .i64 x5)] (fun x'4 h'5 => (∃ i'6 : Int, ((x'4 = (Go.Value.int .i64 i'6)) ∧ (K (Go.Value.int .i64 i'6) h'5)))) h) (f29_6 w0 K x0 x1 h))) :
  f29_5 w0 K x0 x1 x5 x6 x19 h := fun j => LP_intro (P := Go.Proofs.Try.prog) (Eq.mp (by kernel_rfl) hv)

theorem f29_6_in {w0 : World} {K : Value → AH → Prop} (x0 : Option Go.Addr) (x1 : ByteArray) (h : AH)
  (hv : (∃ a'7 : Go.Addr, ((x0 = (some a'7)) ∧ (∃ p'8 : Option Nat, (((Go.G.cellA w0 h (Go.Addr.add a'7 1)) = (some (Go.Value.map p'8))) ∧ (((Go.G.plainKey Go.Proofs.Try.prog 65 (Go.Value.string x1)) = true) ∧ (mapAt Go.Proofs.Try.prog w0 h p'8 65 (fun es'9 => (∃ p'10 : Option Go.Addr, (((Go.Value.pointer p'10) = (Option.getD (Go.G.getM (Go.Value.string x1) es'9) (Go.Value.pointer none))) ∧ (brB (Option.isNone p'10) (K (Go.Value.int .i64 (7 : Int)) h) (∃ a'11 : Go.Addr, ((p'10 = (some a'11)) ∧ (∃ p'12 : Option Go.Addr, (∃ n'13 : Nat, (∃ n'14 : Nat, (((Go.G.cellA w0 h (Go.Addr.add a'11 0)) = (some (Go.Value.slice p'12 n'13 n'14))) ∧ (∃ a'15 : Go.Addr, ((p'10 = (some a'15)) ∧ (∃ l'16 : List Go.Value, (∃ n'17 : Nat, (((Array.size (Go.World.heap w0)) ≤ (Go.Addr.block (Go.Addr.add a'15 1))) ∧ (((none : Option Nat) = none) ∧ (((h (Go.Addr.block (Go.Addr.add a'15 1))) = (some (Go.G.AB.cells l'16 n'17))) ∧ ((((Go.Addr.off (Go.Addr.add a'15 1)) + (Array.size #[(Go.Value.int .i64 ((n'13 : Nat) : Int))])) ≤ (List.length l'16)) ∧ (K (Go.Value.int .i64 (0 : Int)) (Go.G.AH.put h (Go.Addr.block (Go.Addr.add a'15 1)) (Go.G.AB.cells (Go.G.setCells l'16 (Go.Addr.off (Go.Addr.add a'15 1)) [(Go.Value.int .i64 ((n'13 : Nat) : Int))]) n'17)))))))))))))))))))))))))))) :
  f29_6 w0 K x0 x1 h := fun j => LP_intro (P := Go.Proofs.Try.prog) (Eq.mp (by kernel_rfl) hv)

theorem f29_go {w0 : World} {K : Value → AH → Prop} (x0 : Option Go.Addr) (x1 : ByteArray) (h : AH)
  (hv : (brB (Option.isNone x0) (K (Go.Value.int .i64 (1 : Int)) h) (EvC Go.Proofs.Try.prog w0 41 #[(Go.Value.pointer x0)] (fun x'0 h'1 => (∃ i'2 : Int, (∃ t'3 : Bool, ((x'0 = (Go.Value.tuple #[(Go.Value.int .i64 i'2), (Go.Value.bool t'3)])) ∧ (brB (i'2 != (0 : Int)) (f29_5 w0 K x0 x1 i'2 t'3 true h'1) (f29_5 w0 K x0 x1 i'2 t'3 t'3 h'1)))))) h))) :
  EvC Go.Proofs.Try.prog w0 29 ([(.pointer x0), (.string x1)]).toArray K h := EvC_intro (P := Go.Proofs.Try.prog) f29_J (Eq.mp (by kernel_rfl) hv)
def f30_J : Nat → List Nat × Nat := jOf [(5, [1, 2, 5, 6, 7, 8, 9, 10, 11, 12, 13, 14, 15, 17, 18, 19, 20, 21, 22, 23, 24, 25, 26, 27, 28, 29, 30], 0)]

def f30_5 (w0 : World) (K : Value → AH → Prop) (x0 : Option Go.Addr) (x3 : Int) (x4 : Bool) (x16 : Bool) (h : AH) : Prop :=
  ∀ j : Nat → Value, LPk Go.Proofs.Try.prog w0 (EvC Go.Proofs.Try.prog w0) f30_J 30 K 5 [.v (.pointer x0), .v (j 1), .v (j 2), .v (.int .i64 x3), .v (.bool x4), .v (j 5), .v (j 6), .v (j 7), .v (j 8), .v (j 9), .v (j 10), .v (j 11), .v (j 12), .v (j 13), .v (j 14), .v (j 15), .v (.bool x16), .v (j 17), .v (j 18), .v (j 19), .v (j 20), .v (j 21), .v (j 22), .v (j 23), .v (j 24), .v (j 25), .v (j 26), .v (j 27), .v (j 28), .v (j 29), .v (j 30)] [] h

theorem f30_5_in {w0 : World} {K : Value → AH → Prop} (x0 : Option Go.Addr) (x3 : Int) (x4 : Bool) (x16 : Bool) (h : AH)
  (hv : (brB x16 (EvC Go.Proofs.Try.prog w0 43 #[(Go.Value.bool x4), (Go.Value.int .i64 x3)] (fun x'4 h'5 => (∃ i'6 : Int, ((x'4 = (Go.Value.int .i64 i'6)) ∧ (K (Go.Value.int .i64 i'6) h'5)))) h) (∃ a'7 : Go.Addr, ((x0 = (some a'7)) ∧ (∃ p'8 : Option Nat, (((Go.G.cellA w0 h (Go.Addr.add a'7 1)) = (some (Go.Value.map p'8))) ∧ (EvC Go.Proofs.Try.prog w0 53 #[(Go.Value.map p'8)] (fun x'9 h'10 => (∃ p'11 : Option Nat, ((x'9 = (Go.Value.map p'11)) ∧ (∃ a'12 : Go.Addr, ((x0 = (some a'12)) ∧ (∃ l'13 : List Go.Value, (∃ n'14 : Nat, (((Array.size (Go.World.heap w0)) ≤ (Go.Addr.block (Go.Addr.add a'12 2))) ∧ (((none : Option Nat) = none) ∧ (((h'10 (Go.Addr.block (Go.Addr.add a'12 2))) = (some (Go.G.AB.cells l'13 n'14))) ∧ ((((Go.Addr.off (Go.Addr.add a'12 2)) + (Array.size #[(Go.Value.map p'11)])) ≤ (List.length l'13)) ∧ (∃ a'15 : Go.Addr, ((x0 = (some a'15)) ∧ (∃ l'16 : List Go.Value, (∃ n'17 : Nat, (((Array.size (Go.World.heap w0)) ≤ (Go.Addr.block (Go.Addr.add a'15 3))) ∧ (((none : Option Nat) = none) ∧ (((Go.G.AH.put h'10 (Go.Addr.block (Go.Addr.add a'12 2)) (Go.G.AB.cells (Go.G.setCells l'13 (Go.Addr.off (Go.Addr.add a'12 2)) [(Go.Value.map p'11)]) n'14) (Go.Addr.block (Go.Addr.add a'15 3))) = (some (Go.G.AB.cells l'16 n'17))) ∧ ((((Go.Addr.off (Go.Addr.add a'15 3)) + 1) ≤ (List.length l'16)) ∧ (K (Go.Value.int .i64 (0 : Int)) (Go.G.AH.put (Go.G.AH.put h'10 (Go.Addr.block (Go.Addr.add a'12 2)) (Go.G.AB.cells (Go.G.setCells l'13 (Go.Addr.off (Go.Addr.add a'12 2)) [(Go.Value.map p'11)]) n'14)) (Go.Addr.block (Go.Addr.add a'15 3)) (Go.G.AB.cells (Go.G.setCells l'16 (Go.Addr.off (Go.Addr.add a'15 3)) [(Go.Value.slice none 0 0)]) n'17)))))))))))))))))))))) h))))))) :
  f30_5 w0 K x0 x3 x4 x16 h := fun j => LP_intro (P := Go.Proofs.Try.prog) (Eq.mp (by kernel_rfl) hv)

theorem f30_go {w0 : World} {K : Value → AH → Prop} (x0 : Option Go.Addr) (h : AH)
  (hv : (brB (Option.isNone x0) (K (Go.Value.int .i64 (1 : Int)) h) (EvC Go.Proofs.Try.prog w0 41 #[(Go.Value.pointer x0)] (fun x'0 h'1 => (∃ i'2 : Int, (∃ t'3 : Bool, ((x'0 = (Go.Value.tuple #[(Go.Value.int .i64 i'2), (Go.Value.bool t'3)])) ∧ (brB (i'2 != (0 : Int)) (f30_5 w0 K x0 i'2 t'3 true h'1) (f30_5 w0 K x0 i'2 t'3 t'3 h'1)))))) h))) :
  EvC Go.Proofs.Try.prog w0 30 ([(.pointer x0)]).toArray K h := EvC_intro (P := Go.Proofs.Try.prog) f30_J (Eq.mp (by kernel_rfl) hv)
/-! ### one file is written -/
def PD.pre (s : Ds) (D : PD) (i : Nat) : List (Nat × AB) := (D.bd, .cells (pcells s D) 9) :: (D.md, .map (mapC D.F D.ed)) :: (D.ms, .map (mapC D.F D.es)) :: (slB D.ra (rowC D.F D.row) (D.rc * 3) ++ fobs (D.F.take i))
theorem PD.open {w0 : World} {h : AH} {B : List (Nat × AB)} {s : Ds} {D : PD} {i : Nat} {fo : FO} (hi : D.F[i]? = some fo) (w : Own w0 h (D.blocks s ++ B)) :
    Own w0 h (D.pre s i ++ ((fo.b, .cells fo.cells 2) :: (slB fo.a (u8s fo.data) (fo.c * 1) ++ (fobs (D.F.drop (i + 1)) ++ B)))) := by
  rw [PD.flat, fobs_split hi] at w
  simpa only [PD.pre, FO.blocks, List.cons_append, List.append_assoc] using w
theorem PD.shut {w0 : World} {h : AH} {B : List (Nat × AB)} {s : Ds} {D : PD} {i : Nat} {fo f' : FO} (hi : D.F[i]? = some fo) (hb : f'.b = fo.b)
    (w : Own w0 h (D.pre s i ++ ((f'.b, .cells f'.cells 2) :: (slB f'.a (u8s f'.data) (f'.c * 1) ++ (fobs (D.F.drop (i + 1)) ++ B))))) : Own w0 h (({ D with F := D.F.set i f' } : PD).blocks s ++ B) := by
  have hbl : ∀ j, blk D.F j = blk (D.F.set i f') j := fun j => (blk_set hi hb).symm
  have e1 : mapC D.F D.ed = mapC (D.F.set i f') D.ed := mapC_eq fun e _ => hbl _
  have e2 : mapC D.F D.es = mapC (D.F.set i f') D.es := mapC_eq fun e _ => hbl _
  have e3 : rowC D.F D.row = rowC (D.F.set i f') D.row := rowC_eq fun c _ i _ => hbl _
  rw [PD.flat]
  show Own w0 h ((D.bd, .cells (pcells s D) 9) :: (D.md, .map (mapC (D.F.set i f') D.ed)) :: (D.ms, .map (mapC (D.F.set i f') D.es)) :: (slB D.ra (rowC (D.F.set i f') D.row) (D.rc * 3) ++ (fobs (D.F.set i f') ++ B)))
  rw [← e1, ← e2, ← e3, fobs_set hi]
  simpa only [PD.pre, FO.blocks, List.append_assoc, List.cons_append, List.nil_append] using w
theorem PRep.set {s : Ds} {D : PD} {i : Nat} {fo f' : FO} {g : Fl → Fl} (r : PRep s D) (hi : D.F[i]? = some fo) (hb : f'.b = fo.b) (hg : f'.abs = g fo.abs) (hv : SlV 1 f'.a f'.data.length f'.c (u8s f'.data))
    (ok : ({ s with fs := s.fs.modify i g } : Ds).Ok) : PRep { s with fs := s.fs.modify i g } { D with F := D.F.set i f' } := by
  have hbl : ∀ j, blk D.F j = blk (D.F.set i f') j := fun j => (blk_set hi hb).symm
  have e3 : rowC D.F D.row = rowC (D.F.set i f') D.row := rowC_eq fun c _ i _ => hbl _
  refine ⟨ok, set_abs r.fs hi hg, FV_set r.fv hv, by rw [← e3]; exact r.rv, fun c hc j hj => ?_, r.dm, r.wr, r.la⟩
  show j < (s.fs.modify i _).length
  rw [List.length_modify]; exact r.ri c hc j hj
/-- The file of a name. -/
theorem PRep.file {s : Ds} {D : PD} (r : PRep s D) {n : ByteArray} {i : Nat} (hf : findD n s.dir = some i) : ∃ fo, D.F[i]? = some fo ∧ ptrF D.F i = some ⟨fo.b, 0, none⟩ := by
  have hfl : i < D.F.length := by rw [r.len]; exact (r.ok.dir.ids _ (findD_mem hf)).1
  exact ⟨_, List.getElem?_eq_getElem hfl, by simp [ptrF, blk_at (List.getElem?_eq_getElem hfl)]⟩

/-! ### calls of the program's disk -/
/-- Fuse. -/
theorem f24_spec {w0 : World} {K : Value → AH → Prop} {h : AH} {B : List (Nat × AB)} {s : Ds} {D : PD} {n : Int} (r : PRep s D) (w : Own w0 h (D.blocks s ++ B)) (hn : n ≤ 9223372036854775807)
    (hk : ∀ h', PRep (fuseS n s) D → Own w0 h' (D.blocks (fuseS n s) ++ B) → K (.tuple #[]) h') : EvC Go.Proofs.Try.prog w0 24 #[.pointer (some ⟨D.bd, 0, none⟩), .int .i64 n] K h :=
  f24_go _ _ _ (brB_of (fun _ => ⟨_, rfl, _, 9, Own.ge w, rfl, Own.hd w, by simp [pcells, pc, Addr.add], hk _ ⟨fuseS_ok r.ok hn, r.fs, r.fv, r.rv, r.ri, r.dm, r.wr, r.la⟩ (Own.put w)⟩) fun q => by cases q)
/-- Fault. -/
theorem f25_spec {w0 : World} {K : Value → AH → Prop} {h : AH} {B : List (Nat × AB)} {s : Ds} {D : PD} {a b : Int} (r : PRep s D) (w : Own w0 h (D.blocks s ++ B)) (ha : a ≤ 9223372036854775807) (hb : b ≤ 9223372036854775807)
    (hk : ∀ h', PRep (faultS a b s) D → Own w0 h' (D.blocks (faultS a b s) ++ B) → K (.tuple #[]) h') : EvC Go.Proofs.Try.prog w0 25 #[.pointer (some ⟨D.bd, 0, none⟩), .int .i64 a, .int .i64 b] K h := by
  have rp : PRep (faultS a b s) D := ⟨faultS_ok r.ok ha hb, r.fs, r.fv, r.rv, r.ri, r.dm, r.wr, r.la⟩
  have three : ∀ h' (x : Bool), Own w0 h' (D.blocks { s with wait := a, fails := b } ++ B) → (x = true ↔ a < 1 ∨ b < 1) → f25_3 w0 K (some ⟨D.bd, 0, none⟩) x h' := fun h' x w' hx => by
    refine f25_3_in _ _ _ (brB_of (fun q => ?_) fun q => ?_)
    · have w2 := Own.put (o' := .cells (pcells { s with wait := 0, fails := b } D) 9) w'
      have e : faultS a b s = { s with wait := 0, fails := 0 } := by unfold faultS; rw [if_pos (hx.1 q), if_pos (hx.1 q)]
      refine ⟨_, rfl, _, 9, Own.ge w', rfl, Own.hd w', by simp [pcells, pc, Addr.add], _, rfl, _, 9, Own.ge w', rfl, put_same _ _ _, by simp [pcells, pc, Addr.add, setCells], hk _ rp ?_⟩
      rw [e]
      exact Own.put w2
    · have hn : ¬ (a < 1 ∨ b < 1) := fun z => by rw [hx.2 z] at q; cases q
      have e : faultS a b s = { s with wait := a, fails := b } := by unfold faultS; rw [if_neg hn, if_neg hn]
      rw [e] at hk
      exact hk _ (by rw [← e]; exact rp) w'
  have w2 := Own.put (o' := .cells (pcells { s with wait := a } D) 9) w
  refine f25_go _ _ _ _ (brB_of (fun q => by cases q) fun _ => ⟨_, rfl, _, 9, Own.ge w, rfl, Own.hd w, by simp [pcells, pc, Addr.add], _, rfl, _, 9, Own.ge w, rfl, put_same _ _ _, by simp [pcells, pc, Addr.add, setCells], brB_of (fun q => three _ _ (Own.put w2) ?_) fun q => three _ _ (Own.put w2) ?_⟩)
  · have := of_decide_eq_true q; simp [this]
  · have := of_decide_eq_false q; simp [this]
/-- Calls. -/
theorem f26_spec {w0 : World} {K : Value → AH → Prop} {h : AH} {B : List (Nat × AB)} {s : Ds} {D : PD} (w : Own w0 h (D.blocks s ++ B)) (hk : K (.int .i64 s.calls) h) : EvC Go.Proofs.Try.prog w0 26 #[.pointer (some ⟨D.bd, 0, none⟩)] K h :=
  f26_go _ _ (brB_of (fun q => by cases q) fun _ => ⟨_, rfl, _, Own.cell0 (w := w) rfl, hk⟩)
/-- Down. -/
theorem f27_spec {w0 : World} {K : Value → AH → Prop} {h : AH} {B : List (Nat × AB)} {s : Ds} {D : PD} (w : Own w0 h (D.blocks s ++ B)) (hk : K (.bool s.off) h) : EvC Go.Proofs.Try.prog w0 27 #[.pointer (some ⟨D.bd, 0, none⟩)] K h :=
  f27_go _ _ (brB_of (fun _ => ⟨_, rfl, _, Own.cell0 (w := w) rfl, hk⟩) fun q => by cases q)
/-- Sync. -/
theorem f29_spec {w0 : World} {K : Value → AH → Prop} {h : AH} {B : List (Nat × AB)} {s : Ds} {D : PD} {n : ByteArray} (r : PRep s D) (w : Own w0 h (D.blocks s ++ B)) (hc : s.calls < 1000000000)
    (hk : ∀ h' D', D'.bd = D.bd → PRep (syncS n s).2 D' → Own w0 h' (D'.blocks (syncS n s).2 ++ B) → K (.int .i64 (syncS n s).1) h') :
    EvC Go.Proofs.Try.prog w0 29 #[.pointer (some ⟨D.bd, 0, none⟩), .string n] K h := by
  have ook := syncS_ok r.ok n
  have r1 := r.call
  refine f29_go _ _ _ (brB_of (fun q => by cases q) fun _ => f41_rep r w (by omega) fun h1 w1 => ⟨_, _, rfl, ?_⟩)
  have early : ∀ x, x = true → ((callS s).1 ≠ 0 ∨ (callS s).2.1 = true) → f29_5 w0 K (some ⟨D.bd, 0, none⟩) n (callS s).1 (callS s).2.1 x h1 := fun x hx q => by
    have e : syncS n s = (endS (callS s).2.1 (callS s).1, (callS s).2.2) := by unfold syncS; rw [if_pos q]
    rw [e] at hk
    exact f29_5_in _ _ _ _ _ _ (brB_of (fun _ => f43_spec ⟨_, rfl, hk h1 D rfl r1 w1⟩) fun z => by rw [hx] at z; cases z)
  refine brB_of (fun q => early _ rfl (.inl (by simpa using q))) fun q => ?_
  have q0 : (callS s).1 = 0 := by simpa using q
  cases hg : (callS s).2.1 with
  | true => rw [hg] at early; exact early _ rfl (.inr rfl)
  | false =>
    have es : syncS n s = match findD n (callS s).2.2.dir with | none => (7, (callS s).2.2) | some i => (0, { (callS s).2.2 with fs := (callS s).2.2.fs.modify i fun f => { f with sure := f.data.length } }) := by
      unfold syncS; rw [if_neg (by simp [q0, hg])]
      cases findD n (callS s).2.2.dir <;> rfl
    rw [es] at hk ook
    generalize (callS s).2.2 = t at hk ook w1 r1
    have wf := w1
    rw [PD.flat] at wf
    refine f29_5_in _ _ _ _ _ _ (brB_of (fun z => by cases z) fun _ => f29_6_in _ _ _ ⟨_, rfl, _, wf.cell0 rfl, by kernel_rfl, mapAt_D wf (List.mem_cons_of_mem _ (List.mem_cons_self ..)) ?_⟩)
    rw [r1.find]
    cases hf : findD n t.dir with
    | none =>
      rw [hf] at hk
      exact ⟨none, rfl, brB_of (fun _ => hk h1 D rfl r1 w1) fun z => by cases z⟩
    | some i =>
      rw [hf] at hk ook
      obtain ⟨fo, hgi, hp⟩ := r1.file hf
      have ws := PD.open hgi w1
      have wd := ws.drop
      refine ⟨_, rfl, brB_of (fun z => by cases z) fun _ => ?_⟩
      rw [hp]
      have hv := r1.fv _ (List.mem_of_getElem? hgi)
      refine ⟨_, rfl, _, _, _, wd.cell0 rfl, _, rfl, _, 2, wd.ge, rfl, wd.hd, by simp [FO.cells, Addr.add], ?_⟩
      refine hk _ { D with F := D.F.set i { fo with sure := fo.data.length } } rfl (r1.set (f' := { fo with sure := fo.data.length }) hgi rfl rfl hv ook) (PD.shut (s := t) (f' := { fo with sure := fo.data.length }) hgi rfl ws.upd)
/-- SyncDir. -/
theorem f30_spec {w0 : World} {K : Value → AH → Prop} {h : AH} {B : List (Nat × AB)} {s : Ds} {D : PD} (r : PRep s D) (w : Own w0 h (D.blocks s ++ B)) (hc : s.calls < 1000000000)
    (hk : ∀ h' D', D'.bd = D.bd → PRep (syncDirS s).2 D' → Own w0 h' (D'.blocks (syncDirS s).2 ++ B) → K (.int .i64 (syncDirS s).1) h') :
    EvC Go.Proofs.Try.prog w0 30 #[.pointer (some ⟨D.bd, 0, none⟩)] K h := by
  have ook := syncDirS_ok r.ok
  have r1 := r.call
  refine f30_go _ _ (brB_of (fun q => by cases q) fun _ => f41_rep r w (by omega) fun h1 w1 => ⟨_, _, rfl, ?_⟩)
  have early : ∀ x, x = true → ((callS s).1 ≠ 0 ∨ (callS s).2.1 = true) → f30_5 w0 K (some ⟨D.bd, 0, none⟩) (callS s).1 (callS s).2.1 x h1 := fun x hx q => by
    have e : syncDirS s = (endS (callS s).2.1 (callS s).1, (callS s).2.2) := by unfold syncDirS; rw [if_pos q]
    rw [e] at hk
    exact f30_5_in _ _ _ _ _ (brB_of (fun _ => f43_spec ⟨_, rfl, hk h1 D rfl r1 w1⟩) fun z => by rw [hx] at z; cases z)
  refine brB_of (fun q => early _ rfl (.inl (by simpa using q))) fun q => ?_
  have q0 : (callS s).1 = 0 := by simpa using q
  cases hg : (callS s).2.1 with
  | true => rw [hg] at early; exact early _ rfl (.inr rfl)
  | false =>
    have es : syncDirS s = (0, { (callS s).2.2 with was := [(callS s).2.2.dir] }) := by unfold syncDirS; rw [if_neg (by simp [q0, hg])]
    rw [es] at hk ook
    generalize (callS s).2.2 = t at hk ook w1 r1
    have wf := w1
    rw [PD.flat] at wf
    refine f30_5_in _ _ _ _ _ (brB_of (fun z => by cases z) fun _ => ⟨_, rfl, _, wf.cell0 rfl, f53_spec (wf.mem (List.mem_cons_of_mem _ (List.mem_cons_self ..))).2 fun b hb hn => ?_⟩)
    have w2 : Own w0 (h1.put b (.map (mapC D.F D.ed))) ((D.bd, .cells (pcells t D) 9) :: (D.md, .map (mapC D.F D.ed)) :: (b, .map (mapC D.F D.ed)) :: (fobs D.F ++ B)) := by
      have p1 : Own w0 h1 ([(D.bd, .cells (pcells t D) 9), (D.md, .map (mapC D.F D.ed))] ++ (fobs D.F ++ B)) := Own.cut (ds := (D.ms, .map (mapC D.F D.es)) :: slB D.ra (rowC D.F D.row) (D.rc * 3)) (by simpa only [List.cons_append, List.nil_append, List.append_assoc] using wf)
      exact (p1.new (o := .map (mapC D.F D.ed)) hb hn).perm ((List.Perm.swap _ _ _).trans ((List.Perm.swap _ _ _).cons _))
    have w3 := Own.put (o' := .cells (pc t.room D.md b D.ra D.row.length D.rc t.off t.calls t.fuse t.wait t.fails) 9) w2
    refine ⟨_, rfl, _, rfl, _, 9, w2.ge, rfl, w2.hd, by simp [pcells, pc, Addr.add], _, rfl, _, 9, w2.ge, rfl, w3.hd, by simp [pc, Addr.add], ?_⟩
    refine hk _ { D with ms := b, ra := none, rc := 0, row := [], es := D.ed } rfl ⟨ook, r1.fs, r1.fv, SlV.nil, fun c hc => (by cases hc), r1.dm, ⟨t.dir, rfl, r1.dm⟩, rfl⟩ ?_
    rw [PD.flat]
    exact Own.put w3
end Go.G.Ytpjklfmfgmicaaa
