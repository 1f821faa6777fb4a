/- begin: a call that changes. -/
import Derived.Test.YtpjklfmfgmicaaaDB
import Derived.Test.YtpjklfmfgmicaaaProg
set_option maxRecDepth 100000
namespace Go.G.Ytpjklfmfgmicaaa
open Go.RowKit
def f43_J : Nat → List Nat × Nat := jOf []



theorem f43_go {w0 : World} {K : Value → AH → Prop} (x0 : Bool) (x1 : Int) (h : AH)
  (hv : (brB x0 (K (Go.Value.int .i64 (10 : Int)) h) (K (Go.Value.int .i64 x1) h))) :
  EvC Go.Proofs.Try.prog w0 43 ([(.bool x0), (.int .i64 x1)]).toArray K h := EvC_intro (P := Go.Proofs.Try.prog) f43_J (Eq.mp (by kernel_rfl) hv)
def f45_J : Nat → List Nat × Nat := jOf []



theorem f45_go {w0 : World} {K : Value → AH → Prop} (x0 : Bool) (h : AH)
  (hv : (brB x0 (K (Go.Value.int .i64 (10 : Int)) h) (K (Go.Value.int .i64 (0 : Int)) h))) :
  EvC Go.Proofs.Try.prog w0 45 ([(.bool x0)]).toArray K h := EvC_intro (P := Go.Proofs.Try.prog) f45_J (Eq.mp (by kernel_rfl) hv)
def f48_J : Nat → List Nat × Nat := jOf []



theorem f48_go {w0 : World} {K : Value → AH → Prop} (x0 : Int) (x1 : Bool) (h : AH)
  (hv : (brB x1 (K (Go.Value.int .i64 (10 : Int)) h) (K (Go.Value.int .i64 x0) h))) :
  EvC Go.Proofs.Try.prog w0 48 ([(.int .i64 x0), (.bool x1)]).toArray K h := EvC_intro (P := Go.Proofs.Try.prog) f48_J (Eq.mp (by kernel_rfl) hv)
theorem f43_spec {w0 : World} {K : Value → AH → Prop} {h : AH} {g : Bool} {e : Int} (hk : K (.int .i64 (endS g e)) h) : EvC Go.Proofs.Try.prog w0 43 #[.bool g, .int .i64 e] K h :=
  f43_go _ _ _ (brB_of (fun q => by subst q; exact hk) fun q => by subst q; exact hk)
theorem f45_spec {w0 : World} {K : Value → AH → Prop} {h : AH} {g : Bool} (hk : K (.int .i64 (endS g 0)) h) : EvC Go.Proofs.Try.prog w0 45 #[.bool g] K h :=
  f45_go _ _ (brB_of (fun q => by subst q; exact hk) fun q => by subst q; exact hk)
theorem f48_spec {w0 : World} {K : Value → AH → Prop} {h : AH} {g : Bool} {e : Int} (hk : K (.int .i64 (endS g e)) h) : EvC Go.Proofs.Try.prog w0 48 #[.int .i64 e, .bool g] K h :=
  f48_go _ _ _ (brB_of (fun q => by subst q; exact hk) fun q => by subst q; exact hk)
def f41_J : Nat → List Nat × Nat := jOf [(3, [1, 2, 3, 4, 5, 6, 7, 8, 9, 10, 11, 12, 13, 14, 15, 16, 17, 18, 19, 20, 21, 22, 23, 24, 25, 26, 27, 28, 29, 30, 31, 32, 33, 34, 35, 36, 37, 38, 39, 40, 41, 42, 43, 44, 45, 46, 47, 48, 49, 50, 51, 52, 53, 54, 55, 56, 57, 58, 59, 60, 61, 62, 63, 64, 65, 66, 67, 68, 69, 70, 71, 72, 73, 74, 75, 76, 77, 78, 79, 80], 0), (6, [1, 2, 3, 5, 6, 7, 8, 9, 10, 11, 12, 13, 14, 15, 16, 17, 18, 19, 20, 21, 22, 23, 24, 25, 26, 27, 28, 29, 30, 31, 32, 33, 34, 35, 36, 37, 38, 39, 40, 41, 42, 43, 44, 45, 46, 47, 48, 49, 50, 51, 52, 53, 54, 55, 56, 57, 58, 59, 60, 61, 62, 63, 64, 65, 66, 67, 68, 69, 70, 71, 72, 73, 74, 75, 76, 77, 78, 79, 80], 0), (10, [1, 2, 3, 5, 6, 7, 8, 9, 10, 11, 12, 13, 14, 15, 16, 17, 18, 19, 20, 21, 22, 23, 24, 25, 26, 27, 28, 29, 30, 31, 32, 33, 34, 35, 36, 37, 38, 39, 40, 41, 42, 43, 44, 45, 46, 47, 48, 49, 50, 51, 52, 53, 54, 55, 56, 57, 58, 59, 60, 61, 62, 63, 64, 65, 66, 67, 68, 69, 70, 71, 72, 73, 74, 75, 76, 77, 78, 79, 80], 0), (13, [1, 2, 3, 6, 7, 8, 9, 10, 11, 12, 13, 14, 15, 16, 17, 18, 19, 20, 21, 22, 23, 24, 25, 26, 27, 28, 29, 30, 31, 32, 33, 34, 35, 36, 37, 38, 39, 40, 41, 42, 43, 44, 45, 46, 47, 48, 49, 50, 51, 52, 53, 54, 55, 56, 57, 58, 59, 60, 61, 62, 63, 64, 65, 66, 67, 68, 69, 70, 71, 72, 73, 75, 76, 77, 78, 79, 80], 0), (14, [1, 2, 3, 6, 7, 8, 9, 10, 11, 12, 13, 14, 15, 16, 17, 18, 19, 20, 21, 22, 23, 24, 25, 26, 27, 28, 29, 30, 31, 32, 33, 34, 35, 36, 37, 38, 39, 40, 41, 42, 43, 44, 45, 46, 47, 48, 49, 50, 51, 52, 53, 54, 55, 56, 57, 58, 59, 60, 61, 62, 63, 64, 65, 66, 67, 68, 69, 70, 71, 72, 73, 74, 75, 76, 77, 78, 79, 80], 0)]

def f41_3 (w0 : World) (K : Value → AH → Prop) (x0 : Option Go.Addr) (h : AH) : Prop :=
  ∀ j : Nat → Value, LPk Go.Proofs.Try.prog w0 (EvC Go.Proofs.Try.prog w0) f41_J 41 K 3 [.v (.pointer x0), .v (j 1), .v (j 2), .v (j 3), .v (j 4), .v (j 5), .v (j 6), .v (j 7), .v (j 8), .v (j 9), .v (j 10), .v (j 11), .v (j 12), .v (j 13), .v (j 14), .v (j 15), .v (j 16), .v (j 17), .v (j 18), .v (j 19), .v (j 20), .v (j 21), .v (j 22), .v (j 23), .v (j 24), .v (j 25), .v (j 26), .v (j 27), .v (j 28), .v (j 29), .v (j 30), .v (j 31), .v (j 32), .v (j 33), .v (j 34), .v (j 35), .v (j 36), .v (j 37), .v (j 38), .v (j 39), .v (j 40), .v (j 41), .v (j 42), .v (j 43), .v (j 44), .v (j 45), .v (j 46), .v (j 47), .v (j 48), .v (j 49), .v (j 50), .v (j 51), .v (j 52), .v (j 53), .v (j 54), .v (j 55), .v (j 56), .v (j 57), .v (j 58), .v (j 59), .v (j 60), .v (j 61), .v (j 62), .v (j 63), .v (j 64), .v (j 65), .v (j 66), .v (j 67), .v (j 68), .v (j 69), .v (j 70), .v (j 71), .v (j 72), .v (j 73), .v (j 74), .v (j 75), .v (j 76), .v (j 77), .v (j 78), .v (j 79), .v (j 80)] [] h

def f41_6 (w0 : World) (K : Value → AH → Prop) (x0 : Option Go.Addr) (x4 : Bool) (h : AH) : Prop :=
  ∀ j : Nat → Value, LPk Go.Proofs.Try.prog w0 (EvC Go.Proofs.Try.prog w0) f41_J 41 K 6 [.v (.pointer x0), .v (j 1), .v (j 2), .v (j 3), .v (.bool x4), .v (j 5), .v (j 6), .v (j 7), .v (j 8), .v (j 9), .v (j 10), .v (j 11), .v (j 12), .v (j 13), .v (j 14), .v (j 15), .v (j 16), .v (j 17), .v (j 18), .v (j 19), .v (j 20), .v (j 21), .v (j 22), .v (j 23), .v (j 24), .v (j 25), .v (j 26), .v (j 27), .v (j 28), .v (j 29), .v (j 30), .v (j 31), .v (j 32), .v (j 33), .v (j 34), .v (j 35), .v (j 36), .v (j 37), .v (j 38), .v (j 39), .v (j 40), .v (j 41), .v (j 42), .v (j 43), .v (j 44), .v (j 45), .v (j 46), .v (j 47), .v (j 48), .v (j 49), .v (j 50), .v (j 51), .v (j 52), .v (j 53), .v (j 54), .v (j 55), .v (j 56), .v (j 57), .v (j 58), .v (j 59), .v (j 60), .v (j 61), .v (j 62), .v (j 63), .v (j 64), .v (j 65), .v (j 66), .v (j 67), .v (j 68), .v (j 69), .v (j 70), .v (j 71), .v (j 72), .v (j 73), .v (j 74), .v (j 75), .v (j 76), .v (j 77), .v (j 78), .v (j 79), .v (j 80)] [] h

def f41_10 (w0 : World) (K : Value → AH → Prop) (x0 : Option Go.Addr) (x4 : Bool) (h : AH) : Prop :=
  ∀ j : Nat → Value, LPk Go.Proofs.Try.prog w0 (EvC Go.Proofs.Try.prog w0) f41_J 41 K 10 [.v (.pointer x0), .v (j 1), .v (j 2), .v (j 3), .v (.bool x4), .v (j 5), .v (j 6), .v (j 7), .v (j 8), .v (j 9), .v (j 10), .v (j 11), .v (j 12), .v (j 13), .v (j 14), .v (j 15), .v (j 16), .v (j 17), .v (j 18), .v (j 19), .v (j 20), .v (j 21), .v (j 22), .v (j 23), .v (j 24), .v (j 25), .v (j 26), .v (j 27), .v (j 28), .v (j 29), .v (j 30), .v (j 31), .v (j 32), .v (j 33), .v (j 34), .v (j 35), .v (j 36), .v (j 37), .v (j 38), .v (j 39), .v (j 40), .v (j 41), .v (j 42), .v (j 43), .v (j 44), .v (j 45), .v (j 46), .v (j 47), .v (j 48), .v (j 49), .v (j 50), .v (j 51), .v (j 52), .v (j 53), .v (j 54), .v (j 55), .v (j 56), .v (j 57), .v (j 58), .v (j 59), .v (j 60), .v (j 61), .v (j 62), .v (j 63), .v (j 64), .v (j 65), .v (j 66), .v (j 67), .v (j 68), .v (j 69), .v (j 70), .v (j 71), .v (j 72), .v (j 73), .v (j 74), .v (j 75), .v (j 76), .v (j 77), .v (j 78), .v (j 79), .v (j 80)] [] h

def f41_13 (w0 : World) (K : Value → AH → Prop) (x0 : Option Go.Addr) (x4 : Bool) (x5 : Bool) (x74 : Bool) (h : AH) : Prop :=
  ∀ j : Nat → Value, LPk Go.Proofs.Try.prog w0 (EvC Go.Proofs.Try.prog w0) f41_J 41 K 13 [.v (.pointer x0), .v (j 1), .v (j 2), .v (j 3), .v (.bool x4), .v (.bool x5), .v (j 6), .v (j 7), .v (j 8), .v (j 9), .v (j 10), .v (j 11), .v (j 12), .v (j 13), .v (j 14), .v (j 15), .v (j 16), .v (j 17), .v (j 18), .v (j 19), .v (j 20), .v (j 21), .v (j 22), .v (j 23), .v (j 24), .v (j 25), .v (j 26), .v (j 27), .v (j 28), .v (j 29), .v (j 30), .v (j 31), .v (j 32), .v (j 33), .v (j 34), .v (j 35), .v (j 36), .v (j 37), .v (j 38), .v (j 39), .v (j 40), .v (j 41), .v (j 42), .v (j 43), .v (j 44), .v (j 45), .v (j 46), .v (j 47), .v (j 48), .v (j 49), .v (j 50), .v (j 51), .v (j 52), .v (j 53), .v (j 54), .v (j 55), .v (j 56), .v (j 57), .v (j 58), .v (j 59), .v (j 60), .v (j 61), .v (j 62), .v (j 63), .v (j 64), .v (j 65), .v (j 66), .v (j 67), .v (j 68), .v (j 69), .v (j 70), .v (j 71), .v (j 72), .v (j 73), .v (.bool x74), .v (j 75), .v (j 76), .v (j 77), .v (j 78), .v (j 79), .v (j 80)] [] h

def f41_14 (w0 : World) (K : Value → AH → Prop) (x0 : Option Go.Addr) (x4 : Bool) (x5 : Bool) (h : AH) : Prop :=
  ∀ j : Nat → Value, LPk Go.Proofs.Try.prog w0 (EvC Go.Proofs.Try.prog w0) f41_J 41 K 14 [.v (.pointer x0), .v (j 1), .v (j 2), .v (j 3), .v (.bool x4), .v (.bool x5), .v (j 6), .v (j 7), .v (j 8), .v (j 9), .v (j 10), .v (j 11), .v (j 12), .v (j 13), .v (j 14), .v (j 15), .v (j 16), .v (j 17), .v (j 18), .v (j 19), .v (j 20), .v (j 21), .v (j 22), .v (j 23), .v (j 24), .v (j 25), .v (j 26), .v (j 27), .v (j 28), .v (j 29), .v (j 30), .v (j 31), .v (j 32), .v (j 33), .v (j 34), .v (j 35), .v (j 36), .v (j 37), .v (j 38), .v (j 39), .v (j 40), .v (j 41), .v (j 42), .v (j 43), .v (j 44), .v (j 45), .v (j 46), .v (j 47), .v (j 48), .v (j 49), .v (j 50), .v (j 51), .v (j 52), .v (j 53), .v (j 54), .v (j 55), .v (j 56), .v (j 57), .v (j 58), .v (j 59), .v (j 60), .v (j 61), .v (j 62), .v (j 63), .v (j 64), .v (j 65), .v (j 66), .v (j 67), .v (j 68), .v (j 69), .v (j 70), .v (j 71), .v (j 72), .v (j 73), .v (j 74), .v (j 75), .v (j 76), .v (j 77), .v (j 78), .v (j 79), .v (j 80)] [] h

theorem f41_3_in {w0 : World} {K : Value → AH → Prop} (x0 : Option Go.Addr) (h : AH)
  (hv : (∃ a'7 : Go.Addr, ((x0 = (some a'7)) ∧ (∃ t'8 : Bool, (((Go.G.cellA w0 h (Go.Addr.add a'7 4)) = (some (Go.Value.bool t'8))) ∧ (brB t'8 (K (Go.Value.tuple #[(Go.Value.int .i64 (10 : Int)), (Go.Value.bool false)]) h) (∃ a'9 : Go.Addr, ((x0 = (some a'9)) ∧ (∃ i'10 : Int, (((Go.G.cellA w0 h (Go.Addr.add a'9 8)) = (some (Go.Value.int .i64 i'10))) ∧ (brB (decide (((0 : Int) < i'10))) (∃ a'11 : Go.Addr, ((x0 = (some a'11)) ∧ (∃ i'12 : Int, (((Go.G.cellA w0 h (Go.Addr.add a'11 7)) = (some (Go.Value.int .i64 i'12))) ∧ (f41_6 w0 K x0 (decide ((i'12 ≤ (1 : Int)))) h))))) (f41_6 w0 K x0 false h)))))))))))) :
  f41_3 w0 K x0 h := fun j => LP_intro (P := Go.Proofs.Try.prog) (Eq.mp (by kernel_rfl) hv)

theorem f41_6_in {w0 : World} {K : Value → AH → Prop} (x0 : Option Go.Addr) (x4 : Bool) (h : AH)
  (hv : (brB x4 (∃ a'13 : Go.Addr, ((x0 = (some a'13)) ∧ (∃ i'14 : Int, (((Go.G.cellA w0 h (Go.Addr.add a'13 8)) = (some (Go.Value.int .i64 i'14))) ∧ (∃ a'15 : Go.Addr, ((x0 = (some a'15)) ∧ (∃ l'16 : List Go.Value, (∃ n'17 : Nat, (((Array.size (Go.World.heap w0)) ≤ (Go.Addr.block (Go.Addr.add a'15 8))) ∧ (((none : Option Nat) = none) ∧ (((h (Go.Addr.block (Go.Addr.add a'15 8))) = (some (Go.G.AB.cells l'16 n'17))) ∧ ((((Go.Addr.off (Go.Addr.add a'15 8)) + (Array.size #[(Go.Value.int .i64 (Go.IntKind.wrap .i64 (i'14 - (1 : Int))))])) ≤ (List.length l'16)) ∧ (f41_10 w0 K x0 x4 (Go.G.AH.put h (Go.Addr.block (Go.Addr.add a'15 8)) (Go.G.AB.cells (Go.G.setCells l'16 (Go.Addr.off (Go.Addr.add a'15 8)) [(Go.Value.int .i64 (Go.IntKind.wrap .i64 (i'14 - (1 : Int))))]) n'17))))))))))))))) (∃ a'18 : Go.Addr, ((x0 = (some a'18)) ∧ (∃ i'19 : Int, (((Go.G.cellA w0 h (Go.Addr.add a'18 8)) = (some (Go.Value.int .i64 i'19))) ∧ (brB (decide (((0 : Int) < i'19))) (∃ a'20 : Go.Addr, ((x0 = (some a'20)) ∧ (∃ i'21 : Int, (((Go.G.cellA w0 h (Go.Addr.add a'20 7)) = (some (Go.Value.int .i64 i'21))) ∧ (∃ a'22 : Go.Addr, ((x0 = (some a'22)) ∧ (∃ l'23 : List Go.Value, (∃ n'24 : Nat, (((Array.size (Go.World.heap w0)) ≤ (Go.Addr.block (Go.Addr.add a'22 7))) ∧ (((none : Option Nat) = none) ∧ (((h (Go.Addr.block (Go.Addr.add a'22 7))) = (some (Go.G.AB.cells l'23 n'24))) ∧ ((((Go.Addr.off (Go.Addr.add a'22 7)) + (Array.size #[(Go.Value.int .i64 (Go.IntKind.wrap .i64 (i'21 - (1 : Int))))])) ≤ (List.length l'23)) ∧ (f41_10 w0 K x0 x4 (Go.G.AH.put h (Go.Addr.block (Go.Addr.add a'22 7)) (Go.G.AB.cells (Go.G.setCells l'23 (Go.Addr.off (Go.Addr.add a'22 7)) [(Go.Value.int .i64 (Go.IntKind.wrap .i64 (i'21 - (1 : Int))))]) n'24))))))))))))))) (f41_10 w0 K x0 x4 h)))))))) :
  f41_6 w0 K x0 x4 h := fun j => LP_intro (P := Go.Proofs.Try.prog) (Eq.mp (by kernel_rfl) hv)

theorem f41_10_in {w0 : World} {K : Value → AH → Prop} (x0 : Option Go.Addr) (x4 : Bool) (h : AH)
  (hv : (∃ a'25 : Go.Addr, ((x0 = (some a'25)) ∧ (∃ i'26 : Int, (((Go.G.cellA w0 h (Go.Addr.add a'25 6)) = (some (Go.Value.int .i64 i'26))) ∧ (∃ a'27 : Go.Addr, ((x0 = (some a'27)) ∧ (∃ i'28 : Int, (((Go.G.cellA w0 h (Go.Addr.add a'27 6)) = (some (Go.Value.int .i64 i'28))) ∧ (∃ a'29 : Go.Addr, ((x0 = (some a'29)) ∧ (∃ l'30 : List Go.Value, (∃ n'31 : Nat, (((Array.size (Go.World.heap w0)) ≤ (Go.Addr.block (Go.Addr.add a'29 6))) ∧ (((none : Option Nat) = none) ∧ (((h (Go.Addr.block (Go.Addr.add a'29 6))) = (some (Go.G.AB.cells l'30 n'31))) ∧ ((((Go.Addr.off (Go.Addr.add a'29 6)) + (Array.size #[(Go.Value.int .i64 (if ((0 : Int) < (Go.IntKind.wrap .i64 (i'28 - (1 : Int)))) then (Go.IntKind.wrap .i64 (i'28 - (1 : Int))) else (0 : Int)))])) ≤ (List.length l'30)) ∧ (brB x4 (f41_13 w0 K x0 x4 (i'26 == (1 : Int)) (!(i'26 == (1 : Int))) (Go.G.AH.put h (Go.Addr.block (Go.Addr.add a'29 6)) (Go.G.AB.cells (Go.G.setCells l'30 (Go.Addr.off (Go.Addr.add a'29 6)) [(Go.Value.int .i64 (if ((0 : Int) < (Go.IntKind.wrap .i64 (i'28 - (1 : Int)))) then (Go.IntKind.wrap .i64 (i'28 - (1 : Int))) else (0 : Int)))]) n'31))) (f41_13 w0 K x0 x4 (i'26 == (1 : Int)) false (Go.G.AH.put h (Go.Addr.block (Go.Addr.add a'29 6)) (Go.G.AB.cells (Go.G.setCells l'30 (Go.Addr.off (Go.Addr.add a'29 6)) [(Go.Value.int .i64 (if ((0 : Int) < (Go.IntKind.wrap .i64 (i'28 - (1 : Int)))) then (Go.IntKind.wrap .i64 (i'28 - (1 : Int))) else (0 : Int)))]) n'31))))))))))))))))))))) :
  f41_10 w0 K x0 x4 h := fun j => LP_intro (P := Go.Proofs.Try.prog) (Eq.mp (by kernel_rfl) hv)

theorem f41_13_in {w0 : World} {K : Value → AH → Prop} (x0 : Option Go.Addr) (x4 : Bool) (x5 : Bool) (x74 : Bool) (h : AH)
  (hv : (brB x74 (K (Go.Value.tuple #[(Go.Value.int .i64 (9 : Int)), (Go.Value.bool false)]) h) (f41_14 w0 K x0 x4 x5 h))) :
  f41_13 w0 K x0 x4 x5 x74 h := fun j => LP_intro (P := Go.Proofs.Try.prog) (Eq.mp (by kernel_rfl) hv)

theorem f41_14_in {w0 : World} {K : Value → AH → Prop} (x0 : Option Go.Addr) (x4 : Bool) (x5 : Bool) (h : AH)
  (hv : (∃ a'32 : Go.Addr, ((x0 = (some a'32)) ∧ (∃ l'33 : List Go.Value, (∃ n'34 : Nat, (((Array.size (Go.World.heap w0)) ≤ (Go.Addr.block (Go.Addr.add a'32 4))) ∧ (((none : Option Nat) = none) ∧ (((h (Go.Addr.block (Go.Addr.add a'32 4))) = (some (Go.G.AB.cells l'33 n'34))) ∧ ((((Go.Addr.off (Go.Addr.add a'32 4)) + (Array.size #[(Go.Value.bool x5)])) ≤ (List.length l'33)) ∧ (brB x4 (K (Go.Value.tuple #[(Go.Value.int .i64 (10 : Int)), (Go.Value.bool true)]) (Go.G.AH.put h (Go.Addr.block (Go.Addr.add a'32 4)) (Go.G.AB.cells (Go.G.setCells l'33 (Go.Addr.off (Go.Addr.add a'32 4)) [(Go.Value.bool x5)]) n'34))) (K (Go.Value.tuple #[(Go.Value.int .i64 (0 : Int)), (Go.Value.bool x5)]) (Go.G.AH.put h (Go.Addr.block (Go.Addr.add a'32 4)) (Go.G.AB.cells (Go.G.setCells l'33 (Go.Addr.off (Go.Addr.add a'32 4)) [(Go.Value.bool x5)]) n'34))))))))))))) :
  f41_14 w0 K x0 x4 x5 h := fun j => LP_intro (P := Go.Proofs.Try.prog) (Eq.mp (by kernel_rfl) hv)

theorem f41_go {w0 : World} {K : Value → AH → Prop} (x0 : Option Go.Addr) (h : AH)
  (hv : (∃ a'0 : Go.Addr, ((x0 = (some a'0)) ∧ (∃ i'1 : Int, (((Go.G.cellA w0 h (Go.Addr.add a'0 5)) = (some (Go.Value.int .i64 i'1))) ∧ (brB (decide ((i'1 < (4611686018427387904 : Int)))) (∃ a'2 : Go.Addr, ((x0 = (some a'2)) ∧ (∃ i'3 : Int, (((Go.G.cellA w0 h (Go.Addr.add a'2 5)) = (some (Go.Value.int .i64 i'3))) ∧ (∃ a'4 : Go.Addr, ((x0 = (some a'4)) ∧ (∃ l'5 : List Go.Value, (∃ n'6 : Nat, (((Array.size (Go.World.heap w0)) ≤ (Go.Addr.block (Go.Addr.add a'4 5))) ∧ (((none : Option Nat) = none) ∧ (((h (Go.Addr.block (Go.Addr.add a'4 5))) = (some (Go.G.AB.cells l'5 n'6))) ∧ ((((Go.Addr.off (Go.Addr.add a'4 5)) + (Array.size #[(Go.Value.int .i64 (Go.IntKind.wrap .i64 (i'3 + (1 : Int))))])) ≤ (List.length l'5)) ∧ (f41_3 w0 K x0 (Go.G.AH.put h (Go.Addr.block (Go.Addr.add a'4 5)) (Go.G.AB.cells (Go.G.setCells l'5 (Go.Addr.off (Go.Addr.add a'4 5)) [(Go.Value.int .i64 (Go.IntKind.wrap .i64 (i'3 + (1 : Int))))]) n'6))))))))))))))) (f41_3 w0 K x0 h))))))) :
  EvC Go.Proofs.Try.prog w0 41 ([(.pointer x0)]).toArray K h := EvC_intro (P := Go.Proofs.Try.prog) f41_J (Eq.mp (by kernel_rfl) hv)
theorem wrapI {x : Int} (h1 : -9223372036854775808 ≤ x) (h2 : x ≤ 9223372036854775807) : IntKind.i64.wrap x = x := wrap64 h1 h2

theorem f41_14s {w0 : World} {K : Value → AH → Prop} {h : AH} {B : List (Nat × AB)} {bd m n l c : Nat} {r ca fu wa fa : Int} {a : Option Addr} {off x4 x5 : Bool}
    (w : Own w0 h ((bd, .cells (pc r m n a l c off ca fu wa fa) 9) :: B))
    (hk : ∀ h', Own w0 h' ((bd, .cells (pc r m n a l c x5 ca fu wa fa) 9) :: B) → K (if x4 then .tuple #[.int .i64 10, .bool true] else .tuple #[.int .i64 0, .bool x5]) h') :
    f41_14 w0 K (some ⟨bd, 0, none⟩) x4 x5 h := by
  refine f41_14_in _ _ _ _ ⟨_, rfl, _, 9, w.ge, rfl, w.hd, by simp [pc, Addr.add], brB_of (fun q => ?_) fun q => ?_⟩
  · subst q; exact hk _ w.put
  · subst q; exact hk _ w.put
theorem f41_13s {w0 : World} {K : Value → AH → Prop} {h : AH} {B : List (Nat × AB)} {bd m n l c : Nat} {r ca fu wa fa : Int} {a : Option Addr} {off x4 x5 x74 : Bool}
    (w : Own w0 h ((bd, .cells (pc r m n a l c off ca fu wa fa) 9) :: B)) (h1 : x74 = true → K (.tuple #[.int .i64 9, .bool false]) h)
    (hk : x74 = false → ∀ h', Own w0 h' ((bd, .cells (pc r m n a l c x5 ca fu wa fa) 9) :: B) → K (if x4 then .tuple #[.int .i64 10, .bool true] else .tuple #[.int .i64 0, .bool x5]) h') :
    f41_13 w0 K (some ⟨bd, 0, none⟩) x4 x5 x74 h :=
  f41_13_in _ _ _ _ _ (brB_of (fun q => h1 q) fun q => f41_14s w (hk q))
theorem f41_10s {w0 : World} {K : Value → AH → Prop} {h : AH} {B : List (Nat × AB)} {bd m n l c : Nat} {r ca fu wa fa : Int} {a : Option Addr} {off x4 : Bool}
    (w : Own w0 h ((bd, .cells (pc r m n a l c off ca fu wa fa) 9) :: B)) (hf : 0 ≤ fu ∧ fu ≤ 9223372036854775807)
    (h1 : x4 = true → (fu == 1) = false → ∀ h', Own w0 h' ((bd, .cells (pc r m n a l c off ca (if 0 < fu then fu - 1 else 0) wa fa) 9) :: B) → K (.tuple #[.int .i64 9, .bool false]) h')
    (hk : ¬ (x4 = true ∧ (fu == 1) = false) → ∀ h', Own w0 h' ((bd, .cells (pc r m n a l c (fu == 1) ca (if 0 < fu then fu - 1 else 0) wa fa) 9) :: B) → K (if x4 then .tuple #[.int .i64 10, .bool true] else .tuple #[.int .i64 0, .bool (fu == 1)]) h') :
    f41_10 w0 K (some ⟨bd, 0, none⟩) x4 h := by
  have e : (if (0 : Int) < IntKind.i64.wrap (fu - 1) then IntKind.i64.wrap (fu - 1) else 0) = if 0 < fu then fu - 1 else 0 := by
    rw [wrapI (by omega) (by omega)]; split <;> split <;> omega
  refine f41_10_in _ _ _ ⟨_, rfl, _, w.cell0 rfl, _, rfl, _, w.cell0 rfl, _, rfl, _, 9, w.ge, rfl, w.hd, by simp [pc, Addr.add], ?_⟩
  rw [e]
  have w' : Own w0 (h.put bd (.cells (pc r m n a l c off ca (if 0 < fu then fu - 1 else 0) wa fa) 9)) ((bd, .cells (pc r m n a l c off ca (if 0 < fu then fu - 1 else 0) wa fa) 9) :: B) := w.put
  refine brB_of (fun q => ?_) fun q => ?_
  · refine f41_13s w' (fun q2 => h1 q (by simpa using q2) _ w') fun q2 h' w2 => hk (fun q3 => ?_) h' w2
    simp [q3.2] at q2
  · subst q
    exact f41_13s w' (fun q2 => (by cases q2)) fun _ h' w2 => hk (fun q3 => by cases q3.1) h' w2

/-- begin. -/
theorem f41_spec {w0 : World} {K : Value → AH → Prop} {h : AH} {B : List (Nat × AB)} {s : Ds} {D : PD} (w : Own w0 h ((D.bd, .cells (pcells s D) 9) :: B)) (o : s.Ok) (hc : s.calls < 1099511627776)
    (hk : ∀ h', Own w0 h' ((D.bd, .cells (pcells (callS s).2.2 D) 9) :: B) → K (.tuple #[.int .i64 (callS s).1, .bool (callS s).2.1]) h') :
    EvC Go.Proofs.Try.prog w0 41 #[.pointer (some ⟨D.bd, 0, none⟩)] K h := by
  have oc := o.calls
  have of := o.fuse
  have ow := o.wait
  have oa := o.fails
  refine f41_go _ _ ⟨_, rfl, _, w.cell0 rfl, brB_of (fun q => ⟨_, rfl, _, w.cell0 rfl, _, rfl, _, 9, w.ge, rfl, w.hd, by simp [pcells, pc, Addr.add], ?_⟩) fun q => by simp at q; omega⟩
  rw [wrapI (by omega) (by omega)]
  have w1 : Own w0 (h.put D.bd (.cells (pc s.room D.md D.ms D.ra D.row.length D.rc s.off (s.calls + 1) s.fuse s.wait s.fails) 9)) ((D.bd, .cells (pc s.room D.md D.ms D.ra D.row.length D.rc s.off (s.calls + 1) s.fuse s.wait s.fails) 9) :: B) := w.put
  refine f41_3_in _ _ ⟨_, rfl, _, w1.cell0 rfl, brB_of (fun q => ?_) fun q => ⟨_, rfl, _, w1.cell0 rfl, ?_⟩⟩
  · have e : callS s = (10, false, { s with calls := s.calls + 1 }) := by unfold callS; rw [if_pos q]
    rw [e] at hk
    exact hk _ w1
  have main : ∀ x4, x4 = failing s → ∀ h1, Own w0 h1 ((D.bd, .cells (pc s.room D.md D.ms D.ra D.row.length D.rc s.off (s.calls + 1) s.fuse s.wait s.fails) 9) :: B) → f41_6 w0 K (some ⟨D.bd, 0, none⟩) x4 h1 := fun x4 hx h1 w1 => by
    have last : ∀ h2, Own w0 h2 ((D.bd, .cells (pc s.room D.md D.ms D.ra D.row.length D.rc s.off (s.calls + 1) s.fuse (tickS s).wait (tickS s).fails) 9) :: B) → f41_10 w0 K (some ⟨D.bd, 0, none⟩) x4 h2 := fun h2 w2 => by
      refine f41_10s w2 of (fun q1 q2 h' w' => ?_) fun q1 h' w' => ?_
      · rw [hx] at q1
        have e : callS s = (9, false, tickS s) := by unfold callS; rw [if_neg (by simp [q]), if_pos q1, if_neg (by simp [q2])]
        rw [e] at hk
        exact hk _ w'
      · cases hq : failing s with
        | true =>
          rw [hx, hq] at q1 ⊢
          have q2 : (s.fuse == 1) = true := by
            cases hz : s.fuse == 1 with
            | true => rfl
            | false => exact absurd ⟨rfl, hz⟩ q1
          rw [q2] at w'
          have e : callS s = (10, true, { tickS s with off := true }) := by unfold callS; rw [if_neg (by simp [q]), if_pos hq, if_pos q2]
          rw [e] at hk
          exact hk _ w'
        | false =>
          rw [hx, hq]
          have e : callS s = (0, s.fuse == 1, { tickS s with off := s.fuse == 1 }) := by unfold callS; rw [if_neg (by simp [q]), if_neg (by simp [hq])]
          rw [e] at hk
          exact hk _ w'
    refine f41_6_in _ _ _ (brB_of (fun qf => ⟨_, rfl, _, w1.cell0 rfl, _, rfl, _, 9, w1.ge, rfl, w1.hd, by simp [pc, Addr.add], ?_⟩) fun qf => ⟨_, rfl, _, w1.cell0 rfl, brB_of (fun qg => ⟨_, rfl, _, w1.cell0 rfl, _, rfl, _, 9, w1.ge, rfl, w1.hd, by simp [pc, Addr.add], ?_⟩) fun qg => ?_⟩)
    · have hf : failing s = true := by rw [← hx]; exact qf
      have hf' : 0 < s.fails := by unfold failing at hf; simp at hf; exact hf.1
      rw [wrapI (by omega) (by omega)]
      refine last _ ?_
      have e1 : (tickS s).wait = s.wait := by unfold tickS; simp [hf]
      have e2 : (tickS s).fails = s.fails - 1 := by unfold tickS; simp [hf]
      rw [e1, e2]
      exact w1.put
    · have hf : failing s = false := by rw [← hx]; exact qf
      have hg : 0 < s.fails := by simpa using qg
      rw [wrapI (by omega) (by omega)]
      refine last _ ?_
      have e1 : (tickS s).wait = s.wait - 1 := by unfold tickS; simp [hf, hg]
      have e2 : (tickS s).fails = s.fails := by unfold tickS; simp [hf]
      rw [e1, e2]
      exact w1.put
    · have hf : failing s = false := by rw [← hx]; exact qf
      have hg : ¬ 0 < s.fails := by simpa using qg
      refine last _ ?_
      have e1 : (tickS s).wait = s.wait := by unfold tickS; simp [hg]
      have e2 : (tickS s).fails = s.fails := by unfold tickS; simp [hf]
      rw [e1, e2]
      exact w1
  refine brB_of (fun q2 => ⟨_, rfl, _, w1.cell0 rfl, ?_⟩) fun q2 => ?_
  · refine main _ ?_ _ w1
    unfold failing
    simp at q2
    simp [q2]
  · refine main _ ?_ _ w1
    unfold failing
    simp at q2
    simp; omega
end Go.G.Ytpjklfmfgmicaaa
