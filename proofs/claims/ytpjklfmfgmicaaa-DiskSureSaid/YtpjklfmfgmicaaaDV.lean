/- The document's other calls. -/
import Derived.Test.YtpjklfmfgmicaaaDS
import Derived.Test.YtpjklfmfgmicaaaProg
set_option maxRecDepth 100000
namespace Go.G.Ytpjklfmfgmicaaa
open Go.RowKit
def f59_J : Nat → List Nat × Nat := jOf [(3, [2, 3, 4, 7, 8, 9, 10, 11, 12, 13, 14, 15, 16, 18, 19, 20, 21, 22, 23, 24, 25, 26, 27, 28, 29, 30, 31, 32, 33], 0), (4, [2, 3, 4, 5, 6, 7, 8, 9, 10, 11, 12, 13, 14, 15, 16, 17, 18, 19, 20, 21, 22, 23, 24, 25, 26, 27, 28, 29, 30, 31, 32, 33], 0)]

def f59_3 (w0 : World) (K : Value → AH → Prop) (x0 : Option Go.Addr) (x1 : ByteArray) (x5 : Int) (x6 : Bool) (x17 : Bool) (h : AH) : Prop :=
  ∀ j : Nat → Value, LPk Go.Proofs.Try.prog w0 (EvC Go.Proofs.Try.prog w0) f59_J 59 K 3 [.v (.pointer x0), .v (.string x1), .v (j 2), .v (j 3), .v (j 4), .v (.int .i64 x5), .v (.bool x6), .v (j 7), .v (j 8), .v (j 9), .v (j 10), .v (j 11), .v (j 12), .v (j 13), .v (j 14), .v (j 15), .v (j 16), .v (.bool x17), .v (j 18), .v (j 19), .v (j 20), .v (j 21), .v (j 22), .v (j 23), .v (j 24), .v (j 25), .v (j 26), .v (j 27), .v (j 28), .v (j 29), .v (j 30), .v (j 31), .v (j 32), .v (j 33)] [] h

def f59_4 (w0 : World) (K : Value → AH → Prop) (x0 : Option Go.Addr) (x1 : ByteArray) (h : AH) : Prop :=
  ∀ j : Nat → Value, LPk Go.Proofs.Try.prog w0 (EvC Go.Proofs.Try.prog w0) f59_J 59 K 4 [.v (.pointer x0), .v (.string x1), .v (j 2), .v (j 3), .v (j 4), .v (j 5), .v (j 6), .v (j 7), .v (j 8), .v (j 9), .v (j 10), .v (j 11), .v (j 12), .v (j 13), .v (j 14), .v (j 15), .v (j 16), .v (j 17), .v (j 18), .v (j 19), .v (j 20), .v (j 21), .v (j 22), .v (j 23), .v (j 24), .v (j 25), .v (j 26), .v (j 27), .v (j 28), .v (j 29), .v (j 30), .v (j 31), .v (j 32), .v (j 33)] [] h

theorem f59_3_in {w0 : World} {K : Value → AH → Prop} (x0 : Option Go.Addr) (x1 : ByteArray) (x5 : Int) (x6 : Bool) (x17 : Bool) (h : AH)
  (hv : (brB x17 (EvC Go.Proofs.Try.prog w0 48 #[(Go.Value.int .i64 x5), (Go.Value.bool x6)] (fun x'4 h'5 => (∃ i'6 : Int, ((x'4 = (Go.Value.int .i64 i'6)) ∧ (K (Go.Value.int .i64 i'6) h'5)))) h) (f59_4 w0 K x0 x1 h))) :
  f59_3 w0 K x0 x1 x5 x6 x17 h := fun j => LP_intro (P := Go.Proofs.Try.prog) (Eq.mp (by kernel_rfl) hv)

theorem f59_4_in {w0 : World} {K : Value → AH → Prop} (x0 : Option Go.Addr) (x1 : ByteArray) (h : AH)
  (hv : (EvC Go.Proofs.Try.prog w0 49 #[(Go.Value.pointer x0), (Go.Value.string x1)] (fun x'7 h'8 => (∃ p'9 : Option Go.Addr, ((x'7 = (Go.Value.pointer p'9)) ∧ (brB (Option.isNone p'9) (K (Go.Value.int .i64 (7 : Int)) h'8) (∃ a'10 : Go.Addr, ((p'9 = (some a'10)) ∧ (∃ p'11 : Option Go.Addr, (∃ n'12 : Nat, (∃ n'13 : Nat, (((Go.G.cellA w0 h'8 (Go.Addr.add a'10 0)) = (some (Go.Value.slice p'11 n'12 n'13))) ∧ (∃ a'14 : Go.Addr, ((p'9 = (some a'14)) ∧ (∃ l'15 : List Go.Value, (∃ n'16 : Nat, (((Array.size (Go.World.heap w0)) ≤ (Go.Addr.block (Go.Addr.add a'14 1))) ∧ (((none : Option Nat) = none) ∧ (((h'8 (Go.Addr.block (Go.Addr.add a'14 1))) = (some (Go.G.AB.cells l'15 n'16))) ∧ ((((Go.Addr.off (Go.Addr.add a'14 1)) + (Array.size #[(Go.Value.int .i64 ((n'12 : Nat) : Int))])) ≤ (List.length l'15)) ∧ (K (Go.Value.int .i64 (0 : Int)) (Go.G.AH.put h'8 (Go.Addr.block (Go.Addr.add a'14 1)) (Go.G.AB.cells (Go.G.setCells l'15 (Go.Addr.off (Go.Addr.add a'14 1)) [(Go.Value.int .i64 ((n'12 : Nat) : Int))]) n'16))))))))))))))))))))) h)) :
  f59_4 w0 K x0 x1 h := fun j => LP_intro (P := Go.Proofs.Try.prog) (Eq.mp (by kernel_rfl) hv)

theorem f59_go {w0 : World} {K : Value → AH → Prop} (x0 : Option Go.Addr) (x1 : ByteArray) (h : AH)
  (hv : (EvC Go.Proofs.Try.prog w0 46 #[(Go.Value.pointer x0)] (fun x'0 h'1 => (∃ i'2 : Int, (∃ t'3 : Bool, ((x'0 = (Go.Value.tuple #[(Go.Value.int .i64 i'2), (Go.Value.bool t'3)])) ∧ (brB (i'2 != (0 : Int)) (f59_3 w0 K x0 x1 i'2 t'3 true h'1) (f59_3 w0 K x0 x1 i'2 t'3 t'3 h'1)))))) h)) :
  EvC Go.Proofs.Try.prog w0 59 ([(.pointer x0), (.string x1)]).toArray K h := EvC_intro (P := Go.Proofs.Try.prog) f59_J (Eq.mp (by kernel_rfl) hv)
def f60_J : Nat → List Nat × Nat := jOf []



theorem f60_go {w0 : World} {K : Value → AH → Prop} (x0 : Option Go.Addr) (x1 : ByteArray) (x2 : ByteArray) (h : AH)
  (hv : (EvC Go.Proofs.Try.prog w0 46 #[(Go.Value.pointer x0)] (fun x'0 h'1 => (∃ i'2 : Int, (∃ t'3 : Bool, ((x'0 = (Go.Value.tuple #[(Go.Value.int .i64 i'2), (Go.Value.bool t'3)])) ∧ (brB (i'2 != (0 : Int)) (K (Go.Value.int .i64 i'2) h'1) (EvC Go.Proofs.Try.prog w0 49 #[(Go.Value.pointer x0), (Go.Value.string x1)] (fun x'4 h'5 => (∃ p'6 : Option Go.Addr, ((x'4 = (Go.Value.pointer p'6)) ∧ (brB (Option.isNone p'6) (EvC Go.Proofs.Try.prog w0 48 #[(Go.Value.int .i64 (7 : Int)), (Go.Value.bool t'3)] (fun x'7 h'8 => (∃ i'9 : Int, ((x'7 = (Go.Value.int .i64 i'9)) ∧ (K (Go.Value.int .i64 i'9) h'8)))) h'5) (EvC Go.Proofs.Try.prog w0 47 #[(Go.Value.string x2)] (fun x'10 h'11 => (∃ t'12 : Bool, ((x'10 = (Go.Value.bool t'12)) ∧ (brB (!t'12) (EvC Go.Proofs.Try.prog w0 48 #[(Go.Value.int .i64 (15 : Int)), (Go.Value.bool t'3)] (fun x'13 h'14 => (∃ i'15 : Int, ((x'13 = (Go.Value.int .i64 i'15)) ∧ (K (Go.Value.int .i64 i'15) h'14)))) h'11) (brB (!(decide ((x1 = x2)))) (EvC Go.Proofs.Try.prog w0 75 #[(Go.Value.pointer x0), (Go.Value.string x1)] (fun x'16 h'17 => ((x'16 = (Go.Value.tuple #[])) ∧ (EvC Go.Proofs.Try.prog w0 50 #[(Go.Value.pointer x0), (Go.Value.string x2), (Go.Value.pointer p'6)] (fun x'18 h'19 => ((x'18 = (Go.Value.tuple #[])) ∧ (EvC Go.Proofs.Try.prog w0 51 #[(Go.Value.pointer x0)] (fun x'20 h'21 => ((x'20 = (Go.Value.tuple #[])) ∧ (EvC Go.Proofs.Try.prog w0 48 #[(Go.Value.int .i64 (0 : Int)), (Go.Value.bool t'3)] (fun x'22 h'23 => (∃ i'24 : Int, ((x'22 = (Go.Value.int .i64 i'24)) ∧ (K (Go.Value.int .i64 i'24) h'23)))) h'21))) h'19))) h'17))) h'11) (EvC Go.Proofs.Try.prog w0 48 #[(Go.Value.int .i64 (0 : Int)), (Go.Value.bool t'3)] (fun x'25 h'26 => (∃ i'27 : Int, ((x'25 = (Go.Value.int .i64 i'27)) ∧ (K (Go.Value.int .i64 i'27) h'26)))) h'11)))))) h'5))))) h'1)))))) h)) :
  EvC Go.Proofs.Try.prog w0 60 ([(.pointer x0), (.string x1), (.string x2)]).toArray K h := EvC_intro (P := Go.Proofs.Try.prog) f60_J (Eq.mp (by kernel_rfl) hv)
def f61_J : Nat → List Nat × Nat := jOf []



theorem f61_go {w0 : World} {K : Value → AH → Prop} (x0 : Option Go.Addr) (x1 : ByteArray) (h : AH)
  (hv : (EvC Go.Proofs.Try.prog w0 46 #[(Go.Value.pointer x0)] (fun x'0 h'1 => (∃ i'2 : Int, (∃ t'3 : Bool, ((x'0 = (Go.Value.tuple #[(Go.Value.int .i64 i'2), (Go.Value.bool t'3)])) ∧ (brB (i'2 != (0 : Int)) (K (Go.Value.int .i64 i'2) h'1) (EvC Go.Proofs.Try.prog w0 49 #[(Go.Value.pointer x0), (Go.Value.string x1)] (fun x'4 h'5 => (∃ p'6 : Option Go.Addr, ((x'4 = (Go.Value.pointer p'6)) ∧ (brB (Option.isNone p'6) (EvC Go.Proofs.Try.prog w0 48 #[(Go.Value.int .i64 (7 : Int)), (Go.Value.bool t'3)] (fun x'7 h'8 => (∃ i'9 : Int, ((x'7 = (Go.Value.int .i64 i'9)) ∧ (K (Go.Value.int .i64 i'9) h'8)))) h'5) (EvC Go.Proofs.Try.prog w0 75 #[(Go.Value.pointer x0), (Go.Value.string x1)] (fun x'10 h'11 => ((x'10 = (Go.Value.tuple #[])) ∧ (EvC Go.Proofs.Try.prog w0 51 #[(Go.Value.pointer x0)] (fun x'12 h'13 => ((x'12 = (Go.Value.tuple #[])) ∧ (EvC Go.Proofs.Try.prog w0 48 #[(Go.Value.int .i64 (0 : Int)), (Go.Value.bool t'3)] (fun x'14 h'15 => (∃ i'16 : Int, ((x'14 = (Go.Value.int .i64 i'16)) ∧ (K (Go.Value.int .i64 i'16) h'15)))) h'13))) h'11))) h'5))))) h'1)))))) h)) :
  EvC Go.Proofs.Try.prog w0 61 ([(.pointer x0), (.string x1)]).toArray K h := EvC_intro (P := Go.Proofs.Try.prog) f61_J (Eq.mp (by kernel_rfl) hv)
def f62_J : Nat → List Nat × Nat := jOf [(3, [1, 2, 5, 6, 7, 8, 9, 10, 11, 12, 13, 15, 16, 17, 18, 19, 20, 21, 22, 23, 24, 25, 26], 0)]

def f62_3 (w0 : World) (K : Value → AH → Prop) (x0 : Option Go.Addr) (x3 : Int) (x4 : Bool) (x14 : Bool) (h : AH) : Prop :=
  ∀ j : Nat → Value, LPk Go.Proofs.Try.prog w0 (EvC Go.Proofs.Try.prog w0) f62_J 62 K 3 [.v (.pointer x0), .v (j 1), .v (j 2), .v (.int .i64 x3), .v (.bool x4), .v (j 5), .v (j 6), .v (j 7), .v (j 8), .v (j 9), .v (j 10), .v (j 11), .v (j 12), .v (j 13), .v (.bool x14), .v (j 15), .v (j 16), .v (j 17), .v (j 18), .v (j 19), .v (j 20), .v (j 21), .v (j 22), .v (j 23), .v (j 24), .v (j 25), .v (j 26)] [] h

theorem f62_3_in {w0 : World} {K : Value → AH → Prop} (x0 : Option Go.Addr) (x3 : Int) (x4 : Bool) (x14 : Bool) (h : AH)
  (hv : (brB x14 (EvC Go.Proofs.Try.prog w0 48 #[(Go.Value.int .i64 x3), (Go.Value.bool x4)] (fun x'4 h'5 => (∃ i'6 : Int, ((x'4 = (Go.Value.int .i64 i'6)) ∧ (K (Go.Value.int .i64 i'6) h'5)))) h) (∃ a'7 : Go.Addr, ((x0 = (some a'7)) ∧ (∃ p'8 : Option Go.Addr, (∃ n'9 : Nat, (∃ n'10 : Nat, (((Go.G.cellA w0 h (Go.Addr.add a'7 1)) = (some (Go.Value.slice p'8 n'9 n'10))) ∧ (EvC Go.Proofs.Try.prog w0 70 #[(Go.Value.slice p'8 n'9 n'10)] (fun x'11 h'12 => (∃ p'13 : Option Go.Addr, (∃ n'14 : Nat, (∃ n'15 : Nat, ((x'11 = (Go.Value.slice p'13 n'14 n'15)) ∧ (∃ a'16 : Go.Addr, ((x0 = (some a'16)) ∧ (newB w0 h'12 (Go.G.AB.cells [(Go.Value.slice p'13 n'14 n'15)] (List.length [(Go.Value.slice p'13 n'14 n'15)])) (fun b'17 h'18 => (∃ l'19 : List Go.Value, (∃ n'20 : Nat, (((Array.size (Go.World.heap w0)) ≤ (Go.Addr.block (Go.Addr.add a'16 2))) ∧ (((none : Option Nat) = none) ∧ (((h'18 (Go.Addr.block (Go.Addr.add a'16 2))) = (some (Go.G.AB.cells l'19 n'20))) ∧ ((((Go.Addr.off (Go.Addr.add a'16 2)) + (Array.size #[(Go.Value.slice (some (Go.Addr.mk b'17 0 none)) 1 1)])) ≤ (List.length l'19)) ∧ (K (Go.Value.int .i64 (0 : Int)) (Go.G.AH.put h'18 (Go.Addr.block (Go.Addr.add a'16 2)) (Go.G.AB.cells (Go.G.setCells l'19 (Go.Addr.off (Go.Addr.add a'16 2)) [(Go.Value.slice (some (Go.Addr.mk b'17 0 none)) 1 1)]) n'20)))))))))))))))))) h))))))))) :
  f62_3 w0 K x0 x3 x4 x14 h := fun j => LP_intro (P := Go.Proofs.Try.prog) (Eq.mp (by kernel_rfl) hv)

theorem f62_go {w0 : World} {K : Value → AH → Prop} (x0 : Option Go.Addr) (h : AH)
  (hv : (EvC Go.Proofs.Try.prog w0 46 #[(Go.Value.pointer x0)] (fun x'0 h'1 => (∃ i'2 : Int, (∃ t'3 : Bool, ((x'0 = (Go.Value.tuple #[(Go.Value.int .i64 i'2), (Go.Value.bool t'3)])) ∧ (brB (i'2 != (0 : Int)) (f62_3 w0 K x0 i'2 t'3 true h'1) (f62_3 w0 K x0 i'2 t'3 t'3 h'1)))))) h)) :
  EvC Go.Proofs.Try.prog w0 62 ([(.pointer x0)]).toArray K h := EvC_intro (P := Go.Proofs.Try.prog) f62_J (Eq.mp (by kernel_rfl) hv)
def f63_J : Nat → List Nat × Nat := jOf []



theorem f63_go {w0 : World} {K : Value → AH → Prop} (x0 : Option Go.Addr) (x1 : Int) (h : AH)
  (hv : (∃ a'0 : Go.Addr, ((x0 = (some a'0)) ∧ (∃ l'1 : List Go.Value, (∃ n'2 : Nat, (((Array.size (Go.World.heap w0)) ≤ (Go.Addr.block (Go.Addr.add a'0 4))) ∧ (((none : Option Nat) = none) ∧ (((h (Go.Addr.block (Go.Addr.add a'0 4))) = (some (Go.G.AB.cells l'1 n'2))) ∧ ((((Go.Addr.off (Go.Addr.add a'0 4)) + (Array.size #[(Go.Value.int .i64 (if ((0 : Int) < x1) then x1 else (0 : Int)))])) ≤ (List.length l'1)) ∧ (K (Go.Value.tuple #[]) (Go.G.AH.put h (Go.Addr.block (Go.Addr.add a'0 4)) (Go.G.AB.cells (Go.G.setCells l'1 (Go.Addr.off (Go.Addr.add a'0 4)) [(Go.Value.int .i64 (if ((0 : Int) < x1) then x1 else (0 : Int)))]) n'2)))))))))))) :
  EvC Go.Proofs.Try.prog w0 63 ([(.pointer x0), (.int .i64 x1)]).toArray K h := EvC_intro (P := Go.Proofs.Try.prog) f63_J (Eq.mp (by kernel_rfl) hv)
def f64_J : Nat → List Nat × Nat := jOf [(2, [1, 2, 3, 4, 5, 6, 7, 8, 9, 10, 11, 12, 13, 14, 15, 16, 17, 18, 20, 21, 22, 23, 24, 25], 0)]

def f64_2 (w0 : World) (K : Value → AH → Prop) (x0 : Option Go.Addr) (x19 : Bool) (h : AH) : Prop :=
  ∀ j : Nat → Value, LPk Go.Proofs.Try.prog w0 (EvC Go.Proofs.Try.prog w0) f64_J 64 K 2 [.v (.pointer x0), .v (j 1), .v (j 2), .v (j 3), .v (j 4), .v (j 5), .v (j 6), .v (j 7), .v (j 8), .v (j 9), .v (j 10), .v (j 11), .v (j 12), .v (j 13), .v (j 14), .v (j 15), .v (j 16), .v (j 17), .v (j 18), .v (.bool x19), .v (j 20), .v (j 21), .v (j 22), .v (j 23), .v (j 24), .v (j 25)] [] h

theorem f64_2_in {w0 : World} {K : Value → AH → Prop} (x0 : Option Go.Addr) (x19 : Bool) (h : AH)
  (hv : (brB x19 (∃ a'6 : Go.Addr, ((x0 = (some a'6)) ∧ (∃ l'7 : List Go.Value, (∃ n'8 : Nat, (((Array.size (Go.World.heap w0)) ≤ (Go.Addr.block (Go.Addr.add a'6 5))) ∧ (((none : Option Nat) = none) ∧ (((h (Go.Addr.block (Go.Addr.add a'6 5))) = (some (Go.G.AB.cells l'7 n'8))) ∧ ((((Go.Addr.off (Go.Addr.add a'6 5)) + 1) ≤ (List.length l'7)) ∧ (∃ a'9 : Go.Addr, ((x0 = (some a'9)) ∧ (∃ l'10 : List Go.Value, (∃ n'11 : Nat, (((Array.size (Go.World.heap w0)) ≤ (Go.Addr.block (Go.Addr.add a'9 6))) ∧ (((none : Option Nat) = none) ∧ (((Go.G.AH.put h (Go.Addr.block (Go.Addr.add a'6 5)) (Go.G.AB.cells (Go.G.setCells l'7 (Go.Addr.off (Go.Addr.add a'6 5)) [(Go.Value.int .i64 (0 : Int))]) n'8) (Go.Addr.block (Go.Addr.add a'9 6))) = (some (Go.G.AB.cells l'10 n'11))) ∧ ((((Go.Addr.off (Go.Addr.add a'9 6)) + 1) ≤ (List.length l'10)) ∧ (K (Go.Value.tuple #[]) (Go.G.AH.put (Go.G.AH.put h (Go.Addr.block (Go.Addr.add a'6 5)) (Go.G.AB.cells (Go.G.setCells l'7 (Go.Addr.off (Go.Addr.add a'6 5)) [(Go.Value.int .i64 (0 : Int))]) n'8)) (Go.Addr.block (Go.Addr.add a'9 6)) (Go.G.AB.cells (Go.G.setCells l'10 (Go.Addr.off (Go.Addr.add a'9 6)) [(Go.Value.int .i64 (0 : Int))]) n'11))))))))))))))))))) (K (Go.Value.tuple #[]) h))) :
  f64_2 w0 K x0 x19 h := fun j => LP_intro (P := Go.Proofs.Try.prog) (Eq.mp (by kernel_rfl) hv)

theorem f64_go {w0 : World} {K : Value → AH → Prop} (x0 : Option Go.Addr) (x1 : Int) (x2 : Int) (h : AH)
  (hv : (∃ a'0 : Go.Addr, ((x0 = (some a'0)) ∧ (∃ l'1 : List Go.Value, (∃ n'2 : Nat, (((Array.size (Go.World.heap w0)) ≤ (Go.Addr.block (Go.Addr.add a'0 5))) ∧ (((none : Option Nat) = none) ∧ (((h (Go.Addr.block (Go.Addr.add a'0 5))) = (some (Go.G.AB.cells l'1 n'2))) ∧ ((((Go.Addr.off (Go.Addr.add a'0 5)) + (Array.size #[(Go.Value.int .i64 x1)])) ≤ (List.length l'1)) ∧ (∃ a'3 : Go.Addr, ((x0 = (some a'3)) ∧ (∃ l'4 : List Go.Value, (∃ n'5 : Nat, (((Array.size (Go.World.heap w0)) ≤ (Go.Addr.block (Go.Addr.add a'3 6))) ∧ (((none : Option Nat) = none) ∧ (((Go.G.AH.put h (Go.Addr.block (Go.Addr.add a'0 5)) (Go.G.AB.cells (Go.G.setCells l'1 (Go.Addr.off (Go.Addr.add a'0 5)) [(Go.Value.int .i64 x1)]) n'2) (Go.Addr.block (Go.Addr.add a'3 6))) = (some (Go.G.AB.cells l'4 n'5))) ∧ ((((Go.Addr.off (Go.Addr.add a'3 6)) + (Array.size #[(Go.Value.int .i64 x2)])) ≤ (List.length l'4)) ∧ (brB (decide ((x1 < (1 : Int)))) (f64_2 w0 K x0 true (Go.G.AH.put (Go.G.AH.put h (Go.Addr.block (Go.Addr.add a'0 5)) (Go.G.AB.cells (Go.G.setCells l'1 (Go.Addr.off (Go.Addr.add a'0 5)) [(Go.Value.int .i64 x1)]) n'2)) (Go.Addr.block (Go.Addr.add a'3 6)) (Go.G.AB.cells (Go.G.setCells l'4 (Go.Addr.off (Go.Addr.add a'3 6)) [(Go.Value.int .i64 x2)]) n'5))) (f64_2 w0 K x0 (decide ((x2 < (1 : Int)))) (Go.G.AH.put (Go.G.AH.put h (Go.Addr.block (Go.Addr.add a'0 5)) (Go.G.AB.cells (Go.G.setCells l'1 (Go.Addr.off (Go.Addr.add a'0 5)) [(Go.Value.int .i64 x1)]) n'2)) (Go.Addr.block (Go.Addr.add a'3 6)) (Go.G.AB.cells (Go.G.setCells l'4 (Go.Addr.off (Go.Addr.add a'3 6)) [(Go.Value.int .i64 x2)]) n'5))))))))))))))))))))) :
  EvC Go.Proofs.Try.prog w0 64 ([(.pointer x0), (.int .i64 x1), (.int .i64 x2)]).toArray K h := EvC_intro (P := Go.Proofs.Try.prog) f64_J (Eq.mp (by kernel_rfl) hv)
def f75_J : Nat → List Nat × Nat := jOf [(2, [2, 3, 5, 6, 7, 8, 9, 13, 14, 15, 16, 17, 18, 19, 20, 21, 22, 23, 24, 25, 26, 27, 28], 0)]

def f75_2 (w0 : World) (K : Value → AH → Prop) (x0 : Option Go.Addr) (x1 : ByteArray) (a4 : Option Go.Addr) (n4 : Nat) (c4 : Nat) (a10 : Option Go.Addr) (n10 : Nat) (c10 : Nat) (x11 : Int) (x12 : Int) (h : AH) : Prop :=
  ∀ j : Nat → Value, LPk Go.Proofs.Try.prog w0 (EvC Go.Proofs.Try.prog w0) f75_J 75 K 2 [.v (.pointer x0), .v (.string x1), .v (j 2), .v (j 3), .v (.slice a4 n4 c4), .v (j 5), .v (j 6), .v (j 7), .v (j 8), .v (j 9), .v (.slice a10 n10 c10), .v (.int .i64 x11), .v (.int .i64 x12), .v (j 13), .v (j 14), .v (j 15), .v (j 16), .v (j 17), .v (j 18), .v (j 19), .v (j 20), .v (j 21), .v (j 22), .v (j 23), .v (j 24), .v (j 25), .v (j 26), .v (j 27), .v (j 28)] [] h

theorem f75_2_in {w0 : World} {K : Value → AH → Prop} (x0 : Option Go.Addr) (x1 : ByteArray) (a4 : Option Go.Addr) (n4 : Nat) (c4 : Nat) (a10 : Option Go.Addr) (n10 : Nat) (c10 : Nat) (x11 : Int) (x12 : Int) (h : AH)
  (hv : (brB (decide ((x12 < x11))) (∃ a'4 : Go.Addr, ((a10 = (some a'4)) ∧ (((0 : Int) ≤ x12) ∧ ((x12 < ((n10 : Nat) : Int)) ∧ (∃ s'5 : ByteArray, (∃ p'6 : Option Go.Addr, ((((Array.size #[(Go.Value.string s'5), (Go.Value.pointer p'6)]) = 2) ∧ (At w0 h (Go.Addr.add a'4 ((Int.toNat x12) * 2)) [(Go.Value.string s'5), (Go.Value.pointer p'6)])) ∧ (brB (!(decide ((s'5 = x1)))) (App w0 h 2 24 a4 n4 c4 1 [(Go.Value.string s'5), (Go.Value.pointer p'6)] (fun a'7 c'8 h'9 => (f75_2 w0 K x0 x1 a'7 (n4 + 1) c'8 a10 n10 c10 x11 (Go.IntKind.wrap .i64 (x12 + (1 : Int))) h'9))) (f75_2 w0 K x0 x1 a4 n4 c4 a10 n10 c10 x11 (Go.IntKind.wrap .i64 (x12 + (1 : Int))) h))))))))) (∃ a'10 : Go.Addr, ((x0 = (some a'10)) ∧ (∃ l'11 : List Go.Value, (∃ n'12 : Nat, (((Array.size (Go.World.heap w0)) ≤ (Go.Addr.block (Go.Addr.add a'10 1))) ∧ (((none : Option Nat) = none) ∧ (((h (Go.Addr.block (Go.Addr.add a'10 1))) = (some (Go.G.AB.cells l'11 n'12))) ∧ ((((Go.Addr.off (Go.Addr.add a'10 1)) + (Array.size #[(Go.Value.slice a4 n4 c4)])) ≤ (List.length l'11)) ∧ (K (Go.Value.tuple #[]) (Go.G.AH.put h (Go.Addr.block (Go.Addr.add a'10 1)) (Go.G.AB.cells (Go.G.setCells l'11 (Go.Addr.off (Go.Addr.add a'10 1)) [(Go.Value.slice a4 n4 c4)]) n'12))))))))))))) :
  f75_2 w0 K x0 x1 a4 n4 c4 a10 n10 c10 x11 x12 h := fun j => LP_intro (P := Go.Proofs.Try.prog) (Eq.mp (by kernel_rfl) hv)

theorem f75_go {w0 : World} {K : Value → AH → Prop} (x0 : Option Go.Addr) (x1 : ByteArray) (h : AH)
  (hv : (∃ a'0 : Go.Addr, ((x0 = (some a'0)) ∧ (∃ p'1 : Option Go.Addr, (∃ n'2 : Nat, (∃ n'3 : Nat, (((Go.G.cellA w0 h (Go.Addr.add a'0 1)) = (some (Go.Value.slice p'1 n'2 n'3))) ∧ (f75_2 w0 K x0 x1 none 0 0 p'1 n'2 n'3 ((n'2 : Nat) : Int) (0 : Int) h)))))))) :
  EvC Go.Proofs.Try.prog w0 75 ([(.pointer x0), (.string x1)]).toArray K h := EvC_intro (P := Go.Proofs.Try.prog) f75_J (Eq.mp (by kernel_rfl) hv)
/-! ### the document's other calls -/
def RD.pre (s : Ds) (R : RD) (i : Nat) : List (Nat × AB) := (R.bd, .cells (rcells s R) 8) :: (slB R.la (entC R.F s.dir) (R.lc * 2) ++ (slB R.wa (wasC s.was R.W) (R.wc * 1) ++ (wasB R.F s.was R.W ++ fobs (R.F.take i))))
theorem RD.open {w0 : World} {h : AH} {B : List (Nat × AB)} {s : Ds} {R : RD} {i : Nat} {fo : FO} (hi : R.F[i]? = some fo) (w : Own w0 h (R.blocks s ++ B)) :
    Own w0 h (R.pre s i ++ ((fo.b, .cells fo.cells 2) :: (slB fo.a (u8s fo.data) (fo.c * 1) ++ (fobs (R.F.drop (i + 1)) ++ B)))) := by
  rw [RD.flat, fobs_split hi] at w
  simpa only [RD.pre, FO.blocks, List.cons_append, List.append_assoc] using w
theorem RD.shut {w0 : World} {h : AH} {B : List (Nat × AB)} {s : Ds} {R : RD} {i : Nat} {fo f' : FO} (hi : R.F[i]? = some fo) (hb : f'.b = fo.b)
    (w : Own w0 h (R.pre s i ++ ((f'.b, .cells f'.cells 2) :: (slB f'.a (u8s f'.data) (f'.c * 1) ++ (fobs (R.F.drop (i + 1)) ++ B))))) : Own w0 h (({ R with F := R.F.set i f' } : RD).blocks s ++ B) := by
  have hbl : ∀ j, blk R.F j = blk (R.F.set i f') j := fun j => (blk_set hi hb).symm
  have e1 : entC R.F s.dir = entC (R.F.set i f') s.dir := entC_eq fun e _ => hbl _
  have e2 : wasB R.F s.was R.W = wasB (R.F.set i f') s.was R.W := wasB_eq fun d _ e _ => hbl _
  rw [RD.flat]
  show Own w0 h ((R.bd, .cells (rcells s R) 8) :: (slB R.la (entC (R.F.set i f') s.dir) (R.lc * 2) ++ (slB R.wa (wasC s.was R.W) (R.wc * 1) ++ (wasB (R.F.set i f') s.was R.W ++ (fobs (R.F.set i f') ++ B)))))
  rw [← e1, ← e2, fobs_set hi]
  simpa only [RD.pre, FO.blocks, List.append_assoc, List.cons_append, List.nil_append] using w
theorem RRep.set {s : Ds} {R : RD} {i : Nat} {fo f' : FO} {g : Fl → Fl} (r : RRep s R) (hi : R.F[i]? = some fo) (hb : f'.b = fo.b) (hg : f'.abs = g fo.abs) (hv : SlV 1 f'.a f'.data.length f'.c (u8s f'.data))
    (ok : ({ s with fs := s.fs.modify i g } : Ds).Ok) : RRep { s with fs := s.fs.modify i g } { R with F := R.F.set i f' } := by
  have hbl : ∀ j, blk R.F j = blk (R.F.set i f') j := fun j => (blk_set hi hb).symm
  have e1 : entC R.F s.dir = entC (R.F.set i f') s.dir := entC_eq fun e _ => hbl _
  exact ⟨ok, set_abs r.fs hi hg, FV_set r.fv hv, by show SlV 2 R.la s.dir.length R.lc (entC (R.F.set i f') s.dir); rw [← e1]; exact r.lv, r.wv, WasV_eq (fun d _ e _ => hbl _) r.ww⟩
theorem RRep.file {s : Ds} {R : RD} (r : RRep s R) {n : ByteArray} {i : Nat} (hf : findD n s.dir = some i) : ∃ fo, R.F[i]? = some fo ∧ ptrF R.F i = some ⟨fo.b, 0, none⟩ := by
  have hfl : i < R.F.length := by rw [r.len]; exact (r.ok.dir.ids _ (findD_mem hf)).1
  exact ⟨_, List.getElem?_eq_getElem hfl, by simp [ptrF, blk_at (List.getElem?_eq_getElem hfl)]⟩
theorem end_last (s : Ds) : endS (lastS s) (callS s).1 = endS (callS s).2.1 (callS s).1 := by
  unfold lastS callS
  split
  · rfl
  split
  · split <;> rfl
  · rfl
/-- Sync, as the document answers. -/
theorem f59_spec {w0 : World} {K : Value → AH → Prop} {h : AH} {B : List (Nat × AB)} {s : Ds} {R : RD} {n : ByteArray} (r : RRep s R) (w : Own w0 h (R.blocks s ++ B)) (hc : s.calls < 1000000000)
    (hk : ∀ h' R', R'.bd = R.bd → RRep (syncS n s).2 R' → Own w0 h' (R'.blocks (syncS n s).2 ++ B) → K (.int .i64 (syncS n s).1) h') :
    EvC Go.Proofs.Try.prog w0 59 #[.pointer (some ⟨R.bd, 0, none⟩), .string n] K h := by
  have ook := syncS_ok r.ok n
  have oc := r.ok.calls
  have r1 := r.call
  have early : ∀ x h1, x = true → ((callS s).1 ≠ 0 ∨ (callS s).2.1 = true) → Own w0 h1 (R.blocks (callS s).2.2 ++ B) → f59_3 w0 K (some ⟨R.bd, 0, none⟩) n (callS s).1 (lastS s) x h1 := fun x h1 hx q w1 => by
    have e : syncS n s = (endS (callS s).2.1 (callS s).1, (callS s).2.2) := by unfold syncS; rw [if_pos q]
    rw [e] at hk
    exact f59_3_in _ _ _ _ _ _ (brB_of (fun _ => f48_spec ⟨_, rfl, by rw [end_last]; exact hk h1 R rfl r1 w1⟩) fun z => by rw [hx] at z; cases z)
  refine f59_go _ _ _ (f46_rep r w (by omega) fun h1 w1 => ⟨_, _, rfl, brB_of (fun q => early _ _ rfl (.inl (by simpa using q)) w1) fun q => ?_⟩)
  have q0 : (callS s).1 = 0 := by simpa using q
  have hl := lastS_of q
  cases hg : (callS s).2.1 with
  | true =>
    have := early true h1 rfl (.inr hg) w1
    rw [hl, hg] at this ⊢
    exact this
  | false =>
    rw [hl, hg]
    have es : syncS n s = match findD n (callS s).2.2.dir with | none => (7, (callS s).2.2) | some i => (0, { (callS s).2.2 with fs := (callS s).2.2.fs.modify i fun f => { f with sure := f.data.length } }) := by
      unfold syncS; rw [if_neg (by simp [q0, hg])]
      cases findD n (callS s).2.2.dir <;> rfl
    rw [es] at hk ook
    have e5 := (callS_same s).2.2.2.2
    generalize (callS s).2.2 = t at hk ook w1 r1 e5
    have od := r1.ok.dir.len
    have wf := w1
    rw [RD.flat] at wf
    refine f59_3_in _ _ _ _ _ _ (brB_of (fun z => by cases z) fun _ => f59_4_in _ _ _ (f49_spec wf r1.lv (by omega) ⟨_, rfl, ?_⟩))
    cases hf : findD n t.dir with
    | none =>
      rw [hf] at hk
      exact brB_of (fun _ => hk h1 R rfl r1 w1) fun z => by cases z
    | some i =>
      rw [hf] at hk ook
      obtain ⟨fo, hgi, hp⟩ := r1.file hf
      have ws := RD.open hgi w1
      have wd := ws.drop
      dsimp only
      rw [hp]
      have hv := r1.fv _ (List.mem_of_getElem? hgi)
      refine brB_of (fun z => by cases z) fun _ => ⟨_, rfl, _, _, _, wd.cell0 rfl, _, rfl, _, 2, wd.ge, rfl, wd.hd, by simp [FO.cells, Addr.add], ?_⟩
      exact hk _ { R with F := R.F.set i { fo with sure := fo.data.length } } rfl (r1.set (f' := { fo with sure := fo.data.length }) hgi rfl rfl hv ook) (RD.shut (s := t) (f' := { fo with sure := fo.data.length }) hgi rfl ws.upd)
/-- SyncDir, as the document answers. -/
theorem f62_spec {w0 : World} {K : Value → AH → Prop} {h : AH} {B : List (Nat × AB)} {s : Ds} {R : RD} (r : RRep s R) (w : Own w0 h (R.blocks s ++ B)) (hc : s.calls < 1000000000)
    (hk : ∀ h' R', R'.bd = R.bd → RRep (syncDirS s).2 R' → Own w0 h' (R'.blocks (syncDirS s).2 ++ B) → K (.int .i64 (syncDirS s).1) h') :
    EvC Go.Proofs.Try.prog w0 62 #[.pointer (some ⟨R.bd, 0, none⟩)] K h := by
  have ook := syncDirS_ok r.ok
  have oc := r.ok.calls
  have r1 := r.call
  have early : ∀ x h1, x = true → ((callS s).1 ≠ 0 ∨ (callS s).2.1 = true) → Own w0 h1 (R.blocks (callS s).2.2 ++ B) → f62_3 w0 K (some ⟨R.bd, 0, none⟩) (callS s).1 (lastS s) x h1 := fun x h1 hx q w1 => by
    have e : syncDirS s = (endS (callS s).2.1 (callS s).1, (callS s).2.2) := by unfold syncDirS; rw [if_pos q]
    rw [e] at hk
    exact f62_3_in _ _ _ _ _ (brB_of (fun _ => f48_spec ⟨_, rfl, by rw [end_last]; exact hk h1 R rfl r1 w1⟩) fun z => by rw [hx] at z; cases z)
  refine f62_go _ _ (f46_rep r w (by omega) fun h1 w1 => ⟨_, _, rfl, brB_of (fun q => early _ _ rfl (.inl (by simpa using q)) w1) fun q => ?_⟩)
  have q0 : (callS s).1 = 0 := by simpa using q
  have hl := lastS_of q
  cases hg : (callS s).2.1 with
  | true =>
    have := early true h1 rfl (.inr hg) w1
    rw [hl, hg] at this ⊢
    exact this
  | false =>
    rw [hl, hg]
    have es : syncDirS s = (0, { (callS s).2.2 with was := [(callS s).2.2.dir] }) := by unfold syncDirS; rw [if_neg (by simp [q0, hg])]
    rw [es] at hk ook
    have e5 := (callS_same s).2.2.2.2
    generalize (callS s).2.2 = t at hk ook w1 r1 e5
    have od := r1.ok.dir.len
    have wf := w1
    rw [RD.flat] at wf
    have rd : Rd w0 h1 R.la (entC R.F t.dir) := r1.lv.rd (cs := [_]) wf
    refine f62_3_in _ _ _ _ _ (brB_of (fun z => by cases z) fun _ => ⟨_, rfl, _, _, _, wf.cell0 rfl, f70_spec wf rd (by omega) fun a' c' h2 v2 w2 => ⟨_, _, _, rfl, _, rfl, fun b hb hbn => ?_⟩⟩)
    have w3 : Own w0 h2 ((R.bd, .cells (rcells t R) 8) :: (slB R.la (entC R.F t.dir) (R.lc * 2) ++ (slB a' (entC R.F t.dir) (c' * 2) ++ (fobs R.F ++ B)))) := by
      have q1 : Own w0 h2 (slB a' (entC R.F t.dir) (c' * 2) ++ (((R.bd, .cells (rcells t R) 8) :: slB R.la (entC R.F t.dir) (R.lc * 2)) ++ ((slB R.wa (wasC t.was R.W) (R.wc * 1) ++ wasB R.F t.was R.W) ++ (fobs R.F ++ B)))) := by
        simpa only [List.cons_append, List.append_assoc] using w2
      have q2 : Own w0 h2 ((slB a' (entC R.F t.dir) (c' * 2) ++ ((R.bd, .cells (rcells t R) 8) :: slB R.la (entC R.F t.dir) (R.lc * 2))) ++ (fobs R.F ++ B)) := Own.cut (ds := slB R.wa (wasC t.was R.W) (R.wc * 1) ++ wasB R.F t.was R.W) (by simpa only [List.cons_append, List.append_assoc] using q1)
      have q3 := Own.front (cs := slB a' (entC R.F t.dir) (c' * 2)) (ds := (R.bd, .cells (rcells t R) 8) :: slB R.la (entC R.F t.dir) (R.lc * 2)) (bs := fobs R.F ++ B) (by simpa only [List.append_assoc] using q2)
      simpa only [List.cons_append, List.append_assoc] using q3
    have w4 : Own w0 (h2.put b (.cells [.slice a' t.dir.length c'] 1)) ((R.bd, .cells (rcells t R) 8) :: (slB R.la (entC R.F t.dir) (R.lc * 2) ++ ((b, .cells [.slice a' t.dir.length c'] 1) :: (slB a' (entC R.F t.dir) (c' * 2) ++ (fobs R.F ++ B))))) := by
      have := w3.new (o := .cells [.slice a' t.dir.length c'] 1) hb hbn
      have p := List.perm_middle (a := (b, AB.cells [Value.slice a' t.dir.length c'] 1)) (l₁ := (R.bd, .cells (rcells t R) 8) :: slB R.la (entC R.F t.dir) (R.lc * 2)) (l₂ := slB a' (entC R.F t.dir) (c' * 2) ++ (fobs R.F ++ B))
      refine this.perm ?_
      simpa only [List.cons_append, List.append_assoc] using p.symm
    refine ⟨_, 8, w4.ge, rfl, w4.hd, by simp [rcells, rcl, Addr.add], ?_⟩
    refine hk _ { R with wa := some ⟨b, 0, none⟩, wc := 1, W := [(a', c')] } rfl ⟨ook, r1.fs, r1.fv, r1.lv, ⟨rfl, Nat.le_refl _, rfl, rfl⟩, ⟨v2, trivial⟩⟩ ?_
    rw [RD.flat]
    have w5 := Own.put (o' := .cells (rcl t.room R.la t.dir.length R.lc (some ⟨b, 0, none⟩) 1 1 t.calls t.fuse t.wait t.fails t.off) 8) w4
    show Own w0 _ ((R.bd, .cells (rcl t.room R.la t.dir.length R.lc (some ⟨b, 0, none⟩) 1 1 t.calls t.fuse t.wait t.fails t.off) 8) :: (slB R.la (entC R.F t.dir) (R.lc * 2) ++ ([(b, .cells [.slice a' t.dir.length c'] 1)] ++ ((slB a' (entC R.F t.dir) (c' * 2) ++ []) ++ (fobs R.F ++ B)))))
    rw [List.append_nil]
    exact w5
/-- SetFuse. -/
theorem f63_spec {w0 : World} {K : Value → AH → Prop} {h : AH} {B : List (Nat × AB)} {s : Ds} {R : RD} {n : Int} (r : RRep s R) (w : Own w0 h (R.blocks s ++ B)) (hn : n ≤ 9223372036854775807)
    (hk : ∀ h', RRep (fuseS n s) R → Own w0 h' (R.blocks (fuseS n s) ++ B) → K (.tuple #[]) h') : EvC Go.Proofs.Try.prog w0 63 #[.pointer (some ⟨R.bd, 0, none⟩), .int .i64 n] K h :=
  f63_go _ _ _ ⟨_, rfl, _, 8, Own.ge w, rfl, Own.hd w, by simp [rcells, rcl, Addr.add], hk _ ⟨fuseS_ok r.ok hn, r.fs, r.fv, r.lv, r.wv, r.ww⟩ (Own.put w)⟩
/-- SetFault. -/
theorem f64_spec {w0 : World} {K : Value → AH → Prop} {h : AH} {B : List (Nat × AB)} {s : Ds} {R : RD} {a b : Int} (r : RRep s R) (w : Own w0 h (R.blocks s ++ B)) (ha : a ≤ 9223372036854775807) (hb : b ≤ 9223372036854775807)
    (hk : ∀ h', RRep (faultS a b s) R → Own w0 h' (R.blocks (faultS a b s) ++ B) → K (.tuple #[]) h') : EvC Go.Proofs.Try.prog w0 64 #[.pointer (some ⟨R.bd, 0, none⟩), .int .i64 a, .int .i64 b] K h := by
  have rp : RRep (faultS a b s) R := ⟨faultS_ok r.ok ha hb, r.fs, r.fv, r.lv, r.wv, r.ww⟩
  have three : ∀ h' (x : Bool), Own w0 h' (R.blocks { s with wait := a, fails := b } ++ B) → (x = true ↔ a < 1 ∨ b < 1) → f64_2 w0 K (some ⟨R.bd, 0, none⟩) x h' := fun h' x w' hx => by
    refine f64_2_in _ _ _ (brB_of (fun q => ?_) fun q => ?_)
    · have w2 := Own.put (o' := .cells (rcells { s with wait := 0, fails := b } R) 8) w'
      have e : faultS a b s = { s with wait := 0, fails := 0 } := by unfold faultS; rw [if_pos (hx.1 q), if_pos (hx.1 q)]
      refine ⟨_, rfl, _, 8, Own.ge w', rfl, Own.hd w', by simp [rcells, rcl, Addr.add], _, rfl, _, 8, Own.ge w', rfl, put_same _ _ _, by simp [rcells, rcl, Addr.add, setCells], hk _ rp ?_⟩
      rw [e]
      exact Own.put w2
    · have hn : ¬ (a < 1 ∨ b < 1) := fun z => by rw [hx.2 z] at q; cases q
      have e : faultS a b s = { s with wait := a, fails := b } := by unfold faultS; rw [if_neg hn, if_neg hn]
      rw [e] at hk
      exact hk _ (by rw [← e]; exact rp) w'
  have w2 := Own.put (o' := .cells (rcells { s with wait := a } R) 8) w
  refine f64_go _ _ _ _ ⟨_, rfl, _, 8, Own.ge w, rfl, Own.hd w, by simp [rcells, rcl, Addr.add], _, rfl, _, 8, Own.ge w, rfl, put_same _ _ _, by simp [rcells, rcl, Addr.add, setCells], brB_of (fun q => three _ _ (Own.put w2) ?_) fun q => three _ _ (Own.put w2) ?_⟩
  · have := of_decide_eq_true q; simp [this]
  · have := of_decide_eq_false q; simp [this]
/-- drop. Its new row; the old one is forgotten. -/
theorem f75_spec {w0 : World} {K : Value → AH → Prop} {h : AH} {B : List (Nat × AB)} {s : Ds} {R : RD} {n : ByteArray} {F : List FO}
    (w : Own w0 h ((R.bd, .cells (rcells s R) 8) :: (slB R.la (entC F s.dir) (R.lc * 2) ++ B)))
    (lv : SlV 2 R.la s.dir.length R.lc (entC F s.dir)) (hs : s.dir.length ≤ 1000000000)
    (hk : ∀ h' a' c', SlV 2 a' (dropD n s.dir).length c' (entC F (dropD n s.dir)) →
      Own w0 h' ((R.bd, .cells (rcl s.room a' (dropD n s.dir).length c' R.wa s.was.length R.wc s.calls s.fuse s.wait s.fails s.off) 8) :: (slB a' (entC F (dropD n s.dir)) (c' * 2) ++ B)) → K (.tuple #[]) h') :
    EvC Go.Proofs.Try.prog w0 75 #[.pointer (some ⟨R.bd, 0, none⟩), .string n] K h := by
  have loop : ∀ (k i : Nat) (out : Dir) (a : Option Addr) (c : Nat) (h' : AH), i + k = s.dir.length → out.length ≤ i → dropD n s.dir = out ++ dropD n (s.dir.drop i) →
      SlV 2 a out.length c (entC F out) → Own w0 h' ((R.bd, .cells (rcells s R) 8) :: (slB a (entC F out) (c * 2) ++ (slB R.la (entC F s.dir) (R.lc * 2) ++ B))) →
      f75_2 w0 K (some ⟨R.bd, 0, none⟩) n a out.length c R.la s.dir.length R.lc ((s.dir.length : Nat) : Int) ((i : Nat) : Int) h' := by
    intro k
    induction k with
    | zero =>
      intro i out a c h' hi ho he v w'
      rw [List.drop_eq_nil_of_le (by omega)] at he
      have e : dropD n s.dir = out := by rw [he]; simp [dropD]
      refine f75_2_in _ _ _ _ _ _ _ _ _ _ _ (brB_of (fun q => by simp at q; omega) fun _ => ⟨_, rfl, _, 8, Own.ge w', rfl, Own.hd w', by simp [rcells, rcl, Addr.add], ?_⟩)
      subst e
      refine hk _ a c v ?_
      have w3 := (Own.put (o' := .cells (rcl s.room a (dropD n s.dir).length c R.wa s.was.length R.wc s.calls s.fuse s.wait s.fails s.off) 8) w')
      exact Own.cut (cs := _ :: slB a (entC F (dropD n s.dir)) (c * 2)) w3
    | succ k ih =>
      intro i out a c h' hi ho he v w'
      have hil : i < s.dir.length := by omega
      have hget : s.dir[i]? = some s.dir[i] := List.getElem?_eq_getElem hil
      rw [List.drop_eq_getElem_cons hil] at he
      generalize s.dir[i] = e at hget he
      have rd : Rd w0 h' R.la (entC F s.dir) := lv.rd (cs := _ :: slB a (entC F out) (c * 2)) w'
      refine f75_2_in _ _ _ _ _ _ _ _ _ _ _ (brB_of (fun _ => entLoad rd hget rfl fun ad => brB_of (fun q => ?_) fun q => ?_) fun q => by simp at q; omega)
      · have q' : ¬ e.1 = n := by simpa using q
        refine App_ent (A := [_]) (e := e) v w' (by omega) fun a' c' h2 v2 w2 => ?_
        rw [wrapS (by omega)]
        have := ih (i + 1) (out ++ [e]) a' c' h2 (by omega) (by simp; omega) (by rw [he]; simp [dropD, q']) v2 w2
        rw [show (out ++ [e]).length = out.length + 1 by simp] at this
        exact this
      · have q' : e.1 = n := by simpa using q
        rw [wrapS (by omega)]
        exact ih (i + 1) out a c h' (by omega) (by omega) (by rw [he]; simp [dropD, q']) v w'
  exact f75_go _ _ _ ⟨_, rfl, _, _, _, w.cell0 rfl, loop s.dir.length 0 [] none 0 h (by omega) (Nat.zero_le _) rfl SlV.nil w⟩
/-- changed, of a directory that has become another. -/
theorem changed_rep {w0 : World} {K : Value → AH → Prop} {h : AH} {B : List (Nat × AB)} {t : Ds} {R : RD} {d2 : Dir} {a' : Option Addr} {c' : Nat} (ook : ({ t with dir := d2, was := t.was ++ [d2] } : Ds).Ok) (r1 : RRep t R) (v : SlV 2 a' d2.length c' (entC R.F d2))
    (hd : d2.length ≤ 1000000000000) (hw : t.was.length ≤ 1000000000000)
    (w : Own w0 h ((R.bd, .cells (rcl t.room a' d2.length c' R.wa t.was.length R.wc t.calls t.fuse t.wait t.fails t.off) 8) :: (slB a' (entC R.F d2) (c' * 2) ++ (slB R.wa (wasC t.was R.W) (R.wc * 1) ++ (wasB R.F t.was R.W ++ (fobs R.F ++ B))))))
    (hk : ∀ h' R', R'.bd = R.bd → RRep { t with dir := d2, was := t.was ++ [d2] } R' → Own w0 h' (R'.blocks { t with dir := d2, was := t.was ++ [d2] } ++ B) → K (.tuple #[]) h') :
    EvC Go.Proofs.Try.prog w0 51 #[.pointer (some ⟨R.bd, 0, none⟩)] K h := by
  refine f51_spec (s := { t with dir := d2 }) (R := { R with la := a', lc := c' }) (F := R.F) w v r1.wv hd hw fun h4 wa' wc' p pv wv4 w4 => ?_
  refine hk h4 { R with la := a', lc := c', wa := wa', wc := wc', W := R.W ++ [p] } rfl ⟨ook, r1.fs, r1.fv, v, ?_, WasV_snoc pv r1.ww⟩ ?_
  · show SlV 1 wa' (t.was ++ [d2]).length wc' (wasC (t.was ++ [d2]) (R.W ++ [p]))
    rw [wasC_snoc r1.ww, List.length_append]
    exact wv4
  · rw [RD.flat]
    show Own w0 h4 ((R.bd, .cells (rcl t.room a' d2.length c' wa' (t.was ++ [d2]).length wc' t.calls t.fuse t.wait t.fails t.off) 8) ::
      (slB a' (entC R.F d2) (c' * 2) ++ (slB wa' (wasC (t.was ++ [d2]) (R.W ++ [p])) (wc' * 1) ++ (wasB R.F (t.was ++ [d2]) (R.W ++ [p]) ++ (fobs R.F ++ B)))))
    rw [wasC_snoc r1.ww, wasB_snoc r1.ww, List.length_append, List.append_assoc]
    refine w4.perm (List.Perm.cons _ (List.Perm.append_left _ (List.Perm.append_left _ ?_)))
    exact List.perm_append_comm_assoc _ _ _
theorem play_gone {n : ByteArray} {d : Dir} (h : n ≠ ⟨#[]⟩) : (⟨n, ⟨#[]⟩, none⟩ : Chg).play d = dropD n d := by simp [Chg.play, h]
theorem play_mv {o n : ByteArray} {i : Nat} {d : Dir} (h : o ≠ ⟨#[]⟩) : (⟨o, n, some i⟩ : Chg).play d = putD n i false (dropD o d) := by simp [Chg.play, h]
/-- Remove, as the document answers. -/
theorem f61_spec {w0 : World} {K : Value → AH → Prop} {h : AH} {B : List (Nat × AB)} {s : Ds} {R : RD} {n : ByteArray} (r : RRep s R) (w : Own w0 h (R.blocks s ++ B)) (hc : s.calls < 100000000)
    (hk : ∀ h' R', R'.bd = R.bd → RRep (removeS n s).2 R' → Own w0 h' (R'.blocks (removeS n s).2 ++ B) → K (.int .i64 (removeS n s).1) h') :
    EvC Go.Proofs.Try.prog w0 61 #[.pointer (some ⟨R.bd, 0, none⟩), .string n] K h := by
  have ook := removeS_ok r.ok n
  have oc := r.ok.calls
  refine f61_go _ _ _ (f46_rep r w (by omega) fun h1 w1 => ⟨_, _, rfl, brB_of (fun q => ?_) fun q => ?_⟩)
  · have e : removeS n s = ((callS s).1, (callS s).2.2) := by unfold removeS; rw [if_pos (by simpa using q)]
    rw [e] at hk
    exact hk h1 R rfl r.call w1
  rw [lastS_of q]
  have q0 : (callS s).1 = 0 := by simpa using q
  have r1 := r.call
  have e5 := (callS_same s).2.2.2.2
  generalize hg : (callS s).2.1 = g
  have ecr : removeS n s = if (findD n (callS s).2.2.dir).isNone then (endS g 7, (callS s).2.2) else (endS g 0, alterS ⟨n, ⟨#[]⟩, none⟩ (callS s).2.2) := by
    rw [← hg]; unfold removeS; rw [if_neg (by simp [q0])]
  rw [ecr] at hk ook
  generalize (callS s).2.2 = t at hk ook w1 r1 e5
  have od := r1.ok.dir.len
  have ow := r1.ok.nw
  have wf := w1
  rw [RD.flat] at wf
  refine f49_spec wf r1.lv (by omega) ⟨_, rfl, ?_⟩
  cases hf : findD n t.dir with
  | none =>
    rw [hf] at hk
    exact brB_of (fun _ => f48_spec ⟨_, rfl, hk h1 R rfl r1 w1⟩) fun z => by cases z
  | some i =>
    rw [hf] at hk ook
    have hne : n ≠ ⟨#[]⟩ := nameB_ne (r1.ok.dir.ids _ (findD_mem hf)).2
    have ed : alterS ⟨n, ⟨#[]⟩, none⟩ t = { t with dir := dropD n t.dir, was := t.was ++ [dropD n t.dir] } := by unfold alterS; rw [play_gone hne]
    simp only [Option.isNone_some, Bool.false_eq_true, if_false] at hk ook
    rw [ed] at hk ook
    have hl : (dropD n t.dir).length ≤ t.dir.length := List.length_filter_le _ _
    refine brB_of (fun z => by cases z) fun _ => f75_spec wf r1.lv (by omega) fun h2 a' c' v2 w2 => ⟨rfl, changed_rep ook r1 v2 (by omega) (by omega) w2 fun h3 R3 b3 r3 w3 => ⟨rfl, f48_spec ⟨_, rfl, hk h3 R3 b3 r3 w3⟩⟩⟩
/-- Rename, as the document answers. -/
theorem f60_spec {w0 : World} {K : Value → AH → Prop} {h : AH} {B : List (Nat × AB)} {s : Ds} {R : RD} {o n : ByteArray} (r : RRep s R) (w : Own w0 h (R.blocks s ++ B)) (hc : s.calls < 100000000) (hn : n.size ≤ 1000000000000000)
    (hk : ∀ h' R', R'.bd = R.bd → RRep (renameS o n s).2 R' → Own w0 h' (R'.blocks (renameS o n s).2 ++ B) → K (.int .i64 (renameS o n s).1) h') :
    EvC Go.Proofs.Try.prog w0 60 #[.pointer (some ⟨R.bd, 0, none⟩), .string o, .string n] K h := by
  have ook := renameS_ok r.ok o n
  have oc := r.ok.calls
  refine f60_go _ _ _ _ (f46_rep r w (by omega) fun h1 w1 => ⟨_, _, rfl, brB_of (fun q => ?_) fun q => ?_⟩)
  · have e : renameS o n s = ((callS s).1, (callS s).2.2) := by unfold renameS; rw [if_pos (by simpa using q)]
    rw [e] at hk
    exact hk h1 R rfl r.call w1
  rw [lastS_of q]
  have q0 : (callS s).1 = 0 := by simpa using q
  have r1 := r.call
  have e5 := (callS_same s).2.2.2.2
  generalize hg : (callS s).2.1 = g
  have ecr : renameS o n s = match findD o (callS s).2.2.dir with
    | none => (endS g 7, (callS s).2.2)
    | some i => if nameB n = false then (endS g 15, (callS s).2.2) else if o = n then (endS g 0, (callS s).2.2) else (endS g 0, alterS ⟨o, n, some i⟩ (callS s).2.2) := by
    rw [← hg]; unfold renameS; rw [if_neg (by simp [q0])]
    cases findD o (callS s).2.2.dir <;> rfl
  rw [ecr] at hk ook
  generalize (callS s).2.2 = t at hk ook w1 r1 e5
  have od := r1.ok.dir.len
  have ow := r1.ok.nw
  have wf := w1
  rw [RD.flat] at wf
  refine f49_spec wf r1.lv (by omega) ⟨_, rfl, ?_⟩
  cases hf : findD o t.dir with
  | none =>
    rw [hf] at hk
    exact brB_of (fun _ => f48_spec ⟨_, rfl, hk h1 R rfl r1 w1⟩) fun z => by cases z
  | some i =>
    rw [hf] at hk ook
    dsimp only at hk ook
    have hne : o ≠ ⟨#[]⟩ := nameB_ne (r1.ok.dir.ids _ (findD_mem hf)).2
    refine brB_of (fun z => by cases z) fun _ => f47_spec hn ⟨_, rfl, brB_of (fun q1 => f48_spec ⟨_, rfl, ?_⟩) fun q1 => ?_⟩
    · have q1' : nameB n = false := by simpa using q1
      rw [if_pos q1'] at hk
      exact hk h1 R rfl r1 w1
    have q1' : nameB n = true := by simpa using q1
    rw [if_neg (by simp [q1'])] at hk ook
    refine brB_of (fun q2 => ?_) fun q2 => f48_spec ⟨_, rfl, ?_⟩
    · have q2' : ¬ o = n := by simpa using q2
      rw [if_neg q2'] at hk ook
      have ed : alterS ⟨o, n, some i⟩ t = { t with dir := putD n i false (dropD o t.dir), was := t.was ++ [putD n i false (dropD o t.dir)] } := by unfold alterS; rw [play_mv hne]
      rw [ed] at hk ook
      have hl : (dropD o t.dir).length ≤ t.dir.length := List.length_filter_le _ _
      have hpl := ook.dir.len
      dsimp only at hpl
      refine f75_spec wf r1.lv (by omega) fun h2 a' c' v2 w2 => ⟨rfl, ?_⟩
      refine f50_spec (s := { t with dir := dropD o t.dir }) (R := { R with la := a', lc := c' }) (F := R.F) w2 v2 (by show (dropD o t.dir).length ≤ _; omega) fun h3 a3 c3 v3 w3 => ⟨rfl, ?_⟩
      exact changed_rep ook r1 v3 (by omega) (by omega) w3 fun h4 R4 b4 r4 w4 => ⟨rfl, f48_spec ⟨_, rfl, hk h4 R4 b4 r4 w4⟩⟩
    · have q2' : o = n := by simpa using q2
      rw [if_pos q2'] at hk
      exact hk h1 R rfl r1 w1
end Go.G.Ytpjklfmfgmicaaa
