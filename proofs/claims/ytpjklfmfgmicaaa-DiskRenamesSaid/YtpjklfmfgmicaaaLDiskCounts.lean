/- DiskCounts by the evaluator. -/
import Derived.Test.YtpjklfmfgmicaaaDT
import Derived.Test.YtpjklfmfgmicaaaLT
import Derived.Test.YtpjklfmfgmicaaaProg
set_option maxRecDepth 100000
namespace Go.G.Ytpjklfmfgmicaaa
open Go.RowKit
def f5_J : Nat → List Nat × Nat := jOf [(9, [4, 5, 6, 7, 8, 11, 12, 13, 14, 15, 16, 17, 18, 19, 20, 21, 22, 23, 24, 25, 26, 27, 28, 29, 30, 31, 32, 33, 34, 35, 36, 37, 38, 39, 40, 41, 42, 43, 44, 45, 46, 47, 48, 49, 50, 51, 52, 53, 54, 55, 56, 57, 58, 59, 60, 61, 62, 63, 64, 65, 66, 67, 68, 69, 70, 71, 72, 73, 74, 75, 76, 77, 78, 79, 80, 81, 82, 83, 84, 85, 86, 87, 88, 89, 90, 91, 92, 93, 94, 95, 96, 97, 98, 99, 100, 101, 102, 103, 104], 0), (14, [4, 5, 6, 7, 8, 13, 14, 15, 16, 17, 18, 19, 20, 21, 22, 23, 24, 25, 26, 27, 28, 29, 30, 31, 32, 33, 34, 35, 36, 37, 38, 39, 40, 41, 42, 43, 44, 45, 46, 47, 48, 49, 50, 51, 52, 53, 54, 55, 56, 57, 58, 59, 60, 61, 63, 64, 65, 66, 67, 68, 69, 70, 71, 72, 73, 74, 75, 76, 77, 78, 79, 80, 81, 82, 83, 84, 85, 86, 87, 88, 89, 90, 91, 92, 93, 94, 95, 96, 97, 98, 99, 100, 101, 102, 103, 104], 0), (15, [4, 5, 6, 7, 8, 13, 14, 15, 16, 17, 18, 19, 20, 21, 22, 23, 24, 25, 26, 27, 28, 29, 30, 31, 32, 33, 34, 35, 36, 37, 38, 39, 40, 41, 42, 43, 44, 45, 46, 47, 48, 49, 50, 51, 52, 53, 54, 55, 56, 57, 58, 59, 60, 61, 62, 63, 64, 65, 66, 67, 68, 69, 70, 71, 72, 73, 74, 75, 76, 77, 78, 79, 80, 81, 82, 83, 84, 85, 86, 87, 88, 89, 90, 91, 92, 93, 94, 95, 96, 97, 98, 99, 100, 101, 102, 103, 104], 0), (16, [4, 5, 6, 7, 8, 13, 14, 15, 16, 17, 18, 19, 20, 21, 22, 23, 24, 25, 26, 27, 28, 29, 30, 31, 32, 33, 34, 35, 36, 37, 38, 39, 40, 41, 42, 43, 44, 45, 46, 47, 48, 49, 50, 51, 52, 53, 54, 55, 56, 57, 58, 59, 60, 61, 62, 63, 64, 65, 66, 67, 68, 70, 71, 72, 73, 74, 75, 76, 77, 78, 79, 80, 81, 82, 83, 84, 85, 86, 87, 88, 89, 90, 91, 92, 93, 94, 95, 96, 97, 98, 99, 100, 101, 102, 103, 104], 0), (17, [4, 5, 6, 7, 8, 13, 14, 15, 16, 17, 18, 19, 20, 21, 22, 23, 24, 25, 26, 27, 28, 29, 30, 31, 32, 33, 34, 35, 36, 37, 38, 39, 40, 41, 42, 43, 44, 45, 46, 47, 48, 49, 50, 51, 52, 53, 54, 55, 56, 57, 58, 59, 60, 61, 62, 63, 64, 65, 66, 67, 68, 69, 70, 71, 72, 73, 74, 75, 76, 77, 78, 79, 80, 81, 82, 83, 84, 85, 86, 87, 88, 89, 90, 91, 92, 93, 94, 95, 96, 97, 98, 99, 100, 101, 102, 103, 104], 0), (18, [4, 5, 6, 7, 8, 11, 12, 13, 14, 15, 16, 17, 18, 19, 20, 21, 22, 23, 24, 25, 26, 27, 28, 29, 30, 31, 32, 33, 34, 35, 36, 37, 38, 39, 40, 41, 42, 43, 44, 45, 46, 47, 48, 49, 50, 51, 52, 53, 54, 55, 56, 57, 58, 59, 60, 61, 62, 63, 64, 65, 66, 67, 68, 69, 70, 71, 72, 73, 74, 75, 76, 77, 78, 79, 80, 81, 82, 83, 84, 85, 86, 87, 88, 89, 90, 92, 93, 94, 95, 96, 97, 98, 99, 100, 101, 102, 103, 104], 0)]

def f5_9 (w0 : World) (K : Value → AH → Prop) (x0 : Int) (x1 : Int) (x2 : Int) (x3 : Int) (x9 : Option Go.Addr) (x10 : Int) (h : AH) : Prop :=
  ∀ j : Nat → Value, LPk Go.Proofs.Try.prog w0 (EvC Go.Proofs.Try.prog w0) f5_J 5 K 9 [.v (.int .i64 x0), .v (.int .i64 x1), .v (.int .i64 x2), .v (.int .i64 x3), .v (j 4), .v (j 5), .v (j 6), .v (j 7), .v (j 8), .v (.pointer x9), .v (.int .i64 x10), .v (j 11), .v (j 12), .v (j 13), .v (j 14), .v (j 15), .v (j 16), .v (j 17), .v (j 18), .v (j 19), .v (j 20), .v (j 21), .v (j 22), .v (j 23), .v (j 24), .v (j 25), .v (j 26), .v (j 27), .v (j 28), .v (j 29), .v (j 30), .v (j 31), .v (j 32), .v (j 33), .v (j 34), .v (j 35), .v (j 36), .v (j 37), .v (j 38), .v (j 39), .v (j 40), .v (j 41), .v (j 42), .v (j 43), .v (j 44), .v (j 45), .v (j 46), .v (j 47), .v (j 48), .v (j 49), .v (j 50), .v (j 51), .v (j 52), .v (j 53), .v (j 54), .v (j 55), .v (j 56), .v (j 57), .v (j 58), .v (j 59), .v (j 60), .v (j 61), .v (j 62), .v (j 63), .v (j 64), .v (j 65), .v (j 66), .v (j 67), .v (j 68), .v (j 69), .v (j 70), .v (j 71), .v (j 72), .v (j 73), .v (j 74), .v (j 75), .v (j 76), .v (j 77), .v (j 78), .v (j 79), .v (j 80), .v (j 81), .v (j 82), .v (j 83), .v (j 84), .v (j 85), .v (j 86), .v (j 87), .v (j 88), .v (j 89), .v (j 90), .v (j 91), .v (j 92), .v (j 93), .v (j 94), .v (j 95), .v (j 96), .v (j 97), .v (j 98), .v (j 99), .v (j 100), .v (j 101), .v (j 102), .v (j 103), .v (j 104)] [] h

def f5_14 (w0 : World) (K : Value → AH → Prop) (x0 : Int) (x1 : Int) (x2 : Int) (x3 : Int) (x9 : Option Go.Addr) (x10 : Int) (x11 : Int) (x12 : Int) (x62 : Bool) (h : AH) : Prop :=
  ∀ j : Nat → Value, LPk Go.Proofs.Try.prog w0 (EvC Go.Proofs.Try.prog w0) f5_J 5 K 14 [.v (.int .i64 x0), .v (.int .i64 x1), .v (.int .i64 x2), .v (.int .i64 x3), .v (j 4), .v (j 5), .v (j 6), .v (j 7), .v (j 8), .v (.pointer x9), .v (.int .i64 x10), .v (.int .i64 x11), .v (.int .i64 x12), .v (j 13), .v (j 14), .v (j 15), .v (j 16), .v (j 17), .v (j 18), .v (j 19), .v (j 20), .v (j 21), .v (j 22), .v (j 23), .v (j 24), .v (j 25), .v (j 26), .v (j 27), .v (j 28), .v (j 29), .v (j 30), .v (j 31), .v (j 32), .v (j 33), .v (j 34), .v (j 35), .v (j 36), .v (j 37), .v (j 38), .v (j 39), .v (j 40), .v (j 41), .v (j 42), .v (j 43), .v (j 44), .v (j 45), .v (j 46), .v (j 47), .v (j 48), .v (j 49), .v (j 50), .v (j 51), .v (j 52), .v (j 53), .v (j 54), .v (j 55), .v (j 56), .v (j 57), .v (j 58), .v (j 59), .v (j 60), .v (j 61), .v (.bool x62), .v (j 63), .v (j 64), .v (j 65), .v (j 66), .v (j 67), .v (j 68), .v (j 69), .v (j 70), .v (j 71), .v (j 72), .v (j 73), .v (j 74), .v (j 75), .v (j 76), .v (j 77), .v (j 78), .v (j 79), .v (j 80), .v (j 81), .v (j 82), .v (j 83), .v (j 84), .v (j 85), .v (j 86), .v (j 87), .v (j 88), .v (j 89), .v (j 90), .v (j 91), .v (j 92), .v (j 93), .v (j 94), .v (j 95), .v (j 96), .v (j 97), .v (j 98), .v (j 99), .v (j 100), .v (j 101), .v (j 102), .v (j 103), .v (j 104)] [] h

def f5_15 (w0 : World) (K : Value → AH → Prop) (x0 : Int) (x1 : Int) (x2 : Int) (x3 : Int) (x9 : Option Go.Addr) (x10 : Int) (x11 : Int) (x12 : Int) (h : AH) : Prop :=
  ∀ j : Nat → Value, LPk Go.Proofs.Try.prog w0 (EvC Go.Proofs.Try.prog w0) f5_J 5 K 15 [.v (.int .i64 x0), .v (.int .i64 x1), .v (.int .i64 x2), .v (.int .i64 x3), .v (j 4), .v (j 5), .v (j 6), .v (j 7), .v (j 8), .v (.pointer x9), .v (.int .i64 x10), .v (.int .i64 x11), .v (.int .i64 x12), .v (j 13), .v (j 14), .v (j 15), .v (j 16), .v (j 17), .v (j 18), .v (j 19), .v (j 20), .v (j 21), .v (j 22), .v (j 23), .v (j 24), .v (j 25), .v (j 26), .v (j 27), .v (j 28), .v (j 29), .v (j 30), .v (j 31), .v (j 32), .v (j 33), .v (j 34), .v (j 35), .v (j 36), .v (j 37), .v (j 38), .v (j 39), .v (j 40), .v (j 41), .v (j 42), .v (j 43), .v (j 44), .v (j 45), .v (j 46), .v (j 47), .v (j 48), .v (j 49), .v (j 50), .v (j 51), .v (j 52), .v (j 53), .v (j 54), .v (j 55), .v (j 56), .v (j 57), .v (j 58), .v (j 59), .v (j 60), .v (j 61), .v (j 62), .v (j 63), .v (j 64), .v (j 65), .v (j 66), .v (j 67), .v (j 68), .v (j 69), .v (j 70), .v (j 71), .v (j 72), .v (j 73), .v (j 74), .v (j 75), .v (j 76), .v (j 77), .v (j 78), .v (j 79), .v (j 80), .v (j 81), .v (j 82), .v (j 83), .v (j 84), .v (j 85), .v (j 86), .v (j 87), .v (j 88), .v (j 89), .v (j 90), .v (j 91), .v (j 92), .v (j 93), .v (j 94), .v (j 95), .v (j 96), .v (j 97), .v (j 98), .v (j 99), .v (j 100), .v (j 101), .v (j 102), .v (j 103), .v (j 104)] [] h

def f5_16 (w0 : World) (K : Value → AH → Prop) (x0 : Int) (x1 : Int) (x2 : Int) (x3 : Int) (x9 : Option Go.Addr) (x10 : Int) (x11 : Int) (x12 : Int) (x69 : Bool) (h : AH) : Prop :=
  ∀ j : Nat → Value, LPk Go.Proofs.Try.prog w0 (EvC Go.Proofs.Try.prog w0) f5_J 5 K 16 [.v (.int .i64 x0), .v (.int .i64 x1), .v (.int .i64 x2), .v (.int .i64 x3), .v (j 4), .v (j 5), .v (j 6), .v (j 7), .v (j 8), .v (.pointer x9), .v (.int .i64 x10), .v (.int .i64 x11), .v (.int .i64 x12), .v (j 13), .v (j 14), .v (j 15), .v (j 16), .v (j 17), .v (j 18), .v (j 19), .v (j 20), .v (j 21), .v (j 22), .v (j 23), .v (j 24), .v (j 25), .v (j 26), .v (j 27), .v (j 28), .v (j 29), .v (j 30), .v (j 31), .v (j 32), .v (j 33), .v (j 34), .v (j 35), .v (j 36), .v (j 37), .v (j 38), .v (j 39), .v (j 40), .v (j 41), .v (j 42), .v (j 43), .v (j 44), .v (j 45), .v (j 46), .v (j 47), .v (j 48), .v (j 49), .v (j 50), .v (j 51), .v (j 52), .v (j 53), .v (j 54), .v (j 55), .v (j 56), .v (j 57), .v (j 58), .v (j 59), .v (j 60), .v (j 61), .v (j 62), .v (j 63), .v (j 64), .v (j 65), .v (j 66), .v (j 67), .v (j 68), .v (.bool x69), .v (j 70), .v (j 71), .v (j 72), .v (j 73), .v (j 74), .v (j 75), .v (j 76), .v (j 77), .v (j 78), .v (j 79), .v (j 80), .v (j 81), .v (j 82), .v (j 83), .v (j 84), .v (j 85), .v (j 86), .v (j 87), .v (j 88), .v (j 89), .v (j 90), .v (j 91), .v (j 92), .v (j 93), .v (j 94), .v (j 95), .v (j 96), .v (j 97), .v (j 98), .v (j 99), .v (j 100), .v (j 101), .v (j 102), .v (j 103), .v (j 104)] [] h

def f5_17 (w0 : World) (K : Value → AH → Prop) (x0 : Int) (x1 : Int) (x2 : Int) (x3 : Int) (x9 : Option Go.Addr) (x10 : Int) (x11 : Int) (x12 : Int) (h : AH) : Prop :=
  ∀ j : Nat → Value, LPk Go.Proofs.Try.prog w0 (EvC Go.Proofs.Try.prog w0) f5_J 5 K 17 [.v (.int .i64 x0), .v (.int .i64 x1), .v (.int .i64 x2), .v (.int .i64 x3), .v (j 4), .v (j 5), .v (j 6), .v (j 7), .v (j 8), .v (.pointer x9), .v (.int .i64 x10), .v (.int .i64 x11), .v (.int .i64 x12), .v (j 13), .v (j 14), .v (j 15), .v (j 16), .v (j 17), .v (j 18), .v (j 19), .v (j 20), .v (j 21), .v (j 22), .v (j 23), .v (j 24), .v (j 25), .v (j 26), .v (j 27), .v (j 28), .v (j 29), .v (j 30), .v (j 31), .v (j 32), .v (j 33), .v (j 34), .v (j 35), .v (j 36), .v (j 37), .v (j 38), .v (j 39), .v (j 40), .v (j 41), .v (j 42), .v (j 43), .v (j 44), .v (j 45), .v (j 46), .v (j 47), .v (j 48), .v (j 49), .v (j 50), .v (j 51), .v (j 52), .v (j 53), .v (j 54), .v (j 55), .v (j 56), .v (j 57), .v (j 58), .v (j 59), .v (j 60), .v (j 61), .v (j 62), .v (j 63), .v (j 64), .v (j 65), .v (j 66), .v (j 67), .v (j 68), .v (j 69), .v (j 70), .v (j 71), .v (j 72), .v (j 73), .v (j 74), .v (j 75), .v (j 76), .v (j 77), .v (j 78), .v (j 79), .v (j 80), .v (j 81), .v (j 82), .v (j 83), .v (j 84), .v (j 85), .v (j 86), .v (j 87), .v (j 88), .v (j 89), .v (j 90), .v (j 91), .v (j 92), .v (j 93), .v (j 94), .v (j 95), .v (j 96), .v (j 97), .v (j 98), .v (j 99), .v (j 100), .v (j 101), .v (j 102), .v (j 103), .v (j 104)] [] h

def f5_18 (w0 : World) (K : Value → AH → Prop) (x0 : Int) (x1 : Int) (x2 : Int) (x3 : Int) (x9 : Option Go.Addr) (x10 : Int) (x91 : Bool) (h : AH) : Prop :=
  ∀ j : Nat → Value, LPk Go.Proofs.Try.prog w0 (EvC Go.Proofs.Try.prog w0) f5_J 5 K 18 [.v (.int .i64 x0), .v (.int .i64 x1), .v (.int .i64 x2), .v (.int .i64 x3), .v (j 4), .v (j 5), .v (j 6), .v (j 7), .v (j 8), .v (.pointer x9), .v (.int .i64 x10), .v (j 11), .v (j 12), .v (j 13), .v (j 14), .v (j 15), .v (j 16), .v (j 17), .v (j 18), .v (j 19), .v (j 20), .v (j 21), .v (j 22), .v (j 23), .v (j 24), .v (j 25), .v (j 26), .v (j 27), .v (j 28), .v (j 29), .v (j 30), .v (j 31), .v (j 32), .v (j 33), .v (j 34), .v (j 35), .v (j 36), .v (j 37), .v (j 38), .v (j 39), .v (j 40), .v (j 41), .v (j 42), .v (j 43), .v (j 44), .v (j 45), .v (j 46), .v (j 47), .v (j 48), .v (j 49), .v (j 50), .v (j 51), .v (j 52), .v (j 53), .v (j 54), .v (j 55), .v (j 56), .v (j 57), .v (j 58), .v (j 59), .v (j 60), .v (j 61), .v (j 62), .v (j 63), .v (j 64), .v (j 65), .v (j 66), .v (j 67), .v (j 68), .v (j 69), .v (j 70), .v (j 71), .v (j 72), .v (j 73), .v (j 74), .v (j 75), .v (j 76), .v (j 77), .v (j 78), .v (j 79), .v (j 80), .v (j 81), .v (j 82), .v (j 83), .v (j 84), .v (j 85), .v (j 86), .v (j 87), .v (j 88), .v (j 89), .v (j 90), .v (.bool x91), .v (j 92), .v (j 93), .v (j 94), .v (j 95), .v (j 96), .v (j 97), .v (j 98), .v (j 99), .v (j 100), .v (j 101), .v (j 102), .v (j 103), .v (j 104)] [] h

theorem f5_9_in {w0 : World} {K : Value → AH → Prop} (x0 : Int) (x1 : Int) (x2 : Int) (x3 : Int) (x9 : Option Go.Addr) (x10 : Int) (h : AH)
  (hv : (brB (decide ((x10 ≤ x3))) (newB w0 h (Go.G.AB.cells [(Go.Value.int .u8 (120 : Int))] 1) (fun b'10 h'11 => (EvC Go.Proofs.Try.prog w0 16 #[(Go.Value.pointer x9), (Go.Value.string (ByteArray.mk #[(102 : UInt8)])), (Go.Value.slice (some (Go.Addr.mk b'10 0 none)) 1 1)] (fun x'12 h'13 => (∃ i'14 : Int, ((x'12 = (Go.Value.int .i64 i'14)) ∧ (brB (decide (((1 : Int) ≤ x1))) (brB (decide ((x1 ≤ x10))) (f5_14 w0 K x0 x1 x2 x3 x9 x10 i'14 (0 : Int) (decide ((x10 < (Go.IntKind.wrap .i64 (x1 + x2))))) h'13) (f5_14 w0 K x0 x1 x2 x3 x9 x10 i'14 (0 : Int) false h'13)) (f5_14 w0 K x0 x1 x2 x3 x9 x10 i'14 (0 : Int) false h'13))))) h'11))) (EvC Go.Proofs.Try.prog w0 28 #[(Go.Value.pointer x9), (Go.Value.slice none 0 0)] (fun x'15 h'16 => ((x'15 = (Go.Value.tuple #[])) ∧ (EvC Go.Proofs.Try.prog w0 27 #[(Go.Value.pointer x9)] (fun x'17 h'18 => (∃ t'19 : Bool, ((x'17 = (Go.Value.bool t'19)) ∧ (brB (!t'19) (EvC Go.Proofs.Try.prog w0 14 #[(Go.Value.pointer x9), (Go.Value.string (ByteArray.mk #[(103 : UInt8)]))] (fun x'20 h'21 => (∃ i'22 : Int, ((x'20 = (Go.Value.int .i64 i'22)) ∧ (brB (i'22 == (0 : Int)) (EvC Go.Proofs.Try.prog w0 20 #[] (fun x'23 h'24 => (∃ t'25 : Bool, ((x'23 = (Go.Value.bool t'25)) ∧ (K (Go.Value.bool t'25) h'24)))) h'21) (K (Go.Value.bool false) h'21))))) h'18) (K (Go.Value.bool false) h'18))))) h'16))) h))) :
  f5_9 w0 K x0 x1 x2 x3 x9 x10 h := fun j => LP_intro (P := Go.Proofs.Try.prog) (Eq.mp (by kernel_rfl) hv)

theorem f5_14_in {w0 : World} {K : Value → AH → Prop} (x0 : Int) (x1 : Int) (x2 : Int) (x3 : Int) (x9 : Option Go.Addr) (x10 : Int) (x11 : Int) (x12 : Int) (x62 : Bool) (h : AH)
  (hv : (brB x62 (f5_15 w0 K x0 x1 x2 x3 x9 x10 x11 (9 : Int) h) (f5_15 w0 K x0 x1 x2 x3 x9 x10 x11 x12 h))) :
  f5_14 w0 K x0 x1 x2 x3 x9 x10 x11 x12 x62 h := fun j => LP_intro (P := Go.Proofs.Try.prog) (Eq.mp (by kernel_rfl) hv)

theorem f5_15_in {w0 : World} {K : Value → AH → Prop} (x0 : Int) (x1 : Int) (x2 : Int) (x3 : Int) (x9 : Option Go.Addr) (x10 : Int) (x11 : Int) (x12 : Int) (h : AH)
  (hv : (brB (decide (((1 : Int) ≤ x0))) (f5_16 w0 K x0 x1 x2 x3 x9 x10 x11 x12 (decide ((x0 ≤ x10))) h) (f5_16 w0 K x0 x1 x2 x3 x9 x10 x11 x12 false h))) :
  f5_15 w0 K x0 x1 x2 x3 x9 x10 x11 x12 h := fun j => LP_intro (P := Go.Proofs.Try.prog) (Eq.mp (by kernel_rfl) hv)

theorem f5_16_in {w0 : World} {K : Value → AH → Prop} (x0 : Int) (x1 : Int) (x2 : Int) (x3 : Int) (x9 : Option Go.Addr) (x10 : Int) (x11 : Int) (x12 : Int) (x69 : Bool) (h : AH)
  (hv : (brB x69 (f5_17 w0 K x0 x1 x2 x3 x9 x10 x11 (10 : Int) h) (f5_17 w0 K x0 x1 x2 x3 x9 x10 x11 x12 h))) :
  f5_16 w0 K x0 x1 x2 x3 x9 x10 x11 x12 x69 h := fun j => LP_intro (P := Go.Proofs.Try.prog) (Eq.mp (by kernel_rfl) hv)

theorem f5_17_in {w0 : World} {K : Value → AH → Prop} (x0 : Int) (x1 : Int) (x2 : Int) (x3 : Int) (x9 : Option Go.Addr) (x10 : Int) (x11 : Int) (x12 : Int) (h : AH)
  (hv : (brB (x11 != x12) (f5_18 w0 K x0 x1 x2 x3 x9 x10 true h) (EvC Go.Proofs.Try.prog w0 26 #[(Go.Value.pointer x9)] (fun x'26 h'27 => (∃ i'28 : Int, ((x'26 = (Go.Value.int .i64 i'28)) ∧ (brB (i'28 != (Go.IntKind.wrap .i64 (x10 + (1 : Int)))) (f5_18 w0 K x0 x1 x2 x3 x9 x10 true h'27) (EvC Go.Proofs.Try.prog w0 27 #[(Go.Value.pointer x9)] (fun x'29 h'30 => (∃ t'31 : Bool, ((x'29 = (Go.Value.bool t'31)) ∧ (brB (decide (((1 : Int) ≤ x0))) (f5_18 w0 K x0 x1 x2 x3 x9 x10 (t'31 != (decide ((x0 ≤ x10)))) h'30) (f5_18 w0 K x0 x1 x2 x3 x9 x10 (t'31 != false) h'30))))) h'27))))) h))) :
  f5_17 w0 K x0 x1 x2 x3 x9 x10 x11 x12 h := fun j => LP_intro (P := Go.Proofs.Try.prog) (Eq.mp (by kernel_rfl) hv)

theorem f5_18_in {w0 : World} {K : Value → AH → Prop} (x0 : Int) (x1 : Int) (x2 : Int) (x3 : Int) (x9 : Option Go.Addr) (x10 : Int) (x91 : Bool) (h : AH)
  (hv : (brB x91 (K (Go.Value.bool false) h) (f5_9 w0 K x0 x1 x2 x3 x9 (Go.IntKind.wrap .i64 (x10 + (1 : Int))) h))) :
  f5_18 w0 K x0 x1 x2 x3 x9 x10 x91 h := fun j => LP_intro (P := Go.Proofs.Try.prog) (Eq.mp (by kernel_rfl) hv)

theorem f5_go {w0 : World} {K : Value → AH → Prop} (x0 : Int) (x1 : Int) (x2 : Int) (x3 : Int) (h : AH)
  (hv : (((20 : Int) ≠ (0 : Int)) ∧ (((20 : Int) ≠ (0 : Int)) ∧ (((5 : Int) ≠ (0 : Int)) ∧ (((25 : Int) ≠ (0 : Int)) ∧ (EvC Go.Proofs.Try.prog w0 12 #[(Go.Value.int .i64 (1048576 : Int))] (fun x'0 h'1 => (∃ p'2 : Option Go.Addr, ((x'0 = (Go.Value.pointer p'2)) ∧ (EvC Go.Proofs.Try.prog w0 14 #[(Go.Value.pointer p'2), (Go.Value.string (ByteArray.mk #[(102 : UInt8)]))] (fun x'3 h'4 => (∃ i'5 : Int, ((x'3 = (Go.Value.int .i64 i'5)) ∧ (brB (i'5 != (0 : Int)) (K (Go.Value.bool false) h'4) (EvC Go.Proofs.Try.prog w0 24 #[(Go.Value.pointer p'2), (Go.Value.int .i64 (Go.IntKind.wrap .i64 (Int.tmod (Go.IntKind.wrap .u64 x0) (20 : Int))))] (fun x'6 h'7 => ((x'6 = (Go.Value.tuple #[])) ∧ (EvC Go.Proofs.Try.prog w0 25 #[(Go.Value.pointer p'2), (Go.Value.int .i64 (Go.IntKind.wrap .i64 (Int.tmod (Go.IntKind.wrap .u64 x1) (20 : Int)))), (Go.Value.int .i64 (Go.IntKind.wrap .i64 (Int.tmod (Go.IntKind.wrap .u64 x2) (5 : Int))))] (fun x'8 h'9 => ((x'8 = (Go.Value.tuple #[])) ∧ (f5_9 w0 K (Go.IntKind.wrap .i64 (Int.tmod (Go.IntKind.wrap .u64 x0) (20 : Int))) (Go.IntKind.wrap .i64 (Int.tmod (Go.IntKind.wrap .u64 x1) (20 : Int))) (Go.IntKind.wrap .i64 (Int.tmod (Go.IntKind.wrap .u64 x2) (5 : Int))) (Go.IntKind.wrap .i64 (Int.tmod (Go.IntKind.wrap .u64 x3) (25 : Int))) p'2 (1 : Int) h'9))) h'7))) h'4))))) h'1)))) h)))))) :
  EvC Go.Proofs.Try.prog w0 5 ([(.int .i64 x0), (.int .i64 x1), (.int .i64 x2), (.int .i64 x3)]).toArray K h := EvC_intro (P := Go.Proofs.Try.prog) f5_J (Eq.mp (by kernel_rfl) hv)
/-! ### DiskCounts -/
def nF : ByteArray := ⟨#[102]⟩
theorem create_F : (createS nF (newS 1048576)).1 = 0 := by kernel_rfl
theorem wrapU (x : Int) : IntKind.u64.wrap x = x % 18446744073709551616 := by
  simp [IntKind.wrap, IntKind.signed, IntKind.bits]
theorem modU {x m : Int} (hm : 0 < m) (hm2 : m ≤ 1000000) : 0 ≤ IntKind.i64.wrap (Int.tmod (IntKind.u64.wrap x) m) ∧ IntKind.i64.wrap (Int.tmod (IntKind.u64.wrap x) m) < m := by
  rw [wrapU, Int.tmod_eq_emod_of_nonneg (by omega)]
  have h1 := Int.emod_nonneg (x % 18446744073709551616) (show m ≠ 0 by omega)
  have h2 := Int.emod_lt_of_pos (x % 18446744073709551616) hm
  rw [wrap64 (by omega) (by omega)]
  exact ⟨h1, h2⟩
def sC (all : List UInt8) (c fu wa fa : Int) (off : Bool) : Ds := ⟨1048576, [⟨all, 0⟩], [(nF, 0)], [[], [(nF, 0)]], c, fu, wa, fa, off⟩
theorem find_C (all : List UInt8) (c fu wa fa : Int) (off : Bool) : findD nF (sC all c fu wa fa off).dir = some 0 := by kernel_rfl
theorem used_C (all : List UInt8) (c fu wa fa : Int) (off : Bool) : usedS (sC all c fu wa fa off) = all.length := by simp [usedS, sC, lenAt]
theorem append_off (all : List UInt8) (c fu wa fa : Int) : appendS nF [120] (sC all c fu wa fa true) = (10, sC all (c + 1) fu wa fa true) := rfl
theorem append_fail {all : List UInt8} {c fu wa fa : Int} (h1 : 0 < fa) (h2 : wa ≤ 1) : appendS nF [120] (sC all c fu wa fa false) = (if fu = 1 then 10 else 9, sC all (c + 1) (if 0 < fu then fu - 1 else 0) wa (fa - 1) (decide (fu = 1))) := by
  have hf : failing (sC all c fu wa fa false) = true := by simp [failing, sC, h1, h2]
  unfold appendS callS
  simp only [show (sC all c fu wa fa false).off = false from rfl, hf, Bool.false_eq_true, if_false, if_true]
  by_cases q : fu = 1
  · subst q
    simp [sC, tickS, failing, h1, h2]
  · have q2 : (fu == 1) = false := by simpa using q
    simp only [show (sC all c fu wa fa false).fuse = fu from rfl, q2, Bool.false_eq_true, if_false, q, decide_false]
    simp only [tickS, hf, Bool.not_true, Bool.false_and, if_true, Bool.false_eq_true, if_false, ne_eq, show ¬ ((9 : Int) = 0) by decide, not_false_eq_true]
    rfl
theorem append_fine {all : List UInt8} {c fu wa fa : Int} (h : ¬ (0 < fa ∧ wa ≤ 1)) (hl : all.length ≤ 1000) : appendS nF [120] (sC all c fu wa fa false) = (if fu = 1 then 10 else 0, sC (all ++ [120]) (c + 1) (if 0 < fu then fu - 1 else 0) (if 0 < fa then wa - 1 else wa) fa (decide (fu = 1))) := by
  have hf : failing (sC all c fu wa fa false) = false := by
    cases q : failing (sC all c fu wa fa false) with
    | false => rfl
    | true => exfalso; simp only [failing, sC, Bool.and_eq_true] at q; exact h ⟨of_decide_eq_true q.1, of_decide_eq_true q.2⟩
  have hcall : callS (sC all c fu wa fa false) = (0, fu == 1, sC all (c + 1) (if 0 < fu then fu - 1 else 0) (if 0 < fa then wa - 1 else wa) fa (fu == 1)) := by
    unfold callS
    simp only [show (sC all c fu wa fa false).off = false from rfl, hf, Bool.false_eq_true, if_false]
    simp only [tickS, hf, Bool.not_false, Bool.true_and, Bool.false_eq_true, if_false, decide_eq_true_eq]
    rfl
  unfold appendS
  rw [hcall]
  dsimp only
  rw [find_C, if_neg (by simp), used_C]
  dsimp only
  have hln : lenAt (sC all (c + 1) (if 0 < fu then fu - 1 else 0) (if 0 < fa then wa - 1 else wa) fa (fu == 1)).fs 0 = all.length := by simp [lenAt, sC]
  rw [hln, if_neg]
  · by_cases q : fu = 1
    · subst q; rfl
    · have q2 : (fu == 1) = false := by simpa using q
      rw [q2, if_neg q, decide_eq_false q]; rfl
  · show ¬ (IntKind.i64.wrap (4194304 - (all.length : Nat)) < (([120] : List UInt8).length : Nat) ∨ IntKind.i64.wrap (1048576 - (all.length : Nat)) < (([120] : List UInt8).length : Nat))
    rw [wrap64 (by omega) (by omega), wrap64 (by omega) (by omega)]
    simp; omega
theorem crash_C (all : List UInt8) (c fu wa fa : Int) (off : Bool) : crashS [] (sC all c fu wa fa off) = ⟨1048576, [⟨all, 0⟩], [], [[]], c, 0, 0, 0, false⟩ := rfl
theorem create_G (all : List UInt8) (c : Int) : (createS ⟨#[103]⟩ ⟨1048576, [⟨all, 0⟩], [], [[]], c, 0, 0, 0, false⟩).1 = 0 := by kernel_rfl
theorem fuse_C (n a b : Int) (h : 0 ≤ n) : faultS a b (fuseS n (createS nF (newS 1048576)).2) = sC [] 1 n (if a < 1 ∨ b < 1 then 0 else a) (if a < 1 ∨ b < 1 then 0 else b) false := by
  have e : (createS nF (newS 1048576)).2 = sC [] 1 0 0 0 false := by kernel_rfl
  rw [e]
  have : (if 0 < n then n else 0) = n := by split <;> omega
  simp [fuseS, faultS, sC, this]
/-- Where the faults stand ahead of call i. -/
def FaultAt (fr ct wa fa i : Int) : Prop :=
  ((fr < 1 ∨ ct < 1) ∧ fa = 0) ∨ (1 ≤ fr ∧ 1 ≤ ct ∧ ((i < fr ∧ wa = fr - (i - 1) ∧ fa = ct) ∨ (fr ≤ i ∧ i < fr + ct ∧ wa = 1 ∧ fa = ct - (i - fr)) ∨ (fr + ct ≤ i ∧ fa = 0)))
theorem awakeT {w0 : World} {K : Value → AH → Prop} {h : AH} {B : List (Nat × AB)} (w : Own w0 h B) (hk : ∀ h, K (.bool true) h) : EvC Go.Proofs.Try.prog w0 20 #[] (fun x'24 h'25 => (∃ t'26 : Bool, ((x'24 = (.bool t'26)) ∧ (K (.bool t'26) h'25)))) h := f20_spec w fun h' _ => ⟨_, rfl, hk h'⟩
set_option maxHeartbeats 1000000 in
theorem f5_loop {w0 : World} {K : Value → AH → Prop} {fu fr ct n : Int} (hfu : 0 ≤ fu ∧ fu < 20) (hfr : 0 ≤ fr ∧ fr < 20) (hct : 0 ≤ ct ∧ ct < 5) (hn : 0 ≤ n ∧ n < 25) (hk : ∀ h, K (.bool true) h) :
    ∀ (k : Nat) (i : Int), i + k = n + 1 → 1 ≤ i → ∀ (h : AH) (all : List UInt8) (f wa fa : Int) (off : Bool) (D : PD) (B : List (Nat × AB)), off = decide (1 ≤ fu ∧ fu < i) → (off = false → (fu = 0 ∧ f = 0 ∨ 1 ≤ fu ∧ f = fu - (i - 1)) ∧ FaultAt fr ct wa fa i) → (all.length : Int) ≤ i →
      PRep (sC all i f wa fa off) D → Own w0 h (D.blocks (sC all i f wa fa off) ++ B) → f5_9 w0 K fu fr ct n (some ⟨D.bd, 0, none⟩) i h
  | 0, i, hi, h1, h, all, f, wa, fa, off, D, B, ho, hs, hl, r, w => by
    refine f5_9_in _ _ _ _ _ _ _ (brB_of (fun q => by have := of_decide_eq_true q; omega) fun _ => f28_spec r w (by show i < _; omega) PickOk.nil fun h1 D1 b1 r1 w1 => ⟨rfl, ?_⟩)
    rw [crash_C] at r1 w1
    rw [← b1]
    refine f27_spec w1 ⟨_, rfl, brB_of (fun _ => f14_spec r1 w1 (by show i < _; omega) fun h2 D2 b2 r2 w2 => ⟨_, rfl, ?_⟩) fun q => by cases q⟩
    rw [create_G]
    exact brB_of (fun _ => awakeT w2 hk) fun q => by cases q
  | k + 1, i, hi, h1, h, all, f, wa, fa, off, D, B, ho, hs, hl, r, w => by
    have hw1 : IntKind.i64.wrap (i + 1) = i + 1 := wrap64 (by omega) (by omega)
    have hw2 : IntKind.i64.wrap (fr + ct) = fr + ct := wrap64 (by omega) (by omega)
    refine f5_9_in _ _ _ _ _ _ _ (brB_of (fun _ b hb hbn => ?_) fun q => by have := of_decide_eq_false q; omega)
    have w2 : Own w0 (h.put b (.cells [.int .u8 120] 1)) (D.blocks (sC all i f wa fa off) ++ ((b, .cells [.int .u8 120] 1) :: B)) := (w.new (o := .cells [.int .u8 120] 1) hb hbn).perm List.perm_middle.symm
    refine f16_spec (ys := [120]) r w2 (by show i < _; omega) (fun h' w' j x hj => ?_) (by decide) fun h2 D2 b2 r2 w3 => ⟨_, rfl, ?_⟩
    · match j, hj with
      | 0, hj => simp [u8s] at hj; subst hj; exact ⟨_, rfl, w'.cell0 rfl⟩
      | j + 1, hj => simp [u8s] at hj
    rw [← b2]
    -- what the call answers, and what is behind it
    obtain ⟨e, all', f', wa', fa', off', hap, he, hoff', hs', hl'⟩ : ∃ e all' f' wa' fa' off', appendS nF [120] (sC all i f wa fa off) = (e, sC all' (i + 1) f' wa' fa' off') ∧
        e = (if 1 ≤ fu ∧ fu ≤ i then 10 else if 1 ≤ fr ∧ fr ≤ i ∧ i < fr + ct then 9 else 0) ∧ off' = decide (1 ≤ fu ∧ fu < i + 1) ∧ (off' = false → (fu = 0 ∧ f' = 0 ∨ 1 ≤ fu ∧ f' = fu - (i + 1 - 1)) ∧ FaultAt fr ct wa' fa' (i + 1)) ∧ (all'.length : Int) ≤ i + 1 := by
      cases off with
      | true =>
        have q := of_decide_eq_true ho.symm
        refine ⟨_, _, _, _, _, _, append_off .., ?_, ?_, fun z => (by cases z), by omega⟩
        · rw [if_pos (by omega)]
        · rw [decide_eq_true (by omega)]
      | false =>
        have q := of_decide_eq_false ho.symm
        obtain ⟨hf, hF⟩ := hs rfl
        unfold FaultAt at hF
        by_cases hfail : 0 < fa ∧ wa ≤ 1
        · have hat : 1 ≤ fr ∧ fr ≤ i ∧ i < fr + ct := by omega
          refine ⟨_, _, _, _, _, _, append_fail hfail.1 hfail.2, ?_, ?_, fun z => ⟨?_, ?_⟩, by omega⟩
          · rw [if_pos hat]
            split
            · rw [if_pos (by omega)]
            · rw [if_neg (by omega)]
          · rw [decide_eq_decide]; omega
          · split <;> omega
          · unfold FaultAt; omega
        · have hat : ¬ (1 ≤ fr ∧ fr ≤ i ∧ i < fr + ct) := by omega
          refine ⟨_, _, _, _, _, _, append_fine hfail (by omega), ?_, ?_, fun z => ⟨?_, ?_⟩, by simp; omega⟩
          · rw [if_neg hat]
            split
            · rw [if_pos (by omega)]
            · rw [if_neg (by omega)]
          · rw [decide_eq_decide]; omega
          · split <;> omega
          · unfold FaultAt; split <;> omega
    have hap' : appendS ⟨#[102]⟩ [120] (sC all i f wa fa off) = (e, sC all' (i + 1) f' wa' fa' off') := hap
    rw [hap'] at r2 w3 ⊢
    dsimp only at r2 w3 ⊢
    have ih : ∀ h', Own w0 h' (D2.blocks (sC all' (i + 1) f' wa' fa' off') ++ ((b, .cells [.int .u8 120] 1) :: B)) → f5_9 w0 K fu fr ct n (some ⟨D2.bd, 0, none⟩) (i + 1) h' := fun h' w' =>
      f5_loop hfu hfr hct hn hk k (i + 1) (by omega) (by omega) h' all' f' wa' fa' off' D2 _ hoff' hs' hl' r2 w'
    have g18 : ∀ h' x, Own w0 h' (D2.blocks (sC all' (i + 1) f' wa' fa' off') ++ ((b, .cells [.int .u8 120] 1) :: B)) → x = false → f5_18 w0 K fu fr ct n (some ⟨D2.bd, 0, none⟩) i x h' := fun h' x w' hx => by
      subst hx
      exact f5_18_in _ _ _ _ _ _ _ _ (brB_of (fun q => by cases q) fun _ => by rw [hw1]; exact ih h' w')
    have g17 : ∀ h' v, Own w0 h' (D2.blocks (sC all' (i + 1) f' wa' fa' off') ++ ((b, .cells [.int .u8 120] 1) :: B)) → v = e → f5_17 w0 K fu fr ct n (some ⟨D2.bd, 0, none⟩) i e v h' := fun h' v w' hv => by
      subst hv
      refine f5_17_in _ _ _ _ _ _ _ _ _ (brB_of (fun q => by simp at q) fun _ => f26_spec w' ⟨_, rfl, ?_⟩)
      rw [hw1]
      refine brB_of (fun q => by simp [sC] at q) fun _ => f27_spec w' ⟨_, rfl, ?_⟩
      show brB (decide (1 ≤ fu)) (f5_18 w0 K fu fr ct n (some ⟨D2.bd, 0, none⟩) i (off' != decide (fu ≤ i)) h') (f5_18 w0 K fu fr ct n (some ⟨D2.bd, 0, none⟩) i (off' != false) h')
      refine brB_of (fun q => g18 _ _ w' ?_) fun q => g18 _ _ w' ?_
      · have := of_decide_eq_true q
        rw [hoff']
        have e1 : decide (1 ≤ fu ∧ fu < i + 1) = decide (fu ≤ i) := by rw [decide_eq_decide]; omega
        rw [e1]; simp
      · have := of_decide_eq_false q
        rw [hoff', decide_eq_false (by omega)]; rfl
    have g16 : ∀ h' v x, Own w0 h' (D2.blocks (sC all' (i + 1) f' wa' fa' off') ++ ((b, .cells [.int .u8 120] 1) :: B)) → (if x = true then (10 : Int) else v) = e → f5_16 w0 K fu fr ct n (some ⟨D2.bd, 0, none⟩) i e v x h' := fun h' v x w' hv =>
      f5_16_in _ _ _ _ _ _ _ _ _ _ (brB_of (fun q => g17 _ _ w' (by rw [if_pos q] at hv; exact hv)) fun q => g17 _ _ w' (by rw [if_neg (by simp [q])] at hv; exact hv))
    have g15 : ∀ h' v, Own w0 h' (D2.blocks (sC all' (i + 1) f' wa' fa' off') ++ ((b, .cells [.int .u8 120] 1) :: B)) → (if 1 ≤ fu ∧ fu ≤ i then (10 : Int) else v) = e → f5_15 w0 K fu fr ct n (some ⟨D2.bd, 0, none⟩) i e v h' := fun h' v w' hv =>
      f5_15_in _ _ _ _ _ _ _ _ _ (brB_of (fun q => g16 _ _ _ w' (by have := of_decide_eq_true q; rw [← hv]; simp [this])) fun q => g16 _ _ _ w' (by have := of_decide_eq_false q; rw [← hv]; simp only [Bool.false_eq_true, if_false]; rw [if_neg (by omega)]))
    have g14 : ∀ h' x, Own w0 h' (D2.blocks (sC all' (i + 1) f' wa' fa' off') ++ ((b, .cells [.int .u8 120] 1) :: B)) → x = decide (1 ≤ fr ∧ fr ≤ i ∧ i < fr + ct) → f5_14 w0 K fu fr ct n (some ⟨D2.bd, 0, none⟩) i e 0 x h' := fun h' x w' hx => by
      subst hx
      refine f5_14_in _ _ _ _ _ _ _ _ _ _ (brB_of (fun q => g15 _ _ w' ?_) fun q => g15 _ _ w' ?_)
      · rw [he, if_pos (of_decide_eq_true q)]
      · rw [he, if_neg (of_decide_eq_false q)]
    rw [hw2]
    refine brB_of (fun q1 => brB_of (fun q2 => g14 _ _ w3 ?_) fun q2 => g14 _ _ w3 ?_) fun q1 => g14 _ _ w3 ?_
    · have := of_decide_eq_true q1
      have := of_decide_eq_true q2
      rw [decide_eq_decide]; omega
    · have := of_decide_eq_false q2
      rw [decide_eq_false (by omega)]
    · have := of_decide_eq_false q1
      rw [decide_eq_false (by omega)]
/-- DiskCounts. -/
theorem f5_spec {w0 : World} {K : Value → AH → Prop} {x0 x1 x2 x3 : Int} (hk : ∀ h, K (.bool true) h) : EvC Go.Proofs.Try.prog w0 5 #[.int .i64 x0, .int .i64 x1, .int .i64 x2, .int .i64 x3] K (fun _ => none) := by
  have m0 := modU (x := x0) (m := 20) (by decide) (by decide)
  have m1 := modU (x := x1) (m := 20) (by decide) (by decide)
  have m2 := modU (x := x2) (m := 5) (by decide) (by decide)
  have m3 := modU (x := x3) (m := 25) (by decide) (by decide)
  refine f5_go _ _ _ _ _ ⟨by decide, by decide, by decide, by decide, f12_spec (B := []) (by decide) Own.nil fun h1 D1 r1 w1 => ⟨_, rfl, f14_spec r1 w1 (by decide) fun h2 D2 b2 r2 w2 => ⟨_, rfl, ?_⟩⟩⟩
  rw [show (⟨#[102]⟩ : ByteArray) = nF from rfl] at r2 w2 ⊢
  rw [create_F]
  generalize IntKind.i64.wrap (Int.tmod (IntKind.u64.wrap x0) 20) = fu at m0 ⊢
  generalize IntKind.i64.wrap (Int.tmod (IntKind.u64.wrap x1) 20) = fr at m1 ⊢
  generalize IntKind.i64.wrap (Int.tmod (IntKind.u64.wrap x2) 5) = ct at m2 ⊢
  generalize IntKind.i64.wrap (Int.tmod (IntKind.u64.wrap x3) 25) = n at m3 ⊢
  rw [← b2]
  refine brB_of (fun q => by cases q) fun _ => f24_spec r2 w2 (by omega) fun h3 r3 w3 => ⟨rfl, f25_spec r3 w3 (by omega) (by omega) fun h4 r4 w4 => ⟨rfl, ?_⟩⟩
  rw [fuse_C _ _ _ m0.1] at r4 w4
  refine f5_loop m0 m1 m2 m3 hk n.toNat 1 (by omega) (Int.le_refl _) h4 [] fu _ _ false D2 [] ?_ (fun _ => ⟨by omega, ?_⟩) (by decide) r4 w4
  · rw [decide_eq_false (by omega)]
  · unfold FaultAt
    by_cases q : fr < 1 ∨ ct < 1
    · rw [if_pos q]; exact .inl ⟨q, rfl⟩
    · rw [if_neg q, if_neg q]
      right; omega
end Go.G.Ytpjklfmfgmicaaa
