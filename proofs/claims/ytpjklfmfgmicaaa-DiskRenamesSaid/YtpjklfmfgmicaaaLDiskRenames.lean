/- DiskRenames by the evaluator. -/
import Derived.Test.YtpjklfmfgmicaaaLDiskCounts
import Derived.Test.YtpjklfmfgmicaaaProg
set_option maxRecDepth 100000
namespace Go.G.Ytpjklfmfgmicaaa
open Go.RowKit
def f6_J : Nat → List Nat × Nat := jOf [(2, [4, 5, 6, 7, 8, 9, 10, 11, 12, 13, 14, 15, 16, 17, 18, 19, 21, 22, 23, 24, 25, 26, 27, 28, 29, 30, 31, 32, 33, 34, 35, 36, 37, 38, 39, 40, 41, 42, 43, 44, 45, 46, 47, 48, 49, 50, 51, 52, 53, 54, 55, 56, 57, 58, 59, 60, 61, 62, 63, 64, 65, 66, 67, 68, 69, 70, 71, 72, 73, 74, 75, 76, 77, 78, 79, 80, 81, 82, 83, 84, 85, 86, 87, 88, 89, 90, 91, 92, 93, 94, 95, 96, 97, 98, 99, 100, 101, 102, 103, 104, 105], 0), (3, [4, 5, 6, 7, 8, 9, 10, 11, 12, 13, 14, 15, 16, 17, 18, 19, 20, 21, 22, 23, 24, 25, 26, 27, 28, 29, 30, 31, 32, 33, 34, 35, 36, 37, 38, 39, 40, 41, 42, 43, 44, 45, 46, 47, 48, 49, 50, 51, 52, 53, 54, 55, 56, 57, 58, 59, 60, 61, 62, 63, 64, 65, 66, 67, 68, 69, 70, 71, 72, 73, 74, 75, 76, 77, 78, 79, 80, 81, 82, 83, 84, 85, 86, 87, 88, 89, 90, 91, 92, 93, 94, 95, 96, 97, 98, 99, 100, 101, 102, 103, 104, 105], 0), (5, [4, 5, 6, 7, 8, 10, 11, 12, 13, 14, 15, 16, 17, 18, 19, 20, 21, 22, 23, 24, 25, 26, 27, 28, 29, 30, 31, 32, 33, 34, 35, 36, 37, 38, 39, 40, 42, 43, 44, 45, 46, 47, 48, 49, 50, 51, 52, 53, 54, 55, 56, 57, 58, 59, 60, 61, 62, 63, 64, 65, 66, 67, 68, 69, 70, 71, 72, 73, 74, 75, 76, 77, 78, 79, 80, 81, 82, 83, 84, 85, 86, 87, 88, 89, 90, 91, 92, 93, 94, 95, 96, 97, 98, 99, 100, 101, 102, 103, 104, 105], 0), (6, [4, 5, 6, 7, 8, 10, 11, 12, 13, 14, 15, 16, 17, 18, 19, 20, 21, 22, 23, 24, 25, 26, 27, 28, 29, 30, 31, 32, 33, 34, 35, 36, 37, 38, 39, 40, 41, 42, 43, 44, 45, 46, 47, 48, 49, 50, 51, 52, 53, 54, 55, 56, 57, 58, 59, 60, 61, 62, 63, 64, 65, 66, 67, 68, 69, 70, 71, 72, 73, 74, 75, 76, 77, 78, 79, 80, 81, 82, 83, 84, 85, 86, 87, 88, 89, 90, 91, 92, 93, 94, 95, 96, 97, 98, 99, 100, 101, 102, 103, 104, 105], 0), (8, [2, 4, 5, 6, 7, 8, 11, 12, 13, 14, 15, 16, 17, 18, 19, 20, 21, 22, 23, 24, 25, 26, 27, 28, 29, 30, 31, 32, 33, 34, 35, 36, 37, 38, 39, 40, 41, 42, 43, 44, 45, 46, 47, 48, 49, 50, 51, 52, 53, 54, 55, 56, 57, 58, 59, 60, 61, 62, 63, 64, 65, 66, 67, 68, 69, 70, 71, 72, 73, 74, 75, 76, 77, 78, 79, 80, 81, 82, 83, 84, 85, 86, 87, 88, 89, 90, 91, 92, 93, 94, 95, 96, 97, 98, 99, 100, 101, 102, 103, 104, 105], 0)]

def f6_2 (w0 : World) (K : Value → AH → Prop) (a0 : Option Go.Addr) (n0 : Nat) (c0 : Nat) (a1 : Option Go.Addr) (n1 : Nat) (c1 : Nat) (x2 : Int) (a3 : Option Go.Addr) (n3 : Nat) (c3 : Nat) (x20 : Bool) (h : AH) : Prop :=
  ∀ j : Nat → Value, LPk Go.Proofs.Try.prog w0 (EvC Go.Proofs.Try.prog w0) f6_J 6 K 2 [.v (.slice a0 n0 c0), .v (.slice a1 n1 c1), .v (.int .i64 x2), .v (.slice a3 n3 c3), .v (j 4), .v (j 5), .v (j 6), .v (j 7), .v (j 8), .v (j 9), .v (j 10), .v (j 11), .v (j 12), .v (j 13), .v (j 14), .v (j 15), .v (j 16), .v (j 17), .v (j 18), .v (j 19), .v (.bool x20), .v (j 21), .v (j 22), .v (j 23), .v (j 24), .v (j 25), .v (j 26), .v (j 27), .v (j 28), .v (j 29), .v (j 30), .v (j 31), .v (j 32), .v (j 33), .v (j 34), .v (j 35), .v (j 36), .v (j 37), .v (j 38), .v (j 39), .v (j 40), .v (j 41), .v (j 42), .v (j 43), .v (j 44), .v (j 45), .v (j 46), .v (j 47), .v (j 48), .v (j 49), .v (j 50), .v (j 51), .v (j 52), .v (j 53), .v (j 54), .v (j 55), .v (j 56), .v (j 57), .v (j 58), .v (j 59), .v (j 60), .v (j 61), .v (j 62), .v (j 63), .v (j 64), .v (j 65), .v (j 66), .v (j 67), .v (j 68), .v (j 69), .v (j 70), .v (j 71), .v (j 72), .v (j 73), .v (j 74), .v (j 75), .v (j 76), .v (j 77), .v (j 78), .v (j 79), .v (j 80), .v (j 81), .v (j 82), .v (j 83), .v (j 84), .v (j 85), .v (j 86), .v (j 87), .v (j 88), .v (j 89), .v (j 90), .v (j 91), .v (j 92), .v (j 93), .v (j 94), .v (j 95), .v (j 96), .v (j 97), .v (j 98), .v (j 99), .v (j 100), .v (j 101), .v (j 102), .v (j 103), .v (j 104), .v (j 105)] [] h

def f6_3 (w0 : World) (K : Value → AH → Prop) (a0 : Option Go.Addr) (n0 : Nat) (c0 : Nat) (a1 : Option Go.Addr) (n1 : Nat) (c1 : Nat) (x2 : Int) (a3 : Option Go.Addr) (n3 : Nat) (c3 : Nat) (h : AH) : Prop :=
  ∀ j : Nat → Value, LPk Go.Proofs.Try.prog w0 (EvC Go.Proofs.Try.prog w0) f6_J 6 K 3 [.v (.slice a0 n0 c0), .v (.slice a1 n1 c1), .v (.int .i64 x2), .v (.slice a3 n3 c3), .v (j 4), .v (j 5), .v (j 6), .v (j 7), .v (j 8), .v (j 9), .v (j 10), .v (j 11), .v (j 12), .v (j 13), .v (j 14), .v (j 15), .v (j 16), .v (j 17), .v (j 18), .v (j 19), .v (j 20), .v (j 21), .v (j 22), .v (j 23), .v (j 24), .v (j 25), .v (j 26), .v (j 27), .v (j 28), .v (j 29), .v (j 30), .v (j 31), .v (j 32), .v (j 33), .v (j 34), .v (j 35), .v (j 36), .v (j 37), .v (j 38), .v (j 39), .v (j 40), .v (j 41), .v (j 42), .v (j 43), .v (j 44), .v (j 45), .v (j 46), .v (j 47), .v (j 48), .v (j 49), .v (j 50), .v (j 51), .v (j 52), .v (j 53), .v (j 54), .v (j 55), .v (j 56), .v (j 57), .v (j 58), .v (j 59), .v (j 60), .v (j 61), .v (j 62), .v (j 63), .v (j 64), .v (j 65), .v (j 66), .v (j 67), .v (j 68), .v (j 69), .v (j 70), .v (j 71), .v (j 72), .v (j 73), .v (j 74), .v (j 75), .v (j 76), .v (j 77), .v (j 78), .v (j 79), .v (j 80), .v (j 81), .v (j 82), .v (j 83), .v (j 84), .v (j 85), .v (j 86), .v (j 87), .v (j 88), .v (j 89), .v (j 90), .v (j 91), .v (j 92), .v (j 93), .v (j 94), .v (j 95), .v (j 96), .v (j 97), .v (j 98), .v (j 99), .v (j 100), .v (j 101), .v (j 102), .v (j 103), .v (j 104), .v (j 105)] [] h

def f6_5 (w0 : World) (K : Value → AH → Prop) (a0 : Option Go.Addr) (n0 : Nat) (c0 : Nat) (a1 : Option Go.Addr) (n1 : Nat) (c1 : Nat) (x2 : Int) (a3 : Option Go.Addr) (n3 : Nat) (c3 : Nat) (x9 : Option Go.Addr) (x41 : Bool) (h : AH) : Prop :=
  ∀ j : Nat → Value, LPk Go.Proofs.Try.prog w0 (EvC Go.Proofs.Try.prog w0) f6_J 6 K 5 [.v (.slice a0 n0 c0), .v (.slice a1 n1 c1), .v (.int .i64 x2), .v (.slice a3 n3 c3), .v (j 4), .v (j 5), .v (j 6), .v (j 7), .v (j 8), .v (.pointer x9), .v (j 10), .v (j 11), .v (j 12), .v (j 13), .v (j 14), .v (j 15), .v (j 16), .v (j 17), .v (j 18), .v (j 19), .v (j 20), .v (j 21), .v (j 22), .v (j 23), .v (j 24), .v (j 25), .v (j 26), .v (j 27), .v (j 28), .v (j 29), .v (j 30), .v (j 31), .v (j 32), .v (j 33), .v (j 34), .v (j 35), .v (j 36), .v (j 37), .v (j 38), .v (j 39), .v (j 40), .v (.bool x41), .v (j 42), .v (j 43), .v (j 44), .v (j 45), .v (j 46), .v (j 47), .v (j 48), .v (j 49), .v (j 50), .v (j 51), .v (j 52), .v (j 53), .v (j 54), .v (j 55), .v (j 56), .v (j 57), .v (j 58), .v (j 59), .v (j 60), .v (j 61), .v (j 62), .v (j 63), .v (j 64), .v (j 65), .v (j 66), .v (j 67), .v (j 68), .v (j 69), .v (j 70), .v (j 71), .v (j 72), .v (j 73), .v (j 74), .v (j 75), .v (j 76), .v (j 77), .v (j 78), .v (j 79), .v (j 80), .v (j 81), .v (j 82), .v (j 83), .v (j 84), .v (j 85), .v (j 86), .v (j 87), .v (j 88), .v (j 89), .v (j 90), .v (j 91), .v (j 92), .v (j 93), .v (j 94), .v (j 95), .v (j 96), .v (j 97), .v (j 98), .v (j 99), .v (j 100), .v (j 101), .v (j 102), .v (j 103), .v (j 104), .v (j 105)] [] h

def f6_6 (w0 : World) (K : Value → AH → Prop) (a0 : Option Go.Addr) (n0 : Nat) (c0 : Nat) (a1 : Option Go.Addr) (n1 : Nat) (c1 : Nat) (x2 : Int) (a3 : Option Go.Addr) (n3 : Nat) (c3 : Nat) (x9 : Option Go.Addr) (h : AH) : Prop :=
  ∀ j : Nat → Value, LPk Go.Proofs.Try.prog w0 (EvC Go.Proofs.Try.prog w0) f6_J 6 K 6 [.v (.slice a0 n0 c0), .v (.slice a1 n1 c1), .v (.int .i64 x2), .v (.slice a3 n3 c3), .v (j 4), .v (j 5), .v (j 6), .v (j 7), .v (j 8), .v (.pointer x9), .v (j 10), .v (j 11), .v (j 12), .v (j 13), .v (j 14), .v (j 15), .v (j 16), .v (j 17), .v (j 18), .v (j 19), .v (j 20), .v (j 21), .v (j 22), .v (j 23), .v (j 24), .v (j 25), .v (j 26), .v (j 27), .v (j 28), .v (j 29), .v (j 30), .v (j 31), .v (j 32), .v (j 33), .v (j 34), .v (j 35), .v (j 36), .v (j 37), .v (j 38), .v (j 39), .v (j 40), .v (j 41), .v (j 42), .v (j 43), .v (j 44), .v (j 45), .v (j 46), .v (j 47), .v (j 48), .v (j 49), .v (j 50), .v (j 51), .v (j 52), .v (j 53), .v (j 54), .v (j 55), .v (j 56), .v (j 57), .v (j 58), .v (j 59), .v (j 60), .v (j 61), .v (j 62), .v (j 63), .v (j 64), .v (j 65), .v (j 66), .v (j 67), .v (j 68), .v (j 69), .v (j 70), .v (j 71), .v (j 72), .v (j 73), .v (j 74), .v (j 75), .v (j 76), .v (j 77), .v (j 78), .v (j 79), .v (j 80), .v (j 81), .v (j 82), .v (j 83), .v (j 84), .v (j 85), .v (j 86), .v (j 87), .v (j 88), .v (j 89), .v (j 90), .v (j 91), .v (j 92), .v (j 93), .v (j 94), .v (j 95), .v (j 96), .v (j 97), .v (j 98), .v (j 99), .v (j 100), .v (j 101), .v (j 102), .v (j 103), .v (j 104), .v (j 105)] [] h

def f6_8 (w0 : World) (K : Value → AH → Prop) (a0 : Option Go.Addr) (n0 : Nat) (c0 : Nat) (a1 : Option Go.Addr) (n1 : Nat) (c1 : Nat) (a3 : Option Go.Addr) (n3 : Nat) (c3 : Nat) (x9 : Option Go.Addr) (x10 : Bool) (h : AH) : Prop :=
  ∀ j : Nat → Value, LPk Go.Proofs.Try.prog w0 (EvC Go.Proofs.Try.prog w0) f6_J 6 K 8 [.v (.slice a0 n0 c0), .v (.slice a1 n1 c1), .v (j 2), .v (.slice a3 n3 c3), .v (j 4), .v (j 5), .v (j 6), .v (j 7), .v (j 8), .v (.pointer x9), .v (.bool x10), .v (j 11), .v (j 12), .v (j 13), .v (j 14), .v (j 15), .v (j 16), .v (j 17), .v (j 18), .v (j 19), .v (j 20), .v (j 21), .v (j 22), .v (j 23), .v (j 24), .v (j 25), .v (j 26), .v (j 27), .v (j 28), .v (j 29), .v (j 30), .v (j 31), .v (j 32), .v (j 33), .v (j 34), .v (j 35), .v (j 36), .v (j 37), .v (j 38), .v (j 39), .v (j 40), .v (j 41), .v (j 42), .v (j 43), .v (j 44), .v (j 45), .v (j 46), .v (j 47), .v (j 48), .v (j 49), .v (j 50), .v (j 51), .v (j 52), .v (j 53), .v (j 54), .v (j 55), .v (j 56), .v (j 57), .v (j 58), .v (j 59), .v (j 60), .v (j 61), .v (j 62), .v (j 63), .v (j 64), .v (j 65), .v (j 66), .v (j 67), .v (j 68), .v (j 69), .v (j 70), .v (j 71), .v (j 72), .v (j 73), .v (j 74), .v (j 75), .v (j 76), .v (j 77), .v (j 78), .v (j 79), .v (j 80), .v (j 81), .v (j 82), .v (j 83), .v (j 84), .v (j 85), .v (j 86), .v (j 87), .v (j 88), .v (j 89), .v (j 90), .v (j 91), .v (j 92), .v (j 93), .v (j 94), .v (j 95), .v (j 96), .v (j 97), .v (j 98), .v (j 99), .v (j 100), .v (j 101), .v (j 102), .v (j 103), .v (j 104), .v (j 105)] [] h

theorem f6_2_in {w0 : World} {K : Value → AH → Prop} (a0 : Option Go.Addr) (n0 : Nat) (c0 : Nat) (a1 : Option Go.Addr) (n1 : Nat) (c1 : Nat) (x2 : Int) (a3 : Option Go.Addr) (n3 : Nat) (c3 : Nat) (x20 : Bool) (h : AH)
  (hv : (brB x20 (EvC Go.Proofs.Try.prog w0 20 #[] (fun x'0 h'1 => (∃ t'2 : Bool, ((x'0 = (Go.Value.bool t'2)) ∧ (K (Go.Value.bool t'2) h'1)))) h) (f6_3 w0 K a0 n0 c0 a1 n1 c1 x2 a3 n3 c3 h))) :
  f6_2 w0 K a0 n0 c0 a1 n1 c1 x2 a3 n3 c3 x20 h := fun j => LP_intro (P := Go.Proofs.Try.prog) (Eq.mp (by kernel_rfl) hv)

theorem f6_3_in {w0 : World} {K : Value → AH → Prop} (a0 : Option Go.Addr) (n0 : Nat) (c0 : Nat) (a1 : Option Go.Addr) (n1 : Nat) (c1 : Nat) (x2 : Int) (a3 : Option Go.Addr) (n3 : Nat) (c3 : Nat) (h : AH)
  (hv : (EvC Go.Proofs.Try.prog w0 12 #[(Go.Value.int .i64 (1048576 : Int))] (fun x'3 h'4 => (∃ p'5 : Option Go.Addr, ((x'3 = (Go.Value.pointer p'5)) ∧ (EvC Go.Proofs.Try.prog w0 14 #[(Go.Value.pointer p'5), (Go.Value.string (ByteArray.mk #[(99 : UInt8)]))] (fun x'6 h'7 => (∃ i'8 : Int, ((x'6 = (Go.Value.int .i64 i'8)) ∧ (brB (i'8 != (0 : Int)) (f6_5 w0 K a0 n0 c0 a1 n1 c1 x2 a3 n3 c3 p'5 true h'7) (EvC Go.Proofs.Try.prog w0 16 #[(Go.Value.pointer p'5), (Go.Value.string (ByteArray.mk #[(99 : UInt8)])), (Go.Value.slice a0 n0 c0)] (fun x'9 h'10 => (∃ i'11 : Int, ((x'9 = (Go.Value.int .i64 i'11)) ∧ (brB (i'11 != (0 : Int)) (f6_5 w0 K a0 n0 c0 a1 n1 c1 x2 a3 n3 c3 p'5 true h'10) (EvC Go.Proofs.Try.prog w0 29 #[(Go.Value.pointer p'5), (Go.Value.string (ByteArray.mk #[(99 : UInt8)]))] (fun x'12 h'13 => (∃ i'14 : Int, ((x'12 = (Go.Value.int .i64 i'14)) ∧ (brB (i'14 != (0 : Int)) (f6_5 w0 K a0 n0 c0 a1 n1 c1 x2 a3 n3 c3 p'5 true h'13) (EvC Go.Proofs.Try.prog w0 30 #[(Go.Value.pointer p'5)] (fun x'15 h'16 => (∃ i'17 : Int, ((x'15 = (Go.Value.int .i64 i'17)) ∧ (f6_5 w0 K a0 n0 c0 a1 n1 c1 x2 a3 n3 c3 p'5 (i'17 != (0 : Int)) h'16)))) h'13))))) h'10))))) h'7))))) h'4)))) h)) :
  f6_3 w0 K a0 n0 c0 a1 n1 c1 x2 a3 n3 c3 h := fun j => LP_intro (P := Go.Proofs.Try.prog) (Eq.mp (by kernel_rfl) hv)

theorem f6_5_in {w0 : World} {K : Value → AH → Prop} (a0 : Option Go.Addr) (n0 : Nat) (c0 : Nat) (a1 : Option Go.Addr) (n1 : Nat) (c1 : Nat) (x2 : Int) (a3 : Option Go.Addr) (n3 : Nat) (c3 : Nat) (x9 : Option Go.Addr) (x41 : Bool) (h : AH)
  (hv : (brB x41 (K (Go.Value.bool false) h) (f6_6 w0 K a0 n0 c0 a1 n1 c1 x2 a3 n3 c3 x9 h))) :
  f6_5 w0 K a0 n0 c0 a1 n1 c1 x2 a3 n3 c3 x9 x41 h := fun j => LP_intro (P := Go.Proofs.Try.prog) (Eq.mp (by kernel_rfl) hv)

theorem f6_6_in {w0 : World} {K : Value → AH → Prop} (a0 : Option Go.Addr) (n0 : Nat) (c0 : Nat) (a1 : Option Go.Addr) (n1 : Nat) (c1 : Nat) (x2 : Int) (a3 : Option Go.Addr) (n3 : Nat) (c3 : Nat) (x9 : Option Go.Addr) (h : AH)
  (hv : (((8 : Int) ≠ (0 : Int)) ∧ (EvC Go.Proofs.Try.prog w0 24 #[(Go.Value.pointer x9), (Go.Value.int .i64 (Go.IntKind.wrap .i64 (Int.tmod (Go.IntKind.wrap .u64 x2) (8 : Int))))] (fun x'18 h'19 => ((x'18 = (Go.Value.tuple #[])) ∧ (EvC Go.Proofs.Try.prog w0 14 #[(Go.Value.pointer x9), (Go.Value.string (ByteArray.mk #[(116 : UInt8)]))] (fun x'20 h'21 => (∃ i'22 : Int, ((x'20 = (Go.Value.int .i64 i'22)) ∧ (brB (i'22 == (0 : Int)) (EvC Go.Proofs.Try.prog w0 16 #[(Go.Value.pointer x9), (Go.Value.string (ByteArray.mk #[(116 : UInt8)])), (Go.Value.slice a1 n1 c1)] (fun x'23 h'24 => (∃ i'25 : Int, ((x'23 = (Go.Value.int .i64 i'25)) ∧ (brB (i'25 == (0 : Int)) (EvC Go.Proofs.Try.prog w0 29 #[(Go.Value.pointer x9), (Go.Value.string (ByteArray.mk #[(116 : UInt8)]))] (fun x'26 h'27 => (∃ i'28 : Int, ((x'26 = (Go.Value.int .i64 i'28)) ∧ (brB (i'28 == (0 : Int)) (EvC Go.Proofs.Try.prog w0 31 #[(Go.Value.pointer x9), (Go.Value.string (ByteArray.mk #[(116 : UInt8)])), (Go.Value.string (ByteArray.mk #[(99 : UInt8)]))] (fun x'29 h'30 => (∃ i'31 : Int, ((x'29 = (Go.Value.int .i64 i'31)) ∧ (brB (i'31 == (0 : Int)) (EvC Go.Proofs.Try.prog w0 30 #[(Go.Value.pointer x9)] (fun x'32 h'33 => (∃ i'34 : Int, ((x'32 = (Go.Value.int .i64 i'34)) ∧ (f6_8 w0 K a0 n0 c0 a1 n1 c1 a3 n3 c3 x9 (i'34 == (0 : Int)) h'33)))) h'30) (f6_8 w0 K a0 n0 c0 a1 n1 c1 a3 n3 c3 x9 false h'30))))) h'27) (f6_8 w0 K a0 n0 c0 a1 n1 c1 a3 n3 c3 x9 false h'27))))) h'24) (f6_8 w0 K a0 n0 c0 a1 n1 c1 a3 n3 c3 x9 false h'24))))) h'21) (f6_8 w0 K a0 n0 c0 a1 n1 c1 a3 n3 c3 x9 false h'21))))) h'19))) h))) :
  f6_6 w0 K a0 n0 c0 a1 n1 c1 x2 a3 n3 c3 x9 h := fun j => LP_intro (P := Go.Proofs.Try.prog) (Eq.mp (by kernel_rfl) hv)

theorem f6_8_in {w0 : World} {K : Value → AH → Prop} (a0 : Option Go.Addr) (n0 : Nat) (c0 : Nat) (a1 : Option Go.Addr) (n1 : Nat) (c1 : Nat) (a3 : Option Go.Addr) (n3 : Nat) (c3 : Nat) (x9 : Option Go.Addr) (x10 : Bool) (h : AH)
  (hv : (EvC Go.Proofs.Try.prog w0 28 #[(Go.Value.pointer x9), (Go.Value.slice a3 n3 c3)] (fun x'35 h'36 => ((x'35 = (Go.Value.tuple #[])) ∧ (EvC Go.Proofs.Try.prog w0 21 #[(Go.Value.pointer x9), (Go.Value.string (ByteArray.mk #[(99 : UInt8)]))] (fun x'37 h'38 => (∃ p'39 : Option Go.Addr, (∃ n'40 : Nat, (∃ n'41 : Nat, (∃ i'42 : Int, ((x'37 = (Go.Value.tuple #[(Go.Value.slice p'39 n'40 n'41), (Go.Value.int .i64 i'42)])) ∧ (brB (i'42 != (0 : Int)) (K (Go.Value.bool false) h'38) (brB x10 (rowsOf w0 h'38 1 p'39 n'40 (fun ys'43 => (∃ s'44 : ByteArray, ((ys'43 = (Go.G.intsOf s'44)) ∧ (rowsOf w0 h'38 1 a1 n1 (fun ys'45 => (∃ s'46 : ByteArray, ((ys'45 = (Go.G.intsOf s'46)) ∧ (brB (decide ((s'44 = s'46))) (EvC Go.Proofs.Try.prog w0 20 #[] (fun x'47 h'48 => (∃ t'49 : Bool, ((x'47 = (Go.Value.bool t'49)) ∧ (K (Go.Value.bool t'49) h'48)))) h'38) (K (Go.Value.bool false) h'38)))))))))) (rowsOf w0 h'38 1 p'39 n'40 (fun ys'50 => (∃ s'51 : ByteArray, ((ys'50 = (Go.G.intsOf s'51)) ∧ (rowsOf w0 h'38 1 a0 n0 (fun ys'52 => (∃ s'53 : ByteArray, ((ys'52 = (Go.G.intsOf s'53)) ∧ (brB (decide ((s'51 = s'53))) (EvC Go.Proofs.Try.prog w0 20 #[] (fun x'54 h'55 => (∃ t'56 : Bool, ((x'54 = (Go.Value.bool t'56)) ∧ (K (Go.Value.bool t'56) h'55)))) h'38) (rowsOf w0 h'38 1 p'39 n'40 (fun ys'57 => (∃ s'58 : ByteArray, ((ys'57 = (Go.G.intsOf s'58)) ∧ (rowsOf w0 h'38 1 a1 n1 (fun ys'59 => (∃ s'60 : ByteArray, ((ys'59 = (Go.G.intsOf s'60)) ∧ (brB (decide ((s'58 = s'60))) (EvC Go.Proofs.Try.prog w0 20 #[] (fun x'61 h'62 => (∃ t'63 : Bool, ((x'61 = (Go.Value.bool t'63)) ∧ (K (Go.Value.bool t'63) h'62)))) h'38) (K (Go.Value.bool false) h'38))))))))))))))))))))))))))) h'36))) h)) :
  f6_8 w0 K a0 n0 c0 a1 n1 c1 a3 n3 c3 x9 x10 h := fun j => LP_intro (P := Go.Proofs.Try.prog) (Eq.mp (by kernel_rfl) hv)

theorem f6_go {w0 : World} {K : Value → AH → Prop} (a0 : Option Go.Addr) (n0 : Nat) (c0 : Nat) (a1 : Option Go.Addr) (n1 : Nat) (c1 : Nat) (x2 : Int) (a3 : Option Go.Addr) (n3 : Nat) (c3 : Nat) (h : AH)
  (hv : (brB (decide (((2000 : Int) < ((n0 : Nat) : Int)))) (f6_2 w0 K a0 n0 c0 a1 n1 c1 x2 a3 n3 c3 true h) (f6_2 w0 K a0 n0 c0 a1 n1 c1 x2 a3 n3 c3 (decide (((2000 : Int) < ((n1 : Nat) : Int)))) h))) :
  EvC Go.Proofs.Try.prog w0 6 ([(.slice a0 n0 c0), (.slice a1 n1 c1), (.int .i64 x2), (.slice a3 n3 c3)]).toArray K h := EvC_intro (P := Go.Proofs.Try.prog) f6_J (Eq.mp (by kernel_rfl) hv)
/-! ### DiskRenames -/
def nC : ByteArray := ⟨#[99]⟩
def nT : ByteArray := ⟨#[116]⟩
def sR (fs : List Fl) (dir : Dir) (was : List Dir) (c fu : Int) (off : Bool) : Ds := ⟨1048576, fs, dir, was, c, fu, 0, 0, off⟩
theorem call_R (fs : List Fl) (dir : Dir) (was : List Dir) (c fu : Int) : callS (sR fs dir was c fu false) = (0, fu == 1, sR fs dir was (c + 1) (if 0 < fu then fu - 1 else 0) (fu == 1)) := rfl
theorem append_R {fs : List Fl} {dir : Dir} {was : List Dir} {c fu : Int} {n : ByteArray} {b : List UInt8} {i : Nat} (hf : findD n dir = some i) (h1 : lenAt fs i + b.length ≤ 4194304) (h2 : (dir.map fun e => lenAt fs e.2).sum + b.length ≤ 1048576) :
    appendS n b (sR fs dir was c fu false) = (endS (fu == 1) 0, sR (fs.modify i fun f => { f with data := f.data ++ b }) dir was (c + 1) (if 0 < fu then fu - 1 else 0) (fu == 1)) := by
  unfold appendS
  rw [call_R]
  dsimp only
  rw [if_neg (by simp), show (sR fs dir was (c + 1) (if 0 < fu then fu - 1 else 0) (fu == 1)).dir = dir from rfl, hf]
  dsimp only
  rw [show (sR fs dir was (c + 1) (if 0 < fu then fu - 1 else 0) (fu == 1)).fs = fs from rfl, show usedS (sR fs dir was (c + 1) (if 0 < fu then fu - 1 else 0) (fu == 1)) = (dir.map fun e => lenAt fs e.2).sum from rfl, show (sR fs dir was (c + 1) (if 0 < fu then fu - 1 else 0) (fu == 1)).room = 1048576 from rfl, if_neg]
  · rfl
  · rw [wrap64 (by omega) (by omega), wrap64 (by omega) (by omega)]
    omega
theorem keepAll_old : ∀ (d : Dir) (l : List Int) (fs : List Fl) (k : Nat) (f : Fl), fs[k]? = some f → ((keepAll l d fs).2)[k]? = some f
  | [], _, _, _, _, h => h
  | e :: d, l, fs, k, f, h => by
    simp only [keepAll]
    exact keepAll_old d _ _ k f (by rw [List.getElem?_append_left (List.getElem?_eq_some_iff.1 h).1]; exact h)
/-- What is kept of a name's file. -/
theorem keepAll_find : ∀ (d : Dir) (l : List Int) (fs : List Fl) (n : ByteArray) (i : Nat), findD n d = some i → (∀ e ∈ d, e.2 < fs.length) →
    ∃ j q, findD n (keepAll l d fs).1 = some j ∧ q ≤ (fileAt fs i).data.length - (fileAt fs i).sure ∧ ((keepAll l d fs).2)[j]? = some ⟨(fileAt fs i).data.take ((fileAt fs i).sure + q), (fileAt fs i).sure + q⟩
  | [], _, _, _, _, h, _ => by simp [findD] at h
  | e :: d, l, fs, n, i, h, hid => by
    by_cases q : e.1 = n
    · have hi : e.2 = i := by simpa [findD, q] using h
      subst hi
      refine ⟨fs.length, _, by simp [keepAll, findD, q], pickS_le l _, ?_⟩
      simp only [keepAll]
      exact keepAll_old d _ _ _ _ (by simp)
    · have h' : findD n d = some i := by simpa [findD, List.find?_cons, q] using h
      have hi : i < fs.length := hid _ (List.mem_cons_of_mem _ (findD_mem h'))
      simp only [keepAll]
      generalize hf : (⟨(fileAt fs e.2).data.take ((fileAt fs e.2).sure + (pickS l ((fileAt fs e.2).data.length - (fileAt fs e.2).sure)).1), (fileAt fs e.2).sure + (pickS l ((fileAt fs e.2).data.length - (fileAt fs e.2).sure)).1⟩ : Fl) = f
      obtain ⟨j, p, h1, h2, h3⟩ := keepAll_find d (pickS l ((fileAt fs e.2).data.length - (fileAt fs e.2).sure)).2 (fs ++ [f]) n i h' (fun x hx => by rw [List.length_append]; have := hid x (List.mem_cons_of_mem _ hx); omega)
      have e1 : fileAt (fs ++ [f]) i = fileAt fs i := by unfold fileAt; rw [List.getElem?_append_left hi]
      rw [e1] at h2 h3
      refine ⟨j, p, ?_, h2, h3⟩
      have : findD n ((e.1, fs.length) :: (keepAll (pickS l ((fileAt fs e.2).data.length - (fileAt fs e.2).sure)).2 d (fs ++ [f])).1) = findD n (keepAll (pickS l ((fileAt fs e.2).data.length - (fileAt fs e.2).sure)).2 d (fs ++ [f])).1 := by simp [findD, List.find?_cons, q]
      rw [this]; exact h1
/-- Behind a crash a name whose file was sure has its bytes. -/
theorem crash_read {s : Ds} (o : s.Ok) {n : ByteArray} {Q : List UInt8 → Prop} (h : ∀ d ∈ s.was, ∃ i x, findD n d = some i ∧ fileAt s.fs i = ⟨x, x.length⟩ ∧ Q x) (hne : s.was ≠ []) (l : List Int) : ∃ x, readS n (crashS l s) = (0, x) ∧ Q x := by
  have hple := pickS_le l (s.was.length - 1)
  have hpos : 0 < s.was.length := List.length_pos_iff.2 hne
  obtain ⟨d, hd⟩ : ∃ d, s.was[(pickS l (s.was.length - 1)).1]? = some d := ⟨_, List.getElem?_eq_getElem (by omega)⟩
  have hdw := List.mem_of_getElem? hd
  obtain ⟨i, x, h1, h2, h3⟩ := h d hdw
  obtain ⟨j, q, g1, g2, g3⟩ := keepAll_find d (pickS l (s.was.length - 1)).2 s.fs n i h1 fun e he => ((o.was d hdw).ids e he).1
  rw [h2] at g2 g3
  have q0 : q = 0 := by simp at g2; exact g2
  subst q0
  refine ⟨x, ?_, h3⟩
  have hcr : crashS l s = { s with dir := (keepAll (pickS l (s.was.length - 1)).2 d s.fs).1, was := [(keepAll (pickS l (s.was.length - 1)).2 d s.fs).1], fs := (keepAll (pickS l (s.was.length - 1)).2 d s.fs).2, fuse := 0, wait := 0, fails := 0, off := false } := by
    unfold crashS; dsimp only; rw [hd]; rfl
  rw [hcr]
  unfold readS lookS dataAt
  simp only [Bool.false_eq_true, if_false, g1, g3]
  simp
def Good (done : Bool) (old young : List UInt8) (s : Ds) : Prop := (∀ d ∈ s.was, ∃ i x, findD nC d = some i ∧ fileAt s.fs i = ⟨x, x.length⟩ ∧ (x = young ∨ done = false ∧ x = old)) ∧ s.was ≠ []
theorem f6_end {w0 : World} {K : Value → AH → Prop} {h : AH} {B : List (Nat × AB)} {s : Ds} {D : PD} {a0 a1 a3 : Option Addr} {n0 n1 c0 c1 c3 : Nat} {old young : List UInt8} {l : List Int} {done : Bool} (r : PRep s D) (w : Own w0 h (D.blocks s ++ B)) (hc : s.calls < 100) (p : PickOk w0 a3 c3 l) (hg : Good done old young s)
    (h0 : Rd0 w0 a0 (u8s old)) (e0 : n0 = old.length) (h1 : Rd0 w0 a1 (u8s young)) (e1 : n1 = young.length) (hk : ∀ h, K (.bool true) h) : f6_8 w0 K a0 n0 c0 a1 n1 c1 a3 l.length c3 (some ⟨D.bd, 0, none⟩) done h := by
  refine f6_8_in _ _ _ _ _ _ _ _ _ _ _ _ (f28_spec r w (by omega) p fun h1' D1 b1 r1 w1 => ⟨rfl, ?_⟩)
  obtain ⟨x, hx, hq⟩ := crash_read r.ok hg.1 hg.2 l
  rw [← b1]
  refine f21_spec (n := nC) r1 w1 fun h2 a2 c2 v2 w2 => ?_
  rw [hx] at v2 w2 ⊢
  dsimp only at v2 w2 ⊢
  have rd2 : Rd w0 h2 a2 (u8s x) := v2.rd (cs := []) w2
  refine ⟨_, _, _, _, rfl, brB_of (fun q => by cases q) fun _ => brB_of (fun q => rows8 rd2 rfl (rows8 (h1.rd _) e1 (brB_of (fun _ => awakeT w2 hk) fun z => ?_))) fun q => rows8 rd2 rfl (rows8 (h0.rd _) e0 (brB_of (fun _ => awakeT w2 hk) fun z => rows8 rd2 rfl (rows8 (h1.rd _) e1 (brB_of (fun _ => awakeT w2 hk) fun z2 => ?_))))⟩
  · rcases hq with rfl | ⟨g, _⟩
    · simp at z
    · rw [g] at q; cases q
  · rcases hq with rfl | ⟨_, rfl⟩
    · simp at z2
    · simp at z
theorem endS_zero {g : Bool} (h : (endS g 0 == (0 : Int)) = true) : g = false := by cases g; rfl; cases h
theorem endS_goes {g : Bool} (h : (endS g 0 == (0 : Int)) = false) : g = true := by cases g; cases h; rfl
def W1 : List Dir := [[(nC, 0)], [(nC, 0), (nT, 1)]]
def W2 : List Dir := [[(nC, 0)], [(nC, 0), (nT, 1)], [(nC, 1)]]
theorem step1 (old : List UInt8) (fu : Int) : createS nT (sR [⟨old, old.length⟩] [(nC, 0)] [[(nC, 0)]] 4 fu false) = (endS (fu == 1) 0, sR [⟨old, old.length⟩, ⟨[], 0⟩] [(nC, 0), (nT, 1)] W1 5 (if 0 < fu then fu - 1 else 0) (fu == 1)) := by
  unfold createS; rw [call_R]; kernel_rfl
theorem step2 {old young : List UInt8} {fu : Int} (h1 : old.length ≤ 2000) (h2 : young.length ≤ 2000) : appendS nT young (sR [⟨old, old.length⟩, ⟨[], 0⟩] [(nC, 0), (nT, 1)] W1 5 fu false) = (endS (fu == 1) 0, sR [⟨old, old.length⟩, ⟨young, 0⟩] [(nC, 0), (nT, 1)] W1 6 (if 0 < fu then fu - 1 else 0) (fu == 1)) :=
  append_R (i := 1) (by kernel_rfl) (by show 0 + young.length ≤ _; omega) (by show (old.length + (0 + 0)) + young.length ≤ _; omega)
theorem step3 (old young : List UInt8) (fu : Int) : syncS nT (sR [⟨old, old.length⟩, ⟨young, 0⟩] [(nC, 0), (nT, 1)] W1 6 fu false) = if (fu == 1) = true then (10, sR [⟨old, old.length⟩, ⟨young, 0⟩] [(nC, 0), (nT, 1)] W1 7 (if 0 < fu then fu - 1 else 0) true) else (0, sR [⟨old, old.length⟩, ⟨young, young.length⟩] [(nC, 0), (nT, 1)] W1 7 (if 0 < fu then fu - 1 else 0) false) := by
  unfold syncS; rw [call_R]
  cases (fu == 1)
  · kernel_rfl
  · kernel_rfl
theorem step4 (fs : List Fl) (fu : Int) : renameS nT nC (sR fs [(nC, 0), (nT, 1)] W1 7 fu false) = (endS (fu == 1) 0, sR fs [(nC, 1)] W2 8 (if 0 < fu then fu - 1 else 0) (fu == 1)) := by
  unfold renameS; rw [call_R]; kernel_rfl
theorem step5 (fs : List Fl) (fu : Int) : syncDirS (sR fs [(nC, 1)] W2 8 fu false) = if (fu == 1) = true then (10, sR fs [(nC, 1)] W2 9 (if 0 < fu then fu - 1 else 0) true) else (0, sR fs [(nC, 1)] [[(nC, 1)]] 9 (if 0 < fu then fu - 1 else 0) false) := by
  unfold syncDirS; rw [call_R]
  cases (fu == 1)
  · kernel_rfl
  · kernel_rfl
theorem good1 {old young : List UInt8} {f : Fl} {dir : Dir} {c fu : Int} {off : Bool} : Good false old young (sR [⟨old, old.length⟩, f] dir W1 c fu off) := ⟨fun d hd => by
  have : d = [(nC, 0)] ∨ d = [(nC, 0), (nT, 1)] := by simpa [W1, sR] using hd
  rcases this with rfl | rfl
  · exact ⟨0, old, by kernel_rfl, rfl, .inr ⟨rfl, rfl⟩⟩
  · exact ⟨0, old, by kernel_rfl, rfl, .inr ⟨rfl, rfl⟩⟩, by simp [W1, sR]⟩
theorem good2 {old young : List UInt8} {dir : Dir} {c fu : Int} {off : Bool} : Good false old young (sR [⟨old, old.length⟩, ⟨young, young.length⟩] dir W2 c fu off) := ⟨fun d hd => by
  have : d = [(nC, 0)] ∨ d = [(nC, 0), (nT, 1)] ∨ d = [(nC, 1)] := by simpa [W2, sR] using hd
  rcases this with rfl | rfl | rfl
  · exact ⟨0, old, by kernel_rfl, rfl, .inr ⟨rfl, rfl⟩⟩
  · exact ⟨0, old, by kernel_rfl, rfl, .inr ⟨rfl, rfl⟩⟩
  · exact ⟨1, young, by kernel_rfl, rfl, .inl rfl⟩, by simp [W2, sR]⟩
theorem good3 {old young : List UInt8} {dir : Dir} {c fu : Int} {off : Bool} : Good true old young (sR [⟨old, old.length⟩, ⟨young, young.length⟩] dir [[(nC, 1)]] c fu off) := ⟨fun d hd => by
  have : d = [(nC, 1)] := by simpa [sR] using hd
  subst this
  exact ⟨1, young, by kernel_rfl, rfl, .inl rfl⟩, by simp [sR]⟩
theorem first1 : createS nC (newS 1048576) = (0, sR [⟨[], 0⟩] [(nC, 0)] [[], [(nC, 0)]] 1 0 false) := by kernel_rfl
theorem first2 {old : List UInt8} (h : old.length ≤ 2000) : appendS nC old (sR [⟨[], 0⟩] [(nC, 0)] [[], [(nC, 0)]] 1 0 false) = (0, sR [⟨old, 0⟩] [(nC, 0)] [[], [(nC, 0)]] 2 0 false) :=
  append_R (fu := 0) (i := 0) (by kernel_rfl) (by show 0 + old.length ≤ _; omega) (by show (0 + 0) + old.length ≤ _; omega)
theorem first3 (old : List UInt8) : syncS nC (sR [⟨old, 0⟩] [(nC, 0)] [[], [(nC, 0)]] 2 0 false) = (0, sR [⟨old, old.length⟩] [(nC, 0)] [[], [(nC, 0)]] 3 0 false) := by kernel_rfl
theorem first4 (old : List UInt8) : syncDirS (sR [⟨old, old.length⟩] [(nC, 0)] [[], [(nC, 0)]] 3 0 false) = (0, sR [⟨old, old.length⟩] [(nC, 0)] [[(nC, 0)]] 4 0 false) := by kernel_rfl
theorem fuse_R {fs : List Fl} {dir : Dir} {was : List Dir} {c f fu : Int} (h : 0 ≤ fu) : fuseS fu (sR fs dir was c f false) = sR fs dir was c fu false := by
  have : (if 0 < fu then fu else 0) = fu := by split <;> omega
  simp [fuseS, sR, this]
set_option maxHeartbeats 1000000 in
/-- DiskRenames. -/
theorem f6_spec {w0 : World} {K : Value → AH → Prop} {a0 a1 a3 : Option Addr} {n0 n1 c0 c1 c3 : Nat} {old young : List UInt8} {l : List Int} {x2 : Int} (h0 : Rd0 w0 a0 (u8s old)) (e0 : n0 = old.length) (h1 : Rd0 w0 a1 (u8s young)) (e1 : n1 = young.length) (p : PickOk w0 a3 c3 l) (hk : ∀ h, K (.bool true) h) :
    EvC Go.Proofs.Try.prog w0 6 #[.slice a0 n0 c0, .slice a1 n1 c1, .int .i64 x2, .slice a3 l.length c3] K (fun _ => none) := by
  have two : f6_2 w0 K a0 n0 c0 a1 n1 c1 x2 a3 l.length c3 true (fun _ => none) := f6_2_in _ _ _ _ _ _ _ _ _ _ _ _ (brB_of (fun _ => awakeT Own.nil hk) fun q => by cases q)
  refine f6_go _ _ _ _ _ _ _ _ _ _ _ (brB_of (fun _ => two) fun q0 => ?_)
  cases q1 : decide ((2000 : Int) < ((n1 : Nat) : Int)) with
  | true => exact two
  | false =>
  have g0 : old.length ≤ 2000 := by have := of_decide_eq_false q0; omega
  have g1 : young.length ≤ 2000 := by have := of_decide_eq_false q1; omega
  refine f6_2_in _ _ _ _ _ _ _ _ _ _ _ _ (brB_of (fun q => by cases q) fun _ => f6_3_in _ _ _ _ _ _ _ _ _ _ _ (f12_spec (B := []) (by decide) Own.nil fun h1' D1 r1 w1 => ⟨_, rfl, f14_spec (n := nC) r1 w1 (by decide) fun h2 D2 b2 r2 w2 => ⟨_, rfl, ?_⟩⟩))
  rw [first1] at r2 w2 ⊢
  rw [← b2]
  subst e0 e1
  refine brB_of (fun q => by cases q) fun _ => f16_spec (n := nC) (ys := old) r2 w2 (by show (1 : Int) < _; decide) (fun h' _ => h0.rd h') (by omega) fun h3 D3 b3 r3 w3 => ⟨_, rfl, ?_⟩
  rw [first2 g0] at r3 w3 ⊢
  rw [← b3]
  refine brB_of (fun q => by cases q) fun _ => f29_spec (n := nC) r3 w3 (by show (2 : Int) < _; decide) fun h4 D4 b4 r4 w4 => ⟨_, rfl, ?_⟩
  rw [first3] at r4 w4 ⊢
  rw [← b4]
  refine brB_of (fun q => by cases q) fun _ => f30_spec r4 w4 (by show (3 : Int) < _; decide) fun h5 D5 b5 r5 w5 => ⟨_, rfl, ?_⟩
  rw [first4] at r5 w5 ⊢
  rw [← b5]
  have m2 := modU (x := x2) (m := 8) (by decide) (by decide)
  refine f6_5_in _ _ _ _ _ _ _ _ _ _ _ _ _ (brB_of (fun q => by cases q) fun _ => f6_6_in _ _ _ _ _ _ _ _ _ _ _ _ ⟨by decide, ?_⟩)
  generalize IntKind.i64.wrap (Int.tmod (IntKind.u64.wrap x2) 8) = fu at m2 ⊢
  refine f24_spec r5 w5 (by omega) fun h6 r6 w6 => ⟨rfl, f14_spec (n := nT) r6 w6 (by show (4 : Int) < _; decide) fun h7 D7 b7 r7 w7 => ⟨_, rfl, ?_⟩⟩
  rw [fuse_R m2.1, step1] at r7 w7 ⊢
  rw [← b7]
  refine brB_of (fun q => ?_) fun _ => f6_end r7 w7 (by show (5 : Int) < _; decide) p good1 h0 rfl h1 rfl hk
  rw [endS_zero q] at r7 w7
  generalize (if 0 < fu then fu - 1 else 0) = fu at r7 w7
  refine f16_spec (n := nT) (ys := young) r7 w7 (by show (5 : Int) < _; decide) (fun h' _ => h1.rd h') (by omega) fun h8 D8 b8 r8 w8 => ⟨_, rfl, ?_⟩
  rw [step2 g0 g1] at r8 w8 ⊢
  rw [← b8]
  refine brB_of (fun q => ?_) fun _ => f6_end r8 w8 (by show (6 : Int) < _; decide) p good1 h0 rfl h1 rfl hk
  rw [endS_zero q] at r8 w8
  generalize (if 0 < fu then fu - 1 else 0) = fu at r8 w8
  refine f29_spec (n := nT) r8 w8 (by show (6 : Int) < _; decide) fun h9 D9 b9 r9 w9 => ⟨_, rfl, ?_⟩
  rw [step3] at r9 w9 ⊢
  rw [← b9]
  cases hf : (fu == 1) with
  | true =>
    rw [hf, if_pos rfl] at r9 w9
    rw [if_pos rfl]
    exact brB_of (fun q => by cases q) fun _ => f6_end r9 w9 (by show (7 : Int) < _; decide) p good1 h0 rfl h1 rfl hk
  | false =>
  rw [hf, if_neg (by simp)] at r9 w9
  rw [if_neg (by simp)]
  generalize (if 0 < fu then fu - 1 else 0) = fu at r9 w9
  refine brB_of (fun _ => ?_) fun q => by cases q
  refine f31_spec (o := nT) (n := nC) r9 w9 (by show (7 : Int) < _; decide) fun h10 D10 b10 r10 w10 => ⟨_, rfl, ?_⟩
  rw [step4] at r10 w10 ⊢
  rw [← b10]
  refine brB_of (fun q => ?_) fun _ => f6_end r10 w10 (by show (8 : Int) < _; decide) p good2 h0 rfl h1 rfl hk
  rw [endS_zero q] at r10 w10
  generalize (if 0 < fu then fu - 1 else 0) = fu at r10 w10
  refine f30_spec r10 w10 (by show (8 : Int) < _; decide) fun h11 D11 b11 r11 w11 => ⟨_, rfl, ?_⟩
  rw [step5] at r11 w11 ⊢
  rw [← b11]
  cases hf : (fu == 1) with
  | true =>
    rw [hf, if_pos rfl] at r11 w11
    rw [if_pos rfl]
    exact f6_end (done := false) r11 w11 (by show (9 : Int) < _; decide) p good2 h0 rfl h1 rfl hk
  | false =>
    rw [hf, if_neg (by simp)] at r11 w11
    rw [if_neg (by simp)]
    exact f6_end (done := true) r11 w11 (by show (9 : Int) < _; decide) p good3 h0 rfl h1 rfl hk
end Go.G.Ytpjklfmfgmicaaa
