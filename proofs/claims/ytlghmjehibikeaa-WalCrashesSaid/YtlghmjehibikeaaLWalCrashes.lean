/- WalCrashes by the evaluator. -/
import Derived.Test.YtlghmjehibikeaaWJ
import Derived.Test.YtlghmjehibikeaaLT
import Derived.Test.YtlghmjehibikeaaProg
set_option maxRecDepth 100000
namespace Go.G.Ytlghmjehibikeaa
open Go.RowKit
def f7_J : Nat → List Nat × Nat := jOf [(12, [1, 3, 4, 5, 6, 9, 14, 15, 16, 17, 18, 19, 20, 21, 22, 23, 24, 25, 26, 27, 28, 29, 30, 31, 32, 33, 34, 35, 36, 37, 38, 39, 40, 41, 42, 43, 44, 45, 46, 47, 48, 49, 50, 51, 52, 53, 54, 55, 56, 57, 58, 59, 60, 61, 62, 63, 64, 65, 66, 67, 68, 69, 70, 71, 72, 73, 74, 75, 76, 77, 78, 79, 80, 81, 82, 83, 84, 85, 86, 87, 88, 89, 90, 91, 92, 93, 94, 95, 96, 97, 98, 99, 100, 101, 102, 103, 104, 105, 106, 107], 0), (14, [1, 3, 4, 5, 6, 9, 14, 15, 16, 17, 18, 19, 20, 21, 22, 23, 24, 25, 26, 27, 28, 29, 30, 31, 32, 33, 34, 35, 36, 37, 38, 39, 40, 41, 42, 43, 44, 45, 46, 47, 48, 49, 50, 51, 52, 53, 54, 55, 56, 57, 58, 59, 60, 61, 62, 63, 64, 65, 66, 67, 68, 69, 70, 71, 72, 73, 74, 75, 76, 77, 78, 79, 80, 81, 82, 83, 84, 85, 86, 87, 88, 89, 90, 91, 92, 93, 94, 95, 96, 97, 98, 99, 100, 101, 102, 103, 104, 105, 106, 107], 0), (22, [0, 1, 3, 4, 5, 6, 8, 9, 11, 13, 14, 15, 16, 17, 18, 19, 20, 21, 22, 23, 24, 25, 26, 27, 28, 29, 30, 31, 32, 33, 34, 35, 36, 37, 38, 39, 40, 41, 42, 43, 44, 45, 46, 47, 48, 49, 50, 51, 52, 53, 54, 55, 56, 57, 58, 59, 60, 61, 62, 63, 64, 65, 66, 67, 68, 69, 70, 71, 72, 73, 74, 75, 76, 77, 78, 79, 80, 81, 82, 83, 84, 85, 86, 87, 88, 89, 90, 91, 92, 93, 94, 95, 96, 97, 98, 99, 100, 101, 102, 103, 104, 105, 106, 107], 0), (18, [0, 1, 3, 4, 5, 6, 8, 9, 11, 12, 13, 15, 16, 17, 18, 19, 20, 21, 22, 23, 24, 25, 26, 27, 28, 29, 30, 31, 32, 33, 34, 35, 36, 37, 38, 39, 40, 41, 42, 43, 44, 45, 46, 47, 48, 49, 50, 51, 52, 53, 54, 55, 56, 57, 58, 59, 60, 61, 62, 63, 64, 66, 67, 68, 69, 70, 71, 72, 73, 74, 75, 76, 77, 78, 79, 80, 81, 82, 83, 84, 85, 86, 87, 88, 89, 90, 91, 92, 93, 94, 95, 96, 97, 98, 99, 100, 101, 102, 103, 104, 105, 106, 107], 1)]

def f7_12 (w0 : World) (K : Value → AH → Prop) (a0 : Option Go.Addr) (n0 : Nat) (c0 : Nat) (a2 : Option Go.Addr) (n2 : Nat) (c2 : Nat) (x7 : Option Go.Addr) (x8 : Option Go.Addr) (a10 : Option Go.Addr) (n10 : Nat) (c10 : Nat) (x11 : Int) (a12 : Option Go.Addr) (n12 : Nat) (c12 : Nat) (x13 : Int) (h : AH) : Prop :=
  ∀ j : Nat → Value, LPk Go.Proofs.Try.prog w0 (EvC Go.Proofs.Try.prog w0) f7_J 7 K 12 [.v (.slice a0 n0 c0), .v (j 1), .v (.slice a2 n2 c2), .v (j 3), .v (j 4), .v (j 5), .v (j 6), .v (.pointer x7), .v (.pointer x8), .v (j 9), .v (.slice a10 n10 c10), .v (.int .i64 x11), .v (.slice a12 n12 c12), .v (.int .i64 x13), .v (j 14), .v (j 15), .v (j 16), .v (j 17), .v (j 18), .v (j 19), .v (j 20), .v (j 21), .v (j 22), .v (j 23), .v (j 24), .v (j 25), .v (j 26), .v (j 27), .v (j 28), .v (j 29), .v (j 30), .v (j 31), .v (j 32), .v (j 33), .v (j 34), .v (j 35), .v (j 36), .v (j 37), .v (j 38), .v (j 39), .v (j 40), .v (j 41), .v (j 42), .v (j 43), .v (j 44), .v (j 45), .v (j 46), .v (j 47), .v (j 48), .v (j 49), .v (j 50), .v (j 51), .v (j 52), .v (j 53), .v (j 54), .v (j 55), .v (j 56), .v (j 57), .v (j 58), .v (j 59), .v (j 60), .v (j 61), .v (j 62), .v (j 63), .v (j 64), .v (j 65), .v (j 66), .v (j 67), .v (j 68), .v (j 69), .v (j 70), .v (j 71), .v (j 72), .v (j 73), .v (j 74), .v (j 75), .v (j 76), .v (j 77), .v (j 78), .v (j 79), .v (j 80), .v (j 81), .v (j 82), .v (j 83), .v (j 84), .v (j 85), .v (j 86), .v (j 87), .v (j 88), .v (j 89), .v (j 90), .v (j 91), .v (j 92), .v (j 93), .v (j 94), .v (j 95), .v (j 96), .v (j 97), .v (j 98), .v (j 99), .v (j 100), .v (j 101), .v (j 102), .v (j 103), .v (j 104), .v (j 105), .v (j 106), .v (j 107)] [] h

def f7_14 (w0 : World) (K : Value → AH → Prop) (a0 : Option Go.Addr) (n0 : Nat) (c0 : Nat) (a2 : Option Go.Addr) (n2 : Nat) (c2 : Nat) (x7 : Option Go.Addr) (x8 : Option Go.Addr) (a10 : Option Go.Addr) (n10 : Nat) (c10 : Nat) (x11 : Int) (a12 : Option Go.Addr) (n12 : Nat) (c12 : Nat) (x13 : Int) (h : AH) : Prop :=
  ∀ j : Nat → Value, LPk Go.Proofs.Try.prog w0 (EvC Go.Proofs.Try.prog w0) f7_J 7 K 14 [.v (.slice a0 n0 c0), .v (j 1), .v (.slice a2 n2 c2), .v (j 3), .v (j 4), .v (j 5), .v (j 6), .v (.pointer x7), .v (.pointer x8), .v (j 9), .v (.slice a10 n10 c10), .v (.int .i64 x11), .v (.slice a12 n12 c12), .v (.int .i64 x13), .v (j 14), .v (j 15), .v (j 16), .v (j 17), .v (j 18), .v (j 19), .v (j 20), .v (j 21), .v (j 22), .v (j 23), .v (j 24), .v (j 25), .v (j 26), .v (j 27), .v (j 28), .v (j 29), .v (j 30), .v (j 31), .v (j 32), .v (j 33), .v (j 34), .v (j 35), .v (j 36), .v (j 37), .v (j 38), .v (j 39), .v (j 40), .v (j 41), .v (j 42), .v (j 43), .v (j 44), .v (j 45), .v (j 46), .v (j 47), .v (j 48), .v (j 49), .v (j 50), .v (j 51), .v (j 52), .v (j 53), .v (j 54), .v (j 55), .v (j 56), .v (j 57), .v (j 58), .v (j 59), .v (j 60), .v (j 61), .v (j 62), .v (j 63), .v (j 64), .v (j 65), .v (j 66), .v (j 67), .v (j 68), .v (j 69), .v (j 70), .v (j 71), .v (j 72), .v (j 73), .v (j 74), .v (j 75), .v (j 76), .v (j 77), .v (j 78), .v (j 79), .v (j 80), .v (j 81), .v (j 82), .v (j 83), .v (j 84), .v (j 85), .v (j 86), .v (j 87), .v (j 88), .v (j 89), .v (j 90), .v (j 91), .v (j 92), .v (j 93), .v (j 94), .v (j 95), .v (j 96), .v (j 97), .v (j 98), .v (j 99), .v (j 100), .v (j 101), .v (j 102), .v (j 103), .v (j 104), .v (j 105), .v (j 106), .v (j 107)] [] h

def f7_22 (w0 : World) (K : Value → AH → Prop) (a2 : Option Go.Addr) (n2 : Nat) (c2 : Nat) (x7 : Option Go.Addr) (a10 : Option Go.Addr) (n10 : Nat) (c10 : Nat) (a12 : Option Go.Addr) (n12 : Nat) (c12 : Nat) (h : AH) : Prop :=
  ∀ j : Nat → Value, LPk Go.Proofs.Try.prog w0 (EvC Go.Proofs.Try.prog w0) f7_J 7 K 22 [.v (j 0), .v (j 1), .v (.slice a2 n2 c2), .v (j 3), .v (j 4), .v (j 5), .v (j 6), .v (.pointer x7), .v (j 8), .v (j 9), .v (.slice a10 n10 c10), .v (j 11), .v (.slice a12 n12 c12), .v (j 13), .v (j 14), .v (j 15), .v (j 16), .v (j 17), .v (j 18), .v (j 19), .v (j 20), .v (j 21), .v (j 22), .v (j 23), .v (j 24), .v (j 25), .v (j 26), .v (j 27), .v (j 28), .v (j 29), .v (j 30), .v (j 31), .v (j 32), .v (j 33), .v (j 34), .v (j 35), .v (j 36), .v (j 37), .v (j 38), .v (j 39), .v (j 40), .v (j 41), .v (j 42), .v (j 43), .v (j 44), .v (j 45), .v (j 46), .v (j 47), .v (j 48), .v (j 49), .v (j 50), .v (j 51), .v (j 52), .v (j 53), .v (j 54), .v (j 55), .v (j 56), .v (j 57), .v (j 58), .v (j 59), .v (j 60), .v (j 61), .v (j 62), .v (j 63), .v (j 64), .v (j 65), .v (j 66), .v (j 67), .v (j 68), .v (j 69), .v (j 70), .v (j 71), .v (j 72), .v (j 73), .v (j 74), .v (j 75), .v (j 76), .v (j 77), .v (j 78), .v (j 79), .v (j 80), .v (j 81), .v (j 82), .v (j 83), .v (j 84), .v (j 85), .v (j 86), .v (j 87), .v (j 88), .v (j 89), .v (j 90), .v (j 91), .v (j 92), .v (j 93), .v (j 94), .v (j 95), .v (j 96), .v (j 97), .v (j 98), .v (j 99), .v (j 100), .v (j 101), .v (j 102), .v (j 103), .v (j 104), .v (j 105), .v (j 106), .v (j 107)] [] h

def f7_18 (w0 : World) (K : Value → AH → Prop) (a2 : Option Go.Addr) (n2 : Nat) (c2 : Nat) (x7 : Option Go.Addr) (a10 : Option Go.Addr) (n10 : Nat) (c10 : Nat) (x65 : Bool) (xb0_0 : Int) (ab0_1 : Option Go.Addr) (nb0_1 : Nat) (cb0_1 : Nat) (h : AH) : Prop :=
  ∀ j : Nat → Value, LPk Go.Proofs.Try.prog w0 (EvC Go.Proofs.Try.prog w0) f7_J 7 K 18 [.v (j 0), .v (j 1), .v (.slice a2 n2 c2), .v (j 3), .v (j 4), .v (j 5), .v (j 6), .v (.pointer x7), .v (j 8), .v (j 9), .v (.slice a10 n10 c10), .v (j 11), .v (j 12), .v (j 13), .bp 0 0, .v (j 15), .v (j 16), .v (j 17), .v (j 18), .v (j 19), .v (j 20), .v (j 21), .v (j 22), .v (j 23), .v (j 24), .v (j 25), .v (j 26), .v (j 27), .v (j 28), .v (j 29), .v (j 30), .v (j 31), .v (j 32), .v (j 33), .v (j 34), .v (j 35), .v (j 36), .v (j 37), .v (j 38), .v (j 39), .v (j 40), .v (j 41), .v (j 42), .v (j 43), .v (j 44), .v (j 45), .v (j 46), .v (j 47), .v (j 48), .v (j 49), .v (j 50), .v (j 51), .v (j 52), .v (j 53), .v (j 54), .v (j 55), .v (j 56), .v (j 57), .v (j 58), .v (j 59), .v (j 60), .v (j 61), .v (j 62), .v (j 63), .v (j 64), .v (.bool x65), .v (j 66), .v (j 67), .v (j 68), .v (j 69), .v (j 70), .v (j 71), .v (j 72), .v (j 73), .v (j 74), .v (j 75), .v (j 76), .v (j 77), .v (j 78), .v (j 79), .v (j 80), .v (j 81), .v (j 82), .v (j 83), .v (j 84), .v (j 85), .v (j 86), .v (j 87), .v (j 88), .v (j 89), .v (j 90), .v (j 91), .v (j 92), .v (j 93), .v (j 94), .v (j 95), .v (j 96), .v (j 97), .v (j 98), .v (j 99), .v (j 100), .v (j 101), .v (j 102), .v (j 103), .v (j 104), .v (j 105), .v (j 106), .v (j 107)] [some [(.int .i64 xb0_0), (.slice ab0_1 nb0_1 cb0_1)]] h

theorem f7_12_in {w0 : World} {K : Value → AH → Prop} (a0 : Option Go.Addr) (n0 : Nat) (c0 : Nat) (a2 : Option Go.Addr) (n2 : Nat) (c2 : Nat) (x7 : Option Go.Addr) (x8 : Option Go.Addr) (a10 : Option Go.Addr) (n10 : Nat) (c10 : Nat) (x11 : Int) (a12 : Option Go.Addr) (n12 : Nat) (c12 : Nat) (x13 : Int) (h : AH)
  (hv : (brB (decide ((x13 < ((n0 : Nat) : Int)))) (brB (decide ((x13 < (20 : Int)))) (f7_14 w0 K a0 n0 c0 a2 n2 c2 x7 x8 a10 n10 c10 x11 a12 n12 c12 x13 h) (f7_22 w0 K a2 n2 c2 x7 a10 n10 c10 a12 n12 c12 h)) (f7_22 w0 K a2 n2 c2 x7 a10 n10 c10 a12 n12 c12 h))) :
  f7_12 w0 K a0 n0 c0 a2 n2 c2 x7 x8 a10 n10 c10 x11 a12 n12 c12 x13 h := fun j => LP_intro (P := Go.Proofs.Try.prog) (Eq.mp (by kernel_rfl) hv)

theorem f7_14_in {w0 : World} {K : Value → AH → Prop} (a0 : Option Go.Addr) (n0 : Nat) (c0 : Nat) (a2 : Option Go.Addr) (n2 : Nat) (c2 : Nat) (x7 : Option Go.Addr) (x8 : Option Go.Addr) (a10 : Option Go.Addr) (n10 : Nat) (c10 : Nat) (x11 : Int) (a12 : Option Go.Addr) (n12 : Nat) (c12 : Nat) (x13 : Int) (h : AH)
  (hv : (∃ a'12 : Go.Addr, ((a0 = (some a'12)) ∧ (((0 : Int) ≤ x13) ∧ ((x13 < ((n0 : Nat) : Int)) ∧ (∃ i'13 : Int, (((Go.G.cellA w0 h (Go.Addr.add a'12 ((Int.toNat x13) * 1))) = (some (Go.Value.int .i64 i'13))) ∧ (((5 : Int) ≠ (0 : Int)) ∧ (((5 : Int) ≠ (0 : Int)) ∧ (EvC Go.Proofs.Try.prog w0 13 #[(Go.Value.int .i64 x11), (Go.Value.int .i64 (Go.IntKind.wrap .i64 ((Int.tmod (Go.IntKind.wrap .i64 ((Int.tmod i'13 (5 : Int)) + (5 : Int))) (5 : Int)) + (1 : Int))))] (fun x'14 h'15 => (∃ i'16 : Int, (∃ p'17 : Option Go.Addr, (∃ n'18 : Nat, (∃ n'19 : Nat, ((x'14 = (Go.Value.agg #[(Go.Value.int .i64 i'16), (Go.Value.slice p'17 n'18 n'19)])) ∧ (EvC Go.Proofs.Try.prog w0 12 #[(Go.Value.pointer x8), (Go.Value.agg #[(Go.Value.int .i64 i'16), (Go.Value.slice p'17 n'18 n'19)])] (fun x'20 h'21 => (∃ i'22 : Int, ((x'20 = (Go.Value.int .i64 i'22)) ∧ (brB (i'22 != (0 : Int)) (brB (i'22 != (10 : Int)) (f7_18 w0 K a2 n2 c2 x7 a10 n10 c10 true i'16 p'17 n'18 n'19 h'21) (EvC Go.Proofs.Try.prog w0 26 #[(Go.Value.pointer x7)] (fun x'23 h'24 => (∃ t'25 : Bool, ((x'23 = (Go.Value.bool t'25)) ∧ (f7_18 w0 K a2 n2 c2 x7 a10 n10 c10 (!t'25) i'16 p'17 n'18 n'19 h'24)))) h'21)) (App w0 h'21 2 32 a10 n10 c10 1 [(Go.Value.int .i64 i'16), (Go.Value.slice p'17 n'18 n'19)] (fun a'26 c'27 h'28 => (f7_12 w0 K a0 n0 c0 a2 n2 c2 x7 x8 a'26 (n10 + 1) c'27 (Go.IntKind.wrap .i64 (x11 + ((n'18 : Nat) : Int))) a12 n12 c12 (Go.IntKind.wrap .i64 (x13 + (1 : Int))) h'28))))))) h'15))))))) h)))))))))) :
  f7_14 w0 K a0 n0 c0 a2 n2 c2 x7 x8 a10 n10 c10 x11 a12 n12 c12 x13 h := fun j => LP_intro (P := Go.Proofs.Try.prog) (Eq.mp (by kernel_rfl) hv)

theorem f7_22_in {w0 : World} {K : Value → AH → Prop} (a2 : Option Go.Addr) (n2 : Nat) (c2 : Nat) (x7 : Option Go.Addr) (a10 : Option Go.Addr) (n10 : Nat) (c10 : Nat) (a12 : Option Go.Addr) (n12 : Nat) (c12 : Nat) (h : AH)
  (hv : (EvC Go.Proofs.Try.prog w0 27 #[(Go.Value.pointer x7), (Go.Value.slice a2 n2 c2)] (fun x'29 h'30 => ((x'29 = (Go.Value.tuple #[])) ∧ (EvC Go.Proofs.Try.prog w0 11 #[(Go.Value.pointer x7), (Go.Value.string (ByteArray.mk #[(119 : UInt8)]))] (fun x'31 h'32 => (∃ p'33 : Option Go.Addr, (∃ p'34 : Option Go.Addr, (∃ n'35 : Nat, (∃ n'36 : Nat, (∃ i'37 : Int, ((x'31 = (Go.Value.tuple #[(Go.Value.pointer p'33), (Go.Value.slice p'34 n'35 n'36), (Go.Value.int .i64 i'37)])) ∧ (brB (i'37 != (0 : Int)) (K (Go.Value.bool false) h'32) (newB w0 h'32 (Go.G.AB.cells [] 0) (fun b'38 h'39 => (rowsOf w0 h'39 2 a10 n10 (fun ys'40 => (App w0 h'39 2 32 (some (Go.Addr.mk b'38 0 none)) 0 0 n10 ys'40 (fun a'41 c'42 h'43 => (rowsOf w0 h'43 2 a12 n12 (fun ys'44 => (App w0 h'43 2 32 a'41 (0 + n10) c'42 n12 ys'44 (fun a'45 c'46 h'47 => (EvC Go.Proofs.Try.prog w0 16 #[(Go.Value.slice p'34 n'35 n'36), (Go.Value.slice a10 n10 c10)] (fun x'48 h'49 => (∃ t'50 : Bool, ((x'48 = (Go.Value.bool t'50)) ∧ (brB t'50 (brB (Option.isSome p'33) (EvC Go.Proofs.Try.prog w0 15 #[] (fun x'51 h'52 => (∃ t'53 : Bool, ((x'51 = (Go.Value.bool t'53)) ∧ (K (Go.Value.bool t'53) h'52)))) h'49) (K (Go.Value.bool false) h'49)) (EvC Go.Proofs.Try.prog w0 16 #[(Go.Value.slice p'34 n'35 n'36), (Go.Value.slice a'45 ((0 + n10) + n12) c'46)] (fun x'54 h'55 => (∃ t'56 : Bool, ((x'54 = (Go.Value.bool t'56)) ∧ (brB t'56 (brB (Option.isSome p'33) (EvC Go.Proofs.Try.prog w0 15 #[] (fun x'57 h'58 => (∃ t'59 : Bool, ((x'57 = (Go.Value.bool t'59)) ∧ (K (Go.Value.bool t'59) h'58)))) h'55) (K (Go.Value.bool false) h'55)) (K (Go.Value.bool false) h'55))))) h'49))))) h'47))))))))))))))))))) h'30))) h)) :
  f7_22 w0 K a2 n2 c2 x7 a10 n10 c10 a12 n12 c12 h := fun j => LP_intro (P := Go.Proofs.Try.prog) (Eq.mp (by kernel_rfl) hv)

theorem f7_18_in {w0 : World} {K : Value → AH → Prop} (a2 : Option Go.Addr) (n2 : Nat) (c2 : Nat) (x7 : Option Go.Addr) (a10 : Option Go.Addr) (n10 : Nat) (c10 : Nat) (x65 : Bool) (xb0_0 : Int) (ab0_1 : Option Go.Addr) (nb0_1 : Nat) (cb0_1 : Nat) (h : AH)
  (hv : (brB x65 (K (Go.Value.bool false) h) (newB w0 h (Go.G.AB.cells [(Go.Value.int .i64 xb0_0), (Go.Value.slice ab0_1 nb0_1 cb0_1)] (List.length [(Go.Value.int .i64 xb0_0), (Go.Value.slice ab0_1 nb0_1 cb0_1)])) (fun b'60 h'61 => (f7_22 w0 K a2 n2 c2 x7 a10 n10 c10 (some (Go.Addr.mk b'60 0 none)) 1 1 h'61))))) :
  f7_18 w0 K a2 n2 c2 x7 a10 n10 c10 x65 xb0_0 ab0_1 nb0_1 cb0_1 h := fun j => LP_intro (P := Go.Proofs.Try.prog) (Eq.mp (by kernel_rfl) hv)

theorem f7_go {w0 : World} {K : Value → AH → Prop} (a0 : Option Go.Addr) (n0 : Nat) (c0 : Nat) (x1 : Int) (a2 : Option Go.Addr) (n2 : Nat) (c2 : Nat) (h : AH)
  (hv : (EvC Go.Proofs.Try.prog w0 9 #[(Go.Value.int .i64 (1048576 : Int))] (fun x'0 h'1 => (∃ p'2 : Option Go.Addr, ((x'0 = (Go.Value.pointer p'2)) ∧ (EvC Go.Proofs.Try.prog w0 10 #[(Go.Value.pointer p'2), (Go.Value.string (ByteArray.mk #[(119 : UInt8)]))] (fun x'3 h'4 => (∃ p'5 : Option Go.Addr, (∃ i'6 : Int, ((x'3 = (Go.Value.tuple #[(Go.Value.pointer p'5), (Go.Value.int .i64 i'6)])) ∧ (brB (i'6 != (0 : Int)) (K (Go.Value.bool false) h'4) (brB (decide ((x1 < (1 : Int)))) (EvC Go.Proofs.Try.prog w0 15 #[] (fun x'7 h'8 => (∃ t'9 : Bool, ((x'7 = (Go.Value.bool t'9)) ∧ (K (Go.Value.bool t'9) h'8)))) h'4) (EvC Go.Proofs.Try.prog w0 25 #[(Go.Value.pointer p'2), (Go.Value.int .i64 x1)] (fun x'10 h'11 => ((x'10 = (Go.Value.tuple #[])) ∧ (f7_12 w0 K a0 n0 c0 a2 n2 c2 p'2 p'5 none 0 0 (1 : Int) none 0 0 (0 : Int) h'11))) h'4))))))) h'1)))) h)) :
  EvC Go.Proofs.Try.prog w0 7 ([(.slice a0 n0 c0), (.int .i64 x1), (.slice a2 n2 c2)]).toArray K h := EvC_intro (P := Go.Proofs.Try.prog) f7_J (Eq.mp (by kernel_rfl) hv)
/-! ### WalCrashes -/
theorem k_of5 (x : Int) : ∃ k : Nat, 1 ≤ k ∧ k ≤ 5 ∧ IntKind.i64.wrap (Int.tmod (IntKind.i64.wrap (Int.tmod x (5 : Int) + 5)) (5 : Int) + 1) = (k : Int) := by
  have h1 := Int.tmod_lt_of_pos x (show (0 : Int) < 5 by decide)
  have h2 := Int.lt_tmod_of_pos x (show (0 : Int) < 5 by decide)
  generalize Int.tmod x 5 = y at *
  rw [wrap64 (x := y + 5) (by omega) (by omega), Int.tmod_eq_emod_of_nonneg (show (0 : Int) ≤ y + 5 by omega)]
  have h3 := Int.emod_nonneg (y + 5) (show (5 : Int) ≠ 0 by decide)
  have h4 := Int.emod_lt_of_pos (y + 5) (show (0 : Int) < 5 by decide)
  generalize (y + 5) % 5 = z at *
  exact ⟨z.toNat + 1, by omega, by omega, by rw [wrap64 (by omega) (by omega)]; omega⟩
/-- A log, its batches, the number that comes next. -/
structure Lk (s : Ds) (L : Lg) (m : List BaM) (a : Option Addr) (c : Nat) (seq : Int) (i : Nat) : Prop where
  nm : L.name = nW
  last : L.last = lastB 0 (m.map BaM.bat)
  size : L.size = (fileB (m.map BaM.bat)).length
  torn : L.torn = false
  ok : ∀ b ∈ m.map BaM.bat, okB b
  ch : chainB 0 (m.map BaM.bat)
  v : SlV 2 a m.length c (batC m)
  vs : BsV m
  sq : 0 < L.last → seq = L.last + 1
  s1 : 1 ≤ seq
  s2 : seq ≤ 1 + 5 * i
  fl : (fileB (m.map BaM.bat)).length ≤ 200 * i
  ml : m.length ≤ i
  ca : s.calls ≤ 2 + 2 * i
theorem Lk.more {s s' : Ds} {L L' : Lg} {m : List BaM} {a a' : Option Addr} {c c' : Nat} {seq : Int} {i k : Nat} {oa : Option Addr} {oc : Nat} {os : List OpM} (t : Lk s L m a c seq i) (hk1 : 1 ≤ k) (hk5 : k ≤ 5) (hi : i < 100) (e : os.map OpM.o = oneS k)
    (hL : L' = { L with last := seq + (oneS k).length - 1, size := L.size + (frameB (encB seq (oneS k))).length }) (v' : SlV 2 a' (m.length + 1) c' (batC (m ++ [⟨seq, oa, oc, os⟩]))) (ov : SlV 4 oa os.length oc (opsC os)) (ovs : OsV os) (hc : s'.calls ≤ s.calls + 2) :
    Lk s' L' (m ++ [⟨seq, oa, oc, os⟩]) a' c' (seq + k) (i + 1) := by
  have t2 := t.s2
  have t1 := t.s1
  have tl := t.fl
  have tc := t.ca
  have hl := one_len (seq := seq) (n := k) (by omega) t1 (by omega)
  have eb : (m ++ [(⟨seq, oa, oc, os⟩ : BaM)]).map BaM.bat = m.map BaM.bat ++ [(seq, oneS k)] := by simp [BaM.bat, e]
  have el : (m ++ [(⟨seq, oa, oc, os⟩ : BaM)]).length = m.length + 1 := by simp
  have tm := t.ml
  subst hL
  refine ⟨t.nm, ?_, ?_, t.torn, ?_, ?_, by rw [el]; exact v', ?_, ?_, by omega, by omega, ?_, by rw [el]; omega, by omega⟩
  · rw [eb, lastB_app]
  · rw [eb, fileB_app, List.length_append]; show L.size + _ = _; rw [t.size]; simp
  · rw [eb]; intro b hb
    rcases List.mem_append.1 hb with hb | hb
    · exact t.ok b hb
    · rw [List.mem_singleton] at hb; rw [hb]; exact one_ok hk1 (by omega) t1 (by omega)
  · rw [eb]; refine chainB_app t.ch fun z => ?_
    rw [← t.last] at z ⊢; exact t.sq z
  · intro x hx
    rcases List.mem_append.1 hx with hx | hx
    · exact t.vs x hx
    · rw [List.mem_singleton] at hx; subst hx; exact ⟨ov, ovs⟩
  · intro _; show seq + (k : Int) = seq + ((oneS k).length : Nat) - 1 + 1; rw [oneS_len]; omega
  · rw [eb, fileB_app, List.length_append]; simp only; omega
section
variable {w0 : World} {K : Value → AH → Prop}
theorem f7_spec {a b : Option Addr} {c d : Nat} {l pk : List Int} {x : Int} (hl : PickOk w0 a c l) (hll : l.length ≤ 1000000000000000) (hx : x ≤ 9223372036854775807) (hp : PickOk w0 b d pk) (hk : ∀ h, K (.bool true) h) :
    EvC Go.Proofs.Try.prog w0 7 #[.slice a l.length c, .int .i64 x, .slice b pk.length d] K (fun _ => none) := by
  have tail : ∀ (bd : Nat) (s : Ds) (D : PD) (m m1 : List BaM) (ma a1 : Option Addr) (mc c1 : Nat) (h : AH), D.bd = bd → PRep s D → s.calls < 1000000 → W1 s (fileB (m.map BaM.bat) ++ fileB (m1.map BaM.bat)) (fileB (m.map BaM.bat)).length → (fileB (m.map BaM.bat) ++ fileB (m1.map BaM.bat)).length ≤ 4194304 → m.length ≤ 20 → m1.length ≤ 1 →
      (∀ b ∈ m.map BaM.bat ++ m1.map BaM.bat, okB b) → chainB 0 (m.map BaM.bat) → chainB 0 (m.map BaM.bat ++ m1.map BaM.bat) → SlV 2 ma m.length mc (batC m) → BsV m → SlV 2 a1 m1.length c1 (batC m1) → BsV m1 → Own w0 h (D.blocks s ++ (slB ma (batC m) (mc * 2) ++ (ownB m ++ (slB a1 (batC m1) (c1 * 2) ++ ownB m1)))) →
      f7_22 w0 K b pk.length d (some ⟨bd, 0, none⟩) ma m.length mc a1 m1.length c1 h := fun bd s D m m1 ma a1 mc c1 h hbd r hc hw hlen hm hm1 hok hch hch1 v vs v1 vs1 w => by
    subst hbd
    refine f7_22_in _ _ _ _ _ _ _ _ _ _ _ (f27_spec r w (by omega) hp fun h1 D1 b1 r1 w1 => ⟨rfl, ?_⟩)
    obtain ⟨bs', tl, e, ht, hb⟩ := crash_file hw (by simpa using hm1) (fun y hy => hok y (List.mem_append_right _ hy)) pk
    have hok' : ∀ y ∈ bs', okB y := fun y hy => by
      rcases hb with rfl | ⟨rfl, _⟩
      · exact hok y (List.mem_append_left _ hy)
      · exact hok y hy
    have hch' : chainB 0 bs' := by
      rcases hb with rfl | ⟨rfl, _⟩
      · exact hch
      · exact hch1
    have hbl : bs'.length ≤ 21 := by
      rcases hb with rfl | ⟨rfl, _⟩
      · simp; omega
      · simp; omega
    have hlen' : (fileB bs' ++ tl).length ≤ 4194304 := by
      obtain ⟨k', k1, k2, e2, _⟩ := crash_w hw pk
      rw [e] at e2
      have := congrArg Prod.snd e2
      simp only at this
      rw [this]
      exact Nat.le_trans (List.length_take_le ..) (by omega)
    rw [← b1]
    refine f11_spec r1 w1 e hlen' (by omega) hok' hch' ht fun h2 lb a2 c2 ms he gv gvs w2 => ⟨_, _, _, _, _, rfl, brB_of (fun z => by cases z) fun _ => ?_⟩
    have w3 : Own w0 h2 (slB a2 (batC ms) (c2 * 2) ++ (ownB ms ++ (slB ma (batC m) (mc * 2) ++ (ownB m ++ (slB a1 (batC m1) (c1 * 2) ++ ownB m1))))) := by
      refine partO w2 (List.Sublist.trans ?_ (List.sublist_cons_self ..))
      exact List.Sublist.append_left (List.Sublist.append_left (List.sublist_append_right _ _) _) _
    refine tell_all (G := fun h' => brB (Option.isSome (some (⟨lb, 0, none⟩ : Addr))) (EvC Go.Proofs.Try.prog w0 15 #[] (fun x'51 h'52 => (∃ t'53 : Bool, ((x'51 = (.bool t'53)) ∧ (K (.bool t'53) h'52)))) h') (K (.bool false) h')) (F := K (.bool false)) w3 gv gvs v vs v1 vs1 (by omega) (by omega) (by rw [he]; exact hok') ?_ (fun h' w' => brB_of (fun _ => f15_spec w' fun h4 _ => ⟨_, rfl, hk h4⟩) fun z => by cases z) fun a3 c3 h3 g => g
    rw [he]
    rcases hb with e | ⟨e, e1⟩
    · exact Or.inl e
    · exact Or.inr ⟨e, by simpa using e1⟩
  have loop : ∀ (bd lb k i : Nat), i + k = l.length → i ≤ 20 → ∀ (s : Ds) (D : PD) (L : Lg) (m : List BaM) (ma : Option Addr) (mc : Nat) (seq : Int) (h : AH), D.bd = bd → PRep s D → Fz s → W1 s (fileB (m.map BaM.bat)) (fileB (m.map BaM.bat)).length → L.failed = false → Lk s L m ma mc seq i → Own w0 h (LgO lb bd L :: (D.blocks s ++ (slB ma (batC m) (mc * 2) ++ ownB m))) →
      f7_12 w0 K a l.length c b pk.length d (some ⟨bd, 0, none⟩) (some ⟨lb, 0, none⟩) ma m.length mc seq none 0 0 ((i : Nat) : Int) h := fun bd lb k => by
    induction k with
    | zero =>
      intro i hi hi2 s D L m ma mc seq h hbd r fz hw hf t w
      have tl := t.fl
      have tm := t.ml
      have tc := t.ca
      refine f7_12_in _ _ _ _ _ _ _ _ _ _ _ _ _ _ _ _ _ (brB_of (fun z => by have := of_decide_eq_true z; omega) fun _ => ?_)
      have ee : fileB (m.map BaM.bat) ++ fileB (([] : List BaM).map BaM.bat) = fileB (m.map BaM.bat) := by simp [fileB]
      exact tail bd s D m [] ma none mc 0 h hbd r (by omega) (by rw [ee]; exact hw) (by rw [ee]; omega) (by omega) (Nat.zero_le _) (by simpa using t.ok) t.ch (by simpa using t.ch) t.v t.vs SlV.nil (fun _ z => by cases z) (by simpa [slB, ownB] using w.tail)
    | succ k ih =>
      intro i hi hi2 s D L m ma mc seq h hbd r fz hw hf t w
      have tl := t.fl
      have tm := t.ml
      have tc := t.ca
      have t1 := t.s1
      have t2 := t.s2
      have fin : f7_22 w0 K b pk.length d (some ⟨bd, 0, none⟩) ma m.length mc none 0 0 h := by
        have ee : fileB (m.map BaM.bat) ++ fileB (([] : List BaM).map BaM.bat) = fileB (m.map BaM.bat) := by simp [fileB]
        exact tail bd s D m [] ma none mc 0 h hbd r (by omega) (by rw [ee]; exact hw) (by rw [ee]; omega) (by omega) (Nat.zero_le _) (by simpa using t.ok) t.ch (by simpa using t.ch) t.v t.vs SlV.nil (fun _ z => by cases z) (by simpa [slB, ownB] using w.tail)
      refine f7_12_in _ _ _ _ _ _ _ _ _ _ _ _ _ _ _ _ _ (brB_of (fun _ => brB_of (fun z => ?_) fun _ => fin) fun z => by have := of_decide_eq_false z; omega)
      have hi3 : i < 20 := by have := of_decide_eq_true z; omega
      have hg : l[i]? = some l[i] := List.getElem?_eq_getElem _
      obtain ⟨ad, had, cc⟩ := hl.rd h i (.int .i64 l[i]) (by simp [i64s, hg])
      refine f7_14_in _ _ _ _ _ _ _ _ _ _ _ _ _ _ _ _ _ ⟨ad, had, by omega, by omega, _, by rw [Int.toNat_natCast, Nat.mul_one]; exact cc, by decide, by decide, ?_⟩
      obtain ⟨kk, k1, k5, ek⟩ := k_of5 l[i]
      rw [ek]
      have lin := lastB_in t.ok
      rw [← t.last] at lin
      have hF := one_len (seq := seq) (n := kk) (by omega) t1 (by omega)
      have ho := one_ok (seq := seq) k1 (by omega) t1 (by omega)
      refine one_raw (K2 := fun e i'16 p'17 n'18 n'19 h'21 => brB (e != (0 : Int)) (brB (e != (10 : Int)) (f7_18 w0 K b pk.length d (some ⟨bd, 0, none⟩) ma m.length mc true i'16 p'17 n'18 n'19 h'21) (EvC Go.Proofs.Try.prog w0 26 #[(.pointer (some ⟨bd, 0, none⟩))] (fun x'23 h'24 => (∃ t'25 : Bool, ((x'23 = (.bool t'25)) ∧ (f7_18 w0 K b pk.length d (some ⟨bd, 0, none⟩) ma m.length mc (!t'25) i'16 p'17 n'18 n'19 h'24)))) h'21))
        (App w0 h'21 2 32 ma m.length mc 1 [(.int .i64 i'16), (.slice p'17 n'18 n'19)] (fun a'26 c'27 h'28 => (f7_12 w0 K a l.length c b pk.length d (some ⟨bd, 0, none⟩) (some ⟨lb, 0, none⟩) a'26 (m.length + 1) c'27 (IntKind.wrap .i64 (seq + ((n'18 : Nat) : Int))) none 0 0 (IntKind.wrap .i64 (((i : Nat) : Int) + (1 : Int))) h'28)))) hbd r w (by omega) k5 lin (by rw [t.size]; omega) fun h1 D1 oa oc os e ov ovs b1 r1 w1 => ?_
      have hcc := appendW_calls (s := s) t.nm ho t.sq t.torn hf
      have hol : os.length = kk := by have := congrArg List.length e; simpa [oneS_len] using this
      rcases appendW_fz fz hw t.nm ho t.sq t.torn hf (by omega) with ⟨e0, eL, hw1, fz1⟩ | ⟨e0, eL, hw1, off1⟩
      · rw [e0]
        refine brB_of (fun z => by cases z) fun _ => ?_
        have w2 : Own w0 h1 ((LgO lb bd (appendW L s seq (oneS kk)).2.1 :: (D1.blocks (appendW L s seq (oneS kk)).2.2 ++ (slB oa (opsC os) (oc * 4) ++ ownO os))) ++ (slB ma (batC m) (mc * 2) ++ ownB m)) := by
          simpa only [List.append_assoc, List.cons_append] using w1
        refine App_mid t.v w2 (by omega) (by omega) rfl (row2_cell ⟨seq, oa, oc, os⟩) fun a8 c8 h8 v8 w8 => ?_
        have eo : batC m ++ [.int .i64 seq, .slice oa os.length oc] = batC (m ++ [(⟨seq, oa, oc, os⟩ : BaM)]) := by simp [batC]
        rw [eo] at v8 w8
        rw [wrapS (by omega), wrap64 (by omega) (by omega), hol]
        have t' := t.more k1 k5 (by omega) e eL v8 ov ovs hcc
        have eb : (m ++ [(⟨seq, oa, oc, os⟩ : BaM)]).map BaM.bat = m.map BaM.bat ++ [(seq, oneS kk)] := by simp [BaM.bat, e]
        have ef : fileB ((m ++ [(⟨seq, oa, oc, os⟩ : BaM)]).map BaM.bat) = fileB (m.map BaM.bat) ++ frameB (encB seq (oneS kk)) := by rw [eb, fileB_app]
        have := ih (i + 1) (by omega) (by omega) _ D1 _ (m ++ [⟨seq, oa, oc, os⟩]) a8 c8 (seq + kk) h8 b1 r1 fz1 (by rw [ef]; exact hw1) (by rw [eL]; exact hf) t' (by
          have eow : ownB (m ++ [(⟨seq, oa, oc, os⟩ : BaM)]) = ownB m ++ (slB oa (opsC os) (oc * 4) ++ ownO os) := by simp [ownB]
          rw [eow]
          refine w8.perm ?_
          simp only [List.cons_append]
          refine List.Perm.cons _ ?_
          rw [List.append_assoc]
          refine List.Perm.append_left _ ?_
          have p1 := List.perm_append_comm (l₁ := slB oa (opsC os) (oc * 4) ++ ownO os) (l₂ := slB a8 (batC (m ++ [(⟨seq, oa, oc, os⟩ : BaM)])) (c8 * 2) ++ ownB m)
          simpa only [List.append_assoc] using p1)
        have el : (m ++ [(⟨seq, oa, oc, os⟩ : BaM)]).length = m.length + 1 := by simp
        rw [el] at this
        exact this
      · rw [e0]
        refine brB_of (fun _ => brB_of (fun z => by cases z) fun _ => ?_) fun z => by cases z
        rw [← b1]
        refine f26_spec w1.tail ⟨_, rfl, ?_⟩
        rw [off1]
        refine f7_18_in _ _ _ _ _ _ _ _ _ _ _ _ _ (brB_of (fun z => by cases z) fun _ => ?_)
        intro bb hb0 hbn
        have ef : fileB ([(⟨seq, oa, oc, os⟩ : BaM)].map BaM.bat) = frameB (encB seq (oneS kk)) := by simp [fileB, BaM.bat, e]
        have ebm : [(⟨seq, oa, oc, os⟩ : BaM)].map BaM.bat = [(seq, oneS kk)] := by simp [BaM.bat, e]
        have w2 := w1.tail.new (o := .cells [.int .i64 seq, .slice oa os.length oc] 2) hb0 hbn
        refine tail D1.bd _ D1 m [⟨seq, oa, oc, os⟩] ma (some ⟨bb, 0, none⟩) mc 1 _ rfl r1 (by omega) (by rw [ef]; exact hw1) (by rw [ef, List.length_append]; omega) (by omega) (Nat.le_refl _) ?_ t.ch ?_ t.v t.vs ⟨rfl, Nat.le_refl _, rfl, rfl⟩ (fun y hy => ?_) ?_
        · intro y hy
          rcases List.mem_append.1 hy with hy | hy
          · exact t.ok y hy
          · rw [ebm, List.mem_singleton] at hy; rw [hy]; exact ho
        · rw [ebm]; exact chainB_app t.ch fun z => by rw [← t.last] at z ⊢; exact t.sq z
        · rw [List.mem_singleton] at hy; subst hy; exact ⟨ov, ovs⟩
        · refine w2.perm ?_
          have eow : ownB [(⟨seq, oa, oc, os⟩ : BaM)] = slB oa (opsC os) (oc * 4) ++ ownO os := by simp [ownB]
          have eslb : slB (some ⟨bb, 0, none⟩) (batC [(⟨seq, oa, oc, os⟩ : BaM)]) (1 * 2) = [(bb, AB.cells [.int .i64 seq, .slice oa os.length oc] 2)] := by simp [slB, batC]
          rw [eow, eslb]
          have p1 : ((bb, AB.cells [.int .i64 seq, .slice oa os.length oc] 2) :: (D1.blocks (appendW L s seq (oneS kk)).2.2 ++ ((slB oa (opsC os) (oc * 4) ++ ownO os) ++ (slB ma (batC m) (mc * 2) ++ ownB m)))).Perm (D1.blocks (appendW L s seq (oneS kk)).2.2 ++ ((slB ma (batC m) (mc * 2) ++ ownB m) ++ ((bb, AB.cells [.int .i64 seq, .slice oa os.length oc] 2) :: (slB oa (opsC os) (oc * 4) ++ ownO os)))) := by
            refine List.perm_middle.symm.trans (List.Perm.append_left _ ?_)
            have := List.perm_append_comm (l₁ := (bb, AB.cells [.int .i64 seq, .slice oa os.length oc] 2) :: (slB oa (opsC os) (oc * 4) ++ ownO os)) (l₂ := slB ma (batC m) (mc * 2) ++ ownB m)
            simpa only [List.cons_append] using this
          simpa only [List.append_assoc, List.cons_append, List.nil_append] using p1
  have wB : Own w0 (fun _ => none) [] := ⟨by simp, fun _ h => (by cases h), fun _ h => (by cases h)⟩
  obtain ⟨g1, g2, g3, g4, g5, g6, g7⟩ := create_w
  refine f7_go _ _ _ _ _ _ _ _ (f9_spec (room := 1048576) (by omega) wB fun h1 D r1 w1 => ⟨_, rfl, ?_⟩)
  refine f10_spec (n := nW) r1 w1 (by show (0 : Int) < _; decide) (fun z => absurd g1 z) (fun _ z => absurd g2 z) fun _ _ h2 D2 lb b2 r2 w2 => ⟨_, _, rfl, brB_of (fun z => by cases z) fun _ => brB_of (fun _ => f15_spec w2 fun h3 _ => ⟨_, rfl, hk h3⟩) fun z => ?_⟩
  have hx1 : 1 ≤ x := by have := of_decide_eq_false z; omega
  rw [← b2] at w2 ⊢
  have w3 : Own w0 h2 (D2.blocks sW ++ [LgO lb D2.bd ⟨nW, 0, 0, false, false⟩]) := by
    have := w2.perm (List.perm_middle (l₁ := D2.blocks sW)).symm
    exact this
  refine f25_spec r2 w3 hx fun h3 r3 w4 => ⟨rfl, ?_⟩
  have w5 : Own w0 h3 (LgO lb D2.bd ⟨nW, 0, 0, false, false⟩ :: (D2.blocks (fuseS x sW) ++ [])) := w4.perm List.perm_middle
  have ew : W1 (fuseS x sW) [] 0 := ⟨fuseS_ok g3.ok hx, g3.dir, g3.was, g3.fs, g3.room⟩
  have ez : Fz (fuseS x sW) := ⟨g4, g6, by show 1 ≤ (if 0 < x then x else 0); rw [if_pos (by omega)]; exact hx1⟩
  exact loop D2.bd lb l.length 0 (by omega) (by omega) (fuseS x sW) D2 _ [] none 0 1 h3 rfl r3 ez ew rfl ⟨rfl, rfl, rfl, rfl, fun _ z => (by cases z), trivial, SlV.nil, fun _ z => (by cases z), fun z => (by cases z), by decide, by decide, by decide, Nat.le_refl _, by show sW.calls ≤ _; rw [g7]; decide⟩ w5
end
end Go.G.Ytlghmjehibikeaa
