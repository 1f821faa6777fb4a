/- The log: Append, Create. -/
import Derived.Test.YtlghmjehibikeaaWD
import Derived.Test.YtlghmjehibikeaaDT
import Derived.Test.YtlghmjehibikeaaProg
set_option maxRecDepth 100000
namespace Go.G.Ytlghmjehibikeaa
open Go.RowKit
theorem createS_calls (n : ByteArray) (s : Ds) : (createS n s).2.calls = s.calls + 1 := by
  have e := (callS_same s).2.2.2.2
  unfold createS
  dsimp only
  split
  · exact e
  split
  · exact e
  split <;> exact e
theorem appendS_calls (n : ByteArray) (b : List UInt8) (s : Ds) : (appendS n b s).2.calls = s.calls + 1 := by
  have e := (callS_same s).2.2.2.2
  unfold appendS
  dsimp only
  split
  · exact e
  split
  · exact e
  · split <;> exact e

def f12_J : Nat → List Nat × Nat := jOf [(7, [1, 2, 4, 6, 7, 8, 9, 10, 11, 12, 13, 14, 15, 16, 17, 18, 19, 20, 21, 22, 23, 24, 25, 26, 27, 28, 29, 30, 32, 33, 34, 35, 36, 37, 38, 39, 40, 41, 42, 43, 44, 45, 46, 47, 48, 49, 50, 51, 52, 53, 54, 55, 56, 57, 58, 59, 60, 61, 62, 63, 64, 65, 66, 67, 68, 69, 70, 71, 72, 73, 74, 75, 76, 77, 78, 79, 80, 81, 82, 83, 84, 85, 86, 87, 88, 89, 90, 91, 92, 93, 94, 95, 96], 1), (8, [1, 2, 4, 6, 7, 8, 9, 10, 11, 12, 13, 14, 15, 16, 17, 18, 19, 20, 21, 22, 23, 24, 25, 26, 27, 28, 29, 30, 31, 32, 33, 34, 35, 36, 37, 38, 39, 40, 41, 42, 43, 44, 45, 46, 47, 48, 49, 50, 51, 52, 53, 54, 55, 56, 57, 58, 59, 60, 61, 62, 63, 64, 65, 66, 67, 68, 69, 70, 71, 72, 73, 74, 75, 76, 77, 78, 79, 80, 81, 82, 83, 84, 85, 86, 87, 88, 89, 90, 91, 92, 93, 94, 95, 96], 1), (18, [1, 2, 4, 5, 8, 9, 10, 11, 12, 13, 14, 15, 16, 17, 18, 19, 20, 21, 22, 23, 24, 25, 26, 27, 28, 29, 30, 31, 32, 33, 34, 35, 36, 37, 38, 39, 40, 41, 42, 43, 44, 45, 46, 47, 48, 49, 50, 51, 52, 53, 54, 55, 56, 57, 58, 59, 60, 61, 62, 63, 64, 65, 66, 67, 68, 69, 70, 71, 72, 73, 74, 75, 76, 77, 78, 79, 80, 81, 82, 83, 84, 85, 86, 87, 88, 89, 90, 91, 92, 93, 94, 95, 96], 1)]

def f12_7 (w0 : World) (K : Value → AH → Prop) (x0 : Option Go.Addr) (a5 : Option Go.Addr) (n5 : Nat) (c5 : Nat) (x31 : Bool) (xb0_0 : Int) (ab0_1 : Option Go.Addr) (nb0_1 : Nat) (cb0_1 : Nat) (h : AH) : Prop :=
  ∀ j : Nat → Value, LPk Go.Proofs.Try.prog w0 (EvC Go.Proofs.Try.prog w0) f12_J 12 K 7 [.v (.pointer x0), .v (j 1), .v (j 2), .bp 0 0, .v (j 4), .v (.slice a5 n5 c5), .v (j 6), .v (j 7), .v (j 8), .v (j 9), .v (j 10), .v (j 11), .v (j 12), .v (j 13), .v (j 14), .v (j 15), .v (j 16), .v (j 17), .v (j 18), .v (j 19), .v (j 20), .v (j 21), .v (j 22), .v (j 23), .v (j 24), .v (j 25), .v (j 26), .v (j 27), .v (j 28), .v (j 29), .v (j 30), .v (.bool x31), .v (j 32), .v (j 33), .v (j 34), .v (j 35), .v (j 36), .v (j 37), .v (j 38), .v (j 39), .v (j 40), .v (j 41), .v (j 42), .v (j 43), .v (j 44), .v (j 45), .v (j 46), .v (j 47), .v (j 48), .v (j 49), .v (j 50), .v (j 51), .v (j 52), .v (j 53), .v (j 54), .v (j 55), .v (j 56), .v (j 57), .v (j 58), .v (j 59), .v (j 60), .v (j 61), .v (j 62), .v (j 63), .v (j 64), .v (j 65), .v (j 66), .v (j 67), .v (j 68), .v (j 69), .v (j 70), .v (j 71), .v (j 72), .v (j 73), .v (j 74), .v (j 75), .v (j 76), .v (j 77), .v (j 78), .v (j 79), .v (j 80), .v (j 81), .v (j 82), .v (j 83), .v (j 84), .v (j 85), .v (j 86), .v (j 87), .v (j 88), .v (j 89), .v (j 90), .v (j 91), .v (j 92), .v (j 93), .v (j 94), .v (j 95), .v (j 96)] [some [(.int .i64 xb0_0), (.slice ab0_1 nb0_1 cb0_1)]] h

def f12_8 (w0 : World) (K : Value → AH → Prop) (x0 : Option Go.Addr) (a5 : Option Go.Addr) (n5 : Nat) (c5 : Nat) (xb0_0 : Int) (ab0_1 : Option Go.Addr) (nb0_1 : Nat) (cb0_1 : Nat) (h : AH) : Prop :=
  ∀ j : Nat → Value, LPk Go.Proofs.Try.prog w0 (EvC Go.Proofs.Try.prog w0) f12_J 12 K 8 [.v (.pointer x0), .v (j 1), .v (j 2), .bp 0 0, .v (j 4), .v (.slice a5 n5 c5), .v (j 6), .v (j 7), .v (j 8), .v (j 9), .v (j 10), .v (j 11), .v (j 12), .v (j 13), .v (j 14), .v (j 15), .v (j 16), .v (j 17), .v (j 18), .v (j 19), .v (j 20), .v (j 21), .v (j 22), .v (j 23), .v (j 24), .v (j 25), .v (j 26), .v (j 27), .v (j 28), .v (j 29), .v (j 30), .v (j 31), .v (j 32), .v (j 33), .v (j 34), .v (j 35), .v (j 36), .v (j 37), .v (j 38), .v (j 39), .v (j 40), .v (j 41), .v (j 42), .v (j 43), .v (j 44), .v (j 45), .v (j 46), .v (j 47), .v (j 48), .v (j 49), .v (j 50), .v (j 51), .v (j 52), .v (j 53), .v (j 54), .v (j 55), .v (j 56), .v (j 57), .v (j 58), .v (j 59), .v (j 60), .v (j 61), .v (j 62), .v (j 63), .v (j 64), .v (j 65), .v (j 66), .v (j 67), .v (j 68), .v (j 69), .v (j 70), .v (j 71), .v (j 72), .v (j 73), .v (j 74), .v (j 75), .v (j 76), .v (j 77), .v (j 78), .v (j 79), .v (j 80), .v (j 81), .v (j 82), .v (j 83), .v (j 84), .v (j 85), .v (j 86), .v (j 87), .v (j 88), .v (j 89), .v (j 90), .v (j 91), .v (j 92), .v (j 93), .v (j 94), .v (j 95), .v (j 96)] [some [(.int .i64 xb0_0), (.slice ab0_1 nb0_1 cb0_1)]] h

def f12_18 (w0 : World) (K : Value → AH → Prop) (x0 : Option Go.Addr) (x6 : Int) (a7 : Option Go.Addr) (n7 : Nat) (c7 : Nat) (xb0_0 : Int) (ab0_1 : Option Go.Addr) (nb0_1 : Nat) (cb0_1 : Nat) (h : AH) : Prop :=
  ∀ j : Nat → Value, LPk Go.Proofs.Try.prog w0 (EvC Go.Proofs.Try.prog w0) f12_J 12 K 18 [.v (.pointer x0), .v (j 1), .v (j 2), .bp 0 0, .v (j 4), .v (j 5), .v (.int .i64 x6), .v (.slice a7 n7 c7), .v (j 8), .v (j 9), .v (j 10), .v (j 11), .v (j 12), .v (j 13), .v (j 14), .v (j 15), .v (j 16), .v (j 17), .v (j 18), .v (j 19), .v (j 20), .v (j 21), .v (j 22), .v (j 23), .v (j 24), .v (j 25), .v (j 26), .v (j 27), .v (j 28), .v (j 29), .v (j 30), .v (j 31), .v (j 32), .v (j 33), .v (j 34), .v (j 35), .v (j 36), .v (j 37), .v (j 38), .v (j 39), .v (j 40), .v (j 41), .v (j 42), .v (j 43), .v (j 44), .v (j 45), .v (j 46), .v (j 47), .v (j 48), .v (j 49), .v (j 50), .v (j 51), .v (j 52), .v (j 53), .v (j 54), .v (j 55), .v (j 56), .v (j 57), .v (j 58), .v (j 59), .v (j 60), .v (j 61), .v (j 62), .v (j 63), .v (j 64), .v (j 65), .v (j 66), .v (j 67), .v (j 68), .v (j 69), .v (j 70), .v (j 71), .v (j 72), .v (j 73), .v (j 74), .v (j 75), .v (j 76), .v (j 77), .v (j 78), .v (j 79), .v (j 80), .v (j 81), .v (j 82), .v (j 83), .v (j 84), .v (j 85), .v (j 86), .v (j 87), .v (j 88), .v (j 89), .v (j 90), .v (j 91), .v (j 92), .v (j 93), .v (j 94), .v (j 95), .v (j 96)] [some [(.int .i64 xb0_0), (.slice ab0_1 nb0_1 cb0_1)]] h

theorem f12_7_in {w0 : World} {K : Value → AH → Prop} (x0 : Option Go.Addr) (a5 : Option Go.Addr) (n5 : Nat) (c5 : Nat) (x31 : Bool) (xb0_0 : Int) (ab0_1 : Option Go.Addr) (nb0_1 : Nat) (cb0_1 : Nat) (h : AH)
  (hv : (brB x31 (K (Go.Value.int .i64 (11 : Int)) h) (f12_8 w0 K x0 a5 n5 c5 xb0_0 ab0_1 nb0_1 cb0_1 h))) :
  f12_7 w0 K x0 a5 n5 c5 x31 xb0_0 ab0_1 nb0_1 cb0_1 h := fun j => LP_intro (P := Go.Proofs.Try.prog) (Eq.mp (by kernel_rfl) hv)

theorem f12_8_in {w0 : World} {K : Value → AH → Prop} (x0 : Option Go.Addr) (a5 : Option Go.Addr) (n5 : Nat) (c5 : Nat) (xb0_0 : Int) (ab0_1 : Option Go.Addr) (nb0_1 : Nat) (cb0_1 : Nat) (h : AH)
  (hv : (EvC Go.Proofs.Try.prog w0 35 #[(Go.Value.slice none 0 0), (Go.Value.slice a5 n5 c5)] (fun x'10 h'11 => (∃ p'12 : Option Go.Addr, (∃ n'13 : Nat, (∃ n'14 : Nat, (∃ i'15 : Int, ((x'10 = (Go.Value.tuple #[(Go.Value.slice p'12 n'13 n'14), (Go.Value.int .i64 i'15)])) ∧ (brB (i'15 != (0 : Int)) (K (Go.Value.int .i64 i'15) h'11) (∃ a'16 : Go.Addr, ((x0 = (some a'16)) ∧ (∃ t'17 : Bool, (((Go.G.cellA w0 h'11 (Go.Addr.add a'16 4)) = (some (Go.Value.bool t'17))) ∧ (brB t'17 (K (Go.Value.int .i64 (16 : Int)) h'11) (∃ a'18 : Go.Addr, ((x0 = (some a'18)) ∧ (∃ t'19 : Bool, (((Go.G.cellA w0 h'11 (Go.Addr.add a'18 5)) = (some (Go.Value.bool t'19))) ∧ (brB t'19 (K (Go.Value.int .i64 (12 : Int)) h'11) (∃ a'20 : Go.Addr, ((x0 = (some a'20)) ∧ (∃ a'21 : Go.Addr, ((x0 = (some a'21)) ∧ ((∃ p'22 : Option Go.Addr, (((Go.G.cellA w0 h'11 (Go.Addr.add a'20 0)) = (some (Go.Value.pointer p'22))) ∧ (∃ s'23 : ByteArray, (((Go.G.cellA w0 h'11 (Go.Addr.add a'21 1)) = (some (Go.Value.string s'23))) ∧ (EvC Go.Proofs.Try.prog w0 36 #[(Go.Value.pointer p'22), (Go.Value.string s'23), (Go.Value.slice p'12 n'13 n'14)] (fun x'24 h'25 => (∃ i'26 : Int, ((x'24 = (Go.Value.int .i64 i'26)) ∧ (brB (i'26 == (0 : Int)) (∃ a'27 : Go.Addr, ((x0 = (some a'27)) ∧ (∃ a'28 : Go.Addr, ((x0 = (some a'28)) ∧ ((∃ p'29 : Option Go.Addr, (((Go.G.cellA w0 h'25 (Go.Addr.add a'27 0)) = (some (Go.Value.pointer p'29))) ∧ (∃ s'30 : ByteArray, (((Go.G.cellA w0 h'25 (Go.Addr.add a'28 1)) = (some (Go.Value.string s'30))) ∧ (EvC Go.Proofs.Try.prog w0 37 #[(Go.Value.pointer p'29), (Go.Value.string s'30)] (fun x'31 h'32 => (∃ i'33 : Int, ((x'31 = (Go.Value.int .i64 i'33)) ∧ (f12_18 w0 K x0 i'33 p'12 n'13 n'14 xb0_0 ab0_1 nb0_1 cb0_1 h'32)))) h'25))))) ∧ (∃ s'34 : ByteArray, (((Go.G.cellA w0 h'25 (Go.Addr.add a'28 1)) = (some (Go.Value.string s'34))) ∧ (∃ p'35 : Option Go.Addr, (((Go.G.cellA w0 h'25 (Go.Addr.add a'27 0)) = (some (Go.Value.pointer p'35))) ∧ (EvC Go.Proofs.Try.prog w0 37 #[(Go.Value.pointer p'35), (Go.Value.string s'34)] (fun x'36 h'37 => (∃ i'38 : Int, ((x'36 = (Go.Value.int .i64 i'38)) ∧ (f12_18 w0 K x0 i'38 p'12 n'13 n'14 xb0_0 ab0_1 nb0_1 cb0_1 h'37)))) h'25)))))))))) (f12_18 w0 K x0 i'26 p'12 n'13 n'14 xb0_0 ab0_1 nb0_1 cb0_1 h'25))))) h'11))))) ∧ (∃ s'39 : ByteArray, (((Go.G.cellA w0 h'11 (Go.Addr.add a'21 1)) = (some (Go.Value.string s'39))) ∧ (∃ p'40 : Option Go.Addr, (((Go.G.cellA w0 h'11 (Go.Addr.add a'20 0)) = (some (Go.Value.pointer p'40))) ∧ (EvC Go.Proofs.Try.prog w0 36 #[(Go.Value.pointer p'40), (Go.Value.string s'39), (Go.Value.slice p'12 n'13 n'14)] (fun x'41 h'42 => (∃ i'43 : Int, ((x'41 = (Go.Value.int .i64 i'43)) ∧ (brB (i'43 == (0 : Int)) (∃ a'44 : Go.Addr, ((x0 = (some a'44)) ∧ (∃ a'45 : Go.Addr, ((x0 = (some a'45)) ∧ ((∃ p'46 : Option Go.Addr, (((Go.G.cellA w0 h'42 (Go.Addr.add a'44 0)) = (some (Go.Value.pointer p'46))) ∧ (∃ s'47 : ByteArray, (((Go.G.cellA w0 h'42 (Go.Addr.add a'45 1)) = (some (Go.Value.string s'47))) ∧ (EvC Go.Proofs.Try.prog w0 37 #[(Go.Value.pointer p'46), (Go.Value.string s'47)] (fun x'48 h'49 => (∃ i'50 : Int, ((x'48 = (Go.Value.int .i64 i'50)) ∧ (f12_18 w0 K x0 i'50 p'12 n'13 n'14 xb0_0 ab0_1 nb0_1 cb0_1 h'49)))) h'42))))) ∧ (∃ s'51 : ByteArray, (((Go.G.cellA w0 h'42 (Go.Addr.add a'45 1)) = (some (Go.Value.string s'51))) ∧ (∃ p'52 : Option Go.Addr, (((Go.G.cellA w0 h'42 (Go.Addr.add a'44 0)) = (some (Go.Value.pointer p'52))) ∧ (EvC Go.Proofs.Try.prog w0 37 #[(Go.Value.pointer p'52), (Go.Value.string s'51)] (fun x'53 h'54 => (∃ i'55 : Int, ((x'53 = (Go.Value.int .i64 i'55)) ∧ (f12_18 w0 K x0 i'55 p'12 n'13 n'14 xb0_0 ab0_1 nb0_1 cb0_1 h'54)))) h'42)))))))))) (f12_18 w0 K x0 i'43 p'12 n'13 n'14 xb0_0 ab0_1 nb0_1 cb0_1 h'42))))) h'11))))))))))))))))))))))))))) h)) :
  f12_8 w0 K x0 a5 n5 c5 xb0_0 ab0_1 nb0_1 cb0_1 h := fun j => LP_intro (P := Go.Proofs.Try.prog) (Eq.mp (by kernel_rfl) hv)

theorem f12_18_in {w0 : World} {K : Value → AH → Prop} (x0 : Option Go.Addr) (x6 : Int) (a7 : Option Go.Addr) (n7 : Nat) (c7 : Nat) (xb0_0 : Int) (ab0_1 : Option Go.Addr) (nb0_1 : Nat) (cb0_1 : Nat) (h : AH)
  (hv : (brB (x6 != (0 : Int)) (∃ a'56 : Go.Addr, ((x0 = (some a'56)) ∧ (∃ l'57 : List Go.Value, (∃ n'58 : Nat, (((Array.size (Go.World.heap w0)) ≤ (Go.Addr.block (Go.Addr.add a'56 5))) ∧ (((none : Option Nat) = none) ∧ (((h (Go.Addr.block (Go.Addr.add a'56 5))) = (some (Go.G.AB.cells l'57 n'58))) ∧ ((((Go.Addr.off (Go.Addr.add a'56 5)) + 1) ≤ (List.length l'57)) ∧ (K (Go.Value.int .i64 x6) (Go.G.AH.put h (Go.Addr.block (Go.Addr.add a'56 5)) (Go.G.AB.cells (Go.G.setCells l'57 (Go.Addr.off (Go.Addr.add a'56 5)) [(Go.Value.bool true)]) n'58))))))))))) (∃ a'59 : Go.Addr, ((x0 = (some a'59)) ∧ (∃ l'60 : List Go.Value, (∃ n'61 : Nat, (((Array.size (Go.World.heap w0)) ≤ (Go.Addr.block (Go.Addr.add a'59 2))) ∧ (((none : Option Nat) = none) ∧ (((h (Go.Addr.block (Go.Addr.add a'59 2))) = (some (Go.G.AB.cells l'60 n'61))) ∧ ((((Go.Addr.off (Go.Addr.add a'59 2)) + (Array.size #[(Go.Value.int .i64 (Go.IntKind.wrap .i64 ((Go.IntKind.wrap .i64 (xb0_0 + ((nb0_1 : Nat) : Int))) - (1 : Int))))])) ≤ (List.length l'60)) ∧ (∃ a'62 : Go.Addr, ((x0 = (some a'62)) ∧ (∃ i'63 : Int, (((Go.G.cellA w0 (Go.G.AH.put h (Go.Addr.block (Go.Addr.add a'59 2)) (Go.G.AB.cells (Go.G.setCells l'60 (Go.Addr.off (Go.Addr.add a'59 2)) [(Go.Value.int .i64 (Go.IntKind.wrap .i64 ((Go.IntKind.wrap .i64 (xb0_0 + ((nb0_1 : Nat) : Int))) - (1 : Int))))]) n'61)) (Go.Addr.add a'62 3)) = (some (Go.Value.int .i64 i'63))) ∧ (∃ a'64 : Go.Addr, ((x0 = (some a'64)) ∧ (∃ l'65 : List Go.Value, (∃ n'66 : Nat, (((Array.size (Go.World.heap w0)) ≤ (Go.Addr.block (Go.Addr.add a'64 3))) ∧ (((none : Option Nat) = none) ∧ (((Go.G.AH.put h (Go.Addr.block (Go.Addr.add a'59 2)) (Go.G.AB.cells (Go.G.setCells l'60 (Go.Addr.off (Go.Addr.add a'59 2)) [(Go.Value.int .i64 (Go.IntKind.wrap .i64 ((Go.IntKind.wrap .i64 (xb0_0 + ((nb0_1 : Nat) : Int))) - (1 : Int))))]) n'61) (Go.Addr.block (Go.Addr.add a'64 3))) = (some (Go.G.AB.cells l'65 n'66))) ∧ ((((Go.Addr.off (Go.Addr.add a'64 3)) + (Array.size #[(Go.Value.int .i64 (Go.IntKind.wrap .i64 (i'63 + ((n7 : Nat) : Int))))])) ≤ (List.length l'65)) ∧ (K (Go.Value.int .i64 (0 : Int)) (Go.G.AH.put (Go.G.AH.put h (Go.Addr.block (Go.Addr.add a'59 2)) (Go.G.AB.cells (Go.G.setCells l'60 (Go.Addr.off (Go.Addr.add a'59 2)) [(Go.Value.int .i64 (Go.IntKind.wrap .i64 ((Go.IntKind.wrap .i64 (xb0_0 + ((nb0_1 : Nat) : Int))) - (1 : Int))))]) n'61)) (Go.Addr.block (Go.Addr.add a'64 3)) (Go.G.AB.cells (Go.G.setCells l'65 (Go.Addr.off (Go.Addr.add a'64 3)) [(Go.Value.int .i64 (Go.IntKind.wrap .i64 (i'63 + ((n7 : Nat) : Int))))]) n'66))))))))))))))))))))))))) :
  f12_18 w0 K x0 x6 a7 n7 c7 xb0_0 ab0_1 nb0_1 cb0_1 h := fun j => LP_intro (P := Go.Proofs.Try.prog) (Eq.mp (by kernel_rfl) hv)

theorem f12_go {w0 : World} {K : Value → AH → Prop} (x0 : Option Go.Addr) (x1_0 : Int) (a1_1 : Option Go.Addr) (n1_1 : Nat) (c1_1 : Nat) (h : AH)
  (hv : (brB (Option.isNone x0) (K (Go.Value.int .i64 (1 : Int)) h) (EvC Go.Proofs.Try.prog w0 34 #[(Go.Value.agg #[(Go.Value.int .i64 x1_0), (Go.Value.slice a1_1 n1_1 c1_1)])] (fun x'0 h'1 => (∃ p'2 : Option Go.Addr, (∃ n'3 : Nat, (∃ n'4 : Nat, (∃ i'5 : Int, ((x'0 = (Go.Value.tuple #[(Go.Value.slice p'2 n'3 n'4), (Go.Value.int .i64 i'5)])) ∧ (brB (i'5 != (0 : Int)) (K (Go.Value.int .i64 (1 : Int)) h'1) (∃ a'6 : Go.Addr, ((x0 = (some a'6)) ∧ (∃ i'7 : Int, (((Go.G.cellA w0 h'1 (Go.Addr.add a'6 2)) = (some (Go.Value.int .i64 i'7))) ∧ (brB (decide (((0 : Int) < i'7))) (∃ a'8 : Go.Addr, ((x0 = (some a'8)) ∧ (∃ i'9 : Int, (((Go.G.cellA w0 h'1 (Go.Addr.add a'8 2)) = (some (Go.Value.int .i64 i'9))) ∧ (f12_7 w0 K x0 p'2 n'3 n'4 (x1_0 != (Go.IntKind.wrap .i64 (i'9 + (1 : Int)))) x1_0 a1_1 n1_1 c1_1 h'1))))) (f12_7 w0 K x0 p'2 n'3 n'4 false x1_0 a1_1 n1_1 c1_1 h'1))))))))))))) h))) :
  EvC Go.Proofs.Try.prog w0 12 ([(.pointer x0), (.agg #[(.int .i64 x1_0), (.slice a1_1 n1_1 c1_1)])]).toArray K h := EvC_intro (P := Go.Proofs.Try.prog) f12_J (Eq.mp (by kernel_rfl) hv)
def f10_J : Nat → List Nat × Nat := jOf []



theorem f10_go {w0 : World} {K : Value → AH → Prop} (x0 : Option Go.Addr) (x1 : ByteArray) (h : AH)
  (hv : (EvC Go.Proofs.Try.prog w0 29 #[(Go.Value.pointer x0), (Go.Value.string x1)] (fun x'0 h'1 => (∃ i'2 : Int, ((x'0 = (Go.Value.int .i64 i'2)) ∧ (brB (i'2 != (0 : Int)) (K (Go.Value.tuple #[(Go.Value.pointer none), (Go.Value.int .i64 i'2)]) h'1) (EvC Go.Proofs.Try.prog w0 30 #[(Go.Value.pointer x0)] (fun x'3 h'4 => (∃ i'5 : Int, ((x'3 = (Go.Value.int .i64 i'5)) ∧ (brB (i'5 != (0 : Int)) (K (Go.Value.tuple #[(Go.Value.pointer none), (Go.Value.int .i64 i'5)]) h'4) (newB w0 h'4 (Go.G.AB.cells [(Go.Value.pointer x0), (Go.Value.string x1), (Go.Value.int .i64 (0 : Int)), (Go.Value.int .i64 (0 : Int)), (Go.Value.bool false), (Go.Value.bool false)] (List.length [(Go.Value.pointer x0), (Go.Value.string x1), (Go.Value.int .i64 (0 : Int)), (Go.Value.int .i64 (0 : Int)), (Go.Value.bool false), (Go.Value.bool false)])) (fun b'6 h'7 => (K (Go.Value.tuple #[(Go.Value.pointer (some (Go.Addr.mk b'6 0 none))), (Go.Value.int .i64 (0 : Int))]) h'7))))))) h'1))))) h)) :
  EvC Go.Proofs.Try.prog w0 10 ([(.pointer x0), (.string x1)]).toArray K h := EvC_intro (P := Go.Proofs.Try.prog) f10_J (Eq.mp (by kernel_rfl) hv)
/-! ### the log -/
structure Lg where
  name : ByteArray
  last : Int
  size : Int
  torn : Bool
  failed : Bool
@[reducible] def logC (bd : Nat) (L : Lg) : List Value := [.pointer (some ⟨bd, 0, none⟩), .string L.name, .int .i64 L.last, .int .i64 L.size, .bool L.torn, .bool L.failed]
def appendW (L : Lg) (s : Ds) (seq : Int) (ops : List Op) : Int × Lg × Ds :=
  if mayB seq ops ≠ 0 then (1, L, s) else if 0 < L.last ∧ seq ≠ L.last + 1 then (11, L, s) else if 1048576 < (encB seq ops).length then (2, L, s) else if L.torn then (16, L, s) else if L.failed then (12, L, s)
  else if (appendS L.name (frameB (encB seq ops)) s).1 ≠ 0 then ((appendS L.name (frameB (encB seq ops)) s).1, { L with failed := true }, (appendS L.name (frameB (encB seq ops)) s).2)
  else if (syncS L.name (appendS L.name (frameB (encB seq ops)) s).2).1 ≠ 0 then ((syncS L.name (appendS L.name (frameB (encB seq ops)) s).2).1, { L with failed := true }, (syncS L.name (appendS L.name (frameB (encB seq ops)) s).2).2)
  else (0, { L with last := seq + ops.length - 1, size := L.size + (frameB (encB seq ops)).length }, (syncS L.name (appendS L.name (frameB (encB seq ops)) s).2).2)
theorem frameB_len (r : List UInt8) (h : r.length ≤ 2000000) : (frameB r).length ≤ r.length + 14 ∧ 5 ≤ (frameB r).length := by
  have := putV_len10 (n := r.length) (by omega)
  unfold frameB restB
  rw [List.length_append, List.length_append, fixedV_len]
  omega
section
variable {w0 : World} {K : Value → AH → Prop} {h : AH} {B : List (Nat × AB)}
theorem f35_long {b : Option Addr} {d : Nat} {r : List UInt8} (hl : 1048576 < r.length) (hk : K (.tuple #[.slice none 0 0, .int .i64 2]) h) : EvC Go.Proofs.Try.prog w0 35 #[.slice none 0 0, .slice b r.length d] K h :=
  f35_go _ _ _ _ _ _ _ (brB_of (fun _ => hk) fun q => by have := of_decide_eq_false q; omega)
set_option maxHeartbeats 1000000 in
/-- (*Log).Append. -/
theorem f12_spec {s : Ds} {D : PD} {lb : Nat} {L : Lg} {seq : Int} {a : Option Addr} {c : Nat} {l : List OpM} (r : PRep s D) (w : Own w0 h ((lb, .cells (logC D.bd L) 6) :: (D.blocks s ++ B))) (hc : s.calls < 100000000) (hO : ∀ h', Own w0 h' B → OpsOk w0 h' a l)
    (hL : 0 ≤ L.last ∧ L.last ≤ 4611686018427387904) (hS : 0 ≤ L.size ∧ L.size ≤ 1000000000000)
    (hk : ∀ h' D', D'.bd = D.bd → PRep (appendW L s seq (l.map OpM.o)).2.2 D' → Own w0 h' ((lb, .cells (logC D.bd (appendW L s seq (l.map OpM.o)).2.1) 6) :: (D'.blocks (appendW L s seq (l.map OpM.o)).2.2 ++ B)) → K (.int .i64 (appendW L s seq (l.map OpM.o)).1) h') :
    EvC Go.Proofs.Try.prog w0 12 #[.pointer (some ⟨lb, 0, none⟩), .agg #[.int .i64 seq, .slice a l.length c]] K h := by
  unfold appendW at hk
  refine f12_go _ _ _ _ _ _ (brB_of (fun q => by cases q) fun _ => ?_)
  refine f34_spec w (fun h' w' => hO h' w'.tail.drop) (fun hm => ⟨_, _, _, _, rfl, brB_of (fun _ => ?_) fun q => ?_⟩) fun h1 a1 c1 hm v1 w1 => ⟨_, _, _, _, rfl, brB_of (fun q => by cases q) fun _ => ?_⟩
  · rw [if_pos hm] at hk
    exact hk h D rfl r w
  · have : mayB seq (l.map OpM.o) = 0 := by simpa using q
    exact absurd this hm
  rw [if_neg (by simp [hm])] at hk
  obtain ⟨g1, g2, g3, g4, g5⟩ := mayB_zero hm
  rw [List.length_map] at g1 g2 g4
  have hel := encB_len hm
  generalize hE : encB seq (l.map OpM.o) = E at *
  have wl := w1.drop
  have seven : ∀ x : Bool, (x = true ↔ (0 < L.last ∧ seq ≠ L.last + 1)) → f12_7 w0 K (some ⟨lb, 0, none⟩) a1 E.length c1 x seq a l.length c h1 := fun x hx => by
    refine f12_7_in _ _ _ _ _ _ _ _ _ _ (brB_of (fun q => ?_) fun q => ?_)
    · rw [if_pos (hx.1 q)] at hk
      exact hk h1 D rfl r wl
    rw [if_neg (fun y => by rw [hx.2 y] at q; cases q)] at hk
    refine f12_8_in _ _ _ _ _ _ _ _ _ ?_
    by_cases qL : 1048576 < E.length
    · rw [if_pos qL] at hk
      exact f35_long qL ⟨_, _, _, _, rfl, brB_of (fun _ => hk h1 D rfl r wl) fun q => by cases q⟩
    rw [if_neg qL] at hk
    refine f35_spec w1 (fun h' w' => v1.rd (cs := []) w') (by omega) fun h2 a2 c2 v2 w2 => ⟨_, _, _, _, rfl, brB_of (fun q => by cases q) fun _ => ?_⟩
    have hfl := frameB_len E (by omega)
    generalize hF : frameB E = F at *
    have w3 : Own w0 h2 (slB a2 (u8s F) (c2 * 1) ++ ((lb, .cells (logC D.bd L) 6) :: (D.blocks s ++ B))) := w2.cut
    have wl2 := w3.drop
    refine ⟨_, rfl, _, wl2.cell0 rfl, brB_of (fun q => ?_) fun q => ⟨_, rfl, _, wl2.cell0 rfl, brB_of (fun q1 => ?_) fun q1 => ?_⟩⟩
    · rw [if_pos q] at hk
      exact hk h2 D rfl r wl2
    · rw [if_neg (by simp [q]), if_pos q1] at hk
      exact hk h2 D rfl r wl2
    rw [if_neg (by simp [q]), if_neg (by simp [q1])] at hk
    have w4 : Own w0 h2 (D.blocks s ++ (slB a2 (u8s F) (c2 * 1) ++ ((lb, .cells (logC D.bd L) 6) :: B))) := by
      have p1 : (slB a2 (u8s F) (c2 * 1) ++ ((lb, AB.cells (logC D.bd L) 6) :: (D.blocks s ++ B))).Perm (D.blocks s ++ (slB a2 (u8s F) (c2 * 1) ++ ((lb, .cells (logC D.bd L) 6) :: B))) := by
        have := List.perm_append_comm_assoc (slB a2 (u8s F) (c2 * 1) ++ [(lb, AB.cells (logC D.bd L) 6)]) (D.blocks s) B
        simpa only [List.append_assoc, List.cons_append, List.nil_append] using this
      exact w3.perm p1
    have ca := wl2.cell0 (j := 0) rfl
    have cb := wl2.cell0 (j := 1) rfl
    have back : ∀ {s' : Ds} {D' : PD} {L' : Lg} {h'}, Own w0 h' (D'.blocks s' ++ (slB a2 (u8s F) (c2 * 1) ++ ((lb, .cells (logC D.bd L') 6) :: B))) → Own w0 h' ((lb, .cells (logC D.bd L') 6) :: (D'.blocks s' ++ B)) := fun {s'} {D'} {L'} {h'} w' => by
      have q1 : Own w0 h' (D'.blocks s' ++ ((lb, .cells (logC D.bd L') 6) :: B)) := w'.cut
      exact q1.perm List.perm_middle
    have fail : ∀ (e : Int) (s' : Ds) (D' : PD) (h' : AH), e ≠ 0 → Own w0 h' ((lb, .cells (logC D.bd L) 6) :: (D'.blocks s' ++ B)) → (∀ h'', Own w0 h'' ((lb, .cells (logC D.bd { L with failed := true }) 6) :: (D'.blocks s' ++ B)) → K (.int .i64 e) h'') → f12_18 w0 K (some ⟨lb, 0, none⟩) e a2 F.length c2 seq a l.length c h' := fun e s' D' h' he w' hf => by
      refine f12_18_in _ _ _ _ _ _ _ _ _ _ (brB_of (fun _ => ?_) fun z => absurd (by simpa using z) he)
      exact ⟨_, rfl, _, 6, w'.ge, rfl, w'.hd, by simp [Addr.add], hf _ w'.put⟩
    have done : ∀ (s' : Ds) (D' : PD) (h' : AH), Own w0 h' ((lb, .cells (logC D.bd L) 6) :: (D'.blocks s' ++ B)) → (∀ h'', Own w0 h'' ((lb, .cells (logC D.bd { L with last := seq + ((l.map OpM.o).length : Nat) - 1, size := L.size + (F.length : Nat) }) 6) :: (D'.blocks s' ++ B)) → K (.int .i64 0) h'') → f12_18 w0 K (some ⟨lb, 0, none⟩) 0 a2 F.length c2 seq a l.length c h' := fun s' D' h' w' hf => by
      refine f12_18_in _ _ _ _ _ _ _ _ _ _ (brB_of (fun z => by cases z) fun _ => ?_)
      have w5 := w'.put (o' := .cells (logC D.bd { L with last := seq + ((l.map OpM.o).length : Nat) - 1 }) 6)
      have e1 : IntKind.i64.wrap (IntKind.i64.wrap (seq + ((l.length : Nat) : Int)) - 1) = seq + ((l.map OpM.o).length : Nat) - 1 := by rw [wrap64 (x := seq + ((l.length : Nat) : Int)) (by omega) (by omega), wrap64 (by omega) (by omega), List.length_map]
      have e2 : IntKind.i64.wrap (L.size + ((F.length : Nat) : Int)) = L.size + (F.length : Nat) := wrap64 (by omega) (by omega)
      rw [e1]
      refine ⟨_, rfl, _, 6, w'.ge, rfl, w'.hd, by simp [Addr.add], _, rfl, _, w5.cell0 rfl, _, rfl, _, 6, w5.ge, rfl, w5.hd, by simp [Addr.add], ?_⟩
      rw [e2]
      exact hf _ w5.put
    have app : ∀ Q : Value → AH → Prop, (∀ h' D', D'.bd = D.bd → PRep (appendS L.name F s).2 D' → Own w0 h' (D'.blocks (appendS L.name F s).2 ++ (slB a2 (u8s F) (c2 * 1) ++ ((lb, .cells (logC D.bd L) 6) :: B))) → Q (.int .i64 (appendS L.name F s).1) h') →
        EvC Go.Proofs.Try.prog w0 36 #[.pointer (some ⟨D.bd, 0, none⟩), .string L.name, .slice a2 F.length c2] Q h2 := fun Q hQ =>
      f36_spec r w4 (by omega) (fun h' w' => v2.rd (cs := []) w') (by omega) hQ
    have hcal := appendS_calls L.name F s
    have tail : ∀ h' D', D'.bd = D.bd → PRep (appendS L.name F s).2 D' → Own w0 h' (D'.blocks (appendS L.name F s).2 ++ (slB a2 (u8s F) (c2 * 1) ++ ((lb, .cells (logC D.bd L) 6) :: B))) →
        brB ((appendS L.name F s).1 == (0 : Int)) (∃ a'27 : Addr, ((some ⟨lb, 0, none⟩ : Option Addr) = (some a'27)) ∧ ∃ a'28 : Addr, ((some ⟨lb, 0, none⟩ : Option Addr) = (some a'28)) ∧
          (∃ p'29 : Option Addr, ((cellA w0 h' (Addr.add a'27 0)) = (some (.pointer p'29))) ∧ ∃ s'30 : ByteArray, ((cellA w0 h' (Addr.add a'28 1)) = (some (.string s'30))) ∧
            EvC Go.Proofs.Try.prog w0 37 #[.pointer p'29, .string s'30] (fun x'31 h'32 => (∃ i'33 : Int, ((x'31 = (.int .i64 i'33)) ∧ (f12_18 w0 K (some ⟨lb, 0, none⟩) i'33 a2 F.length c2 seq a l.length c h'32)))) h') ∧
          (∃ s'34 : ByteArray, ((cellA w0 h' (Addr.add a'28 1)) = (some (.string s'34))) ∧ ∃ p'35 : Option Addr, ((cellA w0 h' (Addr.add a'27 0)) = (some (.pointer p'35))) ∧
            EvC Go.Proofs.Try.prog w0 37 #[.pointer p'35, .string s'34] (fun x'36 h'37 => (∃ i'38 : Int, ((x'36 = (.int .i64 i'38)) ∧ (f12_18 w0 K (some ⟨lb, 0, none⟩) i'38 a2 F.length c2 seq a l.length c h'37)))) h'))
          (f12_18 w0 K (some ⟨lb, 0, none⟩) (appendS L.name F s).1 a2 F.length c2 seq a l.length c h') := fun h' D' b' r' w' => by
      have wlb := back w'
      refine brB_of (fun q => ?_) fun q => ?_
      · have q0 : (appendS L.name F s).1 = 0 := by simpa using q
        rw [if_neg (by simp [q0])] at hk
        have sync : EvC Go.Proofs.Try.prog w0 37 #[.pointer (some ⟨D.bd, 0, none⟩), .string L.name] (fun x'31 h'32 => (∃ i'33 : Int, ((x'31 = (.int .i64 i'33)) ∧ (f12_18 w0 K (some ⟨lb, 0, none⟩) i'33 a2 F.length c2 seq a l.length c h'32)))) h' := by
          rw [← b']
          refine f37_spec r' w' (by rw [hcal]; omega) fun h5 D5 b5 r5 w5 => ⟨_, rfl, ?_⟩
          have wlb5 := back w5
          by_cases q5 : (syncS L.name (appendS L.name F s).2).1 = 0
          · rw [if_neg (by simp [q5])] at hk
            rw [q5]
            exact done _ D5 h5 wlb5 fun h6 w6 => hk h6 D5 (b5.trans b') r5 w6
          · rw [if_pos q5] at hk
            exact fail _ _ D5 h5 q5 wlb5 fun h6 w6 => hk h6 D5 (b5.trans b') r5 w6
        exact ⟨_, rfl, _, rfl, ⟨_, wlb.cell0 rfl, _, wlb.cell0 rfl, sync⟩, ⟨_, wlb.cell0 rfl, _, wlb.cell0 rfl, sync⟩⟩
      · have q0 : (appendS L.name F s).1 ≠ 0 := by simpa using q
        rw [if_pos q0] at hk
        exact fail _ _ D' h' q0 wlb fun h6 w6 => hk h6 D' b' r' w6
    exact ⟨_, rfl, _, rfl, ⟨_, ca, _, cb, app _ fun h' D' b' r' w' => ⟨_, rfl, tail h' D' b' r' w'⟩⟩, ⟨_, cb, _, ca, app _ fun h' D' b' r' w' => ⟨_, rfl, tail h' D' b' r' w'⟩⟩⟩
  refine ⟨_, rfl, _, wl.cell0 rfl, brB_of (fun q => ⟨_, rfl, _, wl.cell0 rfl, seven _ ?_⟩) fun q => seven _ ?_⟩
  · have := of_decide_eq_true q
    rw [wrap64 (by omega) (by omega)]
    simp [this]
  · have := of_decide_eq_false q
    simp; omega
/-- wal.Create. -/
theorem f10_spec {s : Ds} {D : PD} {n : ByteArray} (r : PRep s D) (w : Own w0 h (D.blocks s ++ B)) (hc : s.calls < 100000000)
    (hk1 : (createS n s).1 ≠ 0 → ∀ h' D', D'.bd = D.bd → PRep (createS n s).2 D' → Own w0 h' (D'.blocks (createS n s).2 ++ B) → K (.tuple #[.pointer none, .int .i64 (createS n s).1]) h')
    (hk2 : (createS n s).1 = 0 → (syncDirS (createS n s).2).1 ≠ 0 → ∀ h' D', D'.bd = D.bd → PRep (syncDirS (createS n s).2).2 D' → Own w0 h' (D'.blocks (syncDirS (createS n s).2).2 ++ B) → K (.tuple #[.pointer none, .int .i64 (syncDirS (createS n s).2).1]) h')
    (hk : (createS n s).1 = 0 → (syncDirS (createS n s).2).1 = 0 → ∀ h' D' lb, D'.bd = D.bd → PRep (syncDirS (createS n s).2).2 D' → Own w0 h' ((lb, .cells (logC D.bd ⟨n, 0, 0, false, false⟩) 6) :: (D'.blocks (syncDirS (createS n s).2).2 ++ B)) → K (.tuple #[.pointer (some ⟨lb, 0, none⟩), .int .i64 0]) h') :
    EvC Go.Proofs.Try.prog w0 10 #[.pointer (some ⟨D.bd, 0, none⟩), .string n] K h := by
  have hcal := createS_calls n s
  refine f10_go _ _ _ (f29_spec r w (by omega) fun h1 D1 b1 r1 w1 => ⟨_, rfl, brB_of (fun q => hk1 (by simpa using q) h1 D1 b1 r1 w1) fun q => ?_⟩)
  have q0 : (createS n s).1 = 0 := by simpa using q
  rw [← b1]
  refine f30_spec r1 w1 (by rw [hcal]; omega) fun h2 D2 b2 r2 w2 => ⟨_, rfl, brB_of (fun q1 => hk2 q0 (by simpa using q1) h2 D2 (b2.trans b1) r2 w2) fun q1 => ?_⟩
  have q2 : (syncDirS (createS n s).2).1 = 0 := by simpa using q1
  intro lb hlb hn
  have w3 := w2.new (o := .cells (logC D1.bd ⟨n, 0, 0, false, false⟩) 6) hlb hn
  rw [b1] at w3 ⊢
  exact hk q0 q2 _ D2 lb (b2.trans b1) r2 w3
end
end Go.G.Ytlghmjehibikeaa
