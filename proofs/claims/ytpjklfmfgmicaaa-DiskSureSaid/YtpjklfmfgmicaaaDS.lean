/- Crash of the program's disk. -/
import Derived.Test.YtpjklfmfgmicaaaDR
import Derived.Test.YtpjklfmfgmicaaaProg
set_option maxRecDepth 100000
namespace Go.G.Ytpjklfmfgmicaaa
open Go.RowKit
def f54_J : Nat → List Nat × Nat := jOf []



theorem f54_go {w0 : World} {K : Value → AH → Prop} (x0 : Option Go.Addr) (x1 : Int) (h : AH)
  (hv : (∃ a'0 : Go.Addr, ((x0 = (some a'0)) ∧ (∃ p'1 : Option Go.Addr, (∃ n'2 : Nat, (∃ n'3 : Nat, (((Go.G.cellA w0 h (Go.Addr.add a'0 0)) = (some (Go.Value.slice p'1 n'2 n'3))) ∧ (brB (((n'2 : Nat) : Int) == (0 : Int)) (K (Go.Value.int .i64 (0 : Int)) h) (∃ a'4 : Go.Addr, ((x0 = (some a'4)) ∧ (∃ p'5 : Option Go.Addr, (∃ n'6 : Nat, (∃ n'7 : Nat, (((Go.G.cellA w0 h (Go.Addr.add a'4 0)) = (some (Go.Value.slice p'5 n'6 n'7))) ∧ (∃ a'8 : Go.Addr, ((p'5 = (some a'8)) ∧ (((0 : Int) ≤ (0 : Int)) ∧ (((0 : Int) < ((n'6 : Nat) : Int)) ∧ (∃ i'9 : Int, (((Go.G.cellA w0 h (Go.Addr.add a'8 0)) = (some (Go.Value.int .i64 i'9))) ∧ (∃ a'10 : Go.Addr, ((x0 = (some a'10)) ∧ (∃ p'11 : Option Go.Addr, (∃ n'12 : Nat, (∃ n'13 : Nat, (((Go.G.cellA w0 h (Go.Addr.add a'10 0)) = (some (Go.Value.slice p'11 n'12 n'13))) ∧ (((0 : Int) ≤ (1 : Int)) ∧ (((1 : Int) ≤ ((n'12 : Nat) : Int)) ∧ (∃ a'14 : Go.Addr, ((x0 = (some a'14)) ∧ (∃ l'15 : List Go.Value, (∃ n'16 : Nat, (((Array.size (Go.World.heap w0)) ≤ (Go.Addr.block (Go.Addr.add a'14 0))) ∧ (((Go.Addr.spot (Go.Addr.add a'14 0)) = none) ∧ (((h (Go.Addr.block (Go.Addr.add a'14 0))) = (some (Go.G.AB.cells l'15 n'16))) ∧ ((((Go.Addr.off (Go.Addr.add a'14 0)) + (Array.size #[(Go.Value.slice (Go.G.cutA 1 p'11 n'13 1) (n'12 - 1) (n'13 - 1))])) ≤ (List.length l'15)) ∧ (brB (decide ((i'9 < (0 : Int)))) (((Go.IntKind.wrap .i64 (x1 + (1 : Int))) ≠ (0 : Int)) ∧ (K (Go.Value.int .i64 (Int.tmod (Go.IntKind.wrap .i64 (((BitVec.toNat ((BitVec.ofInt 64 i'9) &&& (BitVec.ofInt 64 (4611686018427387903 : Int)))) : Nat) : Int)) (Go.IntKind.wrap .i64 (x1 + (1 : Int))))) (Go.G.AH.put h (Go.Addr.block (Go.Addr.add a'14 0)) (Go.G.AB.cells (Go.G.setCells l'15 (Go.Addr.off (Go.Addr.add a'14 0)) [(Go.Value.slice (Go.G.cutA 1 p'11 n'13 1) (n'12 - 1) (n'13 - 1))]) n'16)))) (((Go.IntKind.wrap .i64 (x1 + (1 : Int))) ≠ (0 : Int)) ∧ (K (Go.Value.int .i64 (Int.tmod i'9 (Go.IntKind.wrap .i64 (x1 + (1 : Int))))) (Go.G.AH.put h (Go.Addr.block (Go.Addr.add a'14 0)) (Go.G.AB.cells (Go.G.setCells l'15 (Go.Addr.off (Go.Addr.add a'14 0)) [(Go.Value.slice (Go.G.cutA 1 p'11 n'13 1) (n'12 - 1) (n'13 - 1))]) n'16))))))))))))))))))))))))))))))))))))))))) :
  EvC Go.Proofs.Try.prog w0 54 ([(.pointer x0), (.int .i64 x1)]).toArray K h := EvC_intro (P := Go.Proofs.Try.prog) f54_J (Eq.mp (by kernel_rfl) hv)
def f28_J : Nat → List Nat × Nat := jOf [(4, [1, 2, 3, 6, 7, 8, 9, 10, 11, 12, 13, 14, 15, 16, 17, 18, 19, 20, 21, 22, 23, 24, 25, 26, 27, 28, 29, 30, 31, 32, 36, 37, 38, 39, 40, 41, 42, 43, 44, 45, 46, 47, 48, 49, 50, 51, 52, 53, 54, 55, 56, 57, 58, 59, 60, 61, 62, 63, 64, 65, 66, 67, 68, 69, 70, 71, 72, 73, 74, 75, 76, 77, 78, 79, 80, 81, 82, 83, 84, 85, 86, 87, 88, 89, 90, 91, 92, 93, 94, 95, 96, 97, 98, 99, 100, 101, 102, 103, 104, 105, 106, 107], 0), (9, [1, 2, 3, 6, 7, 8, 9, 10, 11, 12, 13, 14, 15, 16, 17, 18, 19, 20, 21, 22, 23, 24, 25, 26, 27, 28, 29, 30, 31, 32, 33, 34, 35, 36, 37, 38, 39, 40, 41, 42, 43, 44, 48, 49, 50, 51, 52, 53, 54, 55, 56, 57, 58, 59, 60, 61, 62, 63, 64, 65, 66, 67, 68, 69, 70, 71, 72, 73, 74, 75, 76, 77, 78, 79, 80, 81, 82, 83, 84, 85, 86, 87, 88, 89, 90, 91, 92, 93, 94, 95, 96, 97, 98, 99, 100, 101, 102, 103, 104, 105, 106, 107], 0)]

def f28_4 (w0 : World) (K : Value → AH → Prop) (x0 : Option Go.Addr) (x4 : Go.Addr) (x5 : Option Nat) (a33 : Option Go.Addr) (n33 : Nat) (c33 : Nat) (x34 : Int) (x35 : Int) (h : AH) : Prop :=
  ∀ j : Nat → Value, LPk Go.Proofs.Try.prog w0 (EvC Go.Proofs.Try.prog w0) f28_J 28 K 4 [.v (.pointer x0), .v (j 1), .v (j 2), .v (j 3), .v (.pointer (some x4)), .v (.map x5), .v (j 6), .v (j 7), .v (j 8), .v (j 9), .v (j 10), .v (j 11), .v (j 12), .v (j 13), .v (j 14), .v (j 15), .v (j 16), .v (j 17), .v (j 18), .v (j 19), .v (j 20), .v (j 21), .v (j 22), .v (j 23), .v (j 24), .v (j 25), .v (j 26), .v (j 27), .v (j 28), .v (j 29), .v (j 30), .v (j 31), .v (j 32), .v (.slice a33 n33 c33), .v (.int .i64 x34), .v (.int .i64 x35), .v (j 36), .v (j 37), .v (j 38), .v (j 39), .v (j 40), .v (j 41), .v (j 42), .v (j 43), .v (j 44), .v (j 45), .v (j 46), .v (j 47), .v (j 48), .v (j 49), .v (j 50), .v (j 51), .v (j 52), .v (j 53), .v (j 54), .v (j 55), .v (j 56), .v (j 57), .v (j 58), .v (j 59), .v (j 60), .v (j 61), .v (j 62), .v (j 63), .v (j 64), .v (j 65), .v (j 66), .v (j 67), .v (j 68), .v (j 69), .v (j 70), .v (j 71), .v (j 72), .v (j 73), .v (j 74), .v (j 75), .v (j 76), .v (j 77), .v (j 78), .v (j 79), .v (j 80), .v (j 81), .v (j 82), .v (j 83), .v (j 84), .v (j 85), .v (j 86), .v (j 87), .v (j 88), .v (j 89), .v (j 90), .v (j 91), .v (j 92), .v (j 93), .v (j 94), .v (j 95), .v (j 96), .v (j 97), .v (j 98), .v (j 99), .v (j 100), .v (j 101), .v (j 102), .v (j 103), .v (j 104), .v (j 105), .v (j 106), .v (j 107)] [] h

def f28_9 (w0 : World) (K : Value → AH → Prop) (x0 : Option Go.Addr) (x4 : Go.Addr) (x5 : Option Nat) (a45 : Option Go.Addr) (n45 : Nat) (c45 : Nat) (x46 : Int) (x47 : Int) (h : AH) : Prop :=
  ∀ j : Nat → Value, LPk Go.Proofs.Try.prog w0 (EvC Go.Proofs.Try.prog w0) f28_J 28 K 9 [.v (.pointer x0), .v (j 1), .v (j 2), .v (j 3), .v (.pointer (some x4)), .v (.map x5), .v (j 6), .v (j 7), .v (j 8), .v (j 9), .v (j 10), .v (j 11), .v (j 12), .v (j 13), .v (j 14), .v (j 15), .v (j 16), .v (j 17), .v (j 18), .v (j 19), .v (j 20), .v (j 21), .v (j 22), .v (j 23), .v (j 24), .v (j 25), .v (j 26), .v (j 27), .v (j 28), .v (j 29), .v (j 30), .v (j 31), .v (j 32), .v (j 33), .v (j 34), .v (j 35), .v (j 36), .v (j 37), .v (j 38), .v (j 39), .v (j 40), .v (j 41), .v (j 42), .v (j 43), .v (j 44), .v (.slice a45 n45 c45), .v (.int .i64 x46), .v (.int .i64 x47), .v (j 48), .v (j 49), .v (j 50), .v (j 51), .v (j 52), .v (j 53), .v (j 54), .v (j 55), .v (j 56), .v (j 57), .v (j 58), .v (j 59), .v (j 60), .v (j 61), .v (j 62), .v (j 63), .v (j 64), .v (j 65), .v (j 66), .v (j 67), .v (j 68), .v (j 69), .v (j 70), .v (j 71), .v (j 72), .v (j 73), .v (j 74), .v (j 75), .v (j 76), .v (j 77), .v (j 78), .v (j 79), .v (j 80), .v (j 81), .v (j 82), .v (j 83), .v (j 84), .v (j 85), .v (j 86), .v (j 87), .v (j 88), .v (j 89), .v (j 90), .v (j 91), .v (j 92), .v (j 93), .v (j 94), .v (j 95), .v (j 96), .v (j 97), .v (j 98), .v (j 99), .v (j 100), .v (j 101), .v (j 102), .v (j 103), .v (j 104), .v (j 105), .v (j 106), .v (j 107)] [] h

theorem f28_4_in {w0 : World} {K : Value → AH → Prop} (x0 : Option Go.Addr) (x4 : Go.Addr) (x5 : Option Nat) (a33 : Option Go.Addr) (n33 : Nat) (c33 : Nat) (x34 : Int) (x35 : Int) (h : AH)
  (hv : (brB (decide ((x35 < x34))) (∃ a'37 : Go.Addr, ((a33 = (some a'37)) ∧ (((0 : Int) ≤ x35) ∧ ((x35 < ((n33 : Nat) : Int)) ∧ (∃ s'38 : ByteArray, (∃ s'39 : ByteArray, (∃ p'40 : Option Go.Addr, ((((Array.size #[(Go.Value.string s'38), (Go.Value.string s'39), (Go.Value.pointer p'40)]) = 3) ∧ (At w0 h (Go.Addr.add a'37 ((Int.toNat x35) * 3)) [(Go.Value.string s'38), (Go.Value.string s'39), (Go.Value.pointer p'40)])) ∧ (EvC Go.Proofs.Try.prog w0 55 #[(Go.Value.agg #[(Go.Value.string s'38), (Go.Value.string s'39), (Go.Value.pointer p'40)]), (Go.Value.map x5)] (fun x'41 h'42 => ((x'41 = (Go.Value.tuple #[])) ∧ (f28_4 w0 K x0 x4 x5 a33 n33 c33 x34 (Go.IntKind.wrap .i64 (x35 + (1 : Int))) h'42))) h))))))))) (EvC Go.Proofs.Try.prog w0 57 #[(Go.Value.map x5)] (fun x'43 h'44 => (∃ v'45 : Go.Value, ((x'43 = v'45) ∧ (EvC Go.Proofs.Try.prog w0 56 #[v'45] (fun x'46 h'47 => (∃ p'48 : Option Go.Addr, (∃ n'49 : Nat, (∃ n'50 : Nat, ((x'46 = (Go.Value.slice p'48 n'49 n'50)) ∧ (f28_9 w0 K x0 x4 x5 p'48 n'49 n'50 ((n'49 : Nat) : Int) (0 : Int) h'47)))))) h'44)))) h))) :
  f28_4 w0 K x0 x4 x5 a33 n33 c33 x34 x35 h := fun j => LP_intro (P := Go.Proofs.Try.prog) (Eq.mp (by kernel_rfl) hv)

theorem f28_9_in {w0 : World} {K : Value → AH → Prop} (x0 : Option Go.Addr) (x4 : Go.Addr) (x5 : Option Nat) (a45 : Option Go.Addr) (n45 : Nat) (c45 : Nat) (x46 : Int) (x47 : Int) (h : AH)
  (hv : (brB (decide ((x47 < x46))) (∃ a'51 : Go.Addr, ((a45 = (some a'51)) ∧ (((0 : Int) ≤ x47) ∧ ((x47 < ((n45 : Nat) : Int)) ∧ (∃ s'52 : ByteArray, (((Go.G.cellA w0 h (Go.Addr.add a'51 ((Int.toNat x47) * 1))) = (some (Go.Value.string s'52))) ∧ (((Go.G.plainKey Go.Proofs.Try.prog 65 (Go.Value.string s'52)) = true) ∧ (mapAt Go.Proofs.Try.prog w0 h x5 65 (fun es'53 => (∃ p'54 : Option Go.Addr, (((Go.Value.pointer p'54) = (Option.getD (Go.G.getM (Go.Value.string s'52) es'53) (Go.Value.pointer none))) ∧ (∃ a'55 : Go.Addr, ((p'54 = (some a'55)) ∧ (∃ a'56 : Go.Addr, ((p'54 = (some a'56)) ∧ (∃ a'57 : Go.Addr, ((p'54 = (some a'57)) ∧ ((∃ i'58 : Int, (((Go.G.cellA w0 h (Go.Addr.add a'55 1)) = (some (Go.Value.int .i64 i'58))) ∧ ((∃ p'59 : Option Go.Addr, (∃ n'60 : Nat, (∃ n'61 : Nat, (((Go.G.cellA w0 h (Go.Addr.add a'56 0)) = (some (Go.Value.slice p'59 n'60 n'61))) ∧ (∃ i'62 : Int, (((Go.G.cellA w0 h (Go.Addr.add a'57 1)) = (some (Go.Value.int .i64 i'62))) ∧ (EvC Go.Proofs.Try.prog w0 54 #[(Go.Value.pointer (some x4)), (Go.Value.int .i64 (Go.IntKind.wrap .i64 (((n'60 : Nat) : Int) - i'62)))] (fun x'63 h'64 => (∃ i'65 : Int, ((x'63 = (Go.Value.int .i64 i'65)) ∧ (∃ a'66 : Go.Addr, ((p'54 = (some a'66)) ∧ (∃ p'67 : Option Go.Addr, (∃ n'68 : Nat, (∃ n'69 : Nat, (((Go.G.cellA w0 h'64 (Go.Addr.add a'66 0)) = (some (Go.Value.slice p'67 n'68 n'69))) ∧ (((0 : Int) ≤ (Go.IntKind.wrap .i64 (i'58 + i'65))) ∧ (((Go.IntKind.wrap .i64 (i'58 + i'65)) ≤ ((n'69 : Nat) : Int)) ∧ (rowsOf w0 h'64 1 p'67 (Int.toNat (Go.IntKind.wrap .i64 (i'58 + i'65))) (fun ys'70 => (App w0 h'64 1 1 none 0 0 (Int.toNat (Go.IntKind.wrap .i64 (i'58 + i'65))) ys'70 (fun a'71 c'72 h'73 => (newB w0 h'73 (Go.G.AB.cells [(Go.Value.slice a'71 (0 + (Int.toNat (Go.IntKind.wrap .i64 (i'58 + i'65)))) c'72), (Go.Value.int .i64 (Go.IntKind.wrap .i64 (i'58 + i'65)))] (List.length [(Go.Value.slice a'71 (0 + (Int.toNat (Go.IntKind.wrap .i64 (i'58 + i'65)))) c'72), (Go.Value.int .i64 (Go.IntKind.wrap .i64 (i'58 + i'65)))])) (fun b'74 h'75 => (((Go.G.plainKey Go.Proofs.Try.prog 65 (Go.Value.string s'52)) = true) ∧ (∃ n'76 : Nat, ((x5 = (some n'76)) ∧ (mapAt Go.Proofs.Try.prog w0 h'75 (some n'76) 65 (fun es'77 => (f28_9 w0 K x0 x4 x5 a45 n45 c45 x46 (Go.IntKind.wrap .i64 (x47 + (1 : Int))) (Go.G.AH.putm h'75 n'76 (Go.G.putM (Go.Value.string s'52) (Go.Value.pointer (some (Go.Addr.mk b'74 0 none))) es'77))))))))))))))))))))))))) h))))))) ∧ (∃ i'78 : Int, (((Go.G.cellA w0 h (Go.Addr.add a'57 1)) = (some (Go.Value.int .i64 i'78))) ∧ (∃ p'79 : Option Go.Addr, (∃ n'80 : Nat, (∃ n'81 : Nat, (((Go.G.cellA w0 h (Go.Addr.add a'56 0)) = (some (Go.Value.slice p'79 n'80 n'81))) ∧ (EvC Go.Proofs.Try.prog w0 54 #[(Go.Value.pointer (some x4)), (Go.Value.int .i64 (Go.IntKind.wrap .i64 (((n'80 : Nat) : Int) - i'78)))] (fun x'82 h'83 => (∃ i'84 : Int, ((x'82 = (Go.Value.int .i64 i'84)) ∧ (∃ a'85 : Go.Addr, ((p'54 = (some a'85)) ∧ (∃ p'86 : Option Go.Addr, (∃ n'87 : Nat, (∃ n'88 : Nat, (((Go.G.cellA w0 h'83 (Go.Addr.add a'85 0)) = (some (Go.Value.slice p'86 n'87 n'88))) ∧ (((0 : Int) ≤ (Go.IntKind.wrap .i64 (i'58 + i'84))) ∧ (((Go.IntKind.wrap .i64 (i'58 + i'84)) ≤ ((n'88 : Nat) : Int)) ∧ (rowsOf w0 h'83 1 p'86 (Int.toNat (Go.IntKind.wrap .i64 (i'58 + i'84))) (fun ys'89 => (App w0 h'83 1 1 none 0 0 (Int.toNat (Go.IntKind.wrap .i64 (i'58 + i'84))) ys'89 (fun a'90 c'91 h'92 => (newB w0 h'92 (Go.G.AB.cells [(Go.Value.slice a'90 (0 + (Int.toNat (Go.IntKind.wrap .i64 (i'58 + i'84)))) c'91), (Go.Value.int .i64 (Go.IntKind.wrap .i64 (i'58 + i'84)))] (List.length [(Go.Value.slice a'90 (0 + (Int.toNat (Go.IntKind.wrap .i64 (i'58 + i'84)))) c'91), (Go.Value.int .i64 (Go.IntKind.wrap .i64 (i'58 + i'84)))])) (fun b'93 h'94 => (((Go.G.plainKey Go.Proofs.Try.prog 65 (Go.Value.string s'52)) = true) ∧ (∃ n'95 : Nat, ((x5 = (some n'95)) ∧ (mapAt Go.Proofs.Try.prog w0 h'94 (some n'95) 65 (fun es'96 => (f28_9 w0 K x0 x4 x5 a45 n45 c45 x46 (Go.IntKind.wrap .i64 (x47 + (1 : Int))) (Go.G.AH.putm h'94 n'95 (Go.G.putM (Go.Value.string s'52) (Go.Value.pointer (some (Go.Addr.mk b'93 0 none))) es'96))))))))))))))))))))))))) h)))))))))) ∧ ((∃ p'97 : Option Go.Addr, (∃ n'98 : Nat, (∃ n'99 : Nat, (((Go.G.cellA w0 h (Go.Addr.add a'56 0)) = (some (Go.Value.slice p'97 n'98 n'99))) ∧ ((∃ i'100 : Int, (((Go.G.cellA w0 h (Go.Addr.add a'55 1)) = (some (Go.Value.int .i64 i'100))) ∧ (∃ i'101 : Int, (((Go.G.cellA w0 h (Go.Addr.add a'57 1)) = (some (Go.Value.int .i64 i'101))) ∧ (EvC Go.Proofs.Try.prog w0 54 #[(Go.Value.pointer (some x4)), (Go.Value.int .i64 (Go.IntKind.wrap .i64 (((n'98 : Nat) : Int) - i'101)))] (fun x'102 h'103 => (∃ i'104 : Int, ((x'102 = (Go.Value.int .i64 i'104)) ∧ (∃ a'105 : Go.Addr, ((p'54 = (some a'105)) ∧ (∃ p'106 : Option Go.Addr, (∃ n'107 : Nat, (∃ n'108 : Nat, (((Go.G.cellA w0 h'103 (Go.Addr.add a'105 0)) = (some (Go.Value.slice p'106 n'107 n'108))) ∧ (((0 : Int) ≤ (Go.IntKind.wrap .i64 (i'100 + i'104))) ∧ (((Go.IntKind.wrap .i64 (i'100 + i'104)) ≤ ((n'108 : Nat) : Int)) ∧ (rowsOf w0 h'103 1 p'106 (Int.toNat (Go.IntKind.wrap .i64 (i'100 + i'104))) (fun ys'109 => (App w0 h'103 1 1 none 0 0 (Int.toNat (Go.IntKind.wrap .i64 (i'100 + i'104))) ys'109 (fun a'110 c'111 h'112 => (newB w0 h'112 (Go.G.AB.cells [(Go.Value.slice a'110 (0 + (Int.toNat (Go.IntKind.wrap .i64 (i'100 + i'104)))) c'111), (Go.Value.int .i64 (Go.IntKind.wrap .i64 (i'100 + i'104)))] (List.length [(Go.Value.slice a'110 (0 + (Int.toNat (Go.IntKind.wrap .i64 (i'100 + i'104)))) c'111), (Go.Value.int .i64 (Go.IntKind.wrap .i64 (i'100 + i'104)))])) (fun b'113 h'114 => (((Go.G.plainKey Go.Proofs.Try.prog 65 (Go.Value.string s'52)) = true) ∧ (∃ n'115 : Nat, ((x5 = (some n'115)) ∧ (mapAt Go.Proofs.Try.prog w0 h'114 (some n'115) 65 (fun es'116 => (f28_9 w0 K x0 x4 x5 a45 n45 c45 x46 (Go.IntKind.wrap .i64 (x47 + (1 : Int))) (Go.G.AH.putm h'114 n'115 (Go.G.putM (Go.Value.string s'52) (Go.Value.pointer (some (Go.Addr.mk b'113 0 none))) es'116))))))))))))))))))))))))) h))))) ∧ (∃ i'117 : Int, (((Go.G.cellA w0 h (Go.Addr.add a'57 1)) = (some (Go.Value.int .i64 i'117))) ∧ ((∃ i'118 : Int, (((Go.G.cellA w0 h (Go.Addr.add a'55 1)) = (some (Go.Value.int .i64 i'118))) ∧ (EvC Go.Proofs.Try.prog w0 54 #[(Go.Value.pointer (some x4)), (Go.Value.int .i64 (Go.IntKind.wrap .i64 (((n'98 : Nat) : Int) - i'117)))] (fun x'119 h'120 => (∃ i'121 : Int, ((x'119 = (Go.Value.int .i64 i'121)) ∧ (∃ a'122 : Go.Addr, ((p'54 = (some a'122)) ∧ (∃ p'123 : Option Go.Addr, (∃ n'124 : Nat, (∃ n'125 : Nat, (((Go.G.cellA w0 h'120 (Go.Addr.add a'122 0)) = (some (Go.Value.slice p'123 n'124 n'125))) ∧ (((0 : Int) ≤ (Go.IntKind.wrap .i64 (i'118 + i'121))) ∧ (((Go.IntKind.wrap .i64 (i'118 + i'121)) ≤ ((n'125 : Nat) : Int)) ∧ (rowsOf w0 h'120 1 p'123 (Int.toNat (Go.IntKind.wrap .i64 (i'118 + i'121))) (fun ys'126 => (App w0 h'120 1 1 none 0 0 (Int.toNat (Go.IntKind.wrap .i64 (i'118 + i'121))) ys'126 (fun a'127 c'128 h'129 => (newB w0 h'129 (Go.G.AB.cells [(Go.Value.slice a'127 (0 + (Int.toNat (Go.IntKind.wrap .i64 (i'118 + i'121)))) c'128), (Go.Value.int .i64 (Go.IntKind.wrap .i64 (i'118 + i'121)))] (List.length [(Go.Value.slice a'127 (0 + (Int.toNat (Go.IntKind.wrap .i64 (i'118 + i'121)))) c'128), (Go.Value.int .i64 (Go.IntKind.wrap .i64 (i'118 + i'121)))])) (fun b'130 h'131 => (((Go.G.plainKey Go.Proofs.Try.prog 65 (Go.Value.string s'52)) = true) ∧ (∃ n'132 : Nat, ((x5 = (some n'132)) ∧ (mapAt Go.Proofs.Try.prog w0 h'131 (some n'132) 65 (fun es'133 => (f28_9 w0 K x0 x4 x5 a45 n45 c45 x46 (Go.IntKind.wrap .i64 (x47 + (1 : Int))) (Go.G.AH.putm h'131 n'132 (Go.G.putM (Go.Value.string s'52) (Go.Value.pointer (some (Go.Addr.mk b'130 0 none))) es'133))))))))))))))))))))))))) h))) ∧ (EvC Go.Proofs.Try.prog w0 54 #[(Go.Value.pointer (some x4)), (Go.Value.int .i64 (Go.IntKind.wrap .i64 (((n'98 : Nat) : Int) - i'117)))] (fun x'134 h'135 => (∃ i'136 : Int, ((x'134 = (Go.Value.int .i64 i'136)) ∧ (∃ i'137 : Int, (((Go.G.cellA w0 h'135 (Go.Addr.add a'55 1)) = (some (Go.Value.int .i64 i'137))) ∧ (∃ a'138 : Go.Addr, ((p'54 = (some a'138)) ∧ (∃ p'139 : Option Go.Addr, (∃ n'140 : Nat, (∃ n'141 : Nat, (((Go.G.cellA w0 h'135 (Go.Addr.add a'138 0)) = (some (Go.Value.slice p'139 n'140 n'141))) ∧ (((0 : Int) ≤ (Go.IntKind.wrap .i64 (i'137 + i'136))) ∧ (((Go.IntKind.wrap .i64 (i'137 + i'136)) ≤ ((n'141 : Nat) : Int)) ∧ (rowsOf w0 h'135 1 p'139 (Int.toNat (Go.IntKind.wrap .i64 (i'137 + i'136))) (fun ys'142 => (App w0 h'135 1 1 none 0 0 (Int.toNat (Go.IntKind.wrap .i64 (i'137 + i'136))) ys'142 (fun a'143 c'144 h'145 => (newB w0 h'145 (Go.G.AB.cells [(Go.Value.slice a'143 (0 + (Int.toNat (Go.IntKind.wrap .i64 (i'137 + i'136)))) c'144), (Go.Value.int .i64 (Go.IntKind.wrap .i64 (i'137 + i'136)))] (List.length [(Go.Value.slice a'143 (0 + (Int.toNat (Go.IntKind.wrap .i64 (i'137 + i'136)))) c'144), (Go.Value.int .i64 (Go.IntKind.wrap .i64 (i'137 + i'136)))])) (fun b'146 h'147 => (((Go.G.plainKey Go.Proofs.Try.prog 65 (Go.Value.string s'52)) = true) ∧ (∃ n'148 : Nat, ((x5 = (some n'148)) ∧ (mapAt Go.Proofs.Try.prog w0 h'147 (some n'148) 65 (fun es'149 => (f28_9 w0 K x0 x4 x5 a45 n45 c45 x46 (Go.IntKind.wrap .i64 (x47 + (1 : Int))) (Go.G.AH.putm h'147 n'148 (Go.G.putM (Go.Value.string s'52) (Go.Value.pointer (some (Go.Addr.mk b'146 0 none))) es'149))))))))))))))))))))))))))) h))))))))) ∧ (∃ i'150 : Int, (((Go.G.cellA w0 h (Go.Addr.add a'57 1)) = (some (Go.Value.int .i64 i'150))) ∧ ((∃ i'151 : Int, (((Go.G.cellA w0 h (Go.Addr.add a'55 1)) = (some (Go.Value.int .i64 i'151))) ∧ (∃ p'152 : Option Go.Addr, (∃ n'153 : Nat, (∃ n'154 : Nat, (((Go.G.cellA w0 h (Go.Addr.add a'56 0)) = (some (Go.Value.slice p'152 n'153 n'154))) ∧ (EvC Go.Proofs.Try.prog w0 54 #[(Go.Value.pointer (some x4)), (Go.Value.int .i64 (Go.IntKind.wrap .i64 (((n'153 : Nat) : Int) - i'150)))] (fun x'155 h'156 => (∃ i'157 : Int, ((x'155 = (Go.Value.int .i64 i'157)) ∧ (∃ a'158 : Go.Addr, ((p'54 = (some a'158)) ∧ (∃ p'159 : Option Go.Addr, (∃ n'160 : Nat, (∃ n'161 : Nat, (((Go.G.cellA w0 h'156 (Go.Addr.add a'158 0)) = (some (Go.Value.slice p'159 n'160 n'161))) ∧ (((0 : Int) ≤ (Go.IntKind.wrap .i64 (i'151 + i'157))) ∧ (((Go.IntKind.wrap .i64 (i'151 + i'157)) ≤ ((n'161 : Nat) : Int)) ∧ (rowsOf w0 h'156 1 p'159 (Int.toNat (Go.IntKind.wrap .i64 (i'151 + i'157))) (fun ys'162 => (App w0 h'156 1 1 none 0 0 (Int.toNat (Go.IntKind.wrap .i64 (i'151 + i'157))) ys'162 (fun a'163 c'164 h'165 => (newB w0 h'165 (Go.G.AB.cells [(Go.Value.slice a'163 (0 + (Int.toNat (Go.IntKind.wrap .i64 (i'151 + i'157)))) c'164), (Go.Value.int .i64 (Go.IntKind.wrap .i64 (i'151 + i'157)))] (List.length [(Go.Value.slice a'163 (0 + (Int.toNat (Go.IntKind.wrap .i64 (i'151 + i'157)))) c'164), (Go.Value.int .i64 (Go.IntKind.wrap .i64 (i'151 + i'157)))])) (fun b'166 h'167 => (((Go.G.plainKey Go.Proofs.Try.prog 65 (Go.Value.string s'52)) = true) ∧ (∃ n'168 : Nat, ((x5 = (some n'168)) ∧ (mapAt Go.Proofs.Try.prog w0 h'167 (some n'168) 65 (fun es'169 => (f28_9 w0 K x0 x4 x5 a45 n45 c45 x46 (Go.IntKind.wrap .i64 (x47 + (1 : Int))) (Go.G.AH.putm h'167 n'168 (Go.G.putM (Go.Value.string s'52) (Go.Value.pointer (some (Go.Addr.mk b'166 0 none))) es'169))))))))))))))))))))))))) h))))))) ∧ (∃ p'170 : Option Go.Addr, (∃ n'171 : Nat, (∃ n'172 : Nat, (((Go.G.cellA w0 h (Go.Addr.add a'56 0)) = (some (Go.Value.slice p'170 n'171 n'172))) ∧ ((∃ i'173 : Int, (((Go.G.cellA w0 h (Go.Addr.add a'55 1)) = (some (Go.Value.int .i64 i'173))) ∧ (EvC Go.Proofs.Try.prog w0 54 #[(Go.Value.pointer (some x4)), (Go.Value.int .i64 (Go.IntKind.wrap .i64 (((n'171 : Nat) : Int) - i'150)))] (fun x'174 h'175 => (∃ i'176 : Int, ((x'174 = (Go.Value.int .i64 i'176)) ∧ (∃ a'177 : Go.Addr, ((p'54 = (some a'177)) ∧ (∃ p'178 : Option Go.Addr, (∃ n'179 : Nat, (∃ n'180 : Nat, (((Go.G.cellA w0 h'175 (Go.Addr.add a'177 0)) = (some (Go.Value.slice p'178 n'179 n'180))) ∧ (((0 : Int) ≤ (Go.IntKind.wrap .i64 (i'173 + i'176))) ∧ (((Go.IntKind.wrap .i64 (i'173 + i'176)) ≤ ((n'180 : Nat) : Int)) ∧ (rowsOf w0 h'175 1 p'178 (Int.toNat (Go.IntKind.wrap .i64 (i'173 + i'176))) (fun ys'181 => (App w0 h'175 1 1 none 0 0 (Int.toNat (Go.IntKind.wrap .i64 (i'173 + i'176))) ys'181 (fun a'182 c'183 h'184 => (newB w0 h'184 (Go.G.AB.cells [(Go.Value.slice a'182 (0 + (Int.toNat (Go.IntKind.wrap .i64 (i'173 + i'176)))) c'183), (Go.Value.int .i64 (Go.IntKind.wrap .i64 (i'173 + i'176)))] (List.length [(Go.Value.slice a'182 (0 + (Int.toNat (Go.IntKind.wrap .i64 (i'173 + i'176)))) c'183), (Go.Value.int .i64 (Go.IntKind.wrap .i64 (i'173 + i'176)))])) (fun b'185 h'186 => (((Go.G.plainKey Go.Proofs.Try.prog 65 (Go.Value.string s'52)) = true) ∧ (∃ n'187 : Nat, ((x5 = (some n'187)) ∧ (mapAt Go.Proofs.Try.prog w0 h'186 (some n'187) 65 (fun es'188 => (f28_9 w0 K x0 x4 x5 a45 n45 c45 x46 (Go.IntKind.wrap .i64 (x47 + (1 : Int))) (Go.G.AH.putm h'186 n'187 (Go.G.putM (Go.Value.string s'52) (Go.Value.pointer (some (Go.Addr.mk b'185 0 none))) es'188))))))))))))))))))))))))) h))) ∧ (EvC Go.Proofs.Try.prog w0 54 #[(Go.Value.pointer (some x4)), (Go.Value.int .i64 (Go.IntKind.wrap .i64 (((n'171 : Nat) : Int) - i'150)))] (fun x'189 h'190 => (∃ i'191 : Int, ((x'189 = (Go.Value.int .i64 i'191)) ∧ (∃ i'192 : Int, (((Go.G.cellA w0 h'190 (Go.Addr.add a'55 1)) = (some (Go.Value.int .i64 i'192))) ∧ (∃ a'193 : Go.Addr, ((p'54 = (some a'193)) ∧ (∃ p'194 : Option Go.Addr, (∃ n'195 : Nat, (∃ n'196 : Nat, (((Go.G.cellA w0 h'190 (Go.Addr.add a'193 0)) = (some (Go.Value.slice p'194 n'195 n'196))) ∧ (((0 : Int) ≤ (Go.IntKind.wrap .i64 (i'192 + i'191))) ∧ (((Go.IntKind.wrap .i64 (i'192 + i'191)) ≤ ((n'196 : Nat) : Int)) ∧ (rowsOf w0 h'190 1 p'194 (Int.toNat (Go.IntKind.wrap .i64 (i'192 + i'191))) (fun ys'197 => (App w0 h'190 1 1 none 0 0 (Int.toNat (Go.IntKind.wrap .i64 (i'192 + i'191))) ys'197 (fun a'198 c'199 h'200 => (newB w0 h'200 (Go.G.AB.cells [(Go.Value.slice a'198 (0 + (Int.toNat (Go.IntKind.wrap .i64 (i'192 + i'191)))) c'199), (Go.Value.int .i64 (Go.IntKind.wrap .i64 (i'192 + i'191)))] (List.length [(Go.Value.slice a'198 (0 + (Int.toNat (Go.IntKind.wrap .i64 (i'192 + i'191)))) c'199), (Go.Value.int .i64 (Go.IntKind.wrap .i64 (i'192 + i'191)))])) (fun b'201 h'202 => (((Go.G.plainKey Go.Proofs.Try.prog 65 (Go.Value.string s'52)) = true) ∧ (∃ n'203 : Nat, ((x5 = (some n'203)) ∧ (mapAt Go.Proofs.Try.prog w0 h'202 (some n'203) 65 (fun es'204 => (f28_9 w0 K x0 x4 x5 a45 n45 c45 x46 (Go.IntKind.wrap .i64 (x47 + (1 : Int))) (Go.G.AH.putm h'202 n'203 (Go.G.putM (Go.Value.string s'52) (Go.Value.pointer (some (Go.Addr.mk b'201 0 none))) es'204))))))))))))))))))))))))))) h)))))))))))))))))))))))))))) (EvC Go.Proofs.Try.prog w0 53 #[(Go.Value.map x5)] (fun x'205 h'206 => (∃ p'207 : Option Nat, ((x'205 = (Go.Value.map p'207)) ∧ (∃ a'208 : Go.Addr, ((x0 = (some a'208)) ∧ (∃ l'209 : List Go.Value, (∃ n'210 : Nat, (((Array.size (Go.World.heap w0)) ≤ (Go.Addr.block (Go.Addr.add a'208 1))) ∧ (((none : Option Nat) = none) ∧ (((h'206 (Go.Addr.block (Go.Addr.add a'208 1))) = (some (Go.G.AB.cells l'209 n'210))) ∧ ((((Go.Addr.off (Go.Addr.add a'208 1)) + (Array.size #[(Go.Value.map x5)])) ≤ (List.length l'209)) ∧ (∃ a'211 : Go.Addr, ((x0 = (some a'211)) ∧ (∃ l'212 : List Go.Value, (∃ n'213 : Nat, (((Array.size (Go.World.heap w0)) ≤ (Go.Addr.block (Go.Addr.add a'211 2))) ∧ (((none : Option Nat) = none) ∧ (((Go.G.AH.put h'206 (Go.Addr.block (Go.Addr.add a'208 1)) (Go.G.AB.cells (Go.G.setCells l'209 (Go.Addr.off (Go.Addr.add a'208 1)) [(Go.Value.map x5)]) n'210) (Go.Addr.block (Go.Addr.add a'211 2))) = (some (Go.G.AB.cells l'212 n'213))) ∧ ((((Go.Addr.off (Go.Addr.add a'211 2)) + (Array.size #[(Go.Value.map p'207)])) ≤ (List.length l'212)) ∧ (∃ a'214 : Go.Addr, ((x0 = (some a'214)) ∧ (∃ l'215 : List Go.Value, (∃ n'216 : Nat, (((Array.size (Go.World.heap w0)) ≤ (Go.Addr.block (Go.Addr.add a'214 3))) ∧ (((none : Option Nat) = none) ∧ (((Go.G.AH.put (Go.G.AH.put h'206 (Go.Addr.block (Go.Addr.add a'208 1)) (Go.G.AB.cells (Go.G.setCells l'209 (Go.Addr.off (Go.Addr.add a'208 1)) [(Go.Value.map x5)]) n'210)) (Go.Addr.block (Go.Addr.add a'211 2)) (Go.G.AB.cells (Go.G.setCells l'212 (Go.Addr.off (Go.Addr.add a'211 2)) [(Go.Value.map p'207)]) n'213) (Go.Addr.block (Go.Addr.add a'214 3))) = (some (Go.G.AB.cells l'215 n'216))) ∧ ((((Go.Addr.off (Go.Addr.add a'214 3)) + 1) ≤ (List.length l'215)) ∧ (∃ a'217 : Go.Addr, ((x0 = (some a'217)) ∧ (∃ l'218 : List Go.Value, (∃ n'219 : Nat, (((Array.size (Go.World.heap w0)) ≤ (Go.Addr.block (Go.Addr.add a'217 4))) ∧ (((none : Option Nat) = none) ∧ (((Go.G.AH.put (Go.G.AH.put (Go.G.AH.put h'206 (Go.Addr.block (Go.Addr.add a'208 1)) (Go.G.AB.cells (Go.G.setCells l'209 (Go.Addr.off (Go.Addr.add a'208 1)) [(Go.Value.map x5)]) n'210)) (Go.Addr.block (Go.Addr.add a'211 2)) (Go.G.AB.cells (Go.G.setCells l'212 (Go.Addr.off (Go.Addr.add a'211 2)) [(Go.Value.map p'207)]) n'213)) (Go.Addr.block (Go.Addr.add a'214 3)) (Go.G.AB.cells (Go.G.setCells l'215 (Go.Addr.off (Go.Addr.add a'214 3)) [(Go.Value.slice none 0 0)]) n'216) (Go.Addr.block (Go.Addr.add a'217 4))) = (some (Go.G.AB.cells l'218 n'219))) ∧ ((((Go.Addr.off (Go.Addr.add a'217 4)) + 1) ≤ (List.length l'218)) ∧ (∃ a'220 : Go.Addr, ((x0 = (some a'220)) ∧ (∃ l'221 : List Go.Value, (∃ n'222 : Nat, (((Array.size (Go.World.heap w0)) ≤ (Go.Addr.block (Go.Addr.add a'220 6))) ∧ (((none : Option Nat) = none) ∧ (((Go.G.AH.put (Go.G.AH.put (Go.G.AH.put (Go.G.AH.put h'206 (Go.Addr.block (Go.Addr.add a'208 1)) (Go.G.AB.cells (Go.G.setCells l'209 (Go.Addr.off (Go.Addr.add a'208 1)) [(Go.Value.map x5)]) n'210)) (Go.Addr.block (Go.Addr.add a'211 2)) (Go.G.AB.cells (Go.G.setCells l'212 (Go.Addr.off (Go.Addr.add a'211 2)) [(Go.Value.map p'207)]) n'213)) (Go.Addr.block (Go.Addr.add a'214 3)) (Go.G.AB.cells (Go.G.setCells l'215 (Go.Addr.off (Go.Addr.add a'214 3)) [(Go.Value.slice none 0 0)]) n'216)) (Go.Addr.block (Go.Addr.add a'217 4)) (Go.G.AB.cells (Go.G.setCells l'218 (Go.Addr.off (Go.Addr.add a'217 4)) [(Go.Value.bool false)]) n'219) (Go.Addr.block (Go.Addr.add a'220 6))) = (some (Go.G.AB.cells l'221 n'222))) ∧ ((((Go.Addr.off (Go.Addr.add a'220 6)) + 1) ≤ (List.length l'221)) ∧ (∃ a'223 : Go.Addr, ((x0 = (some a'223)) ∧ (∃ l'224 : List Go.Value, (∃ n'225 : Nat, (((Array.size (Go.World.heap w0)) ≤ (Go.Addr.block (Go.Addr.add a'223 7))) ∧ (((none : Option Nat) = none) ∧ (((Go.G.AH.put (Go.G.AH.put (Go.G.AH.put (Go.G.AH.put (Go.G.AH.put h'206 (Go.Addr.block (Go.Addr.add a'208 1)) (Go.G.AB.cells (Go.G.setCells l'209 (Go.Addr.off (Go.Addr.add a'208 1)) [(Go.Value.map x5)]) n'210)) (Go.Addr.block (Go.Addr.add a'211 2)) (Go.G.AB.cells (Go.G.setCells l'212 (Go.Addr.off (Go.Addr.add a'211 2)) [(Go.Value.map p'207)]) n'213)) (Go.Addr.block (Go.Addr.add a'214 3)) (Go.G.AB.cells (Go.G.setCells l'215 (Go.Addr.off (Go.Addr.add a'214 3)) [(Go.Value.slice none 0 0)]) n'216)) (Go.Addr.block (Go.Addr.add a'217 4)) (Go.G.AB.cells (Go.G.setCells l'218 (Go.Addr.off (Go.Addr.add a'217 4)) [(Go.Value.bool false)]) n'219)) (Go.Addr.block (Go.Addr.add a'220 6)) (Go.G.AB.cells (Go.G.setCells l'221 (Go.Addr.off (Go.Addr.add a'220 6)) [(Go.Value.int .i64 (0 : Int))]) n'222) (Go.Addr.block (Go.Addr.add a'223 7))) = (some (Go.G.AB.cells l'224 n'225))) ∧ ((((Go.Addr.off (Go.Addr.add a'223 7)) + 1) ≤ (List.length l'224)) ∧ (∃ a'226 : Go.Addr, ((x0 = (some a'226)) ∧ (∃ l'227 : List Go.Value, (∃ n'228 : Nat, (((Array.size (Go.World.heap w0)) ≤ (Go.Addr.block (Go.Addr.add a'226 8))) ∧ (((none : Option Nat) = none) ∧ (((Go.G.AH.put (Go.G.AH.put (Go.G.AH.put (Go.G.AH.put (Go.G.AH.put (Go.G.AH.put h'206 (Go.Addr.block (Go.Addr.add a'208 1)) (Go.G.AB.cells (Go.G.setCells l'209 (Go.Addr.off (Go.Addr.add a'208 1)) [(Go.Value.map x5)]) n'210)) (Go.Addr.block (Go.Addr.add a'211 2)) (Go.G.AB.cells (Go.G.setCells l'212 (Go.Addr.off (Go.Addr.add a'211 2)) [(Go.Value.map p'207)]) n'213)) (Go.Addr.block (Go.Addr.add a'214 3)) (Go.G.AB.cells (Go.G.setCells l'215 (Go.Addr.off (Go.Addr.add a'214 3)) [(Go.Value.slice none 0 0)]) n'216)) (Go.Addr.block (Go.Addr.add a'217 4)) (Go.G.AB.cells (Go.G.setCells l'218 (Go.Addr.off (Go.Addr.add a'217 4)) [(Go.Value.bool false)]) n'219)) (Go.Addr.block (Go.Addr.add a'220 6)) (Go.G.AB.cells (Go.G.setCells l'221 (Go.Addr.off (Go.Addr.add a'220 6)) [(Go.Value.int .i64 (0 : Int))]) n'222)) (Go.Addr.block (Go.Addr.add a'223 7)) (Go.G.AB.cells (Go.G.setCells l'224 (Go.Addr.off (Go.Addr.add a'223 7)) [(Go.Value.int .i64 (0 : Int))]) n'225) (Go.Addr.block (Go.Addr.add a'226 8))) = (some (Go.G.AB.cells l'227 n'228))) ∧ ((((Go.Addr.off (Go.Addr.add a'226 8)) + 1) ≤ (List.length l'227)) ∧ (K (Go.Value.tuple #[]) (Go.G.AH.put (Go.G.AH.put (Go.G.AH.put (Go.G.AH.put (Go.G.AH.put (Go.G.AH.put (Go.G.AH.put h'206 (Go.Addr.block (Go.Addr.add a'208 1)) (Go.G.AB.cells (Go.G.setCells l'209 (Go.Addr.off (Go.Addr.add a'208 1)) [(Go.Value.map x5)]) n'210)) (Go.Addr.block (Go.Addr.add a'211 2)) (Go.G.AB.cells (Go.G.setCells l'212 (Go.Addr.off (Go.Addr.add a'211 2)) [(Go.Value.map p'207)]) n'213)) (Go.Addr.block (Go.Addr.add a'214 3)) (Go.G.AB.cells (Go.G.setCells l'215 (Go.Addr.off (Go.Addr.add a'214 3)) [(Go.Value.slice none 0 0)]) n'216)) (Go.Addr.block (Go.Addr.add a'217 4)) (Go.G.AB.cells (Go.G.setCells l'218 (Go.Addr.off (Go.Addr.add a'217 4)) [(Go.Value.bool false)]) n'219)) (Go.Addr.block (Go.Addr.add a'220 6)) (Go.G.AB.cells (Go.G.setCells l'221 (Go.Addr.off (Go.Addr.add a'220 6)) [(Go.Value.int .i64 (0 : Int))]) n'222)) (Go.Addr.block (Go.Addr.add a'223 7)) (Go.G.AB.cells (Go.G.setCells l'224 (Go.Addr.off (Go.Addr.add a'223 7)) [(Go.Value.int .i64 (0 : Int))]) n'225)) (Go.Addr.block (Go.Addr.add a'226 8)) (Go.G.AB.cells (Go.G.setCells l'227 (Go.Addr.off (Go.Addr.add a'226 8)) [(Go.Value.int .i64 (0 : Int))]) n'228)))))))))))))))))))))))))))))))))))))))))))))))))))))))))))))) h))) :
  f28_9 w0 K x0 x4 x5 a45 n45 c45 x46 x47 h := fun j => LP_intro (P := Go.Proofs.Try.prog) (Eq.mp (by kernel_rfl) hv)

theorem f28_go {w0 : World} {K : Value → AH → Prop} (x0 : Option Go.Addr) (a1 : Option Go.Addr) (n1 : Nat) (c1 : Nat) (h : AH)
  (hv : (brB (Option.isNone x0) (K (Go.Value.tuple #[]) h) (∃ a'0 : Go.Addr, ((x0 = (some a'0)) ∧ (∃ p'1 : Option Nat, (((Go.G.cellA w0 h (Go.Addr.add a'0 2)) = (some (Go.Value.map p'1))) ∧ (EvC Go.Proofs.Try.prog w0 53 #[(Go.Value.map p'1)] (fun x'2 h'3 => (∃ p'4 : Option Nat, ((x'2 = (Go.Value.map p'4)) ∧ (∃ a'5 : Go.Addr, ((x0 = (some a'5)) ∧ (∃ a'6 : Go.Addr, ((x0 = (some a'6)) ∧ ((∃ p'7 : Option Go.Addr, (∃ n'8 : Nat, (∃ n'9 : Nat, (((Go.G.cellA w0 h'3 (Go.Addr.add a'5 3)) = (some (Go.Value.slice p'7 n'8 n'9))) ∧ (∃ p'10 : Option Go.Addr, (∃ n'11 : Nat, (∃ n'12 : Nat, (((Go.G.cellA w0 h'3 (Go.Addr.add a'6 3)) = (some (Go.Value.slice p'10 n'11 n'12))) ∧ (newB w0 h'3 (Go.G.AB.cells [(Go.Value.slice a1 n1 c1)] (List.length [(Go.Value.slice a1 n1 c1)])) (fun b'13 h'14 => (EvC Go.Proofs.Try.prog w0 54 #[(Go.Value.pointer (some (Go.Addr.mk b'13 0 none))), (Go.Value.int .i64 ((n'11 : Nat) : Int))] (fun x'15 h'16 => (∃ i'17 : Int, ((x'15 = (Go.Value.int .i64 i'17)) ∧ (((0 : Int) ≤ i'17) ∧ ((i'17 ≤ ((n'9 : Nat) : Int)) ∧ (f28_4 w0 K x0 (Go.Addr.mk b'13 0 none) p'4 p'7 (Int.toNat i'17) n'9 (((Int.toNat i'17) : Nat) : Int) (0 : Int) h'16)))))) h'14))))))))))) ∧ (∃ p'18 : Option Go.Addr, (∃ n'19 : Nat, (∃ n'20 : Nat, (((Go.G.cellA w0 h'3 (Go.Addr.add a'6 3)) = (some (Go.Value.slice p'18 n'19 n'20))) ∧ ((∃ p'21 : Option Go.Addr, (∃ n'22 : Nat, (∃ n'23 : Nat, (((Go.G.cellA w0 h'3 (Go.Addr.add a'5 3)) = (some (Go.Value.slice p'21 n'22 n'23))) ∧ (newB w0 h'3 (Go.G.AB.cells [(Go.Value.slice a1 n1 c1)] (List.length [(Go.Value.slice a1 n1 c1)])) (fun b'24 h'25 => (EvC Go.Proofs.Try.prog w0 54 #[(Go.Value.pointer (some (Go.Addr.mk b'24 0 none))), (Go.Value.int .i64 ((n'19 : Nat) : Int))] (fun x'26 h'27 => (∃ i'28 : Int, ((x'26 = (Go.Value.int .i64 i'28)) ∧ (((0 : Int) ≤ i'28) ∧ ((i'28 ≤ ((n'23 : Nat) : Int)) ∧ (f28_4 w0 K x0 (Go.Addr.mk b'24 0 none) p'4 p'21 (Int.toNat i'28) n'23 (((Int.toNat i'28) : Nat) : Int) (0 : Int) h'27)))))) h'25))))))) ∧ (newB w0 h'3 (Go.G.AB.cells [(Go.Value.slice a1 n1 c1)] (List.length [(Go.Value.slice a1 n1 c1)])) (fun b'29 h'30 => (EvC Go.Proofs.Try.prog w0 54 #[(Go.Value.pointer (some (Go.Addr.mk b'29 0 none))), (Go.Value.int .i64 ((n'19 : Nat) : Int))] (fun x'31 h'32 => (∃ i'33 : Int, ((x'31 = (Go.Value.int .i64 i'33)) ∧ (∃ p'34 : Option Go.Addr, (∃ n'35 : Nat, (∃ n'36 : Nat, (((Go.G.cellA w0 h'32 (Go.Addr.add a'5 3)) = (some (Go.Value.slice p'34 n'35 n'36))) ∧ (((0 : Int) ≤ i'33) ∧ ((i'33 ≤ ((n'36 : Nat) : Int)) ∧ (f28_4 w0 K x0 (Go.Addr.mk b'29 0 none) p'4 p'34 (Int.toNat i'33) n'36 (((Int.toNat i'33) : Nat) : Int) (0 : Int) h'32)))))))))) h'30)))))))))))))))) h))))))) :
  EvC Go.Proofs.Try.prog w0 28 ([(.pointer x0), (.slice a1 n1 c1)]).toArray K h := EvC_intro (P := Go.Proofs.Try.prog) f28_J (Eq.mp (by kernel_rfl) hv)
/-! ### picks -/
def i64s (l : List Int) : List Value := l.map (.int .i64)
structure PickOk (w0 : World) (a : Option Addr) (c : Nat) (l : List Int) : Prop where
  le : l.length ≤ c
  rd : ∀ h, Rd w0 h a (i64s l)
  rg : ∀ x ∈ l, -9223372036854775808 ≤ x ∧ x ≤ 9223372036854775807
theorem PickOk.nil {w0 : World} : PickOk w0 none 0 [] := ⟨Nat.le_refl _, fun h j x hj => by simp [i64s] at hj, fun x hx => by cases hx⟩
theorem PickOk.tail {w0 : World} {a : Option Addr} {c : Nat} {x : Int} {l : List Int} (p : PickOk w0 a c (x :: l)) : PickOk w0 (cutA 1 a c 1) (c - 1) l := by
  have hl := p.le
  rw [List.length_cons] at hl
  refine ⟨by omega, fun h => ?_, fun y hy => p.rg y (List.mem_cons_of_mem _ hy)⟩
  have e : i64s (x :: l) = [.int .i64 x] ++ i64s l := rfl
  have hr := p.rd h
  rw [e] at hr
  refine hr.cut rfl fun hne q => ?_
  cases l with
  | nil => exact hne rfl
  | cons y l => simp at hl; omega
theorem and_low (x : Int) : ((BitVec.toNat ((BitVec.ofInt 64 x) &&& (BitVec.ofInt 64 (4611686018427387903 : Int))) : Nat) : Int) = x % 4611686018427387904 := by
  rw [BitVec.toNat_and, BitVec.toNat_ofInt, BitVec.toNat_ofInt]
  have e : ((4611686018427387903 : Int) % ((2 ^ 64 : Nat) : Int)).toNat = 2 ^ 62 - 1 := by decide
  rw [e, Nat.and_two_pow_sub_one_eq_mod]
  have e2 : ((2 ^ 64 : Nat) : Int) = 18446744073709551616 := by decide
  rw [e2]
  have : (2 : Nat) ^ 62 = 4611686018427387904 := by decide
  rw [this]
  omega
theorem tmod_pos {x m : Int} (h : 0 ≤ x) : Int.tmod x m = x % m := Int.tmod_eq_emod_of_nonneg h
/-- upto. -/
theorem f54_spec {w0 : World} {K : Value → AH → Prop} {h : AH} {B : List (Nat × AB)} {pb c n : Nat} {a : Option Addr} {l : List Int} {m : Int} (w : Own w0 h ((pb, .cells [.slice a l.length c] 1) :: B)) (p : PickOk w0 a c l) (hn : n ≤ 1000000000000) (hm : m = (n : Int))
    (hk : ∀ h' a' c', PickOk w0 a' c' (pickS l n).2 → Own w0 h' ((pb, .cells [.slice a' (pickS l n).2.length c'] 1) :: B) → K (.int .i64 ((pickS l n).1 : Nat)) h') :
    EvC Go.Proofs.Try.prog w0 54 #[.pointer (some ⟨pb, 0, none⟩), .int .i64 m] K h := by
  subst hm
  refine f54_go _ _ _ ⟨_, rfl, _, _, _, w.cell0 rfl, ?_⟩
  match l, p, w, hk with
  | [], p, w, hk => exact brB_of (fun _ => hk h a c p w) fun q => by simp at q
  | x :: l, p, w, hk =>
    obtain ⟨ad, had, hc⟩ := p.rd h 0 (.int .i64 x) rfl
    have hx := p.rg x (List.mem_cons_self ..)
    have wr : IntKind.i64.wrap ((n : Int) + 1) = (n : Int) + 1 := wrap64 (by omega) (by omega)
    have e1 : (x :: l).length - 1 = l.length := rfl
    refine brB_of (fun q => by rw [List.length_cons] at q; simp at q; omega) fun _ => ⟨_, rfl, _, _, _, w.cell0 rfl, ad, had, by decide, by rw [List.length_cons]; omega, x, hc, _, rfl, _, _, _, w.cell0 rfl, by decide, by rw [List.length_cons]; omega, _, rfl, _, 1, w.ge, rfl, w.hd, by simp [Addr.add], brB_of (fun q => ?_) fun q => ?_⟩
    · have q' := of_decide_eq_true q
      rw [wr, e1]
      refine ⟨by omega, ?_⟩
      rw [and_low, wrap64 (by omega) (by omega), tmod_pos (by omega)]
      have := hk _ _ _ p.tail w.put
      have e : ((pickS (x :: l) n).1 : Int) = x % 4611686018427387904 % ((n : Int) + 1) := by
        show ((pickV x n : Nat) : Int) = _
        unfold pickV; rw [if_pos q']
        have := Int.emod_nonneg (x % 4611686018427387904) (show (n : Int) + 1 ≠ 0 by omega)
        omega
      rw [e] at this
      exact this
    · have q' := of_decide_eq_false q
      rw [wr, e1]
      refine ⟨by omega, ?_⟩
      rw [tmod_pos (by omega)]
      have := hk _ _ _ p.tail w.put
      have e : ((pickS (x :: l) n).1 : Int) = x % ((n : Int) + 1) := by
        show ((pickV x n : Nat) : Int) = _
        unfold pickV; rw [if_neg q']
        have := Int.emod_nonneg x (show (n : Int) + 1 ≠ 0 by omega)
        omega
      rw [e] at this
      exact this

/-! ### Crash -/
theorem scanC_get : ∀ {row : List Chg} {d0 d : Dir} {i : Nat} {c : Chg}, (scanC d0 row)[i]? = some d → row[i]? = some c → (scanC d0 row)[i + 1]? = some (c.play d)
  | [], _, _, _, _, _, h => by simp at h
  | x :: r, d0, d, 0, c, h1, h2 => by
    simp [scanC] at h1 h2
    subst h1 h2
    simp only [scanC, List.getElem?_cons_succ]
    cases r <;> simp [scanC]
  | x :: r, d0, d, i + 1, c, h1, h2 => by
    simp only [scanC, List.getElem?_cons_succ] at h1 h2 ⊢
    exact scanC_get h1 h2
theorem rowC_get {F : List FO} : ∀ {row : List Chg} {i : Nat} {c : Chg}, row[i]? = some c → ∀ j x, (chgC F c)[j]? = some x → (rowC F row)[i * 3 + j]? = some x
  | [], i, c, h, _, _, _ => by simp at h
  | y :: r, 0, c, h, j, x, hj => by
    simp at h; subst h
    have hl : j < 3 := by have := (List.getElem?_eq_some_iff.1 hj).1; simpa [chgC] using this
    have e : rowC F (y :: r) = chgC F y ++ rowC F r := by simp [rowC]
    rw [e, Nat.zero_mul, Nat.zero_add, List.getElem?_append_left (by simpa [chgC] using hl)]
    exact hj
  | y :: r, i + 1, c, h, j, x, hj => by
    have ih := rowC_get (F := F) (row := r) (i := i) (c := c) (by simpa using h) j x hj
    have e : rowC F (y :: r) = chgC F y ++ rowC F r := by simp [rowC]
    rw [e, List.getElem?_append_right (by simp [chgC]; omega), show (i + 1) * 3 + j - (chgC F y).length = i * 3 + j by simp [chgC]; omega]
    exact ih
theorem chgLoad {w0 : World} {h : AH} {F : List FO} {a : Option Addr} {row : List Chg} {i : Nat} {c : Chg} (hr : Rd w0 h a (rowC F row)) (hi : row[i]? = some c) :
    ∃ ad : Addr, a = some ad ∧ At w0 h (Addr.add ad ((Int.toNat ((i : Nat) : Int)) * 3)) (chgC F c) := by
  obtain ⟨ad, rfl, _⟩ := hr _ _ (rowC_get (F := F) hi 0 _ rfl)
  refine ⟨ad, rfl, fun j x hj => ?_⟩
  obtain ⟨ad', e', hc⟩ := hr _ _ (rowC_get (F := F) hi j x hj)
  injection e' with e'
  subst e'
  rw [Int.toNat_natCast, Deep.add_add]
  exact hc
theorem Rd.take {w0 : World} {h : AH} {a : Option Addr} {xs : List Value} (hr : Rd w0 h a xs) (k : Nat) : Rd w0 h a (xs.take k) := fun j x hj => by
  rw [List.getElem?_take] at hj
  split at hj
  · exact hr j x hj
  · cases hj
theorem dropD_part {n : ByteArray} {i : Nat} {P d : Dir} (h : ((P ++ (n, i) :: d).map (·.1)).Nodup) : dropD n (P ++ (n, i) :: d) = P ++ d := by
  rw [List.map_append, List.map_cons, List.nodup_append] at h
  obtain ⟨_, h2, h3⟩ := h
  rw [List.nodup_cons] at h2
  unfold dropD
  rw [List.filter_append, List.filter_cons_of_neg (by simp)]
  have e1 : List.filter (fun e : ByteArray × Nat => !decide (e.1 = n)) P = P := dropD_id fun e he q => h3 e.1 (List.mem_map.2 ⟨e, he, rfl⟩) n (List.mem_cons_self ..) q
  have e2 : List.filter (fun e : ByteArray × Nat => !decide (e.1 = n)) d = d := dropD_id fun e he q => h2.1 (List.mem_map.2 ⟨e, he, q⟩)
  rw [e1, e2]

def Leaf28 (w0 : World) (K : Value → AH → Prop) (x0 : Option Addr) (x4 : Addr) (x5 : Option Nat) (a45 : Option Addr) (n45 c45 : Nat) (x46 x47 : Int) (s52 : ByteArray) (p54 : Option Addr) (u i : Int) (h : AH) : Prop :=
  ∃ a'66 : Addr, (p54 = some a'66) ∧ ∃ p'67 : Option Addr, ∃ n'68 : Nat, ∃ n'69 : Nat, (cellA w0 h (Addr.add a'66 0) = some (.slice p'67 n'68 n'69)) ∧ ((0 : Int) ≤ IntKind.wrap .i64 (u + i)) ∧ (IntKind.wrap .i64 (u + i) ≤ ((n'69 : Nat) : Int)) ∧
    rowsOf w0 h 1 p'67 (Int.toNat (IntKind.wrap .i64 (u + i))) fun ys'70 => App w0 h 1 1 none 0 0 (Int.toNat (IntKind.wrap .i64 (u + i))) ys'70 fun a'71 c'72 h'73 =>
      newB w0 h'73 (AB.cells [(.slice a'71 (0 + (Int.toNat (IntKind.wrap .i64 (u + i)))) c'72), (.int .i64 (IntKind.wrap .i64 (u + i)))] (List.length [(Value.slice a'71 (0 + (Int.toNat (IntKind.wrap .i64 (u + i)))) c'72), (.int .i64 (IntKind.wrap .i64 (u + i)))]))
        fun b'74 h'75 => (plainKey Go.Proofs.Try.prog 65 (.string s52) = true) ∧ ∃ n'76 : Nat, (x5 = some n'76) ∧ mapAt Go.Proofs.Try.prog w0 h'75 (some n'76) 65 fun es'77 =>
          f28_9 w0 K x0 x4 x5 a45 n45 c45 x46 (IntKind.wrap .i64 (x47 + (1 : Int))) (AH.putm h'75 n'76 (putM (.string s52) (.pointer (some (Addr.mk b'74 0 none))) es'77))

theorem abs_at {F : List FO} {i : Nat} {f : FO} (hi : F[i]? = some f) : fileAt (F.map FO.abs) i = f.abs := by simp [fileAt, hi]
theorem FlOk_abs {F : List FO} {fs : List Fl} (h : F.map FO.abs = fs) (ho : ∀ f ∈ fs, FlOk f) {f : FO} (hf : f ∈ F) : f.data.length ≤ 4194304 ∧ f.sure ≤ f.data.length := ho f.abs (by rw [← h]; exact List.mem_map.2 ⟨f, hf, rfl⟩)
set_option maxHeartbeats 1000000 in
/-- The loop over the names. -/
theorem crash_loop {w0 : World} {K : Value → AH → Prop} {B : List (Nat × AB)} {pb mb bd : Nat} {s : Ds} {md ms rl rc : Nat} {ra : Option Addr} {na : Option Addr} {nc : Nat} {L : List ByteArray} {R1 : Dir} {R2 : List Fl} (hL : SlV 1 na L.length nc (strs L)) (hl : L.length ≤ 1000000000)
    (ok : ({ s with dir := R1, was := [R1], fs := R2, fuse := 0, wait := 0, fails := 0, off := false } : Ds).Ok)
    (hk : ∀ h' D', D'.bd = bd → PRep { s with dir := R1, was := [R1], fs := R2, fuse := 0, wait := 0, fails := 0, off := false } D' → Own w0 h' (D'.blocks { s with dir := R1, was := [R1], fs := R2, fuse := 0, wait := 0, fails := 0, off := false } ++ B) → K (.tuple #[]) h') :
    ∀ (d P : Dir) (l : List Int) (F : List FO) (es : Dir) (a : Option Addr) (c : Nat) (h : AH), PickOk w0 a c l → FV F → (∀ f ∈ F.map FO.abs, FlOk f) → es.Perm (P ++ d) → ((P ++ d).map (·.1)).Nodup → (∀ e ∈ P ++ d, e.2 < F.length) → P.length + d.length = L.length → L.drop P.length = d.map (·.1) →
      P ++ (keepAll l d (F.map FO.abs)).1 = R1 → (keepAll l d (F.map FO.abs)).2 = R2 →
      Own w0 h ((pb, .cells [.slice a l.length c] 1) :: (mb, .map (mapC F es)) :: (bd, .cells (pc s.room md ms ra rl rc s.off s.calls s.fuse s.wait s.fails) 9) :: (slB na (strs L) (nc * 1) ++ (fobs F ++ B))) →
      f28_9 w0 K (some ⟨bd, 0, none⟩) ⟨pb, 0, none⟩ (some mb) na L.length nc ((L.length : Nat) : Int) ((P.length : Nat) : Int) h
  | [], P, l, F, es, a, c, h, p, fv, fok, hp, hn, hid, hlen, hdr, h1, h2, w => by
    rw [List.append_nil] at hp hn hid
    simp only [keepAll, List.append_nil] at h1 h2
    subst h1
    have w1 : Own w0 h ((mb, .map (mapC F es)) :: (bd, .cells (pc s.room md ms ra rl rc s.off s.calls s.fuse s.wait s.fails) 9) :: (fobs F ++ B)) := Own.cut (cs := [_, _]) (ds := slB na (strs L) (nc * 1)) (bs := fobs F ++ B) w.tail
    refine f28_9_in _ _ _ _ _ _ _ _ _ (brB_of (fun q => by have := of_decide_eq_true q; simp at hlen; omega) fun _ => f53_spec w1.hd fun b hb hbn => ⟨_, rfl, ?_⟩)
    have w2 : Own w0 (h.put b (.map (mapC F es))) ((bd, .cells (pc s.room md ms ra rl rc s.off s.calls s.fuse s.wait s.fails) 9) :: (mb, .map (mapC F es)) :: (b, .map (mapC F es)) :: (fobs F ++ B)) :=
      (w1.new (o := .map (mapC F es)) hb hbn).perm ((List.Perm.swap _ _ _).trans (((List.Perm.swap _ _ _).cons _).trans (List.Perm.swap _ _ _)))
    have g := w2.ge
    generalize (h.put b (.map (mapC F es))) = h2' at w2 ⊢
    have w3 := Own.put (o' := .cells (pc s.room mb ms ra rl rc s.off s.calls s.fuse s.wait s.fails) 9) w2
    have w4 := Own.put (o' := .cells (pc s.room mb b ra rl rc s.off s.calls s.fuse s.wait s.fails) 9) w3
    have w5 := Own.put (o' := .cells (pc s.room mb b none 0 0 s.off s.calls s.fuse s.wait s.fails) 9) w4
    have w6 := Own.put (o' := .cells (pc s.room mb b none 0 0 false s.calls s.fuse s.wait s.fails) 9) w5
    have w7 := Own.put (o' := .cells (pc s.room mb b none 0 0 false s.calls 0 s.wait s.fails) 9) w6
    have w8 := Own.put (o' := .cells (pc s.room mb b none 0 0 false s.calls 0 0 s.fails) 9) w7
    have w9 := Own.put (o' := .cells (pc s.room mb b none 0 0 false s.calls 0 0 0) 9) w8
    refine ⟨_, rfl, _, 9, g, rfl, w2.hd, by simp [pc, Addr.add], _, rfl, _, 9, g, rfl, w3.hd, by simp [pc, Addr.add], _, rfl, _, 9, g, rfl, w4.hd, by simp [pc, Addr.add], _, rfl, _, 9, g, rfl, w5.hd, by simp [pc, Addr.add],
      _, rfl, _, 9, g, rfl, w6.hd, by simp [pc, Addr.add], _, rfl, _, 9, g, rfl, w7.hd, by simp [pc, Addr.add], _, rfl, _, 9, g, rfl, w8.hd, by simp [pc, Addr.add], ?_⟩
    refine hk _ ⟨bd, mb, b, none, 0, [], F, es, es⟩ rfl ⟨ok, h2, fv, SlV.nil, fun c hc => (by cases hc), hp, ⟨P, rfl, hp⟩, rfl⟩ ?_
    rw [PD.flat]
    exact w9
  | e :: d, P, l, F, es, a, c, h, p, fv, fok, hp, hn, hid, hlen, hdr, h1, h2, w => by
    have hget : L[P.length]? = some e.1 := by
      have := congrArg (·[0]?) hdr
      simpa [List.getElem?_drop] using this
    have hPl : P.length < L.length := by simp at hlen; omega
    have hie := hid e (by simp)
    obtain ⟨fo, hfo⟩ : ∃ fo, F[e.2]? = some fo := ⟨_, List.getElem?_eq_getElem hie⟩
    have hptr : ptrF F e.2 = some ⟨fo.b, 0, none⟩ := by simp [ptrF, blk_at hfo]
    have hmemF : fo ∈ F := List.mem_of_getElem? hfo
    obtain ⟨hd1, hd2⟩ := FlOk_abs rfl fok hmemF
    have hfa := abs_at hfo
    have hmem : ∀ {x : List (Nat × AB)}, ∀ y ∈ fobs F, y ∈ (mb, AB.map (mapC F es)) :: (bd, AB.cells (pc s.room md ms ra rl rc s.off s.calls s.fuse s.wait s.fails) 9) :: (slB na (strs L) (nc * 1) ++ (fobs F ++ B)) := fun y hy => by simp [hy]
    -- the picker's answer
    generalize hpk : pickS l (fo.data.length - fo.sure) = pk at *
    have hple : pk.1 ≤ fo.data.length - fo.sure := by rw [← hpk]; exact pickS_le _ _
    have hwr : IntKind.i64.wrap (((fo.data.length : Nat) : Int) - ((fo.sure : Nat) : Int)) = ((fo.data.length - fo.sure : Nat) : Int) := by rw [wrap64 (by omega) (by omega)]; omega
    have hwq : IntKind.i64.wrap (((fo.sure : Nat) : Int) + ((pk.1 : Nat) : Int)) = ((fo.sure + pk.1 : Nat) : Int) := by rw [wrap64 (by omega) (by omega)]; omega
    have hnd : (es.map (·.1)).Nodup := ((hp.map (·.1)).nodup_iff).2 hn
    have hfind : findD e.1 es = some e.2 := findD_of_mem hnd (hp.mem_iff.2 (by simp))
    have hgm : getM (.string e.1) (mapC F es) = some (.pointer (ptrF F e.2)) := by rw [findM, hfind]; rfl
    have fvo := fv fo hmemF
    have leaf : ∀ h' a' c', PickOk w0 a' c' pk.2 → Own w0 h' ((pb, .cells [.slice a' pk.2.length c'] 1) :: (mb, .map (mapC F es)) :: (bd, .cells (pc s.room md ms ra rl rc s.off s.calls s.fuse s.wait s.fails) 9) :: (slB na (strs L) (nc * 1) ++ (fobs F ++ B))) →
        Leaf28 w0 K (some ⟨bd, 0, none⟩) ⟨pb, 0, none⟩ (some mb) na L.length nc ((L.length : Nat) : Int) ((P.length : Nat) : Int) e.1 (some ⟨fo.b, 0, none⟩) ((fo.sure : Nat) : Int) ((pk.1 : Nat) : Int) h' := fun h' a' c' p' w' => by
      obtain ⟨_, q0, _⟩ := file_cells w'.tail (hmem (x := [])) hfo
      have rd : Rd w0 h' fo.a (u8s fo.data) := by
        have wq := w'
        rw [fobs_split hfo] at wq
        refine fvo.rd (cs := (pb, .cells [.slice a' pk.2.length c'] 1) :: (mb, .map (mapC F es)) :: (bd, .cells (pc s.room md ms ra rl rc s.off s.calls s.fuse s.wait s.fails) 9) :: (slB na (strs L) (nc * 1) ++ (fobs (F.take e.2) ++ [(fo.b, .cells fo.cells 2)]))) (bs := fobs (F.drop (e.2 + 1)) ++ B) ?_
        simpa only [FO.blocks, List.cons_append, List.append_assoc, List.nil_append] using wq
      refine ⟨_, rfl, _, _, _, q0, ?_⟩
      rw [hwq]
      have hcap := fvo.2.1
      have et : u8s (fo.data.take (fo.sure + pk.1)) = (u8s fo.data).take (fo.sure + pk.1) := by simp [u8s]
      have hlt : (fo.data.take (fo.sure + pk.1)).length = fo.sure + pk.1 := by rw [List.length_take]; omega
      refine ⟨by omega, by omega, rowsOf_of (ys := u8s (fo.data.take (fo.sure + pk.1))) (by rw [et]; exact Rd.take rd _) (by rw [u8s_length, hlt, Nat.mul_one, Int.toNat_natCast]) ?_⟩
      rw [Int.toNat_natCast]
      refine App_new w' (by omega) (by omega) (by rw [u8s_length, hlt, Nat.mul_one]) (u8s_cell _) fun a2 c2 h2' v2 w2 b hb hbn => ⟨by kernel_rfl, _, rfl, ?_⟩
      rw [Nat.zero_add]
      generalize hf' : (⟨b, a2, c2, fo.data.take (fo.sure + pk.1), fo.sure + pk.1⟩ : FO) = f'
      have hcells : [Value.slice a2 (fo.sure + pk.1) c2, .int .i64 ((fo.sure + pk.1 : Nat) : Int)] = f'.cells := by rw [← hf']; simp only [FO.cells, hlt]
      rw [hcells, show f'.cells.length = 2 from rfl]
      have hfb : f'.b = b := by rw [← hf']
      have hfbl : f'.blocks = (b, .cells f'.cells 2) :: slB a2 (u8s (fo.data.take (fo.sure + pk.1))) (c2 * 1) := by rw [← hf']; rfl
      have hblk : ∀ j, j < F.length → blk F j = blk (F ++ [f']) j := fun j hj => (blk_push hj).symm
      have emap : mapC F es = mapC (F ++ [f']) es := mapC_eq fun x hx => hblk _ (hid x (hp.mem_iff.1 hx))
      have hlast : ptrF (F ++ [f']) F.length = some ⟨b, 0, none⟩ := by unfold ptrF; rw [blk_last, hfb]
      have w3 := w2.new (o := .cells f'.cells 2) hb hbn
      generalize (h2'.put b (.cells f'.cells 2)) = h3 at w3 ⊢
      have w4 : Own w0 h3 ((pb, .cells [.slice a' pk.2.length c'] 1) :: (mb, .map (mapC (F ++ [f']) es)) :: (bd, .cells (pc s.room md ms ra rl rc s.off s.calls s.fuse s.wait s.fails) 9) :: (slB na (strs L) (nc * 1) ++ (fobs (F ++ [f']) ++ B))) := by
        rw [← emap, show fobs (F ++ [f']) = fobs F ++ f'.blocks by simp [fobs], hfbl]
        refine w3.perm ?_
        have pp := List.perm_append_comm (l₁ := (b, AB.cells f'.cells 2) :: slB a2 (u8s (fo.data.take (fo.sure + pk.1))) (c2 * 1)) (l₂ := (pb, .cells [.slice a' pk.2.length c'] 1) :: (mb, .map (mapC F es)) :: (bd, .cells (pc s.room md ms ra rl rc s.off s.calls s.fuse s.wait s.fails) 9) :: (slB na (strs L) (nc * 1) ++ fobs F))
        have pp2 := pp.append_right B
        simpa only [List.cons_append, List.append_assoc, List.nil_append] using pp2
      have mm : (mb, AB.map (mapC (F ++ [f']) es)) ∈ (pb, AB.cells [.slice a' pk.2.length c'] 1) :: (mb, .map (mapC (F ++ [f']) es)) :: (bd, .cells (pc s.room md ms ra rl rc s.off s.calls s.fuse s.wait s.fails) 9) :: (slB na (strs L) (nc * 1) ++ (fobs (F ++ [f']) ++ B)) := List.mem_cons_of_mem _ (List.mem_cons_self ..)
      refine mapAt_D w4 mm ?_
      rw [wrapS (by omega), ← hlast, putM_L]
      have w5 := Own.updm (cs := [_]) (es := mapC (F ++ [f']) (putL e.1 F.length es)) w4
      have hperm : (putL e.1 F.length es).Perm ((P ++ [(e.1, F.length)]) ++ d) := by
        refine (putL_perm hnd).trans ?_
        have : (dropD e.1 es).Perm (P ++ d) := by
          have := dropD_perm (n := e.1) hp
          rw [show (P ++ e :: d) = P ++ (e.1, e.2) :: d from rfl, dropD_part (by simpa using hn)] at this
          exact this
        refine (this.cons _).trans ?_
        simp only [List.append_assoc, List.singleton_append]
        exact List.perm_middle.symm
      have habs : (F ++ [f']).map FO.abs = F.map FO.abs ++ [⟨fo.data.take (fo.sure + pk.1), fo.sure + pk.1⟩] := by rw [List.map_append, ← hf']; rfl
      have fin := crash_loop hL hl ok hk d (P ++ [(e.1, F.length)]) pk.2 (F ++ [f']) (putL e.1 F.length es) a' c' _ p' ?_ ?_ hperm ?_ ?_ ?_ ?_ ?_ ?_ w5
      · rw [List.length_append] at fin
        exact fin
      · intro g hg
        rcases List.mem_append.1 hg with hg | hg
        · exact fv g hg
        · rw [List.mem_singleton] at hg; subst hg
          rw [← hf']
          show SlV 1 a2 (fo.data.take (fo.sure + pk.1)).length c2 (u8s (fo.data.take (fo.sure + pk.1)))
          rw [hlt]; exact v2
      · rw [habs]
        intro g hg
        rcases List.mem_append.1 hg with hg | hg
        · exact fok g hg
        · rw [List.mem_singleton] at hg; subst hg
          exact ⟨by simp only [List.length_take]; omega, by simp only [List.length_take]; omega⟩
      · have : ((P ++ [(e.1, F.length)]) ++ d).map (·.1) = (P ++ e :: d).map (·.1) := by simp
        rw [this]; exact hn
      · intro x hx
        rw [List.length_append]
        rcases List.mem_append.1 hx with hx | hx
        · rcases List.mem_append.1 hx with hx | hx
          · have := hid x (by simp [hx]); omega
          · rw [List.mem_singleton] at hx; subst hx; simp
        · have := hid x (by simp [hx]); omega
      · simp at hlen ⊢; omega
      · rw [List.length_append]
        have := congrArg (·.drop 1) hdr
        simpa [List.drop_drop] using this
      · rw [habs, ← h1]
        simp only [keepAll, hfa, FO.abs, hpk, List.length_map, List.append_assoc, List.singleton_append]
      · rw [habs, ← h2]
        simp only [keepAll, hfa, FO.abs, hpk]
    have call : ∀ (Q : Int → AH → Prop), (∀ h' a' c', PickOk w0 a' c' pk.2 → Own w0 h' ((pb, .cells [.slice a' pk.2.length c'] 1) :: (mb, .map (mapC F es)) :: (bd, .cells (pc s.room md ms ra rl rc s.off s.calls s.fuse s.wait s.fails) 9) :: (slB na (strs L) (nc * 1) ++ (fobs F ++ B))) → Q ((pk.1 : Nat) : Int) h') →
        EvC Go.Proofs.Try.prog w0 54 #[.pointer (some ⟨pb, 0, none⟩), .int .i64 (IntKind.i64.wrap (((fo.data.length : Nat) : Int) - ((fo.sure : Nat) : Int)))] (fun x h => ∃ i : Int, x = .int .i64 i ∧ Q i h) h := fun Q hQ =>
      f54_spec w p (by omega) hwr fun h' a' c' p' w' => ⟨_, rfl, by rw [hpk] at p' w' ⊢; exact hQ h' a' c' p' w'⟩
    obtain ⟨_, q0, q1⟩ := file_cells w.tail (hmem (x := [])) hfo
    have lf := call _ fun h' a' c' p' w' => leaf h' a' c' p' w'
    have lf2 := call (fun i h' => ∃ u : Int, cellA w0 h' (Addr.add ⟨fo.b, 0, none⟩ 1) = some (.int .i64 u) ∧ Leaf28 w0 K (some ⟨bd, 0, none⟩) ⟨pb, 0, none⟩ (some mb) na L.length nc ((L.length : Nat) : Int) ((P.length : Nat) : Int) e.1 (some ⟨fo.b, 0, none⟩) u i h') fun h' a' c' p' w' => ⟨_, (file_cells w'.tail (hmem (x := [])) hfo).2.2, leaf h' a' c' p' w'⟩
    have rdN : Rd w0 h na (strs L) := hL.rd (cs := [_, _, _]) w
    obtain ⟨ad, hna, hcn⟩ := rdN P.length (.string e.1) (by simp [strs, hget])
    refine f28_9_in _ _ _ _ _ _ _ _ _ (brB_of (fun _ => ⟨ad, hna, by omega, by omega, e.1, by rw [Int.toNat_natCast, Nat.mul_one]; exact hcn, by kernel_rfl, mapAt_D w.tail (List.mem_cons_self ..) ⟨some ⟨fo.b, 0, none⟩, by rw [hgm, ← hptr]; rfl, _, rfl, _, rfl, _, rfl,
      ⟨_, q1, ⟨_, _, _, q0, _, q1, lf⟩, _, q1, _, _, _, q0, lf⟩,
      ⟨_, _, _, q0, ⟨_, q1, _, q1, lf⟩, _, q1, ⟨_, q1, lf⟩, lf2⟩,
      ⟨_, q1, ⟨_, q1, _, _, _, q0, lf⟩, _, _, _, q0, ⟨_, q1, lf⟩, lf2⟩⟩⟩) fun q => absurd (of_decide_eq_false q) (by omega))
end Go.G.Ytpjklfmfgmicaaa
