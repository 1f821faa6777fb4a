/- TopicBelow, TopicWider. -/
import Derived.Test.YtjeneodgjclpiaaDoorTL
import Derived.Test.YtjeneodgjclpiaaDoorLB
import Derived.Test.YtjeneodgjclpiaaDoorProg
set_option maxRecDepth 100000
namespace Go.G.YtjeneodgjclpiaaDoor
open Go.RowKit
def f10_J : Nat → List Nat × Nat := jOf [(2, [2, 3, 4, 5, 6, 7, 8, 9, 10, 11, 12, 13, 14, 15, 16, 17, 18, 19, 21, 22, 23, 24, 25, 26, 27, 28, 29, 30, 31, 32, 33, 34, 35, 36, 37, 38, 39, 40, 41, 42, 43, 44, 45, 46, 47, 48, 49, 50, 51, 52, 53, 54, 55, 56, 57, 58, 59, 60, 61, 62, 63, 64, 65, 66, 67, 68, 69, 70, 71, 72, 73, 74], 0), (3, [2, 3, 4, 5, 6, 7, 8, 9, 10, 11, 12, 13, 14, 15, 16, 17, 18, 19, 20, 21, 22, 23, 24, 25, 26, 27, 28, 29, 30, 31, 32, 33, 34, 35, 36, 37, 38, 39, 40, 41, 42, 43, 44, 45, 46, 47, 48, 49, 50, 51, 52, 53, 54, 55, 56, 57, 58, 59, 60, 61, 62, 63, 64, 65, 66, 67, 68, 69, 70, 71, 72, 73, 74], 0)]

def f10_2 (w0 : World) (K : Value → AH → Prop) (x0 : ByteArray) (x1 : ByteArray) (x20 : Bool) (h : AH) : Prop :=
  ∀ j : Nat → Value, LPk Go.Proofs.Tryd.prog w0 (EvC Go.Proofs.Tryd.prog w0) f10_J 10 K 2 [.v (.string x0), .v (.string x1), .v (j 2), .v (j 3), .v (j 4), .v (j 5), .v (j 6), .v (j 7), .v (j 8), .v (j 9), .v (j 10), .v (j 11), .v (j 12), .v (j 13), .v (j 14), .v (j 15), .v (j 16), .v (j 17), .v (j 18), .v (j 19), .v (.bool x20), .v (j 21), .v (j 22), .v (j 23), .v (j 24), .v (j 25), .v (j 26), .v (j 27), .v (j 28), .v (j 29), .v (j 30), .v (j 31), .v (j 32), .v (j 33), .v (j 34), .v (j 35), .v (j 36), .v (j 37), .v (j 38), .v (j 39), .v (j 40), .v (j 41), .v (j 42), .v (j 43), .v (j 44), .v (j 45), .v (j 46), .v (j 47), .v (j 48), .v (j 49), .v (j 50), .v (j 51), .v (j 52), .v (j 53), .v (j 54), .v (j 55), .v (j 56), .v (j 57), .v (j 58), .v (j 59), .v (j 60), .v (j 61), .v (j 62), .v (j 63), .v (j 64), .v (j 65), .v (j 66), .v (j 67), .v (j 68), .v (j 69), .v (j 70), .v (j 71), .v (j 72), .v (j 73), .v (j 74)] [] h

def f10_3 (w0 : World) (K : Value → AH → Prop) (x0 : ByteArray) (x1 : ByteArray) (h : AH) : Prop :=
  ∀ j : Nat → Value, LPk Go.Proofs.Tryd.prog w0 (EvC Go.Proofs.Tryd.prog w0) f10_J 10 K 3 [.v (.string x0), .v (.string x1), .v (j 2), .v (j 3), .v (j 4), .v (j 5), .v (j 6), .v (j 7), .v (j 8), .v (j 9), .v (j 10), .v (j 11), .v (j 12), .v (j 13), .v (j 14), .v (j 15), .v (j 16), .v (j 17), .v (j 18), .v (j 19), .v (j 20), .v (j 21), .v (j 22), .v (j 23), .v (j 24), .v (j 25), .v (j 26), .v (j 27), .v (j 28), .v (j 29), .v (j 30), .v (j 31), .v (j 32), .v (j 33), .v (j 34), .v (j 35), .v (j 36), .v (j 37), .v (j 38), .v (j 39), .v (j 40), .v (j 41), .v (j 42), .v (j 43), .v (j 44), .v (j 45), .v (j 46), .v (j 47), .v (j 48), .v (j 49), .v (j 50), .v (j 51), .v (j 52), .v (j 53), .v (j 54), .v (j 55), .v (j 56), .v (j 57), .v (j 58), .v (j 59), .v (j 60), .v (j 61), .v (j 62), .v (j 63), .v (j 64), .v (j 65), .v (j 66), .v (j 67), .v (j 68), .v (j 69), .v (j 70), .v (j 71), .v (j 72), .v (j 73), .v (j 74)] [] h

theorem f10_2_in {w0 : World} {K : Value → AH → Prop} (x0 : ByteArray) (x1 : ByteArray) (x20 : Bool) (h : AH)
  (hv : (brB x20 (EvC Go.Proofs.Tryd.prog w0 13 #[] (fun x'6 h'7 => (∃ t'8 : Bool, ((x'6 = (Go.Value.bool t'8)) ∧ (K (Go.Value.bool t'8) h'7)))) h) (f10_3 w0 K x0 x1 h))) :
  f10_2 w0 K x0 x1 x20 h := fun j => LP_intro (P := Go.Proofs.Tryd.prog) (Eq.mp (by kernel_rfl) hv)

theorem f10_3_in {w0 : World} {K : Value → AH → Prop} (x0 : ByteArray) (x1 : ByteArray) (h : AH)
  (hv : (brB (decide ((x1 = x0))) ((((ByteArray.size x0) + 2) ≤ 9223372036854775807) ∧ (EvC Go.Proofs.Tryd.prog w0 11 #[(Go.Value.string (x0 ++ (ByteArray.mk #[(47 : UInt8), (35 : UInt8)])))] (fun x'9 h'10 => (∃ t'11 : Bool, ((x'9 = (Go.Value.bool t'11)) ∧ (brB t'11 (EvC Go.Proofs.Tryd.prog w0 14 #[(Go.Value.string (x0 ++ (ByteArray.mk #[(47 : UInt8), (35 : UInt8)]))), (Go.Value.string x1)] (fun x'12 h'13 => (∃ t'14 : Bool, ((x'12 = (Go.Value.bool t'14)) ∧ (brB (t'14 == true) (EvC Go.Proofs.Tryd.prog w0 25 #[(Go.Value.string (x0 ++ (ByteArray.mk #[(47 : UInt8), (35 : UInt8)]))), (Go.Value.string x0)] (fun x'15 h'16 => (∃ t'17 : Bool, ((x'15 = (Go.Value.bool t'17)) ∧ (brB t'17 (EvC Go.Proofs.Tryd.prog w0 25 #[(Go.Value.string (x0 ++ (ByteArray.mk #[(47 : UInt8), (35 : UInt8)]))), (Go.Value.string (x0 ++ (ByteArray.mk #[(47 : UInt8), (35 : UInt8)])))] (fun x'18 h'19 => (∃ t'20 : Bool, ((x'18 = (Go.Value.bool t'20)) ∧ (brB t'20 (EvC Go.Proofs.Tryd.prog w0 25 #[(Go.Value.string (x0 ++ (ByteArray.mk #[(47 : UInt8), (35 : UInt8)]))), (Go.Value.string x1)] (fun x'21 h'22 => (∃ t'23 : Bool, ((x'21 = (Go.Value.bool t'23)) ∧ (brB t'23 (EvC Go.Proofs.Tryd.prog w0 13 #[] (fun x'24 h'25 => (∃ t'26 : Bool, ((x'24 = (Go.Value.bool t'26)) ∧ (K (Go.Value.bool t'26) h'25)))) h'22) (K (Go.Value.bool false) h'22))))) h'19) (K (Go.Value.bool false) h'19))))) h'16) (K (Go.Value.bool false) h'16))))) h'13) (K (Go.Value.bool false) h'13))))) h'10) (K (Go.Value.bool false) h'10))))) h)) (brB (decide (((((ByteArray.size x0) : Nat) : Int) < (((ByteArray.size x1) : Nat) : Int)))) (((0 : Int) ≤ (Go.IntKind.wrap .i64 ((((ByteArray.size x0) : Nat) : Int) + (1 : Int)))) ∧ (((Go.IntKind.wrap .i64 ((((ByteArray.size x0) : Nat) : Int) + (1 : Int))) ≤ (((ByteArray.size x1) : Nat) : Int)) ∧ ((((ByteArray.size x0) + 1) ≤ 9223372036854775807) ∧ ((((ByteArray.size x0) + 2) ≤ 9223372036854775807) ∧ (EvC Go.Proofs.Tryd.prog w0 11 #[(Go.Value.string (x0 ++ (ByteArray.mk #[(47 : UInt8), (35 : UInt8)])))] (fun x'27 h'28 => (∃ t'29 : Bool, ((x'27 = (Go.Value.bool t'29)) ∧ (brB t'29 (EvC Go.Proofs.Tryd.prog w0 14 #[(Go.Value.string (x0 ++ (ByteArray.mk #[(47 : UInt8), (35 : UInt8)]))), (Go.Value.string x1)] (fun x'30 h'31 => (∃ t'32 : Bool, ((x'30 = (Go.Value.bool t'32)) ∧ (brB (t'32 == (decide (((ByteArray.extract x1 0 (Int.toNat (Go.IntKind.wrap .i64 ((((ByteArray.size x0) : Nat) : Int) + (1 : Int))))) = (x0 ++ (ByteArray.mk #[(47 : UInt8)])))))) (EvC Go.Proofs.Tryd.prog w0 25 #[(Go.Value.string (x0 ++ (ByteArray.mk #[(47 : UInt8), (35 : UInt8)]))), (Go.Value.string x0)] (fun x'33 h'34 => (∃ t'35 : Bool, ((x'33 = (Go.Value.bool t'35)) ∧ (brB t'35 (EvC Go.Proofs.Tryd.prog w0 25 #[(Go.Value.string (x0 ++ (ByteArray.mk #[(47 : UInt8), (35 : UInt8)]))), (Go.Value.string (x0 ++ (ByteArray.mk #[(47 : UInt8), (35 : UInt8)])))] (fun x'36 h'37 => (∃ t'38 : Bool, ((x'36 = (Go.Value.bool t'38)) ∧ (brB t'38 (brB (!(decide (((ByteArray.extract x1 0 (Int.toNat (Go.IntKind.wrap .i64 ((((ByteArray.size x0) : Nat) : Int) + (1 : Int))))) = (x0 ++ (ByteArray.mk #[(47 : UInt8)])))))) (EvC Go.Proofs.Tryd.prog w0 13 #[] (fun x'39 h'40 => (∃ t'41 : Bool, ((x'39 = (Go.Value.bool t'41)) ∧ (K (Go.Value.bool t'41) h'40)))) h'37) (EvC Go.Proofs.Tryd.prog w0 25 #[(Go.Value.string (x0 ++ (ByteArray.mk #[(47 : UInt8), (35 : UInt8)]))), (Go.Value.string x1)] (fun x'42 h'43 => (∃ t'44 : Bool, ((x'42 = (Go.Value.bool t'44)) ∧ (brB t'44 (EvC Go.Proofs.Tryd.prog w0 13 #[] (fun x'45 h'46 => (∃ t'47 : Bool, ((x'45 = (Go.Value.bool t'47)) ∧ (K (Go.Value.bool t'47) h'46)))) h'43) (K (Go.Value.bool false) h'43))))) h'37)) (K (Go.Value.bool false) h'37))))) h'34) (K (Go.Value.bool false) h'34))))) h'31) (K (Go.Value.bool false) h'31))))) h'28) (K (Go.Value.bool false) h'28))))) h))))) ((((ByteArray.size x0) + 2) ≤ 9223372036854775807) ∧ (EvC Go.Proofs.Tryd.prog w0 11 #[(Go.Value.string (x0 ++ (ByteArray.mk #[(47 : UInt8), (35 : UInt8)])))] (fun x'48 h'49 => (∃ t'50 : Bool, ((x'48 = (Go.Value.bool t'50)) ∧ (brB t'50 (EvC Go.Proofs.Tryd.prog w0 14 #[(Go.Value.string (x0 ++ (ByteArray.mk #[(47 : UInt8), (35 : UInt8)]))), (Go.Value.string x1)] (fun x'51 h'52 => (∃ t'53 : Bool, ((x'51 = (Go.Value.bool t'53)) ∧ (brB (t'53 == false) (EvC Go.Proofs.Tryd.prog w0 25 #[(Go.Value.string (x0 ++ (ByteArray.mk #[(47 : UInt8), (35 : UInt8)]))), (Go.Value.string x0)] (fun x'54 h'55 => (∃ t'56 : Bool, ((x'54 = (Go.Value.bool t'56)) ∧ (brB t'56 (EvC Go.Proofs.Tryd.prog w0 25 #[(Go.Value.string (x0 ++ (ByteArray.mk #[(47 : UInt8), (35 : UInt8)]))), (Go.Value.string (x0 ++ (ByteArray.mk #[(47 : UInt8), (35 : UInt8)])))] (fun x'57 h'58 => (∃ t'59 : Bool, ((x'57 = (Go.Value.bool t'59)) ∧ (brB t'59 (EvC Go.Proofs.Tryd.prog w0 13 #[] (fun x'60 h'61 => (∃ t'62 : Bool, ((x'60 = (Go.Value.bool t'62)) ∧ (K (Go.Value.bool t'62) h'61)))) h'58) (K (Go.Value.bool false) h'58))))) h'55) (K (Go.Value.bool false) h'55))))) h'52) (K (Go.Value.bool false) h'52))))) h'49) (K (Go.Value.bool false) h'49))))) h))))) :
  f10_3 w0 K x0 x1 h := fun j => LP_intro (P := Go.Proofs.Tryd.prog) (Eq.mp (by kernel_rfl) hv)

theorem f10_go {w0 : World} {K : Value → AH → Prop} (x0 : ByteArray) (x1 : ByteArray) (h : AH)
  (hv : (EvC Go.Proofs.Tryd.prog w0 18 #[(Go.Value.string x0)] (fun x'0 h'1 => (∃ t'2 : Bool, ((x'0 = (Go.Value.bool t'2)) ∧ (brB (!t'2) (f10_2 w0 K x0 x1 true h'1) (EvC Go.Proofs.Tryd.prog w0 18 #[(Go.Value.string x1)] (fun x'3 h'4 => (∃ t'5 : Bool, ((x'3 = (Go.Value.bool t'5)) ∧ (brB (!t'5) (f10_2 w0 K x0 x1 true h'4) (f10_2 w0 K x0 x1 (decide (((64 : Int) < (Go.IntKind.wrap .i64 ((((ByteArray.size x0) : Nat) : Int) + (2 : Int)))))) h'4))))) h'1))))) h)) :
  EvC Go.Proofs.Tryd.prog w0 10 ([(.string x0), (.string x1)]).toArray K h := EvC_intro (P := Go.Proofs.Tryd.prog) f10_J (Eq.mp (by kernel_rfl) hv)
def f4_J : Nat → List Nat × Nat := jOf [(2, [3, 4, 5, 6, 7, 8, 9, 10, 11, 12, 13, 14, 15, 16, 17, 18, 19, 20, 21, 22, 23, 25, 26, 27, 28, 29, 30, 31, 32, 33, 34, 35, 36, 37, 38, 39, 40, 41, 42, 43, 44, 45, 46, 47, 48, 49, 50, 51, 52, 53, 54, 55, 56, 57, 58, 59, 60, 61, 62, 63, 64, 65, 66, 67, 68, 69, 70, 71, 72, 73, 74, 75], 0), (3, [3, 4, 5, 6, 7, 8, 9, 10, 11, 12, 13, 14, 15, 16, 17, 18, 19, 20, 21, 22, 23, 24, 25, 26, 27, 28, 29, 30, 31, 32, 33, 34, 35, 36, 37, 38, 39, 40, 41, 42, 43, 44, 45, 46, 47, 48, 49, 50, 51, 52, 53, 54, 55, 56, 57, 58, 59, 60, 61, 62, 63, 64, 65, 66, 67, 68, 69, 70, 71, 72, 73, 74, 75], 0), (12, [0, 2, 3, 4, 5, 6, 7, 9, 10, 11, 12, 13, 14, 15, 16, 17, 18, 19, 20, 21, 22, 23, 24, 25, 26, 27, 28, 29, 30, 31, 32, 33, 34, 35, 36, 37, 38, 39, 40, 41, 42, 43, 44, 45, 46, 47, 48, 49, 50, 51, 52, 53, 57, 58, 59, 60, 61, 62, 63, 64, 65, 66, 67, 68, 69, 70, 71, 72, 73, 74, 75], 0)]

def f4_2 (w0 : World) (K : Value → AH → Prop) (x0 : ByteArray) (x1 : ByteArray) (x2 : Int) (x24 : Bool) (h : AH) : Prop :=
  ∀ j : Nat → Value, LPk Go.Proofs.Tryd.prog w0 (EvC Go.Proofs.Tryd.prog w0) f4_J 4 K 2 [.v (.string x0), .v (.string x1), .v (.int .i64 x2), .v (j 3), .v (j 4), .v (j 5), .v (j 6), .v (j 7), .v (j 8), .v (j 9), .v (j 10), .v (j 11), .v (j 12), .v (j 13), .v (j 14), .v (j 15), .v (j 16), .v (j 17), .v (j 18), .v (j 19), .v (j 20), .v (j 21), .v (j 22), .v (j 23), .v (.bool x24), .v (j 25), .v (j 26), .v (j 27), .v (j 28), .v (j 29), .v (j 30), .v (j 31), .v (j 32), .v (j 33), .v (j 34), .v (j 35), .v (j 36), .v (j 37), .v (j 38), .v (j 39), .v (j 40), .v (j 41), .v (j 42), .v (j 43), .v (j 44), .v (j 45), .v (j 46), .v (j 47), .v (j 48), .v (j 49), .v (j 50), .v (j 51), .v (j 52), .v (j 53), .v (j 54), .v (j 55), .v (j 56), .v (j 57), .v (j 58), .v (j 59), .v (j 60), .v (j 61), .v (j 62), .v (j 63), .v (j 64), .v (j 65), .v (j 66), .v (j 67), .v (j 68), .v (j 69), .v (j 70), .v (j 71), .v (j 72), .v (j 73), .v (j 74), .v (j 75)] [] h

def f4_3 (w0 : World) (K : Value → AH → Prop) (x0 : ByteArray) (x1 : ByteArray) (x2 : Int) (h : AH) : Prop :=
  ∀ j : Nat → Value, LPk Go.Proofs.Tryd.prog w0 (EvC Go.Proofs.Tryd.prog w0) f4_J 4 K 3 [.v (.string x0), .v (.string x1), .v (.int .i64 x2), .v (j 3), .v (j 4), .v (j 5), .v (j 6), .v (j 7), .v (j 8), .v (j 9), .v (j 10), .v (j 11), .v (j 12), .v (j 13), .v (j 14), .v (j 15), .v (j 16), .v (j 17), .v (j 18), .v (j 19), .v (j 20), .v (j 21), .v (j 22), .v (j 23), .v (j 24), .v (j 25), .v (j 26), .v (j 27), .v (j 28), .v (j 29), .v (j 30), .v (j 31), .v (j 32), .v (j 33), .v (j 34), .v (j 35), .v (j 36), .v (j 37), .v (j 38), .v (j 39), .v (j 40), .v (j 41), .v (j 42), .v (j 43), .v (j 44), .v (j 45), .v (j 46), .v (j 47), .v (j 48), .v (j 49), .v (j 50), .v (j 51), .v (j 52), .v (j 53), .v (j 54), .v (j 55), .v (j 56), .v (j 57), .v (j 58), .v (j 59), .v (j 60), .v (j 61), .v (j 62), .v (j 63), .v (j 64), .v (j 65), .v (j 66), .v (j 67), .v (j 68), .v (j 69), .v (j 70), .v (j 71), .v (j 72), .v (j 73), .v (j 74), .v (j 75)] [] h

def f4_12 (w0 : World) (K : Value → AH → Prop) (x1 : ByteArray) (x8 : ByteArray) (a54 : Option Go.Addr) (n54 : Nat) (c54 : Nat) (x55 : Int) (x56 : Int) (h : AH) : Prop :=
  ∀ j : Nat → Value, LPk Go.Proofs.Tryd.prog w0 (EvC Go.Proofs.Tryd.prog w0) f4_J 4 K 12 [.v (j 0), .v (.string x1), .v (j 2), .v (j 3), .v (j 4), .v (j 5), .v (j 6), .v (j 7), .v (.string x8), .v (j 9), .v (j 10), .v (j 11), .v (j 12), .v (j 13), .v (j 14), .v (j 15), .v (j 16), .v (j 17), .v (j 18), .v (j 19), .v (j 20), .v (j 21), .v (j 22), .v (j 23), .v (j 24), .v (j 25), .v (j 26), .v (j 27), .v (j 28), .v (j 29), .v (j 30), .v (j 31), .v (j 32), .v (j 33), .v (j 34), .v (j 35), .v (j 36), .v (j 37), .v (j 38), .v (j 39), .v (j 40), .v (j 41), .v (j 42), .v (j 43), .v (j 44), .v (j 45), .v (j 46), .v (j 47), .v (j 48), .v (j 49), .v (j 50), .v (j 51), .v (j 52), .v (j 53), .v (.slice a54 n54 c54), .v (.int .i64 x55), .v (.int .i64 x56), .v (j 57), .v (j 58), .v (j 59), .v (j 60), .v (j 61), .v (j 62), .v (j 63), .v (j 64), .v (j 65), .v (j 66), .v (j 67), .v (j 68), .v (j 69), .v (j 70), .v (j 71), .v (j 72), .v (j 73), .v (j 74), .v (j 75)] [] h

theorem f4_2_in {w0 : World} {K : Value → AH → Prop} (x0 : ByteArray) (x1 : ByteArray) (x2 : Int) (x24 : Bool) (h : AH)
  (hv : (brB x24 (EvC Go.Proofs.Tryd.prog w0 13 #[] (fun x'6 h'7 => (∃ t'8 : Bool, ((x'6 = (Go.Value.bool t'8)) ∧ (K (Go.Value.bool t'8) h'7)))) h) (f4_3 w0 K x0 x1 x2 h))) :
  f4_2 w0 K x0 x1 x2 x24 h := fun j => LP_intro (P := Go.Proofs.Tryd.prog) (Eq.mp (by kernel_rfl) hv)

theorem f4_3_in {w0 : World} {K : Value → AH → Prop} (x0 : ByteArray) (x1 : ByteArray) (x2 : Int) (h : AH)
  (hv : (EvC Go.Proofs.Tryd.prog w0 15 #[(Go.Value.string x0)] (fun x'9 h'10 => (∃ p'11 : Option Go.Addr, (∃ n'12 : Nat, (∃ n'13 : Nat, ((x'9 = (Go.Value.slice p'11 n'12 n'13)) ∧ (brB (((n'12 : Nat) : Int) == (0 : Int)) (K (Go.Value.bool false) h'10) ((((n'12 : Nat) : Int) ≠ (0 : Int)) ∧ ((((n'12 : Nat) : Int) ≠ (0 : Int)) ∧ (∃ a'14 : Go.Addr, ((p'11 = (some a'14)) ∧ (((0 : Int) ≤ (Int.tmod (Go.IntKind.wrap .i64 ((Int.tmod x2 ((n'12 : Nat) : Int)) + ((n'12 : Nat) : Int))) ((n'12 : Nat) : Int))) ∧ (((Int.tmod (Go.IntKind.wrap .i64 ((Int.tmod x2 ((n'12 : Nat) : Int)) + ((n'12 : Nat) : Int))) ((n'12 : Nat) : Int)) < ((n'12 : Nat) : Int)) ∧ (∃ s'15 : ByteArray, (((Go.G.cellA w0 h'10 (Go.Addr.add a'14 ((Int.toNat (Int.tmod (Go.IntKind.wrap .i64 ((Int.tmod x2 ((n'12 : Nat) : Int)) + ((n'12 : Nat) : Int))) ((n'12 : Nat) : Int))) * 1))) = (some (Go.Value.string s'15))) ∧ (brB (decide ((s'15 = (ByteArray.mk #[(35 : UInt8)])))) (EvC Go.Proofs.Tryd.prog w0 13 #[] (fun x'16 h'17 => (∃ t'18 : Bool, ((x'16 = (Go.Value.bool t'18)) ∧ (K (Go.Value.bool t'18) h'17)))) h'10) (∃ a'19 : Go.Addr, ((p'11 = (some a'19)) ∧ (((0 : Int) ≤ (Int.tmod (Go.IntKind.wrap .i64 ((Int.tmod x2 ((n'12 : Nat) : Int)) + ((n'12 : Nat) : Int))) ((n'12 : Nat) : Int))) ∧ (((Int.tmod (Go.IntKind.wrap .i64 ((Int.tmod x2 ((n'12 : Nat) : Int)) + ((n'12 : Nat) : Int))) ((n'12 : Nat) : Int)) < ((n'12 : Nat) : Int)) ∧ (∃ l'20 : List Go.Value, (∃ n'21 : Nat, (((Array.size (Go.World.heap w0)) ≤ (Go.Addr.block (Go.Addr.add a'19 ((Int.toNat (Int.tmod (Go.IntKind.wrap .i64 ((Int.tmod x2 ((n'12 : Nat) : Int)) + ((n'12 : Nat) : Int))) ((n'12 : Nat) : Int))) * 1)))) ∧ (((Go.Addr.spot (Go.Addr.add a'19 ((Int.toNat (Int.tmod (Go.IntKind.wrap .i64 ((Int.tmod x2 ((n'12 : Nat) : Int)) + ((n'12 : Nat) : Int))) ((n'12 : Nat) : Int))) * 1))) = none) ∧ (((h'10 (Go.Addr.block (Go.Addr.add a'19 ((Int.toNat (Int.tmod (Go.IntKind.wrap .i64 ((Int.tmod x2 ((n'12 : Nat) : Int)) + ((n'12 : Nat) : Int))) ((n'12 : Nat) : Int))) * 1)))) = (some (Go.G.AB.cells l'20 n'21))) ∧ ((((Go.Addr.off (Go.Addr.add a'19 ((Int.toNat (Int.tmod (Go.IntKind.wrap .i64 ((Int.tmod x2 ((n'12 : Nat) : Int)) + ((n'12 : Nat) : Int))) ((n'12 : Nat) : Int))) * 1))) + 1) ≤ (List.length l'20)) ∧ (∃ a'22 : Go.Addr, ((p'11 = (some a'22)) ∧ (((0 : Int) ≤ (0 : Int)) ∧ (((0 : Int) < ((n'12 : Nat) : Int)) ∧ (∃ s'23 : ByteArray, (((Go.G.cellA w0 (Go.G.AH.put h'10 (Go.Addr.block (Go.Addr.add a'19 ((Int.toNat (Int.tmod (Go.IntKind.wrap .i64 ((Int.tmod x2 ((n'12 : Nat) : Int)) + ((n'12 : Nat) : Int))) ((n'12 : Nat) : Int))) * 1))) (Go.G.AB.cells (Go.G.setCells l'20 (Go.Addr.off (Go.Addr.add a'19 ((Int.toNat (Int.tmod (Go.IntKind.wrap .i64 ((Int.tmod x2 ((n'12 : Nat) : Int)) + ((n'12 : Nat) : Int))) ((n'12 : Nat) : Int))) * 1))) [(Go.Value.string (ByteArray.mk #[(43 : UInt8)]))]) n'21)) (Go.Addr.add a'22 0)) = (some (Go.Value.string s'23))) ∧ (((0 : Int) ≤ (1 : Int)) ∧ (((1 : Int) ≤ ((n'12 : Nat) : Int)) ∧ (f4_12 w0 K x1 s'23 (Go.G.cutA 1 p'11 n'13 1) (n'12 - 1) (n'13 - 1) (((n'12 - 1) : Nat) : Int) (0 : Int) (Go.G.AH.put h'10 (Go.Addr.block (Go.Addr.add a'19 ((Int.toNat (Int.tmod (Go.IntKind.wrap .i64 ((Int.tmod x2 ((n'12 : Nat) : Int)) + ((n'12 : Nat) : Int))) ((n'12 : Nat) : Int))) * 1))) (Go.G.AB.cells (Go.G.setCells l'20 (Go.Addr.off (Go.Addr.add a'19 ((Int.toNat (Int.tmod (Go.IntKind.wrap .i64 ((Int.tmod x2 ((n'12 : Nat) : Int)) + ((n'12 : Nat) : Int))) ((n'12 : Nat) : Int))) * 1))) [(Go.Value.string (ByteArray.mk #[(43 : UInt8)]))]) n'21)))))))))))))))))))))))))))))))))))) h)) :
  f4_3 w0 K x0 x1 x2 h := fun j => LP_intro (P := Go.Proofs.Tryd.prog) (Eq.mp (by kernel_rfl) hv)

theorem f4_12_in {w0 : World} {K : Value → AH → Prop} (x1 : ByteArray) (x8 : ByteArray) (a54 : Option Go.Addr) (n54 : Nat) (c54 : Nat) (x55 : Int) (x56 : Int) (h : AH)
  (hv : (brB (decide ((x56 < x55))) (∃ a'24 : Go.Addr, ((a54 = (some a'24)) ∧ (((0 : Int) ≤ x56) ∧ ((x56 < ((n54 : Nat) : Int)) ∧ (∃ s'25 : ByteArray, (((Go.G.cellA w0 h (Go.Addr.add a'24 ((Int.toNat x56) * 1))) = (some (Go.Value.string s'25))) ∧ (((1 + (ByteArray.size s'25)) ≤ 9223372036854775807) ∧ ((((ByteArray.size x8) + (ByteArray.size ((ByteArray.mk #[(47 : UInt8)]) ++ s'25))) ≤ 9223372036854775807) ∧ (f4_12 w0 K x1 (x8 ++ ((ByteArray.mk #[(47 : UInt8)]) ++ s'25)) a54 n54 c54 x55 (Go.IntKind.wrap .i64 (x56 + (1 : Int))) h))))))))) (brB (decide (((64 : Int) < (((ByteArray.size x8) : Nat) : Int)))) (EvC Go.Proofs.Tryd.prog w0 13 #[] (fun x'26 h'27 => (∃ t'28 : Bool, ((x'26 = (Go.Value.bool t'28)) ∧ (K (Go.Value.bool t'28) h'27)))) h) (EvC Go.Proofs.Tryd.prog w0 14 #[(Go.Value.string x8), (Go.Value.string x1)] (fun x'29 h'30 => (∃ t'31 : Bool, ((x'29 = (Go.Value.bool t'31)) ∧ (brB t'31 (EvC Go.Proofs.Tryd.prog w0 13 #[] (fun x'32 h'33 => (∃ t'34 : Bool, ((x'32 = (Go.Value.bool t'34)) ∧ (K (Go.Value.bool t'34) h'33)))) h'30) (K (Go.Value.bool false) h'30))))) h)))) :
  f4_12 w0 K x1 x8 a54 n54 c54 x55 x56 h := fun j => LP_intro (P := Go.Proofs.Tryd.prog) (Eq.mp (by kernel_rfl) hv)

theorem f4_go {w0 : World} {K : Value → AH → Prop} (x0 : ByteArray) (x1 : ByteArray) (x2 : Int) (h : AH)
  (hv : (EvC Go.Proofs.Tryd.prog w0 11 #[(Go.Value.string x0)] (fun x'0 h'1 => (∃ t'2 : Bool, ((x'0 = (Go.Value.bool t'2)) ∧ (brB (!t'2) (f4_2 w0 K x0 x1 x2 true h'1) (EvC Go.Proofs.Tryd.prog w0 14 #[(Go.Value.string x0), (Go.Value.string x1)] (fun x'3 h'4 => (∃ t'5 : Bool, ((x'3 = (Go.Value.bool t'5)) ∧ (brB (!t'5) (f4_2 w0 K x0 x1 x2 true h'4) (((0 : Int) ≤ (0 : Int)) ∧ (((0 : Int) < (((ByteArray.size x1) : Nat) : Int)) ∧ (f4_2 w0 K x0 x1 x2 ((Go.G.byteAt x1 0) == (36 : Int)) h'4))))))) h'1))))) h)) :
  EvC Go.Proofs.Tryd.prog w0 4 ([(.string x0), (.string x1), (.int .i64 x2)]).toArray K h := EvC_intro (P := Go.Proofs.Tryd.prog) f4_J (Eq.mp (by kernel_rfl) hv)
/-- TopicBelow. -/
theorem f10_spec {w0 : World} {K : Value → AH → Prop} {n o : ByteArray} (T : TabOk w0) (hk : ∀ h, K (.bool true) h) : EvC Go.Proofs.Tryd.prog w0 10 #[.string n, .string o] K (fun _ => none) := by
  have yes : ∀ h, Own w0 h [] → f10_2 w0 K n o true h := fun h w => f10_2_in _ _ _ _ (brB_of (fun _ => awake_true T w hk) fun q => by cases q)
  have three : nameB n = true → nameB o = true → n.size + 2 ≤ 64 → ∀ h, Own w0 h [] → f10_3 w0 K n o h := fun hn ho hs h w => by
    have ef : filterB (n ++ ⟨#[47, 35]⟩) = true := belowF_filter hn hs
    have em : matchB (n ++ ⟨#[47, 35]⟩) o = pre (levS n) (levS o) := below_match hn ho hs
    have en : coversB (n ++ ⟨#[47, 35]⟩) n = true := by
      have := below_covers hn (name_filter hn) hs
      rw [pre_self] at this; exact this
    have es : coversB (n ++ ⟨#[47, 35]⟩) (n ++ ⟨#[47, 35]⟩) = true := covers_self ef
    have eo : coversB (n ++ ⟨#[47, 35]⟩) o = pre (levS n) (levS o) := below_covers hn (name_filter ho) hs
    refine f10_3_in _ _ _ (brB_of (fun q => ⟨by omega, f11_spec T w fun h1 w1 => ⟨_, rfl, ?_⟩⟩) fun q => brB_of (fun q2 => ⟨?_, ?_, by omega, by omega, f11_spec T w fun h1 w1 => ⟨_, rfl, ?_⟩⟩) fun q2 => ⟨by omega, f11_spec T w fun h1 w1 => ⟨_, rfl, ?_⟩⟩)
    · have e : o = n := of_decide_eq_true q
      have p1 : pre (levS n) (levS o) = true := by rw [e, pre_self]
      rw [ef]
      refine brB_of (fun _ => f14_spec T w1 fun h2 w2 => ⟨_, rfl, ?_⟩) fun z => by cases z
      rw [em, p1]
      refine brB_of (fun _ => f25_spec T w2 fun h3 w3 => ⟨_, rfl, ?_⟩) fun z => by cases z
      rw [en]
      refine brB_of (fun _ => f25_spec T w3 fun h4 w4 => ⟨_, rfl, ?_⟩) fun z => by cases z
      rw [es]
      refine brB_of (fun _ => f25_spec T w4 fun h5 w5 => ⟨_, rfl, ?_⟩) fun z => by cases z
      rw [eo, p1]
      exact brB_of (fun _ => awake_true T w5 hk) fun z => by cases z
    · rw [wrap64 (by omega) (by omega)]; omega
    · have := of_decide_eq_true q2
      rw [wrap64 (by omega) (by omega)]; omega
    · have hne : o ≠ n := of_decide_eq_false q
      have hlt : n.size < o.size := by have := of_decide_eq_true q2; omega
      have ew : (IntKind.i64.wrap (((n.size : Nat) : Int) + 1)).toNat = n.size + 1 := by rw [wrap64 (by omega) (by omega)]; omega
      rw [ew, extract_pre hlt hne, ef]
      refine brB_of (fun _ => f14_spec T w1 fun h2 w2 => ⟨_, rfl, ?_⟩) fun z => by cases z
      rw [em]
      refine brB_of (fun _ => f25_spec T w2 fun h3 w3 => ⟨_, rfl, ?_⟩) fun z => by simp at z
      rw [en]
      refine brB_of (fun _ => f25_spec T w3 fun h4 w4 => ⟨_, rfl, ?_⟩) fun z => by cases z
      rw [es]
      refine brB_of (fun _ => brB_of (fun _ => awake_true T w4 hk) fun z => f25_spec T w4 fun h5 w5 => ⟨_, rfl, ?_⟩) fun z => by cases z
      have p1 : pre (levS n) (levS o) = true := by simpa using z
      rw [eo, p1]
      exact brB_of (fun _ => awake_true T w5 hk) fun z => by cases z
    · have hne : o ≠ n := of_decide_eq_false q
      have hlt : ¬ n.size < o.size := by have := of_decide_eq_false q2; omega
      have p0 := pre_short hlt hne
      rw [ef]
      refine brB_of (fun _ => f14_spec T w1 fun h2 w2 => ⟨_, rfl, ?_⟩) fun z => by cases z
      rw [em, p0]
      refine brB_of (fun _ => f25_spec T w2 fun h3 w3 => ⟨_, rfl, ?_⟩) fun z => by cases z
      rw [en]
      refine brB_of (fun _ => f25_spec T w3 fun h4 w4 => ⟨_, rfl, ?_⟩) fun z => by cases z
      rw [es]
      exact brB_of (fun _ => awake_true T w4 hk) fun z => by cases z
  refine f10_go _ _ _ (f18_spec T Own.nil fun h1 w1 => ⟨_, rfl, brB_of (fun _ => yes h1 w1) fun q1 => f18_spec T w1 fun h2 w2 => ⟨_, rfl, brB_of (fun _ => yes h2 w2) fun q2 => ?_⟩⟩)
  have hn : nameB n = true := by simpa using q1
  have ho : nameB o = true := by simpa using q2
  have hs := (name_one hn).2
  have ew : IntKind.i64.wrap (((n.size : Nat) : Int) + 2) = ((n.size + 2 : Nat) : Int) := by rw [wrap64 (by omega) (by omega)]; omega
  rw [ew]
  by_cases hz : (64 : Int) < ((n.size + 2 : Nat) : Int)
  · rw [decide_eq_true hz]; exact yes h2 w2
  · rw [decide_eq_false hz]
    exact f10_2_in _ _ _ _ (brB_of (fun z => by cases z) fun _ => three hn ho (by omega) h2 w2)

theorem strs_drop1 {x : ByteArray} {L : List ByteArray} : strs (x :: L) = .string x :: strs L := rfl
/-- TopicWider. -/
theorem f4_spec {w0 : World} {K : Value → AH → Prop} {f n : ByteArray} {at' : Int} (T : TabOk w0) (hk : ∀ h, K (.bool true) h) : EvC Go.Proofs.Tryd.prog w0 4 #[.string f, .string n, .int .i64 at'] K (fun _ => none) := by
  have yes : ∀ h, Own w0 h [] → f4_2 w0 K f n at' true h := fun h w => f4_2_in _ _ _ _ _ (brB_of (fun _ => awake_true T w hk) fun q => by cases q)
  refine f4_go _ _ _ _ (f11_spec T Own.nil fun h1 w1 => ⟨_, rfl, brB_of (fun _ => yes h1 w1) fun q1 => f14_spec T w1 fun h2 w2 => ⟨_, rfl, brB_of (fun _ => yes h2 w2) fun q2 => ?_⟩⟩)
  have hm : matchB f n = true := by simpa using q2
  have hf : filterB f = true := by simpa using q1
  obtain ⟨f1, f2⟩ := filter_one hf
  have hn1 : 1 ≤ n.size := by simp only [matchB, Bool.and_eq_true] at hm; exact (name_one hm.1.1.2).1
  refine ⟨by decide, by omega, ?_⟩
  rw [first_at (k := 36) (m := 36) hn1 rfl]
  by_cases hd : first n = some 36
  · rw [decide_eq_true hd]; exact yes h2 w2
  rw [decide_eq_false hd]
  refine f4_2_in _ _ _ _ _ (brB_of (fun z => by cases z) fun _ => f4_3_in _ _ _ _ (f15_spec (by omega) w2 fun h3 a c v w3 => ⟨_, _, _, rfl, ?_⟩))
  have hlen := levS_len f2
  have hpos : 0 < (levS f).length := List.length_pos_iff.2 (levS_ne f)
  generalize hL : levS f = L at v w3 hlen hpos
  refine brB_of (fun z => ?_) fun _ => ?_
  · have : ((L.length : Nat) : Int) = 0 := by simpa using z
    omega
  obtain ⟨m1, m2⟩ := modR' (x := at') (m := ((L.length : Nat) : Int)) (by omega) (by omega)
  obtain ⟨i, hi⟩ : ∃ i : Nat, Int.tmod (IntKind.i64.wrap (Int.tmod at' ((L.length : Nat) : Int) + ((L.length : Nat) : Int))) ((L.length : Nat) : Int) = (i : Int) := ⟨(Int.tmod (IntKind.i64.wrap (Int.tmod at' ((L.length : Nat) : Int) + ((L.length : Nat) : Int))) ((L.length : Nat) : Int)).toNat, by omega⟩
  rw [hi] at m1 m2 ⊢
  have hil : i < L.length := by omega
  have hget := List.getElem?_eq_getElem hil
  generalize hx : L[i] = x at hget
  have rd : Rd w0 h3 a (strs L) := v.rd (cs := []) w3
  obtain ⟨ad, rfl, hc⟩ := strLoad rd hget
  have hcap := v.2.1
  have hoff : ad.off = 0 ∧ ad.spot = none := v.2.2
  have had : ad = ⟨ad.block, 0, none⟩ := by
    obtain ⟨h1, h2⟩ := hoff
    cases ad; simp_all
  refine ⟨by omega, by omega, ad, rfl, m1, m2, x, ?_, ?_⟩
  · rw [Int.toNat_natCast, Nat.mul_one]; exact hc
  refine brB_of (fun _ => awake_true T w3 hk) fun z => ⟨ad, rfl, m1, m2, ?_⟩
  have hxh : x ≠ hashB := of_decide_eq_false z
  generalize hb : ad.block = b at had
  subst had
  have hadd : (Addr.add ⟨b, 0, none⟩ ((Int.toNat ((i : Nat) : Int)) * 1)) = ⟨b, i, none⟩ := by rw [add_plain, Int.toNat_natCast, Nat.mul_one, Nat.zero_add]
  rw [hadd]
  have w3' : Own w0 h3 ((b, .cells (strs L) (c * 1)) :: []) := w3
  have hset : setCells (strs L) i [.string plusB] = strs (L.set i plusB) := by
    show (strs L).set i (.string plusB) = (L.set i plusB).map .string
    rw [List.map_set]; rfl
  have w4 : Own w0 (h3.put b (.cells (setCells (strs L) i [.string plusB]) (c * 1))) ((b, .cells (strs (L.set i plusB)) (c * 1)) :: []) := by
    have := w3'.put (o' := .cells (setCells (strs L) i [.string plusB]) (c * 1))
    rw [hset] at this ⊢
    exact this
  refine ⟨_, _, w3'.ge, rfl, w3'.hd, by rw [strs_length]; show i + 1 ≤ _; omega, _, rfl, by decide, by omega, ?_⟩
  show ∃ s'23 : ByteArray, cellA w0 (h3.put b (.cells (setCells (strs L) i [.string plusB]) (c * 1))) (Addr.add ⟨b, 0, none⟩ 0) = some (.string s'23) ∧ _ ∧ _ ∧ f4_12 w0 K n s'23 _ _ _ _ _ (h3.put b (.cells (setCells (strs L) i [.string plusB]) (c * 1)))
  generalize (h3.put b (.cells (setCells (strs L) i [.string plusB]) (c * 1))) = h4 at w4 ⊢
  have wide : (joinB (L.set i plusB)).size ≤ 64 → matchB (joinB (L.set i plusB)) n = true := fun hs => by
    subst hL
    exact wide_match hm hd hget hxh hs
  have hl2 : (L.set i plusB).length = L.length := List.length_set ..
  have hsm : ∀ s ∈ L.set i plusB, s.size ≤ 64 := fun s hs => by
    rcases set_mem hs with hs | rfl
    · subst hL; exact Nat.le_trans (levS_le hs) f2
    · decide
  generalize L.set i plusB = M at w4 wide hl2 hsm
  match M, w4, wide, hl2, hsm with
  | [], _, _, hl2, _ => simp at hl2; omega
  | y :: M, w4, wide, hl2, hsm =>
    have v4 : Rd w0 h4 (some ⟨b, 0, none⟩) (strs (y :: M)) := fun j z hz => ⟨_, rfl, w4.cell0 hz⟩
    refine ⟨y, w4.cell0 rfl, by decide, by omega, ?_⟩
    have hM : L.length - 1 = M.length := by simp at hl2; omega
    rw [hM]
    have rdM : Rd w0 h4 (cutA 1 (some ⟨b, 0, none⟩) c 1) (strs M) := strs_cut v4 (by omega)
    have loop : ∀ (k j : Nat) (acc : ByteArray), j + k = M.length → (M.drop j).foldl (fun a s => a ++ (⟨#[47]⟩ ++ s)) acc = joinB (y :: M) → acc.size ≤ 100 + j * 100 → f4_12 w0 K n acc (cutA 1 (some ⟨b, 0, none⟩) c 1) M.length (c - 1) ((M.length : Nat) : Int) ((j : Nat) : Int) h4 := by
      intro k
      induction k with
      | zero =>
        intro j acc hj he hs
        refine f4_12_in _ _ _ _ _ _ _ _ (brB_of (fun q => by have := of_decide_eq_true q; omega) fun _ => brB_of (fun _ => awake_true T (Own.drop (cs := [_]) w4) hk) fun q => f14_spec T (Own.drop (cs := [_]) w4) fun h5 w5 => ⟨_, rfl, ?_⟩)
        rw [List.drop_eq_nil_of_le (by omega), List.foldl_nil] at he
        subst he
        rw [wide (by have := of_decide_eq_false q; omega)]
        exact brB_of (fun _ => awake_true T w5 hk) fun z => by cases z
      | succ k ih =>
        intro j acc hj he hs
        have hjl : j < M.length := by omega
        have hgetj := List.getElem?_eq_getElem hjl
        have hsz := hsm _ (List.mem_cons_of_mem _ (List.getElem_mem hjl))
        rw [List.drop_eq_getElem_cons hjl, List.foldl_cons] at he
        generalize M[j] = u at hgetj hsz he
        obtain ⟨ud, hu, hcu⟩ := strLoad rdM hgetj
        have e47 : (⟨#[47]⟩ ++ u : ByteArray).size = 1 + u.size := by rw [bapp_size]; rfl
        refine f4_12_in _ _ _ _ _ _ _ _ (brB_of (fun _ => ⟨ud, hu, by omega, by omega, u, ?_, by omega, by rw [e47]; omega, ?_⟩) fun q => absurd (of_decide_eq_false q) (by omega))
        · rw [Int.toNat_natCast, Nat.mul_one]; exact hcu
        · rw [wrapS (by omega)]
          exact ih (j + 1) _ (by omega) he (by rw [bapp_size, e47]; omega)
    exact loop M.length 0 y (by omega) rfl (by have := hsm y (List.mem_cons_self ..); omega)
end Go.G.YtjeneodgjclpiaaDoor
