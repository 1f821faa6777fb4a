/- Do texts rise? May a message be? -/
import Derived.Test.YtilifcggegabfaaDoorSI
import Derived.Test.YtilifcggegabfaaDoorTI
import Derived.Test.YtilifcggegabfaaDoorProg
set_option maxRecDepth 100000
namespace Go.G.YtilifcggegabfaaDoor
open Go.RowKit
def f25_J : Nat → List Nat × Nat := jOf []



theorem f25_go {w0 : World} {K : Value → AH → Prop} (x0_0 : ByteArray) (a0_1 : Option Go.Addr) (n0_1 : Nat) (c0_1 : Nat) (x0_2 : Int) (x0_3 : Bool) (x0_4 : Int) (h : AH)
  (hv : (K (Go.Value.string x0_0) h)) :
  EvC Go.Proofs.Tryd.prog w0 25 ([(.agg #[(.string x0_0), (.slice a0_1 n0_1 c0_1), (.int .i64 x0_2), (.bool x0_3), (.int .i64 x0_4)])]).toArray K h := EvC_intro (P := Go.Proofs.Tryd.prog) f25_J (Eq.mp (by kernel_rfl) hv)
def f27_J : Nat → List Nat × Nat := jOf []



theorem f27_go {w0 : World} {K : Value → AH → Prop} (x0_0 : ByteArray) (a0_1 : Option Go.Addr) (n0_1 : Nat) (c0_1 : Nat) (a0_2 : Option Go.Addr) (n0_2 : Nat) (c0_2 : Nat) (a0_3 : Option Go.Addr) (n0_3 : Nat) (c0_3 : Nat) (a0_4 : Option Go.Addr) (n0_4 : Nat) (c0_4 : Nat) (x0_5 : Int) (x0_6 : Int) (x0_7 : Int) (h : AH)
  (hv : (K (Go.Value.string x0_0) h)) :
  EvC Go.Proofs.Tryd.prog w0 27 ([(.agg #[(.string x0_0), (.slice a0_1 n0_1 c0_1), (.slice a0_2 n0_2 c0_2), (.slice a0_3 n0_3 c0_3), (.slice a0_4 n0_4 c0_4), (.int .i64 x0_5), (.int .i64 x0_6), (.int .i64 x0_7)])]).toArray K h := EvC_intro (P := Go.Proofs.Tryd.prog) f27_J (Eq.mp (by kernel_rfl) hv)
def f46_J : Nat → List Nat × Nat := jOf []



theorem f46_go {w0 : World} {K : Value → AH → Prop} (x0_0 : ByteArray) (x0_1 : Int) (h : AH)
  (hv : (K (Go.Value.string x0_0) h)) :
  EvC Go.Proofs.Tryd.prog w0 46 ([(.agg #[(.string x0_0), (.int .i64 x0_1)])]).toArray K h := EvC_intro (P := Go.Proofs.Tryd.prog) f46_J (Eq.mp (by kernel_rfl) hv)
def f24_J : Nat → List Nat × Nat := jOf [(2, [2, 3, 4, 6, 7, 8, 9, 10, 11, 12, 13, 14, 15, 16, 17, 18, 19, 20, 21, 22, 23, 24, 25], 0)]

def f24_2 (w0 : World) (K : Value → AH → Prop) (a0 : Option Go.Addr) (n0 : Nat) (c0 : Nat) (x5 : Int) (h : AH) : Prop :=
  ∀ j : Nat → Value, LPk Go.Proofs.Tryd.prog w0 (EvC Go.Proofs.Tryd.prog w0) f24_J 24 K 2 [.v (.slice a0 n0 c0), .v (.func (Go.Fn.func 25) #[] #[]), .v (j 2), .v (j 3), .v (j 4), .v (.int .i64 x5), .v (j 6), .v (j 7), .v (j 8), .v (j 9), .v (j 10), .v (j 11), .v (j 12), .v (j 13), .v (j 14), .v (j 15), .v (j 16), .v (j 17), .v (j 18), .v (j 19), .v (j 20), .v (j 21), .v (j 22), .v (j 23), .v (j 24), .v (j 25)] [] h

theorem f24_2_in {w0 : World} {K : Value → AH → Prop} (a0 : Option Go.Addr) (n0 : Nat) (c0 : Nat) (x5 : Int) (h : AH)
  (hv : (brB (decide ((x5 < ((n0 : Nat) : Int)))) (∃ a'0 : Go.Addr, ((a0 = (some a'0)) ∧ (((0 : Int) ≤ (Go.IntKind.wrap .i64 (x5 - (1 : Int)))) ∧ (((Go.IntKind.wrap .i64 (x5 - (1 : Int))) < ((n0 : Nat) : Int)) ∧ (∃ a'1 : Go.Addr, ((a0 = (some a'1)) ∧ (((0 : Int) ≤ x5) ∧ ((x5 < ((n0 : Nat) : Int)) ∧ ((∃ s'2 : ByteArray, (∃ p'3 : Option Go.Addr, (∃ n'4 : Nat, (∃ n'5 : Nat, (∃ i'6 : Int, (∃ t'7 : Bool, (∃ i'8 : Int, ((((Array.size #[(Go.Value.string s'2), (Go.Value.slice p'3 n'4 n'5), (Go.Value.int .i64 i'6), (Go.Value.bool t'7), (Go.Value.int .i64 i'8)]) = 5) ∧ (At w0 h (Go.Addr.add a'0 ((Int.toNat (Go.IntKind.wrap .i64 (x5 - (1 : Int)))) * 5)) [(Go.Value.string s'2), (Go.Value.slice p'3 n'4 n'5), (Go.Value.int .i64 i'6), (Go.Value.bool t'7), (Go.Value.int .i64 i'8)])) ∧ ((EvC Go.Proofs.Tryd.prog w0 25 #[(Go.Value.agg #[(Go.Value.string s'2), (Go.Value.slice p'3 n'4 n'5), (Go.Value.int .i64 i'6), (Go.Value.bool t'7), (Go.Value.int .i64 i'8)])] (fun x'9 h'10 => (∃ s'11 : ByteArray, ((x'9 = (Go.Value.string s'11)) ∧ (∃ s'12 : ByteArray, (∃ p'13 : Option Go.Addr, (∃ n'14 : Nat, (∃ n'15 : Nat, (∃ i'16 : Int, (∃ t'17 : Bool, (∃ i'18 : Int, ((((Array.size #[(Go.Value.string s'12), (Go.Value.slice p'13 n'14 n'15), (Go.Value.int .i64 i'16), (Go.Value.bool t'17), (Go.Value.int .i64 i'18)]) = 5) ∧ (At w0 h'10 (Go.Addr.add a'1 ((Int.toNat x5) * 5)) [(Go.Value.string s'12), (Go.Value.slice p'13 n'14 n'15), (Go.Value.int .i64 i'16), (Go.Value.bool t'17), (Go.Value.int .i64 i'18)])) ∧ (EvC Go.Proofs.Tryd.prog w0 25 #[(Go.Value.agg #[(Go.Value.string s'12), (Go.Value.slice p'13 n'14 n'15), (Go.Value.int .i64 i'16), (Go.Value.bool t'17), (Go.Value.int .i64 i'18)])] (fun x'19 h'20 => (∃ s'21 : ByteArray, ((x'19 = (Go.Value.string s'21)) ∧ (brB (!(Go.Op.bytesLess (ByteArray.toList s'11) (ByteArray.toList s'21))) (K (Go.Value.bool false) h'20) (f24_2 w0 K a0 n0 c0 (Go.IntKind.wrap .i64 (x5 + (1 : Int))) h'20))))) h'10)))))))))))) h) ∧ (∃ s'22 : ByteArray, (∃ p'23 : Option Go.Addr, (∃ n'24 : Nat, (∃ n'25 : Nat, (∃ i'26 : Int, (∃ t'27 : Bool, (∃ i'28 : Int, ((((Array.size #[(Go.Value.string s'22), (Go.Value.slice p'23 n'24 n'25), (Go.Value.int .i64 i'26), (Go.Value.bool t'27), (Go.Value.int .i64 i'28)]) = 5) ∧ (At w0 h (Go.Addr.add a'1 ((Int.toNat x5) * 5)) [(Go.Value.string s'22), (Go.Value.slice p'23 n'24 n'25), (Go.Value.int .i64 i'26), (Go.Value.bool t'27), (Go.Value.int .i64 i'28)])) ∧ (EvC Go.Proofs.Tryd.prog w0 25 #[(Go.Value.agg #[(Go.Value.string s'2), (Go.Value.slice p'3 n'4 n'5), (Go.Value.int .i64 i'6), (Go.Value.bool t'7), (Go.Value.int .i64 i'8)])] (fun x'29 h'30 => (∃ s'31 : ByteArray, ((x'29 = (Go.Value.string s'31)) ∧ (EvC Go.Proofs.Tryd.prog w0 25 #[(Go.Value.agg #[(Go.Value.string s'22), (Go.Value.slice p'23 n'24 n'25), (Go.Value.int .i64 i'26), (Go.Value.bool t'27), (Go.Value.int .i64 i'28)])] (fun x'32 h'33 => (∃ s'34 : ByteArray, ((x'32 = (Go.Value.string s'34)) ∧ (brB (!(Go.Op.bytesLess (ByteArray.toList s'31) (ByteArray.toList s'34))) (K (Go.Value.bool false) h'33) (f24_2 w0 K a0 n0 c0 (Go.IntKind.wrap .i64 (x5 + (1 : Int))) h'33))))) h'30)))) h)))))))))))))))))) ∧ (∃ s'35 : ByteArray, (∃ p'36 : Option Go.Addr, (∃ n'37 : Nat, (∃ n'38 : Nat, (∃ i'39 : Int, (∃ t'40 : Bool, (∃ i'41 : Int, ((((Array.size #[(Go.Value.string s'35), (Go.Value.slice p'36 n'37 n'38), (Go.Value.int .i64 i'39), (Go.Value.bool t'40), (Go.Value.int .i64 i'41)]) = 5) ∧ (At w0 h (Go.Addr.add a'1 ((Int.toNat x5) * 5)) [(Go.Value.string s'35), (Go.Value.slice p'36 n'37 n'38), (Go.Value.int .i64 i'39), (Go.Value.bool t'40), (Go.Value.int .i64 i'41)])) ∧ (∃ s'42 : ByteArray, (∃ p'43 : Option Go.Addr, (∃ n'44 : Nat, (∃ n'45 : Nat, (∃ i'46 : Int, (∃ t'47 : Bool, (∃ i'48 : Int, ((((Array.size #[(Go.Value.string s'42), (Go.Value.slice p'43 n'44 n'45), (Go.Value.int .i64 i'46), (Go.Value.bool t'47), (Go.Value.int .i64 i'48)]) = 5) ∧ (At w0 h (Go.Addr.add a'0 ((Int.toNat (Go.IntKind.wrap .i64 (x5 - (1 : Int)))) * 5)) [(Go.Value.string s'42), (Go.Value.slice p'43 n'44 n'45), (Go.Value.int .i64 i'46), (Go.Value.bool t'47), (Go.Value.int .i64 i'48)])) ∧ (EvC Go.Proofs.Tryd.prog w0 25 #[(Go.Value.agg #[(Go.Value.string s'42), (Go.Value.slice p'43 n'44 n'45), (Go.Value.int .i64 i'46), (Go.Value.bool t'47), (Go.Value.int .i64 i'48)])] (fun x'49 h'50 => (∃ s'51 : ByteArray, ((x'49 = (Go.Value.string s'51)) ∧ (EvC Go.Proofs.Tryd.prog w0 25 #[(Go.Value.agg #[(Go.Value.string s'35), (Go.Value.slice p'36 n'37 n'38), (Go.Value.int .i64 i'39), (Go.Value.bool t'40), (Go.Value.int .i64 i'41)])] (fun x'52 h'53 => (∃ s'54 : ByteArray, ((x'52 = (Go.Value.string s'54)) ∧ (brB (!(Go.Op.bytesLess (ByteArray.toList s'51) (ByteArray.toList s'54))) (K (Go.Value.bool false) h'53) (f24_2 w0 K a0 n0 c0 (Go.IntKind.wrap .i64 (x5 + (1 : Int))) h'53))))) h'50)))) h)))))))))))))))))))))))))) (K (Go.Value.bool true) h))) :
  f24_2 w0 K a0 n0 c0 x5 h := fun j => LP_intro (P := Go.Proofs.Tryd.prog) (Eq.mp (by kernel_rfl) hv)

theorem f24_go {w0 : World} {K : Value → AH → Prop} (a0 : Option Go.Addr) (n0 : Nat) (c0 : Nat) (h : AH)
  (hv : (f24_2 w0 K a0 n0 c0 (1 : Int) h)) :
  EvC Go.Proofs.Tryd.prog w0 24 ([(.slice a0 n0 c0), (.func (.func 25) #[] #[])]).toArray K h := EvC_intro (P := Go.Proofs.Tryd.prog) f24_J (Eq.mp (by kernel_rfl) hv)
def f26_J : Nat → List Nat × Nat := jOf [(2, [2, 3, 4, 6, 7, 8, 9, 10, 11, 12, 13, 14, 15, 16, 17, 18, 19, 20, 21, 22, 23, 24, 25], 0)]

def f26_2 (w0 : World) (K : Value → AH → Prop) (a0 : Option Go.Addr) (n0 : Nat) (c0 : Nat) (x5 : Int) (h : AH) : Prop :=
  ∀ j : Nat → Value, LPk Go.Proofs.Tryd.prog w0 (EvC Go.Proofs.Tryd.prog w0) f26_J 26 K 2 [.v (.slice a0 n0 c0), .v (.func (Go.Fn.func 27) #[] #[]), .v (j 2), .v (j 3), .v (j 4), .v (.int .i64 x5), .v (j 6), .v (j 7), .v (j 8), .v (j 9), .v (j 10), .v (j 11), .v (j 12), .v (j 13), .v (j 14), .v (j 15), .v (j 16), .v (j 17), .v (j 18), .v (j 19), .v (j 20), .v (j 21), .v (j 22), .v (j 23), .v (j 24), .v (j 25)] [] h

theorem f26_2_in {w0 : World} {K : Value → AH → Prop} (a0 : Option Go.Addr) (n0 : Nat) (c0 : Nat) (x5 : Int) (h : AH)
  (hv : (brB (decide ((x5 < ((n0 : Nat) : Int)))) (∃ a'0 : Go.Addr, ((a0 = (some a'0)) ∧ (((0 : Int) ≤ (Go.IntKind.wrap .i64 (x5 - (1 : Int)))) ∧ (((Go.IntKind.wrap .i64 (x5 - (1 : Int))) < ((n0 : Nat) : Int)) ∧ (∃ a'1 : Go.Addr, ((a0 = (some a'1)) ∧ (((0 : Int) ≤ x5) ∧ ((x5 < ((n0 : Nat) : Int)) ∧ ((∃ s'2 : ByteArray, (∃ p'3 : Option Go.Addr, (∃ n'4 : Nat, (∃ n'5 : Nat, (∃ p'6 : Option Go.Addr, (∃ n'7 : Nat, (∃ n'8 : Nat, (∃ p'9 : Option Go.Addr, (∃ n'10 : Nat, (∃ n'11 : Nat, (∃ p'12 : Option Go.Addr, (∃ n'13 : Nat, (∃ n'14 : Nat, (∃ i'15 : Int, (∃ i'16 : Int, (∃ i'17 : Int, ((((Array.size #[(Go.Value.string s'2), (Go.Value.slice p'3 n'4 n'5), (Go.Value.slice p'6 n'7 n'8), (Go.Value.slice p'9 n'10 n'11), (Go.Value.slice p'12 n'13 n'14), (Go.Value.int .i64 i'15), (Go.Value.int .i64 i'16), (Go.Value.int .i64 i'17)]) = 8) ∧ (At w0 h (Go.Addr.add a'0 ((Int.toNat (Go.IntKind.wrap .i64 (x5 - (1 : Int)))) * 8)) [(Go.Value.string s'2), (Go.Value.slice p'3 n'4 n'5), (Go.Value.slice p'6 n'7 n'8), (Go.Value.slice p'9 n'10 n'11), (Go.Value.slice p'12 n'13 n'14), (Go.Value.int .i64 i'15), (Go.Value.int .i64 i'16), (Go.Value.int .i64 i'17)])) ∧ ((EvC Go.Proofs.Tryd.prog w0 27 #[(Go.Value.agg #[(Go.Value.string s'2), (Go.Value.slice p'3 n'4 n'5), (Go.Value.slice p'6 n'7 n'8), (Go.Value.slice p'9 n'10 n'11), (Go.Value.slice p'12 n'13 n'14), (Go.Value.int .i64 i'15), (Go.Value.int .i64 i'16), (Go.Value.int .i64 i'17)])] (fun x'18 h'19 => (∃ s'20 : ByteArray, ((x'18 = (Go.Value.string s'20)) ∧ (∃ s'21 : ByteArray, (∃ p'22 : Option Go.Addr, (∃ n'23 : Nat, (∃ n'24 : Nat, (∃ p'25 : Option Go.Addr, (∃ n'26 : Nat, (∃ n'27 : Nat, (∃ p'28 : Option Go.Addr, (∃ n'29 : Nat, (∃ n'30 : Nat, (∃ p'31 : Option Go.Addr, (∃ n'32 : Nat, (∃ n'33 : Nat, (∃ i'34 : Int, (∃ i'35 : Int, (∃ i'36 : Int, ((((Array.size #[(Go.Value.string s'21), (Go.Value.slice p'22 n'23 n'24), (Go.Value.slice p'25 n'26 n'27), (Go.Value.slice p'28 n'29 n'30), (Go.Value.slice p'31 n'32 n'33), (Go.Value.int .i64 i'34), (Go.Value.int .i64 i'35), (Go.Value.int .i64 i'36)]) = 8) ∧ (At w0 h'19 (Go.Addr.add a'1 ((Int.toNat x5) * 8)) [(Go.Value.string s'21), (Go.Value.slice p'22 n'23 n'24), (Go.Value.slice p'25 n'26 n'27), (Go.Value.slice p'28 n'29 n'30), (Go.Value.slice p'31 n'32 n'33), (Go.Value.int .i64 i'34), (Go.Value.int .i64 i'35), (Go.Value.int .i64 i'36)])) ∧ (EvC Go.Proofs.Tryd.prog w0 27 #[(Go.Value.agg #[(Go.Value.string s'21), (Go.Value.slice p'22 n'23 n'24), (Go.Value.slice p'25 n'26 n'27), (Go.Value.slice p'28 n'29 n'30), (Go.Value.slice p'31 n'32 n'33), (Go.Value.int .i64 i'34), (Go.Value.int .i64 i'35), (Go.Value.int .i64 i'36)])] (fun x'37 h'38 => (∃ s'39 : ByteArray, ((x'37 = (Go.Value.string s'39)) ∧ (brB (!(Go.Op.bytesLess (ByteArray.toList s'20) (ByteArray.toList s'39))) (K (Go.Value.bool false) h'38) (f26_2 w0 K a0 n0 c0 (Go.IntKind.wrap .i64 (x5 + (1 : Int))) h'38))))) h'19))))))))))))))))))))) h) ∧ (∃ s'40 : ByteArray, (∃ p'41 : Option Go.Addr, (∃ n'42 : Nat, (∃ n'43 : Nat, (∃ p'44 : Option Go.Addr, (∃ n'45 : Nat, (∃ n'46 : Nat, (∃ p'47 : Option Go.Addr, (∃ n'48 : Nat, (∃ n'49 : Nat, (∃ p'50 : Option Go.Addr, (∃ n'51 : Nat, (∃ n'52 : Nat, (∃ i'53 : Int, (∃ i'54 : Int, (∃ i'55 : Int, ((((Array.size #[(Go.Value.string s'40), (Go.Value.slice p'41 n'42 n'43), (Go.Value.slice p'44 n'45 n'46), (Go.Value.slice p'47 n'48 n'49), (Go.Value.slice p'50 n'51 n'52), (Go.Value.int .i64 i'53), (Go.Value.int .i64 i'54), (Go.Value.int .i64 i'55)]) = 8) ∧ (At w0 h (Go.Addr.add a'1 ((Int.toNat x5) * 8)) [(Go.Value.string s'40), (Go.Value.slice p'41 n'42 n'43), (Go.Value.slice p'44 n'45 n'46), (Go.Value.slice p'47 n'48 n'49), (Go.Value.slice p'50 n'51 n'52), (Go.Value.int .i64 i'53), (Go.Value.int .i64 i'54), (Go.Value.int .i64 i'55)])) ∧ (EvC Go.Proofs.Tryd.prog w0 27 #[(Go.Value.agg #[(Go.Value.string s'2), (Go.Value.slice p'3 n'4 n'5), (Go.Value.slice p'6 n'7 n'8), (Go.Value.slice p'9 n'10 n'11), (Go.Value.slice p'12 n'13 n'14), (Go.Value.int .i64 i'15), (Go.Value.int .i64 i'16), (Go.Value.int .i64 i'17)])] (fun x'56 h'57 => (∃ s'58 : ByteArray, ((x'56 = (Go.Value.string s'58)) ∧ (EvC Go.Proofs.Tryd.prog w0 27 #[(Go.Value.agg #[(Go.Value.string s'40), (Go.Value.slice p'41 n'42 n'43), (Go.Value.slice p'44 n'45 n'46), (Go.Value.slice p'47 n'48 n'49), (Go.Value.slice p'50 n'51 n'52), (Go.Value.int .i64 i'53), (Go.Value.int .i64 i'54), (Go.Value.int .i64 i'55)])] (fun x'59 h'60 => (∃ s'61 : ByteArray, ((x'59 = (Go.Value.string s'61)) ∧ (brB (!(Go.Op.bytesLess (ByteArray.toList s'58) (ByteArray.toList s'61))) (K (Go.Value.bool false) h'60) (f26_2 w0 K a0 n0 c0 (Go.IntKind.wrap .i64 (x5 + (1 : Int))) h'60))))) h'57)))) h)))))))))))))))))))))))))))))))))))) ∧ (∃ s'62 : ByteArray, (∃ p'63 : Option Go.Addr, (∃ n'64 : Nat, (∃ n'65 : Nat, (∃ p'66 : Option Go.Addr, (∃ n'67 : Nat, (∃ n'68 : Nat, (∃ p'69 : Option Go.Addr, (∃ n'70 : Nat, (∃ n'71 : Nat, (∃ p'72 : Option Go.Addr, (∃ n'73 : Nat, (∃ n'74 : Nat, (∃ i'75 : Int, (∃ i'76 : Int, (∃ i'77 : Int, ((((Array.size #[(Go.Value.string s'62), (Go.Value.slice p'63 n'64 n'65), (Go.Value.slice p'66 n'67 n'68), (Go.Value.slice p'69 n'70 n'71), (Go.Value.slice p'72 n'73 n'74), (Go.Value.int .i64 i'75), (Go.Value.int .i64 i'76), (Go.Value.int .i64 i'77)]) = 8) ∧ (At w0 h (Go.Addr.add a'1 ((Int.toNat x5) * 8)) [(Go.Value.string s'62), (Go.Value.slice p'63 n'64 n'65), (Go.Value.slice p'66 n'67 n'68), (Go.Value.slice p'69 n'70 n'71), (Go.Value.slice p'72 n'73 n'74), (Go.Value.int .i64 i'75), (Go.Value.int .i64 i'76), (Go.Value.int .i64 i'77)])) ∧ (∃ s'78 : ByteArray, (∃ p'79 : Option Go.Addr, (∃ n'80 : Nat, (∃ n'81 : Nat, (∃ p'82 : Option Go.Addr, (∃ n'83 : Nat, (∃ n'84 : Nat, (∃ p'85 : Option Go.Addr, (∃ n'86 : Nat, (∃ n'87 : Nat, (∃ p'88 : Option Go.Addr, (∃ n'89 : Nat, (∃ n'90 : Nat, (∃ i'91 : Int, (∃ i'92 : Int, (∃ i'93 : Int, ((((Array.size #[(Go.Value.string s'78), (Go.Value.slice p'79 n'80 n'81), (Go.Value.slice p'82 n'83 n'84), (Go.Value.slice p'85 n'86 n'87), (Go.Value.slice p'88 n'89 n'90), (Go.Value.int .i64 i'91), (Go.Value.int .i64 i'92), (Go.Value.int .i64 i'93)]) = 8) ∧ (At w0 h (Go.Addr.add a'0 ((Int.toNat (Go.IntKind.wrap .i64 (x5 - (1 : Int)))) * 8)) [(Go.Value.string s'78), (Go.Value.slice p'79 n'80 n'81), (Go.Value.slice p'82 n'83 n'84), (Go.Value.slice p'85 n'86 n'87), (Go.Value.slice p'88 n'89 n'90), (Go.Value.int .i64 i'91), (Go.Value.int .i64 i'92), (Go.Value.int .i64 i'93)])) ∧ (EvC Go.Proofs.Tryd.prog w0 27 #[(Go.Value.agg #[(Go.Value.string s'78), (Go.Value.slice p'79 n'80 n'81), (Go.Value.slice p'82 n'83 n'84), (Go.Value.slice p'85 n'86 n'87), (Go.Value.slice p'88 n'89 n'90), (Go.Value.int .i64 i'91), (Go.Value.int .i64 i'92), (Go.Value.int .i64 i'93)])] (fun x'94 h'95 => (∃ s'96 : ByteArray, ((x'94 = (Go.Value.string s'96)) ∧ (EvC Go.Proofs.Tryd.prog w0 27 #[(Go.Value.agg #[(Go.Value.string s'62), (Go.Value.slice p'63 n'64 n'65), (Go.Value.slice p'66 n'67 n'68), (Go.Value.slice p'69 n'70 n'71), (Go.Value.slice p'72 n'73 n'74), (Go.Value.int .i64 i'75), (Go.Value.int .i64 i'76), (Go.Value.int .i64 i'77)])] (fun x'97 h'98 => (∃ s'99 : ByteArray, ((x'97 = (Go.Value.string s'99)) ∧ (brB (!(Go.Op.bytesLess (ByteArray.toList s'96) (ByteArray.toList s'99))) (K (Go.Value.bool false) h'98) (f26_2 w0 K a0 n0 c0 (Go.IntKind.wrap .i64 (x5 + (1 : Int))) h'98))))) h'95)))) h)))))))))))))))))))))))))))))))))))))))))))) (K (Go.Value.bool true) h))) :
  f26_2 w0 K a0 n0 c0 x5 h := fun j => LP_intro (P := Go.Proofs.Tryd.prog) (Eq.mp (by kernel_rfl) hv)

theorem f26_go {w0 : World} {K : Value → AH → Prop} (a0 : Option Go.Addr) (n0 : Nat) (c0 : Nat) (h : AH)
  (hv : (f26_2 w0 K a0 n0 c0 (1 : Int) h)) :
  EvC Go.Proofs.Tryd.prog w0 26 ([(.slice a0 n0 c0), (.func (.func 27) #[] #[])]).toArray K h := EvC_intro (P := Go.Proofs.Tryd.prog) f26_J (Eq.mp (by kernel_rfl) hv)
def f45_J : Nat → List Nat × Nat := jOf [(2, [2, 3, 4, 6, 7, 8, 9, 10, 11, 12, 13, 14, 15, 16, 17, 18, 19, 20, 21, 22, 23, 24, 25], 0)]

def f45_2 (w0 : World) (K : Value → AH → Prop) (a0 : Option Go.Addr) (n0 : Nat) (c0 : Nat) (x5 : Int) (h : AH) : Prop :=
  ∀ j : Nat → Value, LPk Go.Proofs.Tryd.prog w0 (EvC Go.Proofs.Tryd.prog w0) f45_J 45 K 2 [.v (.slice a0 n0 c0), .v (.func (Go.Fn.func 46) #[] #[]), .v (j 2), .v (j 3), .v (j 4), .v (.int .i64 x5), .v (j 6), .v (j 7), .v (j 8), .v (j 9), .v (j 10), .v (j 11), .v (j 12), .v (j 13), .v (j 14), .v (j 15), .v (j 16), .v (j 17), .v (j 18), .v (j 19), .v (j 20), .v (j 21), .v (j 22), .v (j 23), .v (j 24), .v (j 25)] [] h

theorem f45_2_in {w0 : World} {K : Value → AH → Prop} (a0 : Option Go.Addr) (n0 : Nat) (c0 : Nat) (x5 : Int) (h : AH)
  (hv : (brB (decide ((x5 < ((n0 : Nat) : Int)))) (∃ a'0 : Go.Addr, ((a0 = (some a'0)) ∧ (((0 : Int) ≤ (Go.IntKind.wrap .i64 (x5 - (1 : Int)))) ∧ (((Go.IntKind.wrap .i64 (x5 - (1 : Int))) < ((n0 : Nat) : Int)) ∧ (∃ a'1 : Go.Addr, ((a0 = (some a'1)) ∧ (((0 : Int) ≤ x5) ∧ ((x5 < ((n0 : Nat) : Int)) ∧ ((∃ s'2 : ByteArray, (∃ i'3 : Int, ((((Array.size #[(Go.Value.string s'2), (Go.Value.int .i64 i'3)]) = 2) ∧ (At w0 h (Go.Addr.add a'0 ((Int.toNat (Go.IntKind.wrap .i64 (x5 - (1 : Int)))) * 2)) [(Go.Value.string s'2), (Go.Value.int .i64 i'3)])) ∧ ((EvC Go.Proofs.Tryd.prog w0 46 #[(Go.Value.agg #[(Go.Value.string s'2), (Go.Value.int .i64 i'3)])] (fun x'4 h'5 => (∃ s'6 : ByteArray, ((x'4 = (Go.Value.string s'6)) ∧ (∃ s'7 : ByteArray, (∃ i'8 : Int, ((((Array.size #[(Go.Value.string s'7), (Go.Value.int .i64 i'8)]) = 2) ∧ (At w0 h'5 (Go.Addr.add a'1 ((Int.toNat x5) * 2)) [(Go.Value.string s'7), (Go.Value.int .i64 i'8)])) ∧ (EvC Go.Proofs.Tryd.prog w0 46 #[(Go.Value.agg #[(Go.Value.string s'7), (Go.Value.int .i64 i'8)])] (fun x'9 h'10 => (∃ s'11 : ByteArray, ((x'9 = (Go.Value.string s'11)) ∧ (brB (!(Go.Op.bytesLess (ByteArray.toList s'6) (ByteArray.toList s'11))) (K (Go.Value.bool false) h'10) (f45_2 w0 K a0 n0 c0 (Go.IntKind.wrap .i64 (x5 + (1 : Int))) h'10))))) h'5))))))) h) ∧ (∃ s'12 : ByteArray, (∃ i'13 : Int, ((((Array.size #[(Go.Value.string s'12), (Go.Value.int .i64 i'13)]) = 2) ∧ (At w0 h (Go.Addr.add a'1 ((Int.toNat x5) * 2)) [(Go.Value.string s'12), (Go.Value.int .i64 i'13)])) ∧ (EvC Go.Proofs.Tryd.prog w0 46 #[(Go.Value.agg #[(Go.Value.string s'2), (Go.Value.int .i64 i'3)])] (fun x'14 h'15 => (∃ s'16 : ByteArray, ((x'14 = (Go.Value.string s'16)) ∧ (EvC Go.Proofs.Tryd.prog w0 46 #[(Go.Value.agg #[(Go.Value.string s'12), (Go.Value.int .i64 i'13)])] (fun x'17 h'18 => (∃ s'19 : ByteArray, ((x'17 = (Go.Value.string s'19)) ∧ (brB (!(Go.Op.bytesLess (ByteArray.toList s'16) (ByteArray.toList s'19))) (K (Go.Value.bool false) h'18) (f45_2 w0 K a0 n0 c0 (Go.IntKind.wrap .i64 (x5 + (1 : Int))) h'18))))) h'15)))) h)))))))) ∧ (∃ s'20 : ByteArray, (∃ i'21 : Int, ((((Array.size #[(Go.Value.string s'20), (Go.Value.int .i64 i'21)]) = 2) ∧ (At w0 h (Go.Addr.add a'1 ((Int.toNat x5) * 2)) [(Go.Value.string s'20), (Go.Value.int .i64 i'21)])) ∧ (∃ s'22 : ByteArray, (∃ i'23 : Int, ((((Array.size #[(Go.Value.string s'22), (Go.Value.int .i64 i'23)]) = 2) ∧ (At w0 h (Go.Addr.add a'0 ((Int.toNat (Go.IntKind.wrap .i64 (x5 - (1 : Int)))) * 2)) [(Go.Value.string s'22), (Go.Value.int .i64 i'23)])) ∧ (EvC Go.Proofs.Tryd.prog w0 46 #[(Go.Value.agg #[(Go.Value.string s'22), (Go.Value.int .i64 i'23)])] (fun x'24 h'25 => (∃ s'26 : ByteArray, ((x'24 = (Go.Value.string s'26)) ∧ (EvC Go.Proofs.Tryd.prog w0 46 #[(Go.Value.agg #[(Go.Value.string s'20), (Go.Value.int .i64 i'21)])] (fun x'27 h'28 => (∃ s'29 : ByteArray, ((x'27 = (Go.Value.string s'29)) ∧ (brB (!(Go.Op.bytesLess (ByteArray.toList s'26) (ByteArray.toList s'29))) (K (Go.Value.bool false) h'28) (f45_2 w0 K a0 n0 c0 (Go.IntKind.wrap .i64 (x5 + (1 : Int))) h'28))))) h'25)))) h)))))))))))))))) (K (Go.Value.bool true) h))) :
  f45_2 w0 K a0 n0 c0 x5 h := fun j => LP_intro (P := Go.Proofs.Tryd.prog) (Eq.mp (by kernel_rfl) hv)

theorem f45_go {w0 : World} {K : Value → AH → Prop} (a0 : Option Go.Addr) (n0 : Nat) (c0 : Nat) (h : AH)
  (hv : (f45_2 w0 K a0 n0 c0 (1 : Int) h)) :
  EvC Go.Proofs.Tryd.prog w0 45 ([(.slice a0 n0 c0), (.func (.func 46) #[] #[])]).toArray K h := EvC_intro (P := Go.Proofs.Tryd.prog) f45_J (Eq.mp (by kernel_rfl) hv)
def f28_J : Nat → List Nat × Nat := jOf []



theorem f28_go {w0 : World} {K : Value → AH → Prop} (x0_0 : ByteArray) (a0_1 : Option Go.Addr) (n0_1 : Nat) (c0_1 : Nat) (x0_2 : Int) (x0_3 : Bool) (x0_4 : Int) (h : AH)
  (hv : (EvC Go.Proofs.Tryd.prog w0 43 #[(Go.Value.string x0_0)] (fun x'0 h'1 => (∃ t'2 : Bool, ((x'0 = (Go.Value.bool t'2)) ∧ (brB t'2 (brB (decide ((((n0_1 : Nat) : Int) ≤ (256 : Int)))) (brB (decide (((0 : Int) ≤ x0_2))) (brB (decide ((x0_2 ≤ (2 : Int)))) (brB (decide (((0 : Int) ≤ x0_4))) (K (Go.Value.bool (decide ((x0_4 ≤ (2199023255552 : Int))))) h'1) (K (Go.Value.bool false) h'1)) (K (Go.Value.bool false) h'1)) (K (Go.Value.bool false) h'1)) (K (Go.Value.bool false) h'1)) (K (Go.Value.bool false) h'1))))) h)) :
  EvC Go.Proofs.Tryd.prog w0 28 ([(.agg #[(.string x0_0), (.slice a0_1 n0_1 c0_1), (.int .i64 x0_2), (.bool x0_3), (.int .i64 x0_4)])]).toArray K h := EvC_intro (P := Go.Proofs.Tryd.prog) f28_J (Eq.mp (by kernel_rfl) hv)
def f56_J : Nat → List Nat × Nat := jOf []



theorem f56_go {w0 : World} {K : Value → AH → Prop} (x0_0 : ByteArray) (a0_1 : Option Go.Addr) (n0_1 : Nat) (c0_1 : Nat) (x0_2 : Int) (x0_3 : Bool) (x0_4 : Int) (h : AH)
  (hv : (EvC Go.Proofs.Tryd.prog w0 76 #[(Go.Value.string x0_0)] (fun x'0 h'1 => (∃ t'2 : Bool, ((x'0 = (Go.Value.bool t'2)) ∧ (brB t'2 (brB (decide ((((n0_1 : Nat) : Int) ≤ (256 : Int)))) (brB (decide (((0 : Int) ≤ x0_2))) (brB (decide ((x0_2 ≤ (2 : Int)))) (brB (decide (((0 : Int) ≤ x0_4))) (K (Go.Value.bool (decide ((x0_4 ≤ (2199023255552 : Int))))) h'1) (K (Go.Value.bool false) h'1)) (K (Go.Value.bool false) h'1)) (K (Go.Value.bool false) h'1)) (K (Go.Value.bool false) h'1)) (K (Go.Value.bool false) h'1))))) h)) :
  EvC Go.Proofs.Tryd.prog w0 56 ([(.agg #[(.string x0_0), (.slice a0_1 n0_1 c0_1), (.int .i64 x0_2), (.bool x0_3), (.int .i64 x0_4)])]).toArray K h := EvC_intro (P := Go.Proofs.Tryd.prog) f56_J (Eq.mp (by kernel_rfl) hv)
def f48_J : Nat → List Nat × Nat := jOf []



theorem f48_go {w0 : World} {K : Value → AH → Prop} (x0 : Int) (h : AH)
  (hv : (brB (decide (((1 : Int) ≤ x0))) (K (Go.Value.bool (decide ((x0 ≤ (65535 : Int))))) h) (K (Go.Value.bool false) h))) :
  EvC Go.Proofs.Tryd.prog w0 48 ([(.int .i64 x0)]).toArray K h := EvC_intro (P := Go.Proofs.Tryd.prog) f48_J (Eq.mp (by kernel_rfl) hv)
/-! ### do texts rise? -/
section
variable {w0 : World} {K : Value → AH → Prop} {h : AH} {B : List (Nat × AB)}
theorem f25_spec {m : MsgM} (hk : K (.string m.topic) h) : EvC Go.Proofs.Tryd.prog w0 25 #[m.agg] K h := f25_go _ _ _ _ _ _ _ _ hk
theorem f27_spec {m : SesM} (hk : K (.string m.client) h) : EvC Go.Proofs.Tryd.prog w0 27 #[m.agg] K h := f27_go _ _ _ _ _ _ _ _ _ _ _ _ _ _ _ _ _ hk
theorem f46_spec {m : WantM} (hk : K (.string m.filter) h) : EvC Go.Proofs.Tryd.prog w0 46 #[.agg #[.string m.filter, .int .i64 m.qos]] K h := f46_go _ _ _ hk
theorem rise_step {α : Type} {lt : α → α → Prop} {l : List α} {i : Nat} {a b : α} (ha : l[i]? = some a) (hb : l[i + 1]? = some b) (hab : lt a b) (hh : ∀ j x y, j + 1 < i + 1 → l[j]? = some x → l[j + 1]? = some y → lt x y) :
    ∀ j x y, j + 1 < i + 2 → l[j]? = some x → l[j + 1]? = some y → lt x y := fun j x y hj hx hy => by
  by_cases e : j = i
  · subst e
    rw [hx] at ha; rw [hy] at hb
    injection ha with ha; injection hb with hb
    subst ha hb; exact hab
  · exact hh j x y (by omega) hx hy
theorem rise_all {α : Type} {lt : α → α → Prop} {l : List α} {i : Nat} (hi : l.length ≤ i) (hh : ∀ j x y, j + 1 < i → l[j]? = some x → l[j + 1]? = some y → lt x y) : Rise lt l := fun j x y hx hy =>
  hh j x y (by have := (List.getElem?_eq_some_iff.1 hy).1; omega) hx hy
theorem f24_spec {a : Option Addr} {c : Nat} {l : List MsgM} (hr : Rd w0 h a (l.flatMap MsgM.cells)) (hl : l.length ≤ 1000000) (hk : ∀ b, (b = true ↔ Rise (fun a b : MsgM => sLt a.topic b.topic) l) → K (.bool b) h) :
    EvC Go.Proofs.Tryd.prog w0 24 #[.slice a l.length c, .func (.func 25) #[] #[]] K h := by
  have loop : ∀ (n i : Nat), i + n = max l.length 1 → 1 ≤ i → (∀ j x y, j + 1 < i → l[j]? = some x → l[j + 1]? = some y → sLt x.topic y.topic) → f24_2 w0 K a l.length c ((i : Nat) : Int) h := fun n => by
    induction n with
    | zero => exact fun i hi h1 hh => f24_2_in _ _ _ _ _ (brB_of (fun z => by have := of_decide_eq_true z; omega) fun _ => hk true ⟨fun _ => rise_all (by omega) hh, fun _ => rfl⟩)
    | succ n ih =>
      intro i hi h1 hh
      obtain ⟨i, rfl⟩ : ∃ k, i = k + 1 := ⟨i - 1, by omega⟩
      have hil : i + 1 < l.length := by omega
      have g0 : l[i]? = some (l[i]'(by omega)) := List.getElem?_eq_getElem _
      have g1 : l[i + 1]? = some l[i + 1] := List.getElem?_eq_getElem hil
      generalize l[i]'(by omega) = x at g0
      generalize l[i + 1] = y at g1
      obtain ⟨ad, had, hat⟩ := rowLoad (enc := MsgM.cells) (k := 5) (fun _ => rfl) (by decide) hr g0
      obtain ⟨bd, hbd, hbt⟩ := rowLoad (enc := MsgM.cells) (k := 5) (fun _ => rfl) (by decide) hr g1
      have e1 : IntKind.i64.wrap (((i + 1 : Nat) : Int) - 1) = ((i : Nat) : Int) := by rw [wrap64 (by omega) (by omega)]; omega
      have nxt : brB (!(Op.bytesLess x.topic.toList y.topic.toList)) (K (.bool false) h) (f24_2 w0 K a l.length c (IntKind.i64.wrap (((i + 1 : Nat) : Int) + 1)) h) :=
        brB_of (fun z => hk false ⟨fun z => by (cases z), fun r => by
          have q : Op.bytesLess x.topic.toList y.topic.toList = true := r i _ _ g0 g1
          rw [q] at z; cases z⟩) fun z => by
        have q : Op.bytesLess x.topic.toList y.topic.toList = true := by simpa using z
        rw [wrapS (by omega)]; exact ih (i + 2) (by omega) (by omega) (rise_step (lt := fun a b : MsgM => sLt a.topic b.topic) g0 g1 q hh)
      refine f24_2_in _ _ _ _ _ (brB_of (fun _ => ?_) fun z => by have := of_decide_eq_false z; omega)
      rw [e1]
      refine ⟨ad, had, by omega, by omega, bd, hbd, by omega, by omega, ?_⟩
      repeat' first
        | exact nxt
        | refine f25_spec (m := x) ?_
        | refine f25_spec (m := y) ?_
        | refine ⟨_, _, _, _, _, _, _, ⟨rfl, hat⟩, ?_⟩
        | refine ⟨_, _, _, _, _, _, _, ⟨rfl, hbt⟩, ?_⟩
        | refine ⟨_, rfl, ?_⟩
        | refine ⟨?_, ?_⟩
  exact f24_go _ _ _ _ (loop (max l.length 1 - 1) 1 (by omega) (by omega) fun j x y hj => by omega)
theorem f26_spec {a : Option Addr} {c : Nat} {l : List SesM} (hr : Rd w0 h a (l.flatMap SesM.cells)) (hl : l.length ≤ 1000000) (hk : ∀ b, (b = true ↔ Rise (fun a b : SesM => sLt a.client b.client) l) → K (.bool b) h) :
    EvC Go.Proofs.Tryd.prog w0 26 #[.slice a l.length c, .func (.func 27) #[] #[]] K h := by
  have loop : ∀ (n i : Nat), i + n = max l.length 1 → 1 ≤ i → (∀ j x y, j + 1 < i → l[j]? = some x → l[j + 1]? = some y → sLt x.client y.client) → f26_2 w0 K a l.length c ((i : Nat) : Int) h := fun n => by
    induction n with
    | zero => exact fun i hi h1 hh => f26_2_in _ _ _ _ _ (brB_of (fun z => by have := of_decide_eq_true z; omega) fun _ => hk true ⟨fun _ => rise_all (by omega) hh, fun _ => rfl⟩)
    | succ n ih =>
      intro i hi h1 hh
      obtain ⟨i, rfl⟩ : ∃ k, i = k + 1 := ⟨i - 1, by omega⟩
      have hil : i + 1 < l.length := by omega
      have g0 : l[i]? = some (l[i]'(by omega)) := List.getElem?_eq_getElem _
      have g1 : l[i + 1]? = some l[i + 1] := List.getElem?_eq_getElem hil
      generalize l[i]'(by omega) = x at g0
      generalize l[i + 1] = y at g1
      obtain ⟨ad, had, hat⟩ := rowLoad (enc := SesM.cells) (k := 8) (fun _ => rfl) (by decide) hr g0
      obtain ⟨bd, hbd, hbt⟩ := rowLoad (enc := SesM.cells) (k := 8) (fun _ => rfl) (by decide) hr g1
      have e1 : IntKind.i64.wrap (((i + 1 : Nat) : Int) - 1) = ((i : Nat) : Int) := by rw [wrap64 (by omega) (by omega)]; omega
      have nxt : brB (!(Op.bytesLess x.client.toList y.client.toList)) (K (.bool false) h) (f26_2 w0 K a l.length c (IntKind.i64.wrap (((i + 1 : Nat) : Int) + 1)) h) :=
        brB_of (fun z => hk false ⟨fun z => by (cases z), fun r => by
          have q : Op.bytesLess x.client.toList y.client.toList = true := r i _ _ g0 g1
          rw [q] at z; cases z⟩) fun z => by
        have q : Op.bytesLess x.client.toList y.client.toList = true := by simpa using z
        rw [wrapS (by omega)]; exact ih (i + 2) (by omega) (by omega) (rise_step (lt := fun a b : SesM => sLt a.client b.client) g0 g1 q hh)
      refine f26_2_in _ _ _ _ _ (brB_of (fun _ => ?_) fun z => by have := of_decide_eq_false z; omega)
      rw [e1]
      refine ⟨ad, had, by omega, by omega, bd, hbd, by omega, by omega, ?_⟩
      repeat' first
        | exact nxt
        | refine f27_spec (m := x) ?_
        | refine f27_spec (m := y) ?_
        | refine ⟨_, _, _, _, _, _, _, _, _, _, _, _, _, _, _, _, ⟨rfl, hat⟩, ?_⟩
        | refine ⟨_, _, _, _, _, _, _, _, _, _, _, _, _, _, _, _, ⟨rfl, hbt⟩, ?_⟩
        | refine ⟨_, rfl, ?_⟩
        | refine ⟨?_, ?_⟩
  exact f26_go _ _ _ _ (loop (max l.length 1 - 1) 1 (by omega) (by omega) fun j x y hj => by omega)
theorem f45_spec {a : Option Addr} {c : Nat} {l : List WantM} (hr : Rd w0 h a (l.flatMap WantM.cells)) (hl : l.length ≤ 1000000) (hk : ∀ b, (b = true ↔ Rise (fun a b : WantM => sLt a.filter b.filter) l) → K (.bool b) h) :
    EvC Go.Proofs.Tryd.prog w0 45 #[.slice a l.length c, .func (.func 46) #[] #[]] K h := by
  have loop : ∀ (n i : Nat), i + n = max l.length 1 → 1 ≤ i → (∀ j x y, j + 1 < i → l[j]? = some x → l[j + 1]? = some y → sLt x.filter y.filter) → f45_2 w0 K a l.length c ((i : Nat) : Int) h := fun n => by
    induction n with
    | zero => exact fun i hi h1 hh => f45_2_in _ _ _ _ _ (brB_of (fun z => by have := of_decide_eq_true z; omega) fun _ => hk true ⟨fun _ => rise_all (by omega) hh, fun _ => rfl⟩)
    | succ n ih =>
      intro i hi h1 hh
      obtain ⟨i, rfl⟩ : ∃ k, i = k + 1 := ⟨i - 1, by omega⟩
      have hil : i + 1 < l.length := by omega
      have g0 : l[i]? = some (l[i]'(by omega)) := List.getElem?_eq_getElem _
      have g1 : l[i + 1]? = some l[i + 1] := List.getElem?_eq_getElem hil
      generalize l[i]'(by omega) = x at g0
      generalize l[i + 1] = y at g1
      obtain ⟨ad, had, hat⟩ := rowLoad (enc := WantM.cells) (k := 2) (fun _ => rfl) (by decide) hr g0
      obtain ⟨bd, hbd, hbt⟩ := rowLoad (enc := WantM.cells) (k := 2) (fun _ => rfl) (by decide) hr g1
      have e1 : IntKind.i64.wrap (((i + 1 : Nat) : Int) - 1) = ((i : Nat) : Int) := by rw [wrap64 (by omega) (by omega)]; omega
      have nxt : brB (!(Op.bytesLess x.filter.toList y.filter.toList)) (K (.bool false) h) (f45_2 w0 K a l.length c (IntKind.i64.wrap (((i + 1 : Nat) : Int) + 1)) h) :=
        brB_of (fun z => hk false ⟨fun z => by (cases z), fun r => by
          have q : Op.bytesLess x.filter.toList y.filter.toList = true := r i _ _ g0 g1
          rw [q] at z; cases z⟩) fun z => by
        have q : Op.bytesLess x.filter.toList y.filter.toList = true := by simpa using z
        rw [wrapS (by omega)]; exact ih (i + 2) (by omega) (by omega) (rise_step (lt := fun a b : WantM => sLt a.filter b.filter) g0 g1 q hh)
      refine f45_2_in _ _ _ _ _ (brB_of (fun _ => ?_) fun z => by have := of_decide_eq_false z; omega)
      rw [e1]
      refine ⟨ad, had, by omega, by omega, bd, hbd, by omega, by omega, ?_⟩
      repeat' first
        | exact nxt
        | refine f46_spec (m := x) ?_
        | refine f46_spec (m := y) ?_
        | refine ⟨_, _, ⟨rfl, hat⟩, ?_⟩
        | refine ⟨_, _, ⟨rfl, hbt⟩, ?_⟩
        | refine ⟨_, rfl, ?_⟩
        | refine ⟨?_, ?_⟩
  exact f45_go _ _ _ _ (loop (max l.length 1 - 1) 1 (by omega) (by omega) fun j x y hj => by omega)
/-- May a message be? -/
theorem f28_spec {m : MsgM} (T : TabOk w0) (w : Own w0 h B) (hk : ∀ b h', (b = true ↔ MayMsg m) → Own w0 h' B → K (.bool b) h') : EvC Go.Proofs.Tryd.prog w0 28 #[m.agg] K h := by
  refine f28_go _ _ _ _ _ _ _ _ (f43_spec T w fun h1 w1 => ⟨_, rfl, ?_⟩)
  have no : ¬ MayMsg m → K (.bool false) h1 := fun hn => hk false h1 ⟨fun z => by (cases z), fun p => absurd p hn⟩ w1
  refine brB_of (fun q1 => brB_of (fun q2 => brB_of (fun q3 => brB_of (fun q4 => brB_of (fun q5 => hk _ h1 ?_ w1) fun q => no fun p => ?_) fun q => no fun p => ?_) fun q => no fun p => ?_) fun q => no fun p => ?_) fun q => no fun p => ?_
  · have h2 := of_decide_eq_true q2
    have h3 := of_decide_eq_true q3
    have h4 := of_decide_eq_true q4
    have h5 := of_decide_eq_true q5
    rw [decide_eq_true_eq]
    exact ⟨fun h6 => ⟨q1, by omega, h3, h4, h5, h6⟩, fun p => p.til2⟩
  · have := of_decide_eq_false q; have := p.til0; omega
  · have := of_decide_eq_false q; have := p.qos2; omega
  · have := of_decide_eq_false q; have := p.qos0; omega
  · have := of_decide_eq_false q; have := p.pay; omega
  · rw [p.topic] at q; cases q
/-- May a message be? -/
theorem f56_spec {m : MsgM} (w : Own w0 h B) (hk : ∀ b h', (b = true ↔ MayMsg m) → Own w0 h' B → K (.bool b) h') : EvC Go.Proofs.Tryd.prog w0 56 #[m.agg] K h := by
  refine f56_go _ _ _ _ _ _ _ _ (f76_spec w fun h1 w1 => ⟨_, rfl, ?_⟩)
  have no : ¬ MayMsg m → K (.bool false) h1 := fun hn => hk false h1 ⟨fun z => by (cases z), fun p => absurd p hn⟩ w1
  refine brB_of (fun q1 => brB_of (fun q2 => brB_of (fun q3 => brB_of (fun q4 => brB_of (fun q5 => hk _ h1 ?_ w1) fun q => no fun p => ?_) fun q => no fun p => ?_) fun q => no fun p => ?_) fun q => no fun p => ?_) fun q => no fun p => ?_
  · have h2 := of_decide_eq_true q2
    have h3 := of_decide_eq_true q3
    have h4 := of_decide_eq_true q4
    have h5 := of_decide_eq_true q5
    rw [decide_eq_true_eq]
    exact ⟨fun h6 => ⟨q1, by omega, h3, h4, h5, h6⟩, fun p => p.til2⟩
  · have := of_decide_eq_false q; have := p.til0; omega
  · have := of_decide_eq_false q; have := p.qos2; omega
  · have := of_decide_eq_false q; have := p.qos0; omega
  · have := of_decide_eq_false q; have := p.pay; omega
  · rw [p.topic] at q; cases q
theorem f48_spec {x : Int} (hk : ∀ b, (b = true ↔ 1 ≤ x ∧ x ≤ 65535) → K (.bool b) h) : EvC Go.Proofs.Tryd.prog w0 48 #[.int .i64 x] K h :=
  f48_go _ _ (brB_of (fun q => hk _ (by
    have := of_decide_eq_true q
    rw [decide_eq_true_eq]; omega)) fun q => hk _ (by have := of_decide_eq_false q; simp; omega))
end
end Go.G.YtilifcggegabfaaDoor
