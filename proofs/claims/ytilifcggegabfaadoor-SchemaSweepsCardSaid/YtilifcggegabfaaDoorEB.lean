/- Messages' bytes; the document's bytes. -/
import Derived.Test.YtilifcggegabfaaDoorEA
import Derived.Test.YtilifcggegabfaaDoorProg
set_option maxRecDepth 100000
namespace Go.G.YtilifcggegabfaaDoor
open Go.RowKit
def f53_J : Nat → List Nat × Nat := jOf []



theorem f53_go {w0 : World} {K : Value → AH → Prop} (a0 : Option Go.Addr) (n0 : Nat) (c0 : Nat) (x1_0 : ByteArray) (a1_1 : Option Go.Addr) (n1_1 : Nat) (c1_1 : Nat) (x1_2 : Int) (x1_3 : Bool) (x1_4 : Int) (h : AH)
  (hv : (brB x1_3 (((App w0 h 1 1 a0 n0 c0 1 [(Go.Value.int .u8 (Go.IntKind.wrap .u8 (((BitVec.toNat ((BitVec.ofInt 8 (Go.IntKind.wrap .u8 x1_2)) ||| (BitVec.ofInt 8 (4 : Int)))) : Nat) : Int)))] (fun a'0 c'1 h'2 => (∀ n'3 : Nat, (((ByteArray.size x1_0) ≤ n'3) → (newB w0 h'2 (Go.G.AB.cells (Go.G.intsOf x1_0) n'3) (fun b'4 h'5 => (EvC Go.Proofs.Tryd.prog w0 75 #[(Go.Value.slice a'0 (n0 + 1) c'1), (Go.Value.slice (some (Go.Addr.mk b'4 0 none)) (ByteArray.size x1_0) n'3)] (fun x'6 h'7 => (∃ p'8 : Option Go.Addr, (∃ n'9 : Nat, (∃ n'10 : Nat, ((x'6 = (Go.Value.slice p'8 n'9 n'10)) ∧ (EvC Go.Proofs.Tryd.prog w0 75 #[(Go.Value.slice p'8 n'9 n'10), (Go.Value.slice a1_1 n1_1 c1_1)] (fun x'11 h'12 => (∃ p'13 : Option Go.Addr, (∃ n'14 : Nat, (∃ n'15 : Nat, ((x'11 = (Go.Value.slice p'13 n'14 n'15)) ∧ (K (Go.Value.slice p'13 n'14 n'15) h'12)))))) h'7)))))) h'5))))))) ∧ (∀ n'16 : Nat, (((ByteArray.size x1_0) ≤ n'16) → (newB w0 h (Go.G.AB.cells (Go.G.intsOf x1_0) n'16) (fun b'17 h'18 => (App w0 h'18 1 1 a0 n0 c0 1 [(Go.Value.int .u8 (Go.IntKind.wrap .u8 (((BitVec.toNat ((BitVec.ofInt 8 (Go.IntKind.wrap .u8 x1_2)) ||| (BitVec.ofInt 8 (4 : Int)))) : Nat) : Int)))] (fun a'19 c'20 h'21 => (EvC Go.Proofs.Tryd.prog w0 75 #[(Go.Value.slice a'19 (n0 + 1) c'20), (Go.Value.slice (some (Go.Addr.mk b'17 0 none)) (ByteArray.size x1_0) n'16)] (fun x'22 h'23 => (∃ p'24 : Option Go.Addr, (∃ n'25 : Nat, (∃ n'26 : Nat, ((x'22 = (Go.Value.slice p'24 n'25 n'26)) ∧ (EvC Go.Proofs.Tryd.prog w0 75 #[(Go.Value.slice p'24 n'25 n'26), (Go.Value.slice a1_1 n1_1 c1_1)] (fun x'27 h'28 => (∃ p'29 : Option Go.Addr, (∃ n'30 : Nat, (∃ n'31 : Nat, ((x'27 = (Go.Value.slice p'29 n'30 n'31)) ∧ (K (Go.Value.slice p'29 n'30 n'31) h'28)))))) h'23)))))) h'21)))))))) ∧ (∀ n'32 : Nat, (((ByteArray.size x1_0) ≤ n'32) → (newB w0 h (Go.G.AB.cells (Go.G.intsOf x1_0) n'32) (fun b'33 h'34 => (App w0 h'34 1 1 a0 n0 c0 1 [(Go.Value.int .u8 (Go.IntKind.wrap .u8 (((BitVec.toNat ((BitVec.ofInt 8 (Go.IntKind.wrap .u8 x1_2)) ||| (BitVec.ofInt 8 (4 : Int)))) : Nat) : Int)))] (fun a'35 c'36 h'37 => (EvC Go.Proofs.Tryd.prog w0 75 #[(Go.Value.slice a'35 (n0 + 1) c'36), (Go.Value.slice (some (Go.Addr.mk b'33 0 none)) (ByteArray.size x1_0) n'32)] (fun x'38 h'39 => (∃ p'40 : Option Go.Addr, (∃ n'41 : Nat, (∃ n'42 : Nat, ((x'38 = (Go.Value.slice p'40 n'41 n'42)) ∧ (EvC Go.Proofs.Tryd.prog w0 75 #[(Go.Value.slice p'40 n'41 n'42), (Go.Value.slice a1_1 n1_1 c1_1)] (fun x'43 h'44 => (∃ p'45 : Option Go.Addr, (∃ n'46 : Nat, (∃ n'47 : Nat, ((x'43 = (Go.Value.slice p'45 n'46 n'47)) ∧ (K (Go.Value.slice p'45 n'46 n'47) h'44)))))) h'39)))))) h'37)))))))) (((App w0 h 1 1 a0 n0 c0 1 [(Go.Value.int .u8 (Go.IntKind.wrap .u8 x1_2))] (fun a'48 c'49 h'50 => (∀ n'51 : Nat, (((ByteArray.size x1_0) ≤ n'51) → (newB w0 h'50 (Go.G.AB.cells (Go.G.intsOf x1_0) n'51) (fun b'52 h'53 => (EvC Go.Proofs.Tryd.prog w0 75 #[(Go.Value.slice a'48 (n0 + 1) c'49), (Go.Value.slice (some (Go.Addr.mk b'52 0 none)) (ByteArray.size x1_0) n'51)] (fun x'54 h'55 => (∃ p'56 : Option Go.Addr, (∃ n'57 : Nat, (∃ n'58 : Nat, ((x'54 = (Go.Value.slice p'56 n'57 n'58)) ∧ (EvC Go.Proofs.Tryd.prog w0 75 #[(Go.Value.slice p'56 n'57 n'58), (Go.Value.slice a1_1 n1_1 c1_1)] (fun x'59 h'60 => (∃ p'61 : Option Go.Addr, (∃ n'62 : Nat, (∃ n'63 : Nat, ((x'59 = (Go.Value.slice p'61 n'62 n'63)) ∧ (K (Go.Value.slice p'61 n'62 n'63) h'60)))))) h'55)))))) h'53))))))) ∧ (∀ n'64 : Nat, (((ByteArray.size x1_0) ≤ n'64) → (newB w0 h (Go.G.AB.cells (Go.G.intsOf x1_0) n'64) (fun b'65 h'66 => (App w0 h'66 1 1 a0 n0 c0 1 [(Go.Value.int .u8 (Go.IntKind.wrap .u8 x1_2))] (fun a'67 c'68 h'69 => (EvC Go.Proofs.Tryd.prog w0 75 #[(Go.Value.slice a'67 (n0 + 1) c'68), (Go.Value.slice (some (Go.Addr.mk b'65 0 none)) (ByteArray.size x1_0) n'64)] (fun x'70 h'71 => (∃ p'72 : Option Go.Addr, (∃ n'73 : Nat, (∃ n'74 : Nat, ((x'70 = (Go.Value.slice p'72 n'73 n'74)) ∧ (EvC Go.Proofs.Tryd.prog w0 75 #[(Go.Value.slice p'72 n'73 n'74), (Go.Value.slice a1_1 n1_1 c1_1)] (fun x'75 h'76 => (∃ p'77 : Option Go.Addr, (∃ n'78 : Nat, (∃ n'79 : Nat, ((x'75 = (Go.Value.slice p'77 n'78 n'79)) ∧ (K (Go.Value.slice p'77 n'78 n'79) h'76)))))) h'71)))))) h'69)))))))) ∧ (∀ n'80 : Nat, (((ByteArray.size x1_0) ≤ n'80) → (newB w0 h (Go.G.AB.cells (Go.G.intsOf x1_0) n'80) (fun b'81 h'82 => (App w0 h'82 1 1 a0 n0 c0 1 [(Go.Value.int .u8 (Go.IntKind.wrap .u8 x1_2))] (fun a'83 c'84 h'85 => (EvC Go.Proofs.Tryd.prog w0 75 #[(Go.Value.slice a'83 (n0 + 1) c'84), (Go.Value.slice (some (Go.Addr.mk b'81 0 none)) (ByteArray.size x1_0) n'80)] (fun x'86 h'87 => (∃ p'88 : Option Go.Addr, (∃ n'89 : Nat, (∃ n'90 : Nat, ((x'86 = (Go.Value.slice p'88 n'89 n'90)) ∧ (EvC Go.Proofs.Tryd.prog w0 75 #[(Go.Value.slice p'88 n'89 n'90), (Go.Value.slice a1_1 n1_1 c1_1)] (fun x'91 h'92 => (∃ p'93 : Option Go.Addr, (∃ n'94 : Nat, (∃ n'95 : Nat, ((x'91 = (Go.Value.slice p'93 n'94 n'95)) ∧ (K (Go.Value.slice p'93 n'94 n'95) h'92)))))) h'87)))))) h'85)))))))))) :
  EvC Go.Proofs.Tryd.prog w0 53 ([(.slice a0 n0 c0), (.agg #[(.string x1_0), (.slice a1_1 n1_1 c1_1), (.int .i64 x1_2), (.bool x1_3), (.int .i64 x1_4)])]).toArray K h := EvC_intro (P := Go.Proofs.Tryd.prog) f53_J (Eq.mp (by kernel_rfl) hv)
def f50_J : Nat → List Nat × Nat := jOf []



theorem f50_go {w0 : World} {K : Value → AH → Prop} (a0 : Option Go.Addr) (n0 : Nat) (c0 : Nat) (x1 : Int) (a2 : Option Go.Addr) (n2 : Nat) (c2 : Nat) (h : AH)
  (hv : (K (Go.Value.agg #[(Go.Value.slice a0 n0 c0), (Go.Value.int .i64 (0 : Int)), (Go.Value.bool false), (Go.Value.int .i64 x1), (Go.Value.slice a2 n2 c2)]) h)) :
  EvC Go.Proofs.Tryd.prog w0 50 ([(.slice a0 n0 c0), (.int .i64 x1), (.slice a2 n2 c2)]).toArray K h := EvC_intro (P := Go.Proofs.Tryd.prog) f50_J (Eq.mp (by kernel_rfl) hv)
def f61_J : Nat → List Nat × Nat := jOf [(1, [2, 3, 4, 5, 6, 7, 8, 9, 10, 11, 12, 13, 14, 15, 16, 17, 18, 19, 20], 0)]

def f61_1 (w0 : World) (K : Value → AH → Prop) (a0 : Option Go.Addr) (n0 : Nat) (c0 : Nat) (x1 : Int) (h : AH) : Prop :=
  ∀ j : Nat → Value, LPk Go.Proofs.Tryd.prog w0 (EvC Go.Proofs.Tryd.prog w0) f61_J 61 K 1 [.v (.slice a0 n0 c0), .v (.int .u64 x1), .v (j 2), .v (j 3), .v (j 4), .v (j 5), .v (j 6), .v (j 7), .v (j 8), .v (j 9), .v (j 10), .v (j 11), .v (j 12), .v (j 13), .v (j 14), .v (j 15), .v (j 16), .v (j 17), .v (j 18), .v (j 19), .v (j 20)] [] h

theorem f61_1_in {w0 : World} {K : Value → AH → Prop} (a0 : Option Go.Addr) (n0 : Nat) (c0 : Nat) (x1 : Int) (h : AH)
  (hv : (brB (decide (((128 : Int) ≤ x1))) (App w0 h 1 1 a0 n0 c0 1 [(Go.Value.int .u8 (Go.IntKind.wrap .u8 (((BitVec.toNat ((BitVec.ofInt 8 (Go.IntKind.wrap .u8 (Go.IntKind.wrap .u64 (((BitVec.toNat ((BitVec.ofInt 64 x1) &&& (BitVec.ofInt 64 (127 : Int)))) : Nat) : Int)))) ||| (BitVec.ofInt 8 (128 : Int)))) : Nat) : Int)))] (fun a'0 c'1 h'2 => (((0 : Int) ≤ (7 : Int)) ∧ (f61_1 w0 K a'0 (n0 + 1) c'1 (Int.fdiv x1 (128 : Int)) h'2)))) (App w0 h 1 1 a0 n0 c0 1 [(Go.Value.int .u8 (Go.IntKind.wrap .u8 x1))] (fun a'3 c'4 h'5 => (K (Go.Value.slice a'3 (n0 + 1) c'4) h'5))))) :
  f61_1 w0 K a0 n0 c0 x1 h := fun j => LP_intro (P := Go.Proofs.Tryd.prog) (Eq.mp (by kernel_rfl) hv)

theorem f61_go {w0 : World} {K : Value → AH → Prop} (a0 : Option Go.Addr) (n0 : Nat) (c0 : Nat) (x1 : Int) (h : AH)
  (hv : (f61_1 w0 K a0 n0 c0 x1 h)) :
  EvC Go.Proofs.Tryd.prog w0 61 ([(.slice a0 n0 c0), (.int .u64 x1)]).toArray K h := EvC_intro (P := Go.Proofs.Tryd.prog) f61_J (Eq.mp (by kernel_rfl) hv)
def f80_J : Nat → List Nat × Nat := jOf []



theorem f80_go {w0 : World} {K : Value → AH → Prop} (a0 : Option Go.Addr) (n0 : Nat) (c0 : Nat) (a1 : Option Go.Addr) (n1 : Nat) (c1 : Nat) (h : AH)
  (hv : (EvC Go.Proofs.Tryd.prog w0 61 #[(Go.Value.slice a0 n0 c0), (Go.Value.int .u64 (Go.IntKind.wrap .u64 ((n1 : Nat) : Int)))] (fun x'0 h'1 => (∃ p'2 : Option Go.Addr, (∃ n'3 : Nat, (∃ n'4 : Nat, ((x'0 = (Go.Value.slice p'2 n'3 n'4)) ∧ (rowsOf w0 h'1 1 a1 n1 (fun ys'5 => (App w0 h'1 1 1 p'2 n'3 n'4 n1 ys'5 (fun a'6 c'7 h'8 => (K (Go.Value.slice a'6 (n'3 + n1) c'7) h'8)))))))))) h)) :
  EvC Go.Proofs.Tryd.prog w0 80 ([(.slice a0 n0 c0), (.slice a1 n1 c1)]).toArray K h := EvC_intro (P := Go.Proofs.Tryd.prog) f80_J (Eq.mp (by kernel_rfl) hv)
def f62_J : Nat → List Nat × Nat := jOf [(2, [1, 2, 3, 4, 5, 6, 10, 11, 12, 13, 14, 15, 16, 17, 18, 19, 20, 21, 22, 23, 24, 25], 0)]

def f62_2 (w0 : World) (K : Value → AH → Prop) (a0 : Option Go.Addr) (n0 : Nat) (c0 : Nat) (a7 : Option Go.Addr) (n7 : Nat) (c7 : Nat) (x8 : Int) (x9 : Int) (h : AH) : Prop :=
  ∀ j : Nat → Value, LPk Go.Proofs.Tryd.prog w0 (EvC Go.Proofs.Tryd.prog w0) f62_J 62 K 2 [.v (.slice a0 n0 c0), .v (j 1), .v (j 2), .v (j 3), .v (j 4), .v (j 5), .v (j 6), .v (.slice a7 n7 c7), .v (.int .i64 x8), .v (.int .i64 x9), .v (j 10), .v (j 11), .v (j 12), .v (j 13), .v (j 14), .v (j 15), .v (j 16), .v (j 17), .v (j 18), .v (j 19), .v (j 20), .v (j 21), .v (j 22), .v (j 23), .v (j 24), .v (j 25)] [] h

theorem f62_2_in {w0 : World} {K : Value → AH → Prop} (a0 : Option Go.Addr) (n0 : Nat) (c0 : Nat) (a7 : Option Go.Addr) (n7 : Nat) (c7 : Nat) (x8 : Int) (x9 : Int) (h : AH)
  (hv : (brB (decide ((x9 < x8))) (∃ a'0 : Go.Addr, ((a7 = (some a'0)) ∧ (((0 : Int) ≤ x9) ∧ ((x9 < ((n7 : Nat) : Int)) ∧ (∃ i'1 : Int, (((Go.G.cellA w0 h (Go.Addr.add a'0 ((Int.toNat x9) * 1))) = (some (Go.Value.int .u8 i'1))) ∧ (App w0 h 1 1 a0 n0 c0 1 [(Go.Value.int .u8 i'1)] (fun a'2 c'3 h'4 => (brB (i'1 == (0 : Int)) (App w0 h'4 1 1 a'2 (n0 + 1) c'3 1 [(Go.Value.int .u8 (255 : Int))] (fun a'5 c'6 h'7 => (f62_2 w0 K a'5 ((n0 + 1) + 1) c'6 a7 n7 c7 x8 (Go.IntKind.wrap .i64 (x9 + (1 : Int))) h'7))) (f62_2 w0 K a'2 (n0 + 1) c'3 a7 n7 c7 x8 (Go.IntKind.wrap .i64 (x9 + (1 : Int))) h'4)))))))))) (App w0 h 1 1 a0 n0 c0 2 [(Go.Value.int .u8 (0 : Int)), (Go.Value.int .u8 (1 : Int))] (fun a'8 c'9 h'10 => (K (Go.Value.slice a'8 (n0 + 2) c'9) h'10))))) :
  f62_2 w0 K a0 n0 c0 a7 n7 c7 x8 x9 h := fun j => LP_intro (P := Go.Proofs.Tryd.prog) (Eq.mp (by kernel_rfl) hv)

theorem f62_go {w0 : World} {K : Value → AH → Prop} (a0 : Option Go.Addr) (n0 : Nat) (c0 : Nat) (a1 : Option Go.Addr) (n1 : Nat) (c1 : Nat) (h : AH)
  (hv : (f62_2 w0 K a0 n0 c0 a1 n1 c1 ((n1 : Nat) : Int) (0 : Int) h)) :
  EvC Go.Proofs.Tryd.prog w0 62 ([(.slice a0 n0 c0), (.slice a1 n1 c1)]).toArray K h := EvC_intro (P := Go.Proofs.Tryd.prog) f62_J (Eq.mp (by kernel_rfl) hv)
def f81_J : Nat → List Nat × Nat := jOf [(2, [3, 4, 5, 6, 7, 8, 9, 10, 11, 12, 14, 15, 16, 17, 18, 19, 20, 21, 22, 23, 24, 25, 26, 27, 28, 29, 30], 0), (3, [3, 4, 5, 6, 7, 8, 9, 10, 11, 12, 13, 14, 15, 16, 17, 18, 19, 20, 21, 22, 23, 24, 25, 26, 27, 28, 29, 30], 0), (4, [2, 3, 4, 5, 6, 8, 9, 10, 11, 12, 13, 14, 15, 16, 17, 18, 19, 20, 21, 22, 23, 24, 25, 26, 27, 28, 29, 30], 0)]

def f81_2 (w0 : World) (K : Value → AH → Prop) (a0 : Option Go.Addr) (n0 : Nat) (c0 : Nat) (x1 : Int) (x2 : Int) (x13 : Bool) (h : AH) : Prop :=
  ∀ j : Nat → Value, LPk Go.Proofs.Tryd.prog w0 (EvC Go.Proofs.Tryd.prog w0) f81_J 81 K 2 [.v (.slice a0 n0 c0), .v (.int .u64 x1), .v (.int .i64 x2), .v (j 3), .v (j 4), .v (j 5), .v (j 6), .v (j 7), .v (j 8), .v (j 9), .v (j 10), .v (j 11), .v (j 12), .v (.bool x13), .v (j 14), .v (j 15), .v (j 16), .v (j 17), .v (j 18), .v (j 19), .v (j 20), .v (j 21), .v (j 22), .v (j 23), .v (j 24), .v (j 25), .v (j 26), .v (j 27), .v (j 28), .v (j 29), .v (j 30)] [] h

def f81_3 (w0 : World) (K : Value → AH → Prop) (a0 : Option Go.Addr) (n0 : Nat) (c0 : Nat) (x1 : Int) (x2 : Int) (h : AH) : Prop :=
  ∀ j : Nat → Value, LPk Go.Proofs.Tryd.prog w0 (EvC Go.Proofs.Tryd.prog w0) f81_J 81 K 3 [.v (.slice a0 n0 c0), .v (.int .u64 x1), .v (.int .i64 x2), .v (j 3), .v (j 4), .v (j 5), .v (j 6), .v (j 7), .v (j 8), .v (j 9), .v (j 10), .v (j 11), .v (j 12), .v (j 13), .v (j 14), .v (j 15), .v (j 16), .v (j 17), .v (j 18), .v (j 19), .v (j 20), .v (j 21), .v (j 22), .v (j 23), .v (j 24), .v (j 25), .v (j 26), .v (j 27), .v (j 28), .v (j 29), .v (j 30)] [] h

def f81_4 (w0 : World) (K : Value → AH → Prop) (a0 : Option Go.Addr) (n0 : Nat) (c0 : Nat) (x1 : Int) (x7 : Int) (h : AH) : Prop :=
  ∀ j : Nat → Value, LPk Go.Proofs.Tryd.prog w0 (EvC Go.Proofs.Tryd.prog w0) f81_J 81 K 4 [.v (.slice a0 n0 c0), .v (.int .u64 x1), .v (j 2), .v (j 3), .v (j 4), .v (j 5), .v (j 6), .v (.int .i64 x7), .v (j 8), .v (j 9), .v (j 10), .v (j 11), .v (j 12), .v (j 13), .v (j 14), .v (j 15), .v (j 16), .v (j 17), .v (j 18), .v (j 19), .v (j 20), .v (j 21), .v (j 22), .v (j 23), .v (j 24), .v (j 25), .v (j 26), .v (j 27), .v (j 28), .v (j 29), .v (j 30)] [] h

theorem f81_2_in {w0 : World} {K : Value → AH → Prop} (a0 : Option Go.Addr) (n0 : Nat) (c0 : Nat) (x1 : Int) (x2 : Int) (x13 : Bool) (h : AH)
  (hv : (brB x13 (K (Go.Value.slice a0 n0 c0) h) (f81_3 w0 K a0 n0 c0 x1 x2 h))) :
  f81_2 w0 K a0 n0 c0 x1 x2 x13 h := fun j => LP_intro (P := Go.Proofs.Tryd.prog) (Eq.mp (by kernel_rfl) hv)

theorem f81_3_in {w0 : World} {K : Value → AH → Prop} (a0 : Option Go.Addr) (n0 : Nat) (c0 : Nat) (x1 : Int) (x2 : Int) (h : AH)
  (hv : (f81_4 w0 K a0 n0 c0 x1 (Go.IntKind.wrap .i64 (x2 - (1 : Int))) h)) :
  f81_3 w0 K a0 n0 c0 x1 x2 h := fun j => LP_intro (P := Go.Proofs.Tryd.prog) (Eq.mp (by kernel_rfl) hv)

theorem f81_4_in {w0 : World} {K : Value → AH → Prop} (a0 : Option Go.Addr) (n0 : Nat) (c0 : Nat) (x1 : Int) (x7 : Int) (h : AH)
  (hv : (brB (decide (((0 : Int) ≤ x7))) (((0 : Int) ≤ (Go.IntKind.wrap .u64 (Go.IntKind.wrap .i64 ((8 : Int) * x7)))) ∧ (App w0 h 1 1 a0 n0 c0 1 [(Go.Value.int .u8 (Go.IntKind.wrap .u8 (Int.fdiv x1 ((2 : Int) ^ (Min.min (Int.toNat (Go.IntKind.wrap .u64 (Go.IntKind.wrap .i64 ((8 : Int) * x7)))) 64)))))] (fun a'0 c'1 h'2 => (f81_4 w0 K a'0 (n0 + 1) c'1 x1 (Go.IntKind.wrap .i64 (x7 - (1 : Int))) h'2)))) (K (Go.Value.slice a0 n0 c0) h))) :
  f81_4 w0 K a0 n0 c0 x1 x7 h := fun j => LP_intro (P := Go.Proofs.Tryd.prog) (Eq.mp (by kernel_rfl) hv)

theorem f81_go {w0 : World} {K : Value → AH → Prop} (a0 : Option Go.Addr) (n0 : Nat) (c0 : Nat) (x1 : Int) (x2 : Int) (h : AH)
  (hv : (brB (decide ((x2 < (1 : Int)))) (f81_2 w0 K a0 n0 c0 x1 x2 true h) (f81_2 w0 K a0 n0 c0 x1 x2 (decide (((8 : Int) < x2))) h))) :
  EvC Go.Proofs.Tryd.prog w0 81 ([(.slice a0 n0 c0), (.int .u64 x1), (.int .i64 x2)]).toArray K h := EvC_intro (P := Go.Proofs.Tryd.prog) f81_J (Eq.mp (by kernel_rfl) hv)
def f64_J : Nat → List Nat × Nat := jOf []



theorem f64_go {w0 : World} {K : Value → AH → Prop} (x0 : Int) (x1 : ByteArray) (h : AH)
  (hv : (∀ n'0 : Nat, (((ByteArray.size x1) ≤ n'0) → (newB w0 h (Go.G.AB.cells (Go.G.intsOf x1) n'0) (fun b'1 h'2 => (newB w0 h'2 (Go.G.AB.cells [(Go.Value.int .u8 x0)] (List.length [(Go.Value.int .u8 x0)])) (fun b'3 h'4 => (EvC Go.Proofs.Tryd.prog w0 62 #[(Go.Value.slice (some (Go.Addr.mk b'3 0 none)) 1 1), (Go.Value.slice (some (Go.Addr.mk b'1 0 none)) (ByteArray.size x1) n'0)] (fun x'5 h'6 => (∃ p'7 : Option Go.Addr, (∃ n'8 : Nat, (∃ n'9 : Nat, ((x'5 = (Go.Value.slice p'7 n'8 n'9)) ∧ (K (Go.Value.slice p'7 n'8 n'9) h'6)))))) h'4)))))))) :
  EvC Go.Proofs.Tryd.prog w0 64 ([(.int .u8 x0), (.string x1)]).toArray K h := EvC_intro (P := Go.Proofs.Tryd.prog) f64_J (Eq.mp (by kernel_rfl) hv)
def f65_J : Nat → List Nat × Nat := jOf []



theorem f65_go {w0 : World} {K : Value → AH → Prop} (a0 : Option Go.Addr) (n0 : Nat) (c0 : Nat) (x1 : Int) (h : AH)
  (hv : (EvC Go.Proofs.Tryd.prog w0 81 #[(Go.Value.slice a0 n0 c0), (Go.Value.int .u64 (Go.IntKind.wrap .u64 (((BitVec.toNat ((BitVec.ofInt 64 (Go.IntKind.wrap .u64 x1)) ^^^ (BitVec.ofInt 64 (9223372036854775808 : Int)))) : Nat) : Int))), (Go.Value.int .i64 (8 : Int))] (fun x'0 h'1 => (∃ p'2 : Option Go.Addr, (∃ n'3 : Nat, (∃ n'4 : Nat, ((x'0 = (Go.Value.slice p'2 n'3 n'4)) ∧ (K (Go.Value.slice p'2 n'3 n'4) h'1)))))) h)) :
  EvC Go.Proofs.Tryd.prog w0 65 ([(.slice a0 n0 c0), (.int .i64 x1)]).toArray K h := EvC_intro (P := Go.Proofs.Tryd.prog) f65_J (Eq.mp (by kernel_rfl) hv)
def f63_J : Nat → List Nat × Nat := jOf []



theorem f63_go {w0 : World} {K : Value → AH → Prop} (a0 : Option Go.Addr) (n0 : Nat) (c0 : Nat) (x1_0 : ByteArray) (a1_1 : Option Go.Addr) (n1_1 : Nat) (c1_1 : Nat) (x1_2 : Int) (x1_3 : Bool) (x1_4 : Int) (h : AH)
  (hv : (brB x1_3 (((App w0 h 1 1 a0 n0 c0 1 [(Go.Value.int .u8 (Go.IntKind.wrap .u8 ((Go.IntKind.wrap .u8 x1_2) + (4 : Int))))] (fun a'0 c'1 h'2 => (∀ n'3 : Nat, (((ByteArray.size x1_0) ≤ n'3) → (newB w0 h'2 (Go.G.AB.cells (Go.G.intsOf x1_0) n'3) (fun b'4 h'5 => (EvC Go.Proofs.Tryd.prog w0 80 #[(Go.Value.slice a'0 (n0 + 1) c'1), (Go.Value.slice (some (Go.Addr.mk b'4 0 none)) (ByteArray.size x1_0) n'3)] (fun x'6 h'7 => (∃ p'8 : Option Go.Addr, (∃ n'9 : Nat, (∃ n'10 : Nat, ((x'6 = (Go.Value.slice p'8 n'9 n'10)) ∧ (EvC Go.Proofs.Tryd.prog w0 80 #[(Go.Value.slice p'8 n'9 n'10), (Go.Value.slice a1_1 n1_1 c1_1)] (fun x'11 h'12 => (∃ p'13 : Option Go.Addr, (∃ n'14 : Nat, (∃ n'15 : Nat, ((x'11 = (Go.Value.slice p'13 n'14 n'15)) ∧ (K (Go.Value.slice p'13 n'14 n'15) h'12)))))) h'7)))))) h'5))))))) ∧ (∀ n'16 : Nat, (((ByteArray.size x1_0) ≤ n'16) → (newB w0 h (Go.G.AB.cells (Go.G.intsOf x1_0) n'16) (fun b'17 h'18 => (App w0 h'18 1 1 a0 n0 c0 1 [(Go.Value.int .u8 (Go.IntKind.wrap .u8 ((Go.IntKind.wrap .u8 x1_2) + (4 : Int))))] (fun a'19 c'20 h'21 => (EvC Go.Proofs.Tryd.prog w0 80 #[(Go.Value.slice a'19 (n0 + 1) c'20), (Go.Value.slice (some (Go.Addr.mk b'17 0 none)) (ByteArray.size x1_0) n'16)] (fun x'22 h'23 => (∃ p'24 : Option Go.Addr, (∃ n'25 : Nat, (∃ n'26 : Nat, ((x'22 = (Go.Value.slice p'24 n'25 n'26)) ∧ (EvC Go.Proofs.Tryd.prog w0 80 #[(Go.Value.slice p'24 n'25 n'26), (Go.Value.slice a1_1 n1_1 c1_1)] (fun x'27 h'28 => (∃ p'29 : Option Go.Addr, (∃ n'30 : Nat, (∃ n'31 : Nat, ((x'27 = (Go.Value.slice p'29 n'30 n'31)) ∧ (K (Go.Value.slice p'29 n'30 n'31) h'28)))))) h'23)))))) h'21)))))))) ∧ (∀ n'32 : Nat, (((ByteArray.size x1_0) ≤ n'32) → (newB w0 h (Go.G.AB.cells (Go.G.intsOf x1_0) n'32) (fun b'33 h'34 => (App w0 h'34 1 1 a0 n0 c0 1 [(Go.Value.int .u8 (Go.IntKind.wrap .u8 ((Go.IntKind.wrap .u8 x1_2) + (4 : Int))))] (fun a'35 c'36 h'37 => (EvC Go.Proofs.Tryd.prog w0 80 #[(Go.Value.slice a'35 (n0 + 1) c'36), (Go.Value.slice (some (Go.Addr.mk b'33 0 none)) (ByteArray.size x1_0) n'32)] (fun x'38 h'39 => (∃ p'40 : Option Go.Addr, (∃ n'41 : Nat, (∃ n'42 : Nat, ((x'38 = (Go.Value.slice p'40 n'41 n'42)) ∧ (EvC Go.Proofs.Tryd.prog w0 80 #[(Go.Value.slice p'40 n'41 n'42), (Go.Value.slice a1_1 n1_1 c1_1)] (fun x'43 h'44 => (∃ p'45 : Option Go.Addr, (∃ n'46 : Nat, (∃ n'47 : Nat, ((x'43 = (Go.Value.slice p'45 n'46 n'47)) ∧ (K (Go.Value.slice p'45 n'46 n'47) h'44)))))) h'39)))))) h'37)))))))) (((App w0 h 1 1 a0 n0 c0 1 [(Go.Value.int .u8 (Go.IntKind.wrap .u8 x1_2))] (fun a'48 c'49 h'50 => (∀ n'51 : Nat, (((ByteArray.size x1_0) ≤ n'51) → (newB w0 h'50 (Go.G.AB.cells (Go.G.intsOf x1_0) n'51) (fun b'52 h'53 => (EvC Go.Proofs.Tryd.prog w0 80 #[(Go.Value.slice a'48 (n0 + 1) c'49), (Go.Value.slice (some (Go.Addr.mk b'52 0 none)) (ByteArray.size x1_0) n'51)] (fun x'54 h'55 => (∃ p'56 : Option Go.Addr, (∃ n'57 : Nat, (∃ n'58 : Nat, ((x'54 = (Go.Value.slice p'56 n'57 n'58)) ∧ (EvC Go.Proofs.Tryd.prog w0 80 #[(Go.Value.slice p'56 n'57 n'58), (Go.Value.slice a1_1 n1_1 c1_1)] (fun x'59 h'60 => (∃ p'61 : Option Go.Addr, (∃ n'62 : Nat, (∃ n'63 : Nat, ((x'59 = (Go.Value.slice p'61 n'62 n'63)) ∧ (K (Go.Value.slice p'61 n'62 n'63) h'60)))))) h'55)))))) h'53))))))) ∧ (∀ n'64 : Nat, (((ByteArray.size x1_0) ≤ n'64) → (newB w0 h (Go.G.AB.cells (Go.G.intsOf x1_0) n'64) (fun b'65 h'66 => (App w0 h'66 1 1 a0 n0 c0 1 [(Go.Value.int .u8 (Go.IntKind.wrap .u8 x1_2))] (fun a'67 c'68 h'69 => (EvC Go.Proofs.Tryd.prog w0 80 #[(Go.Value.slice a'67 (n0 + 1) c'68), (Go.Value.slice (some (Go.Addr.mk b'65 0 none)) (ByteArray.size x1_0) n'64)] (fun x'70 h'71 => (∃ p'72 : Option Go.Addr, (∃ n'73 : Nat, (∃ n'74 : Nat, ((x'70 = (Go.Value.slice p'72 n'73 n'74)) ∧ (EvC Go.Proofs.Tryd.prog w0 80 #[(Go.Value.slice p'72 n'73 n'74), (Go.Value.slice a1_1 n1_1 c1_1)] (fun x'75 h'76 => (∃ p'77 : Option Go.Addr, (∃ n'78 : Nat, (∃ n'79 : Nat, ((x'75 = (Go.Value.slice p'77 n'78 n'79)) ∧ (K (Go.Value.slice p'77 n'78 n'79) h'76)))))) h'71)))))) h'69)))))))) ∧ (∀ n'80 : Nat, (((ByteArray.size x1_0) ≤ n'80) → (newB w0 h (Go.G.AB.cells (Go.G.intsOf x1_0) n'80) (fun b'81 h'82 => (App w0 h'82 1 1 a0 n0 c0 1 [(Go.Value.int .u8 (Go.IntKind.wrap .u8 x1_2))] (fun a'83 c'84 h'85 => (EvC Go.Proofs.Tryd.prog w0 80 #[(Go.Value.slice a'83 (n0 + 1) c'84), (Go.Value.slice (some (Go.Addr.mk b'81 0 none)) (ByteArray.size x1_0) n'80)] (fun x'86 h'87 => (∃ p'88 : Option Go.Addr, (∃ n'89 : Nat, (∃ n'90 : Nat, ((x'86 = (Go.Value.slice p'88 n'89 n'90)) ∧ (EvC Go.Proofs.Tryd.prog w0 80 #[(Go.Value.slice p'88 n'89 n'90), (Go.Value.slice a1_1 n1_1 c1_1)] (fun x'91 h'92 => (∃ p'93 : Option Go.Addr, (∃ n'94 : Nat, (∃ n'95 : Nat, ((x'91 = (Go.Value.slice p'93 n'94 n'95)) ∧ (K (Go.Value.slice p'93 n'94 n'95) h'92)))))) h'87)))))) h'85)))))))))) :
  EvC Go.Proofs.Tryd.prog w0 63 ([(.slice a0 n0 c0), (.agg #[(.string x1_0), (.slice a1_1 n1_1 c1_1), (.int .i64 x1_2), (.bool x1_3), (.int .i64 x1_4)])]).toArray K h := EvC_intro (P := Go.Proofs.Tryd.prog) f63_J (Eq.mp (by kernel_rfl) hv)
/-! ### messages' bytes; the document's bytes -/
section
variable {w0 : World} {K : Value → AH → Prop} {h : AH} {B : List (Nat × AB)}
theorem f53_tail {m : MsgM} {a : Option Addr} {c b cap : Nat} {l : List UInt8} (v : SlV 1 a l.length c (u8s l)) (w : Own w0 h ((b, .cells (intsOf m.topic) cap) :: (slB a (u8s l) (c * 1) ++ B))) (hcap : m.topic.size ≤ cap) (hl : l.length ≤ 1000000) (hm : MayMsg m) (ht : m.topic.size ≤ 1000000)
    (hP : ∀ h' D, Own w0 h' (D ++ B) → Rd w0 h' m.pa (u8s m.pay))
    (hk : ∀ h' a' c' r, r = l ++ (putV m.topic.size ++ m.topic.data.toList ++ (putV m.pay.length ++ m.pay)) → SlV 1 a' r.length c' (u8s r) → Own w0 h' (slB a' (u8s r) (c' * 1) ++ B) → K (.slice a' r.length c') h') :
    EvC Go.Proofs.Tryd.prog w0 75 #[.slice a l.length c, .slice (some ⟨b, 0, none⟩) m.topic.size cap] (fun x h' => ∃ (p : Option Addr) (n d : Nat), x = .slice p n d ∧ EvC Go.Proofs.Tryd.prog w0 75 #[.slice p n d, .slice m.pa m.pay.length m.pc] (fun x h' => ∃ (p : Option Addr) (n d : Nat), x = .slice p n d ∧ K (.slice p n d) h') h') h := by
  have hp := hm.pay
  have p1 := putV_len10 (n := m.topic.data.toList.length) (by rw [slen]; omega)
  have rd0 : Rd w0 h a (u8s l) := v.rd (cs := [(b, .cells (intsOf m.topic) cap)]) w
  have sl := slen m.topic
  rw [← sl]
  refine f75_spec (x := m.topic.data.toList) w rd0 (fun h' w' => lit_rd w' hcap) (by omega) (by omega) fun h1 a1 c1 v1 w1 => ⟨_, _, _, rfl, ?_⟩
  refine f75_spec (x := m.pay) w1 (v1.rd (cs := []) w1) (fun h' w' => hP h' (slB a1 (u8s (l ++ (putV m.topic.data.toList.length ++ m.topic.data.toList))) (c1 * 1) ++ ((b, .cells (intsOf m.topic) cap) :: slB a (u8s l) (c * 1))) (by simpa only [List.append_eq, List.append_assoc, List.cons_append] using w')) (by simp only [List.length_append]; omega) (by omega) fun h2 a2 c2 v2 w2 => ⟨_, _, _, rfl, hk h2 a2 c2 _ (by rw [sl]; simp [List.append_assoc]) v2 ?_⟩
  exact Own.cut (ds := slB a1 (u8s (l ++ (putV m.topic.data.toList.length ++ m.topic.data.toList))) (c1 * 1) ++ ((b, .cells (intsOf m.topic) cap) :: slB a (u8s l) (c * 1))) (by simpa only [List.append_eq, List.append_assoc, List.cons_append] using w2)
theorem f53_spec {m : MsgM} {a : Option Addr} {c : Nat} {l : List UInt8} (v : SlV 1 a l.length c (u8s l)) (w : Own w0 h (slB a (u8s l) (c * 1) ++ B)) (hl : l.length ≤ 100000) (hm : MayMsg m) (ht : m.topic.size ≤ 1000000)
    (hP : ∀ h' D, Own w0 h' (D ++ B) → Rd w0 h' m.pa (u8s m.pay))
    (hk : ∀ h' a' c', SlV 1 a' (l ++ msgL m).length c' (u8s (l ++ msgL m)) → Own w0 h' (slB a' (u8s (l ++ msgL m)) (c' * 1) ++ B) → K (.slice a' (l ++ msgL m).length c') h') :
    EvC Go.Proofs.Tryd.prog w0 53 #[.slice a l.length c, m.agg] K h := by
  have q0 := hm.qos0
  have q2 := hm.qos2
  have fin : ∀ (a' : Option Addr) (c' : Nat) (h' : AH) (b cap : Nat) (y : UInt8), y = UInt8.ofNat (m.qos.toNat + if m.ret then 4 else 0) → SlV 1 a' (l ++ [y]).length c' (u8s (l ++ [y])) → m.topic.size ≤ cap → Own w0 h' ((b, .cells (intsOf m.topic) cap) :: (slB a' (u8s (l ++ [y])) (c' * 1) ++ B)) →
      EvC Go.Proofs.Tryd.prog w0 75 #[.slice a' (l.length + 1) c', .slice (some ⟨b, 0, none⟩) m.topic.size cap] (fun x h' => ∃ (p : Option Addr) (n d : Nat), x = .slice p n d ∧ EvC Go.Proofs.Tryd.prog w0 75 #[.slice p n d, .slice m.pa m.pay.length m.pc] (fun x h' => ∃ (p : Option Addr) (n d : Nat), x = .slice p n d ∧ K (.slice p n d) h') h') h' := fun a' c' h' b cap y hy v' hcap w' => by
    rw [show l.length + 1 = (l ++ [y]).length by simp]
    refine f53_tail v' w' hcap (by simp; omega) hm ht hP fun h2 a2 c2 r hr v2 w2 => ?_
    have e : r = l ++ msgL m := by rw [hr, hy]; simp [msgL]
    subst e
    exact hk h2 a2 c2 v2 w2
  refine f53_go _ _ _ _ _ _ _ _ _ _ _ (brB_of (fun z => ?_) fun z => ?_)
  · rw [qos_or q0 q2]
    repeat' (with_reducible apply And.intro)
    all_goals first
      | (intro cap hcap b hb hbn
         have w1 := w.new hb hbn (o := .cells (intsOf m.topic) cap)
         refine App_byte (B := (b, .cells (intsOf m.topic) cap) :: B) v (Own.front (cs := [(b, .cells (intsOf m.topic) cap)]) w1) (by omega) (by omega) fun a' c' h' v' w' => ?_
         exact fin a' c' _ b cap _ (by rw [z]; rfl) v' hcap (Own.front (ds := [(b, .cells (intsOf m.topic) cap)]) w'))
      | (refine App_byte v w (by omega) (by omega) fun a' c' h' v' w' cap hcap b hb hbn => ?_
         exact fin a' c' _ b cap _ (by rw [z]; rfl) v' hcap (w'.new hb hbn (o := .cells (intsOf m.topic) cap)))
  · rw [qos_no q0 q2]
    repeat' (with_reducible apply And.intro)
    all_goals first
      | (intro cap hcap b hb hbn
         have w1 := w.new hb hbn (o := .cells (intsOf m.topic) cap)
         refine App_byte (B := (b, .cells (intsOf m.topic) cap) :: B) v (Own.front (cs := [(b, .cells (intsOf m.topic) cap)]) w1) (by omega) (by omega) fun a' c' h' v' w' => ?_
         exact fin a' c' _ b cap _ (by rw [z]; rfl) v' hcap (Own.front (ds := [(b, .cells (intsOf m.topic) cap)]) w'))
      | (refine App_byte v w (by omega) (by omega) fun a' c' h' v' w' cap hcap b hb hbn => ?_
         exact fin a' c' _ b cap _ (by rw [z]; rfl) v' hcap (w'.new hb hbn (o := .cells (intsOf m.topic) cap)))
theorem f50_spec {a b : Option Addr} {n c m d : Nat} {t : Int} (hk : K (.agg #[.slice a n c, .int .i64 0, .bool false, .int .i64 t, .slice b m d]) h) : EvC Go.Proofs.Tryd.prog w0 50 #[.slice a n c, .int .i64 t, .slice b m d] K h := f50_go _ _ _ _ _ _ _ _ hk
/-! the document's -/
theorem or128' (n : Nat) (hn : n < 18446744073709551616) : IntKind.u8.wrap (((BitVec.toNat ((BitVec.ofInt 8 (IntKind.u8.wrap (IntKind.u64.wrap (((BitVec.toNat ((BitVec.ofInt 64 ((n : Nat) : Int)) &&& (BitVec.ofInt 64 (127 : Int)))) : Nat) : Int)))) ||| (BitVec.ofInt 8 (128 : Int)))) : Nat) : Int) = ((n % 128 + 128 : Nat) : Int) := by
  have e : BitVec.toNat ((BitVec.ofInt 64 ((n : Nat) : Int)) &&& (BitVec.ofInt 64 (127 : Int))) = n % 128 := by
    rw [ofInt_nat, BitVec.toNat_and, BitVec.toNat_ofNat, Nat.mod_eq_of_lt (by omega), show (BitVec.ofInt 64 (127 : Int)).toNat = 2 ^ 7 - 1 by decide, Nat.and_two_pow_sub_one_eq_mod]
  rw [e, wrap64u (by omega) (by omega), or128, Nat.mod_mod]
theorem putR_more : ∀ (k n : Nat), n < 128 ^ (k + 1) → n < 18446744073709551616 → ∀ (a : Option Addr) (c : Nat) (h : AH) (l : List UInt8), SlV 1 a l.length c (u8s l) → Own w0 h (slB a (u8s l) (c * 1) ++ B) → l.length + k ≤ 1000000000000 →
    (∀ h' a' c', SlV 1 a' (l ++ putV n).length c' (u8s (l ++ putV n)) → Own w0 h' (slB a' (u8s (l ++ putV n)) (c' * 1) ++ B) → K (.slice a' (l ++ putV n).length c') h') →
    f61_1 w0 K a l.length c ((n : Nat) : Int) h
  | k, n, hn, h64, a, c, h, l, v, w, hl, hk => by
    refine f61_1_in _ _ _ _ _ (brB_of (fun q => ?_) fun q => ?_)
    · have q' : ¬ n < 128 := by have := of_decide_eq_true q; omega
      rw [or128' n h64]
      refine App_byte v w (by omega) (by omega) fun a' c' h' v' w' => ⟨by decide, ?_⟩
      rw [fdiv128]
      match k, hn with
      | 0, hn => simp at hn; omega
      | k + 1, hn =>
        rw [show l.length + 1 = (l ++ [UInt8.ofNat (n % 128 + 128)]).length by simp]
        refine putR_more k (n / 128) (by rw [Nat.pow_succ] at hn; omega) (by omega) a' c' h' _ v' w' (by simp; omega) fun h2 a2 c2 v2 w2 => ?_
        have e : l ++ [UInt8.ofNat (n % 128 + 128)] ++ putV (n / 128) = l ++ putV n := by rw [putV_step q']; simp
        rw [e] at v2 w2 ⊢
        exact hk h2 a2 c2 v2 w2
    · have q' : n < 128 := by have := of_decide_eq_false q; omega
      rw [wrap8, Nat.mod_eq_of_lt (by omega)]
      refine App_byte v w (by omega) (by omega) fun a' c' h' v' w' => ?_
      have e : l ++ [UInt8.ofNat n] = l ++ putV n := by rw [putV_small q']
      rw [e] at v' w'
      have := hk h' a' c' v' w'
      rw [show (l ++ putV n).length = l.length + 1 by rw [putV_small q']; simp] at this
      exact this
/-- Put. -/
theorem f61_spec {a : Option Addr} {c n : Nat} {l : List UInt8} (v : SlV 1 a l.length c (u8s l)) (w : Own w0 h (slB a (u8s l) (c * 1) ++ B)) (hl : l.length ≤ 100000000000) (hn : n < 18446744073709551616)
    (hk : ∀ h' a' c', SlV 1 a' (l ++ putV n).length c' (u8s (l ++ putV n)) → Own w0 h' (slB a' (u8s (l ++ putV n)) (c' * 1) ++ B) → K (.slice a' (l ++ putV n).length c') h') :
    EvC Go.Proofs.Tryd.prog w0 61 #[.slice a l.length c, .int .u64 ((n : Nat) : Int)] K h :=
  f61_go _ _ _ _ _ (putR_more 9 n (by omega) hn a c h l v w (by omega) hk)
/-- PutBytes. -/
theorem f80_spec {a b : Option Addr} {c d : Nat} {l x : List UInt8} (v : SlV 1 a l.length c (u8s l)) (w : Own w0 h (slB a (u8s l) (c * 1) ++ B)) (hx : ∀ h' D, Own w0 h' (D ++ B) → Rd w0 h' b (u8s x)) (hl : l.length ≤ 10000000000) (hxl : x.length ≤ 10000000000)
    (hk : ∀ h' a' c', SlV 1 a' (l ++ (putV x.length ++ x)).length c' (u8s (l ++ (putV x.length ++ x))) → Own w0 h' (slB a' (u8s (l ++ (putV x.length ++ x))) (c' * 1) ++ B) → K (.slice a' (l ++ (putV x.length ++ x)).length c') h') :
    EvC Go.Proofs.Tryd.prog w0 80 #[.slice a l.length c, .slice b x.length d] K h := by
  refine f80_go _ _ _ _ _ _ _ ?_
  rw [wrap64u (by omega) (by omega)]
  have hp := putV_len10 (n := x.length) (by omega)
  refine f61_spec v w (by omega) (by omega) fun h1 a1 c1 v1 w1 => ⟨_, _, _, rfl, rowsOf_of (hx h1 _ w1) (by rw [u8s_length, Nat.mul_one]) (App_bytes v1 w1 (by rw [List.length_append]; omega) fun a2 c2 h2 v2 w2 => ?_)⟩
  rw [List.append_assoc] at v2 w2
  have := hk h2 a2 c2 v2 w2
  rw [← List.append_assoc, List.length_append] at this
  exact this
end
theorem f62_loop {w0 : World} {K : Value → AH → Prop} {B : List (Nat × AB)} {b : Option Addr} {d : Nat} {l x : List UInt8} (hx : ∀ h', Own w0 h' B → Rd w0 h' b (u8s x)) (hl : l.length ≤ 10000000000) (hxl : x.length ≤ 10000000000)
    (hk : ∀ h' a' c', SlV 1 a' (l ++ partE x).length c' (u8s (l ++ partE x)) → Own w0 h' (slB a' (u8s (l ++ partE x)) (c' * 1) ++ B) → K (.slice a' (l ++ partE x).length c') h') :
    ∀ (n i : Nat), i + n = x.length → ∀ (a : Option Addr) (c : Nat) (h : AH) (m : List UInt8), m = l ++ partL (x.take i) → SlV 1 a m.length c (u8s m) → Own w0 h (slB a (u8s m) (c * 1) ++ B) → f62_2 w0 K a m.length c b x.length d ((x.length : Nat) : Int) ((i : Nat) : Int) h := fun n => by
  induction n with
  | zero =>
    intro i hi a c h m hm v w
    rw [List.take_of_length_le (by omega)] at hm
    have pl := partL_len x
    have ml : m.length ≤ 100000000000 := by rw [hm, List.length_append]; omega
    refine f62_2_in _ _ _ _ _ _ _ _ _ (brB_of (fun z => by have := of_decide_eq_true z; omega) fun _ => ?_)
    refine App_bytes (x := [0, 1]) v w (by simp; omega) fun a' c' h' v' w' => ?_
    have e : m ++ [0, 1] = l ++ partE x := by rw [hm, List.append_assoc]; rfl
    rw [show m.length + 2 = (l ++ partE x).length by rw [← e]; simp]
    rw [e] at v' w'
    exact hk h' a' c' v' w'
  | succ n ih =>
    intro i hi a c h m hm v w
    have g1 : x[i]? = some x[i] := List.getElem?_eq_getElem _
    have ht : x.take (i + 1) = x.take i ++ [x[i]] := List.take_succ_eq_append_getElem (by omega)
    generalize x[i] = y at g1 ht
    have pl := partL_len (x.take i)
    have tl := List.length_take_le i x
    have ml : m.length ≤ 100000000000 := by rw [hm, List.length_append]; omega
    obtain ⟨ad, had, hat⟩ := byte_at (hx h w.drop) g1
    refine f62_2_in _ _ _ _ _ _ _ _ _ (brB_of (fun _ => ⟨ad, had, by omega, by omega, _, hat, ?_⟩) fun z => by have := of_decide_eq_false z; omega)
    have hy : y.toNat < 256 := y.toNat_lt
    refine App_byte v w (by omega) hy fun a' c' h' v' w' => ?_
    rw [show UInt8.ofNat y.toNat = y by simp] at v' w'
    rw [wrapS (by omega)]
    refine brB_of (fun z => ?_) fun z => ?_
    · have y0 : y = 0 := by
        have : (y.toNat : Int) = 0 := by simpa using z
        exact UInt8.toNat_inj.1 (by simpa using this)
      rw [show m.length + 1 = (m ++ [y]).length by simp]
      refine App_byte (m := 255) v' w' (by simp; omega) (by decide) fun a2 c2 h2 v2 w2 => ?_
      rw [show (m ++ [y]).length + 1 = (m ++ [y] ++ [UInt8.ofNat 255]).length by simp]
      exact ih (i + 1) (by omega) a2 c2 h2 _ (by rw [ht, partL_app, hm, y0]; simp [partL]) v2 w2
    · have y0 : ¬ y = 0 := fun e => by subst e; simp at z
      rw [show m.length + 1 = (m ++ [y]).length by simp]
      exact ih (i + 1) (by omega) a' c' h' _ (by rw [ht, partL_app, hm]; simp [partL, y0]) v' w'
theorem f81_loop {w0 : World} {K : Value → AH → Prop} {B : List (Nat × AB)} {n : Nat} : ∀ (k : Nat), k ≤ 8 → ∀ (a : Option Addr) (c : Nat) (h : AH) (l : List UInt8), SlV 1 a l.length c (u8s l) → Own w0 h (slB a (u8s l) (c * 1) ++ B) → l.length + k ≤ 100000000000 →
    (∀ h' a' c', SlV 1 a' (l ++ fixedV n k).length c' (u8s (l ++ fixedV n k)) → Own w0 h' (slB a' (u8s (l ++ fixedV n k)) (c' * 1) ++ B) → K (.slice a' (l ++ fixedV n k).length c') h') →
    f81_4 w0 K a l.length c ((n : Nat) : Int) (((k : Nat) : Int) - 1) h
  | 0, _, a, c, h, l, v, w, _, hk => by
    refine f81_4_in _ _ _ _ _ _ (brB_of (fun q => by have := of_decide_eq_true q; omega) fun _ => ?_)
    have := hk h a c (by simpa [fixedV] using v) (by simpa [fixedV] using w)
    simpa [fixedV] using this
  | k + 1, hk8, a, c, h, l, v, w, hl, hk => by
    have e1 : (((k + 1 : Nat) : Int) - 1) = ((k : Nat) : Int) := by omega
    rw [e1]
    refine f81_4_in _ _ _ _ _ _ (brB_of (fun _ => ⟨by rw [wrap64 (by omega) (by omega), wrap64u (by omega) (by omega)]; omega, ?_⟩) fun q => by have := of_decide_eq_false q; omega)
    rw [fixed_byteU (by omega)]
    refine App_byte v w (by omega) (by omega) fun a' c' h' v' w' => ?_
    rw [wrap64 (by omega) (by omega), show l.length + 1 = (l ++ [UInt8.ofNat (n / 256 ^ k % 256)]).length by simp]
    refine f81_loop k (by omega) a' c' h' _ v' w' (by simp; omega) fun h2 a2 c2 v2 w2 => ?_
    have e : l ++ [UInt8.ofNat (n / 256 ^ k % 256)] ++ fixedV n k = l ++ fixedV n (k + 1) := by simp [fixedV]
    rw [e] at v2 w2 ⊢
    exact hk h2 a2 c2 v2 w2
section
variable {w0 : World} {K : Value → AH → Prop} {h : AH} {B : List (Nat × AB)}
/-- Part. -/
theorem f62_spec {a b : Option Addr} {c d : Nat} {l x : List UInt8} (v : SlV 1 a l.length c (u8s l)) (w : Own w0 h (slB a (u8s l) (c * 1) ++ B)) (hx : ∀ h', Own w0 h' B → Rd w0 h' b (u8s x)) (hl : l.length ≤ 10000000000) (hxl : x.length ≤ 10000000000)
    (hk : ∀ h' a' c', SlV 1 a' (l ++ partE x).length c' (u8s (l ++ partE x)) → Own w0 h' (slB a' (u8s (l ++ partE x)) (c' * 1) ++ B) → K (.slice a' (l ++ partE x).length c') h') :
    EvC Go.Proofs.Tryd.prog w0 62 #[.slice a l.length c, .slice b x.length d] K h :=
  f62_go _ _ _ _ _ _ _ (f62_loop hx hl hxl hk x.length 0 (by omega) a c h l (by simp [partL]) v w)
/-- key. -/
theorem f64_spec {k : UInt8} {x : Int} {s : ByteArray} (w : Own w0 h B) (hx : x = ((k.toNat : Nat) : Int)) (hs : s.size ≤ 10000000000)
    (hk : ∀ h' a' c', SlV 1 a' (keyL k s).length c' (u8s (keyL k s)) → Own w0 h' (slB a' (u8s (keyL k s)) (c' * 1) ++ B) → K (.slice a' (keyL k s).length c') h') :
    EvC Go.Proofs.Tryd.prog w0 64 #[.int .u8 x, .string s] K h := by
  subst hx
  refine f64_go _ _ _ fun cap hcap b hb hbn => ?_
  have w1 := w.new hb hbn (o := .cells (intsOf s) cap)
  intro b2 hb2 hbn2
  have w2 := w1.new hb2 hbn2 (o := .cells (u8s [k]) 1)
  rw [← slen s]
  refine f62_spec (l := [k]) (x := s.data.toList) (a := some ⟨b2, 0, none⟩) (c := 1) (B := (b, .cells (intsOf s) cap) :: B) ⟨rfl, Nat.le_refl _, rfl, rfl⟩ w2 (fun h' w' => lit_rd w' hcap) (by simp) (by rw [slen]; omega) fun h' a' c' v' w' => ⟨a', (keyL k s).length, c', rfl, ?_⟩
  exact hk h' a' c' v' (Own.cut (ds := [(b, .cells (intsOf s) cap)]) w')
/-- Number. -/
theorem f65_spec {a : Option Addr} {c : Nat} {x : Int} {l : List UInt8} (v : SlV 1 a l.length c (u8s l)) (w : Own w0 h (slB a (u8s l) (c * 1) ++ B)) (hl : l.length ≤ 10000000000)
    (hk : ∀ h' a' c', SlV 1 a' (l ++ numL x).length c' (u8s (l ++ numL x)) → Own w0 h' (slB a' (u8s (l ++ numL x)) (c' * 1) ++ B) → K (.slice a' (l ++ numL x).length c') h') :
    EvC Go.Proofs.Tryd.prog w0 65 #[.slice a l.length c, .int .i64 x] K h := by
  refine f65_go _ _ _ _ _ ?_
  rw [numU_wrap]
  refine f81_go _ _ _ _ _ _ (brB_of (fun z => by simp at z) fun _ => f81_2_in _ _ _ _ _ _ _ (brB_of (fun z => by simp at z) fun _ => f81_3_in _ _ _ _ _ _ ?_))
  exact f81_loop 8 (by omega) a c h l v w (by omega) fun h' a' c' v' w' => ⟨_, _, _, rfl, hk h' a' c' v' w'⟩
theorem f63_tail {m : MsgM} {a : Option Addr} {c b cap : Nat} {l : List UInt8} (v : SlV 1 a l.length c (u8s l)) (w : Own w0 h ((b, .cells (intsOf m.topic) cap) :: (slB a (u8s l) (c * 1) ++ B))) (hcap : m.topic.size ≤ cap) (hl : l.length ≤ 1000000) (hm : MayMsg m) (ht : m.topic.size ≤ 1000000)
    (hP : ∀ h' D, Own w0 h' (D ++ B) → Rd w0 h' m.pa (u8s m.pay))
    (hk : ∀ h' a' c' r, r = l ++ (putV m.topic.size ++ m.topic.data.toList ++ (putV m.pay.length ++ m.pay)) → SlV 1 a' r.length c' (u8s r) → Own w0 h' (slB a' (u8s r) (c' * 1) ++ B) → K (.slice a' r.length c') h') :
    EvC Go.Proofs.Tryd.prog w0 80 #[.slice a l.length c, .slice (some ⟨b, 0, none⟩) m.topic.size cap] (fun x h' => ∃ (p : Option Addr) (n d : Nat), x = .slice p n d ∧ EvC Go.Proofs.Tryd.prog w0 80 #[.slice p n d, .slice m.pa m.pay.length m.pc] (fun x h' => ∃ (p : Option Addr) (n d : Nat), x = .slice p n d ∧ K (.slice p n d) h') h') h := by
  have hp := hm.pay
  have p1 := putV_len10 (n := m.topic.data.toList.length) (by rw [slen]; omega)
  have sl := slen m.topic
  rw [← sl]
  refine f80_spec (x := m.topic.data.toList) (B := (b, .cells (intsOf m.topic) cap) :: B) v (Own.front (cs := [(b, .cells (intsOf m.topic) cap)]) w) (fun h' D w' => lit_rd (Own.drop w') hcap) (by omega) (by omega) fun h1 a1 c1 v1 w1 => ⟨_, _, _, rfl, ?_⟩
  refine f80_spec (x := m.pay) (B := (b, .cells (intsOf m.topic) cap) :: B) v1 w1 (fun h' D w' => hP h' (D ++ [(b, .cells (intsOf m.topic) cap)]) (by simpa only [List.append_eq, List.append_assoc, List.cons_append, List.nil_append] using w')) (by simp only [List.length_append]; omega) (by omega) fun h2 a2 c2 v2 w2 => ⟨_, _, _, rfl, hk h2 a2 c2 _ (by rw [sl]; simp [List.append_assoc]) v2 ?_⟩
  exact Own.cut (ds := [(b, .cells (intsOf m.topic) cap)]) w2
theorem f63_spec {m : MsgM} {a : Option Addr} {c : Nat} {l : List UInt8} (v : SlV 1 a l.length c (u8s l)) (w : Own w0 h (slB a (u8s l) (c * 1) ++ B)) (hl : l.length ≤ 100000) (hm : MayMsg m) (ht : m.topic.size ≤ 1000000)
    (hP : ∀ h' D, Own w0 h' (D ++ B) → Rd w0 h' m.pa (u8s m.pay))
    (hk : ∀ h' a' c', SlV 1 a' (l ++ msgL m).length c' (u8s (l ++ msgL m)) → Own w0 h' (slB a' (u8s (l ++ msgL m)) (c' * 1) ++ B) → K (.slice a' (l ++ msgL m).length c') h') :
    EvC Go.Proofs.Tryd.prog w0 63 #[.slice a l.length c, m.agg] K h := by
  have q0 := hm.qos0
  have q2 := hm.qos2
  have fin : ∀ (a' : Option Addr) (c' : Nat) (h' : AH) (b cap : Nat) (y : UInt8), y = UInt8.ofNat (m.qos.toNat + if m.ret then 4 else 0) → SlV 1 a' (l ++ [y]).length c' (u8s (l ++ [y])) → m.topic.size ≤ cap → Own w0 h' ((b, .cells (intsOf m.topic) cap) :: (slB a' (u8s (l ++ [y])) (c' * 1) ++ B)) →
      EvC Go.Proofs.Tryd.prog w0 80 #[.slice a' (l.length + 1) c', .slice (some ⟨b, 0, none⟩) m.topic.size cap] (fun x h' => ∃ (p : Option Addr) (n d : Nat), x = .slice p n d ∧ EvC Go.Proofs.Tryd.prog w0 80 #[.slice p n d, .slice m.pa m.pay.length m.pc] (fun x h' => ∃ (p : Option Addr) (n d : Nat), x = .slice p n d ∧ K (.slice p n d) h') h') h' := fun a' c' h' b cap y hy v' hcap w' => by
    rw [show l.length + 1 = (l ++ [y]).length by simp]
    refine f63_tail v' w' hcap (by simp; omega) hm ht hP fun h2 a2 c2 r hr v2 w2 => ?_
    have e : r = l ++ msgL m := by rw [hr, hy]; simp [msgL]
    subst e
    exact hk h2 a2 c2 v2 w2
  refine f63_go _ _ _ _ _ _ _ _ _ _ _ (brB_of (fun z => ?_) fun z => ?_)
  · rw [qos_add q0 q2]
    repeat' (with_reducible apply And.intro)
    all_goals first
      | (intro cap hcap b hb hbn
         have w1 := w.new hb hbn (o := .cells (intsOf m.topic) cap)
         refine App_byte (B := (b, .cells (intsOf m.topic) cap) :: B) v (Own.front (cs := [(b, .cells (intsOf m.topic) cap)]) w1) (by omega) (by omega) fun a' c' h' v' w' => ?_
         exact fin a' c' _ b cap _ (by rw [z]; rfl) v' hcap (Own.front (ds := [(b, .cells (intsOf m.topic) cap)]) w'))
      | (refine App_byte v w (by omega) (by omega) fun a' c' h' v' w' cap hcap b hb hbn => ?_
         exact fin a' c' _ b cap _ (by rw [z]; rfl) v' hcap (w'.new hb hbn (o := .cells (intsOf m.topic) cap)))
  · rw [qos_no q0 q2]
    repeat' (with_reducible apply And.intro)
    all_goals first
      | (intro cap hcap b hb hbn
         have w1 := w.new hb hbn (o := .cells (intsOf m.topic) cap)
         refine App_byte (B := (b, .cells (intsOf m.topic) cap) :: B) v (Own.front (cs := [(b, .cells (intsOf m.topic) cap)]) w1) (by omega) (by omega) fun a' c' h' v' w' => ?_
         exact fin a' c' _ b cap _ (by rw [z]; rfl) v' hcap (Own.front (ds := [(b, .cells (intsOf m.topic) cap)]) w'))
      | (refine App_byte v w (by omega) (by omega) fun a' c' h' v' w' cap hcap b hb hbn => ?_
         exact fin a' c' _ b cap _ (by rw [z]; rfl) v' hcap (w'.new hb hbn (o := .cells (intsOf m.topic) cap)))
end
end Go.G.YtilifcggegabfaaDoor
