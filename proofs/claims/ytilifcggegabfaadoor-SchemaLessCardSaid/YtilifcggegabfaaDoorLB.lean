/- SchemaSweepsOn. -/
import Derived.Test.YtilifcggegabfaaDoorLA
import Derived.Test.YtilifcggegabfaaDoorProg
set_option maxRecDepth 100000
namespace Go.G.YtilifcggegabfaaDoor
open Go.RowKit
def f18_J : Nat → List Nat × Nat := jOf [(2, [0, 1, 2, 3, 4, 5, 9, 10, 11, 12, 13, 14, 15], 0)]

def f18_2 (w0 : World) (K : Value → AH → Prop) (a6 : Option Go.Addr) (n6 : Nat) (c6 : Nat) (x7 : Int) (x8 : Int) (h : AH) : Prop :=
  ∀ j : Nat → Value, LPk Go.Proofs.Tryd.prog w0 (EvC Go.Proofs.Tryd.prog w0) f18_J 18 K 2 [.v (j 0), .v (j 1), .v (j 2), .v (j 3), .v (j 4), .v (j 5), .v (.slice a6 n6 c6), .v (.int .i64 x7), .v (.int .i64 x8), .v (j 9), .v (j 10), .v (j 11), .v (j 12), .v (j 13), .v (j 14), .v (j 15)] [] h

theorem f18_2_in {w0 : World} {K : Value → AH → Prop} (a6 : Option Go.Addr) (n6 : Nat) (c6 : Nat) (x7 : Int) (x8 : Int) (h : AH)
  (hv : (brB (decide ((x8 < x7))) (∃ a'0 : Go.Addr, ((a6 = (some a'0)) ∧ (((0 : Int) ≤ x8) ∧ ((x8 < ((n6 : Nat) : Int)) ∧ (∃ s'1 : ByteArray, (∃ p'2 : Option Go.Addr, (∃ n'3 : Nat, (∃ n'4 : Nat, (∃ p'5 : Option Go.Addr, (∃ n'6 : Nat, (∃ n'7 : Nat, (∃ p'8 : Option Go.Addr, (∃ n'9 : Nat, (∃ n'10 : Nat, (∃ p'11 : Option Go.Addr, (∃ n'12 : Nat, (∃ n'13 : Nat, (∃ i'14 : Int, (∃ i'15 : Int, (∃ i'16 : Int, ((((Array.size #[(Go.Value.string s'1), (Go.Value.slice p'2 n'3 n'4), (Go.Value.slice p'5 n'6 n'7), (Go.Value.slice p'8 n'9 n'10), (Go.Value.slice p'11 n'12 n'13), (Go.Value.int .i64 i'14), (Go.Value.int .i64 i'15), (Go.Value.int .i64 i'16)]) = 8) ∧ (At w0 h (Go.Addr.add a'0 ((Int.toNat x8) * 8)) [(Go.Value.string s'1), (Go.Value.slice p'2 n'3 n'4), (Go.Value.slice p'5 n'6 n'7), (Go.Value.slice p'8 n'9 n'10), (Go.Value.slice p'11 n'12 n'13), (Go.Value.int .i64 i'14), (Go.Value.int .i64 i'15), (Go.Value.int .i64 i'16)])) ∧ (brB (decide (((1152921504606846960 : Int) < i'15))) (K (Go.Value.bool false) h) (f18_2 w0 K a6 n6 c6 x7 (Go.IntKind.wrap .i64 (x8 + (1 : Int))) h))))))))))))))))))))))) (K (Go.Value.bool true) h))) :
  f18_2 w0 K a6 n6 c6 x7 x8 h := fun j => LP_intro (P := Go.Proofs.Tryd.prog) (Eq.mp (by kernel_rfl) hv)

theorem f18_go {w0 : World} {K : Value → AH → Prop} (x0_0 : Int) (a0_1 : Option Go.Addr) (n0_1 : Nat) (c0_1 : Nat) (a0_2 : Option Go.Addr) (n0_2 : Nat) (c0_2 : Nat) (h : AH)
  (hv : (f18_2 w0 K a0_2 n0_2 c0_2 ((n0_2 : Nat) : Int) (0 : Int) h)) :
  EvC Go.Proofs.Tryd.prog w0 18 ([(.agg #[(.int .i64 x0_0), (.slice a0_1 n0_1 c0_1), (.slice a0_2 n0_2 c0_2)])]).toArray K h := EvC_intro (P := Go.Proofs.Tryd.prog) f18_J (Eq.mp (by kernel_rfl) hv)
def f5_J : Nat → List Nat × Nat := jOf [(2, [0, 4, 5, 6, 7, 8, 9, 10, 11, 12, 13, 14, 15, 16, 17, 18, 19, 20, 21, 22, 23, 24, 26, 27, 28, 29, 30, 31, 32, 33, 34, 35, 36, 37, 38, 39, 40, 41, 42, 43, 44, 45, 46, 47, 48, 49, 50, 51, 52, 53, 54, 55, 56, 57, 58, 59, 60, 61, 62, 63, 64, 65, 66, 67, 68, 69, 70, 71, 72, 73, 74, 75, 76, 77, 78, 79, 80], 1), (3, [0, 4, 5, 6, 7, 8, 9, 10, 11, 12, 13, 14, 15, 16, 17, 18, 19, 20, 21, 22, 23, 24, 25, 26, 27, 28, 29, 30, 31, 32, 33, 34, 35, 36, 37, 38, 39, 40, 41, 42, 43, 44, 45, 46, 47, 48, 49, 50, 51, 52, 53, 54, 55, 56, 57, 58, 59, 60, 61, 62, 63, 64, 65, 66, 67, 68, 69, 70, 71, 72, 73, 74, 75, 76, 77, 78, 79, 80], 1), (5, [0, 4, 5, 6, 7, 8, 9, 10, 11, 12, 13, 14, 15, 16, 17, 18, 19, 20, 21, 22, 23, 24, 25, 26, 27, 28, 29, 30, 31, 32, 33, 34, 35, 36, 37, 38, 39, 40, 41, 42, 43, 44, 45, 46, 47, 48, 49, 50, 51, 52, 53, 54, 55, 56, 57, 58, 59, 60, 61, 62, 63, 64, 65, 66, 67, 68, 69, 70, 71, 72, 73, 74, 75, 76, 77, 78, 79, 80], 1)]

def f5_2 (w0 : World) (K : Value → AH → Prop) (x1 : Int) (x2 : Int) (x25 : Bool) (xb0_0 : Int) (ab0_1 : Option Go.Addr) (nb0_1 : Nat) (cb0_1 : Nat) (ab0_2 : Option Go.Addr) (nb0_2 : Nat) (cb0_2 : Nat) (h : AH) : Prop :=
  ∀ j : Nat → Value, LPk Go.Proofs.Tryd.prog w0 (EvC Go.Proofs.Tryd.prog w0) f5_J 5 K 2 [.v (j 0), .v (.int .i64 x1), .v (.int .i64 x2), .bp 0 0, .v (j 4), .v (j 5), .v (j 6), .v (j 7), .v (j 8), .v (j 9), .v (j 10), .v (j 11), .v (j 12), .v (j 13), .v (j 14), .v (j 15), .v (j 16), .v (j 17), .v (j 18), .v (j 19), .v (j 20), .v (j 21), .v (j 22), .v (j 23), .v (j 24), .v (.bool x25), .v (j 26), .v (j 27), .v (j 28), .v (j 29), .v (j 30), .v (j 31), .v (j 32), .v (j 33), .v (j 34), .v (j 35), .v (j 36), .v (j 37), .v (j 38), .v (j 39), .v (j 40), .v (j 41), .v (j 42), .v (j 43), .v (j 44), .v (j 45), .v (j 46), .v (j 47), .v (j 48), .v (j 49), .v (j 50), .v (j 51), .v (j 52), .v (j 53), .v (j 54), .v (j 55), .v (j 56), .v (j 57), .v (j 58), .v (j 59), .v (j 60), .v (j 61), .v (j 62), .v (j 63), .v (j 64), .v (j 65), .v (j 66), .v (j 67), .v (j 68), .v (j 69), .v (j 70), .v (j 71), .v (j 72), .v (j 73), .v (j 74), .v (j 75), .v (j 76), .v (j 77), .v (j 78), .v (j 79), .v (j 80)] [some [(.int .i64 xb0_0), (.slice ab0_1 nb0_1 cb0_1), (.slice ab0_2 nb0_2 cb0_2)]] h

def f5_3 (w0 : World) (K : Value → AH → Prop) (x1 : Int) (x2 : Int) (xb0_0 : Int) (ab0_1 : Option Go.Addr) (nb0_1 : Nat) (cb0_1 : Nat) (ab0_2 : Option Go.Addr) (nb0_2 : Nat) (cb0_2 : Nat) (h : AH) : Prop :=
  ∀ j : Nat → Value, LPk Go.Proofs.Tryd.prog w0 (EvC Go.Proofs.Tryd.prog w0) f5_J 5 K 3 [.v (j 0), .v (.int .i64 x1), .v (.int .i64 x2), .bp 0 0, .v (j 4), .v (j 5), .v (j 6), .v (j 7), .v (j 8), .v (j 9), .v (j 10), .v (j 11), .v (j 12), .v (j 13), .v (j 14), .v (j 15), .v (j 16), .v (j 17), .v (j 18), .v (j 19), .v (j 20), .v (j 21), .v (j 22), .v (j 23), .v (j 24), .v (j 25), .v (j 26), .v (j 27), .v (j 28), .v (j 29), .v (j 30), .v (j 31), .v (j 32), .v (j 33), .v (j 34), .v (j 35), .v (j 36), .v (j 37), .v (j 38), .v (j 39), .v (j 40), .v (j 41), .v (j 42), .v (j 43), .v (j 44), .v (j 45), .v (j 46), .v (j 47), .v (j 48), .v (j 49), .v (j 50), .v (j 51), .v (j 52), .v (j 53), .v (j 54), .v (j 55), .v (j 56), .v (j 57), .v (j 58), .v (j 59), .v (j 60), .v (j 61), .v (j 62), .v (j 63), .v (j 64), .v (j 65), .v (j 66), .v (j 67), .v (j 68), .v (j 69), .v (j 70), .v (j 71), .v (j 72), .v (j 73), .v (j 74), .v (j 75), .v (j 76), .v (j 77), .v (j 78), .v (j 79), .v (j 80)] [some [(.int .i64 xb0_0), (.slice ab0_1 nb0_1 cb0_1), (.slice ab0_2 nb0_2 cb0_2)]] h

def f5_5 (w0 : World) (K : Value → AH → Prop) (x1 : Int) (x2 : Int) (xb0_0 : Int) (ab0_1 : Option Go.Addr) (nb0_1 : Nat) (cb0_1 : Nat) (ab0_2 : Option Go.Addr) (nb0_2 : Nat) (cb0_2 : Nat) (h : AH) : Prop :=
  ∀ j : Nat → Value, LPk Go.Proofs.Tryd.prog w0 (EvC Go.Proofs.Tryd.prog w0) f5_J 5 K 5 [.v (j 0), .v (.int .i64 x1), .v (.int .i64 x2), .bp 0 0, .v (j 4), .v (j 5), .v (j 6), .v (j 7), .v (j 8), .v (j 9), .v (j 10), .v (j 11), .v (j 12), .v (j 13), .v (j 14), .v (j 15), .v (j 16), .v (j 17), .v (j 18), .v (j 19), .v (j 20), .v (j 21), .v (j 22), .v (j 23), .v (j 24), .v (j 25), .v (j 26), .v (j 27), .v (j 28), .v (j 29), .v (j 30), .v (j 31), .v (j 32), .v (j 33), .v (j 34), .v (j 35), .v (j 36), .v (j 37), .v (j 38), .v (j 39), .v (j 40), .v (j 41), .v (j 42), .v (j 43), .v (j 44), .v (j 45), .v (j 46), .v (j 47), .v (j 48), .v (j 49), .v (j 50), .v (j 51), .v (j 52), .v (j 53), .v (j 54), .v (j 55), .v (j 56), .v (j 57), .v (j 58), .v (j 59), .v (j 60), .v (j 61), .v (j 62), .v (j 63), .v (j 64), .v (j 65), .v (j 66), .v (j 67), .v (j 68), .v (j 69), .v (j 70), .v (j 71), .v (j 72), .v (j 73), .v (j 74), .v (j 75), .v (j 76), .v (j 77), .v (j 78), .v (j 79), .v (j 80)] [some [(.int .i64 xb0_0), (.slice ab0_1 nb0_1 cb0_1), (.slice ab0_2 nb0_2 cb0_2)]] h

theorem f5_2_in {w0 : World} {K : Value → AH → Prop} (x1 : Int) (x2 : Int) (x25 : Bool) (xb0_0 : Int) (ab0_1 : Option Go.Addr) (nb0_1 : Nat) (cb0_1 : Nat) (ab0_2 : Option Go.Addr) (nb0_2 : Nat) (cb0_2 : Nat) (h : AH)
  (hv : (brB x25 (EvC Go.Proofs.Tryd.prog w0 12 #[] (fun x'9 h'10 => (∃ t'11 : Bool, ((x'9 = (Go.Value.bool t'11)) ∧ (K (Go.Value.bool t'11) h'10)))) h) (f5_3 w0 K x1 x2 xb0_0 ab0_1 nb0_1 cb0_1 ab0_2 nb0_2 cb0_2 h))) :
  f5_2 w0 K x1 x2 x25 xb0_0 ab0_1 nb0_1 cb0_1 ab0_2 nb0_2 cb0_2 h := fun j => LP_intro (P := Go.Proofs.Tryd.prog) (Eq.mp (by kernel_rfl) hv)

theorem f5_3_in {w0 : World} {K : Value → AH → Prop} (x1 : Int) (x2 : Int) (xb0_0 : Int) (ab0_1 : Option Go.Addr) (nb0_1 : Nat) (cb0_1 : Nat) (ab0_2 : Option Go.Addr) (nb0_2 : Nat) (cb0_2 : Nat) (h : AH)
  (hv : (brB (decide ((x2 < x1))) (f5_5 w0 K x2 x1 xb0_0 ab0_1 nb0_1 cb0_1 ab0_2 nb0_2 cb0_2 h) (f5_5 w0 K x1 x2 xb0_0 ab0_1 nb0_1 cb0_1 ab0_2 nb0_2 cb0_2 h))) :
  f5_3 w0 K x1 x2 xb0_0 ab0_1 nb0_1 cb0_1 ab0_2 nb0_2 cb0_2 h := fun j => LP_intro (P := Go.Proofs.Tryd.prog) (Eq.mp (by kernel_rfl) hv)

theorem f5_5_in {w0 : World} {K : Value → AH → Prop} (x1 : Int) (x2 : Int) (xb0_0 : Int) (ab0_1 : Option Go.Addr) (nb0_1 : Nat) (cb0_1 : Nat) (ab0_2 : Option Go.Addr) (nb0_2 : Nat) (cb0_2 : Nat) (h : AH)
  (hv : (EvC Go.Proofs.Tryd.prog w0 15 #[(Go.Value.agg #[(Go.Value.int .i64 xb0_0), (Go.Value.slice ab0_1 nb0_1 cb0_1), (Go.Value.slice ab0_2 nb0_2 cb0_2)]), (Go.Value.int .i64 x1)] (fun x'12 h'13 => (∃ i'14 : Int, (∃ p'15 : Option Go.Addr, (∃ n'16 : Nat, (∃ n'17 : Nat, (∃ p'18 : Option Go.Addr, (∃ n'19 : Nat, (∃ n'20 : Nat, (∃ i'21 : Int, ((x'12 = (Go.Value.tuple #[(Go.Value.agg #[(Go.Value.int .i64 i'14), (Go.Value.slice p'15 n'16 n'17), (Go.Value.slice p'18 n'19 n'20)]), (Go.Value.int .i64 i'21)])) ∧ (brB (i'21 != (0 : Int)) (brB (decide ((x1 < xb0_0))) (EvC Go.Proofs.Tryd.prog w0 12 #[] (fun x'22 h'23 => (∃ t'24 : Bool, ((x'22 = (Go.Value.bool t'24)) ∧ (K (Go.Value.bool t'24) h'23)))) h'13) (brB (decide (((1099511627776 : Int) < x1))) (EvC Go.Proofs.Tryd.prog w0 12 #[] (fun x'25 h'26 => (∃ t'27 : Bool, ((x'25 = (Go.Value.bool t'27)) ∧ (K (Go.Value.bool t'27) h'26)))) h'13) (K (Go.Value.bool false) h'13))) (EvC Go.Proofs.Tryd.prog w0 15 #[(Go.Value.agg #[(Go.Value.int .i64 i'14), (Go.Value.slice p'15 n'16 n'17), (Go.Value.slice p'18 n'19 n'20)]), (Go.Value.int .i64 x2)] (fun x'28 h'29 => (∃ i'30 : Int, (∃ p'31 : Option Go.Addr, (∃ n'32 : Nat, (∃ n'33 : Nat, (∃ p'34 : Option Go.Addr, (∃ n'35 : Nat, (∃ n'36 : Nat, (∃ i'37 : Int, ((x'28 = (Go.Value.tuple #[(Go.Value.agg #[(Go.Value.int .i64 i'30), (Go.Value.slice p'31 n'32 n'33), (Go.Value.slice p'34 n'35 n'36)]), (Go.Value.int .i64 i'37)])) ∧ (EvC Go.Proofs.Tryd.prog w0 15 #[(Go.Value.agg #[(Go.Value.int .i64 xb0_0), (Go.Value.slice ab0_1 nb0_1 cb0_1), (Go.Value.slice ab0_2 nb0_2 cb0_2)]), (Go.Value.int .i64 x2)] (fun x'38 h'39 => (∃ i'40 : Int, (∃ p'41 : Option Go.Addr, (∃ n'42 : Nat, (∃ n'43 : Nat, (∃ p'44 : Option Go.Addr, (∃ n'45 : Nat, (∃ n'46 : Nat, (∃ i'47 : Int, ((x'38 = (Go.Value.tuple #[(Go.Value.agg #[(Go.Value.int .i64 i'40), (Go.Value.slice p'41 n'42 n'43), (Go.Value.slice p'44 n'45 n'46)]), (Go.Value.int .i64 i'47)])) ∧ (brB (i'37 == i'47) (EvC Go.Proofs.Tryd.prog w0 17 #[(Go.Value.agg #[(Go.Value.int .i64 i'30), (Go.Value.slice p'31 n'32 n'33), (Go.Value.slice p'34 n'35 n'36)]), (Go.Value.agg #[(Go.Value.int .i64 i'40), (Go.Value.slice p'41 n'42 n'43), (Go.Value.slice p'44 n'45 n'46)])] (fun x'48 h'49 => (∃ t'50 : Bool, ((x'48 = (Go.Value.bool t'50)) ∧ (brB t'50 (brB ((i'37 == (0 : Int)) == (decide ((x2 ≤ (1099511627776 : Int))))) (EvC Go.Proofs.Tryd.prog w0 12 #[] (fun x'51 h'52 => (∃ t'53 : Bool, ((x'51 = (Go.Value.bool t'53)) ∧ (K (Go.Value.bool t'53) h'52)))) h'49) (K (Go.Value.bool false) h'49)) (K (Go.Value.bool false) h'49))))) h'39) (K (Go.Value.bool false) h'39)))))))))))) h'29))))))))))) h'13)))))))))))) h)) :
  f5_5 w0 K x1 x2 xb0_0 ab0_1 nb0_1 cb0_1 ab0_2 nb0_2 cb0_2 h := fun j => LP_intro (P := Go.Proofs.Tryd.prog) (Eq.mp (by kernel_rfl) hv)

theorem f5_go {w0 : World} {K : Value → AH → Prop} (x0_0 : Int) (a0_1 : Option Go.Addr) (n0_1 : Nat) (c0_1 : Nat) (a0_2 : Option Go.Addr) (n0_2 : Nat) (c0_2 : Nat) (x1 : Int) (x2 : Int) (h : AH)
  (hv : (EvC Go.Proofs.Tryd.prog w0 10 #[(Go.Value.agg #[(Go.Value.int .i64 x0_0), (Go.Value.slice a0_1 n0_1 c0_1), (Go.Value.slice a0_2 n0_2 c0_2)])] (fun x'0 h'1 => (∃ t'2 : Bool, ((x'0 = (Go.Value.bool t'2)) ∧ (brB (!t'2) (f5_2 w0 K x1 x2 true x0_0 a0_1 n0_1 c0_1 a0_2 n0_2 c0_2 h'1) (EvC Go.Proofs.Tryd.prog w0 11 #[(Go.Value.agg #[(Go.Value.int .i64 x0_0), (Go.Value.slice a0_1 n0_1 c0_1), (Go.Value.slice a0_2 n0_2 c0_2)])] (fun x'3 h'4 => (∃ t'5 : Bool, ((x'3 = (Go.Value.bool t'5)) ∧ (brB (!t'5) (f5_2 w0 K x1 x2 true x0_0 a0_1 n0_1 c0_1 a0_2 n0_2 c0_2 h'4) (EvC Go.Proofs.Tryd.prog w0 18 #[(Go.Value.agg #[(Go.Value.int .i64 x0_0), (Go.Value.slice a0_1 n0_1 c0_1), (Go.Value.slice a0_2 n0_2 c0_2)])] (fun x'6 h'7 => (∃ t'8 : Bool, ((x'6 = (Go.Value.bool t'8)) ∧ (f5_2 w0 K x1 x2 (!t'8) x0_0 a0_1 n0_1 c0_1 a0_2 n0_2 c0_2 h'7)))) h'4))))) h'1))))) h)) :
  EvC Go.Proofs.Tryd.prog w0 5 ([(.agg #[(.int .i64 x0_0), (.slice a0_1 n0_1 c0_1), (.slice a0_2 n0_2 c0_2)]), (.int .i64 x1), (.int .i64 x2)]).toArray K h := EvC_intro (P := Go.Proofs.Tryd.prog) f5_J (Eq.mp (by kernel_rfl) hv)
/-! ### SchemaSweepsOn -/
theorem light_nrm {s : StM} (h : LightS s.nrm) : LightS s :=
  ⟨by simpa [StM.nrm] using h.ret, by simpa [StM.nrm] using h.ses, fun x hx => by
    have := h.each x.nrm (List.mem_map_of_mem hx)
    simpa [SesM.nrm] using this⟩
theorem light_nrm' {s : StM} (h : LightS s) : LightS s.nrm :=
  ⟨by simpa [StM.nrm] using h.ret, by simpa [StM.nrm] using h.ses, fun x hx => by
    obtain ⟨y, hy, rfl⟩ := List.mem_map.1 hx
    simpa [SesM.nrm] using h.each y hy⟩
theorem light_sw {c : Int} {s : StM} (h : LightS s) : LightS (swM c s) :=
  ⟨Nat.le_trans (keep_len c s.ret) h.ret, by simpa [swM] using h.ses, fun x hx => by
    obtain ⟨y, hy, rfl⟩ := List.mem_map.1 hx
    have := h.each y hy
    have := keep_len c y.queue
    exact ⟨by simpa [swS] using (h.each y hy).1, by show (keepM c y.queue).length ≤ 30; omega, by simpa [swS] using (h.each y hy).2.2.1, by simpa [swS] using (h.each y hy).2.2.2⟩⟩
theorem light_of {c : Int} {s o : StM} (e : o.nrm = (swM c s).nrm) (h : LightS s) : LightS o := light_nrm (by rw [e]; exact light_nrm' (light_sw h))
theorem may_of {c : Int} {s o : StM} (e : o.nrm = (swM c s).nrm) (h : MaySt s) (h1 : s.clock ≤ c) (h2 : c ≤ 1099511627776) : MaySt o := MaySt.nrm.1 (by rw [e]; exact MaySt.nrm.2 (h.sweep h1 h2))
theorem clock_of {c : Int} {s o : StM} (e : o.nrm = (swM c s).nrm) : o.clock = c := by
  have := congrArg StM.clock e
  simpa [StM.nrm, swM] using this
def zeroS : StM := ⟨0, none, 0, [], none, 0, []⟩
theorem ses_arg {w0 : World} {h : AH} {m : SesM} (k : m.Ok w0) (b1 : m.subs.length ≤ 30) (b2 : m.queue.length ≤ 30) (b3 : m.fl.length ≤ 20) (b4 : m.ids.length ≤ 100) : SesRd w0 h m :=
  ⟨by omega, k.subs.rd h, by omega, ⟨k.queue.rd h, fun x hx => (k.queuek x hx).pay.rd h⟩, by omega, k.flc, k.fl.rd h, fun f hf => (k.flk f hf).msg.pay.rd h, by omega, k.ids.rd h⟩
/-- An argument is readable, whenever. -/
theorem st_arg {w0 : World} {h : AH} {m : StM} (k : m.Ok w0) (lt : LightS m) : StRd w0 h m :=
  have b1 := lt.ret
  have b2 := lt.ses
  ⟨by omega, ⟨k.ret.rd h, fun x hx => (k.retk x hx).pay.rd h⟩, by omega, k.ses.rd h, fun x hx => ses_arg (k.sesk x hx) (lt.each x hx).1 (lt.each x hx).2.1 (lt.each x hx).2.2.1 (lt.each x hx).2.2.2⟩
section
variable {w0 : World} {K : Value → AH → Prop} {h : AH} {B : List (Nat × AB)}
theorem f18_spec {m : StM} (k : m.Ok w0) (hk : ∀ b, K (.bool b) h) : EvC Go.Proofs.Tryd.prog w0 18 #[m.agg2] K h := by
  have sl := k.sl
  have loop : ∀ (n i : Nat), i + n = m.ses.length → f18_2 w0 K m.sa m.ses.length m.sc ((m.ses.length : Nat) : Int) ((i : Nat) : Int) h := fun n => by
    induction n with
    | zero => exact fun i hi => f18_2_in _ _ _ _ _ _ (brB_of (fun z => by have := of_decide_eq_true z; omega) fun _ => hk _)
    | succ n ih =>
      intro i hi
      have hg : m.ses[i]? = some m.ses[i] := List.getElem?_eq_getElem _
      obtain ⟨ad, had, hat⟩ := rowLoad (enc := SesM.cells) (k := 8) (fun _ => rfl) (by decide) (k.ses.rd h) hg
      refine f18_2_in _ _ _ _ _ _ (brB_of (fun _ => ⟨ad, had, by omega, by omega, _, _, _, _, _, _, _, _, _, _, _, _, _, _, _, _, ⟨rfl, hat⟩, brB_of (fun _ => hk _) fun _ => ?_⟩) fun z => by have := of_decide_eq_false z; omega)
      rw [wrap64 (by omega) (by omega)]
      exact ih (i + 1) (by omega)
  exact f18_go _ _ _ _ _ _ _ _ (loop m.ses.length 0 (by omega))
theorem zero_rd : StRd w0 h zeroS := ⟨by simp [zeroS], ⟨rd_nil, fun m hm => by cases hm⟩, by simp [zeroS], rd_nil, fun x hx => by cases hx⟩
theorem zero_same : SameSt zeroS zeroS := sameSt_of rfl
end
section
variable {w0 : World} {K : Value → AH → Prop} {h : AH} {B : List (Nat × AB)}
theorem st_own {o : StM} {C : List (Nat × AB)} (ov : StV o) : ∀ h' D, Own w0 h' (D ++ (ownSt o ++ C)) → StRd w0 h' o := fun h' D w' =>
  ov.rd w' fun p hp => by simp [hp]
theorem awake_sc (T : TabOk w0) (w : Own w0 h B) (hk : ∀ h, K (.bool true) h) : EvC Go.Proofs.Tryd.prog w0 12 #[] (fun x'24 h'25 => (∃ t'26 : Bool, ((x'24 = (.bool t'26)) ∧ (K (.bool t'26) h'25)))) h := f12_spec T w fun h' _ => ⟨_, rfl, hk h'⟩
theorem f5_5s {s : StM} {a b : Int} (T : TabOk w0) (k : s.Ok w0) (lt : LightS s) (hm : MaySt s) (hab : a ≤ b) (w : Own w0 h B) (hk : ∀ h, K (.bool true) h) : f5_5 w0 K a b s.clock s.ra s.ret.length s.rc s.sa s.ses.length s.sc h := by
  refine f5_5_in _ _ _ _ _ _ _ _ _ _ ?_
  refine f15_spec (s := s) (c := a) T w (fun h' D w' => st_arg k lt) lt (fun hb h1 w1 => ⟨_, _, _, _, _, _, _, _, rfl, ?_⟩) fun _ a1 a2 h1 o ho ov w1 => ⟨_, _, _, _, _, _, _, _, rfl, ?_⟩
  · refine brB_of (fun _ => ?_) fun z => by simp at z
    refine brB_of (fun _ => awake_sc T w1 hk) fun z => brB_of (fun _ => awake_sc T w1 hk) fun z2 => ?_
    have := of_decide_eq_false z
    have := of_decide_eq_false z2
    rcases hb with hb | hb | hb
    · exact absurd hm hb
    · omega
    · omega
  refine brB_of (fun z => by simp at z) fun _ => ?_
  have oc := clock_of ho
  have om := may_of ho hm a1 a2
  have ol := light_of ho lt
  refine f15_spec (s := o) (c := b) T w1 (st_own ov) ol (fun hb h2 w2 => ⟨_, _, _, _, _, _, _, _, rfl, ?_⟩) fun _ b1 b2 h2 y hy yv w2 => ⟨_, _, _, _, _, _, _, _, rfl, ?_⟩
  · have hb2 : 1099511627776 < b := by
      rcases hb with hb | hb | hb
      · exact absurd om hb
      · omega
      · exact hb
    refine f15_spec (s := s) (c := b) T w2 (fun h' D w' => st_arg k lt) lt (fun _ h3 w3 => ⟨_, _, _, _, _, _, _, _, rfl, ?_⟩) fun _ c1 c2 => by omega
    refine brB_of (fun _ => ?_) fun z => by simp at z
    refine f17_spec (x := zeroS) (y := zeroS) zero_rd zero_rd zero_same ⟨_, rfl, brB_of (fun _ => brB_of (fun _ => awake_sc T w3 hk) fun z => ?_) fun z => by cases z⟩
    have : ¬ b ≤ 1099511627776 := by omega
    simp [this] at z
  · refine f15_spec (s := s) (c := b) T w2 (fun h' D w' => st_arg k lt) lt (fun hb h3 w3 => ?_) fun _ c1 c2 h3 x hx xv w3 => ⟨_, _, _, _, _, _, _, _, rfl, ?_⟩
    · rcases hb with hb | hb | hb
      · exact absurd hm hb
      · omega
      · omega
    refine brB_of (fun _ => ?_) fun z => by simp at z
    have e : y.nrm = x.nrm := by
      rw [hy, hx, swM_nrm, ho, swM_nrm, swM_nrm, swM_swM hab]
    have ry : StRd w0 h3 y := yv.rd w3 fun p hp => by simp [hp]
    have rx : StRd w0 h3 x := xv.rd w3 fun p hp => by simp [hp]
    refine f17_spec (x := y) (y := x) ry rx (sameSt_of e) ⟨_, rfl, brB_of (fun _ => brB_of (fun _ => awake_sc T w3 hk) fun z => ?_) fun z => by cases z⟩
    simp [b2] at z
/-- SchemaSweepsOn. -/
theorem f5_spec {s : StM} {a b : Int} (T : TabOk w0) (k : s.Ok w0) (hk : ∀ h, K (.bool true) h) : EvC Go.Proofs.Tryd.prog w0 5 #[s.agg2, .int .i64 a, .int .i64 b] K (fun _ => none) := by
  have w0' : Own w0 (fun _ => none) [] := Own.nil
  refine f5_go _ _ _ _ _ _ _ _ _ _ (f10_spec k ⟨_, rfl, brB_of (fun _ => f5_2_in _ _ _ _ _ _ _ _ _ _ _ (brB_of (fun _ => awake_sc T w0' hk) fun z => by cases z)) fun z => by cases z⟩ fun lt => ⟨_, rfl, brB_of (fun z => by cases z) fun _ => ?_⟩)
  refine f11_spec (s := s) T w0' (fun h' w' => st_arg k lt) fun t h1 ht w1 => ⟨t, rfl, brB_of (fun _ => f5_2_in _ _ _ _ _ _ _ _ _ _ _ (brB_of (fun _ => awake_sc T w1 hk) fun z => by cases z)) fun z => ?_⟩
  have hm := ht.1 (by simpa using z)
  refine f18_spec k fun f => ⟨f, rfl, f5_2_in _ _ _ _ _ _ _ _ _ _ _ (brB_of (fun _ => awake_sc T w1 hk) fun _ => f5_3_in _ _ _ _ _ _ _ _ _ _ (brB_of (fun z2 => ?_) fun z2 => ?_))⟩
  · exact f5_5s T k lt hm (by have := of_decide_eq_true z2; omega) w1 hk
  · exact f5_5s T k lt hm (by have := of_decide_eq_false z2; omega) w1 hk
end
end Go.G.YtilifcggegabfaaDoor
