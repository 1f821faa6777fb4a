/- Copy. -/
import Derived.Test.YtpjklfmfgmicaaaDCo
import Derived.Test.YtpjklfmfgmicaaaDT
import Derived.Test.YtpjklfmfgmicaaaProg
set_option maxRecDepth 100000
namespace Go.G.Ytpjklfmfgmicaaa
open Go.RowKit
def f37_J : Nat → List Nat × Nat := jOf [(8, [1, 2, 3, 6, 7, 8, 9, 10, 11, 12, 13, 14, 15, 16, 17, 18, 19, 20, 21, 22, 23, 24, 25, 26, 27, 29, 30, 31, 32, 33, 34, 35, 36, 37, 38, 39, 40, 41, 42, 43, 44, 45, 46, 47, 48, 49, 50, 51, 52, 53, 54, 55, 56, 57, 58, 59, 60, 61, 62, 63, 64, 65, 66, 67, 68, 69, 70, 71, 72, 73, 74, 75, 76], 2), (12, [1, 2, 3, 6, 7, 8, 9, 10, 11, 12, 13, 14, 15, 16, 17, 18, 19, 20, 21, 22, 23, 24, 25, 26, 27, 28, 29, 30, 31, 32, 33, 34, 35, 36, 37, 38, 39, 40, 41, 42, 43, 45, 46, 47, 48, 49, 50, 51, 52, 53, 54, 55, 56, 57, 58, 59, 60, 61, 62, 63, 64, 65, 66, 67, 68, 69, 70, 71, 72, 73, 74, 75, 76], 2), (16, [0, 1, 2, 3, 6, 7, 8, 9, 10, 11, 12, 13, 14, 15, 16, 17, 18, 19, 20, 21, 22, 23, 24, 25, 26, 27, 28, 29, 30, 31, 32, 33, 34, 35, 36, 37, 38, 39, 40, 41, 42, 43, 44, 45, 46, 47, 48, 49, 50, 51, 52, 53, 54, 55, 56, 57, 58, 62, 63, 64, 65, 66, 67, 68, 69, 70, 71, 72, 73, 74, 75, 76], 2)]

def f37_8 (w0 : World) (K : Value → AH → Prop) (x0 : Option Go.Addr) (x4c0 : Go.Addr) (x28 : Go.Addr) (xb1_0 : Int) (xb1_1 : Option Nat) (xb1_2 : Option Nat) (ab1_3 : Option Go.Addr) (nb1_3 : Nat) (cb1_3 : Nat) (xb1_4 : Bool) (xb1_5 : Int) (xb1_6 : Int) (xb1_7 : Int) (xb1_8 : Int) (h : AH) : Prop :=
  ∀ j : Nat → Value, LPk Go.Proofs.Try.prog w0 (EvC Go.Proofs.Try.prog w0) f37_J 37 K 8 [.v (.pointer x0), .v (j 1), .v (j 2), .v (j 3), .v (.func (Go.Fn.func 68) #[] #[(.pointer (some x4c0))]), .bp 1 0, .v (j 6), .v (j 7), .v (j 8), .v (j 9), .v (j 10), .v (j 11), .v (j 12), .v (j 13), .v (j 14), .v (j 15), .v (j 16), .v (j 17), .v (j 18), .v (j 19), .v (j 20), .v (j 21), .v (j 22), .v (j 23), .v (j 24), .v (j 25), .v (j 26), .v (j 27), .v (.pointer (some x28)), .v (j 29), .v (j 30), .v (j 31), .v (j 32), .v (j 33), .v (j 34), .v (j 35), .v (j 36), .v (j 37), .v (j 38), .v (j 39), .v (j 40), .v (j 41), .v (j 42), .v (j 43), .v (j 44), .v (j 45), .v (j 46), .v (j 47), .v (j 48), .v (j 49), .v (j 50), .v (j 51), .v (j 52), .v (j 53), .v (j 54), .v (j 55), .v (j 56), .v (j 57), .v (j 58), .v (j 59), .v (j 60), .v (j 61), .v (j 62), .v (j 63), .v (j 64), .v (j 65), .v (j 66), .v (j 67), .v (j 68), .v (j 69), .v (j 70), .v (j 71), .v (j 72), .v (j 73), .v (j 74), .v (j 75), .v (j 76)] [none, some [(.int .i64 xb1_0), (.map xb1_1), (.map xb1_2), (.slice ab1_3 nb1_3 cb1_3), (.bool xb1_4), (.int .i64 xb1_5), (.int .i64 xb1_6), (.int .i64 xb1_7), (.int .i64 xb1_8)]] h

def f37_12 (w0 : World) (K : Value → AH → Prop) (x0 : Option Go.Addr) (x4c0 : Go.Addr) (x44 : Go.Addr) (xb1_0 : Int) (xb1_1 : Option Nat) (xb1_2 : Option Nat) (ab1_3 : Option Go.Addr) (nb1_3 : Nat) (cb1_3 : Nat) (xb1_4 : Bool) (xb1_5 : Int) (xb1_6 : Int) (xb1_7 : Int) (xb1_8 : Int) (h : AH) : Prop :=
  ∀ j : Nat → Value, LPk Go.Proofs.Try.prog w0 (EvC Go.Proofs.Try.prog w0) f37_J 37 K 12 [.v (.pointer x0), .v (j 1), .v (j 2), .v (j 3), .v (.func (Go.Fn.func 68) #[] #[(.pointer (some x4c0))]), .bp 1 0, .v (j 6), .v (j 7), .v (j 8), .v (j 9), .v (j 10), .v (j 11), .v (j 12), .v (j 13), .v (j 14), .v (j 15), .v (j 16), .v (j 17), .v (j 18), .v (j 19), .v (j 20), .v (j 21), .v (j 22), .v (j 23), .v (j 24), .v (j 25), .v (j 26), .v (j 27), .v (j 28), .v (j 29), .v (j 30), .v (j 31), .v (j 32), .v (j 33), .v (j 34), .v (j 35), .v (j 36), .v (j 37), .v (j 38), .v (j 39), .v (j 40), .v (j 41), .v (j 42), .v (j 43), .v (.pointer (some x44)), .v (j 45), .v (j 46), .v (j 47), .v (j 48), .v (j 49), .v (j 50), .v (j 51), .v (j 52), .v (j 53), .v (j 54), .v (j 55), .v (j 56), .v (j 57), .v (j 58), .v (j 59), .v (j 60), .v (j 61), .v (j 62), .v (j 63), .v (j 64), .v (j 65), .v (j 66), .v (j 67), .v (j 68), .v (j 69), .v (j 70), .v (j 71), .v (j 72), .v (j 73), .v (j 74), .v (j 75), .v (j 76)] [none, some [(.int .i64 xb1_0), (.map xb1_1), (.map xb1_2), (.slice ab1_3 nb1_3 cb1_3), (.bool xb1_4), (.int .i64 xb1_5), (.int .i64 xb1_6), (.int .i64 xb1_7), (.int .i64 xb1_8)]] h

def f37_16 (w0 : World) (K : Value → AH → Prop) (x4c0 : Go.Addr) (a59 : Option Go.Addr) (n59 : Nat) (c59 : Nat) (x60 : Int) (x61 : Int) (xb1_0 : Int) (xb1_1 : Option Nat) (xb1_2 : Option Nat) (ab1_3 : Option Go.Addr) (nb1_3 : Nat) (cb1_3 : Nat) (xb1_4 : Bool) (xb1_5 : Int) (xb1_6 : Int) (xb1_7 : Int) (xb1_8 : Int) (h : AH) : Prop :=
  ∀ j : Nat → Value, LPk Go.Proofs.Try.prog w0 (EvC Go.Proofs.Try.prog w0) f37_J 37 K 16 [.v (j 0), .v (j 1), .v (j 2), .v (j 3), .v (.func (Go.Fn.func 68) #[] #[(.pointer (some x4c0))]), .bp 1 0, .v (j 6), .v (j 7), .v (j 8), .v (j 9), .v (j 10), .v (j 11), .v (j 12), .v (j 13), .v (j 14), .v (j 15), .v (j 16), .v (j 17), .v (j 18), .v (j 19), .v (j 20), .v (j 21), .v (j 22), .v (j 23), .v (j 24), .v (j 25), .v (j 26), .v (j 27), .v (j 28), .v (j 29), .v (j 30), .v (j 31), .v (j 32), .v (j 33), .v (j 34), .v (j 35), .v (j 36), .v (j 37), .v (j 38), .v (j 39), .v (j 40), .v (j 41), .v (j 42), .v (j 43), .v (j 44), .v (j 45), .v (j 46), .v (j 47), .v (j 48), .v (j 49), .v (j 50), .v (j 51), .v (j 52), .v (j 53), .v (j 54), .v (j 55), .v (j 56), .v (j 57), .v (j 58), .v (.slice a59 n59 c59), .v (.int .i64 x60), .v (.int .i64 x61), .v (j 62), .v (j 63), .v (j 64), .v (j 65), .v (j 66), .v (j 67), .v (j 68), .v (j 69), .v (j 70), .v (j 71), .v (j 72), .v (j 73), .v (j 74), .v (j 75), .v (j 76)] [none, some [(.int .i64 xb1_0), (.map xb1_1), (.map xb1_2), (.slice ab1_3 nb1_3 cb1_3), (.bool xb1_4), (.int .i64 xb1_5), (.int .i64 xb1_6), (.int .i64 xb1_7), (.int .i64 xb1_8)]] h

theorem f37_8_in {w0 : World} {K : Value → AH → Prop} (x0 : Option Go.Addr) (x4c0 : Go.Addr) (x28 : Go.Addr) (xb1_0 : Int) (xb1_1 : Option Nat) (xb1_2 : Option Nat) (ab1_3 : Option Go.Addr) (nb1_3 : Nat) (cb1_3 : Nat) (xb1_4 : Bool) (xb1_5 : Int) (xb1_6 : Int) (xb1_7 : Int) (xb1_8 : Int) (h : AH)
  (hv : (nextM h x28 (fun _ _ h'27 => (entryM h'27 x28 (fun es'28 n'29 => (∃ s'30 : ByteArray, (∃ p'31 : Option Go.Addr, ((Go.G.entIs es'28 n'29 (Go.Value.string s'30) (Go.Value.pointer p'31)) ∧ (EvC Go.Proofs.Try.prog w0 68 #[(Go.Value.pointer p'31), (Go.Value.pointer (some x4c0))] (fun x'32 h'33 => (∃ p'34 : Option Go.Addr, ((x'32 = (Go.Value.pointer p'34)) ∧ (((Go.G.plainKey Go.Proofs.Try.prog 65 (Go.Value.string s'30)) = true) ∧ (∃ n'35 : Nat, ((xb1_1 = (some n'35)) ∧ (mapAt Go.Proofs.Try.prog w0 h'33 (some n'35) 65 (fun es'36 => (f37_8 w0 K x0 x4c0 x28 xb1_0 xb1_1 xb1_2 ab1_3 nb1_3 cb1_3 xb1_4 xb1_5 xb1_6 xb1_7 xb1_8 (Go.G.AH.putm h'33 n'35 (Go.G.putM (Go.Value.string s'30) (Go.Value.pointer p'34) es'36))))))))))) h'27))))))) (fun h'37 => (∃ a'38 : Go.Addr, ((x0 = (some a'38)) ∧ (∃ p'39 : Option Nat, (((Go.G.cellA w0 h'37 (Go.Addr.add a'38 2)) = (some (Go.Value.map p'39))) ∧ (rangeM h'37 p'39 (fun n'40 => (newB w0 h'37 (Go.G.AB.mit p'39 (List.range n'40) none) (fun b'41 h'42 => (f37_12 w0 K x0 x4c0 (Go.Addr.mk b'41 0 none) xb1_0 xb1_1 xb1_2 ab1_3 nb1_3 cb1_3 xb1_4 xb1_5 xb1_6 xb1_7 xb1_8 h'42)))))))))))) :
  f37_8 w0 K x0 x4c0 x28 xb1_0 xb1_1 xb1_2 ab1_3 nb1_3 cb1_3 xb1_4 xb1_5 xb1_6 xb1_7 xb1_8 h := fun j => LP_intro (P := Go.Proofs.Try.prog) (Eq.mp (by kernel_rfl) hv)

theorem f37_12_in {w0 : World} {K : Value → AH → Prop} (x0 : Option Go.Addr) (x4c0 : Go.Addr) (x44 : Go.Addr) (xb1_0 : Int) (xb1_1 : Option Nat) (xb1_2 : Option Nat) (ab1_3 : Option Go.Addr) (nb1_3 : Nat) (cb1_3 : Nat) (xb1_4 : Bool) (xb1_5 : Int) (xb1_6 : Int) (xb1_7 : Int) (xb1_8 : Int) (h : AH)
  (hv : (nextM h x44 (fun _ _ h'45 => (entryM h'45 x44 (fun es'46 n'47 => (∃ s'48 : ByteArray, (∃ p'49 : Option Go.Addr, ((Go.G.entIs es'46 n'47 (Go.Value.string s'48) (Go.Value.pointer p'49)) ∧ (EvC Go.Proofs.Try.prog w0 68 #[(Go.Value.pointer p'49), (Go.Value.pointer (some x4c0))] (fun x'50 h'51 => (∃ p'52 : Option Go.Addr, ((x'50 = (Go.Value.pointer p'52)) ∧ (((Go.G.plainKey Go.Proofs.Try.prog 65 (Go.Value.string s'48)) = true) ∧ (∃ n'53 : Nat, ((xb1_2 = (some n'53)) ∧ (mapAt Go.Proofs.Try.prog w0 h'51 (some n'53) 65 (fun es'54 => (f37_12 w0 K x0 x4c0 x44 xb1_0 xb1_1 xb1_2 ab1_3 nb1_3 cb1_3 xb1_4 xb1_5 xb1_6 xb1_7 xb1_8 (Go.G.AH.putm h'51 n'53 (Go.G.putM (Go.Value.string s'48) (Go.Value.pointer p'52) es'54))))))))))) h'45))))))) (fun h'55 => (∃ a'56 : Go.Addr, ((x0 = (some a'56)) ∧ (∃ p'57 : Option Go.Addr, (∃ n'58 : Nat, (∃ n'59 : Nat, (((Go.G.cellA w0 h'55 (Go.Addr.add a'56 3)) = (some (Go.Value.slice p'57 n'58 n'59))) ∧ (f37_16 w0 K x4c0 p'57 n'58 n'59 ((n'58 : Nat) : Int) (0 : Int) xb1_0 xb1_1 xb1_2 ab1_3 nb1_3 cb1_3 xb1_4 xb1_5 xb1_6 xb1_7 xb1_8 h'55)))))))))) :
  f37_12 w0 K x0 x4c0 x44 xb1_0 xb1_1 xb1_2 ab1_3 nb1_3 cb1_3 xb1_4 xb1_5 xb1_6 xb1_7 xb1_8 h := fun j => LP_intro (P := Go.Proofs.Try.prog) (Eq.mp (by kernel_rfl) hv)

theorem f37_16_in {w0 : World} {K : Value → AH → Prop} (x4c0 : Go.Addr) (a59 : Option Go.Addr) (n59 : Nat) (c59 : Nat) (x60 : Int) (x61 : Int) (xb1_0 : Int) (xb1_1 : Option Nat) (xb1_2 : Option Nat) (ab1_3 : Option Go.Addr) (nb1_3 : Nat) (cb1_3 : Nat) (xb1_4 : Bool) (xb1_5 : Int) (xb1_6 : Int) (xb1_7 : Int) (xb1_8 : Int) (h : AH)
  (hv : (brB (decide ((x61 < x60))) (∃ a'60 : Go.Addr, ((a59 = (some a'60)) ∧ (((0 : Int) ≤ x61) ∧ ((x61 < ((n59 : Nat) : Int)) ∧ (∃ s'61 : ByteArray, (∃ s'62 : ByteArray, (∃ p'63 : Option Go.Addr, ((((Array.size #[(Go.Value.string s'61), (Go.Value.string s'62), (Go.Value.pointer p'63)]) = 3) ∧ (At w0 h (Go.Addr.add a'60 ((Int.toNat x61) * 3)) [(Go.Value.string s'61), (Go.Value.string s'62), (Go.Value.pointer p'63)])) ∧ (EvC Go.Proofs.Try.prog w0 68 #[(Go.Value.pointer p'63), (Go.Value.pointer (some x4c0))] (fun x'64 h'65 => (∃ p'66 : Option Go.Addr, ((x'64 = (Go.Value.pointer p'66)) ∧ (App w0 h'65 3 40 ab1_3 nb1_3 cb1_3 1 [(Go.Value.string s'61), (Go.Value.string s'62), (Go.Value.pointer p'66)] (fun a'67 c'68 h'69 => (f37_16 w0 K x4c0 a59 n59 c59 x60 (Go.IntKind.wrap .i64 (x61 + (1 : Int))) xb1_0 xb1_1 xb1_2 a'67 (nb1_3 + 1) c'68 xb1_4 xb1_5 xb1_6 xb1_7 xb1_8 h'69)))))) h))))))))) (newB w0 h (Go.G.AB.cells [(Go.Value.int .i64 xb1_0), (Go.Value.map xb1_1), (Go.Value.map xb1_2), (Go.Value.slice ab1_3 nb1_3 cb1_3), (Go.Value.bool xb1_4), (Go.Value.int .i64 xb1_5), (Go.Value.int .i64 xb1_6), (Go.Value.int .i64 xb1_7), (Go.Value.int .i64 xb1_8)] (List.length [(Go.Value.int .i64 xb1_0), (Go.Value.map xb1_1), (Go.Value.map xb1_2), (Go.Value.slice ab1_3 nb1_3 cb1_3), (Go.Value.bool xb1_4), (Go.Value.int .i64 xb1_5), (Go.Value.int .i64 xb1_6), (Go.Value.int .i64 xb1_7), (Go.Value.int .i64 xb1_8)])) (fun b'70 h'71 => (K (Go.Value.pointer (some (Go.Addr.mk b'70 0 none))) h'71))))) :
  f37_16 w0 K x4c0 a59 n59 c59 x60 x61 xb1_0 xb1_1 xb1_2 ab1_3 nb1_3 cb1_3 xb1_4 xb1_5 xb1_6 xb1_7 xb1_8 h := fun j => LP_intro (P := Go.Proofs.Try.prog) (Eq.mp (by kernel_rfl) hv)

theorem f37_go {w0 : World} {K : Value → AH → Prop} (x0 : Option Go.Addr) (h : AH)
  (hv : (brB (Option.isNone x0) (K (Go.Value.pointer none) h) (newB w0 h (Go.G.AB.map []) (fun b'0 h'1 => (newB w0 h'1 (Go.G.AB.cells [(Go.Value.map (some b'0))] (List.length [(Go.Value.map (some b'0))])) (fun b'2 h'3 => (∃ a'4 : Go.Addr, ((x0 = (some a'4)) ∧ (∃ i'5 : Int, (∃ p'6 : Option Nat, (∃ p'7 : Option Nat, (∃ p'8 : Option Go.Addr, (∃ n'9 : Nat, (∃ n'10 : Nat, (∃ t'11 : Bool, (∃ i'12 : Int, (∃ i'13 : Int, (∃ i'14 : Int, (∃ i'15 : Int, ((((Array.size #[(Go.Value.int .i64 i'5), (Go.Value.map p'6), (Go.Value.map p'7), (Go.Value.slice p'8 n'9 n'10), (Go.Value.bool t'11), (Go.Value.int .i64 i'12), (Go.Value.int .i64 i'13), (Go.Value.int .i64 i'14), (Go.Value.int .i64 i'15)]) = 9) ∧ (At w0 h'3 a'4 [(Go.Value.int .i64 i'5), (Go.Value.map p'6), (Go.Value.map p'7), (Go.Value.slice p'8 n'9 n'10), (Go.Value.bool t'11), (Go.Value.int .i64 i'12), (Go.Value.int .i64 i'13), (Go.Value.int .i64 i'14), (Go.Value.int .i64 i'15)])) ∧ (newB w0 h'3 (Go.G.AB.map []) (fun b'16 h'17 => (newB w0 h'17 (Go.G.AB.map []) (fun b'18 h'19 => (∃ a'20 : Go.Addr, ((x0 = (some a'20)) ∧ (∃ p'21 : Option Nat, (((Go.G.cellA w0 h'19 (Go.Addr.add a'20 1)) = (some (Go.Value.map p'21))) ∧ (rangeM h'19 p'21 (fun n'22 => (newB w0 h'19 (Go.G.AB.mit p'21 (List.range n'22) none) (fun b'23 h'24 => (f37_8 w0 K x0 (Go.Addr.mk b'2 0 none) (Go.Addr.mk b'23 0 none) i'5 (some b'16) (some b'18) none 0 0 t'11 i'12 i'13 i'14 i'15 h'24))))))))))))))))))))))))))))))))) :
  EvC Go.Proofs.Try.prog w0 37 ([(.pointer x0)]).toArray K h := EvC_intro (P := Go.Proofs.Try.prog) f37_J (Eq.mp (by kernel_rfl) hv)
/-! ### Copy -/
def edAt (d : Dir) (j : Nat) : ByteArray × Nat := (d[j]?).getD (⟨#[]⟩, 0)
theorem edAt_range (d : Dir) : (List.range d.length).map (edAt d) = d := by
  apply List.ext_getElem (by simp)
  intro i h1 h2
  simp [edAt, h2]
theorem Own.neI {w0 : World} {h : AH} {bs : List (Nat × AB)} {b : Nat} {m : Option Nat} {l : List Nat} {c : Option Nat} (w : Own w0 h bs) (hi : h b = some (.mit m l c)) : ∀ p ∈ bs, p.1 ≠ b := fun p hp e => by
  have h1 := (w.is p hp).2
  have h2 := w.pl p hp
  rw [e, hi] at h1
  injection h1 with h1
  rw [← h1] at h2
  cases h2
theorem inj_lt {w0 : World} {h : AH} {F : List FO} {B : List (Nat × AB)} (w : Own w0 h (fobs F ++ B)) {i j : Nat} (hj : j < F.length) (hij : i < j) : blk F i ≠ blk F j := by
  have hi : i < F.length := by omega
  have gi := List.getElem?_eq_getElem hi
  have gj := List.getElem?_eq_getElem hj
  rw [blk_at gi, blk_at gj]
  have e := fobs_split gi
  rw [e, List.append_assoc, List.append_assoc] at w
  have w1 : Own w0 h ((F[i].b, .cells F[i].cells 2) :: (slB F[i].a (u8s F[i].data) (F[i].c * 1) ++ (fobs (F.drop (i + 1)) ++ B))) := by
    have := w.drop
    simpa only [FO.blocks, List.cons_append, List.append_assoc] using this
  have gd : (F.drop (i + 1))[j - (i + 1)]? = some F[j] := by
    rw [List.getElem?_drop, show i + 1 + (j - (i + 1)) = j by omega]; exact gj
  exact fun e => w1.ne _ (List.mem_append_right _ (List.mem_append_left _ (fobs_mem gd))) e.symm
theorem inj_of {w0 : World} {h : AH} {F : List FO} {cs B : List (Nat × AB)} (w : Own w0 h (cs ++ (fobs F ++ B))) : Inj F := fun i j hi hj e => by
  rcases Nat.lt_trichotomy i j with q | q | q
  · exact absurd e (inj_lt w.drop hj q)
  · exact q
  · exact absurd e.symm (inj_lt w.drop hi q)
theorem ptr_push {F G b : List FO} {seen a : List Nat} {i : Nat} (M : Made F seen G) (h : i ∈ seen) : ptrF (G ++ b) (nx (seen ++ a) i) = ptrF G (nx seen i) := by
  have e : nx (seen ++ a) i = nx seen i := by unfold nx; rw [List.idxOf_append, if_pos h]
  rw [e]
  have hl : nx seen i < G.length := by rw [M.len]; exact nx_lt h
  unfold ptrF blk
  rw [List.getElem?_append_left hl]
theorem re_map {F G b : List FO} {seen a : List Nat} {d : Dir} (M : Made F seen G) (h : ∀ e ∈ d, e.2 ∈ seen) : mapC G (reD seen d) = mapC (G ++ b) (reD (seen ++ a) d) := by
  unfold mapC reD
  rw [List.map_map, List.map_map]
  refine List.map_congr_left fun e he => ?_
  simp only [Function.comp, reE, ptr_push M (h e he)]
theorem re_row {F G b : List FO} {seen a : List Nat} : ∀ {row : List Chg} (_ : Made F seen G) (_ : ∀ c ∈ row, ∀ i, c.f = some i → i ∈ seen), rowC G (row.map (reC seen)) = rowC (G ++ b) (row.map (reC (seen ++ a)))
  | [], _, _ => rfl
  | c :: r, M, h => by
    have ih := re_row (b := b) (a := a) M fun x hx => h x (List.mem_cons_of_mem _ hx)
    unfold rowC at ih ⊢
    rw [List.map_cons, List.map_cons, List.flatMap_cons, List.flatMap_cons, ih]
    congr 1
    have h1 := h c (List.mem_cons_self ..)
    unfold chgC reC
    cases q : c.f with
    | none => rfl
    | some i => simp [ptr_push M (h1 i q)]
theorem putL_new {n : ByteArray} {i : Nat} : ∀ {d : Dir}, n ∉ d.map (·.1) → putL n i d = d ++ [(n, i)]
  | [], _ => rfl
  | e :: r, h => by
    rw [List.map_cons, List.mem_cons] at h
    have h1 : ¬ n = e.1 := fun q => h (.inl q)
    have ih := putL_new (n := n) (i := i) (d := r) fun q => h (.inr q)
    simp only [putL, h1, if_false, ih, List.cons_append]
theorem step_perm {dd d : Dir} {left : List Nat} {i : Nat} {e : ByteArray × Nat} (hi : i ∈ left) (he : edAt d i = e) (hp : (dd ++ left.map (edAt d)).Perm d) : ((dd ++ [e]) ++ (left.erase i).map (edAt d)).Perm d := by
  refine List.Perm.trans ?_ hp
  rw [List.append_assoc]
  refine List.Perm.append_left _ ?_
  have := (List.perm_cons_erase hi).map (edAt d)
  rw [List.map_cons, he] at this
  exact this.symm
theorem step_new {dd d r : Dir} {e : ByteArray × Nat} (hp : ((dd ++ [e]) ++ r).Perm d) (hn : (d.map (·.1)).Nodup) : e.1 ∉ dd.map (·.1) := by
  have h1 := ((hp.map (·.1)).nodup_iff).2 hn
  rw [List.map_append, List.map_append, List.nodup_append] at h1
  have h2 := h1.1
  rw [List.nodup_append] at h2
  exact fun hm => h2.2.2 _ hm _ (by simp) rfl
theorem mapC_putN {G : List FO} {seen : List Nat} {dd : Dir} {e : ByteArray × Nat} (hn : e.1 ∉ dd.map (·.1)) : putM (.string e.1) (.pointer (ptrF G (nx seen e.2))) (mapC G (reD seen dd)) = mapC G (reD seen (dd ++ [e])) := by
  rw [putM_L, putL_new (by rw [reD_names]; exact hn)]
  simp [reD, reE]
/-- What is in memory while a disk is copied: the table of what was made, what was made, all else. -/
def Lk (F : List FO) (mm cb : Nat) (seen : List Nat) (G : List FO) (X : List (Nat × AB)) : List (Nat × AB) := (mm, .map (madeC F seen G)) :: (cb, .cells [.map (some mm)] 1) :: (fobs G ++ X)
theorem Lk.other {w0 : World} {h : AH} {F G : List FO} {mm cb : Nat} {seen : List Nat} {X : List (Nat × AB)} (w : Own w0 h (Lk F mm cb seen G X)) : Own w0 h X := (w.tail.tail).drop
theorem Lk.ne {w0 : World} {h : AH} {F G : List FO} {mm cb : Nat} {seen : List Nat} {X : List (Nat × AB)} {p : Nat × AB} (w : Own w0 h (Lk F mm cb seen G X)) (hp : p ∈ X) : p.1 ≠ mm := Own.ne w p (by simp [hp])
set_option maxHeartbeats 1000000 in
/-- Copy. -/
theorem f37_spec {w0 : World} {K : Value → AH → Prop} {h : AH} {B : List (Nat × AB)} {s : Ds} {D : PD} (r : PRep s D) (w : Own w0 h (D.blocks s ++ B)) (hc : s.calls < 1000000000)
    (hk : ∀ h' seen D', Cov seen s → PRep (reS seen s) D' → Own w0 h' (D'.blocks (reS seen s) ++ (D.blocks s ++ B)) → K (.pointer (some ⟨D'.bd, 0, none⟩)) h') :
    EvC Go.Proofs.Try.prog w0 37 #[.pointer (some ⟨D.bd, 0, none⟩)] K h := by
  have hrl := r.rowlen
  obtain ⟨d0, ewas, hes⟩ := r.wr
  have hd0 : d0 ∈ s.was := by rw [ewas]; cases D.row <;> simp [scanC]
  have od := r.ok.dir
  have o0 := r.ok.was d0 hd0
  have hedn : (D.ed.map (·.1)).Nodup := ((r.dm.map (·.1)).nodup_iff).2 od.nd
  have hesn : (D.es.map (·.1)).Nodup := ((hes.map (·.1)).nodup_iff).2 o0.nd
  have hidd : ∀ e ∈ D.ed, e.2 < D.F.length := fun e he => by rw [r.len]; exact (od.ids e (r.dm.mem_iff.1 he)).1
  have hids : ∀ e ∈ D.es, e.2 < D.F.length := fun e he => by rw [r.len]; exact (o0.ids e (hes.mem_iff.1 he)).1
  have inj : Inj D.F := by
    have wf := w
    rw [PD.flat] at wf
    exact inj_of (cs := (D.bd, .cells (pcells s D) 9) :: (D.md, .map (mapC D.F D.ed)) :: (D.ms, .map (mapC D.F D.es)) :: slB D.ra (rowC D.F D.row) (D.rc * 3)) (by simpa only [List.cons_append, List.append_assoc] using wf)
  have hF : ∀ {Z : List (Nat × AB)}, ∀ p ∈ fobs D.F, p ∈ Z ++ (D.blocks s ++ B) := fun {Z} p hp => by
    rw [PD.flat]; simp [hp]
  have fok : ∀ f ∈ D.F, f.data.length ≤ 4194304 := fun f hf => (FlOk_abs r.fs r.ok.fs hf).1
  have hmd : (D.md, AB.map (mapC D.F D.ed)) ∈ D.blocks s ++ B := by rw [PD.flat]; simp
  have hms : (D.ms, AB.map (mapC D.F D.es)) ∈ D.blocks s ++ B := by rw [PD.flat]; simp
  have hbd : (D.bd, AB.cells (pcells s D) 9) ∈ D.blocks s ++ B := by rw [PD.flat]; simp
  have rv := r.rv
  have hcap := rv.2.1
  have rdR : ∀ h', Own w0 h' (D.blocks s ++ B) → Rd w0 h' D.ra (rowC D.F D.row) := fun h' w' => by
    rw [PD.flat] at w'
    exact rv.rd (cs := [_, _, _]) w'
  -- the changes that were made
  have six : ∀ (mm cb bm bn : Nat) (d1 d2 : Dir), d1.Perm D.ed → d2.Perm D.es → ∀ (k i : Nat), i + k = D.row.length → ∀ (seen : List Nat) (G : List FO) (a' : Option Addr) (c' : Nat) (h' : AH), Made D.F seen G → (∀ e ∈ d1, e.2 ∈ seen) → (∀ e ∈ d2, e.2 ∈ seen) → (∀ c ∈ D.row.take i, ∀ j, c.f = some j → j ∈ seen) →
      SlV 3 a' i c' (rowC G ((D.row.take i).map (reC seen))) →
      Own w0 h' (Lk D.F mm cb seen G (slB a' (rowC G ((D.row.take i).map (reC seen))) (c' * 3) ++ ((bm, .map (mapC G (reD seen d1))) :: (bn, .map (mapC G (reD seen d2))) :: (D.blocks s ++ B)))) →
      f37_16 w0 K ⟨cb, 0, none⟩ D.ra D.row.length D.rc ((D.row.length : Nat) : Int) ((i : Nat) : Int) s.room (some bm) (some bn) a' i c' s.off s.calls s.fuse s.wait s.fails h' := by
    intro mm cb bm bn d1 d2 hp1 hp2 k
    induction k with
    | zero =>
      intro i hi seen G a' c' h' M m1 m2 m3 v w'
      have hi' : i = D.row.length := by omega
      subst hi'
      rw [List.take_length] at v w' m3
      refine f37_16_in _ _ _ _ _ _ _ _ _ _ _ _ _ _ _ _ _ _ (brB_of (fun q => absurd (of_decide_eq_true q) (by omega)) fun _ b hb hbn => ?_)
      have w1 : Own w0 h' (fobs G ++ (slB a' (rowC G (D.row.map (reC seen))) (c' * 3) ++ ((bm, .map (mapC G (reD seen d1))) :: (bn, .map (mapC G (reD seen d2))) :: (D.blocks s ++ B)))) := w'.tail.tail
      have w2 := w1.new (o := .cells (pc s.room bm bn a' D.row.length c' s.off s.calls s.fuse s.wait s.fails) 9) hb hbn
      have cov : Cov seen s := by
        have dm : ∀ e ∈ s.dir, e.2 ∈ seen := fun e he => m1 e (hp1.mem_iff.2 (r.dm.mem_iff.2 he))
        refine ⟨M.nd, fun i hi => by rw [← r.len]; exact M.lt i hi, dm, fun d hd e he => ?_⟩
        rw [ewas] at hd
        exact scan_ids (P := fun i => i ∈ seen) (fun e he => m2 e (hp2.mem_iff.2 (hes.mem_iff.2 he))) m3 d hd e he
      have ok := reS_ok r.ok cov
      refine hk _ seen ⟨b, bm, bn, a', c', D.row.map (reC seen), G, reD seen d1, reD seen d2⟩ cov ⟨ok, ?_, M.fv, ?_, ?_, ?_, ⟨reD seen d0, ?_, ?_⟩, ?_⟩ ?_
      · show G.map FO.abs = seen.map (fileAt s.fs)
        rw [M.abs, r.fs]
      · show SlV 3 a' (D.row.map (reC seen)).length c' _
        rw [List.length_map]; exact v
      · intro c hc i hi
        obtain ⟨x, hx, rfl⟩ := List.mem_map.1 hc
        show i < (seen.map (fileAt s.fs)).length
        rw [List.length_map]
        cases q : x.f with
        | none => simp [reC, q] at hi
        | some j =>
          have : nx seen j = i := by simpa [reC, q] using hi
          rw [← this]
          exact nx_lt (m3 x hx j q)
      · exact ((hp1.trans r.dm).map (reE seen))
      · show s.was.map (reD seen) = scanC (reD seen d0) (D.row.map (reC seen))
        rw [reD_scan, ewas]
      · exact ((hp2.trans hes).map (reE seen))
      · show (s.was.map (reD seen)).getLast? = some (reD seen s.dir)
        rw [List.getLast?_map, r.la]; rfl
      · rw [PD.flat]
        have e9 : pcells (reS seen s) ⟨b, bm, bn, a', c', D.row.map (reC seen), G, reD seen d1, reD seen d2⟩ = pc s.room bm bn a' D.row.length c' s.off s.calls s.fuse s.wait s.fails := by
          unfold pcells
          simp only [List.length_map]
          rfl
        rw [e9]
        refine w2.perm (List.Perm.cons _ ?_)
        show (fobs G ++ (slB a' (rowC G (D.row.map (reC seen))) (c' * 3) ++ ([(bm, AB.map (mapC G (reD seen d1))), (bn, AB.map (mapC G (reD seen d2)))] ++ (D.blocks s ++ B)))).Perm ([(bm, AB.map (mapC G (reD seen d1))), (bn, AB.map (mapC G (reD seen d2)))] ++ (slB a' (rowC G (D.row.map (reC seen))) (c' * 3) ++ (fobs G ++ (D.blocks s ++ B))))
        have p1 : ∀ A S L Y : List (Nat × AB), (A ++ (S ++ (L ++ Y))).Perm (L ++ (S ++ (A ++ Y))) := fun A S L Y => by
          have q : (A ++ (S ++ L)).Perm (L ++ (S ++ A)) := (List.perm_append_comm).trans (by rw [List.append_assoc]; exact (List.perm_append_comm_assoc S L A).trans (List.Perm.refl _))
          have := q.append_right Y
          simpa only [List.append_assoc] using this
        exact p1 _ _ _ _
    | succ k ih =>
      intro i hi seen G a' c' h' M m1 m2 m3 v w'
      have hil : i < D.row.length := by omega
      have hget := List.getElem?_eq_getElem hil
      have htk : D.row.take (i + 1) = D.row.take i ++ [D.row[i]] := by rw [List.take_add_one, hget]; rfl
      generalize D.row[i] = ch at hget htk
      have w0Y : Own w0 h' (D.blocks s ++ B) := (w'.tail.tail).drop.drop.tail.tail
      obtain ⟨ad, had, hat⟩ := chgLoad (rdR h' w0Y) hget
      have hch : ∀ j, ch.f = some j → j < D.F.length := fun j hj => by rw [r.len]; exact r.ri ch (List.mem_of_getElem? hget) j hj
      refine f37_16_in _ _ _ _ _ _ _ _ _ _ _ _ _ _ _ _ _ _ (brB_of (fun _ => ⟨ad, had, by omega, by omega, _, _, _, ⟨rfl, hat⟩, f68_spec (o := ch.f) M inj (fun p hp => List.mem_append_right _ (List.mem_cons_of_mem _ (List.mem_cons_of_mem _ (hF (Z := []) p hp)))) r.fv fok (fun h2 w2 j fo hj => file_rd r w2.drop.tail.tail hj) hch w' fun h3 a b M3 hin w3 t3 => ⟨_, rfl, ?_⟩⟩) fun q => absurd (of_decide_eq_false q) (by omega))
      rw [re_row (a := a) (b := b) M m3] at v w3
      rw [re_map (a := a) (b := b) M m1, re_map (a := a) (b := b) M m2] at w3
      refine App_mid (cs := (mm, .map (madeC D.F (seen ++ a) (G ++ b))) :: (cb, .cells [.map (some mm)] 1) :: fobs (G ++ b)) v (by simpa only [List.cons_append, List.append_assoc] using w3) (by omega) (by omega) rfl (fun y hy => ?_) fun a2 c2 h4 v4 w4 => ?_
      · rcases List.mem_cons.1 hy with rfl | hy
        · rfl
        rcases List.mem_cons.1 hy with rfl | hy
        · rfl
        rw [List.mem_singleton] at hy; subst hy; rfl
      · have erow : rowC (G ++ b) ((D.row.take i).map (reC (seen ++ a))) ++ [.string ch.old, .string ch.name, .pointer (match ch.f with | none => none | some i => ptrF (G ++ b) (nx (seen ++ a) i))] = rowC (G ++ b) ((D.row.take (i + 1)).map (reC (seen ++ a))) := by
          rw [htk, List.map_append]
          unfold rowC
          rw [List.flatMap_append]
          congr 1
          simp only [List.map_cons, List.map_nil, List.flatMap_cons, List.flatMap_nil, List.append_nil, chgC, reC]
          cases ch.f <;> rfl
        have v5 : SlV 3 a2 (i + 1) c2 (rowC (G ++ b) ((D.row.take (i + 1)).map (reC (seen ++ a)))) := by rw [← erow]; exact v4
        have w5 : Own w0 h4 ((mm, .map (madeC D.F (seen ++ a) (G ++ b))) :: (cb, .cells [.map (some mm)] 1) :: fobs (G ++ b) ++ (slB a2 (rowC (G ++ b) ((D.row.take (i + 1)).map (reC (seen ++ a)))) (c2 * 3) ++ ((bm, .map (mapC (G ++ b) (reD (seen ++ a) d1))) :: (bn, .map (mapC (G ++ b) (reD (seen ++ a) d2))) :: (D.blocks s ++ B)))) := by rw [← erow]; exact w4
        rw [wrapS (by omega)]
        refine ih (i + 1) (by omega) (seen ++ a) (G ++ b) a2 c2 h4 M3 (fun e he => List.mem_append_left _ (m1 e he)) (fun e he => List.mem_append_left _ (m2 e he)) (fun c hc j hj => ?_) v5 (by simpa only [Lk, List.cons_append, List.append_assoc] using w5)
        rw [htk] at hc
        rcases List.mem_append.1 hc with hc | hc
        · exact List.mem_append_left _ (m3 c hc j hj)
        · rw [List.mem_singleton] at hc
          subst hc
          exact hin j hj
  -- the directory that is sure
  have twelve : ∀ (mm cb bm bn it : Nat) (d1 : Dir), d1.Perm D.ed → ∀ (k : Nat) (left : List Nat) (cur : Option Nat) (dd : Dir) (seen : List Nat) (G : List FO) (h' : AH), left.length = k → (∀ j ∈ left, j < D.es.length) → (dd ++ left.map (edAt D.es)).Perm D.es → Made D.F seen G → (∀ e ∈ d1, e.2 ∈ seen) → (∀ e ∈ dd, e.2 ∈ seen) →
      Own w0 h' (Lk D.F mm cb seen G ((bn, .map (mapC G (reD seen dd))) :: (bm, .map (mapC G (reD seen d1))) :: (D.blocks s ++ B))) → h' it = some (.mit (some D.ms) left cur) →
      f37_12 w0 K (some ⟨D.bd, 0, none⟩) ⟨cb, 0, none⟩ ⟨it, 0, none⟩ s.room (some bm) (some bn) none 0 0 s.off s.calls s.fuse s.wait s.fails h' := by
    intro mm cb bm bn it d1 hp1 k
    induction k with
    | zero =>
      intro left cur dd seen G h' hl hi hp M m1 m2 w' hit
      have hn := List.eq_nil_of_length_eq_zero hl
      subst hn
      have wY : Own w0 h' (D.blocks s ++ B) := (Lk.other w').tail.tail
      refine f37_12_in _ _ _ _ _ _ _ _ _ _ _ _ _ _ _ ⟨_, _, _, rfl, hit, fun _ => ⟨_, rfl, _, _, _, Own.cell wY hbd rfl, ?_⟩, fun q hq => ⟨_, by injection hq with hq; subst hq; exact (wY.mem hms).2, fun i k x hi => by cases hi⟩⟩
      rw [List.map_nil, List.append_nil] at hp
      refine six mm cb bm bn d1 dd hp1 hp D.row.length 0 (by omega) seen G none 0 h' M m1 m2 (fun c hc => by simp at hc) SlV.nil ?_
      refine w'.perm (List.Perm.cons _ (List.Perm.cons _ (List.Perm.append_left _ ?_)))
      exact List.Perm.swap _ _ _
    | succ k ih =>
      intro left cur dd seen G h' hl hi hp M m1 m2 w' hit
      have wY : Own w0 h' (D.blocks s ++ B) := (Lk.other w').tail.tail
      refine f37_12_in _ _ _ _ _ _ _ _ _ _ _ _ _ _ _ ⟨_, _, _, rfl, hit, fun q => (by rw [q] at hl; cases hl), fun q hq => ⟨_, by injection hq with hq; subst hq; exact (wY.mem hms).2, fun i kk x hil hx => ?_⟩⟩
      have hei : i < D.es.length := hi i hil
      have hge := List.getElem?_eq_getElem hei
      generalize D.es[i] = e at hge
      have hea : edAt D.es i = e := by unfold edAt; rw [hge]; rfl
      have w2 : Own w0 (h'.put it (.mit (some D.ms) (left.erase i) (some i))) _ := w'.other (Own.neI w' hit)
      have wY2 : Own w0 (h'.put it (.mit (some D.ms) (left.erase i) (some i))) (D.blocks s ++ B) := (Lk.other w2).tail.tail
      have hh2 : (h'.put it (.mit (some D.ms) (left.erase i) (some i))) it = some (.mit (some D.ms) (left.erase i) (some i)) := put_same _ _ _
      generalize (h'.put it (.mit (some D.ms) (left.erase i) (some i))) = h2 at w2 wY2 hh2 ⊢
      have hp2 := step_perm hil hea hp
      have hnew := step_new hp2 hesn
      refine ⟨_, _, _, _, rfl, hh2, (wY2.mem hms).2, e.1, ptrF D.F e.2, ?_, f68_spec (o := some e.2) M inj (fun p hp => List.mem_cons_of_mem _ (List.mem_cons_of_mem _ (hF (Z := []) p hp))) r.fv fok (fun h2 w2 j fo hj => file_rd r w2.tail.tail hj) (fun j hj => by injection hj with hj; subst hj; exact hids e (List.mem_of_getElem? hge)) w2 fun h3 a b M3 hin w3 t3 => ?_⟩
      · unfold entIs mapC
        rw [List.getElem?_map, hge]; rfl
      rw [re_map (a := a) (b := b) M m1, re_map (a := a) (b := b) M m2] at w3
      have hne1 : D.ms ≠ mm := Lk.ne (X := (bn, .map (mapC (G ++ b) (reD (seen ++ a) dd))) :: (bm, .map (mapC (G ++ b) (reD (seen ++ a) d1))) :: (D.blocks s ++ B)) w3 (List.mem_cons_of_mem _ (List.mem_cons_of_mem _ hms))
      have w3X := Lk.other (X := (bn, .map (mapC (G ++ b) (reD (seen ++ a) dd))) :: (bm, .map (mapC (G ++ b) (reD (seen ++ a) d1))) :: (D.blocks s ++ B)) w3
      have hne2 : D.ms ≠ bn := w3X.ne _ (List.mem_cons_of_mem _ hms)
      have hit3 := t3 it _ _ _ hne1 hh2
      refine ⟨_, rfl, by kernel_rfl, bn, rfl, mapAt_D w3X (List.mem_cons_self ..) ?_⟩
      dsimp only
      rw [mapC_putN hnew]
      have w4 := Own.updm (cs := (mm, .map (madeC D.F (seen ++ a) (G ++ b))) :: (cb, .cells [.map (some mm)] 1) :: fobs (G ++ b)) (es := mapC (G ++ b) (reD (seen ++ a) (dd ++ [e]))) (by simpa only [List.cons_append, List.append_assoc] using w3)
      have hit4 := (Itk.refl (mm := bn)).putm (es' := mapC (G ++ b) (reD (seen ++ a) (dd ++ [e]))) w3X.hd it _ _ _ hne2 hit3
      refine ih (left.erase i) (some i) (dd ++ [e]) (seen ++ a) (G ++ b) _ (by rw [List.length_erase_of_mem hil]; omega) (fun j hj => hi j (List.mem_of_mem_erase hj)) hp2 M3 (fun x hx => List.mem_append_left _ (m1 x hx)) (fun x hx => ?_) (by simpa only [Lk, List.cons_append, List.append_assoc, List.nil_append] using w4) hit4
      rcases List.mem_append.1 hx with hx | hx
      · exact List.mem_append_left _ (m2 x hx)
      · rw [List.mem_singleton] at hx
        subst hx
        exact hin _ rfl
  -- the directory
  have eight : ∀ (mm cb bm bn it : Nat) (k : Nat) (left : List Nat) (cur : Option Nat) (dd : Dir) (seen : List Nat) (G : List FO) (h' : AH), left.length = k → (∀ j ∈ left, j < D.ed.length) → (dd ++ left.map (edAt D.ed)).Perm D.ed → Made D.F seen G → (∀ e ∈ dd, e.2 ∈ seen) →
      Own w0 h' (Lk D.F mm cb seen G ((bm, .map (mapC G (reD seen dd))) :: (bn, .map []) :: (D.blocks s ++ B))) → h' it = some (.mit (some D.md) left cur) →
      f37_8 w0 K (some ⟨D.bd, 0, none⟩) ⟨cb, 0, none⟩ ⟨it, 0, none⟩ s.room (some bm) (some bn) none 0 0 s.off s.calls s.fuse s.wait s.fails h' := by
    intro mm cb bm bn it k
    induction k with
    | zero =>
      intro left cur dd seen G h' hl hi hp M m2 w' hit
      have hn := List.eq_nil_of_length_eq_zero hl
      subst hn
      have wY : Own w0 h' (D.blocks s ++ B) := (Lk.other w').tail.tail
      refine f37_8_in _ _ _ _ _ _ _ _ _ _ _ _ _ _ _ ⟨_, _, _, rfl, hit, fun _ => ⟨_, rfl, _, Own.cell wY hbd rfl, fun q => (by cases q), fun q hq => ⟨_, by injection hq with hq; subst hq; exact (wY.mem hms).2, fun b hb hbn => ?_⟩⟩, fun q hq => ⟨_, by injection hq with hq; subst hq; exact (wY.mem hmd).2, fun i k x hi => by cases hi⟩⟩
      rw [List.map_nil, List.append_nil] at hp
      refine twelve mm cb bm bn b dd hp _ (List.range (mapC D.F D.es).length) none [] seen G _ rfl (fun j hj => by rw [mapC_length] at hj; exact List.mem_range.1 hj) (by rw [mapC_length, edAt_range]; exact List.Perm.refl _) M m2 (fun e he => by cases he) ?_ (put_same _ _ _)
      refine (w'.past hbn).perm (List.Perm.cons _ (List.Perm.cons _ (List.Perm.append_left _ ?_)))
      exact List.Perm.swap _ _ _
    | succ k ih =>
      intro left cur dd seen G h' hl hi hp M m2 w' hit
      have wY : Own w0 h' (D.blocks s ++ B) := (Lk.other w').tail.tail
      refine f37_8_in _ _ _ _ _ _ _ _ _ _ _ _ _ _ _ ⟨_, _, _, rfl, hit, fun q => (by rw [q] at hl; cases hl), fun q hq => ⟨_, by injection hq with hq; subst hq; exact (wY.mem hmd).2, fun i kk x hil hx => ?_⟩⟩
      have hei : i < D.ed.length := hi i hil
      have hge := List.getElem?_eq_getElem hei
      generalize D.ed[i] = e at hge
      have hea : edAt D.ed i = e := by unfold edAt; rw [hge]; rfl
      have w2 : Own w0 (h'.put it (.mit (some D.md) (left.erase i) (some i))) _ := w'.other (Own.neI w' hit)
      have wY2 : Own w0 (h'.put it (.mit (some D.md) (left.erase i) (some i))) (D.blocks s ++ B) := (Lk.other w2).tail.tail
      have hh2 : (h'.put it (.mit (some D.md) (left.erase i) (some i))) it = some (.mit (some D.md) (left.erase i) (some i)) := put_same _ _ _
      generalize (h'.put it (.mit (some D.md) (left.erase i) (some i))) = h2 at w2 wY2 hh2 ⊢
      have hp2 := step_perm hil hea hp
      have hnew := step_new hp2 hedn
      refine ⟨_, _, _, _, rfl, hh2, (wY2.mem hmd).2, e.1, ptrF D.F e.2, ?_, f68_spec (o := some e.2) M inj (fun p hp => List.mem_cons_of_mem _ (List.mem_cons_of_mem _ (hF (Z := []) p hp))) r.fv fok (fun h2 w2 j fo hj => file_rd r w2.tail.tail hj) (fun j hj => by injection hj with hj; subst hj; exact hidd e (List.mem_of_getElem? hge)) w2 fun h3 a b M3 hin w3 t3 => ?_⟩
      · unfold entIs mapC
        rw [List.getElem?_map, hge]; rfl
      rw [re_map (a := a) (b := b) M m2] at w3
      have hne1 : D.md ≠ mm := Lk.ne (X := (bm, .map (mapC (G ++ b) (reD (seen ++ a) dd))) :: (bn, .map []) :: (D.blocks s ++ B)) w3 (List.mem_cons_of_mem _ (List.mem_cons_of_mem _ hmd))
      have w3X := Lk.other (X := (bm, .map (mapC (G ++ b) (reD (seen ++ a) dd))) :: (bn, .map []) :: (D.blocks s ++ B)) w3
      have hne2 : D.md ≠ bm := w3X.ne _ (List.mem_cons_of_mem _ hmd)
      have hit3 := t3 it _ _ _ hne1 hh2
      refine ⟨_, rfl, by kernel_rfl, bm, rfl, mapAt_D w3X (List.mem_cons_self ..) ?_⟩
      dsimp only
      rw [mapC_putN hnew]
      have w4 := Own.updm (cs := (mm, .map (madeC D.F (seen ++ a) (G ++ b))) :: (cb, .cells [.map (some mm)] 1) :: fobs (G ++ b)) (es := mapC (G ++ b) (reD (seen ++ a) (dd ++ [e]))) (by simpa only [List.cons_append, List.append_assoc] using w3)
      have hit4 := (Itk.refl (mm := bm)).putm (es' := mapC (G ++ b) (reD (seen ++ a) (dd ++ [e]))) w3X.hd it _ _ _ hne2 hit3
      refine ih (left.erase i) (some i) (dd ++ [e]) (seen ++ a) (G ++ b) _ (by rw [List.length_erase_of_mem hil]; omega) (fun j hj => hi j (List.mem_of_mem_erase hj)) hp2 M3 (fun x hx => ?_) (by simpa only [Lk, List.cons_append, List.append_assoc, List.nil_append] using w4) hit4
      rcases List.mem_append.1 hx with hx | hx
      · exact List.mem_append_left _ (m2 x hx)
      · rw [List.mem_singleton] at hx
        subst hx
        exact hin _ rfl
  refine f37_go _ _ (brB_of (fun q => by cases q) fun _ mm hm hmn cb hcb hcn => ?_)
  have w1 := w.new (o := .map []) hm hmn
  have w2 := w1.new (o := .cells [.map (some mm)] 1) hcb hcn
  generalize ((h.put mm (.map [])).put cb (.cells [.map (some mm)] 1)) = h2 at w2 ⊢
  have wY : Own w0 h2 (D.blocks s ++ B) := w2.tail.tail
  refine ⟨_, rfl, _, _, _, _, _, _, _, _, _, _, _, ⟨rfl, fun j x hj => Own.cell (xs := pcells s D) wY hbd hj⟩, fun bm hbm hbmn bn hbn hbnn => ?_⟩
  have w3 := w2.new (o := .map []) hbm hbmn
  have w4 := w3.new (o := .map []) hbn hbnn
  generalize ((h2.put bm (.map [])).put bn (.map [])) = h4 at w4 ⊢
  have wY4 : Own w0 h4 (D.blocks s ++ B) := w4.tail.tail.tail.tail
  refine ⟨_, rfl, _, Own.cell wY4 hbd rfl, fun q => (by cases q), fun q hq => ⟨_, by injection hq with hq; subst hq; exact (wY4.mem hmd).2, fun b hb hbn => ?_⟩⟩
  refine eight mm cb bm bn b _ (List.range (mapC D.F D.ed).length) none [] [] [] _ rfl (fun j hj => by rw [mapC_length] at hj; exact List.mem_range.1 hj) (by rw [mapC_length, edAt_range]; exact List.Perm.refl _) ⟨by simp, by simp, rfl, fun f hf => by cases hf⟩ (fun e he => by cases he) ?_ (put_same _ _ _)
  refine (w4.past hbn).perm ?_
  show ([(bn, AB.map []), (bm, AB.map []), (cb, AB.cells [.map (some mm)] 1), (mm, AB.map [])] ++ (D.blocks s ++ B)).Perm ([(mm, AB.map []), (cb, AB.cells [.map (some mm)] 1), (bm, AB.map []), (bn, AB.map [])] ++ (D.blocks s ++ B))
  refine List.Perm.append_right _ ?_
  exact (List.reverse_perm [(mm, AB.map []), (cb, AB.cells [.map (some mm)] 1), (bm, AB.map []), (bn, AB.map [])])
end Go.G.Ytpjklfmfgmicaaa
