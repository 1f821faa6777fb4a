/- States: may they be? -/
import Derived.Test.YtilifcggegabfaaDoorSL
import Derived.Test.YtilifcggegabfaaDoorProg
set_option maxRecDepth 100000
namespace Go.G.YtilifcggegabfaaDoor
open Go.RowKit
def f11_J : Nat → List Nat × Nat := jOf [(2, [0, 2, 3, 4, 5, 6, 8, 9, 10, 11, 12, 13, 14, 15, 16, 17, 18, 19, 20, 21, 22, 23, 24, 25, 26, 27, 28, 29, 30, 31, 32, 33, 34, 35, 36, 37, 38, 39, 40, 41, 42, 43, 44, 45, 46, 47, 48, 49, 50, 51, 52, 53, 54, 55, 56, 57, 58, 59, 60, 61, 62, 63, 64, 65, 66, 67, 68, 69, 70, 71, 72, 73, 74, 75, 76, 77, 78], 1), (5, [0, 2, 3, 4, 5, 6, 7, 8, 9, 10, 11, 12, 13, 14, 15, 16, 17, 18, 19, 20, 21, 22, 23, 24, 25, 26, 27, 29, 30, 31, 32, 33, 34, 35, 36, 37, 38, 39, 40, 41, 42, 43, 44, 45, 46, 47, 48, 49, 50, 51, 52, 53, 54, 55, 56, 57, 58, 59, 60, 61, 62, 63, 64, 65, 66, 67, 68, 69, 70, 71, 72, 73, 74, 75, 76, 77, 78], 1), (6, [0, 2, 3, 4, 5, 6, 7, 8, 9, 10, 11, 12, 13, 14, 15, 16, 17, 18, 19, 20, 21, 22, 23, 24, 25, 26, 27, 28, 29, 30, 31, 32, 33, 34, 35, 36, 37, 38, 39, 40, 41, 42, 43, 44, 45, 46, 47, 48, 49, 50, 51, 52, 53, 54, 55, 56, 57, 58, 59, 60, 61, 62, 63, 64, 65, 66, 67, 68, 69, 70, 71, 72, 73, 74, 75, 76, 77, 78], 1), (7, [0, 2, 3, 4, 5, 6, 7, 8, 9, 10, 11, 12, 13, 14, 15, 16, 17, 18, 19, 20, 21, 22, 23, 24, 25, 26, 27, 28, 29, 30, 31, 32, 33, 34, 35, 36, 37, 41, 42, 43, 44, 45, 46, 47, 48, 49, 50, 51, 52, 53, 54, 55, 56, 57, 58, 59, 60, 61, 62, 63, 64, 65, 66, 67, 68, 69, 70, 71, 72, 73, 74, 75, 76, 77, 78], 1), (10, [0, 2, 3, 4, 5, 6, 7, 8, 9, 10, 11, 12, 13, 14, 15, 16, 17, 18, 19, 20, 21, 22, 23, 24, 25, 26, 27, 28, 29, 30, 31, 32, 33, 34, 35, 36, 37, 41, 42, 43, 44, 45, 46, 47, 48, 49, 50, 51, 52, 53, 54, 55, 56, 57, 58, 59, 60, 61, 62, 63, 65, 66, 67, 68, 69, 70, 71, 72, 73, 74, 75, 76, 77, 78], 1), (13, [0, 2, 3, 4, 5, 6, 7, 8, 9, 10, 11, 12, 13, 14, 15, 16, 17, 18, 19, 20, 21, 22, 23, 24, 25, 26, 27, 28, 29, 30, 31, 32, 33, 34, 35, 36, 37, 38, 39, 40, 41, 42, 43, 44, 45, 46, 47, 48, 49, 50, 51, 52, 53, 54, 55, 56, 57, 58, 59, 60, 61, 62, 63, 64, 65, 66, 70, 71, 72, 73, 74, 75, 76, 77, 78], 1)]

def f11_2 (w0 : World) (K : Value → AH → Prop) (x7 : Bool) (xb0_0 : Int) (ab0_1 : Option Go.Addr) (nb0_1 : Nat) (cb0_1 : Nat) (ab0_2 : Option Go.Addr) (nb0_2 : Nat) (cb0_2 : Nat) (h : AH) : Prop :=
  ∀ j : Nat → Value, LPk Go.Proofs.Tryd.prog w0 (EvC Go.Proofs.Tryd.prog w0) f11_J 11 K 2 [.v (j 0), .bp 0 0, .v (j 2), .v (j 3), .v (j 4), .v (j 5), .v (j 6), .v (.bool x7), .v (j 8), .v (j 9), .v (j 10), .v (j 11), .v (j 12), .v (j 13), .v (j 14), .v (j 15), .v (j 16), .v (j 17), .v (j 18), .v (j 19), .v (j 20), .v (j 21), .v (j 22), .v (j 23), .v (j 24), .v (j 25), .v (j 26), .v (j 27), .v (j 28), .v (j 29), .v (j 30), .v (j 31), .v (j 32), .v (j 33), .v (j 34), .v (j 35), .v (j 36), .v (j 37), .v (j 38), .v (j 39), .v (j 40), .v (j 41), .v (j 42), .v (j 43), .v (j 44), .v (j 45), .v (j 46), .v (j 47), .v (j 48), .v (j 49), .v (j 50), .v (j 51), .v (j 52), .v (j 53), .v (j 54), .v (j 55), .v (j 56), .v (j 57), .v (j 58), .v (j 59), .v (j 60), .v (j 61), .v (j 62), .v (j 63), .v (j 64), .v (j 65), .v (j 66), .v (j 67), .v (j 68), .v (j 69), .v (j 70), .v (j 71), .v (j 72), .v (j 73), .v (j 74), .v (j 75), .v (j 76), .v (j 77), .v (j 78)] [some [(.int .i64 xb0_0), (.slice ab0_1 nb0_1 cb0_1), (.slice ab0_2 nb0_2 cb0_2)]] h

def f11_5 (w0 : World) (K : Value → AH → Prop) (x28 : Bool) (xb0_0 : Int) (ab0_1 : Option Go.Addr) (nb0_1 : Nat) (cb0_1 : Nat) (ab0_2 : Option Go.Addr) (nb0_2 : Nat) (cb0_2 : Nat) (h : AH) : Prop :=
  ∀ j : Nat → Value, LPk Go.Proofs.Tryd.prog w0 (EvC Go.Proofs.Tryd.prog w0) f11_J 11 K 5 [.v (j 0), .bp 0 0, .v (j 2), .v (j 3), .v (j 4), .v (j 5), .v (j 6), .v (j 7), .v (j 8), .v (j 9), .v (j 10), .v (j 11), .v (j 12), .v (j 13), .v (j 14), .v (j 15), .v (j 16), .v (j 17), .v (j 18), .v (j 19), .v (j 20), .v (j 21), .v (j 22), .v (j 23), .v (j 24), .v (j 25), .v (j 26), .v (j 27), .v (.bool x28), .v (j 29), .v (j 30), .v (j 31), .v (j 32), .v (j 33), .v (j 34), .v (j 35), .v (j 36), .v (j 37), .v (j 38), .v (j 39), .v (j 40), .v (j 41), .v (j 42), .v (j 43), .v (j 44), .v (j 45), .v (j 46), .v (j 47), .v (j 48), .v (j 49), .v (j 50), .v (j 51), .v (j 52), .v (j 53), .v (j 54), .v (j 55), .v (j 56), .v (j 57), .v (j 58), .v (j 59), .v (j 60), .v (j 61), .v (j 62), .v (j 63), .v (j 64), .v (j 65), .v (j 66), .v (j 67), .v (j 68), .v (j 69), .v (j 70), .v (j 71), .v (j 72), .v (j 73), .v (j 74), .v (j 75), .v (j 76), .v (j 77), .v (j 78)] [some [(.int .i64 xb0_0), (.slice ab0_1 nb0_1 cb0_1), (.slice ab0_2 nb0_2 cb0_2)]] h

def f11_6 (w0 : World) (K : Value → AH → Prop) (xb0_0 : Int) (ab0_1 : Option Go.Addr) (nb0_1 : Nat) (cb0_1 : Nat) (ab0_2 : Option Go.Addr) (nb0_2 : Nat) (cb0_2 : Nat) (h : AH) : Prop :=
  ∀ j : Nat → Value, LPk Go.Proofs.Tryd.prog w0 (EvC Go.Proofs.Tryd.prog w0) f11_J 11 K 6 [.v (j 0), .bp 0 0, .v (j 2), .v (j 3), .v (j 4), .v (j 5), .v (j 6), .v (j 7), .v (j 8), .v (j 9), .v (j 10), .v (j 11), .v (j 12), .v (j 13), .v (j 14), .v (j 15), .v (j 16), .v (j 17), .v (j 18), .v (j 19), .v (j 20), .v (j 21), .v (j 22), .v (j 23), .v (j 24), .v (j 25), .v (j 26), .v (j 27), .v (j 28), .v (j 29), .v (j 30), .v (j 31), .v (j 32), .v (j 33), .v (j 34), .v (j 35), .v (j 36), .v (j 37), .v (j 38), .v (j 39), .v (j 40), .v (j 41), .v (j 42), .v (j 43), .v (j 44), .v (j 45), .v (j 46), .v (j 47), .v (j 48), .v (j 49), .v (j 50), .v (j 51), .v (j 52), .v (j 53), .v (j 54), .v (j 55), .v (j 56), .v (j 57), .v (j 58), .v (j 59), .v (j 60), .v (j 61), .v (j 62), .v (j 63), .v (j 64), .v (j 65), .v (j 66), .v (j 67), .v (j 68), .v (j 69), .v (j 70), .v (j 71), .v (j 72), .v (j 73), .v (j 74), .v (j 75), .v (j 76), .v (j 77), .v (j 78)] [some [(.int .i64 xb0_0), (.slice ab0_1 nb0_1 cb0_1), (.slice ab0_2 nb0_2 cb0_2)]] h

def f11_7 (w0 : World) (K : Value → AH → Prop) (a38 : Option Go.Addr) (n38 : Nat) (c38 : Nat) (x39 : Int) (x40 : Int) (xb0_0 : Int) (ab0_1 : Option Go.Addr) (nb0_1 : Nat) (cb0_1 : Nat) (ab0_2 : Option Go.Addr) (nb0_2 : Nat) (cb0_2 : Nat) (h : AH) : Prop :=
  ∀ j : Nat → Value, LPk Go.Proofs.Tryd.prog w0 (EvC Go.Proofs.Tryd.prog w0) f11_J 11 K 7 [.v (j 0), .bp 0 0, .v (j 2), .v (j 3), .v (j 4), .v (j 5), .v (j 6), .v (j 7), .v (j 8), .v (j 9), .v (j 10), .v (j 11), .v (j 12), .v (j 13), .v (j 14), .v (j 15), .v (j 16), .v (j 17), .v (j 18), .v (j 19), .v (j 20), .v (j 21), .v (j 22), .v (j 23), .v (j 24), .v (j 25), .v (j 26), .v (j 27), .v (j 28), .v (j 29), .v (j 30), .v (j 31), .v (j 32), .v (j 33), .v (j 34), .v (j 35), .v (j 36), .v (j 37), .v (.slice a38 n38 c38), .v (.int .i64 x39), .v (.int .i64 x40), .v (j 41), .v (j 42), .v (j 43), .v (j 44), .v (j 45), .v (j 46), .v (j 47), .v (j 48), .v (j 49), .v (j 50), .v (j 51), .v (j 52), .v (j 53), .v (j 54), .v (j 55), .v (j 56), .v (j 57), .v (j 58), .v (j 59), .v (j 60), .v (j 61), .v (j 62), .v (j 63), .v (j 64), .v (j 65), .v (j 66), .v (j 67), .v (j 68), .v (j 69), .v (j 70), .v (j 71), .v (j 72), .v (j 73), .v (j 74), .v (j 75), .v (j 76), .v (j 77), .v (j 78)] [some [(.int .i64 xb0_0), (.slice ab0_1 nb0_1 cb0_1), (.slice ab0_2 nb0_2 cb0_2)]] h

def f11_10 (w0 : World) (K : Value → AH → Prop) (a38 : Option Go.Addr) (n38 : Nat) (c38 : Nat) (x39 : Int) (x40 : Int) (x64 : Bool) (xb0_0 : Int) (ab0_1 : Option Go.Addr) (nb0_1 : Nat) (cb0_1 : Nat) (ab0_2 : Option Go.Addr) (nb0_2 : Nat) (cb0_2 : Nat) (h : AH) : Prop :=
  ∀ j : Nat → Value, LPk Go.Proofs.Tryd.prog w0 (EvC Go.Proofs.Tryd.prog w0) f11_J 11 K 10 [.v (j 0), .bp 0 0, .v (j 2), .v (j 3), .v (j 4), .v (j 5), .v (j 6), .v (j 7), .v (j 8), .v (j 9), .v (j 10), .v (j 11), .v (j 12), .v (j 13), .v (j 14), .v (j 15), .v (j 16), .v (j 17), .v (j 18), .v (j 19), .v (j 20), .v (j 21), .v (j 22), .v (j 23), .v (j 24), .v (j 25), .v (j 26), .v (j 27), .v (j 28), .v (j 29), .v (j 30), .v (j 31), .v (j 32), .v (j 33), .v (j 34), .v (j 35), .v (j 36), .v (j 37), .v (.slice a38 n38 c38), .v (.int .i64 x39), .v (.int .i64 x40), .v (j 41), .v (j 42), .v (j 43), .v (j 44), .v (j 45), .v (j 46), .v (j 47), .v (j 48), .v (j 49), .v (j 50), .v (j 51), .v (j 52), .v (j 53), .v (j 54), .v (j 55), .v (j 56), .v (j 57), .v (j 58), .v (j 59), .v (j 60), .v (j 61), .v (j 62), .v (j 63), .v (.bool x64), .v (j 65), .v (j 66), .v (j 67), .v (j 68), .v (j 69), .v (j 70), .v (j 71), .v (j 72), .v (j 73), .v (j 74), .v (j 75), .v (j 76), .v (j 77), .v (j 78)] [some [(.int .i64 xb0_0), (.slice ab0_1 nb0_1 cb0_1), (.slice ab0_2 nb0_2 cb0_2)]] h

def f11_13 (w0 : World) (K : Value → AH → Prop) (a67 : Option Go.Addr) (n67 : Nat) (c67 : Nat) (x68 : Int) (x69 : Int) (xb0_0 : Int) (ab0_1 : Option Go.Addr) (nb0_1 : Nat) (cb0_1 : Nat) (ab0_2 : Option Go.Addr) (nb0_2 : Nat) (cb0_2 : Nat) (h : AH) : Prop :=
  ∀ j : Nat → Value, LPk Go.Proofs.Tryd.prog w0 (EvC Go.Proofs.Tryd.prog w0) f11_J 11 K 13 [.v (j 0), .bp 0 0, .v (j 2), .v (j 3), .v (j 4), .v (j 5), .v (j 6), .v (j 7), .v (j 8), .v (j 9), .v (j 10), .v (j 11), .v (j 12), .v (j 13), .v (j 14), .v (j 15), .v (j 16), .v (j 17), .v (j 18), .v (j 19), .v (j 20), .v (j 21), .v (j 22), .v (j 23), .v (j 24), .v (j 25), .v (j 26), .v (j 27), .v (j 28), .v (j 29), .v (j 30), .v (j 31), .v (j 32), .v (j 33), .v (j 34), .v (j 35), .v (j 36), .v (j 37), .v (j 38), .v (j 39), .v (j 40), .v (j 41), .v (j 42), .v (j 43), .v (j 44), .v (j 45), .v (j 46), .v (j 47), .v (j 48), .v (j 49), .v (j 50), .v (j 51), .v (j 52), .v (j 53), .v (j 54), .v (j 55), .v (j 56), .v (j 57), .v (j 58), .v (j 59), .v (j 60), .v (j 61), .v (j 62), .v (j 63), .v (j 64), .v (j 65), .v (j 66), .v (.slice a67 n67 c67), .v (.int .i64 x68), .v (.int .i64 x69), .v (j 70), .v (j 71), .v (j 72), .v (j 73), .v (j 74), .v (j 75), .v (j 76), .v (j 77), .v (j 78)] [some [(.int .i64 xb0_0), (.slice ab0_1 nb0_1 cb0_1), (.slice ab0_2 nb0_2 cb0_2)]] h

theorem f11_2_in {w0 : World} {K : Value → AH → Prop} (x7 : Bool) (xb0_0 : Int) (ab0_1 : Option Go.Addr) (nb0_1 : Nat) (cb0_1 : Nat) (ab0_2 : Option Go.Addr) (nb0_2 : Nat) (cb0_2 : Nat) (h : AH)
  (hv : (brB x7 (K (Go.Value.bool false) h) (EvC Go.Proofs.Tryd.prog w0 24 #[(Go.Value.slice ab0_1 nb0_1 cb0_1), (Go.Value.func (Go.Fn.func 25) #[] #[])] (fun x'0 h'1 => (∃ t'2 : Bool, ((x'0 = (Go.Value.bool t'2)) ∧ (brB (!t'2) (f11_5 w0 K true xb0_0 ab0_1 nb0_1 cb0_1 ab0_2 nb0_2 cb0_2 h'1) (EvC Go.Proofs.Tryd.prog w0 26 #[(Go.Value.slice ab0_2 nb0_2 cb0_2), (Go.Value.func (Go.Fn.func 27) #[] #[])] (fun x'3 h'4 => (∃ t'5 : Bool, ((x'3 = (Go.Value.bool t'5)) ∧ (f11_5 w0 K (!t'5) xb0_0 ab0_1 nb0_1 cb0_1 ab0_2 nb0_2 cb0_2 h'4)))) h'1))))) h))) :
  f11_2 w0 K x7 xb0_0 ab0_1 nb0_1 cb0_1 ab0_2 nb0_2 cb0_2 h := fun j => LP_intro (P := Go.Proofs.Tryd.prog) (Eq.mp (by kernel_rfl) hv)

theorem f11_5_in {w0 : World} {K : Value → AH → Prop} (x28 : Bool) (xb0_0 : Int) (ab0_1 : Option Go.Addr) (nb0_1 : Nat) (cb0_1 : Nat) (ab0_2 : Option Go.Addr) (nb0_2 : Nat) (cb0_2 : Nat) (h : AH)
  (hv : (brB x28 (K (Go.Value.bool false) h) (f11_6 w0 K xb0_0 ab0_1 nb0_1 cb0_1 ab0_2 nb0_2 cb0_2 h))) :
  f11_5 w0 K x28 xb0_0 ab0_1 nb0_1 cb0_1 ab0_2 nb0_2 cb0_2 h := fun j => LP_intro (P := Go.Proofs.Tryd.prog) (Eq.mp (by kernel_rfl) hv)

theorem f11_6_in {w0 : World} {K : Value → AH → Prop} (xb0_0 : Int) (ab0_1 : Option Go.Addr) (nb0_1 : Nat) (cb0_1 : Nat) (ab0_2 : Option Go.Addr) (nb0_2 : Nat) (cb0_2 : Nat) (h : AH)
  (hv : (f11_7 w0 K ab0_1 nb0_1 cb0_1 ((nb0_1 : Nat) : Int) (0 : Int) xb0_0 ab0_1 nb0_1 cb0_1 ab0_2 nb0_2 cb0_2 h)) :
  f11_6 w0 K xb0_0 ab0_1 nb0_1 cb0_1 ab0_2 nb0_2 cb0_2 h := fun j => LP_intro (P := Go.Proofs.Tryd.prog) (Eq.mp (by kernel_rfl) hv)

theorem f11_7_in {w0 : World} {K : Value → AH → Prop} (a38 : Option Go.Addr) (n38 : Nat) (c38 : Nat) (x39 : Int) (x40 : Int) (xb0_0 : Int) (ab0_1 : Option Go.Addr) (nb0_1 : Nat) (cb0_1 : Nat) (ab0_2 : Option Go.Addr) (nb0_2 : Nat) (cb0_2 : Nat) (h : AH)
  (hv : (brB (decide ((x40 < x39))) (∃ a'6 : Go.Addr, ((a38 = (some a'6)) ∧ (((0 : Int) ≤ x40) ∧ ((x40 < ((n38 : Nat) : Int)) ∧ (∃ s'7 : ByteArray, (∃ p'8 : Option Go.Addr, (∃ n'9 : Nat, (∃ n'10 : Nat, (∃ i'11 : Int, (∃ t'12 : Bool, (∃ i'13 : Int, ((((Array.size #[(Go.Value.string s'7), (Go.Value.slice p'8 n'9 n'10), (Go.Value.int .i64 i'11), (Go.Value.bool t'12), (Go.Value.int .i64 i'13)]) = 5) ∧ (At w0 h (Go.Addr.add a'6 ((Int.toNat x40) * 5)) [(Go.Value.string s'7), (Go.Value.slice p'8 n'9 n'10), (Go.Value.int .i64 i'11), (Go.Value.bool t'12), (Go.Value.int .i64 i'13)])) ∧ (EvC Go.Proofs.Tryd.prog w0 28 #[(Go.Value.agg #[(Go.Value.string s'7), (Go.Value.slice p'8 n'9 n'10), (Go.Value.int .i64 i'11), (Go.Value.bool t'12), (Go.Value.int .i64 i'13)])] (fun x'14 h'15 => (∃ t'16 : Bool, ((x'14 = (Go.Value.bool t'16)) ∧ (brB (!t'16) (f11_10 w0 K a38 n38 c38 x39 x40 true xb0_0 ab0_1 nb0_1 cb0_1 ab0_2 nb0_2 cb0_2 h'15) (brB (!t'12) (f11_10 w0 K a38 n38 c38 x39 x40 true xb0_0 ab0_1 nb0_1 cb0_1 ab0_2 nb0_2 cb0_2 h'15) (brB (((n'9 : Nat) : Int) == (0 : Int)) (f11_10 w0 K a38 n38 c38 x39 x40 true xb0_0 ab0_1 nb0_1 cb0_1 ab0_2 nb0_2 cb0_2 h'15) (f11_10 w0 K a38 n38 c38 x39 x40 (decide ((i'13 ≤ xb0_0))) xb0_0 ab0_1 nb0_1 cb0_1 ab0_2 nb0_2 cb0_2 h'15))))))) h))))))))))))) (f11_13 w0 K ab0_2 nb0_2 cb0_2 ((nb0_2 : Nat) : Int) (0 : Int) xb0_0 ab0_1 nb0_1 cb0_1 ab0_2 nb0_2 cb0_2 h))) :
  f11_7 w0 K a38 n38 c38 x39 x40 xb0_0 ab0_1 nb0_1 cb0_1 ab0_2 nb0_2 cb0_2 h := fun j => LP_intro (P := Go.Proofs.Tryd.prog) (Eq.mp (by kernel_rfl) hv)

theorem f11_10_in {w0 : World} {K : Value → AH → Prop} (a38 : Option Go.Addr) (n38 : Nat) (c38 : Nat) (x39 : Int) (x40 : Int) (x64 : Bool) (xb0_0 : Int) (ab0_1 : Option Go.Addr) (nb0_1 : Nat) (cb0_1 : Nat) (ab0_2 : Option Go.Addr) (nb0_2 : Nat) (cb0_2 : Nat) (h : AH)
  (hv : (brB x64 (K (Go.Value.bool false) h) (f11_7 w0 K a38 n38 c38 x39 (Go.IntKind.wrap .i64 (x40 + (1 : Int))) xb0_0 ab0_1 nb0_1 cb0_1 ab0_2 nb0_2 cb0_2 h))) :
  f11_10 w0 K a38 n38 c38 x39 x40 x64 xb0_0 ab0_1 nb0_1 cb0_1 ab0_2 nb0_2 cb0_2 h := fun j => LP_intro (P := Go.Proofs.Tryd.prog) (Eq.mp (by kernel_rfl) hv)

theorem f11_13_in {w0 : World} {K : Value → AH → Prop} (a67 : Option Go.Addr) (n67 : Nat) (c67 : Nat) (x68 : Int) (x69 : Int) (xb0_0 : Int) (ab0_1 : Option Go.Addr) (nb0_1 : Nat) (cb0_1 : Nat) (ab0_2 : Option Go.Addr) (nb0_2 : Nat) (cb0_2 : Nat) (h : AH)
  (hv : (brB (decide ((x69 < x68))) (∃ a'17 : Go.Addr, ((a67 = (some a'17)) ∧ (((0 : Int) ≤ x69) ∧ ((x69 < ((n67 : Nat) : Int)) ∧ (∃ s'18 : ByteArray, (∃ p'19 : Option Go.Addr, (∃ n'20 : Nat, (∃ n'21 : Nat, (∃ p'22 : Option Go.Addr, (∃ n'23 : Nat, (∃ n'24 : Nat, (∃ p'25 : Option Go.Addr, (∃ n'26 : Nat, (∃ n'27 : Nat, (∃ p'28 : Option Go.Addr, (∃ n'29 : Nat, (∃ n'30 : Nat, (∃ i'31 : Int, (∃ i'32 : Int, (∃ i'33 : Int, ((((Array.size #[(Go.Value.string s'18), (Go.Value.slice p'19 n'20 n'21), (Go.Value.slice p'22 n'23 n'24), (Go.Value.slice p'25 n'26 n'27), (Go.Value.slice p'28 n'29 n'30), (Go.Value.int .i64 i'31), (Go.Value.int .i64 i'32), (Go.Value.int .i64 i'33)]) = 8) ∧ (At w0 h (Go.Addr.add a'17 ((Int.toNat x69) * 8)) [(Go.Value.string s'18), (Go.Value.slice p'19 n'20 n'21), (Go.Value.slice p'22 n'23 n'24), (Go.Value.slice p'25 n'26 n'27), (Go.Value.slice p'28 n'29 n'30), (Go.Value.int .i64 i'31), (Go.Value.int .i64 i'32), (Go.Value.int .i64 i'33)])) ∧ (EvC Go.Proofs.Tryd.prog w0 29 #[(Go.Value.agg #[(Go.Value.string s'18), (Go.Value.slice p'19 n'20 n'21), (Go.Value.slice p'22 n'23 n'24), (Go.Value.slice p'25 n'26 n'27), (Go.Value.slice p'28 n'29 n'30), (Go.Value.int .i64 i'31), (Go.Value.int .i64 i'32), (Go.Value.int .i64 i'33)]), (Go.Value.int .i64 xb0_0)] (fun x'34 h'35 => (∃ t'36 : Bool, ((x'34 = (Go.Value.bool t'36)) ∧ (brB (!t'36) (K (Go.Value.bool false) h'35) (f11_13 w0 K a67 n67 c67 x68 (Go.IntKind.wrap .i64 (x69 + (1 : Int))) xb0_0 ab0_1 nb0_1 cb0_1 ab0_2 nb0_2 cb0_2 h'35))))) h)))))))))))))))))))))) (K (Go.Value.bool true) h))) :
  f11_13 w0 K a67 n67 c67 x68 x69 xb0_0 ab0_1 nb0_1 cb0_1 ab0_2 nb0_2 cb0_2 h := fun j => LP_intro (P := Go.Proofs.Tryd.prog) (Eq.mp (by kernel_rfl) hv)

theorem f11_go {w0 : World} {K : Value → AH → Prop} (x0_0 : Int) (a0_1 : Option Go.Addr) (n0_1 : Nat) (c0_1 : Nat) (a0_2 : Option Go.Addr) (n0_2 : Nat) (c0_2 : Nat) (h : AH)
  (hv : (brB (decide ((x0_0 < (0 : Int)))) (f11_2 w0 K true x0_0 a0_1 n0_1 c0_1 a0_2 n0_2 c0_2 h) (brB (decide (((1099511627776 : Int) < x0_0))) (f11_2 w0 K true x0_0 a0_1 n0_1 c0_1 a0_2 n0_2 c0_2 h) (brB (decide (((64 : Int) < ((n0_1 : Nat) : Int)))) (f11_2 w0 K true x0_0 a0_1 n0_1 c0_1 a0_2 n0_2 c0_2 h) (f11_2 w0 K (decide (((16 : Int) < ((n0_2 : Nat) : Int)))) x0_0 a0_1 n0_1 c0_1 a0_2 n0_2 c0_2 h))))) :
  EvC Go.Proofs.Tryd.prog w0 11 ([(.agg #[(.int .i64 x0_0), (.slice a0_1 n0_1 c0_1), (.slice a0_2 n0_2 c0_2)])]).toArray K h := EvC_intro (P := Go.Proofs.Tryd.prog) f11_J (Eq.mp (by kernel_rfl) hv)
/-! ### states: may they be? -/
@[reducible] def StM.agg2 (m : StM) : Value := .agg #[.int .i64 m.clock, .slice m.ra m.ret.length m.rc, .slice m.sa m.ses.length m.sc]
section
variable {w0 : World} {K : Value → AH → Prop} {h : AH} {B : List (Nat × AB)}
/-- schema.May. -/
theorem f11_spec {s : StM} (T : TabOk w0) (w : Own w0 h B) (hR : ∀ h', Own w0 h' B → StRd w0 h' s) (hk : ∀ b h', (b = true ↔ MaySt s) → Own w0 h' B → K (.bool b) h') :
    EvC Go.Proofs.Tryd.prog w0 11 #[s.agg2] K h := by
  have no : ∀ h1, ¬ MaySt s → Own w0 h1 B → K (.bool false) h1 := fun h1 hn w1 => hk false h1 ⟨fun z => by (cases z), fun p => absurd p hn⟩ w1
  have r0 := hR h w
  have lrl := r0.rl
  have lsl := r0.sl
  have s13 : ((∀ x ∈ s.ses, MaySes s.clock x) → MaySt s) → ∀ (n i : Nat), i + n = s.ses.length → ∀ h1, Own w0 h1 B → (∀ x ∈ s.ses.take i, MaySes s.clock x) →
      f11_13 w0 K s.sa s.ses.length s.sc ((s.ses.length : Nat) : Int) ((i : Nat) : Int) s.clock s.ra s.ret.length s.rc s.sa s.ses.length s.sc h1 := fun hq n => by
    induction n with
    | zero =>
      intro i hi h1 w1 hm
      rw [List.take_of_length_le (by omega)] at hm
      exact f11_13_in _ _ _ _ _ _ _ _ _ _ _ _ _ (brB_of (fun z => by have := of_decide_eq_true z; omega) fun _ => hk true h1 ⟨fun _ => hq hm, fun _ => rfl⟩ w1)
    | succ n ih =>
      intro i hi h1 w1 hm
      have g1 : s.ses[i]? = some s.ses[i] := List.getElem?_eq_getElem _
      generalize s.ses[i] = x at g1
      have hf := List.mem_of_getElem? g1
      obtain ⟨ad, had, hat⟩ := rowLoad (enc := SesM.cells) (k := 8) (fun _ => rfl) (by decide) (hR h1 w1).ses g1
      refine f11_13_in _ _ _ _ _ _ _ _ _ _ _ _ _ (brB_of (fun _ => ⟨ad, had, by omega, by omega, _, _, _, _, _, _, _, _, _, _, _, _, _, _, _, _, ⟨rfl, hat⟩, ?_⟩) fun z => by have := of_decide_eq_false z; omega)
      refine f29_spec (x := x) T w1 (fun h' w' => (hR h' w').sesk x hf) fun t h2 ht w2 => ⟨t, rfl, brB_of (fun z => no h2 (fun p => ?_) w2) fun z => ?_⟩
      · have := ht.2 (p.ses x hf); rw [this] at z; cases z
      · rw [wrapS (by omega)]; exact ih (i + 1) (by omega) h2 w2 (all_step g1 hm (ht.1 (by simpa using z)))
  have s7 : ((∀ m ∈ s.ret, MayRet s.clock m) → (∀ x ∈ s.ses, MaySes s.clock x) → MaySt s) → ∀ (n i : Nat), i + n = s.ret.length → ∀ h1, Own w0 h1 B → (∀ m ∈ s.ret.take i, MayRet s.clock m) →
      f11_7 w0 K s.ra s.ret.length s.rc ((s.ret.length : Nat) : Int) ((i : Nat) : Int) s.clock s.ra s.ret.length s.rc s.sa s.ses.length s.sc h1 := fun hq n => by
    induction n with
    | zero =>
      intro i hi h1 w1 hm
      rw [List.take_of_length_le (by omega)] at hm
      exact f11_7_in _ _ _ _ _ _ _ _ _ _ _ _ _ (brB_of (fun z => by have := of_decide_eq_true z; omega) fun _ => s13 (hq hm) s.ses.length 0 (by omega) h1 w1 fun _ z => by simp at z)
    | succ n ih =>
      intro i hi h1 w1 hm
      have g1 : s.ret[i]? = some s.ret[i] := List.getElem?_eq_getElem _
      generalize s.ret[i] = f at g1
      have hf := List.mem_of_getElem? g1
      obtain ⟨ad, had, hat⟩ := rowLoad (enc := MsgM.cells) (k := 5) (fun _ => rfl) (by decide) (hR h1 w1).ret.1 g1
      have s10 : ∀ h2 v, Own w0 h2 B → (v = true → ¬ MaySt s) → (v = false → MayRet s.clock f) →
          f11_10 w0 K s.ra s.ret.length s.rc ((s.ret.length : Nat) : Int) ((i : Nat) : Int) v s.clock s.ra s.ret.length s.rc s.sa s.ses.length s.sc h2 := fun h2 v w2 h1' h2' => by
        refine f11_10_in _ _ _ _ _ _ _ _ _ _ _ _ _ _ (brB_of (fun z => no h2 (h1' z) w2) fun z => ?_)
        rw [wrapS (by omega)]
        exact ih (i + 1) (by omega) h2 w2 (all_step g1 hm (h2' z))
      refine f11_7_in _ _ _ _ _ _ _ _ _ _ _ _ _ (brB_of (fun _ => ⟨ad, had, by omega, by omega, _, _, _, _, _, _, _, ⟨rfl, hat⟩, ?_⟩) fun z => by have := of_decide_eq_false z; omega)
      refine f28_spec (m := f) T w1 fun t h2 ht w2 => ⟨t, rfl, brB_of (fun z1 => s10 h2 _ w2 (fun _ p => ?_) fun z => by cases z) fun z1 => brB_of (fun z2 => s10 h2 _ w2 (fun _ p => ?_) fun z => by cases z) fun z2 => brB_of (fun z3 => s10 h2 _ w2 (fun _ p => ?_) fun z => by cases z) fun z3 =>
        s10 h2 _ w2 (fun z4 p => ?_) fun z4 => ⟨ht.1 (by simpa using z1), by simpa using z2, fun e => by rw [e] at z3; simp at z3, by simpa using z4⟩⟩
      · have := ht.2 (p.ret f hf).may; rw [this] at z1; cases z1
      · have := (p.ret f hf).ret; rw [this] at z2; cases z2
      · have := (p.ret f hf).pay; exact this (by simpa using z3)
      · have := (p.ret f hf).til; simp at z4; omega
  have s5 : ∀ h1 v, Own w0 h1 B → (v = true → ¬ MaySt s) → (v = false → (∀ m ∈ s.ret, MayRet s.clock m) → (∀ x ∈ s.ses, MaySes s.clock x) → MaySt s) → f11_5 w0 K v s.clock s.ra s.ret.length s.rc s.sa s.ses.length s.sc h1 := fun h1 v w1 h1' h2' => by
    refine f11_5_in _ _ _ _ _ _ _ _ _ (brB_of (fun z => no h1 (h1' z) w1) fun z => f11_6_in _ _ _ _ _ _ _ _ (s7 (h2' z) s.ret.length 0 (by omega) h1 w1 fun _ z => by simp at z))
  have s2 : ∀ h1 v, Own w0 h1 B → (v = true → ¬ MaySt s) → (v = false → 0 ≤ s.clock ∧ s.clock ≤ 1099511627776 ∧ s.ret.length ≤ 64 ∧ s.ses.length ≤ 16) → f11_2 w0 K v s.clock s.ra s.ret.length s.rc s.sa s.ses.length s.sc h1 := fun h1 v w1 h1' h2' => by
    refine f11_2_in _ _ _ _ _ _ _ _ _ (brB_of (fun z => no h1 (h1' z) w1) fun z => ?_)
    obtain ⟨q1, q2, q3, q4⟩ := h2' z
    refine f24_spec (hR h1 w1).ret.1 (by omega) fun b hb => ⟨b, rfl, brB_of (fun z => s5 h1 _ w1 (fun _ p => ?_) fun z => by cases z) fun z1 => ?_⟩
    · have := hb.2 p.retr; rw [this] at z; cases z
    · refine f26_spec (hR h1 w1).ses (by omega) fun b2 hb2 => ⟨b2, rfl, s5 h1 _ w1 (fun z p => ?_) fun z a1 a2 => ⟨q1, q2, q3, q4, a1, hb.1 (by simpa using z1), a2, hb2.1 (by simpa using z)⟩⟩
      have := hb2.2 p.sesr; rw [this] at z; cases z
  refine f11_go _ _ _ _ _ _ _ _ (brB_of (fun z1 => s2 h _ w (fun _ p => ?_) fun z => by cases z) fun z1 => brB_of (fun z2 => s2 h _ w (fun _ p => ?_) fun z => by cases z) fun z2 => brB_of (fun z3 => s2 h _ w (fun _ p => ?_) fun z => by cases z) fun z3 =>
    s2 h _ w (fun z4 p => ?_) fun z4 => ⟨by simpa using z1, by simpa using z2, by simp at z3; omega, by simp at z4; omega⟩)
  · have := p.clock0; simp at z1; omega
  · have := p.clock; simp at z2; omega
  · have := p.rl; simp at z3; omega
  · have := p.sl; simp at z4; omega
end
end Go.G.YtilifcggegabfaaDoor
