/- light. -/
import Derived.Test.YtilifcggegabfaaDoorSA
import Derived.Test.YtilifcggegabfaaDoorProg
set_option maxRecDepth 100000
namespace Go.G.YtilifcggegabfaaDoor
open Go.RowKit
theorem flat_get {α : Type} {enc : α → List Value} {k : Nat} (hk : ∀ x, (enc x).length = k) : ∀ {l : List α} {i : Nat} {x : α}, l[i]? = some x → ∀ j y, (enc x)[j]? = some y → (l.flatMap enc)[i * k + j]? = some y
  | [], _, _, h, _, _, _ => by simp at h
  | z :: l, 0, x, h, j, y, hj => by
    simp at h; subst h
    rw [List.flatMap_cons, Nat.zero_mul, Nat.zero_add, List.getElem?_append_left (List.getElem?_eq_some_iff.1 hj).1]
    exact hj
  | z :: l, i + 1, x, h, j, y, hj => by
    have ih := flat_get hk (l := l) (i := i) (by simpa using h) j y hj
    rw [List.flatMap_cons, Nat.add_mul, Nat.one_mul, List.getElem?_append_right (by rw [hk]; omega), hk, show i * k + k + j - k = i * k + j by omega]
    exact ih
theorem flat_len {α : Type} {enc : α → List Value} {k : Nat} (hk : ∀ x, (enc x).length = k) : ∀ l : List α, (l.flatMap enc).length = l.length * k
  | [] => by simp
  | x :: l => by rw [List.flatMap_cons, List.length_append, hk, flat_len hk l, List.length_cons, Nat.add_mul, Nat.one_mul]; omega
/-- A row of a slice is loaded. -/
theorem rowLoad {w0 : World} {h : AH} {α : Type} {enc : α → List Value} {k : Nat} (hk : ∀ x, (enc x).length = k) (hk0 : 0 < k) {a : Option Addr} {l : List α} {i : Nat} {x : α} (hr : Rd w0 h a (l.flatMap enc)) (hi : l[i]? = some x) :
    ∃ ad, a = some ad ∧ At w0 h (Addr.add ad ((Int.toNat ((i : Nat) : Int)) * k)) (enc x) := by
  have hg := flat_get hk hi
  have h0 : ∃ y, (enc x)[0]? = some y := ⟨_, List.getElem?_eq_getElem (by rw [hk]; exact hk0)⟩
  obtain ⟨y0, h0⟩ := h0
  obtain ⟨ad, had, _⟩ := hr (i * k + 0) _ (hg 0 _ h0)
  refine ⟨ad, had, fun j y hj => ?_⟩
  obtain ⟨ad', had', hc⟩ := hr (i * k + j) _ (hg j _ hj)
  rw [had] at had'
  injection had' with had'
  subst had'
  rw [Int.toNat_natCast, Deep.add_add]; exact hc
def f10_J : Nat → List Nat × Nat := jOf [(2, [0, 2, 3, 4, 5, 6, 7, 8, 9, 10, 11, 12, 13, 15, 16, 17, 18, 19, 20, 21, 22, 23, 24, 25, 26, 27, 28, 29, 30, 31, 32, 33, 34, 35, 36, 37, 38, 39, 40, 41, 42, 43, 44], 1), (3, [0, 2, 3, 4, 5, 6, 7, 8, 9, 10, 11, 12, 13, 14, 15, 16, 17, 18, 19, 20, 21, 22, 23, 24, 25, 26, 27, 28, 29, 30, 31, 32, 33, 34, 35, 36, 37, 38, 39, 40, 41, 42, 43, 44], 1), (4, [0, 1, 2, 3, 4, 5, 6, 7, 8, 9, 10, 11, 12, 13, 14, 15, 19, 20, 21, 22, 23, 24, 25, 26, 27, 28, 29, 30, 31, 32, 33, 34, 35, 36, 37, 38, 39, 40, 41, 42, 43, 44], 0), (7, [0, 1, 2, 3, 4, 5, 6, 7, 8, 9, 10, 11, 12, 13, 14, 15, 19, 20, 21, 22, 23, 24, 25, 26, 27, 28, 29, 30, 31, 32, 33, 34, 35, 36, 37, 38, 39, 40, 41, 42, 44], 0)]

def f10_2 (w0 : World) (K : Value → AH → Prop) (x14 : Bool) (xb0_0 : Int) (ab0_1 : Option Go.Addr) (nb0_1 : Nat) (cb0_1 : Nat) (ab0_2 : Option Go.Addr) (nb0_2 : Nat) (cb0_2 : Nat) (h : AH) : Prop :=
  ∀ j : Nat → Value, LPk Go.Proofs.Tryd.prog w0 (EvC Go.Proofs.Tryd.prog w0) f10_J 10 K 2 [.v (j 0), .bp 0 0, .v (j 2), .v (j 3), .v (j 4), .v (j 5), .v (j 6), .v (j 7), .v (j 8), .v (j 9), .v (j 10), .v (j 11), .v (j 12), .v (j 13), .v (.bool x14), .v (j 15), .v (j 16), .v (j 17), .v (j 18), .v (j 19), .v (j 20), .v (j 21), .v (j 22), .v (j 23), .v (j 24), .v (j 25), .v (j 26), .v (j 27), .v (j 28), .v (j 29), .v (j 30), .v (j 31), .v (j 32), .v (j 33), .v (j 34), .v (j 35), .v (j 36), .v (j 37), .v (j 38), .v (j 39), .v (j 40), .v (j 41), .v (j 42), .v (j 43), .v (j 44)] [some [(.int .i64 xb0_0), (.slice ab0_1 nb0_1 cb0_1), (.slice ab0_2 nb0_2 cb0_2)]] h

def f10_3 (w0 : World) (K : Value → AH → Prop) (xb0_0 : Int) (ab0_1 : Option Go.Addr) (nb0_1 : Nat) (cb0_1 : Nat) (ab0_2 : Option Go.Addr) (nb0_2 : Nat) (cb0_2 : Nat) (h : AH) : Prop :=
  ∀ j : Nat → Value, LPk Go.Proofs.Tryd.prog w0 (EvC Go.Proofs.Tryd.prog w0) f10_J 10 K 3 [.v (j 0), .bp 0 0, .v (j 2), .v (j 3), .v (j 4), .v (j 5), .v (j 6), .v (j 7), .v (j 8), .v (j 9), .v (j 10), .v (j 11), .v (j 12), .v (j 13), .v (j 14), .v (j 15), .v (j 16), .v (j 17), .v (j 18), .v (j 19), .v (j 20), .v (j 21), .v (j 22), .v (j 23), .v (j 24), .v (j 25), .v (j 26), .v (j 27), .v (j 28), .v (j 29), .v (j 30), .v (j 31), .v (j 32), .v (j 33), .v (j 34), .v (j 35), .v (j 36), .v (j 37), .v (j 38), .v (j 39), .v (j 40), .v (j 41), .v (j 42), .v (j 43), .v (j 44)] [some [(.int .i64 xb0_0), (.slice ab0_1 nb0_1 cb0_1), (.slice ab0_2 nb0_2 cb0_2)]] h

def f10_4 (w0 : World) (K : Value → AH → Prop) (a16 : Option Go.Addr) (n16 : Nat) (c16 : Nat) (x17 : Int) (x18 : Int) (h : AH) : Prop :=
  ∀ j : Nat → Value, LPk Go.Proofs.Tryd.prog w0 (EvC Go.Proofs.Tryd.prog w0) f10_J 10 K 4 [.v (j 0), .v (j 1), .v (j 2), .v (j 3), .v (j 4), .v (j 5), .v (j 6), .v (j 7), .v (j 8), .v (j 9), .v (j 10), .v (j 11), .v (j 12), .v (j 13), .v (j 14), .v (j 15), .v (.slice a16 n16 c16), .v (.int .i64 x17), .v (.int .i64 x18), .v (j 19), .v (j 20), .v (j 21), .v (j 22), .v (j 23), .v (j 24), .v (j 25), .v (j 26), .v (j 27), .v (j 28), .v (j 29), .v (j 30), .v (j 31), .v (j 32), .v (j 33), .v (j 34), .v (j 35), .v (j 36), .v (j 37), .v (j 38), .v (j 39), .v (j 40), .v (j 41), .v (j 42), .v (j 43), .v (j 44)] [] h

def f10_7 (w0 : World) (K : Value → AH → Prop) (a16 : Option Go.Addr) (n16 : Nat) (c16 : Nat) (x17 : Int) (x18 : Int) (x43 : Bool) (h : AH) : Prop :=
  ∀ j : Nat → Value, LPk Go.Proofs.Tryd.prog w0 (EvC Go.Proofs.Tryd.prog w0) f10_J 10 K 7 [.v (j 0), .v (j 1), .v (j 2), .v (j 3), .v (j 4), .v (j 5), .v (j 6), .v (j 7), .v (j 8), .v (j 9), .v (j 10), .v (j 11), .v (j 12), .v (j 13), .v (j 14), .v (j 15), .v (.slice a16 n16 c16), .v (.int .i64 x17), .v (.int .i64 x18), .v (j 19), .v (j 20), .v (j 21), .v (j 22), .v (j 23), .v (j 24), .v (j 25), .v (j 26), .v (j 27), .v (j 28), .v (j 29), .v (j 30), .v (j 31), .v (j 32), .v (j 33), .v (j 34), .v (j 35), .v (j 36), .v (j 37), .v (j 38), .v (j 39), .v (j 40), .v (j 41), .v (j 42), .v (.bool x43), .v (j 44)] [] h

theorem f10_2_in {w0 : World} {K : Value → AH → Prop} (x14 : Bool) (xb0_0 : Int) (ab0_1 : Option Go.Addr) (nb0_1 : Nat) (cb0_1 : Nat) (ab0_2 : Option Go.Addr) (nb0_2 : Nat) (cb0_2 : Nat) (h : AH)
  (hv : (brB x14 (K (Go.Value.bool false) h) (f10_3 w0 K xb0_0 ab0_1 nb0_1 cb0_1 ab0_2 nb0_2 cb0_2 h))) :
  f10_2 w0 K x14 xb0_0 ab0_1 nb0_1 cb0_1 ab0_2 nb0_2 cb0_2 h := fun j => LP_intro (P := Go.Proofs.Tryd.prog) (Eq.mp (by kernel_rfl) hv)

theorem f10_3_in {w0 : World} {K : Value → AH → Prop} (xb0_0 : Int) (ab0_1 : Option Go.Addr) (nb0_1 : Nat) (cb0_1 : Nat) (ab0_2 : Option Go.Addr) (nb0_2 : Nat) (cb0_2 : Nat) (h : AH)
  (hv : (f10_4 w0 K ab0_2 nb0_2 cb0_2 ((nb0_2 : Nat) : Int) (0 : Int) h)) :
  f10_3 w0 K xb0_0 ab0_1 nb0_1 cb0_1 ab0_2 nb0_2 cb0_2 h := fun j => LP_intro (P := Go.Proofs.Tryd.prog) (Eq.mp (by kernel_rfl) hv)

theorem f10_4_in {w0 : World} {K : Value → AH → Prop} (a16 : Option Go.Addr) (n16 : Nat) (c16 : Nat) (x17 : Int) (x18 : Int) (h : AH)
  (hv : (brB (decide ((x18 < x17))) (∃ a'0 : Go.Addr, ((a16 = (some a'0)) ∧ (((0 : Int) ≤ x18) ∧ ((x18 < ((n16 : Nat) : Int)) ∧ (∃ s'1 : ByteArray, (∃ p'2 : Option Go.Addr, (∃ n'3 : Nat, (∃ n'4 : Nat, (∃ p'5 : Option Go.Addr, (∃ n'6 : Nat, (∃ n'7 : Nat, (∃ p'8 : Option Go.Addr, (∃ n'9 : Nat, (∃ n'10 : Nat, (∃ p'11 : Option Go.Addr, (∃ n'12 : Nat, (∃ n'13 : Nat, (∃ i'14 : Int, (∃ i'15 : Int, (∃ i'16 : Int, ((((Array.size #[(Go.Value.string s'1), (Go.Value.slice p'2 n'3 n'4), (Go.Value.slice p'5 n'6 n'7), (Go.Value.slice p'8 n'9 n'10), (Go.Value.slice p'11 n'12 n'13), (Go.Value.int .i64 i'14), (Go.Value.int .i64 i'15), (Go.Value.int .i64 i'16)]) = 8) ∧ (At w0 h (Go.Addr.add a'0 ((Int.toNat x18) * 8)) [(Go.Value.string s'1), (Go.Value.slice p'2 n'3 n'4), (Go.Value.slice p'5 n'6 n'7), (Go.Value.slice p'8 n'9 n'10), (Go.Value.slice p'11 n'12 n'13), (Go.Value.int .i64 i'14), (Go.Value.int .i64 i'15), (Go.Value.int .i64 i'16)])) ∧ (brB (decide (((30 : Int) < ((n'3 : Nat) : Int)))) (f10_7 w0 K a16 n16 c16 x17 x18 true h) (brB (decide (((30 : Int) < ((n'6 : Nat) : Int)))) (f10_7 w0 K a16 n16 c16 x17 x18 true h) (brB (decide (((20 : Int) < ((n'9 : Nat) : Int)))) (f10_7 w0 K a16 n16 c16 x17 x18 true h) (f10_7 w0 K a16 n16 c16 x17 x18 (decide (((100 : Int) < ((n'12 : Nat) : Int)))) h))))))))))))))))))))))))) (K (Go.Value.bool true) h))) :
  f10_4 w0 K a16 n16 c16 x17 x18 h := fun j => LP_intro (P := Go.Proofs.Tryd.prog) (Eq.mp (by kernel_rfl) hv)

theorem f10_7_in {w0 : World} {K : Value → AH → Prop} (a16 : Option Go.Addr) (n16 : Nat) (c16 : Nat) (x17 : Int) (x18 : Int) (x43 : Bool) (h : AH)
  (hv : (brB x43 (K (Go.Value.bool false) h) (f10_4 w0 K a16 n16 c16 x17 (Go.IntKind.wrap .i64 (x18 + (1 : Int))) h))) :
  f10_7 w0 K a16 n16 c16 x17 x18 x43 h := fun j => LP_intro (P := Go.Proofs.Tryd.prog) (Eq.mp (by kernel_rfl) hv)

theorem f10_go {w0 : World} {K : Value → AH → Prop} (x0_0 : Int) (a0_1 : Option Go.Addr) (n0_1 : Nat) (c0_1 : Nat) (a0_2 : Option Go.Addr) (n0_2 : Nat) (c0_2 : Nat) (h : AH)
  (hv : (brB (decide (((80 : Int) < ((n0_1 : Nat) : Int)))) (f10_2 w0 K true x0_0 a0_1 n0_1 c0_1 a0_2 n0_2 c0_2 h) (f10_2 w0 K (decide (((20 : Int) < ((n0_2 : Nat) : Int)))) x0_0 a0_1 n0_1 c0_1 a0_2 n0_2 c0_2 h))) :
  EvC Go.Proofs.Tryd.prog w0 10 ([(.agg #[(.int .i64 x0_0), (.slice a0_1 n0_1 c0_1), (.slice a0_2 n0_2 c0_2)])]).toArray K h := EvC_intro (P := Go.Proofs.Tryd.prog) f10_J (Eq.mp (by kernel_rfl) hv)
structure LightS (m : StM) : Prop where
  ret : m.ret.length ≤ 80
  ses : m.ses.length ≤ 20
  each : ∀ x ∈ m.ses, x.subs.length ≤ 30 ∧ x.queue.length ≤ 30 ∧ x.fl.length ≤ 20 ∧ x.ids.length ≤ 100
section
variable {w0 : World} {K : Value → AH → Prop} {h : AH}
/-- light. -/
theorem f10_spec {m : StM} (k : m.Ok w0) (hf : K (.bool false) h) (ht : LightS m → K (.bool true) h) : EvC Go.Proofs.Tryd.prog w0 10 #[m.agg] K h := by
  have sl := k.sl
  have loop : ∀ (n i : Nat), i + n = m.ses.length → (∀ x ∈ m.ses.take i, x.subs.length ≤ 30 ∧ x.queue.length ≤ 30 ∧ x.fl.length ≤ 20 ∧ x.ids.length ≤ 100) → m.ret.length ≤ 80 → m.ses.length ≤ 20 → f10_4 w0 K m.sa m.ses.length m.sc ((m.ses.length : Nat) : Int) ((i : Nat) : Int) h := fun n => by
    induction n with
    | zero =>
      intro i hi hx hr hs
      rw [List.take_of_length_le (by omega)] at hx
      exact f10_4_in _ _ _ _ _ _ (brB_of (fun z => by have := of_decide_eq_true z; omega) fun _ => ht ⟨hr, hs, hx⟩)
    | succ n ih =>
      intro i hi hx hr hs
      have hg : m.ses[i]? = some m.ses[i] := List.getElem?_eq_getElem _
      obtain ⟨ad, had, hat⟩ := rowLoad (enc := SesM.cells) (k := 8) (fun _ => rfl) (by decide) (k.ses.rd h) hg
      refine f10_4_in _ _ _ _ _ _ (brB_of (fun _ => ⟨ad, had, by omega, by omega, _, _, _, _, _, _, _, _, _, _, _, _, _, _, _, _, ⟨rfl, hat⟩, ?_⟩) fun z => by have := of_decide_eq_false z; omega)
      have bad : f10_7 w0 K m.sa m.ses.length m.sc ((m.ses.length : Nat) : Int) ((i : Nat) : Int) true h := f10_7_in _ _ _ _ _ _ _ (brB_of (fun _ => hf) fun z => by cases z)
      refine brB_of (fun _ => bad) fun q1 => brB_of (fun _ => bad) fun q2 => brB_of (fun _ => bad) fun q3 => f10_7_in _ _ _ _ _ _ _ (brB_of (fun _ => hf) fun q4 => ?_)
      have h1 := of_decide_eq_false q1
      have h2 := of_decide_eq_false q2
      have h3 := of_decide_eq_false q3
      have h4 := of_decide_eq_false q4
      rw [wrapS (by omega)]
      refine ih (i + 1) (by omega) (fun x hxm => ?_) hr hs
      rw [List.take_succ_eq_append_getElem (by omega)] at hxm
      rcases List.mem_append.1 hxm with hxm | hxm
      · exact hx x hxm
      · rw [List.mem_singleton] at hxm; subst hxm; exact ⟨by omega, by omega, by omega, by omega⟩
  refine f10_go _ _ _ _ _ _ _ _ (brB_of (fun _ => f10_2_in _ _ _ _ _ _ _ _ _ (brB_of (fun _ => hf) fun z => by cases z)) fun q => f10_2_in _ _ _ _ _ _ _ _ _ (brB_of (fun _ => hf) fun q2 => ?_))
  have h1 := of_decide_eq_false q
  have h2 := of_decide_eq_false q2
  exact f10_3_in _ _ _ _ _ _ _ _ (loop m.ses.length 0 (by omega) (fun x hx => by simp at hx) (by omega) (by omega))
end
end Go.G.YtilifcggegabfaaDoor
