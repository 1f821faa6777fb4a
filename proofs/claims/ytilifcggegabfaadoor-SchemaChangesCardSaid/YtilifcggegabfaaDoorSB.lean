/- light. -/
import Derived.Test.YtilifcggegabfaaDoorSA
import Derived.Test.YtilifcggegabfaaDoorProg
set_option maxRecDepth 100000
namespace Go.G.YtilifcggegabfaaDoor
open Go.RowKit
open Value (string slice int bool agg)
theorem flat_get {α : Type} {enc : α → List Value} {k : Nat} (hk : ∀ x, (enc x).length = k) : ∀ {l : List α} {i : Nat} {x : α}, l[i]? = some x → ∀ j y, (enc x)[j]? = some y → (l.flatMap enc)[i * k + j]? = some y
  | [], _, _, h, _, _, _ => by simp at h
  | z :: l, 0, x, h, j, y, hj => by
    simp at h; subst h
    rw [List.flatMap_cons, Nat.zero_mul, Nat.zero_add, List.getElem?_append_left (List.getElem?_eq_some_iff.1 hj).1]
    exact hj
  | z :: l, i + 1, x, h, j, y, hj => by
    have ih := flat_get hk (l := l) (i := i) (by simpa using h) j y hj
    rw [List.flatMap_cons, Nat.add_mul, Nat.one_mul, List.getElem?_append_right (by rw [hk]; omega), hk, show i * k + k + j - k = i * k + j by omega]
    exact ih
theorem flat_len {α : Type} {enc : α → List Value} {k : Nat} (hk : ∀ x, (enc x).length = k) : ∀ l : List α, (l.flatMap enc).length = l.length * k
  | [] => by simp
  | x :: l => by rw [List.flatMap_cons, List.length_append, hk, flat_len hk l, List.length_cons, Nat.add_mul, Nat.one_mul]; omega
/-- A row of a slice is loaded. -/
theorem rowLoad {w0 : World} {h : AH} {α : Type} {enc : α → List Value} {k : Nat} (hk : ∀ x, (enc x).length = k) (hk0 : 0 < k) {a : Option Addr} {l : List α} {i : Nat} {x : α} (hr : Rd w0 h a (l.flatMap enc)) (hi : l[i]? = some x) :
    ∃ ad, a = some ad ∧ At w0 h (Addr.add ad ((Int.toNat ((i : Nat) : Int)) * k)) (enc x) := by
  have hg := flat_get hk hi
  have h0 : ∃ y, (enc x)[0]? = some y := ⟨_, List.getElem?_eq_getElem (by rw [hk]; exact hk0)⟩
  obtain ⟨y0, h0⟩ := h0
  obtain ⟨ad, had, _⟩ := hr (i * k + 0) _ (hg 0 _ h0)
  refine ⟨ad, had, fun j y hj => ?_⟩
  obtain ⟨ad', had', hc⟩ := hr (i * k + j) _ (hg j _ hj)
  rw [had] at had'
  injection had' with had'
  subst had'
  rw [Int.toNat_natCast, Deep.add_add]; exact hc
theorem slv_rdm {w0 : World} {h : AH} {bs : List (Nat × AB)} {e : Nat} {a : Option Addr} {n c : Nat} {xs : List Value} (v : SlV e a n c xs) (w : Own w0 h bs) (hm : ∀ p ∈ slB a xs (c * e), p ∈ bs) : Rd w0 h a xs := by
  obtain ⟨h1, h2, h3⟩ := v
  have sl : Sl w0 h e a n c xs := by
    refine ⟨h1, h2, ?_⟩
    cases a with
    | none => exact h3
    | some ad => exact ⟨h3.1, h3.2, (w.mem (hm _ (List.mem_singleton_self _))).1, (w.mem (hm _ (List.mem_singleton_self _))).2⟩
  exact sl.rd
def f10_J : Nat → List Nat × Nat := jOf [(2, [0, 2, 3, 4, 5, 6, 7, 8, 9, 10, 11, 12, 13, 15, 16, 17, 18, 19, 20, 21, 22, 23, 24, 25, 26, 27, 28, 29, 30, 31, 32, 33, 34, 35, 36, 37, 38, 39, 40, 41, 42, 43, 44], 1), (3, [0, 2, 3, 4, 5, 6, 7, 8, 9, 10, 11, 12, 13, 14, 15, 16, 17, 18, 19, 20, 21, 22, 23, 24, 25, 26, 27, 28, 29, 30, 31, 32, 33, 34, 35, 36, 37, 38, 39, 40, 41, 42, 43, 44], 1), (4, [0, 1, 2, 3, 4, 5, 6, 7, 8, 9, 10, 11, 12, 13, 14, 15, 19, 20, 21, 22, 23, 24, 25, 26, 27, 28, 29, 30, 31, 32, 33, 34, 35, 36, 37, 38, 39, 40, 41, 42, 43, 44], 0), (7, [0, 1, 2, 3, 4, 5, 6, 7, 8, 9, 10, 11, 12, 13, 14, 15, 19, 20, 21, 22, 23, 24, 25, 26, 27, 28, 29, 30, 31, 32, 33, 34, 35, 36, 37, 38, 39, 40, 41, 42, 44], 0)]

def f10_2 (w0 : World) (K : Value → AH → Prop) (a : Bool) (b : Int) (c : Option Addr) (d : Nat) (e : Nat) (g : Option Addr) (i : Nat) (k : Nat) (h : AH) : Prop :=
  ∀ j : Nat → Value, LPk Proofs.Tryd.prog w0 (EvC Proofs.Tryd.prog w0) f10_J 10 K 2 [.v (j 0), .bp 0 0, .v (j 2), .v (j 3), .v (j 4), .v (j 5), .v (j 6), .v (j 7), .v (j 8), .v (j 9), .v (j 10), .v (j 11), .v (j 12), .v (j 13), .v (.bool a), .v (j 15), .v (j 16), .v (j 17), .v (j 18), .v (j 19), .v (j 20), .v (j 21), .v (j 22), .v (j 23), .v (j 24), .v (j 25), .v (j 26), .v (j 27), .v (j 28), .v (j 29), .v (j 30), .v (j 31), .v (j 32), .v (j 33), .v (j 34), .v (j 35), .v (j 36), .v (j 37), .v (j 38), .v (j 39), .v (j 40), .v (j 41), .v (j 42), .v (j 43), .v (j 44)] [some [(.int .i64 b), (.slice c d e), (.slice g i k)]] h

def f10_3 (w0 : World) (K : Value → AH → Prop) (a : Int) (b : Option Addr) (c : Nat) (d : Nat) (e : Option Addr) (g : Nat) (i : Nat) (h : AH) : Prop :=
  ∀ j : Nat → Value, LPk Proofs.Tryd.prog w0 (EvC Proofs.Tryd.prog w0) f10_J 10 K 3 [.v (j 0), .bp 0 0, .v (j 2), .v (j 3), .v (j 4), .v (j 5), .v (j 6), .v (j 7), .v (j 8), .v (j 9), .v (j 10), .v (j 11), .v (j 12), .v (j 13), .v (j 14), .v (j 15), .v (j 16), .v (j 17), .v (j 18), .v (j 19), .v (j 20), .v (j 21), .v (j 22), .v (j 23), .v (j 24), .v (j 25), .v (j 26), .v (j 27), .v (j 28), .v (j 29), .v (j 30), .v (j 31), .v (j 32), .v (j 33), .v (j 34), .v (j 35), .v (j 36), .v (j 37), .v (j 38), .v (j 39), .v (j 40), .v (j 41), .v (j 42), .v (j 43), .v (j 44)] [some [(.int .i64 a), (.slice b c d), (.slice e g i)]] h

def f10_4 (w0 : World) (K : Value → AH → Prop) (a : Option Addr) (b : Nat) (c : Nat) (d : Int) (e : Int) (h : AH) : Prop :=
  ∀ j : Nat → Value, LPk Proofs.Tryd.prog w0 (EvC Proofs.Tryd.prog w0) f10_J 10 K 4 [.v (j 0), .v (j 1), .v (j 2), .v (j 3), .v (j 4), .v (j 5), .v (j 6), .v (j 7), .v (j 8), .v (j 9), .v (j 10), .v (j 11), .v (j 12), .v (j 13), .v (j 14), .v (j 15), .v (.slice a b c), .v (.int .i64 d), .v (.int .i64 e), .v (j 19), .v (j 20), .v (j 21), .v (j 22), .v (j 23), .v (j 24), .v (j 25), .v (j 26), .v (j 27), .v (j 28), .v (j 29), .v (j 30), .v (j 31), .v (j 32), .v (j 33), .v (j 34), .v (j 35), .v (j 36), .v (j 37), .v (j 38), .v (j 39), .v (j 40), .v (j 41), .v (j 42), .v (j 43), .v (j 44)] [] h

def f10_7 (w0 : World) (K : Value → AH → Prop) (a : Option Addr) (b : Nat) (c : Nat) (d : Int) (e : Int) (g : Bool) (h : AH) : Prop :=
  ∀ j : Nat → Value, LPk Proofs.Tryd.prog w0 (EvC Proofs.Tryd.prog w0) f10_J 10 K 7 [.v (j 0), .v (j 1), .v (j 2), .v (j 3), .v (j 4), .v (j 5), .v (j 6), .v (j 7), .v (j 8), .v (j 9), .v (j 10), .v (j 11), .v (j 12), .v (j 13), .v (j 14), .v (j 15), .v (.slice a b c), .v (.int .i64 d), .v (.int .i64 e), .v (j 19), .v (j 20), .v (j 21), .v (j 22), .v (j 23), .v (j 24), .v (j 25), .v (j 26), .v (j 27), .v (j 28), .v (j 29), .v (j 30), .v (j 31), .v (j 32), .v (j 33), .v (j 34), .v (j 35), .v (j 36), .v (j 37), .v (j 38), .v (j 39), .v (j 40), .v (j 41), .v (j 42), .v (.bool g), .v (j 44)] [] h

theorem f10_2_in {w0 : World} {K : Value → AH → Prop} (a : Bool) (b : Int) (c : Option Addr) (d : Nat) (e : Nat) (g : Option Addr) (i : Nat) (k : Nat) (h : AH)
  (hv : (brB a (K (bool false) h) (f10_3 w0 K b c d e g i k h))) :
  f10_2 w0 K a b c d e g i k h := fun j => LP_intro (P := Proofs.Tryd.prog) (Eq.mp (by kernel_rfl) hv)

theorem f10_3_in {w0 : World} {K : Value → AH → Prop} (d : Int) (e : Option Addr) (g : Nat) (i : Nat) (b : Option Addr) (a : Nat) (c : Nat) (h : AH)
  (hv : (f10_4 w0 K b a c ((a : Nat) : Int) (0 : Int) h)) :
  f10_3 w0 K d e g i b a c h := fun j => LP_intro (P := Proofs.Tryd.prog) (Eq.mp (by kernel_rfl) hv)

theorem f10_4_in {w0 : World} {K : Value → AH → Prop} (b : Option Addr) (c : Nat) (e : Nat) (d : Int) (a : Int) (h : AH)
  (hv : (brB (decide ((a < d))) (∃ n : Addr, ((b = (some n)) ∧ (((0 : Int) ≤ a) ∧ ((a < ((c : Nat) : Int)) ∧ (∃ o : ByteArray, (∃ p : Option Addr, (∃ g : Nat, (∃ q : Nat, (∃ r : Option Addr, (∃ i : Nat, (∃ s : Nat, (∃ t : Option Addr, (∃ k : Nat, (∃ u : Nat, (∃ v : Option Addr, (∃ m : Nat, (∃ x : Nat, (∃ y : Int, (∃ z : Int, (∃ A : Int, ((((Array.size #[(string o), (slice p g q), (slice r i s), (slice t k u), (slice v m x), (int .i64 y), (int .i64 z), (int .i64 A)]) = 8) ∧ (At w0 h (Addr.add n ((Int.toNat a) * 8)) [(string o), (slice p g q), (slice r i s), (slice t k u), (slice v m x), (int .i64 y), (int .i64 z), (int .i64 A)])) ∧ (brB (decide (((30 : Int) < ((g : Nat) : Int)))) (f10_7 w0 K b c e d a true h) (brB (decide (((30 : Int) < ((i : Nat) : Int)))) (f10_7 w0 K b c e d a true h) (brB (decide (((20 : Int) < ((k : Nat) : Int)))) (f10_7 w0 K b c e d a true h) (f10_7 w0 K b c e d a (decide (((100 : Int) < ((m : Nat) : Int)))) h))))))))))))))))))))))))) (K (bool true) h))) :
  f10_4 w0 K b c e d a h := fun j => LP_intro (P := Proofs.Tryd.prog) (Eq.mp (by kernel_rfl) hv)

theorem f10_7_in {w0 : World} {K : Value → AH → Prop} (a : Option Addr) (b : Nat) (c : Nat) (d : Int) (e : Int) (g : Bool) (h : AH)
  (hv : (brB g (K (bool false) h) (f10_4 w0 K a b c d (IntKind.wrap .i64 (e + (1 : Int))) h))) :
  f10_7 w0 K a b c d e g h := fun j => LP_intro (P := Proofs.Tryd.prog) (Eq.mp (by kernel_rfl) hv)

theorem f10_go {w0 : World} {K : Value → AH → Prop} (c : Int) (d : Option Addr) (a : Nat) (e : Nat) (g : Option Addr) (b : Nat) (i : Nat) (h : AH)
  (hv : (brB (decide (((80 : Int) < ((a : Nat) : Int)))) (f10_2 w0 K true c d a e g b i h) (f10_2 w0 K (decide (((20 : Int) < ((b : Nat) : Int)))) c d a e g b i h))) :
  EvC Proofs.Tryd.prog w0 10 ([(.agg #[(.int .i64 c), (.slice d a e), (.slice g b i)])]).toArray K h := EvC_intro (P := Proofs.Tryd.prog) f10_J (Eq.mp (by kernel_rfl) hv)
structure LightS (m : StM) : Prop where
  ret : m.ret.length ≤ 80
  ses : m.ses.length ≤ 20
  each : ∀ x ∈ m.ses, x.subs.length ≤ 30 ∧ x.queue.length ≤ 30 ∧ x.fl.length ≤ 20 ∧ x.ids.length ≤ 100
section
variable {w0 : World} {K : Value → AH → Prop} {h : AH}
/-- light. -/
theorem f10_spec {m : StM} (k : m.Ok w0) (hf : K (.bool false) h) (ht : LightS m → K (.bool true) h) : EvC Go.Proofs.Tryd.prog w0 10 #[m.agg] K h := by
  have sl := k.sl
  have loop : ∀ (n i : Nat), i + n = m.ses.length → (∀ x ∈ m.ses.take i, x.subs.length ≤ 30 ∧ x.queue.length ≤ 30 ∧ x.fl.length ≤ 20 ∧ x.ids.length ≤ 100) → m.ret.length ≤ 80 → m.ses.length ≤ 20 → f10_4 w0 K m.sa m.ses.length m.sc ((m.ses.length : Nat) : Int) ((i : Nat) : Int) h := fun n => by
    induction n with
    | zero =>
      intro i hi hx hr hs
      rw [List.take_of_length_le (by omega)] at hx
      exact f10_4_in _ _ _ _ _ _ (brB_of (fun z => by have := of_decide_eq_true z; omega) fun _ => ht ⟨hr, hs, hx⟩)
    | succ n ih =>
      intro i hi hx hr hs
      have hg : m.ses[i]? = some m.ses[i] := List.getElem?_eq_getElem _
      obtain ⟨ad, had, hat⟩ := rowLoad (enc := SesM.cells) (k := 8) (fun _ => rfl) (by decide) (k.ses.rd h) hg
      refine f10_4_in _ _ _ _ _ _ (brB_of (fun _ => ⟨ad, had, by omega, by omega, _, _, _, _, _, _, _, _, _, _, _, _, _, _, _, _, ⟨rfl, hat⟩, ?_⟩) fun z => by have := of_decide_eq_false z; omega)
      have bad : f10_7 w0 K m.sa m.ses.length m.sc ((m.ses.length : Nat) : Int) ((i : Nat) : Int) true h := f10_7_in _ _ _ _ _ _ _ (brB_of (fun _ => hf) fun z => by cases z)
      refine brB_of (fun _ => bad) fun q1 => brB_of (fun _ => bad) fun q2 => brB_of (fun _ => bad) fun q3 => f10_7_in _ _ _ _ _ _ _ (brB_of (fun _ => hf) fun q4 => ?_)
      have h1 := of_decide_eq_false q1
      have h2 := of_decide_eq_false q2
      have h3 := of_decide_eq_false q3
      have h4 := of_decide_eq_false q4
      rw [wrapS (by omega)]
      refine ih (i + 1) (by omega) (fun x hxm => ?_) hr hs
      rw [List.take_succ_eq_append_getElem (by omega)] at hxm
      rcases List.mem_append.1 hxm with hxm | hxm
      · exact hx x hxm
      · rw [List.mem_singleton] at hxm; subst hxm; exact ⟨by omega, by omega, by omega, by omega⟩
  refine f10_go _ _ _ _ _ _ _ _ (brB_of (fun _ => f10_2_in _ _ _ _ _ _ _ _ _ (brB_of (fun _ => hf) fun z => by cases z)) fun q => f10_2_in _ _ _ _ _ _ _ _ _ (brB_of (fun _ => hf) fun q2 => ?_))
  have h1 := of_decide_eq_false q
  have h2 := of_decide_eq_false q2
  exact f10_3_in _ _ _ _ _ _ _ _ (loop m.ses.length 0 (by omega) (fun x hx => by simp at hx) (by omega) (by omega))
end
end Go.G.YtilifcggegabfaaDoor
