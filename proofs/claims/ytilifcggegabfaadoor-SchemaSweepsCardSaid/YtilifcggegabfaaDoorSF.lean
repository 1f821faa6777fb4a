/- Queues, without what has ended. -/
import Derived.Test.YtilifcggegabfaaDoorSE
import Derived.Test.YtilifcggegabfaaDoorProg
set_option maxRecDepth 100000
namespace Go.G.YtilifcggegabfaaDoor
open Go.RowKit
def f35_J : Nat → List Nat × Nat := jOf [(3, [2, 3, 4, 5, 7, 8, 12, 13, 14, 15, 16, 17, 18, 19, 20, 21, 22, 23, 24, 25, 26, 27, 28, 29], 0)]

def f35_3 (w0 : World) (K : Value → AH → Prop) (a0 : Option Go.Addr) (n0 : Nat) (c0 : Nat) (x1 : Int) (a6 : Option Go.Addr) (n6 : Nat) (c6 : Nat) (a9 : Option Go.Addr) (n9 : Nat) (c9 : Nat) (x10 : Int) (x11 : Int) (h : AH) : Prop :=
  ∀ j : Nat → Value, LPk Go.Proofs.Tryd.prog w0 (EvC Go.Proofs.Tryd.prog w0) f35_J 35 K 3 [.v (.slice a0 n0 c0), .v (.int .i64 x1), .v (j 2), .v (j 3), .v (j 4), .v (j 5), .v (.slice a6 n6 c6), .v (j 7), .v (j 8), .v (.slice a9 n9 c9), .v (.int .i64 x10), .v (.int .i64 x11), .v (j 12), .v (j 13), .v (j 14), .v (j 15), .v (j 16), .v (j 17), .v (j 18), .v (j 19), .v (j 20), .v (j 21), .v (j 22), .v (j 23), .v (j 24), .v (j 25), .v (j 26), .v (j 27), .v (j 28), .v (j 29)] [] h

theorem f35_3_in {w0 : World} {K : Value → AH → Prop} (a0 : Option Go.Addr) (n0 : Nat) (c0 : Nat) (x1 : Int) (a6 : Option Go.Addr) (n6 : Nat) (c6 : Nat) (a9 : Option Go.Addr) (n9 : Nat) (c9 : Nat) (x10 : Int) (x11 : Int) (h : AH)
  (hv : (brB (decide ((x11 < x10))) (∃ a'0 : Go.Addr, ((a9 = (some a'0)) ∧ (((0 : Int) ≤ x11) ∧ ((x11 < ((n9 : Nat) : Int)) ∧ (∃ s'1 : ByteArray, (∃ p'2 : Option Go.Addr, (∃ n'3 : Nat, (∃ n'4 : Nat, (∃ i'5 : Int, (∃ t'6 : Bool, (∃ i'7 : Int, ((((Array.size #[(Go.Value.string s'1), (Go.Value.slice p'2 n'3 n'4), (Go.Value.int .i64 i'5), (Go.Value.bool t'6), (Go.Value.int .i64 i'7)]) = 5) ∧ (At w0 h (Go.Addr.add a'0 ((Int.toNat x11) * 5)) [(Go.Value.string s'1), (Go.Value.slice p'2 n'3 n'4), (Go.Value.int .i64 i'5), (Go.Value.bool t'6), (Go.Value.int .i64 i'7)])) ∧ (brB (decide ((x1 < i'7))) (App w0 h 5 64 a6 n6 c6 1 [(Go.Value.string s'1), (Go.Value.slice p'2 n'3 n'4), (Go.Value.int .i64 i'5), (Go.Value.bool t'6), (Go.Value.int .i64 i'7)] (fun a'8 c'9 h'10 => (f35_3 w0 K a0 n0 c0 x1 a'8 (n6 + 1) c'9 a9 n9 c9 x10 (Go.IntKind.wrap .i64 (x11 + (1 : Int))) h'10))) (f35_3 w0 K a0 n0 c0 x1 a6 n6 c6 a9 n9 c9 x10 (Go.IntKind.wrap .i64 (x11 + (1 : Int))) h)))))))))))))) (K (Go.Value.tuple #[(Go.Value.slice a6 n6 c6), (Go.Value.int .i64 (Go.IntKind.wrap .i64 (((n0 : Nat) : Int) - ((n6 : Nat) : Int))))]) h))) :
  f35_3 w0 K a0 n0 c0 x1 a6 n6 c6 a9 n9 c9 x10 x11 h := fun j => LP_intro (P := Go.Proofs.Tryd.prog) (Eq.mp (by kernel_rfl) hv)

theorem f35_go {w0 : World} {K : Value → AH → Prop} (a0 : Option Go.Addr) (n0 : Nat) (c0 : Nat) (x1 : Int) (h : AH)
  (hv : (f35_3 w0 K a0 n0 c0 x1 none 0 0 a0 n0 c0 ((n0 : Nat) : Int) (0 : Int) h)) :
  EvC Go.Proofs.Tryd.prog w0 35 ([(.slice a0 n0 c0), (.int .i64 x1)]).toArray K h := EvC_intro (P := Go.Proofs.Tryd.prog) f35_J (Eq.mp (by kernel_rfl) hv)
/-! ### queues, without what has ended -/
def keepM (x : Int) (l : List MsgM) : List MsgM := l.filter fun m => decide (x < m.til)
theorem msg_cell (m : MsgM) : ∀ y ∈ m.cells, y.oneCell' = true := by
  intro y hy
  simp at hy
  rcases hy with rfl | rfl | rfl | rfl | rfl <;> rfl
section
variable {w0 : World} {K : Value → AH → Prop} {h : AH} {B : List (Nat × AB)}
/-- The document's Left. -/
theorem f35_spec {a : Option Addr} {c : Nat} {l : List MsgM} {x : Int} (w : Own w0 h B) (hR : ∀ h', Own w0 h' B → Rd w0 h' a (l.flatMap MsgM.cells)) (hl : l.length ≤ 1000000)
    (hk : ∀ h' a' c', SlV 5 a' (keepM x l).length c' ((keepM x l).flatMap MsgM.cells) → Own w0 h' (slB a' ((keepM x l).flatMap MsgM.cells) (c' * 5) ++ B) → K (.tuple #[.slice a' (keepM x l).length c', .int .i64 (((l.length : Nat) : Int) - ((keepM x l).length : Nat))]) h') :
    EvC Go.Proofs.Tryd.prog w0 35 #[.slice a l.length c, .int .i64 x] K h := by
  have loop : ∀ (n i : Nat), i + n = l.length → ∀ (a' : Option Addr) (c' : Nat) (h' : AH), SlV 5 a' (keepM x (l.take i)).length c' ((keepM x (l.take i)).flatMap MsgM.cells) → Own w0 h' (slB a' ((keepM x (l.take i)).flatMap MsgM.cells) (c' * 5) ++ B) →
      f35_3 w0 K a l.length c x a' (keepM x (l.take i)).length c' a l.length c ((l.length : Nat) : Int) ((i : Nat) : Int) h' := fun n => by
    induction n with
    | zero =>
      intro i hi a' c' h' v w'
      rw [List.take_of_length_le (by omega)] at v w' ⊢
      have hle : (keepM x l).length ≤ l.length := List.length_filter_le ..
      refine f35_3_in _ _ _ _ _ _ _ _ _ _ _ _ _ (brB_of (fun z => by have := of_decide_eq_true z; omega) fun _ => ?_)
      rw [wrap64 (by omega) (by omega)]
      exact hk h' a' c' v w'
    | succ n ih =>
      intro i hi a' c' h' v w'
      have g1 : l[i]? = some l[i] := List.getElem?_eq_getElem _
      obtain ⟨ad, had, hat⟩ := rowLoad (enc := MsgM.cells) (k := 5) (fun _ => rfl) (by decide) (hR h' w'.drop) g1
      have ht : l.take (i + 1) = l.take i ++ [l[i]] := List.take_succ_eq_append_getElem (by omega)
      have hle : (keepM x (l.take i)).length ≤ i := Nat.le_trans (List.length_filter_le ..) (List.length_take_le ..)
      refine f35_3_in _ _ _ _ _ _ _ _ _ _ _ _ _ (brB_of (fun _ => ⟨ad, had, by omega, by omega, _, _, _, _, _, _, _, ⟨rfl, hat⟩, brB_of (fun q => ?_) fun q => ?_⟩) fun z => by have := of_decide_eq_false z; omega)
      · have e : keepM x (l.take (i + 1)) = keepM x (l.take i) ++ [l[i]] := by unfold keepM; rw [ht, List.filter_append, List.filter_cons_of_pos (p := fun m : MsgM => decide (x < m.til)) (a := l[i]) q, List.filter_nil]
        refine App_slB v w' (by omega) (by omega) rfl (msg_cell l[i]) fun a8 c8 h8 v8 w8 => ?_
        rw [wrapS (by omega)]
        have e2 : (keepM x (l.take i)).flatMap MsgM.cells ++ (l[i]).cells = (keepM x (l.take (i + 1))).flatMap MsgM.cells := by rw [e]; simp
        have e3 : (keepM x (l.take i)).length + 1 = (keepM x (l.take (i + 1))).length := by rw [e]; simp
        rw [e2] at v8 w8
        rw [e3] at v8 ⊢
        exact ih (i + 1) (by omega) a8 c8 h8 v8 w8
      · have e : keepM x (l.take (i + 1)) = keepM x (l.take i) := by unfold keepM; rw [ht, List.filter_append, List.filter_cons_of_neg (p := fun m : MsgM => decide (x < m.til)) (a := l[i]) (by simpa using q), List.filter_nil, List.append_nil]
        rw [wrapS (by omega)]
        have := ih (i + 1) (by omega) a' c' h' (by rw [e]; exact v) (by rw [e]; exact w')
        rw [e] at this
        exact this
  exact f35_go _ _ _ _ _ (loop l.length 0 (by omega) none 0 h SlV.nil w)
end
end Go.G.YtilifcggegabfaaDoor
