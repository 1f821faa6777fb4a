/- slices.Clone. -/
import Derived.Test.YtilifcggegabfaaDoorSG
import Derived.Test.YtilifcggegabfaaDoorProg
set_option maxRecDepth 100000
namespace Go.G.YtilifcggegabfaaDoor
open Go.RowKit
def f32_J : Nat → List Nat × Nat := jOf []



theorem f32_go {w0 : World} {K : Value → AH → Prop} (a0 : Option Go.Addr) (n0 : Nat) (c0 : Nat) (h : AH)
  (hv : (brB (Option.isNone a0) (K (Go.Value.slice none 0 0) h) (newB w0 h (Go.G.AB.cells [] 0) (fun b'0 h'1 => (rowsOf w0 h'1 2 a0 n0 (fun ys'2 => (App w0 h'1 2 24 (some (Go.Addr.mk b'0 0 none)) 0 0 n0 ys'2 (fun a'3 c'4 h'5 => (K (Go.Value.slice a'3 (0 + n0) c'4) h'5))))))))) :
  EvC Go.Proofs.Tryd.prog w0 32 ([(.slice a0 n0 c0)]).toArray K h := EvC_intro (P := Go.Proofs.Tryd.prog) f32_J (Eq.mp (by kernel_rfl) hv)
def f33_J : Nat → List Nat × Nat := jOf []



theorem f33_go {w0 : World} {K : Value → AH → Prop} (a0 : Option Go.Addr) (n0 : Nat) (c0 : Nat) (h : AH)
  (hv : (brB (Option.isNone a0) (K (Go.Value.slice none 0 0) h) (newB w0 h (Go.G.AB.cells [] 0) (fun b'0 h'1 => (rowsOf w0 h'1 1 a0 n0 (fun ys'2 => (App w0 h'1 1 8 (some (Go.Addr.mk b'0 0 none)) 0 0 n0 ys'2 (fun a'3 c'4 h'5 => (K (Go.Value.slice a'3 (0 + n0) c'4) h'5))))))))) :
  EvC Go.Proofs.Tryd.prog w0 33 ([(.slice a0 n0 c0)]).toArray K h := EvC_intro (P := Go.Proofs.Tryd.prog) f33_J (Eq.mp (by kernel_rfl) hv)
/-! ### slices.Clone -/
section
variable {w0 : World} {K : Value → AH → Prop} {h : AH} {B : List (Nat × AB)}
theorem clone_of {e by' : Nat} {a : Option Addr} {n : Nat} {xs : List Value} {Q : Option Addr → Nat → AH → Prop} (w : Own w0 h B) (hR : ∀ h', Own w0 h' B → Rd w0 h' a xs) (hx : xs.length = n * e) (h1 : ∀ y ∈ xs, y.oneCell' = true) (hb : n * by' ≤ 140737488355328) (hn : n ≤ 140737488355328)
    (hk : ∀ h' a' c', SlV e a' n c' xs → Own w0 h' (slB a' xs (c' * e) ++ B) → Q a' c' h') :
    newB w0 h (.cells [] 0) fun b h1 => rowsOf w0 h1 e a n fun ys => App w0 h1 e by' (some ⟨b, 0, none⟩) 0 0 n ys Q := by
  intro b hb0 hbn
  have w1 : Own w0 (h.put b (.cells [] 0)) (slB (some ⟨b, 0, none⟩) [] (0 * e) ++ B) := by
    rw [Nat.zero_mul]; exact w.new hb0 hbn (o := .cells [] 0)
  refine rowsOf_of (hR _ w1.drop) hx ?_
  refine App_slB (xs := []) ⟨by simp, Nat.le_refl _, rfl, rfl⟩ w1 (by rw [Nat.zero_add]; exact hb) (by omega) hx h1 fun a2 c2 h2 v2 w2 => ?_
  rw [List.nil_append] at v2 w2
  rw [Nat.zero_add] at v2
  exact hk h2 a2 c2 v2 w2
theorem rd_none {xs : List Value} (r : Rd w0 h none xs) : xs = [] := by
  cases xs with
  | nil => rfl
  | cons x l => obtain ⟨ad, had, _⟩ := r 0 x rfl; cases had
theorem f32_spec {a : Option Addr} {c : Nat} {l : List WantM} (w : Own w0 h B) (hR : ∀ h', Own w0 h' B → Rd w0 h' a (l.flatMap WantM.cells)) (hl : l.length ≤ 1000000)
    (hk : ∀ h' a' c', SlV 2 a' l.length c' (l.flatMap WantM.cells) → Own w0 h' (slB a' (l.flatMap WantM.cells) (c' * 2) ++ B) → K (.slice a' l.length c') h') : EvC Go.Proofs.Tryd.prog w0 32 #[.slice a l.length c] K h := by
  have len : (l.flatMap WantM.cells).length = l.length * 2 := flat_len (enc := WantM.cells) (k := 2) (fun _ => rfl) l
  refine f32_go _ _ _ _ (brB_of (fun z => ?_) fun _ => clone_of w hR len (fun y hy => ?_) (by omega) (by omega) fun h' a' c' v' w' => ?_)
  · cases a with
    | some ad => cases z
    | none =>
      have e := rd_none (hR h w)
      have e2 : l = [] := by
        rw [e] at len; simp at len; exact List.eq_nil_of_length_eq_zero (by omega)
      subst e2
      exact hk h none 0 SlV.nil w
  · obtain ⟨m, _, hm⟩ := List.mem_flatMap.1 hy
    simp at hm; rcases hm with rfl | rfl <;> rfl
  · rw [Nat.zero_add]; exact hk h' a' c' v' w'
theorem f33_spec {a : Option Addr} {c : Nat} {l : List Int} (w : Own w0 h B) (hR : ∀ h', Own w0 h' B → Rd w0 h' a (l.flatMap fun x => [.int .i64 x])) (hl : l.length ≤ 1000000)
    (hk : ∀ h' a' c', SlV 1 a' l.length c' (l.flatMap fun x => [.int .i64 x]) → Own w0 h' (slB a' (l.flatMap fun x => [.int .i64 x]) (c' * 1) ++ B) → K (.slice a' l.length c') h') : EvC Go.Proofs.Tryd.prog w0 33 #[.slice a l.length c] K h := by
  have len : (l.flatMap fun x => [Value.int .i64 x]).length = l.length * 1 := flat_len (enc := fun x : Int => [Value.int .i64 x]) (k := 1) (fun _ => rfl) l
  refine f33_go _ _ _ _ (brB_of (fun z => ?_) fun _ => clone_of w hR len (fun y hy => ?_) (by omega) (by omega) fun h' a' c' v' w' => ?_)
  · cases a with
    | some ad => cases z
    | none =>
      have e := rd_none (hR h w)
      have e2 : l = [] := by
        rw [e] at len; simp at len; exact List.eq_nil_of_length_eq_zero (by omega)
      subst e2
      exact hk h none 0 SlV.nil w
  · obtain ⟨m, _, hm⟩ := List.mem_flatMap.1 hy
    simp at hm; rcases hm with rfl; rfl
  · rw [Nat.zero_add]; exact hk h' a' c' v' w'
end
end Go.G.YtilifcggegabfaaDoor
