/- rotate. -/
import Derived.Test.YtpnhlgghpciofaaLX
import Derived.Test.YtpnhlgghpciofaaProg
set_option maxRecDepth 100000
namespace Go.G.Ytpnhlgghpciofaa
open Go.RowKit
def f95_J : Nat → List Nat × Nat := jOf [(2, [1, 3, 5, 6, 7, 8, 9, 12, 13, 14, 15, 16, 17, 18, 19, 20, 21, 22, 23, 24, 25, 26, 27, 28, 29, 30, 31, 32, 33, 34, 35, 36, 37, 38, 39, 40, 41, 42, 43, 44, 45, 46, 47, 48, 49, 50, 51, 52, 53, 54, 55, 56, 57], 0)]

def f95_2 (w0 : World) (K : Value → AH → Prop) (a0 : Option Go.Addr) (n0 : Nat) (c0 : Nat) (x2 : Int) (x4 : Go.Value) (x10 : Int) (x11 : Int) (h : AH) : Prop :=
  ∀ j : Nat → Value, LPk Go.Proofs.Try.prog w0 (EvC Go.Proofs.Try.prog w0) f95_J 95 K 2 [.v (.slice a0 n0 c0), .v (j 1), .v (.int .i64 x2), .v (j 3), .v x4, .v (j 5), .v (j 6), .v (j 7), .v (j 8), .v (j 9), .v (.int .i64 x10), .v (.int .i64 x11), .v (j 12), .v (j 13), .v (j 14), .v (j 15), .v (j 16), .v (j 17), .v (j 18), .v (j 19), .v (j 20), .v (j 21), .v (j 22), .v (j 23), .v (j 24), .v (j 25), .v (j 26), .v (j 27), .v (j 28), .v (j 29), .v (j 30), .v (j 31), .v (j 32), .v (j 33), .v (j 34), .v (j 35), .v (j 36), .v (j 37), .v (j 38), .v (j 39), .v (j 40), .v (j 41), .v (j 42), .v (j 43), .v (j 44), .v (j 45), .v (j 46), .v (j 47), .v (j 48), .v (j 49), .v (j 50), .v (j 51), .v (j 52), .v (j 53), .v (j 54), .v (j 55), .v (j 56), .v (j 57)] [] h

theorem f95_2_in {w0 : World} {K : Value → AH → Prop} (a0 : Option Go.Addr) (n0 : Nat) (c0 : Nat) (x2 : Int) (x4 : Go.Value) (x10 : Int) (x11 : Int) (h : AH)
  (hv : (brB (x10 != x11) (brB (decide ((x11 < x10))) (EvC Go.Proofs.Try.prog w0 101 #[(Go.Value.slice a0 n0 c0), (Go.Value.int .i64 (Go.IntKind.wrap .i64 (x2 - x10))), (Go.Value.int .i64 x2), (Go.Value.int .i64 x11), x4] (fun x'0 h'1 => ((x'0 = (Go.Value.tuple #[])) ∧ (f95_2 w0 K a0 n0 c0 x2 x4 (Go.IntKind.wrap .i64 (x10 - x11)) x11 h'1))) h) (EvC Go.Proofs.Try.prog w0 101 #[(Go.Value.slice a0 n0 c0), (Go.Value.int .i64 (Go.IntKind.wrap .i64 (x2 - x10))), (Go.Value.int .i64 (Go.IntKind.wrap .i64 ((Go.IntKind.wrap .i64 (x2 + x11)) - x10))), (Go.Value.int .i64 x10), x4] (fun x'2 h'3 => ((x'2 = (Go.Value.tuple #[])) ∧ (f95_2 w0 K a0 n0 c0 x2 x4 x10 (Go.IntKind.wrap .i64 (x11 - x10)) h'3))) h)) (EvC Go.Proofs.Try.prog w0 101 #[(Go.Value.slice a0 n0 c0), (Go.Value.int .i64 (Go.IntKind.wrap .i64 (x2 - x10))), (Go.Value.int .i64 x2), (Go.Value.int .i64 x10), x4] (fun x'4 h'5 => ((x'4 = (Go.Value.tuple #[])) ∧ (K (Go.Value.tuple #[]) h'5))) h))) :
  f95_2 w0 K a0 n0 c0 x2 x4 x10 x11 h := fun j => LP_intro (P := Go.Proofs.Try.prog) (Eq.mp (by kernel_rfl) hv)

theorem f95_go {w0 : World} {K : Value → AH → Prop} (a0 : Option Go.Addr) (n0 : Nat) (c0 : Nat) (x1 : Int) (x2 : Int) (x3 : Int) (x4 : Go.Value) (h : AH)
  (hv : (f95_2 w0 K a0 n0 c0 x2 x4 (Go.IntKind.wrap .i64 (x2 - x1)) (Go.IntKind.wrap .i64 (x3 - x2)) h)) :
  EvC Go.Proofs.Try.prog w0 95 ([(.slice a0 n0 c0), (.int .i64 x1), (.int .i64 x2), (.int .i64 x3), x4]).toArray K h := EvC_intro (P := Go.Proofs.Try.prog) f95_J (Eq.mp (by kernel_rfl) hv)
section
variable {w0 : World} {K : Value → AH → Prop} {h0 : AH} {ad : Addr} {n c : Nat} {us0 : List Tab} {cb : Value}

theorem f95_loop (hn : n ≤ 1000000) {m : Nat} {F : List Tab} (hk : ∀ h', SS w0 h0 ad n c us0 h' F → K (.tuple #[]) h') :
    ∀ (k : Nat) (P X Y Z : List Tab) (h : AH), X.length + Y.length ≤ k → 0 < X.length → 0 < Y.length → m = P.length + X.length → F = P ++ Y ++ X ++ Z → SS w0 h0 ad n c us0 h (P ++ X ++ Y ++ Z) →
      f95_2 w0 K (some ad) n c ((m : Nat) : Int) cb ((X.length : Nat) : Int) ((Y.length : Nat) : Int) h := by
  intro k
  induction k with
  | zero => intro P X Y Z h h1 h2 h3; omega
  | succ k ih =>
    intro P X Y Z h h1 h2 h3 hm hF s
    have hl := s.len
    simp only [List.length_append] at hl
    have eP : IntKind.i64.wrap (((m : Nat) : Int) - ((X.length : Nat) : Int)) = ((P.length : Nat) : Int) := by rw [subS (by omega) (by omega)]; omega
    refine f95_2_in _ _ _ _ _ _ _ _ (brB_of (fun q => brB_of (fun q2 => ?_) fun q2 => ?_) fun q => ?_)
    · -- X is longer
      have hlt : Y.length < X.length := by simp at q2; omega
      rw [eP]
      have eX : X = X.take Y.length ++ X.drop Y.length := (List.take_append_drop _ _).symm
      have l1 : (X.take Y.length).length = Y.length := by simp; omega
      have l2 : (X.drop Y.length).length = X.length - Y.length := by simp
      generalize X.take Y.length = X1 at eX l1
      generalize X.drop Y.length = X2 at eX l2
      subst eX
      simp only [List.length_append] at hm hlt l2 h1 hl ⊢
      have s' : SS w0 h0 ad n c us0 h (P ++ X1 ++ X2 ++ Y ++ Z) := by simpa using s
      have sub : IntKind.i64.wrap (((X1.length + X2.length : Nat) : Int) - ((Y.length : Nat) : Int)) = ((X2.length : Nat) : Int) := by rw [subS (by omega) (by omega)]; omega
      refine f101_spec hn l1 s' (fun h' s2 => ⟨rfl, ?_⟩) rfl (by omega) l1.symm
      rw [sub]
      have := ih (P ++ Y) X2 X1 Z h' (by omega) (by omega) (by omega) (by simp; omega) (by rw [hF]; simp) (by simpa using s2)
      rw [l1] at this
      exact this
    · -- Y is longer
      have hlt : X.length < Y.length := by simp at q q2; omega
      have eY : Y = Y.take (Y.length - X.length) ++ Y.drop (Y.length - X.length) := (List.take_append_drop _ _).symm
      have l1 : (Y.take (Y.length - X.length)).length = Y.length - X.length := by simp
      have l2 : (Y.drop (Y.length - X.length)).length = X.length := by simp; omega
      generalize Y.take (Y.length - X.length) = Y1 at eY l1
      generalize Y.drop (Y.length - X.length) = Y2 at eY l2
      subst eY
      simp only [List.length_append] at hlt l1 h1 hl ⊢
      have s' : SS w0 h0 ad n c us0 h (P ++ X ++ Y1 ++ Y2 ++ Z) := by simpa using s
      have em2 : IntKind.i64.wrap (IntKind.i64.wrap (((m : Nat) : Int) + ((Y1.length + Y2.length : Nat) : Int)) - ((X.length : Nat) : Int)) = ((P.length + X.length + Y1.length : Nat) : Int) := by
        rw [addS (by omega), subS (by omega) (by omega)]; omega
      have sub : IntKind.i64.wrap (((Y1.length + Y2.length : Nat) : Int) - ((X.length : Nat) : Int)) = ((Y1.length : Nat) : Int) := by rw [subS (by omega) (by omega)]; omega
      rw [eP, em2]
      refine f101_spec hn l2.symm s' (fun h' s2 => ⟨rfl, ?_⟩) rfl rfl rfl
      rw [sub, ← l2]
      exact ih P Y2 Y1 (X ++ Z) h' (by omega) (by omega) (by omega) (by omega) (by rw [hF]; simp) (by simpa using s2)
    · have he : X.length = Y.length := by simp at q; omega
      rw [eP]
      have s' : SS w0 h0 ad n c us0 h (P ++ X ++ [] ++ Y ++ Z) := by simpa using s
      exact f101_spec hn he s' (fun h' s2 => ⟨rfl, hk h' (by rw [hF]; simpa using s2)⟩) rfl (by simp; omega) rfl

/-- slices.rotateCmpFunc. -/
theorem f95_spec {P X Y Z : List Tab} {h : AH} (hn : n ≤ 1000000) (hX : 0 < X.length) (hY : 0 < Y.length) (s : SS w0 h0 ad n c us0 h (P ++ X ++ Y ++ Z)) (hk : ∀ h', SS w0 h0 ad n c us0 h' (P ++ Y ++ X ++ Z) → K (.tuple #[]) h') {a m b : Nat}
    (ha : a = P.length) (hm : m = P.length + X.length) (hb : b = P.length + X.length + Y.length) :
    EvC Go.Proofs.Try.prog w0 95 #[.slice (some ad) n c, .int .i64 ((a : Nat) : Int), .int .i64 ((m : Nat) : Int), .int .i64 ((b : Nat) : Int), cb] K h := by
  have hl := s.len
  simp only [List.length_append] at hl
  refine f95_go _ _ _ _ _ _ _ _ ?_
  rw [subS (by omega) (by omega), subS (by omega) (by omega), show m - a = X.length by omega, show b - m = Y.length by omega]
  exact f95_loop hn hk _ P X Y Z h (Nat.le_refl _) hX hY hm rfl s
end
end Go.G.Ytpnhlgghpciofaa
