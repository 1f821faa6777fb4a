/- LevelMay by the evaluator. -/
import Derived.Test.YtpnhlgghpciofaaLR
import Derived.Test.YtpnhlgghpciofaaProg
set_option maxRecDepth 100000
namespace Go.G.Ytpnhlgghpciofaa
open Go.RowKit
def f29_J : Nat → List Nat × Nat := jOf [(2, [0, 1, 2, 3, 4, 8, 9, 10, 11, 12, 13, 14, 15, 16, 17, 18, 19, 20, 21, 22, 23, 24, 25, 26], 0), (5, [0, 1, 2, 3, 4, 8, 9, 10, 11, 12, 13, 14, 15, 16, 17, 18, 19, 20, 21, 22, 23, 24, 26], 0)]

def f29_2 (w0 : World) (K : Value → AH → Prop) (a5 : Option Go.Addr) (n5 : Nat) (c5 : Nat) (x6 : Int) (x7 : Int) (h : AH) : Prop :=
  ∀ j : Nat → Value, LPk Go.Proofs.Try.prog w0 (EvC Go.Proofs.Try.prog w0) f29_J 29 K 2 [.v (j 0), .v (j 1), .v (j 2), .v (j 3), .v (j 4), .v (.slice a5 n5 c5), .v (.int .i64 x6), .v (.int .i64 x7), .v (j 8), .v (j 9), .v (j 10), .v (j 11), .v (j 12), .v (j 13), .v (j 14), .v (j 15), .v (j 16), .v (j 17), .v (j 18), .v (j 19), .v (j 20), .v (j 21), .v (j 22), .v (j 23), .v (j 24), .v (j 25), .v (j 26)] [] h

def f29_5 (w0 : World) (K : Value → AH → Prop) (a5 : Option Go.Addr) (n5 : Nat) (c5 : Nat) (x6 : Int) (x7 : Int) (x25 : Bool) (h : AH) : Prop :=
  ∀ j : Nat → Value, LPk Go.Proofs.Try.prog w0 (EvC Go.Proofs.Try.prog w0) f29_J 29 K 5 [.v (j 0), .v (j 1), .v (j 2), .v (j 3), .v (j 4), .v (.slice a5 n5 c5), .v (.int .i64 x6), .v (.int .i64 x7), .v (j 8), .v (j 9), .v (j 10), .v (j 11), .v (j 12), .v (j 13), .v (j 14), .v (j 15), .v (j 16), .v (j 17), .v (j 18), .v (j 19), .v (j 20), .v (j 21), .v (j 22), .v (j 23), .v (j 24), .v (.bool x25), .v (j 26)] [] h

theorem f29_2_in {w0 : World} {K : Value → AH → Prop} (a5 : Option Go.Addr) (n5 : Nat) (c5 : Nat) (x6 : Int) (x7 : Int) (h : AH)
  (hv : (brB (decide ((x7 < x6))) (∃ a'0 : Go.Addr, ((a5 = (some a'0)) ∧ (((0 : Int) ≤ x7) ∧ ((x7 < ((n5 : Nat) : Int)) ∧ (∃ i'1 : Int, (∃ i'2 : Int, (∃ i'3 : Int, (∃ p'4 : Option Go.Addr, (∃ n'5 : Nat, (∃ n'6 : Nat, (∃ p'7 : Option Go.Addr, (∃ n'8 : Nat, (∃ n'9 : Nat, ((((Array.size #[(Go.Value.int .i64 i'1), (Go.Value.int .i64 i'2), (Go.Value.int .i64 i'3), (Go.Value.slice p'4 n'5 n'6), (Go.Value.slice p'7 n'8 n'9)]) = 5) ∧ (At w0 h (Go.Addr.add a'0 ((Int.toNat x7) * 5)) [(Go.Value.int .i64 i'1), (Go.Value.int .i64 i'2), (Go.Value.int .i64 i'3), (Go.Value.slice p'4 n'5 n'6), (Go.Value.slice p'7 n'8 n'9)])) ∧ (brB (decide (((210 : Int) ≤ x7))) (f29_5 w0 K a5 n5 c5 x6 x7 true h) (brB (decide (((600 : Int) < ((n'5 : Nat) : Int)))) (f29_5 w0 K a5 n5 c5 x6 x7 true h) (f29_5 w0 K a5 n5 c5 x6 x7 (decide (((600 : Int) < ((n'8 : Nat) : Int)))) h))))))))))))))))) (K (Go.Value.bool true) h))) :
  f29_2 w0 K a5 n5 c5 x6 x7 h := fun j => LP_intro (P := Go.Proofs.Try.prog) (Eq.mp (by kernel_rfl) hv)

theorem f29_5_in {w0 : World} {K : Value → AH → Prop} (a5 : Option Go.Addr) (n5 : Nat) (c5 : Nat) (x6 : Int) (x7 : Int) (x25 : Bool) (h : AH)
  (hv : (brB x25 (K (Go.Value.bool false) h) (f29_2 w0 K a5 n5 c5 x6 (Go.IntKind.wrap .i64 (x7 + (1 : Int))) h))) :
  f29_5 w0 K a5 n5 c5 x6 x7 x25 h := fun j => LP_intro (P := Go.Proofs.Try.prog) (Eq.mp (by kernel_rfl) hv)

theorem f29_go {w0 : World} {K : Value → AH → Prop} (a0 : Option Go.Addr) (n0 : Nat) (c0 : Nat) (h : AH)
  (hv : (f29_2 w0 K a0 n0 c0 ((n0 : Nat) : Int) (0 : Int) h)) :
  EvC Go.Proofs.Try.prog w0 29 ([(.slice a0 n0 c0)]).toArray K h := EvC_intro (P := Go.Proofs.Try.prog) f29_J (Eq.mp (by kernel_rfl) hv)
theorem f29_loop {w0 : World} {K : Value → AH → Prop} {h : AH} {a : Option Addr} {n c : Nat} {ts : List Tab} (s : TS w0 h a n c ts) :
    ∀ (rest : List Tab) (i : Nat), ts.drop i = rest → i ≤ n → K (.bool (lightL i rest)) h → f29_2 w0 K a n c ((n : Nat) : Int) ((i : Nat) : Int) h := by
  intro rest
  induction rest with
  | nil =>
    intro i hd hi hk
    have := drop_done hd
    have := s.len
    exact f29_2_in _ _ _ _ _ _ (brB_of (fun q => by simp at q; omega) fun _ => hk)
  | cons t r ih =>
    intro i hd hi hk
    obtain ⟨hget, hd', hlt⟩ := drop_step hd
    have hsl := s.len
    have hsm := s.sm
    have o := s.ok t (List.mem_of_getElem? hget)
    have step : ∀ b : Bool, (b = true → lightL i (t :: r) = false) → (b = false → lightL i (t :: r) = lightL (i + 1) r) → f29_5 w0 K a n c ((n : Nat) : Int) ((i : Nat) : Int) b h := fun b h1 h0 => by
      refine f29_5_in _ _ _ _ _ _ _ (brB_of (fun q => ?_) fun q => ?_)
      · rw [h1 q] at hk; exact hk
      · rw [wrapS (by omega)]
        rw [h0 q] at hk
        exact ih (i + 1) hd' (by omega) hk
    refine f29_2_in _ _ _ _ _ _ (brB_of (fun _ => tabLoad s.rs.rd s.len hget ?_) fun q => by simp at q; omega)
    have hln := o.ln
    have hmn := o.mn
    refine brB_of (fun q => step _ (fun _ => ?_) (fun e => by cases e)) fun q => brB_of (fun q2 => step _ (fun _ => ?_) (fun e => by cases e)) fun q2 => step _ (fun q3 => ?_) fun q3 => ?_
    all_goals simp only [decide_eq_true_eq, decide_eq_false_iff_not] at *
    · have : 210 ≤ i := by omega
      simp [lightL, this]
    · have : 600 < t.lb.length := by omega
      simp [lightL, this]
    · have : 600 < t.mb.length := by omega
      simp [lightL, this]
    · have h1 : ¬ 210 ≤ i := by omega
      have h2 : ¬ 600 < t.lb.length := by omega
      have h3 : ¬ 600 < t.mb.length := by omega
      simp [lightL, h1, h2, h3]

theorem f29_spec {w0 : World} {K : Value → AH → Prop} {h : AH} {a : Option Addr} {n c : Nat} {ts : List Tab} (s : TS w0 h a n c ts) (hk : K (.bool (lightL 0 ts)) h) : EvC Go.Proofs.Try.prog w0 29 #[.slice a n c] K h :=
  f29_go _ _ _ _ (f29_loop s ts 0 rfl (by omega) hk)
def f8_J : Nat → List Nat × Nat := jOf []



theorem f8_go {w0 : World} {K : Value → AH → Prop} (x0_0 : Int) (x0_1 : Int) (x0_2 : Int) (a0_3 : Option Go.Addr) (n0_3 : Nat) (c0_3 : Nat) (h : AH)
  (hv : (EvC Go.Proofs.Try.prog w0 29 #[(Go.Value.slice a0_3 n0_3 c0_3)] (fun x'0 h'1 => (∃ t'2 : Bool, ((x'0 = (Go.Value.bool t'2)) ∧ (brB (!t'2) (EvC Go.Proofs.Try.prog w0 30 #[] (fun x'3 h'4 => (∃ t'5 : Bool, ((x'3 = (Go.Value.bool t'5)) ∧ (brB t'5 (K (Go.Value.bool true) h'4) (EvC Go.Proofs.Try.prog w0 29 #[(Go.Value.slice a0_3 n0_3 c0_3)] (fun x'6 h'7 => (∃ t'8 : Bool, ((x'6 = (Go.Value.bool t'8)) ∧ (brB t'8 (EvC Go.Proofs.Try.prog w0 31 #[(Go.Value.agg #[(Go.Value.int .i64 x0_0), (Go.Value.int .i64 x0_1), (Go.Value.int .i64 x0_2), (Go.Value.slice a0_3 n0_3 c0_3)])] (fun x'9 h'10 => (∃ t'11 : Bool, ((x'9 = (Go.Value.bool t'11)) ∧ (EvC Go.Proofs.Try.prog w0 32 #[(Go.Value.agg #[(Go.Value.int .i64 x0_0), (Go.Value.int .i64 x0_1), (Go.Value.int .i64 x0_2), (Go.Value.slice a0_3 n0_3 c0_3)])] (fun x'12 h'13 => (∃ t'14 : Bool, ((x'12 = (Go.Value.bool t'14)) ∧ (brB (t'11 == t'14) (EvC Go.Proofs.Try.prog w0 30 #[] (fun x'15 h'16 => (∃ t'17 : Bool, ((x'15 = (Go.Value.bool t'17)) ∧ (K (Go.Value.bool t'17) h'16)))) h'13) (K (Go.Value.bool false) h'13))))) h'10)))) h'7) (K (Go.Value.bool false) h'7))))) h'4))))) h'1) (EvC Go.Proofs.Try.prog w0 29 #[(Go.Value.slice a0_3 n0_3 c0_3)] (fun x'18 h'19 => (∃ t'20 : Bool, ((x'18 = (Go.Value.bool t'20)) ∧ (brB t'20 (EvC Go.Proofs.Try.prog w0 31 #[(Go.Value.agg #[(Go.Value.int .i64 x0_0), (Go.Value.int .i64 x0_1), (Go.Value.int .i64 x0_2), (Go.Value.slice a0_3 n0_3 c0_3)])] (fun x'21 h'22 => (∃ t'23 : Bool, ((x'21 = (Go.Value.bool t'23)) ∧ (EvC Go.Proofs.Try.prog w0 32 #[(Go.Value.agg #[(Go.Value.int .i64 x0_0), (Go.Value.int .i64 x0_1), (Go.Value.int .i64 x0_2), (Go.Value.slice a0_3 n0_3 c0_3)])] (fun x'24 h'25 => (∃ t'26 : Bool, ((x'24 = (Go.Value.bool t'26)) ∧ (brB (t'23 == t'26) (EvC Go.Proofs.Try.prog w0 30 #[] (fun x'27 h'28 => (∃ t'29 : Bool, ((x'27 = (Go.Value.bool t'29)) ∧ (K (Go.Value.bool t'29) h'28)))) h'25) (K (Go.Value.bool false) h'25))))) h'22)))) h'19) (K (Go.Value.bool false) h'19))))) h'1))))) h)) :
  EvC Go.Proofs.Try.prog w0 8 ([(.agg #[(.int .i64 x0_0), (.int .i64 x0_1), (.int .i64 x0_2), (.slice a0_3 n0_3 c0_3)])]).toArray K h := EvC_intro (P := Go.Proofs.Try.prog) f8_J (Eq.mp (by kernel_rfl) hv)
/-- LevelMay holds. -/
theorem f8_spec {w0 : World} {K : Value → AH → Prop} {h0 : AH} {a : Option Addr} {n c : Nat} {ts : List Tab} {lo nx sq : Int} (s : TS w0 h0 a n c ts) (hk : ∀ h', Ext h0 h' none → K (.bool true) h') :
    EvC Go.Proofs.Try.prog w0 8 #[.agg #[.int .i64 lo, .int .i64 nx, .int .i64 sq, .slice a n c]] K h0 := by
  refine f8_go _ _ _ _ _ _ _ (f29_spec s ⟨_, rfl, brB_of (fun q => f30_spec fun h1 x1 => ⟨_, rfl, brB_of (fun _ => hk h1 x1) fun q => by cases q⟩) fun q => f29_spec s ⟨_, rfl, brB_of (fun q2 => ?_) fun q2 => ?_⟩⟩)
  · exact f31_spec s fun h1 x1 => ⟨_, rfl, f32_spec (s.ext x1) ⟨_, rfl, brB_of (fun _ => f30_spec fun h2 x2 => ⟨_, rfl, hk h2 (x1.trans x2)⟩) fun q => by simp at q⟩⟩
  · rw [q2] at q; cases q
end Go.G.Ytpnhlgghpciofaa
