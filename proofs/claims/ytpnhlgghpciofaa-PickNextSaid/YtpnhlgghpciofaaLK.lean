/- The job of all tables; are two jobs the same. -/
import Derived.Test.YtpnhlgghpciofaaLJ
import Derived.Test.YtpnhlgghpciofaaProg
set_option maxRecDepth 100000
namespace Go.G.Ytpnhlgghpciofaa
open Go.RowKit
def f26_J : Nat → List Nat × Nat := jOf [(2, [0, 3, 4, 5, 6, 7, 8, 9, 10, 11, 12, 13, 14, 16, 17, 18, 19, 20, 21, 22, 23, 24, 25, 26, 27, 28, 29, 30, 31, 32, 33], 2), (3, [0, 3, 4, 5, 6, 7, 8, 9, 10, 11, 12, 13, 14, 15, 16, 17, 18, 19, 20, 21, 22, 23, 24, 25, 26, 27, 28, 29, 30, 31, 32, 33], 2), (5, [0, 1, 3, 5, 6, 7, 8, 9, 10, 11, 12, 13, 14, 15, 16, 17, 18, 22, 23, 24, 25, 26, 27, 28, 29, 30, 31, 32, 33], 3)]

def f26_2 (w0 : World) (K : Value → AH → Prop) (x15 : Bool) (xb0_0 : Int) (xb0_1 : Int) (xb0_2 : Int) (ab0_3 : Option Go.Addr) (nb0_3 : Nat) (cb0_3 : Nat) (xb1_0 : Int) (xb1_1 : Int) (ab1_2 : Option Go.Addr) (nb1_2 : Nat) (cb1_2 : Nat) (h : AH) : Prop :=
  ∀ j : Nat → Value, LPk Go.Proofs.Try.prog w0 (EvC Go.Proofs.Try.prog w0) f26_J 26 K 2 [.v (j 0), .bp 0 0, .bp 1 0, .v (j 3), .v (j 4), .v (j 5), .v (j 6), .v (j 7), .v (j 8), .v (j 9), .v (j 10), .v (j 11), .v (j 12), .v (j 13), .v (j 14), .v (.bool x15), .v (j 16), .v (j 17), .v (j 18), .v (j 19), .v (j 20), .v (j 21), .v (j 22), .v (j 23), .v (j 24), .v (j 25), .v (j 26), .v (j 27), .v (j 28), .v (j 29), .v (j 30), .v (j 31), .v (j 32), .v (j 33)] [some [(.int .i64 xb0_0), (.int .i64 xb0_1), (.int .i64 xb0_2), (.slice ab0_3 nb0_3 cb0_3)], some [(.int .i64 xb1_0), (.int .i64 xb1_1), (.slice ab1_2 nb1_2 cb1_2)]] h

def f26_3 (w0 : World) (K : Value → AH → Prop) (xb0_0 : Int) (xb0_1 : Int) (xb0_2 : Int) (ab0_3 : Option Go.Addr) (nb0_3 : Nat) (cb0_3 : Nat) (xb1_0 : Int) (xb1_1 : Int) (ab1_2 : Option Go.Addr) (nb1_2 : Nat) (cb1_2 : Nat) (h : AH) : Prop :=
  ∀ j : Nat → Value, LPk Go.Proofs.Try.prog w0 (EvC Go.Proofs.Try.prog w0) f26_J 26 K 3 [.v (j 0), .bp 0 0, .bp 1 0, .v (j 3), .v (j 4), .v (j 5), .v (j 6), .v (j 7), .v (j 8), .v (j 9), .v (j 10), .v (j 11), .v (j 12), .v (j 13), .v (j 14), .v (j 15), .v (j 16), .v (j 17), .v (j 18), .v (j 19), .v (j 20), .v (j 21), .v (j 22), .v (j 23), .v (j 24), .v (j 25), .v (j 26), .v (j 27), .v (j 28), .v (j 29), .v (j 30), .v (j 31), .v (j 32), .v (j 33)] [some [(.int .i64 xb0_0), (.int .i64 xb0_1), (.int .i64 xb0_2), (.slice ab0_3 nb0_3 cb0_3)], some [(.int .i64 xb1_0), (.int .i64 xb1_1), (.slice ab1_2 nb1_2 cb1_2)]] h

def f26_5 (w0 : World) (K : Value → AH → Prop) (a19 : Option Go.Addr) (n19 : Nat) (c19 : Nat) (x20 : Int) (x21 : Int) (xb0_0 : Int) (xb0_1 : Int) (xb0_2 : Int) (ab0_3 : Option Go.Addr) (nb0_3 : Nat) (cb0_3 : Nat) (xb1_0 : Int) (xb1_1 : Int) (ab1_2 : Option Go.Addr) (nb1_2 : Nat) (cb1_2 : Nat) (xb2_0 : Int) (xb2_1 : Int) (ab2_2 : Option Go.Addr) (nb2_2 : Nat) (cb2_2 : Nat) (h : AH) : Prop :=
  ∀ j : Nat → Value, LPk Go.Proofs.Try.prog w0 (EvC Go.Proofs.Try.prog w0) f26_J 26 K 5 [.v (j 0), .v (j 1), .bp 1 0, .v (j 3), .bp 2 0, .v (j 5), .v (j 6), .v (j 7), .v (j 8), .v (j 9), .v (j 10), .v (j 11), .v (j 12), .v (j 13), .v (j 14), .v (j 15), .v (j 16), .v (j 17), .v (j 18), .v (.slice a19 n19 c19), .v (.int .i64 x20), .v (.int .i64 x21), .v (j 22), .v (j 23), .v (j 24), .v (j 25), .v (j 26), .v (j 27), .v (j 28), .v (j 29), .v (j 30), .v (j 31), .v (j 32), .v (j 33)] [some [(.int .i64 xb0_0), (.int .i64 xb0_1), (.int .i64 xb0_2), (.slice ab0_3 nb0_3 cb0_3)], some [(.int .i64 xb1_0), (.int .i64 xb1_1), (.slice ab1_2 nb1_2 cb1_2)], some [(.int .i64 xb2_0), (.int .i64 xb2_1), (.slice ab2_2 nb2_2 cb2_2)]] h

theorem f26_2_in {w0 : World} {K : Value → AH → Prop} (x15 : Bool) (xb0_0 : Int) (xb0_1 : Int) (xb0_2 : Int) (ab0_3 : Option Go.Addr) (nb0_3 : Nat) (cb0_3 : Nat) (xb1_0 : Int) (xb1_1 : Int) (ab1_2 : Option Go.Addr) (nb1_2 : Nat) (cb1_2 : Nat) (h : AH)
  (hv : (brB x15 (K (Go.Value.tuple #[(Go.Value.agg #[(Go.Value.int .i64 (0 : Int)), (Go.Value.int .i64 (0 : Int)), (Go.Value.slice none 0 0)]), (Go.Value.bool false)]) h) (f26_3 w0 K xb0_0 xb0_1 xb0_2 ab0_3 nb0_3 cb0_3 xb1_0 xb1_1 ab1_2 nb1_2 cb1_2 h))) :
  f26_2 w0 K x15 xb0_0 xb0_1 xb0_2 ab0_3 nb0_3 cb0_3 xb1_0 xb1_1 ab1_2 nb1_2 cb1_2 h := fun j => LP_intro (P := Go.Proofs.Try.prog) (Eq.mp (by kernel_rfl) hv)

theorem f26_3_in {w0 : World} {K : Value → AH → Prop} (xb0_0 : Int) (xb0_1 : Int) (xb0_2 : Int) (ab0_3 : Option Go.Addr) (nb0_3 : Nat) (cb0_3 : Nat) (xb1_0 : Int) (xb1_1 : Int) (ab1_2 : Option Go.Addr) (nb1_2 : Nat) (cb1_2 : Nat) (h : AH)
  (hv : (f26_5 w0 K ab0_3 nb0_3 cb0_3 ((nb0_3 : Nat) : Int) (0 : Int) xb0_0 xb0_1 xb0_2 ab0_3 nb0_3 cb0_3 xb1_0 xb1_1 ab1_2 nb1_2 cb1_2 (0 : Int) (3 : Int) none 0 0 h)) :
  f26_3 w0 K xb0_0 xb0_1 xb0_2 ab0_3 nb0_3 cb0_3 xb1_0 xb1_1 ab1_2 nb1_2 cb1_2 h := fun j => LP_intro (P := Go.Proofs.Try.prog) (Eq.mp (by kernel_rfl) hv)

theorem f26_5_in {w0 : World} {K : Value → AH → Prop} (a19 : Option Go.Addr) (n19 : Nat) (c19 : Nat) (x20 : Int) (x21 : Int) (xb0_0 : Int) (xb0_1 : Int) (xb0_2 : Int) (ab0_3 : Option Go.Addr) (nb0_3 : Nat) (cb0_3 : Nat) (xb1_0 : Int) (xb1_1 : Int) (ab1_2 : Option Go.Addr) (nb1_2 : Nat) (cb1_2 : Nat) (xb2_0 : Int) (xb2_1 : Int) (ab2_2 : Option Go.Addr) (nb2_2 : Nat) (cb2_2 : Nat) (h : AH)
  (hv : (brB (decide ((x21 < x20))) (∃ a'3 : Go.Addr, ((a19 = (some a'3)) ∧ (((0 : Int) ≤ x21) ∧ ((x21 < ((n19 : Nat) : Int)) ∧ (∃ i'4 : Int, (∃ i'5 : Int, (∃ i'6 : Int, (∃ p'7 : Option Go.Addr, (∃ n'8 : Nat, (∃ n'9 : Nat, (∃ p'10 : Option Go.Addr, (∃ n'11 : Nat, (∃ n'12 : Nat, ((((Array.size #[(Go.Value.int .i64 i'4), (Go.Value.int .i64 i'5), (Go.Value.int .i64 i'6), (Go.Value.slice p'7 n'8 n'9), (Go.Value.slice p'10 n'11 n'12)]) = 5) ∧ (At w0 h (Go.Addr.add a'3 ((Int.toNat x21) * 5)) [(Go.Value.int .i64 i'4), (Go.Value.int .i64 i'5), (Go.Value.int .i64 i'6), (Go.Value.slice p'7 n'8 n'9), (Go.Value.slice p'10 n'11 n'12)])) ∧ (App w0 h 1 8 ab2_2 nb2_2 cb2_2 1 [(Go.Value.int .i64 i'4)] (fun a'13 c'14 h'15 => (f26_5 w0 K a19 n19 c19 x20 (Go.IntKind.wrap .i64 (x21 + (1 : Int))) xb0_0 xb0_1 xb0_2 ab0_3 nb0_3 cb0_3 xb1_0 xb1_1 ab1_2 nb1_2 cb1_2 xb2_0 xb2_1 a'13 (nb2_2 + 1) c'14 h'15))))))))))))))))) (K (Go.Value.tuple #[(Go.Value.agg #[(Go.Value.int .i64 xb2_0), (Go.Value.int .i64 xb2_1), (Go.Value.slice ab2_2 nb2_2 cb2_2)]), (Go.Value.bool true)]) h))) :
  f26_5 w0 K a19 n19 c19 x20 x21 xb0_0 xb0_1 xb0_2 ab0_3 nb0_3 cb0_3 xb1_0 xb1_1 ab1_2 nb1_2 cb1_2 xb2_0 xb2_1 ab2_2 nb2_2 cb2_2 h := fun j => LP_intro (P := Go.Proofs.Try.prog) (Eq.mp (by kernel_rfl) hv)

theorem f26_go {w0 : World} {K : Value → AH → Prop} (x0_0 : Int) (x0_1 : Int) (x0_2 : Int) (a0_3 : Option Go.Addr) (n0_3 : Nat) (c0_3 : Nat) (h : AH)
  (hv : (EvC Go.Proofs.Try.prog w0 31 #[(Go.Value.agg #[(Go.Value.int .i64 x0_0), (Go.Value.int .i64 x0_1), (Go.Value.int .i64 x0_2), (Go.Value.slice a0_3 n0_3 c0_3)])] (fun x'0 h'1 => (∃ t'2 : Bool, ((x'0 = (Go.Value.bool t'2)) ∧ (brB (!t'2) (f26_2 w0 K true x0_0 x0_1 x0_2 a0_3 n0_3 c0_3 (0 : Int) (0 : Int) none 0 0 h'1) (f26_2 w0 K (((n0_3 : Nat) : Int) == (0 : Int)) x0_0 x0_1 x0_2 a0_3 n0_3 c0_3 (0 : Int) (0 : Int) none 0 0 h'1))))) h)) :
  EvC Go.Proofs.Try.prog w0 26 ([(.agg #[(.int .i64 x0_0), (.int .i64 x0_1), (.int .i64 x0_2), (.slice a0_3 n0_3 c0_3)])]).toArray K h := EvC_intro (P := Go.Proofs.Try.prog) f26_J (Eq.mp (by kernel_rfl) hv)
/-- All tables' job. -/
def allR (lo nx sq : Int) (ts : List Tab) : Bool := mayV lo nx sq ts && !(ts.length == 0)
section
variable {w0 : World} {K : Value → AH → Prop} {h0 : AH} {a : Option Addr} {n c : Nat} {ts : List Tab} {lo nx sq : Int}

theorem f26_5_ok (s : TS w0 h0 a n c ts) (hn : n ≤ 1000000) {y0 y1 z0 z1 : Int} {y2 : Option Addr} {y3 y4 : Nat}
    (hk : ∀ a' n' c' h', Sl w0 h' 1 a' n' c' (ints (ts.map Tab.num)) → Ext h0 h' none → K (.tuple #[.agg #[.int .i64 z0, .int .i64 z1, .slice a' n' c'], .bool true]) h') :
    ∀ (rest : List Tab) (i : Nat) (a2 : Option Addr) (n2 c2 : Nat) (h : AH), ts.drop i = rest → i ≤ n → Ext h0 h none → New h0 a2 → Sl w0 h 1 a2 n2 c2 (ints ((ts.take i).map Tab.num)) →
      f26_5 w0 K a n c ((n : Nat) : Int) ((i : Nat) : Int) lo nx sq a n c y0 y1 y2 y3 y4 z0 z1 a2 n2 c2 h := by
  have hl := s.len
  intro rest
  induction rest with
  | nil =>
    intro i a2 n2 c2 h hd hi hx hnew so
    have := drop_done hd
    rw [List.take_of_length_le (by omega)] at so
    exact f26_5_in _ _ _ _ _ _ _ _ _ _ _ _ _ _ _ _ _ _ _ _ _ _ (brB_of (fun q => by simp at q; omega) fun _ => hk _ _ _ _ so hx)
  | cons t r ih =>
    intro i a2 n2 c2 h hd hi hx hnew so
    obtain ⟨hget, hd', hlt⟩ := drop_step hd
    have hn2 : n2 = i := by have := so.1; simp [ints] at this; omega
    have htake : ts.take (i + 1) = ts.take i ++ [t] := by rw [List.take_add_one, hget]; rfl
    refine f26_5_in _ _ _ _ _ _ _ _ _ _ _ _ _ _ _ _ _ _ _ _ _ _ (brB_of (fun _ => tabLoad (s.ext hx).rs.rd hl hget ?_) fun q => by simp at q; omega)
    refine App_own so (by omega) (by omega) rfl (ints_cell [t.num]) fun a' c' h' s' x1 f' => ?_
    rw [wrapS (by omega)]
    refine ih (i + 1) a' (n2 + 1) c' h' hd' (by omega) (hx.past hnew x1) (hnew.grown hx f') ?_
    have : ints ((ts.take (i + 1)).map Tab.num) = ints ((ts.take i).map Tab.num) ++ [.int .i64 t.num] := by rw [htake]; simp [ints]
    rw [this]; exact s'

/-- pick.All. -/
theorem f26_spec (s : TS w0 h0 a n c ts) (hk0 : ∀ h', allR lo nx sq ts = false → Ext h0 h' none → K (.tuple #[.agg #[.int .i64 0, .int .i64 0, .slice none 0 0], .bool false]) h')
    (hk1 : ∀ a' n' c' h', allR lo nx sq ts = true → Sl w0 h' 1 a' n' c' (ints (ts.map Tab.num)) → Ext h0 h' none → K (.tuple #[.agg #[.int .i64 0, .int .i64 3, .slice a' n' c'], .bool true]) h') :
    EvC Go.Proofs.Try.prog w0 26 #[.agg #[.int .i64 lo, .int .i64 nx, .int .i64 sq, .slice a n c]] K h0 := by
  have hl := s.len
  have step : ∀ (h : AH) (q : Bool), Ext h0 h none → (q = true → allR lo nx sq ts = false) → (q = false → allR lo nx sq ts = true ∧ n ≤ 1000000) → f26_2 w0 K q lo nx sq a n c 0 0 none 0 0 h := fun h q hx h1 h2 => by
    refine f26_2_in _ _ _ _ _ _ _ _ _ _ _ _ _ (brB_of (fun e => hk0 h (h1 e) hx) fun e => f26_3_in _ _ _ _ _ _ _ _ _ _ _ _ ?_)
    obtain ⟨g1, g2⟩ := h2 e
    exact f26_5_ok (s.ext hx) g2 (fun a' n' c' h' s' x' => hk1 a' n' c' h' g1 s' (hx.trans x')) ts 0 none 0 0 h rfl (by omega) (Ext.refl _ _) New.none Sl.nil
  refine f26_go _ _ _ _ _ _ _ (f31_spec s fun h1 x1 => ⟨_, rfl, brB_of (fun q => step h1 _ x1 (fun _ => ?_) (fun e => by cases e)) fun q => step h1 _ x1 (fun q2 => ?_) fun q2 => ?_⟩)
  · have : mayV lo nx sq ts = false := by simpa using q
    unfold allR; rw [this]; rfl
  · have : (ts.length == 0) = true := by
      rw [beq_iff_eq]
      have h0 : n = 0 := by simpa using q2
      omega
    unfold allR; rw [this]; simp
  · have h1 : mayV lo nx sq ts = true := by simpa using q
    have h2 : (ts.length == 0) = false := by
      rw [beq_eq_false_iff_ne]
      have h0 : ¬ n = 0 := by simpa using q2
      omega
    unfold allR; rw [h1, h2]
    have := mayV_len h1
    exact ⟨rfl, by omega⟩
end
def f27_J : Nat → List Nat × Nat := jOf [(2, [0, 3, 4, 5, 6, 7, 8, 9, 10, 11, 12, 13, 14, 16, 17, 18, 19, 20, 21, 22, 23, 24, 25, 26, 27, 28, 29, 30, 31, 32, 33], 2), (3, [0, 3, 4, 5, 6, 7, 8, 9, 10, 11, 12, 13, 14, 15, 16, 17, 18, 19, 20, 21, 22, 23, 24, 25, 26, 27, 28, 29, 30, 31, 32, 33], 2), (5, [0, 1, 3, 5, 6, 7, 8, 9, 10, 11, 12, 13, 14, 15, 16, 17, 18, 22, 23, 24, 25, 26, 27, 28, 29, 30, 31, 32, 33], 3)]

def f27_2 (w0 : World) (K : Value → AH → Prop) (x15 : Bool) (xb0_0 : Int) (xb0_1 : Int) (xb0_2 : Int) (ab0_3 : Option Go.Addr) (nb0_3 : Nat) (cb0_3 : Nat) (xb1_0 : Int) (xb1_1 : Int) (ab1_2 : Option Go.Addr) (nb1_2 : Nat) (cb1_2 : Nat) (h : AH) : Prop :=
  ∀ j : Nat → Value, LPk Go.Proofs.Try.prog w0 (EvC Go.Proofs.Try.prog w0) f27_J 27 K 2 [.v (j 0), .bp 0 0, .bp 1 0, .v (j 3), .v (j 4), .v (j 5), .v (j 6), .v (j 7), .v (j 8), .v (j 9), .v (j 10), .v (j 11), .v (j 12), .v (j 13), .v (j 14), .v (.bool x15), .v (j 16), .v (j 17), .v (j 18), .v (j 19), .v (j 20), .v (j 21), .v (j 22), .v (j 23), .v (j 24), .v (j 25), .v (j 26), .v (j 27), .v (j 28), .v (j 29), .v (j 30), .v (j 31), .v (j 32), .v (j 33)] [some [(.int .i64 xb0_0), (.int .i64 xb0_1), (.int .i64 xb0_2), (.slice ab0_3 nb0_3 cb0_3)], some [(.int .i64 xb1_0), (.int .i64 xb1_1), (.slice ab1_2 nb1_2 cb1_2)]] h

def f27_3 (w0 : World) (K : Value → AH → Prop) (xb0_0 : Int) (xb0_1 : Int) (xb0_2 : Int) (ab0_3 : Option Go.Addr) (nb0_3 : Nat) (cb0_3 : Nat) (xb1_0 : Int) (xb1_1 : Int) (ab1_2 : Option Go.Addr) (nb1_2 : Nat) (cb1_2 : Nat) (h : AH) : Prop :=
  ∀ j : Nat → Value, LPk Go.Proofs.Try.prog w0 (EvC Go.Proofs.Try.prog w0) f27_J 27 K 3 [.v (j 0), .bp 0 0, .bp 1 0, .v (j 3), .v (j 4), .v (j 5), .v (j 6), .v (j 7), .v (j 8), .v (j 9), .v (j 10), .v (j 11), .v (j 12), .v (j 13), .v (j 14), .v (j 15), .v (j 16), .v (j 17), .v (j 18), .v (j 19), .v (j 20), .v (j 21), .v (j 22), .v (j 23), .v (j 24), .v (j 25), .v (j 26), .v (j 27), .v (j 28), .v (j 29), .v (j 30), .v (j 31), .v (j 32), .v (j 33)] [some [(.int .i64 xb0_0), (.int .i64 xb0_1), (.int .i64 xb0_2), (.slice ab0_3 nb0_3 cb0_3)], some [(.int .i64 xb1_0), (.int .i64 xb1_1), (.slice ab1_2 nb1_2 cb1_2)]] h

def f27_5 (w0 : World) (K : Value → AH → Prop) (a19 : Option Go.Addr) (n19 : Nat) (c19 : Nat) (x20 : Int) (x21 : Int) (xb0_0 : Int) (xb0_1 : Int) (xb0_2 : Int) (ab0_3 : Option Go.Addr) (nb0_3 : Nat) (cb0_3 : Nat) (xb1_0 : Int) (xb1_1 : Int) (ab1_2 : Option Go.Addr) (nb1_2 : Nat) (cb1_2 : Nat) (xb2_0 : Int) (xb2_1 : Int) (ab2_2 : Option Go.Addr) (nb2_2 : Nat) (cb2_2 : Nat) (h : AH) : Prop :=
  ∀ j : Nat → Value, LPk Go.Proofs.Try.prog w0 (EvC Go.Proofs.Try.prog w0) f27_J 27 K 5 [.v (j 0), .v (j 1), .bp 1 0, .v (j 3), .bp 2 0, .v (j 5), .v (j 6), .v (j 7), .v (j 8), .v (j 9), .v (j 10), .v (j 11), .v (j 12), .v (j 13), .v (j 14), .v (j 15), .v (j 16), .v (j 17), .v (j 18), .v (.slice a19 n19 c19), .v (.int .i64 x20), .v (.int .i64 x21), .v (j 22), .v (j 23), .v (j 24), .v (j 25), .v (j 26), .v (j 27), .v (j 28), .v (j 29), .v (j 30), .v (j 31), .v (j 32), .v (j 33)] [some [(.int .i64 xb0_0), (.int .i64 xb0_1), (.int .i64 xb0_2), (.slice ab0_3 nb0_3 cb0_3)], some [(.int .i64 xb1_0), (.int .i64 xb1_1), (.slice ab1_2 nb1_2 cb1_2)], some [(.int .i64 xb2_0), (.int .i64 xb2_1), (.slice ab2_2 nb2_2 cb2_2)]] h

theorem f27_2_in {w0 : World} {K : Value → AH → Prop} (x15 : Bool) (xb0_0 : Int) (xb0_1 : Int) (xb0_2 : Int) (ab0_3 : Option Go.Addr) (nb0_3 : Nat) (cb0_3 : Nat) (xb1_0 : Int) (xb1_1 : Int) (ab1_2 : Option Go.Addr) (nb1_2 : Nat) (cb1_2 : Nat) (h : AH)
  (hv : (brB x15 (K (Go.Value.tuple #[(Go.Value.agg #[(Go.Value.int .i64 (0 : Int)), (Go.Value.int .i64 (0 : Int)), (Go.Value.slice none 0 0)]), (Go.Value.bool false)]) h) (f27_3 w0 K xb0_0 xb0_1 xb0_2 ab0_3 nb0_3 cb0_3 xb1_0 xb1_1 ab1_2 nb1_2 cb1_2 h))) :
  f27_2 w0 K x15 xb0_0 xb0_1 xb0_2 ab0_3 nb0_3 cb0_3 xb1_0 xb1_1 ab1_2 nb1_2 cb1_2 h := fun j => LP_intro (P := Go.Proofs.Try.prog) (Eq.mp (by kernel_rfl) hv)

theorem f27_3_in {w0 : World} {K : Value → AH → Prop} (xb0_0 : Int) (xb0_1 : Int) (xb0_2 : Int) (ab0_3 : Option Go.Addr) (nb0_3 : Nat) (cb0_3 : Nat) (xb1_0 : Int) (xb1_1 : Int) (ab1_2 : Option Go.Addr) (nb1_2 : Nat) (cb1_2 : Nat) (h : AH)
  (hv : (f27_5 w0 K ab0_3 nb0_3 cb0_3 ((nb0_3 : Nat) : Int) (0 : Int) xb0_0 xb0_1 xb0_2 ab0_3 nb0_3 cb0_3 xb1_0 xb1_1 ab1_2 nb1_2 cb1_2 (0 : Int) (3 : Int) none 0 0 h)) :
  f27_3 w0 K xb0_0 xb0_1 xb0_2 ab0_3 nb0_3 cb0_3 xb1_0 xb1_1 ab1_2 nb1_2 cb1_2 h := fun j => LP_intro (P := Go.Proofs.Try.prog) (Eq.mp (by kernel_rfl) hv)

theorem f27_5_in {w0 : World} {K : Value → AH → Prop} (a19 : Option Go.Addr) (n19 : Nat) (c19 : Nat) (x20 : Int) (x21 : Int) (xb0_0 : Int) (xb0_1 : Int) (xb0_2 : Int) (ab0_3 : Option Go.Addr) (nb0_3 : Nat) (cb0_3 : Nat) (xb1_0 : Int) (xb1_1 : Int) (ab1_2 : Option Go.Addr) (nb1_2 : Nat) (cb1_2 : Nat) (xb2_0 : Int) (xb2_1 : Int) (ab2_2 : Option Go.Addr) (nb2_2 : Nat) (cb2_2 : Nat) (h : AH)
  (hv : (brB (decide ((x21 < x20))) (∃ a'3 : Go.Addr, ((a19 = (some a'3)) ∧ (((0 : Int) ≤ x21) ∧ ((x21 < ((n19 : Nat) : Int)) ∧ (∃ i'4 : Int, (∃ i'5 : Int, (∃ i'6 : Int, (∃ p'7 : Option Go.Addr, (∃ n'8 : Nat, (∃ n'9 : Nat, (∃ p'10 : Option Go.Addr, (∃ n'11 : Nat, (∃ n'12 : Nat, ((((Array.size #[(Go.Value.int .i64 i'4), (Go.Value.int .i64 i'5), (Go.Value.int .i64 i'6), (Go.Value.slice p'7 n'8 n'9), (Go.Value.slice p'10 n'11 n'12)]) = 5) ∧ (At w0 h (Go.Addr.add a'3 ((Int.toNat x21) * 5)) [(Go.Value.int .i64 i'4), (Go.Value.int .i64 i'5), (Go.Value.int .i64 i'6), (Go.Value.slice p'7 n'8 n'9), (Go.Value.slice p'10 n'11 n'12)])) ∧ (App w0 h 1 8 ab2_2 nb2_2 cb2_2 1 [(Go.Value.int .i64 i'4)] (fun a'13 c'14 h'15 => (f27_5 w0 K a19 n19 c19 x20 (Go.IntKind.wrap .i64 (x21 + (1 : Int))) xb0_0 xb0_1 xb0_2 ab0_3 nb0_3 cb0_3 xb1_0 xb1_1 ab1_2 nb1_2 cb1_2 xb2_0 xb2_1 a'13 (nb2_2 + 1) c'14 h'15))))))))))))))))) (K (Go.Value.tuple #[(Go.Value.agg #[(Go.Value.int .i64 xb2_0), (Go.Value.int .i64 xb2_1), (Go.Value.slice ab2_2 nb2_2 cb2_2)]), (Go.Value.bool true)]) h))) :
  f27_5 w0 K a19 n19 c19 x20 x21 xb0_0 xb0_1 xb0_2 ab0_3 nb0_3 cb0_3 xb1_0 xb1_1 ab1_2 nb1_2 cb1_2 xb2_0 xb2_1 ab2_2 nb2_2 cb2_2 h := fun j => LP_intro (P := Go.Proofs.Try.prog) (Eq.mp (by kernel_rfl) hv)

theorem f27_go {w0 : World} {K : Value → AH → Prop} (x0_0 : Int) (x0_1 : Int) (x0_2 : Int) (a0_3 : Option Go.Addr) (n0_3 : Nat) (c0_3 : Nat) (h : AH)
  (hv : (EvC Go.Proofs.Try.prog w0 32 #[(Go.Value.agg #[(Go.Value.int .i64 x0_0), (Go.Value.int .i64 x0_1), (Go.Value.int .i64 x0_2), (Go.Value.slice a0_3 n0_3 c0_3)])] (fun x'0 h'1 => (∃ t'2 : Bool, ((x'0 = (Go.Value.bool t'2)) ∧ (brB (!t'2) (f27_2 w0 K true x0_0 x0_1 x0_2 a0_3 n0_3 c0_3 (0 : Int) (0 : Int) none 0 0 h'1) (f27_2 w0 K (((n0_3 : Nat) : Int) == (0 : Int)) x0_0 x0_1 x0_2 a0_3 n0_3 c0_3 (0 : Int) (0 : Int) none 0 0 h'1))))) h)) :
  EvC Go.Proofs.Try.prog w0 27 ([(.agg #[(.int .i64 x0_0), (.int .i64 x0_1), (.int .i64 x0_2), (.slice a0_3 n0_3 c0_3)])]).toArray K h := EvC_intro (P := Go.Proofs.Try.prog) f27_J (Eq.mp (by kernel_rfl) hv)
section
variable {w0 : World} {K : Value → AH → Prop} {h0 : AH} {a : Option Addr} {n c : Nat} {ts : List Tab} {lo nx sq : Int}

theorem f27_5_ok (s : TS w0 h0 a n c ts) (hn : n ≤ 1000000) {y0 y1 z0 z1 : Int} {y2 : Option Addr} {y3 y4 : Nat}
    (hk : ∀ a' n' c' h', Sl w0 h' 1 a' n' c' (ints (ts.map Tab.num)) → Ext h0 h' none → K (.tuple #[.agg #[.int .i64 z0, .int .i64 z1, .slice a' n' c'], .bool true]) h') :
    ∀ (rest : List Tab) (i : Nat) (a2 : Option Addr) (n2 c2 : Nat) (h : AH), ts.drop i = rest → i ≤ n → Ext h0 h none → New h0 a2 → Sl w0 h 1 a2 n2 c2 (ints ((ts.take i).map Tab.num)) →
      f27_5 w0 K a n c ((n : Nat) : Int) ((i : Nat) : Int) lo nx sq a n c y0 y1 y2 y3 y4 z0 z1 a2 n2 c2 h := by
  have hl := s.len
  intro rest
  induction rest with
  | nil =>
    intro i a2 n2 c2 h hd hi hx hnew so
    have := drop_done hd
    rw [List.take_of_length_le (by omega)] at so
    exact f27_5_in _ _ _ _ _ _ _ _ _ _ _ _ _ _ _ _ _ _ _ _ _ _ (brB_of (fun q => by simp at q; omega) fun _ => hk _ _ _ _ so hx)
  | cons t r ih =>
    intro i a2 n2 c2 h hd hi hx hnew so
    obtain ⟨hget, hd', hlt⟩ := drop_step hd
    have hn2 : n2 = i := by have := so.1; simp [ints] at this; omega
    have htake : ts.take (i + 1) = ts.take i ++ [t] := by rw [List.take_add_one, hget]; rfl
    refine f27_5_in _ _ _ _ _ _ _ _ _ _ _ _ _ _ _ _ _ _ _ _ _ _ (brB_of (fun _ => tabLoad (s.ext hx).rs.rd hl hget ?_) fun q => by simp at q; omega)
    refine App_own so (by omega) (by omega) rfl (ints_cell [t.num]) fun a' c' h' s' x1 f' => ?_
    rw [wrapS (by omega)]
    refine ih (i + 1) a' (n2 + 1) c' h' hd' (by omega) (hx.past hnew x1) (hnew.grown hx f') ?_
    have : ints ((ts.take (i + 1)).map Tab.num) = ints ((ts.take i).map Tab.num) ++ [.int .i64 t.num] := by rw [htake]; simp [ints]
    rw [this]; exact s'

/-- ref All. -/
theorem f27_spec (s : TS w0 h0 a n c ts) (hk0 : ∀ h', allR lo nx sq ts = false → Ext h0 h' none → K (.tuple #[.agg #[.int .i64 0, .int .i64 0, .slice none 0 0], .bool false]) h')
    (hk1 : ∀ a' n' c' h', allR lo nx sq ts = true → Sl w0 h' 1 a' n' c' (ints (ts.map Tab.num)) → Ext h0 h' none → K (.tuple #[.agg #[.int .i64 0, .int .i64 3, .slice a' n' c'], .bool true]) h') :
    EvC Go.Proofs.Try.prog w0 27 #[.agg #[.int .i64 lo, .int .i64 nx, .int .i64 sq, .slice a n c]] K h0 := by
  have hl := s.len
  have step : ∀ (h : AH) (q : Bool), Ext h0 h none → (q = true → allR lo nx sq ts = false) → (q = false → allR lo nx sq ts = true ∧ n ≤ 1000000) → f27_2 w0 K q lo nx sq a n c 0 0 none 0 0 h := fun h q hx h1 h2 => by
    refine f27_2_in _ _ _ _ _ _ _ _ _ _ _ _ _ (brB_of (fun e => hk0 h (h1 e) hx) fun e => f27_3_in _ _ _ _ _ _ _ _ _ _ _ _ ?_)
    obtain ⟨g1, g2⟩ := h2 e
    exact f27_5_ok (s.ext hx) g2 (fun a' n' c' h' s' x' => hk1 a' n' c' h' g1 s' (hx.trans x')) ts 0 none 0 0 h rfl (by omega) (Ext.refl _ _) New.none Sl.nil
  refine f27_go _ _ _ _ _ _ _ (f32_spec s ⟨_, rfl, brB_of (fun q => step h0 _ (Ext.refl _ _) (fun _ => ?_) (fun e => by cases e)) fun q => step h0 _ (Ext.refl _ _) (fun q2 => ?_) fun q2 => ?_⟩)
  · have : mayV lo nx sq ts = false := by simpa using q
    unfold allR; rw [this]; rfl
  · have : (ts.length == 0) = true := by
      rw [beq_iff_eq]
      have h0 : n = 0 := by simpa using q2
      omega
    unfold allR; rw [this]; simp
  · have h1 : mayV lo nx sq ts = true := by simpa using q
    have h2 : (ts.length == 0) = false := by
      rw [beq_eq_false_iff_ne]
      have h0 : ¬ n = 0 := by simpa using q2
      omega
    unfold allR; rw [h1, h2]
    have := mayV_len h1
    exact ⟨rfl, by omega⟩
end
def f28_J : Nat → List Nat × Nat := jOf []



theorem f28_go {w0 : World} {K : Value → AH → Prop} (x0_0 : Int) (x0_1 : Int) (a0_2 : Option Go.Addr) (n0_2 : Nat) (c0_2 : Nat) (x1_0 : Int) (x1_1 : Int) (a1_2 : Option Go.Addr) (n1_2 : Nat) (c1_2 : Nat) (h : AH)
  (hv : (brB (x0_0 == x1_0) (brB (x0_1 == x1_1) (EvC Go.Proofs.Try.prog w0 51 #[(Go.Value.slice a0_2 n0_2 c0_2), (Go.Value.slice a1_2 n1_2 c1_2)] (fun x'0 h'1 => (∃ t'2 : Bool, ((x'0 = (Go.Value.bool t'2)) ∧ (K (Go.Value.bool t'2) h'1)))) h) (K (Go.Value.bool false) h)) (K (Go.Value.bool false) h))) :
  EvC Go.Proofs.Try.prog w0 28 ([(.agg #[(.int .i64 x0_0), (.int .i64 x0_1), (.slice a0_2 n0_2 c0_2)]), (.agg #[(.int .i64 x1_0), (.int .i64 x1_1), (.slice a1_2 n1_2 c1_2)])]).toArray K h := EvC_intro (P := Go.Proofs.Try.prog) f28_J (Eq.mp (by kernel_rfl) hv)
def f51_J : Nat → List Nat × Nat := jOf [(4, [2, 3, 4, 5, 6, 7, 8, 9, 10, 11, 14, 15, 16, 17, 18, 19, 20, 21, 22, 23, 24, 25], 0)]

def f51_4 (w0 : World) (K : Value → AH → Prop) (a0 : Option Go.Addr) (n0 : Nat) (c0 : Nat) (a1 : Option Go.Addr) (n1 : Nat) (c1 : Nat) (x12 : Int) (x13 : Int) (h : AH) : Prop :=
  ∀ j : Nat → Value, LPk Go.Proofs.Try.prog w0 (EvC Go.Proofs.Try.prog w0) f51_J 51 K 4 [.v (.slice a0 n0 c0), .v (.slice a1 n1 c1), .v (j 2), .v (j 3), .v (j 4), .v (j 5), .v (j 6), .v (j 7), .v (j 8), .v (j 9), .v (j 10), .v (j 11), .v (.int .i64 x12), .v (.int .i64 x13), .v (j 14), .v (j 15), .v (j 16), .v (j 17), .v (j 18), .v (j 19), .v (j 20), .v (j 21), .v (j 22), .v (j 23), .v (j 24), .v (j 25)] [] h

theorem f51_4_in {w0 : World} {K : Value → AH → Prop} (a0 : Option Go.Addr) (n0 : Nat) (c0 : Nat) (a1 : Option Go.Addr) (n1 : Nat) (c1 : Nat) (x12 : Int) (x13 : Int) (h : AH)
  (hv : (brB (decide ((x13 < x12))) (∃ a'0 : Go.Addr, ((a0 = (some a'0)) ∧ (((0 : Int) ≤ x13) ∧ ((x13 < ((n0 : Nat) : Int)) ∧ (∃ i'1 : Int, (((Go.G.cellA w0 h (Go.Addr.add a'0 ((Int.toNat x13) * 1))) = (some (Go.Value.int .i64 i'1))) ∧ (∃ a'2 : Go.Addr, ((a1 = (some a'2)) ∧ (((0 : Int) ≤ x13) ∧ ((x13 < ((n1 : Nat) : Int)) ∧ (∃ i'3 : Int, (((Go.G.cellA w0 h (Go.Addr.add a'2 ((Int.toNat x13) * 1))) = (some (Go.Value.int .i64 i'3))) ∧ (brB (i'1 != i'3) (K (Go.Value.bool false) h) (f51_4 w0 K a0 n0 c0 a1 n1 c1 x12 (Go.IntKind.wrap .i64 (x13 + (1 : Int))) h)))))))))))))) (K (Go.Value.bool true) h))) :
  f51_4 w0 K a0 n0 c0 a1 n1 c1 x12 x13 h := fun j => LP_intro (P := Go.Proofs.Try.prog) (Eq.mp (by kernel_rfl) hv)

theorem f51_go {w0 : World} {K : Value → AH → Prop} (a0 : Option Go.Addr) (n0 : Nat) (c0 : Nat) (a1 : Option Go.Addr) (n1 : Nat) (c1 : Nat) (h : AH)
  (hv : (brB (((n0 : Nat) : Int) != ((n1 : Nat) : Int)) (K (Go.Value.bool false) h) (f51_4 w0 K a0 n0 c0 a1 n1 c1 ((n0 : Nat) : Int) (0 : Int) h))) :
  EvC Go.Proofs.Try.prog w0 51 ([(.slice a0 n0 c0), (.slice a1 n1 c1)]).toArray K h := EvC_intro (P := Go.Proofs.Try.prog) f51_J (Eq.mp (by kernel_rfl) hv)
section
variable {w0 : World} {K : Value → AH → Prop} {h : AH} {a b : Option Addr} {n c m d : Nat} {xs : List Int}
theorem f51_4_ok (s : Sl w0 h 1 a n c (ints xs)) (r : Sl w0 h 1 b m d (ints xs)) (hsm : xs.length ≤ 1000000) (hk : K (.bool true) h) :
    ∀ (rest : List Int) (i : Nat), xs.drop i = rest → i ≤ n → f51_4 w0 K a n c b m d ((n : Nat) : Int) ((i : Nat) : Int) h := by
  have hl : n = xs.length := by have := s.1; simp [ints] at this; omega
  have hm : m = xs.length := by have := r.1; simp [ints] at this; omega
  intro rest
  induction rest with
  | nil =>
    intro i hd hi
    have := drop_done hd
    exact f51_4_in _ _ _ _ _ _ _ _ _ (brB_of (fun q => by simp at q; omega) fun _ => hk)
  | cons x t ih =>
    intro i hd hi
    obtain ⟨hget, hd', hlt⟩ := drop_step hd
    refine f51_4_in _ _ _ _ _ _ _ _ _ (brB_of (fun _ => intLoad s.rd hl hget (intLoad r.rd hm hget (brB_of (fun q => by simp at q) fun _ => ?_))) fun q => by simp at q; omega)
    rw [wrapS (by omega)]
    exact ih (i + 1) hd' (by omega)
/-- ref SameNumbers, of the same. -/
theorem f51_spec (s : Sl w0 h 1 a n c (ints xs)) (r : Sl w0 h 1 b m d (ints xs)) (hsm : xs.length ≤ 1000000) (hk : K (.bool true) h) : EvC Go.Proofs.Try.prog w0 51 #[.slice a n c, .slice b m d] K h := by
  have hl : n = xs.length := by have := s.1; simp [ints] at this; omega
  have hm : m = xs.length := by have := r.1; simp [ints] at this; omega
  exact f51_go _ _ _ _ _ _ _ (brB_of (fun q => by simp at q; omega) fun _ => f51_4_ok s r hsm hk xs 0 rfl (by omega))
/-- The law's same, of the same. -/
theorem f28_spec {x y : Int} (s : Sl w0 h 1 a n c (ints xs)) (r : Sl w0 h 1 b m d (ints xs)) (hsm : xs.length ≤ 1000000) (hk : K (.bool true) h) :
    EvC Go.Proofs.Try.prog w0 28 #[.agg #[.int .i64 x, .int .i64 y, .slice a n c], .agg #[.int .i64 x, .int .i64 y, .slice b m d]] K h :=
  f28_go _ _ _ _ _ _ _ _ _ _ _ (brB_of (fun _ => brB_of (fun _ => f51_spec s r hsm ⟨_, rfl, hk⟩) fun q => by simp at q) fun q => by simp at q)
end
end Go.G.Ytpnhlgghpciofaa
