/- pick.Splits, and the light of layer 17's statements. -/
import Derived.Test.YtpnhlgghpciofaaGTab
import Derived.Test.YtpnhlgghpciofaaProg
set_option maxRecDepth 100000
namespace Go.G.Ytpnhlgghpciofaa
open Go.RowKit
def f15_J : Nat → List Nat × Nat := jOf [(4, [0, 1, 2, 6, 7, 11, 12, 13, 14, 15, 16, 17, 18, 19, 20, 21, 22, 23, 24, 25, 26, 27, 28, 29, 30, 31, 32, 33, 34, 35], 0)]

def f15_4 (w0 : World) (K : Value → AH → Prop) (a3 : Option Go.Addr) (n3 : Nat) (c3 : Nat) (x4 : Int) (x5 : Int) (a8 : Option Go.Addr) (n8 : Nat) (c8 : Nat) (x9 : Int) (x10 : Int) (h : AH) : Prop :=
  ∀ j : Nat → Value, LPk Go.Proofs.Try.prog w0 (EvC Go.Proofs.Try.prog w0) f15_J 15 K 4 [.v (j 0), .v (j 1), .v (j 2), .v (.slice a3 n3 c3), .v (.int .i64 x4), .v (.int .i64 x5), .v (j 6), .v (j 7), .v (.slice a8 n8 c8), .v (.int .i64 x9), .v (.int .i64 x10), .v (j 11), .v (j 12), .v (j 13), .v (j 14), .v (j 15), .v (j 16), .v (j 17), .v (j 18), .v (j 19), .v (j 20), .v (j 21), .v (j 22), .v (j 23), .v (j 24), .v (j 25), .v (j 26), .v (j 27), .v (j 28), .v (j 29), .v (j 30), .v (j 31), .v (j 32), .v (j 33), .v (j 34), .v (j 35)] [] h

theorem f15_4_in {w0 : World} {K : Value → AH → Prop} (a3 : Option Go.Addr) (n3 : Nat) (c3 : Nat) (x4 : Int) (x5 : Int) (a8 : Option Go.Addr) (n8 : Nat) (c8 : Nat) (x9 : Int) (x10 : Int) (h : AH)
  (hv : (brB (decide ((x10 < x9))) (∃ a'0 : Go.Addr, ((a8 = (some a'0)) ∧ (((0 : Int) ≤ x10) ∧ ((x10 < ((n8 : Nat) : Int)) ∧ (∃ i'1 : Int, (((Go.G.cellA w0 h (Go.Addr.add a'0 ((Int.toNat x10) * 1))) = (some (Go.Value.int .i64 i'1))) ∧ (brB (decide ((i'1 < (1 : Int)))) (K (Go.Value.slice none 0 0) h) (brB (decide ((x5 ≤ i'1))) (App w0 h 1 8 a3 n3 c3 1 [(Go.Value.int .i64 (Go.IntKind.wrap .i64 (x4 + (1 : Int))))] (fun a'2 c'3 h'4 => (f15_4 w0 K a'2 (n3 + 1) c'3 (0 : Int) (1024 : Int) a8 n8 c8 x9 (Go.IntKind.wrap .i64 (x10 + (1 : Int))) h'4))) (f15_4 w0 K a3 n3 c3 (Go.IntKind.wrap .i64 (x4 + (1 : Int))) (Go.IntKind.wrap .i64 (x5 - i'1)) a8 n8 c8 x9 (Go.IntKind.wrap .i64 (x10 + (1 : Int))) h))))))))) (brB (decide (((0 : Int) < x4))) (App w0 h 1 8 a3 n3 c3 1 [(Go.Value.int .i64 x4)] (fun a'5 c'6 h'7 => (K (Go.Value.slice a'5 (n3 + 1) c'6) h'7))) (K (Go.Value.slice a3 n3 c3) h)))) :
  f15_4 w0 K a3 n3 c3 x4 x5 a8 n8 c8 x9 x10 h := fun j => LP_intro (P := Go.Proofs.Try.prog) (Eq.mp (by kernel_rfl) hv)

theorem f15_go {w0 : World} {K : Value → AH → Prop} (a0 : Option Go.Addr) (n0 : Nat) (c0 : Nat) (h : AH)
  (hv : (f15_4 w0 K none 0 0 (0 : Int) (1024 : Int) a0 n0 c0 ((n0 : Nat) : Int) (0 : Int) h)) :
  EvC Go.Proofs.Try.prog w0 15 ([(.slice a0 n0 c0)]).toArray K h := EvC_intro (P := Go.Proofs.Try.prog) f15_J (Eq.mp (by kernel_rfl) hv)
/-- What Splits answers: how many weights each table has; nothing if a weight is none. -/
def splits (cnt room : Int) : List Int → Option (List Int)
  | [] => some (if 0 < cnt then [cnt] else [])
  | v :: r => if v < 1 then none else if room ≤ v then (splits 0 1024 r).map ((cnt + 1) :: ·) else splits (cnt + 1) (room - v) r
def splitsOf (ws : List Int) : List Int := (splits 0 1024 ws).getD []

theorem f15_loop {w0 : World} {K : Value → AH → Prop} {h0 : AH} {ws : List Int} {a8 : Option Addr} {c8 : Nat} (hw : Rs w0 h0 a8 (ints ws)) (hlen : ws.length ≤ 17000000000000)
    (hin : ∀ x ∈ ws, x ≤ 9223372036854775807)
    (hk : ∀ a n c h', Sl w0 h' 1 a n c (ints (splitsOf ws)) → Ext h0 h' none → New h0 a → K (.slice a n c) h') :
    ∀ (rest pre out : List Int) (cnt room : Int) (a3 : Option Addr) (n3 c3 : Nat) (h : AH), ws = pre ++ rest → Sl w0 h 1 a3 n3 c3 (ints out) → Ext h0 h none → New h0 a3 →
      n3 ≤ pre.length → 0 ≤ cnt → cnt ≤ pre.length → 1 ≤ room → room ≤ 1024 → splits 0 1024 ws = (splits cnt room rest).map (out ++ ·) →
      f15_4 w0 K a3 n3 c3 cnt room a8 ws.length c8 ((ws.length : Nat) : Int) ((pre.length : Nat) : Int) h := by
  intro rest
  induction rest with
  | nil =>
    intro pre out cnt room a3 n3 c3 h hws hs hx hfr hn hc0 hc1 hr0 hr1 heq
    have hl : ws.length = pre.length := by rw [hws]; simp
    refine f15_4_in _ _ _ _ _ _ _ _ _ _ _ (brB_of (fun t => ?_) fun _ => brB_of (fun t => ?_) fun t => ?_)
    · simp at t; omega
    · have hpos : 0 < cnt := by simpa using t
      refine App_own hs (by omega) (by omega) (by simp) (by simp [Value.oneCell']) fun a' c' h' hs' hx' hf' => ?_
      refine hk _ _ _ _ ?_ (fun i o hi hne => hx' i o (hx i o hi hne) fun ad e q => ?_) fun ad e => ?_
      · have : splitsOf ws = out ++ [cnt] := by simp [splitsOf, heq, splits, hpos]
        rw [this]; simpa [ints] using hs'
      · have := hfr ad e
        rw [← q, hi] at this
        cases this
      · rcases hf' with rfl | ⟨ad', rfl, hb⟩
        · exact hfr ad e
        · injection e with e
          subst e
          cases hq : h0 ad'.block with
          | none => rfl
          | some o => have := hx _ _ hq (fun _ e => by cases e); rw [hb] at this; cases this
    · have hpos : ¬ 0 < cnt := by simpa using t
      refine hk _ _ _ _ ?_ hx hfr
      have : splitsOf ws = out := by simp [splitsOf, heq, splits, hpos]
      rw [this]; exact hs
  | cons v r ih =>
    intro pre out cnt room a3 n3 c3 h hws hs hx hfr hn hc0 hc1 hr0 hr1 heq
    have hl : ws.length = pre.length + (r.length + 1) := by rw [hws]; simp
    have hv : ws[pre.length]? = some v := by rw [hws]; simp
    have hmem : v ∈ ws := by rw [hws]; simp
    have hvb := hin v hmem
    have hpre : ((pre ++ [v]).length : Int) = (pre.length : Int) + 1 := by simp
    have w1 : IntKind.i64.wrap ((pre.length : Int) + 1) = ((pre ++ [v]).length : Nat) := by rw [wrap64 (by omega) (by omega)]; simp
    have w2 : IntKind.i64.wrap (cnt + 1) = cnt + 1 := wrap64 (by omega) (by omega)
    refine f15_4_in _ _ _ _ _ _ _ _ _ _ _ (brB_of (fun _ => ?_) fun t => ?_)
    · obtain ⟨ad, had, hc⟩ := (hw h hx) _ _ (ints_get hv)
      refine ⟨ad, had, by omega, by omega, v, by simpa using hc, brB_of (fun t => ?_) fun t => brB_of (fun t2 => ?_) fun t2 => ?_⟩
      · have hlt : v < 1 := by simpa using t
        refine hk _ _ _ _ ?_ hx (fun ad e => by cases e)
        have : splitsOf ws = [] := by simp [splitsOf, heq, splits, hlt]
        rw [this]; exact Sl.nil
      · have hge : ¬ v < 1 := by simpa using t
        have hro : room ≤ v := by simpa using t2
        refine App_own hs (by omega) (by omega) (by simp) (by simp [Value.oneCell']) fun a' c' h' hs' hx' hf' => ?_
        rw [w1]
        refine ih (pre ++ [v]) (out ++ [cnt + 1]) 0 1024 a' (n3 + 1) c' h' (by rw [hws]; simp) (by rw [w2] at hs'; simpa [ints] using hs') (fun i o hi hne => hx' i o (hx i o hi hne) fun ad e q => ?_) (fun ad e => ?_) (by simp; omega) (by omega) (by simp; omega) (by omega) (by omega) ?_
        · have := hfr ad e
          rw [← q, hi] at this
          cases this
        · rcases hf' with rfl | ⟨ad', rfl, hb⟩
          · exact hfr ad e
          · injection e with e
            subst e
            cases hq : h0 ad'.block with
            | none => rfl
            | some o => have := hx _ _ hq (fun _ e => by cases e); rw [hb] at this; cases this
        · rw [heq]
          simp only [splits, if_neg hge, if_pos hro, Option.map_map]
          cases splits 0 1024 r <;> simp
      · have hge : ¬ v < 1 := by simpa using t
        have hro : ¬ room ≤ v := by simpa using t2
        rw [w1, w2, wrap64 (by omega) (by omega)]
        refine ih (pre ++ [v]) out (cnt + 1) (room - v) a3 n3 c3 h (by rw [hws]; simp) hs hx hfr (by simp; omega) (by omega) (by simp; omega) (by omega) (by omega) ?_
        rw [heq]
        simp only [splits, if_neg hge, if_neg hro]
    · simp at t; omega

/-- pick.Splits. -/
theorem f15_spec {w0 : World} {K : Value → AH → Prop} {h : AH} {ws : List Int} {a : Option Addr} {c : Nat} (hw : Rs w0 h a (ints ws)) (hlen : ws.length ≤ 17000000000000)
    (hin : ∀ x ∈ ws, x ≤ 9223372036854775807)
    (hk : ∀ a n c h', Sl w0 h' 1 a n c (ints (splitsOf ws)) → Ext h h' none → New h a → K (.slice a n c) h') :
    EvC Go.Proofs.Try.prog w0 15 #[.slice a ws.length c] K h :=
  f15_go _ _ _ _ (f15_loop hw hlen hin hk ws [] [] 0 1024 none 0 0 h rfl Sl.nil (Ext.refl _ _) (fun _ e => by cases e) (Nat.le_refl _) (by omega) (by simp) (by omega) (by omega) (by simp))
def f17_J : Nat → List Nat × Nat := jOf []



theorem f17_go {w0 : World} {K : Value → AH → Prop}  (h : AH)
  (hv : (newB w0 h (Go.G.AB.cells [(Go.Value.int .i64 (600 : Int)), (Go.Value.int .i64 (500 : Int)), (Go.Value.int .i64 (2000 : Int)), (Go.Value.int .i64 (1 : Int))] 4) (fun b'0 h'1 => (EvC Go.Proofs.Try.prog w0 15 #[(Go.Value.slice (some (Go.Addr.mk b'0 0 none)) 4 4)] (fun x'2 h'3 => (∃ p'4 : Option Go.Addr, (∃ n'5 : Nat, (∃ n'6 : Nat, ((x'2 = (Go.Value.slice p'4 n'5 n'6)) ∧ (brB (((n'5 : Nat) : Int) == (3 : Int)) (∃ a'7 : Go.Addr, ((p'4 = (some a'7)) ∧ (((0 : Int) ≤ (0 : Int)) ∧ (((0 : Int) < ((n'5 : Nat) : Int)) ∧ (∃ i'8 : Int, (((Go.G.cellA w0 h'3 (Go.Addr.add a'7 0)) = (some (Go.Value.int .i64 i'8))) ∧ (brB (i'8 == (2 : Int)) (∃ a'9 : Go.Addr, ((p'4 = (some a'9)) ∧ (((0 : Int) ≤ (1 : Int)) ∧ (((1 : Int) < ((n'5 : Nat) : Int)) ∧ (∃ i'10 : Int, (((Go.G.cellA w0 h'3 (Go.Addr.add a'9 1)) = (some (Go.Value.int .i64 i'10))) ∧ (K (Go.Value.bool (i'10 == (1 : Int))) h'3))))))) (K (Go.Value.bool false) h'3)))))))) (K (Go.Value.bool false) h'3))))))) h'1)))) :
  EvC Go.Proofs.Try.prog w0 17 ([]).toArray K h := EvC_intro (P := Go.Proofs.Try.prog) f17_J (Eq.mp (by kernel_rfl) hv)
/-- The laws' own light: Splits of four numbers. -/
theorem f17_spec {w0 : World} {K : Value → AH → Prop} {h : AH} (hk : ∀ h', Ext h h' none → K (.bool true) h') : EvC Go.Proofs.Try.prog w0 17 #[] K h := by
  refine f17_go _ fun b hb hn => ?_
  have hs : Sl w0 (h.put b (.cells (ints [600, 500, 2000, 1]) 4)) 1 (some ⟨b, 0, none⟩) 4 4 (ints [600, 500, 2000, 1]) := Sl.lit (n := 4) (e := 1) hb rfl
  refine f15_spec (ws := [600, 500, 2000, 1]) hs.rs (by simp) (by simp) fun a n c h' hs' hx hnew => ⟨_, _, _, rfl, ?_⟩
  have e : splitsOf [600, 500, 2000, 1] = [2, 1, 1] := by decide
  rw [e] at hs'
  have hl : n = 3 := by have := hs'.1; simp [ints] at this; omega
  subst hl
  refine brB_of (fun _ => ?_) (fun t => by simp at t)
  obtain ⟨ad, rfl, h0⟩ := hs'.rd 0 (.int .i64 2) rfl
  obtain ⟨ad1, e1, h1⟩ := hs'.rd 1 (.int .i64 1) rfl
  injection e1 with e1
  subst e1
  refine ⟨_, rfl, by omega, by omega, 2, h0, brB_of (fun _ => ⟨_, rfl, by omega, by omega, 1, h1, ?_⟩) (fun t => by simp at t)⟩
  have := hk h' ((Ext_put hn).trans hx)
  simpa using this
end Go.G.Ytpnhlgghpciofaa
