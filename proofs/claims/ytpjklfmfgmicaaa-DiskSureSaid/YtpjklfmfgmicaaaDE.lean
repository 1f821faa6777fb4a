/- The document's call, find. -/
import Derived.Test.YtpjklfmfgmicaaaDD
import Derived.Test.YtpjklfmfgmicaaaProg
set_option maxRecDepth 100000
namespace Go.G.Ytpjklfmfgmicaaa
open Go.RowKit
def f46_J : Nat → List Nat × Nat := jOf [(7, [1, 2, 3, 5, 6, 7, 8, 9, 10, 11, 12, 13, 14, 15, 16, 17, 18, 19, 20, 21, 22, 23, 24, 25, 26, 27, 28, 29, 30, 31, 32, 33, 34, 35, 36, 37, 38, 39, 40, 41, 42, 43, 44, 45, 46, 47, 48, 49, 50, 51, 52, 53, 54, 55, 56, 57, 58, 59, 60, 61, 62, 63], 0), (13, [1, 2, 3, 6, 7, 8, 9, 10, 11, 12, 13, 14, 15, 16, 17, 18, 19, 20, 21, 22, 23, 24, 25, 26, 27, 28, 29, 30, 31, 32, 33, 34, 35, 36, 37, 38, 39, 40, 41, 42, 43, 44, 45, 46, 47, 48, 49, 50, 51, 52, 53, 54, 55, 56, 57, 58, 59, 60, 61, 62, 63], 0)]

def f46_7 (w0 : World) (K : Value → AH → Prop) (x0 : Option Go.Addr) (x4 : Bool) (h : AH) : Prop :=
  ∀ j : Nat → Value, LPk Go.Proofs.Try.prog w0 (EvC Go.Proofs.Try.prog w0) f46_J 46 K 7 [.v (.pointer x0), .v (j 1), .v (j 2), .v (j 3), .v (.bool x4), .v (j 5), .v (j 6), .v (j 7), .v (j 8), .v (j 9), .v (j 10), .v (j 11), .v (j 12), .v (j 13), .v (j 14), .v (j 15), .v (j 16), .v (j 17), .v (j 18), .v (j 19), .v (j 20), .v (j 21), .v (j 22), .v (j 23), .v (j 24), .v (j 25), .v (j 26), .v (j 27), .v (j 28), .v (j 29), .v (j 30), .v (j 31), .v (j 32), .v (j 33), .v (j 34), .v (j 35), .v (j 36), .v (j 37), .v (j 38), .v (j 39), .v (j 40), .v (j 41), .v (j 42), .v (j 43), .v (j 44), .v (j 45), .v (j 46), .v (j 47), .v (j 48), .v (j 49), .v (j 50), .v (j 51), .v (j 52), .v (j 53), .v (j 54), .v (j 55), .v (j 56), .v (j 57), .v (j 58), .v (j 59), .v (j 60), .v (j 61), .v (j 62), .v (j 63)] [] h

def f46_13 (w0 : World) (K : Value → AH → Prop) (x0 : Option Go.Addr) (x4 : Bool) (x5 : Bool) (h : AH) : Prop :=
  ∀ j : Nat → Value, LPk Go.Proofs.Try.prog w0 (EvC Go.Proofs.Try.prog w0) f46_J 46 K 13 [.v (.pointer x0), .v (j 1), .v (j 2), .v (j 3), .v (.bool x4), .v (.bool x5), .v (j 6), .v (j 7), .v (j 8), .v (j 9), .v (j 10), .v (j 11), .v (j 12), .v (j 13), .v (j 14), .v (j 15), .v (j 16), .v (j 17), .v (j 18), .v (j 19), .v (j 20), .v (j 21), .v (j 22), .v (j 23), .v (j 24), .v (j 25), .v (j 26), .v (j 27), .v (j 28), .v (j 29), .v (j 30), .v (j 31), .v (j 32), .v (j 33), .v (j 34), .v (j 35), .v (j 36), .v (j 37), .v (j 38), .v (j 39), .v (j 40), .v (j 41), .v (j 42), .v (j 43), .v (j 44), .v (j 45), .v (j 46), .v (j 47), .v (j 48), .v (j 49), .v (j 50), .v (j 51), .v (j 52), .v (j 53), .v (j 54), .v (j 55), .v (j 56), .v (j 57), .v (j 58), .v (j 59), .v (j 60), .v (j 61), .v (j 62), .v (j 63)] [] h

theorem f46_7_in {w0 : World} {K : Value → AH → Prop} (x0 : Option Go.Addr) (x4 : Bool) (h : AH)
  (hv : (∃ a'16 : Go.Addr, ((x0 = (some a'16)) ∧ (∃ i'17 : Int, (((Go.G.cellA w0 h (Go.Addr.add a'16 6)) = (some (Go.Value.int .i64 i'17))) ∧ (brB (decide (((0 : Int) < i'17))) (∃ a'18 : Go.Addr, ((x0 = (some a'18)) ∧ (∃ i'19 : Int, (((Go.G.cellA w0 h (Go.Addr.add a'18 5)) = (some (Go.Value.int .i64 i'19))) ∧ (brB (decide (((1 : Int) < i'19))) (∃ a'20 : Go.Addr, ((x0 = (some a'20)) ∧ (∃ i'21 : Int, (((Go.G.cellA w0 h (Go.Addr.add a'20 5)) = (some (Go.Value.int .i64 i'21))) ∧ (∃ a'22 : Go.Addr, ((x0 = (some a'22)) ∧ (∃ l'23 : List Go.Value, (∃ n'24 : Nat, (((Array.size (Go.World.heap w0)) ≤ (Go.Addr.block (Go.Addr.add a'22 5))) ∧ (((none : Option Nat) = none) ∧ (((h (Go.Addr.block (Go.Addr.add a'22 5))) = (some (Go.G.AB.cells l'23 n'24))) ∧ ((((Go.Addr.off (Go.Addr.add a'22 5)) + (Array.size #[(Go.Value.int .i64 (Go.IntKind.wrap .i64 (i'21 - (1 : Int))))])) ≤ (List.length l'23)) ∧ (f46_13 w0 K x0 x4 false (Go.G.AH.put h (Go.Addr.block (Go.Addr.add a'22 5)) (Go.G.AB.cells (Go.G.setCells l'23 (Go.Addr.off (Go.Addr.add a'22 5)) [(Go.Value.int .i64 (Go.IntKind.wrap .i64 (i'21 - (1 : Int))))]) n'24))))))))))))))) (∃ a'25 : Go.Addr, ((x0 = (some a'25)) ∧ (∃ i'26 : Int, (((Go.G.cellA w0 h (Go.Addr.add a'25 6)) = (some (Go.Value.int .i64 i'26))) ∧ (∃ a'27 : Go.Addr, ((x0 = (some a'27)) ∧ (∃ l'28 : List Go.Value, (∃ n'29 : Nat, (((Array.size (Go.World.heap w0)) ≤ (Go.Addr.block (Go.Addr.add a'27 6))) ∧ (((none : Option Nat) = none) ∧ (((h (Go.Addr.block (Go.Addr.add a'27 6))) = (some (Go.G.AB.cells l'28 n'29))) ∧ ((((Go.Addr.off (Go.Addr.add a'27 6)) + (Array.size #[(Go.Value.int .i64 (Go.IntKind.wrap .i64 (i'26 - (1 : Int))))])) ≤ (List.length l'28)) ∧ (f46_13 w0 K x0 x4 true (Go.G.AH.put h (Go.Addr.block (Go.Addr.add a'27 6)) (Go.G.AB.cells (Go.G.setCells l'28 (Go.Addr.off (Go.Addr.add a'27 6)) [(Go.Value.int .i64 (Go.IntKind.wrap .i64 (i'26 - (1 : Int))))]) n'29)))))))))))))))))))) (f46_13 w0 K x0 x4 false h))))))) :
  f46_7 w0 K x0 x4 h := fun j => LP_intro (P := Go.Proofs.Try.prog) (Eq.mp (by kernel_rfl) hv)

theorem f46_13_in {w0 : World} {K : Value → AH → Prop} (x0 : Option Go.Addr) (x4 : Bool) (x5 : Bool) (h : AH)
  (hv : (brB x4 (∃ a'30 : Go.Addr, ((x0 = (some a'30)) ∧ (∃ l'31 : List Go.Value, (∃ n'32 : Nat, (((Array.size (Go.World.heap w0)) ≤ (Go.Addr.block (Go.Addr.add a'30 7))) ∧ (((none : Option Nat) = none) ∧ (((h (Go.Addr.block (Go.Addr.add a'30 7))) = (some (Go.G.AB.cells l'31 n'32))) ∧ ((((Go.Addr.off (Go.Addr.add a'30 7)) + 1) ≤ (List.length l'31)) ∧ (brB x5 (K (Go.Value.tuple #[(Go.Value.int .i64 (10 : Int)), (Go.Value.bool false)]) (Go.G.AH.put h (Go.Addr.block (Go.Addr.add a'30 7)) (Go.G.AB.cells (Go.G.setCells l'31 (Go.Addr.off (Go.Addr.add a'30 7)) [(Go.Value.bool true)]) n'32))) (K (Go.Value.tuple #[(Go.Value.int .i64 (0 : Int)), (Go.Value.bool true)]) (Go.G.AH.put h (Go.Addr.block (Go.Addr.add a'30 7)) (Go.G.AB.cells (Go.G.setCells l'31 (Go.Addr.off (Go.Addr.add a'30 7)) [(Go.Value.bool true)]) n'32)))))))))))) (brB x5 (K (Go.Value.tuple #[(Go.Value.int .i64 (9 : Int)), (Go.Value.bool false)]) h) (K (Go.Value.tuple #[(Go.Value.int .i64 (0 : Int)), (Go.Value.bool false)]) h)))) :
  f46_13 w0 K x0 x4 x5 h := fun j => LP_intro (P := Go.Proofs.Try.prog) (Eq.mp (by kernel_rfl) hv)

theorem f46_go {w0 : World} {K : Value → AH → Prop} (x0 : Option Go.Addr) (h : AH)
  (hv : (∃ a'0 : Go.Addr, ((x0 = (some a'0)) ∧ (∃ i'1 : Int, (((Go.G.cellA w0 h (Go.Addr.add a'0 3)) = (some (Go.Value.int .i64 i'1))) ∧ (∃ a'2 : Go.Addr, ((x0 = (some a'2)) ∧ (∃ l'3 : List Go.Value, (∃ n'4 : Nat, (((Array.size (Go.World.heap w0)) ≤ (Go.Addr.block (Go.Addr.add a'2 3))) ∧ (((none : Option Nat) = none) ∧ (((h (Go.Addr.block (Go.Addr.add a'2 3))) = (some (Go.G.AB.cells l'3 n'4))) ∧ ((((Go.Addr.off (Go.Addr.add a'2 3)) + (Array.size #[(Go.Value.int .i64 (Go.IntKind.wrap .i64 (i'1 + (1 : Int))))])) ≤ (List.length l'3)) ∧ (∃ a'5 : Go.Addr, ((x0 = (some a'5)) ∧ (∃ t'6 : Bool, (((Go.G.cellA w0 (Go.G.AH.put h (Go.Addr.block (Go.Addr.add a'2 3)) (Go.G.AB.cells (Go.G.setCells l'3 (Go.Addr.off (Go.Addr.add a'2 3)) [(Go.Value.int .i64 (Go.IntKind.wrap .i64 (i'1 + (1 : Int))))]) n'4)) (Go.Addr.add a'5 7)) = (some (Go.Value.bool t'6))) ∧ (brB t'6 (K (Go.Value.tuple #[(Go.Value.int .i64 (10 : Int)), (Go.Value.bool false)]) (Go.G.AH.put h (Go.Addr.block (Go.Addr.add a'2 3)) (Go.G.AB.cells (Go.G.setCells l'3 (Go.Addr.off (Go.Addr.add a'2 3)) [(Go.Value.int .i64 (Go.IntKind.wrap .i64 (i'1 + (1 : Int))))]) n'4))) (∃ a'7 : Go.Addr, ((x0 = (some a'7)) ∧ (∃ i'8 : Int, (((Go.G.cellA w0 (Go.G.AH.put h (Go.Addr.block (Go.Addr.add a'2 3)) (Go.G.AB.cells (Go.G.setCells l'3 (Go.Addr.off (Go.Addr.add a'2 3)) [(Go.Value.int .i64 (Go.IntKind.wrap .i64 (i'1 + (1 : Int))))]) n'4)) (Go.Addr.add a'7 4)) = (some (Go.Value.int .i64 i'8))) ∧ (∃ a'9 : Go.Addr, ((x0 = (some a'9)) ∧ (∃ i'10 : Int, (((Go.G.cellA w0 (Go.G.AH.put h (Go.Addr.block (Go.Addr.add a'2 3)) (Go.G.AB.cells (Go.G.setCells l'3 (Go.Addr.off (Go.Addr.add a'2 3)) [(Go.Value.int .i64 (Go.IntKind.wrap .i64 (i'1 + (1 : Int))))]) n'4)) (Go.Addr.add a'9 4)) = (some (Go.Value.int .i64 i'10))) ∧ (brB (decide (((0 : Int) < i'10))) (∃ a'11 : Go.Addr, ((x0 = (some a'11)) ∧ (∃ i'12 : Int, (((Go.G.cellA w0 (Go.G.AH.put h (Go.Addr.block (Go.Addr.add a'2 3)) (Go.G.AB.cells (Go.G.setCells l'3 (Go.Addr.off (Go.Addr.add a'2 3)) [(Go.Value.int .i64 (Go.IntKind.wrap .i64 (i'1 + (1 : Int))))]) n'4)) (Go.Addr.add a'11 4)) = (some (Go.Value.int .i64 i'12))) ∧ (∃ a'13 : Go.Addr, ((x0 = (some a'13)) ∧ (∃ l'14 : List Go.Value, (∃ n'15 : Nat, (((Array.size (Go.World.heap w0)) ≤ (Go.Addr.block (Go.Addr.add a'13 4))) ∧ (((none : Option Nat) = none) ∧ (((Go.G.AH.put h (Go.Addr.block (Go.Addr.add a'2 3)) (Go.G.AB.cells (Go.G.setCells l'3 (Go.Addr.off (Go.Addr.add a'2 3)) [(Go.Value.int .i64 (Go.IntKind.wrap .i64 (i'1 + (1 : Int))))]) n'4) (Go.Addr.block (Go.Addr.add a'13 4))) = (some (Go.G.AB.cells l'14 n'15))) ∧ ((((Go.Addr.off (Go.Addr.add a'13 4)) + (Array.size #[(Go.Value.int .i64 (Go.IntKind.wrap .i64 (i'12 - (1 : Int))))])) ≤ (List.length l'14)) ∧ (f46_7 w0 K x0 (i'8 == (1 : Int)) (Go.G.AH.put (Go.G.AH.put h (Go.Addr.block (Go.Addr.add a'2 3)) (Go.G.AB.cells (Go.G.setCells l'3 (Go.Addr.off (Go.Addr.add a'2 3)) [(Go.Value.int .i64 (Go.IntKind.wrap .i64 (i'1 + (1 : Int))))]) n'4)) (Go.Addr.block (Go.Addr.add a'13 4)) (Go.G.AB.cells (Go.G.setCells l'14 (Go.Addr.off (Go.Addr.add a'13 4)) [(Go.Value.int .i64 (Go.IntKind.wrap .i64 (i'12 - (1 : Int))))]) n'15))))))))))))))) (f46_7 w0 K x0 (i'8 == (1 : Int)) (Go.G.AH.put h (Go.Addr.block (Go.Addr.add a'2 3)) (Go.G.AB.cells (Go.G.setCells l'3 (Go.Addr.off (Go.Addr.add a'2 3)) [(Go.Value.int .i64 (Go.IntKind.wrap .i64 (i'1 + (1 : Int))))]) n'4)))))))))))))))))))))))))))))) :
  EvC Go.Proofs.Try.prog w0 46 ([(.pointer x0)]).toArray K h := EvC_intro (P := Go.Proofs.Try.prog) f46_J (Eq.mp (by kernel_rfl) hv)
def lastS (s : Ds) : Bool := if (callS s).1 = 0 then (callS s).2.1 else false
/-- The document's call. -/
theorem f46_spec {w0 : World} {K : Value → AH → Prop} {h : AH} {B : List (Nat × AB)} {s : Ds} {R : RD} (w : Own w0 h ((R.bd, .cells (rcells s R) 8) :: B)) (o : s.Ok) (hc : s.calls < 1099511627776)
    (hk : ∀ h', Own w0 h' ((R.bd, .cells (rcells (callS s).2.2 R) 8) :: B) → K (.tuple #[.int .i64 (callS s).1, .bool (lastS s)]) h') :
    EvC Go.Proofs.Try.prog w0 46 #[.pointer (some ⟨R.bd, 0, none⟩)] K h := by
  have oc := o.calls
  have of := o.fuse
  have ow := o.wait
  have oa := o.fails
  refine f46_go _ _ ⟨_, rfl, _, w.cell0 rfl, _, rfl, _, 8, w.ge, rfl, w.hd, by simp [rcells, rcl, Addr.add], ?_⟩
  rw [wrap64 (by omega) (by omega)]
  have w1 : Own w0 (h.put R.bd (.cells (rcl s.room R.la s.dir.length R.lc R.wa s.was.length R.wc (s.calls + 1) s.fuse s.wait s.fails s.off) 8)) ((R.bd, .cells (rcl s.room R.la s.dir.length R.lc R.wa s.was.length R.wc (s.calls + 1) s.fuse s.wait s.fails s.off) 8) :: B) := w.put
  refine ⟨_, rfl, _, w1.cell0 rfl, brB_of (fun q => ?_) fun q => ⟨_, rfl, _, w1.cell0 rfl, _, rfl, _, w1.cell0 rfl, ?_⟩⟩
  · have e : callS s = (10, false, { s with calls := s.calls + 1 }) := by unfold callS; rw [if_pos q]
    unfold lastS at hk
    rw [e] at hk
    exact hk _ w1
  have last : ∀ h2, Own w0 h2 ((R.bd, .cells (rcl s.room R.la s.dir.length R.lc R.wa s.was.length R.wc (s.calls + 1) (tickS s).fuse (tickS s).wait (tickS s).fails s.off) 8) :: B) → f46_13 w0 K (some ⟨R.bd, 0, none⟩) (s.fuse == 1) (failing s) h2 := fun h2 w2 => by
    unfold lastS at hk
    refine f46_13_in _ _ _ _ (brB_of (fun q1 => ⟨_, rfl, _, 8, w2.ge, rfl, w2.hd, by simp [rcl, Addr.add], brB_of (fun q2 => ?_) fun q2 => ?_⟩) fun q1 => brB_of (fun q2 => ?_) fun q2 => ?_)
    · have e : callS s = (10, true, { tickS s with off := true }) := by unfold callS; rw [if_neg (by simp [q]), if_pos q2, if_pos q1]
      rw [e] at hk
      exact hk _ w2.put
    · have e : callS s = (0, true, { tickS s with off := true }) := by unfold callS; rw [if_neg (by simp [q]), if_neg (by simp [q2]), q1]
      rw [e] at hk
      exact hk _ w2.put
    · have e : callS s = (9, false, tickS s) := by unfold callS; rw [if_neg (by simp [q]), if_pos q2, if_neg (by simp [q1])]
      rw [e] at hk
      exact hk _ w2
    · have e : callS s = (0, false, { tickS s with off := s.off }) := by unfold callS; rw [if_neg (by simp [q]), if_neg (by simp [q2]), q1, q]
      rw [e] at hk
      exact hk _ w2
  have mid : ∀ h1, Own w0 h1 ((R.bd, .cells (rcl s.room R.la s.dir.length R.lc R.wa s.was.length R.wc (s.calls + 1) (tickS s).fuse s.wait s.fails s.off) 8) :: B) → f46_7 w0 K (some ⟨R.bd, 0, none⟩) (s.fuse == 1) h1 := fun h1 w1 => by
    refine f46_7_in _ _ _ ⟨_, rfl, _, w1.cell0 rfl, brB_of (fun qf => ⟨_, rfl, _, w1.cell0 rfl, brB_of (fun qw => ⟨_, rfl, _, w1.cell0 rfl, _, rfl, _, 8, w1.ge, rfl, w1.hd, by simp [rcl, Addr.add], ?_⟩) fun qw => ⟨_, rfl, _, w1.cell0 rfl, _, rfl, _, 8, w1.ge, rfl, w1.hd, by simp [rcl, Addr.add], ?_⟩⟩) fun qf => ?_⟩
    · have hg : 0 < s.fails := by simpa using qf
      have hw : 1 < s.wait := by simpa using qw
      have hf : failing s = false := by unfold failing; simp; omega
      rw [wrap64 (by omega) (by omega)]
      have e1 : (tickS s).wait = s.wait - 1 := by unfold tickS; simp [hf, hg]
      have e2 : (tickS s).fails = s.fails := by unfold tickS; simp [hf]
      rw [← hf]
      refine last _ ?_
      rw [e1, e2]
      exact w1.put
    · have hg : 0 < s.fails := by simpa using qf
      have hw : ¬ 1 < s.wait := by simpa using qw
      have hf : failing s = true := by unfold failing; simp; omega
      rw [wrap64 (by omega) (by omega)]
      have e1 : (tickS s).wait = s.wait := by unfold tickS; simp [hf]
      have e2 : (tickS s).fails = s.fails - 1 := by unfold tickS; simp [hf]
      rw [← hf]
      refine last _ ?_
      rw [e1, e2]
      exact w1.put
    · have hg : ¬ 0 < s.fails := by simpa using qf
      have hf : failing s = false := by unfold failing; simp; omega
      have e1 : (tickS s).wait = s.wait := by unfold tickS; simp [hg]
      have e2 : (tickS s).fails = s.fails := by unfold tickS; simp [hf]
      rw [← hf]
      refine last _ ?_
      rw [e1, e2]
      exact w1
  refine brB_of (fun q2 => ⟨_, rfl, _, w1.cell0 rfl, _, rfl, _, 8, w1.ge, rfl, w1.hd, by simp [rcl, Addr.add], ?_⟩) fun q2 => ?_
  · have hg : 0 < s.fuse := by simpa using q2
    rw [wrap64 (by omega) (by omega)]
    have e1 : (tickS s).fuse = s.fuse - 1 := by unfold tickS; simp [hg]
    refine mid _ ?_
    rw [e1]
    exact w1.put
  · have hg : ¬ 0 < s.fuse := by simpa using q2
    have e1 : (tickS s).fuse = s.fuse := by unfold tickS; simp; omega
    refine mid _ ?_
    rw [e1]
    exact w1
def f49_J : Nat → List Nat × Nat := jOf [(2, [0, 2, 3, 4, 5, 6, 7, 8, 9, 13, 14, 15, 16, 17, 18, 19, 20, 21, 22], 0)]

def f49_2 (w0 : World) (K : Value → AH → Prop) (x1 : ByteArray) (a10 : Option Go.Addr) (n10 : Nat) (c10 : Nat) (x11 : Int) (x12 : Int) (h : AH) : Prop :=
  ∀ j : Nat → Value, LPk Go.Proofs.Try.prog w0 (EvC Go.Proofs.Try.prog w0) f49_J 49 K 2 [.v (j 0), .v (.string x1), .v (j 2), .v (j 3), .v (j 4), .v (j 5), .v (j 6), .v (j 7), .v (j 8), .v (j 9), .v (.slice a10 n10 c10), .v (.int .i64 x11), .v (.int .i64 x12), .v (j 13), .v (j 14), .v (j 15), .v (j 16), .v (j 17), .v (j 18), .v (j 19), .v (j 20), .v (j 21), .v (j 22)] [] h

theorem f49_2_in {w0 : World} {K : Value → AH → Prop} (x1 : ByteArray) (a10 : Option Go.Addr) (n10 : Nat) (c10 : Nat) (x11 : Int) (x12 : Int) (h : AH)
  (hv : (brB (decide ((x12 < x11))) (∃ a'4 : Go.Addr, ((a10 = (some a'4)) ∧ (((0 : Int) ≤ x12) ∧ ((x12 < ((n10 : Nat) : Int)) ∧ (∃ s'5 : ByteArray, (∃ p'6 : Option Go.Addr, ((((Array.size #[(Go.Value.string s'5), (Go.Value.pointer p'6)]) = 2) ∧ (At w0 h (Go.Addr.add a'4 ((Int.toNat x12) * 2)) [(Go.Value.string s'5), (Go.Value.pointer p'6)])) ∧ (brB (decide ((s'5 = x1))) (K (Go.Value.pointer p'6) h) (f49_2 w0 K x1 a10 n10 c10 x11 (Go.IntKind.wrap .i64 (x12 + (1 : Int))) h))))))))) (K (Go.Value.pointer none) h))) :
  f49_2 w0 K x1 a10 n10 c10 x11 x12 h := fun j => LP_intro (P := Go.Proofs.Try.prog) (Eq.mp (by kernel_rfl) hv)

theorem f49_go {w0 : World} {K : Value → AH → Prop} (x0 : Option Go.Addr) (x1 : ByteArray) (h : AH)
  (hv : (∃ a'0 : Go.Addr, ((x0 = (some a'0)) ∧ (∃ p'1 : Option Go.Addr, (∃ n'2 : Nat, (∃ n'3 : Nat, (((Go.G.cellA w0 h (Go.Addr.add a'0 1)) = (some (Go.Value.slice p'1 n'2 n'3))) ∧ (f49_2 w0 K x1 p'1 n'2 n'3 ((n'2 : Nat) : Int) (0 : Int) h)))))))) :
  EvC Go.Proofs.Try.prog w0 49 ([(.pointer x0), (.string x1)]).toArray K h := EvC_intro (P := Go.Proofs.Try.prog) f49_J (Eq.mp (by kernel_rfl) hv)
/-- An entry of a slice is loaded. -/
theorem entLoad {w0 : World} {h : AH} {F : List FO} {a : Option Addr} {d : Dir} {i n : Nat} {e : ByteArray × Nat} {C : Addr → ByteArray → Option Addr → Prop} (hr : Rd w0 h a (entC F d)) (hi : d[i]? = some e) (hn : n = d.length)
    (hk : ∀ ad, C ad e.1 (ptrF F e.2)) :
    ∃ ad : Addr, a = some ad ∧ (0 : Int) ≤ (i : Nat) ∧ ((i : Nat) : Int) < ((n : Nat) : Int) ∧ ∃ s' : ByteArray, ∃ p : Option Addr, (((Array.size #[(Value.string s'), (.pointer p)]) = 2) ∧ (At w0 h (Addr.add ad ((Int.toNat ((i : Nat) : Int)) * 2)) [(.string s'), (.pointer p)])) ∧ C ad s' p := by
  obtain ⟨g0, g1⟩ := entC_get (F := F) hi
  obtain ⟨ad, rfl, c0⟩ := hr _ _ g0
  obtain ⟨ad', e', c1⟩ := hr _ _ g1
  injection e' with e'
  subst e'
  have hl := (List.getElem?_eq_some_iff.1 hi).1
  refine ⟨ad, rfl, by omega, by omega, _, _, ⟨rfl, ?_⟩, hk ad⟩
  intro j x hj
  rw [Int.toNat_natCast, Deep.add_add]
  match j, hj with
  | 0, hj => simp at hj; subst hj; exact c0
  | 1, hj => simp at hj; subst hj; exact c1
  | j + 2, hj => simp at hj

/-- find. -/
theorem f49_spec {w0 : World} {K : Value → AH → Prop} {h : AH} {B : List (Nat × AB)} {s : Ds} {R : RD} {n : ByteArray} (w : Own w0 h ((R.bd, .cells (rcells s R) 8) :: (slB R.la (entC R.F s.dir) (R.lc * 2) ++ B)))
    (lv : SlV 2 R.la s.dir.length R.lc (entC R.F s.dir)) (hs : s.dir.length ≤ 1000000000000000)
    (hk : K (.pointer (match findD n s.dir with | none => none | some i => ptrF R.F i)) h) :
    EvC Go.Proofs.Try.prog w0 49 #[.pointer (some ⟨R.bd, 0, none⟩), .string n] K h := by
  have rd : Rd w0 h R.la (entC R.F s.dir) := lv.rd (cs := [_]) w
  have loop : ∀ (k i : Nat), i + k = s.dir.length → findD n s.dir = findD n (s.dir.drop i) → f49_2 w0 K n R.la s.dir.length R.lc ((s.dir.length : Nat) : Int) ((i : Nat) : Int) h := by
    intro k
    induction k with
    | zero =>
      intro i hi he
      refine f49_2_in _ _ _ _ _ _ _ (brB_of (fun q => by simp at q; omega) fun _ => ?_)
      rw [he, List.drop_eq_nil_of_le (by omega)] at hk
      exact hk
    | succ k ih =>
      intro i hi he
      have hil : i < s.dir.length := by omega
      have hget : s.dir[i]? = some s.dir[i] := List.getElem?_eq_getElem hil
      rw [List.drop_eq_getElem_cons hil] at he
      generalize s.dir[i] = e at hget he
      refine f49_2_in _ _ _ _ _ _ _ (brB_of (fun _ => entLoad rd hget rfl fun ad => brB_of (fun q => ?_) fun q => ?_) fun q => by simp at q; omega)
      · have q' : e.1 = n := by simpa using q
        have : findD n s.dir = some e.2 := by rw [he]; simp [findD, q']
        rw [this] at hk
        exact hk
      · have q' : ¬ e.1 = n := by simpa using q
        rw [wrapS (by omega)]
        refine ih (i + 1) (by omega) ?_
        rw [he]; simp [findD, q']
  exact f49_go _ _ _ ⟨_, rfl, _, _, _, w.cell0 rfl, loop s.dir.length 0 (by omega) rfl⟩
end Go.G.Ytpjklfmfgmicaaa
