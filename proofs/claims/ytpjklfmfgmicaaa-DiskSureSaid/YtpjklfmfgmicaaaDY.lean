/- Crash, as the document answers. -/
import Derived.Test.YtpjklfmfgmicaaaDX
import Derived.Test.YtpjklfmfgmicaaaProg
set_option maxRecDepth 100000
namespace Go.G.Ytpjklfmfgmicaaa
open Go.RowKit
set_option maxHeartbeats 1000000 in
theorem rcrash_end {w0 : World} {K : Value → AH → Prop} {h : AH} {B : List (Nat × AB)} {bd : Nat} {s : Ds} {la : Option Addr} {lc : Nat} {wa : Option Addr} {wn wc : Nat} {l : List Int} {a1 : Option Addr} {c1 : Nat} {R1 : Dir} {R2 : List Fl} {F : List FO} (hN : R1.length ≤ 1000000000)
    (ok : ({ s with dir := R1, was := [R1], fs := R2, fuse := 0, wait := 0, fails := 0, off := false } : Ds).Ok) (fv : FV F) (hab : F.map FO.abs = R2) (v : SlV 2 la R1.length lc (entC F R1))
    (w : Own w0 h ((bd, .cells (rcl s.room la R1.length lc wa wn wc s.calls s.fuse s.wait s.fails s.off) 8) :: (slB la (entC F R1) (lc * 2) ++ (fobs F ++ B))))
    (hk : ∀ h' R', R'.bd = bd → RRep { s with dir := R1, was := [R1], fs := R2, fuse := 0, wait := 0, fails := 0, off := false } R' → Own w0 h' (R'.blocks { s with dir := R1, was := [R1], fs := R2, fuse := 0, wait := 0, fails := 0, off := false } ++ B) → K (.tuple #[]) h') :
    f65_2 w0 K (some ⟨bd, 0, none⟩) a1 l.length c1 la R1.length lc ((R1.length : Nat) : Int) ((R1.length : Nat) : Int) h := by
  have rd : Rd w0 h la (entC F R1) := v.rd (cs := [_]) w
  refine f65_2_in _ _ _ _ _ _ _ _ _ _ (brB_of (fun q => by have := of_decide_eq_true q; omega) fun _ => ⟨_, rfl, _, _, _, w.cell0 rfl, f70_spec w rd (by omega) fun a' c' h2 v2 w2 => ⟨_, _, _, rfl, _, rfl, fun b hb hbn => ?_⟩⟩)
  have w3 : Own w0 (h2.put b (.cells [.slice a' R1.length c'] 1)) ((bd, .cells (rcl s.room la R1.length lc wa wn wc s.calls s.fuse s.wait s.fails s.off) 8) :: (slB la (entC F R1) (lc * 2) ++ ((b, .cells [.slice a' R1.length c'] 1) :: (slB a' (entC F R1) (c' * 2) ++ (fobs F ++ B))))) := by
    have q0 := w2.new (o := .cells [.slice a' R1.length c'] 1) hb hbn
    have q1 : Own w0 (h2.put b (.cells [.slice a' R1.length c'] 1)) (((b, .cells [.slice a' R1.length c'] 1) :: slB a' (entC F R1) (c' * 2)) ++ (((bd, .cells (rcl s.room la R1.length lc wa wn wc s.calls s.fuse s.wait s.fails s.off) 8) :: slB la (entC F R1) (lc * 2)) ++ (fobs F ++ B))) := by
      simpa only [List.cons_append, List.append_assoc] using q0
    have q2 := q1.front
    simpa only [List.cons_append, List.append_assoc] using q2
  generalize (h2.put b (.cells [.slice a' R1.length c'] 1)) = h3 at w3
  have g := w3.ge
  have w4 := Own.put (o' := .cells (rcl s.room la R1.length lc (some ⟨b, 0, none⟩) 1 1 s.calls s.fuse s.wait s.fails s.off) 8) w3
  have w5 := Own.put (o' := .cells (rcl s.room la R1.length lc (some ⟨b, 0, none⟩) 1 1 s.calls 0 s.wait s.fails s.off) 8) w4
  have w6 := Own.put (o' := .cells (rcl s.room la R1.length lc (some ⟨b, 0, none⟩) 1 1 s.calls 0 0 s.fails s.off) 8) w5
  have w7 := Own.put (o' := .cells (rcl s.room la R1.length lc (some ⟨b, 0, none⟩) 1 1 s.calls 0 0 0 s.off) 8) w6
  have w8 := Own.put (o' := .cells (rcl s.room la R1.length lc (some ⟨b, 0, none⟩) 1 1 s.calls 0 0 0 false) 8) w7
  refine ⟨_, 8, g, rfl, w3.hd, by simp [rcl, Addr.add], _, rfl, _, 8, g, rfl, w4.hd, by simp [rcl, Addr.add], _, rfl, _, 8, g, rfl, w5.hd, by simp [rcl, Addr.add], _, rfl, _, 8, g, rfl, w6.hd, by simp [rcl, Addr.add], _, rfl, _, 8, g, rfl, w7.hd, by simp [rcl, Addr.add], ?_⟩
  refine hk _ ⟨bd, la, lc, some ⟨b, 0, none⟩, 1, [(a', c')], F⟩ rfl ⟨ok, hab, fv, v, ⟨rfl, Nat.le_refl _, rfl, rfl⟩, ⟨v2, trivial⟩⟩ ?_
  rw [RD.flat]
  show Own w0 _ ((bd, .cells (rcl s.room la R1.length lc (some ⟨b, 0, none⟩) 1 1 s.calls 0 0 0 false) 8) :: (slB la (entC F R1) (lc * 2) ++ ([(b, .cells [.slice a' R1.length c'] 1)] ++ ((slB a' (entC F R1) (c' * 2) ++ []) ++ (fobs F ++ B)))))
  rw [List.append_nil]
  exact w8
theorem was_get {F : List FO} {d : Dir} : ∀ {was : List Dir} {W : List (Option Addr × Nat)} {i : Nat}, WasV F was W → was[i]? = some d →
    ∃ (p : Option Addr × Nat) (C D : List (Nat × AB)), (wasC was W)[i]? = some (.slice p.1 d.length p.2) ∧ SlV 2 p.1 d.length p.2 (entC F d) ∧ wasB F was W = C ++ (slB p.1 (entC F d) (p.2 * 2) ++ D)
  | [], _, i, _, h => by simp at h
  | _ :: _, [], i, v, _ => v.elim
  | x :: r, p :: q, 0, v, h => by
    simp at h; subst h
    exact ⟨p, [], wasB F r q, rfl, v.1, rfl⟩
  | x :: r, p :: q, i + 1, v, h => by
    obtain ⟨p2, C, D, h1, h2, h3⟩ := was_get (i := i) v.2 (by simpa using h)
    refine ⟨p2, slB p.1 (entC F x) (p.2 * 2) ++ C, D, h1, h2, ?_⟩
    show slB p.1 (entC F x) (p.2 * 2) ++ wasB F r q = _
    rw [h3, List.append_assoc]
set_option maxHeartbeats 1000000 in
/-- Crash, as the document answers. -/
theorem f65_spec {w0 : World} {K : Value → AH → Prop} {h : AH} {B : List (Nat × AB)} {s : Ds} {R : RD} {a : Option Addr} {c : Nat} {l : List Int} (r : RRep s R) (w : Own w0 h (R.blocks s ++ B)) (hc : s.calls < 100000000) (hne : s.was ≠ []) (p : PickOk w0 a c l)
    (hk : ∀ h' R', R'.bd = R.bd → RRep (crashS l s) R' → Own w0 h' (R'.blocks (crashS l s) ++ B) → K (.tuple #[]) h') :
    EvC Go.Proofs.Try.prog w0 65 #[.pointer (some ⟨R.bd, 0, none⟩), .slice a l.length c] K h := by
  have ook := crashS_ok r.ok l
  have hwl := r.ok.nw
  have hwp : 0 < s.was.length := List.length_pos_iff.2 hne
  have hp0 : pickS l (s.was.length - 1) = (pickAt l 0 (s.was.length - 1), l.drop 1) := pickS_drop l 0 _
  have hple := pickAt_le l 0 (s.was.length - 1)
  have hcall : ∀ (Q : Value → AH → Prop) h', Q (.int .i64 ((pickAt l 0 (s.was.length - 1) : Nat) : Int)) h' → EvC Go.Proofs.Try.prog w0 76 #[.slice a l.length c, .int .i64 (0 : Int), .int .i64 (IntKind.i64.wrap (((s.was.length : Nat) : Int) - (1 : Int)))] Q h' := fun Q h' hQ =>
    f76_spec p (k := 0) (n := s.was.length - 1) (by omega) (by rw [wrap64 (by omega) (by omega)]; omega) hQ
  unfold crashS at hk ook
  rw [hp0] at hk ook
  dsimp only at hk ook
  generalize pickAt l 0 (s.was.length - 1) = i at *
  have hil : i < s.was.length := by omega
  have hg := List.getElem?_eq_getElem hil
  have od := r.ok.was _ (List.getElem_mem hil)
  generalize s.was[i] = d at hg od
  rw [hg] at hk ook
  dsimp only [Option.getD_some] at hk ook
  have hdl := od.len
  obtain ⟨q, C, D, g1, g2, g3⟩ := was_get r.ww hg
  have wf := w
  rw [RD.flat] at wf
  have wl : cellA w0 h (Addr.add ⟨R.bd, 0, none⟩ 2) = some (.slice R.wa s.was.length R.wc) := wf.cell0 rfl
  obtain ⟨ad, had, hcell⟩ : ∃ ad, R.wa = some ad ∧ cellA w0 h (Addr.add ad ((Int.toNat ((i : Nat) : Int)) * 1)) = some (.slice q.1 d.length q.2) := by
    have rdw : Rd w0 h R.wa (wasC s.was R.W) := r.wv.rd (cs := (R.bd, .cells (rcells s R) 8) :: slB R.la (entC R.F s.dir) (R.lc * 2)) (by simpa only [List.cons_append, List.append_assoc] using wf)
    rw [Int.toNat_natCast, Nat.mul_one]
    exact rdw i _ g1
  have rd : Rd w0 h q.1 (entC R.F d) := by
    rw [g3] at wf
    refine g2.rd (cs := (R.bd, .cells (rcells s R) 8) :: (slB R.la (entC R.F s.dir) (R.lc * 2) ++ (slB R.wa (wasC s.was R.W) (R.wc * 1) ++ C))) (bs := D ++ (fobs R.F ++ B)) ?_
    simpa only [List.cons_append, List.append_assoc] using wf
  have copied : ∀ Q : Value → AH → Prop, (∀ a' c' h', SlV 2 a' d.length c' (entC R.F d) → Own w0 h' ((R.bd, .cells (rcells s R) 8) :: (slB a' (entC R.F d) (c' * 2) ++ (fobs R.F ++ B))) → Q (.slice a' d.length c') h') → EvC Go.Proofs.Try.prog w0 70 #[.slice q.1 d.length q.2] Q h := fun Q hQ =>
    f70_spec wf rd (by omega) fun a' c' h' v' w' => hQ a' c' h' v' (by
      have q1 : Own w0 h' (slB a' (entC R.F d) (c' * 2) ++ ([(R.bd, .cells (rcells s R) 8)] ++ ((slB R.la (entC R.F s.dir) (R.lc * 2) ++ (slB R.wa (wasC s.was R.W) (R.wc * 1) ++ wasB R.F s.was R.W)) ++ (fobs R.F ++ B)))) := by
        simpa only [List.cons_append, List.append_assoc, List.nil_append] using w'
      have q2 : Own w0 h' ((slB a' (entC R.F d) (c' * 2) ++ [(R.bd, .cells (rcells s R) 8)]) ++ (fobs R.F ++ B)) := Own.cut (ds := slB R.la (entC R.F s.dir) (R.lc * 2) ++ (slB R.wa (wasC s.was R.W) (R.wc * 1) ++ wasB R.F s.was R.W)) (by simpa only [List.append_assoc] using q1)
      have q3 := Own.front (cs := slB a' (entC R.F d) (c' * 2)) (ds := [(R.bd, .cells (rcells s R) 8)]) (bs := fobs R.F ++ B) (by simpa only [List.append_assoc] using q2)
      simpa only [List.cons_append, List.nil_append] using q3)
  have loop : ∀ a' c' h', SlV 2 a' d.length c' (entC R.F d) → Own w0 h' ((R.bd, .cells (rcl s.room a' d.length c' R.wa s.was.length R.wc s.calls s.fuse s.wait s.fails s.off) 8) :: (slB a' (entC R.F d) (c' * 2) ++ (fobs R.F ++ B))) →
      f65_2 w0 K (some ⟨R.bd, 0, none⟩) a l.length c a' d.length c' ((d.length : Nat) : Int) (0 : Int) h' := fun a' c' h' v' w' => by
    cases a' with
    | none =>
      have hd0 : d = [] := List.length_eq_zero_iff.1 v'.2.2.1
      subst hd0
      exact rcrash_end (R1 := []) (by simp) ook r.fv r.fs v' w' hk
    | some x =>
      obtain ⟨x1, x2⟩ := v'.2.2
      have hx : x = ⟨x.block, 0, none⟩ := by cases x; simp_all
      generalize x.block = xb at hx
      subst hx
      have hnm := keepAll_names d (l.drop 1) s.fs
      have hlen : (keepAll (l.drop 1) d s.fs).1.length = d.length := by have := congrArg List.length hnm; simpa using this
      refine rcrash_loop (K := K) (B := B) (N := d.length) (R1 := (keepAll (l.drop 1) d s.fs).1) (R2 := (keepAll (l.drop 1) d s.fs).2) (by omega) p v'.2.1 (fun F h2 fv hab hl w2 => ?_) d [] R.F h' r.fv (by rw [r.fs]; exact r.ok.fs) (fun e he => by rw [r.len]; exact (od.ids e he).1) (by simp) (by rw [r.fs]; rfl) (by rw [r.fs]; rfl) w'
      have := rcrash_end (K := K) (a1 := a) (l := l) (c1 := c) (R1 := (keepAll (l.drop 1) d s.fs).1) (R2 := (keepAll (l.drop 1) d s.fs).2) (F := F) (la := some ⟨xb, 0, none⟩) (lc := c') (wa := R.wa) (wn := s.was.length) (wc := R.wc) (B := B) (by rw [hlen]; omega) ook fv hab ⟨entC_length _ _, by rw [hlen]; exact v'.2.1, rfl, rfl⟩ (by rw [hlen]; exact w2) hk
      rw [hlen] at this
      exact this
  have fin : ∀ a' c' h', SlV 2 a' d.length c' (entC R.F d) → Own w0 h' ((R.bd, .cells (rcells s R) 8) :: (slB a' (entC R.F d) (c' * 2) ++ (fobs R.F ++ B))) →
      ∃ a'20 : Addr, (some ⟨R.bd, 0, none⟩ : Option Addr) = some a'20 ∧ ∃ l'21 : List Value, ∃ n'22 : Nat, (w0.heap.size ≤ (a'20.add 1).block) ∧ ((none : Option Nat) = none) ∧ (h' (a'20.add 1).block = some (AB.cells l'21 n'22)) ∧ ((a'20.add 1).off + (Array.size #[Value.slice a' d.length c']) ≤ l'21.length) ∧
        ∃ a'23 : Addr, (some ⟨R.bd, 0, none⟩ : Option Addr) = some a'23 ∧ ∃ p'24 : Option Addr, ∃ n'25 : Nat, ∃ n'26 : Nat, (cellA w0 (AH.put h' (a'20.add 1).block (AB.cells (setCells l'21 (a'20.add 1).off [Value.slice a' d.length c']) n'22)) (a'23.add 1) = some (.slice p'24 n'25 n'26)) ∧
          f65_2 w0 K (some ⟨R.bd, 0, none⟩) a l.length c p'24 n'25 n'26 ((n'25 : Nat) : Int) (0 : Int) (AH.put h' (a'20.add 1).block (AB.cells (setCells l'21 (a'20.add 1).off [Value.slice a' d.length c']) n'22)) := fun a' c' h' v' w' => by
    have w2 := Own.put (o' := .cells (rcl s.room a' d.length c' R.wa s.was.length R.wc s.calls s.fuse s.wait s.fails s.off) 8) w'
    exact ⟨_, rfl, _, 8, Own.ge w', rfl, Own.hd w', by simp [rcells, rcl, Addr.add], _, rfl, _, _, _, w2.cell0 rfl, loop a' c' _ v' w2⟩
  refine f65_go _ _ _ _ _ ⟨_, rfl, _, rfl, ?_⟩
  repeat' first
    | exact fin _ _ _ (by assumption) (by assumption)
    | refine ⟨_, _, _, wl, ?_⟩
    | refine ⟨_, _, _, hcell, ?_⟩
    | refine ⟨_, had, ?_⟩
    | refine ⟨_, _, _, rfl, ?_⟩
    | refine ⟨_, rfl, ?_⟩
    | refine hcall _ _ ?_
    | refine copied _ fun a' c' h' v' w' => ?_
    | omega
    | refine ⟨?_, ?_⟩
end Go.G.Ytpjklfmfgmicaaa
