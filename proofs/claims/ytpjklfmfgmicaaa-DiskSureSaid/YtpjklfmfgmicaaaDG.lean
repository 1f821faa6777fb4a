/- Create, as the document answers. -/
import Derived.Test.YtpjklfmfgmicaaaDF
import Derived.Test.YtpjklfmfgmicaaaProg
set_option maxRecDepth 100000
namespace Go.G.Ytpjklfmfgmicaaa
open Go.RowKit
def f15_J : Nat → List Nat × Nat := jOf []



theorem f15_go {w0 : World} {K : Value → AH → Prop} (x0 : Option Go.Addr) (x1 : ByteArray) (h : AH)
  (hv : (EvC Go.Proofs.Try.prog w0 46 #[(Go.Value.pointer x0)] (fun x'0 h'1 => (∃ i'2 : Int, (∃ t'3 : Bool, ((x'0 = (Go.Value.tuple #[(Go.Value.int .i64 i'2), (Go.Value.bool t'3)])) ∧ (brB (i'2 != (0 : Int)) (K (Go.Value.int .i64 i'2) h'1) (EvC Go.Proofs.Try.prog w0 47 #[(Go.Value.string x1)] (fun x'4 h'5 => (∃ t'6 : Bool, ((x'4 = (Go.Value.bool t'6)) ∧ (brB (!t'6) (EvC Go.Proofs.Try.prog w0 48 #[(Go.Value.int .i64 (15 : Int)), (Go.Value.bool t'3)] (fun x'7 h'8 => (∃ i'9 : Int, ((x'7 = (Go.Value.int .i64 i'9)) ∧ (K (Go.Value.int .i64 i'9) h'8)))) h'5) (EvC Go.Proofs.Try.prog w0 49 #[(Go.Value.pointer x0), (Go.Value.string x1)] (fun x'10 h'11 => (∃ p'12 : Option Go.Addr, ((x'10 = (Go.Value.pointer p'12)) ∧ (brB (Option.isSome p'12) (EvC Go.Proofs.Try.prog w0 48 #[(Go.Value.int .i64 (6 : Int)), (Go.Value.bool t'3)] (fun x'13 h'14 => (∃ i'15 : Int, ((x'13 = (Go.Value.int .i64 i'15)) ∧ (K (Go.Value.int .i64 i'15) h'14)))) h'11) (newB w0 h'11 (Go.G.AB.cells [(Go.Value.slice none 0 0), (Go.Value.int .i64 (0 : Int))] 2) (fun b'16 h'17 => (EvC Go.Proofs.Try.prog w0 50 #[(Go.Value.pointer x0), (Go.Value.string x1), (Go.Value.pointer (some (Go.Addr.mk b'16 0 none)))] (fun x'18 h'19 => ((x'18 = (Go.Value.tuple #[])) ∧ (EvC Go.Proofs.Try.prog w0 51 #[(Go.Value.pointer x0)] (fun x'20 h'21 => ((x'20 = (Go.Value.tuple #[])) ∧ (EvC Go.Proofs.Try.prog w0 48 #[(Go.Value.int .i64 (0 : Int)), (Go.Value.bool t'3)] (fun x'22 h'23 => (∃ i'24 : Int, ((x'22 = (Go.Value.int .i64 i'24)) ∧ (K (Go.Value.int .i64 i'24) h'23)))) h'21))) h'19))) h'17))))))) h'5))))) h'1)))))) h)) :
  EvC Go.Proofs.Try.prog w0 15 ([(.pointer x0), (.string x1)]).toArray K h := EvC_intro (P := Go.Proofs.Try.prog) f15_J (Eq.mp (by kernel_rfl) hv)
theorem play_new {n : ByteArray} {i : Nat} {d : Dir} : (⟨⟨#[]⟩, n, some i⟩ : Chg).play d = putD n i false d := by simp [Chg.play]
theorem RD.flat (s : Ds) (R : RD) (B : List (Nat × AB)) : R.blocks s ++ B = (R.bd, .cells (rcells s R) 8) :: (slB R.la (entC R.F s.dir) (R.lc * 2) ++ (slB R.wa (wasC s.was R.W) (R.wc * 1) ++ (wasB R.F s.was R.W ++ (fobs R.F ++ B)))) := by
  simp only [RD.blocks, RD.rest, List.cons_append, List.append_assoc]
theorem RRep.call {s : Ds} {R : RD} (r : RRep s R) : RRep (callS s).2.2 R := by
  obtain ⟨e1, e2, e3, e4, e5⟩ := callS_same s
  exact ⟨callS_ok r.ok, by rw [e2]; exact r.fs, r.fv, by rw [e3]; exact r.lv, by rw [e4]; exact r.wv, by rw [e4]; exact r.ww⟩
theorem RD.call (s : Ds) (R : RD) : R.rest (callS s).2.2 = R.rest s := by
  obtain ⟨e1, e2, e3, e4, e5⟩ := callS_same s
  unfold RD.rest; rw [e3, e4]
theorem lastS_of {s : Ds} (h : ((callS s).1 != 0) = false) : lastS s = (callS s).2.1 := by
  have : (callS s).1 = 0 := by simpa using h
  unfold lastS; rw [if_pos this]
theorem RRep.len {s : Ds} {R : RD} (r : RRep s R) : R.F.length = s.fs.length := by rw [← r.fs]; simp
/-- A call that changes begins. -/
theorem f46_rep {w0 : World} {K : Value → AH → Prop} {h : AH} {B : List (Nat × AB)} {s : Ds} {R : RD} (r : RRep s R) (w : Own w0 h (R.blocks s ++ B)) (hc : s.calls < 1099511627776)
    (hk : ∀ h', Own w0 h' (R.blocks (callS s).2.2 ++ B) → K (.tuple #[.int .i64 (callS s).1, .bool (lastS s)]) h') :
    EvC Go.Proofs.Try.prog w0 46 #[.pointer (some ⟨R.bd, 0, none⟩)] K h :=
  f46_spec (B := R.rest s ++ B) w r.ok hc fun h' w' => hk h' (by rw [RD.blocks, RD.call]; exact w')

/-- Create, as the document answers. -/
theorem f15_spec {w0 : World} {K : Value → AH → Prop} {h : AH} {B : List (Nat × AB)} {s : Ds} {R : RD} {n : ByteArray} (r : RRep s R) (w : Own w0 h (R.blocks s ++ B)) (hc : s.calls < 1000000000) (hn : n.size ≤ 1000000000000000)
    (hk : ∀ h' R', R'.bd = R.bd → RRep (createS n s).2 R' → Own w0 h' (R'.blocks (createS n s).2 ++ B) → K (.int .i64 (createS n s).1) h') :
    EvC Go.Proofs.Try.prog w0 15 #[.pointer (some ⟨R.bd, 0, none⟩), .string n] K h := by
  have ook := createS_ok r.ok n
  have oc := r.ok.calls
  refine f15_go _ _ _ (f46_rep r w (by omega) fun h1 w1 => ⟨_, _, rfl, brB_of (fun q => ?_) fun q => ?_⟩)
  · have e : createS n s = ((callS s).1, (callS s).2.2) := by unfold createS; dsimp only; rw [if_pos (by simpa using q)]
    rw [e] at hk
    exact hk h1 R rfl r.call w1
  rw [lastS_of q]
  have q0 : (callS s).1 = 0 := by simpa using q
  have r1 := r.call
  have e5 := (callS_same s).2.2.2.2
  generalize hg : (callS s).2.1 = g
  have ecr : createS n s = if nameB n = false then (endS g 15, (callS s).2.2) else if (findD n (callS s).2.2.dir).isSome then (endS g 6, (callS s).2.2) else (endS g 0, alterS ⟨⟨#[]⟩, n, some (callS s).2.2.fs.length⟩ { (callS s).2.2 with fs := (callS s).2.2.fs ++ [⟨[], 0⟩] }) := by
    rw [← hg]; unfold createS; dsimp only; rw [if_neg (by simp [q0])]
  rw [ecr] at hk ook
  generalize (callS s).2.2 = t at hk ook w1 r1 e5
  have od := r1.ok.dir.len
  have ow := r1.ok.nw
  refine f47_spec hn ⟨_, rfl, brB_of (fun q1 => f48_spec ⟨_, rfl, ?_⟩) fun q1 => ?_⟩
  · have q1' : nameB n = false := by simpa using q1
    rw [if_pos q1'] at hk
    exact hk h1 R rfl r1 w1
  have q1' : nameB n = true := by simpa using q1
  rw [if_neg (by simp [q1'])] at hk ook
  have wf := w1
  rw [RD.flat] at wf
  refine f49_spec wf r1.lv (by omega) ⟨_, rfl, brB_of (fun q2 => f48_spec ⟨_, rfl, ?_⟩) fun q2 => ?_⟩
  · have : (findD n t.dir).isSome = true := by
      cases hf : findD n t.dir with
      | none => rw [hf] at q2; cases q2
      | some i => rfl
    rw [if_pos this] at hk
    exact hk h1 R rfl r1 w1
  have q2' : (findD n t.dir).isSome = false := by
    cases hf : findD n t.dir with
    | none => rfl
    | some i => rw [hf] at q2; cases q2
  rw [if_neg (by simp [q2'])] at hk ook
  intro b hb hbn
  have hlen := r1.len
  generalize hF : R.F ++ [(⟨b, none, 0, [], 0⟩ : FO)] = F'
  have hblk : ∀ j, j < t.fs.length → blk R.F j = blk F' j := fun j hj => by rw [← hF]; exact (blk_push (by rw [hlen]; exact hj)).symm
  have hlast : ptrF F' t.fs.length = some ⟨b, 0, none⟩ := by rw [← hlen, ← hF]; unfold ptrF; rw [blk_last]
  have eent : entC R.F t.dir = entC F' t.dir := entC_eq fun e he => hblk _ (r1.ok.dir.ids e he).1
  have hwas : ∀ d ∈ t.was, ∀ e ∈ d, blk R.F e.2 = blk F' e.2 := fun d hd e he => hblk _ ((r1.ok.was d hd).ids e he).1
  have ewas : wasB R.F t.was R.W = wasB F' t.was R.W := wasB_eq hwas
  have ww' : WasV F' t.was R.W := WasV_eq hwas r1.ww
  have efob : fobs F' = fobs R.F ++ [(b, .cells [.slice none 0 0, .int .i64 0] 2)] := by rw [← hF]; simp [fobs, FO.blocks, FO.cells, slB]
  have w2 : Own w0 (h1.put b (.cells [.slice none 0 0, .int .i64 0] 2)) ((R.bd, .cells (rcells t R) 8) :: (slB R.la (entC F' t.dir) (R.lc * 2) ++ (slB R.wa (wasC t.was R.W) (R.wc * 1) ++ (wasB F' t.was R.W ++ (fobs F' ++ B))))) := by
    rw [efob, ← eent, ← ewas]
    have := Own.new (o := .cells [.slice none 0 0, .int .i64 0] 2) wf hb hbn
    refine this.perm ?_
    have p := List.perm_middle (a := (b, AB.cells [.slice none 0 0, .int .i64 0] 2)) (l₁ := (R.bd, .cells (rcells t R) 8) :: (slB R.la (entC R.F t.dir) (R.lc * 2) ++ (slB R.wa (wasC t.was R.W) (R.wc * 1) ++ (wasB R.F t.was R.W ++ fobs R.F)))) (l₂ := B)
    simpa only [List.cons_append, List.append_assoc, List.nil_append] using p.symm
  have lv' := r1.lv
  rw [eent] at lv'
  rw [show (Value.pointer (some (Addr.mk b 0 none))) = .pointer (ptrF F' t.fs.length) by rw [hlast]]
  refine f50_spec w2 lv' (by omega) fun h3 a' c' v3 w3 => ⟨rfl, ?_⟩
  have hdl : ((putD n t.fs.length false t.dir).length : Int) ≤ t.calls := by
    have := ook.dir.len
    have e : (alterS ⟨⟨#[]⟩, n, some t.fs.length⟩ { t with fs := t.fs ++ [⟨[], 0⟩] }).dir = putD n t.fs.length false t.dir := play_new
    rw [e] at this
    exact this
  generalize hs2 : ({ t with fs := t.fs ++ [⟨[], 0⟩], dir := putD n t.fs.length false t.dir } : Ds) = s2
  generalize hR2 : ({ R with la := a', lc := c', F := F' } : RD) = R2
  have w3' : Own w0 h3 ((R2.bd, .cells (rcells s2 R2) 8) :: (slB R2.la (entC F' s2.dir) (R2.lc * 2) ++ (slB R2.wa (wasC s2.was R2.W) (R2.wc * 1) ++ (wasB F' t.was R.W ++ (fobs F' ++ B))))) := by
    subst hs2 hR2; exact w3
  have ebd : R.bd = R2.bd := by subst hR2; rfl
  rw [ebd]
  have v3' : SlV 2 R2.la s2.dir.length R2.lc (entC F' s2.dir) := by subst hs2 hR2; exact v3
  have wv' : SlV 1 R2.wa s2.was.length R2.wc (wasC s2.was R2.W) := by subst hs2 hR2; exact r1.wv
  refine f51_spec w3' v3' wv' (by subst hs2; dsimp only; omega) (by subst hs2; dsimp only; omega) fun h4 wa' wc' p pv wv4 w4 => ⟨rfl, f48_spec ⟨_, rfl, ?_⟩⟩
  subst hs2 hR2
  refine hk h4 { R with la := a', lc := c', F := F', wa := wa', wc := wc', W := R.W ++ [p] } rfl ?_ ?_
  · refine ⟨ook, ?_, ?_, ?_, ?_, ?_⟩
    · show F'.map FO.abs = t.fs ++ [⟨[], 0⟩]
      rw [← hF, List.map_append, r1.fs]; rfl
    · intro f hf
      rw [← hF] at hf
      rcases List.mem_append.1 hf with hf | hf
      · exact r1.fv f hf
      · rw [List.mem_singleton] at hf; subst hf; exact SlV.nil
    · show SlV 2 a' ((⟨⟨#[]⟩, n, some t.fs.length⟩ : Chg).play t.dir).length c' (entC F' ((⟨⟨#[]⟩, n, some t.fs.length⟩ : Chg).play t.dir))
      rw [play_new]; exact v3
    · show SlV 1 wa' (t.was ++ [(⟨⟨#[]⟩, n, some t.fs.length⟩ : Chg).play t.dir]).length wc' (wasC (t.was ++ [(⟨⟨#[]⟩, n, some t.fs.length⟩ : Chg).play t.dir]) (R.W ++ [p]))
      rw [play_new, wasC_snoc ww', List.length_append]
      exact wv4
    · show WasV F' (t.was ++ [(⟨⟨#[]⟩, n, some t.fs.length⟩ : Chg).play t.dir]) (R.W ++ [p])
      rw [play_new]
      exact WasV_snoc pv ww'
  · rw [RD.flat]
    show Own w0 h4 ((R.bd, .cells (rcl t.room a' ((⟨⟨#[]⟩, n, some t.fs.length⟩ : Chg).play t.dir).length c' wa' (t.was ++ [(⟨⟨#[]⟩, n, some t.fs.length⟩ : Chg).play t.dir]).length wc' t.calls t.fuse t.wait t.fails t.off) 8) ::
      (slB a' (entC F' ((⟨⟨#[]⟩, n, some t.fs.length⟩ : Chg).play t.dir)) (c' * 2) ++ (slB wa' (wasC (t.was ++ [(⟨⟨#[]⟩, n, some t.fs.length⟩ : Chg).play t.dir]) (R.W ++ [p])) (wc' * 1) ++ (wasB F' (t.was ++ [(⟨⟨#[]⟩, n, some t.fs.length⟩ : Chg).play t.dir]) (R.W ++ [p]) ++ (fobs F' ++ B)))))
    rw [play_new, wasC_snoc ww', wasB_snoc ww', List.length_append, List.append_assoc]
    refine w4.perm (List.Perm.cons _ (List.Perm.append_left _ (List.Perm.append_left _ ?_)))
    exact List.perm_append_comm_assoc _ _ _
end Go.G.Ytpjklfmfgmicaaa
