/- New, Create. -/
import Derived.Test.YtpjklfmfgmicaaaDJ
import Derived.Test.YtpjklfmfgmicaaaProg
set_option maxRecDepth 100000
namespace Go.G.Ytpjklfmfgmicaaa
open Go.RowKit
def f12_J : Nat → List Nat × Nat := jOf []



theorem f12_go {w0 : World} {K : Value → AH → Prop} (x0 : Int) (h : AH)
  (hv : (newB w0 h (Go.G.AB.map []) (fun b'0 h'1 => (newB w0 h'1 (Go.G.AB.map []) (fun b'2 h'3 => (newB w0 h'3 (Go.G.AB.cells [(Go.Value.int .i64 (if ((0 : Int) < x0) then x0 else (0 : Int))), (Go.Value.map (some b'0)), (Go.Value.map (some b'2)), (Go.Value.slice none 0 0), (Go.Value.bool false), (Go.Value.int .i64 (0 : Int)), (Go.Value.int .i64 (0 : Int)), (Go.Value.int .i64 (0 : Int)), (Go.Value.int .i64 (0 : Int))] (List.length [(Go.Value.int .i64 (if ((0 : Int) < x0) then x0 else (0 : Int))), (Go.Value.map (some b'0)), (Go.Value.map (some b'2)), (Go.Value.slice none 0 0), (Go.Value.bool false), (Go.Value.int .i64 (0 : Int)), (Go.Value.int .i64 (0 : Int)), (Go.Value.int .i64 (0 : Int)), (Go.Value.int .i64 (0 : Int))])) (fun b'4 h'5 => (K (Go.Value.pointer (some (Go.Addr.mk b'4 0 none))) h'5)))))))) :
  EvC Go.Proofs.Try.prog w0 12 ([(.int .i64 x0)]).toArray K h := EvC_intro (P := Go.Proofs.Try.prog) f12_J (Eq.mp (by kernel_rfl) hv)
def f14_J : Nat → List Nat × Nat := jOf []



theorem f14_go {w0 : World} {K : Value → AH → Prop} (x0 : Option Go.Addr) (x1 : ByteArray) (h : AH)
  (hv : (brB (Option.isNone x0) (K (Go.Value.int .i64 (1 : Int)) h) (EvC Go.Proofs.Try.prog w0 41 #[(Go.Value.pointer x0)] (fun x'0 h'1 => (∃ i'2 : Int, (∃ t'3 : Bool, ((x'0 = (Go.Value.tuple #[(Go.Value.int .i64 i'2), (Go.Value.bool t'3)])) ∧ (brB (i'2 != (0 : Int)) (K (Go.Value.int .i64 i'2) h'1) (EvC Go.Proofs.Try.prog w0 42 #[(Go.Value.string x1)] (fun x'4 h'5 => (∃ t'6 : Bool, ((x'4 = (Go.Value.bool t'6)) ∧ (brB (!t'6) (EvC Go.Proofs.Try.prog w0 43 #[(Go.Value.bool t'3), (Go.Value.int .i64 (15 : Int))] (fun x'7 h'8 => (∃ i'9 : Int, ((x'7 = (Go.Value.int .i64 i'9)) ∧ (K (Go.Value.int .i64 i'9) h'8)))) h'5) (∃ a'10 : Go.Addr, ((x0 = (some a'10)) ∧ (∃ p'11 : Option Nat, (((Go.G.cellA w0 h'5 (Go.Addr.add a'10 1)) = (some (Go.Value.map p'11))) ∧ (((Go.G.plainKey Go.Proofs.Try.prog 65 (Go.Value.string x1)) = true) ∧ (mapAt Go.Proofs.Try.prog w0 h'5 p'11 65 (fun es'12 => (∃ p'13 : Option Go.Addr, (((Go.Value.pointer p'13) = (Option.getD (Go.G.getM (Go.Value.string x1) es'12) (Go.Value.pointer none))) ∧ (brB (Option.isSome p'13) (EvC Go.Proofs.Try.prog w0 43 #[(Go.Value.bool t'3), (Go.Value.int .i64 (6 : Int))] (fun x'14 h'15 => (∃ i'16 : Int, ((x'14 = (Go.Value.int .i64 i'16)) ∧ (K (Go.Value.int .i64 i'16) h'15)))) h'5) (newB w0 h'5 (Go.G.AB.cells [(Go.Value.slice none 0 0), (Go.Value.int .i64 (0 : Int))] 2) (fun b'17 h'18 => (EvC Go.Proofs.Try.prog w0 44 #[(Go.Value.pointer x0), (Go.Value.agg #[(Go.Value.string (ByteArray.mk #[])), (Go.Value.string x1), (Go.Value.pointer (some (Go.Addr.mk b'17 0 none)))])] (fun x'19 h'20 => ((x'19 = (Go.Value.tuple #[])) ∧ (EvC Go.Proofs.Try.prog w0 45 #[(Go.Value.bool t'3)] (fun x'21 h'22 => (∃ i'23 : Int, ((x'21 = (Go.Value.int .i64 i'23)) ∧ (K (Go.Value.int .i64 i'23) h'22)))) h'20))) h'18))))))))))))))))) h'1)))))) h))) :
  EvC Go.Proofs.Try.prog w0 14 ([(.pointer x0), (.string x1)]).toArray K h := EvC_intro (P := Go.Proofs.Try.prog) f14_J (Eq.mp (by kernel_rfl) hv)
theorem newS_ok (room : Int) (hr : room ≤ 9223372036854775807) : (newS room).Ok := by
  have od : DirOk 0 0 ([] : Dir) := ⟨by simp, by simp, fun e he => (by cases he), by simp⟩
  refine ⟨?_, by simp [newS], by simp [newS], od, fun d hd => ?_, fun f hf => (by cases hf), by simp [newS], by simp [newS], by simp [newS]⟩
  · simp only [newS]; split <;> omega
  · simp only [newS, List.mem_singleton] at hd; subst hd; exact od
/-- New. -/
theorem f12_spec {w0 : World} {K : Value → AH → Prop} {h : AH} {B : List (Nat × AB)} {room : Int} (hr : room ≤ 9223372036854775807) (w : Own w0 h B)
    (hk : ∀ h' D, PRep (newS room) D → Own w0 h' (D.blocks (newS room) ++ B) → K (.pointer (some ⟨D.bd, 0, none⟩)) h') : EvC Go.Proofs.Try.prog w0 12 #[.int .i64 room] K h := by
  refine f12_go _ _ fun b1 hb1 hn1 b2 hb2 hn2 b3 hb3 hn3 => ?_
  have w1 : Own w0 _ _ := w.new hb1 hn1 (o := .map [])
  have w2 : Own w0 _ _ := w1.new hb2 hn2 (o := .map [])
  have w3 : Own w0 _ _ := w2.new hb3 hn3 (o := .cells (pc (if 0 < room then room else 0) b1 b2 none 0 0 false 0 0 0 0) 9)
  refine hk _ ⟨b3, b1, b2, none, 0, [], [], [], []⟩ ⟨newS_ok room hr, rfl, fun f hf => (by cases hf), SlV.nil, fun c hc => (by cases hc), List.Perm.refl _, ⟨[], rfl, List.Perm.refl _⟩, rfl⟩ ?_
  rw [PD.flat]
  exact w3.perm (List.Perm.cons _ (List.Perm.swap _ _ _))

theorem fobs_push (F : List FO) (f : FO) : fobs (F ++ [f]) = fobs F ++ f.blocks := by simp [fobs]
/-- Create. -/
theorem f14_spec {w0 : World} {K : Value → AH → Prop} {h : AH} {B : List (Nat × AB)} {s : Ds} {D : PD} {n : ByteArray} (r : PRep s D) (w : Own w0 h (D.blocks s ++ B)) (hc : s.calls < 1000000000)
    (hk : ∀ h' D', D'.bd = D.bd → PRep (createS n s).2 D' → Own w0 h' (D'.blocks (createS n s).2 ++ B) → K (.int .i64 (createS n s).1) h') :
    EvC Go.Proofs.Try.prog w0 14 #[.pointer (some ⟨D.bd, 0, none⟩), .string n] K h := by
  have ook := createS_ok r.ok n
  have oc := r.ok.calls
  refine f14_go _ _ _ (brB_of (fun q => by cases q) fun _ => f41_rep r w (by omega) fun h1 w1 => ⟨_, _, rfl, brB_of (fun q => ?_) fun q => ?_⟩)
  · have e : createS n s = ((callS s).1, (callS s).2.2) := by unfold createS; dsimp only; rw [if_pos (by simpa using q)]
    rw [e] at hk
    exact hk h1 D rfl r.call w1
  have q0 : (callS s).1 = 0 := by simpa using q
  have r1 := r.call
  have e5 := (callS_same s).2.2.2.2
  generalize hg : (callS s).2.1 = g
  have ecr : createS n s = if nameB n = false then (endS g 15, (callS s).2.2) else if (findD n (callS s).2.2.dir).isSome then (endS g 6, (callS s).2.2) else (endS g 0, alterS ⟨⟨#[]⟩, n, some (callS s).2.2.fs.length⟩ { (callS s).2.2 with fs := (callS s).2.2.fs ++ [⟨[], 0⟩] }) := by
    rw [← hg]; unfold createS; dsimp only; rw [if_neg (by simp [q0])]
  rw [ecr] at hk ook
  generalize (callS s).2.2 = t at hk ook w1 r1 e5
  refine f42_spec ⟨_, rfl, brB_of (fun q1 => f43_spec ⟨_, rfl, ?_⟩) fun q1 => ?_⟩
  · have q1' : nameB n = false := by simpa using q1
    rw [if_pos q1'] at hk
    exact hk h1 D rfl r1 w1
  have q1' : nameB n = true := by simpa using q1
  rw [if_neg (by simp [q1'])] at hk ook
  have wf := w1
  rw [PD.flat] at wf
  refine ⟨_, rfl, _, wf.cell0 rfl, by kernel_rfl, mapAt_D wf (List.mem_cons_of_mem _ (List.mem_cons_self ..)) ?_⟩
  rw [r1.find]
  cases hf : findD n t.dir with
  | some i =>
    rw [hf, if_pos (show (some i).isSome = true from rfl)] at hk
    exact ⟨_, rfl, brB_of (fun _ => f43_spec ⟨_, rfl, hk h1 D rfl r1 w1⟩) fun q => by cases q⟩
  | none =>
    rw [hf, if_neg (by simp)] at hk ook
    refine ⟨none, rfl, brB_of (fun q => by cases q) fun _ b hb hbn => ?_⟩
    have hlen := r1.len
    have hrl := r1.rowlen
    generalize hF : D.F ++ [(⟨b, none, 0, [], 0⟩ : FO)] = F'
    have hblk : ∀ j, j < t.fs.length → blk D.F j = blk F' j := fun j hj => by rw [← hF]; exact (blk_push (by rw [hlen]; exact hj)).symm
    have hlast : ptrF F' t.fs.length = some ⟨b, 0, none⟩ := by rw [← hlen, ← hF]; unfold ptrF; rw [blk_last]
    have eed : mapC D.F D.ed = mapC F' D.ed := mapC_eq fun e he => hblk _ (r1.ok.dir.ids e (r1.dm.mem_iff.1 he)).1
    obtain ⟨d0, ewas, hes⟩ := r1.wr
    have hd0 : d0 ∈ t.was := by rw [ewas]; cases D.row <;> simp [scanC]
    have ees : mapC D.F D.es = mapC F' D.es := mapC_eq fun e he => hblk _ ((r1.ok.was d0 hd0).ids e (hes.mem_iff.1 he)).1
    have erow : rowC D.F D.row = rowC F' D.row := rowC_eq fun c hcm i hi => hblk _ (r1.ri c hcm i hi)
    have efob : fobs F' = fobs D.F ++ [(b, .cells [.slice none 0 0, .int .i64 0] 2)] := by rw [← hF]; simp [fobs, FO.blocks, FO.cells, slB]
    have w2 : Own w0 (h1.put b (.cells [.slice none 0 0, .int .i64 0] 2)) ((D.bd, .cells (pcells t D) 9) :: (D.md, .map (mapC F' D.ed)) :: (D.ms, .map (mapC F' D.es)) :: (slB D.ra (rowC F' D.row) (D.rc * 3) ++ (fobs F' ++ B))) := by
      rw [efob, ← eed, ← ees, ← erow]
      have := Own.new (o := .cells [.slice none 0 0, .int .i64 0] 2) wf hb hbn
      refine this.perm ?_
      have p := List.perm_middle (a := (b, AB.cells [.slice none 0 0, .int .i64 0] 2)) (l₁ := (D.bd, .cells (pcells t D) 9) :: (D.md, .map (mapC D.F D.ed)) :: (D.ms, .map (mapC D.F D.es)) :: (slB D.ra (rowC D.F D.row) (D.rc * 3) ++ fobs D.F)) (l₂ := B)
      simpa only [List.cons_append, List.append_assoc, List.nil_append] using p.symm
    have rv' := r1.rv
    rw [erow] at rv'
    generalize hcg : (⟨⟨#[]⟩, n, some t.fs.length⟩ : Chg) = c at hk ook
    show EvC Go.Proofs.Try.prog w0 44 #[.pointer (some ⟨D.bd, 0, none⟩), Value.agg #[Value.string ⟨#[]⟩, .string n, .pointer (some (Addr.mk b 0 none))]] _ _
    rw [show (Value.agg #[Value.string ⟨#[]⟩, .string n, .pointer (some (Addr.mk b 0 none))]) = chgV F' c by rw [← hcg, ← hlast]; rfl]
    refine f44_spec w2 rv' (by omega) fun h3 ra' rc' v3 w3 => ⟨rfl, f45_spec ⟨_, rfl, ?_⟩⟩
    refine hk h3 { D with ra := ra', rc := rc', row := D.row ++ [c], F := F', ed := c.playL D.ed } rfl ?_ ?_
    · refine ⟨ook, ?_, ?_, v3, ?_, ?_, ⟨d0, ?_, hes⟩, ?_⟩
      · show F'.map FO.abs = t.fs ++ [⟨[], 0⟩]
        rw [← hF, List.map_append, r1.fs]; rfl
      · intro f hf
        rw [← hF] at hf
        rcases List.mem_append.1 hf with hf | hf
        · exact r1.fv f hf
        · rw [List.mem_singleton] at hf; subst hf; exact SlV.nil
      · intro c' hc' i hi
        show i < (t.fs ++ [(⟨[], 0⟩ : Fl)]).length
        rw [List.length_append]
        rcases List.mem_append.1 hc' with hc' | hc'
        · have := r1.ri c' hc' i hi; omega
        · rw [List.mem_singleton] at hc'
          rw [hc', ← hcg] at hi
          injection hi with hi
          subst hi; simp
      · exact playL_perm r1.dm r1.ok.dir.nd
      · show t.was ++ [c.play t.dir] = _
        have := r1.la
        rw [ewas] at this ⊢
        rw [scanC_snoc this]
      · show (t.was ++ [c.play t.dir]).getLast? = some (c.play t.dir)
        simp
    · rw [PD.flat]; exact w3
end Go.G.Ytpjklfmfgmicaaa
