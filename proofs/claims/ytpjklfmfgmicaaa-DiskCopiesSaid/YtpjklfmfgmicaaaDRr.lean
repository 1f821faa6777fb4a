/- The document's disk, its files in another order. -/
import Derived.Test.YtpjklfmfgmicaaaDRe
import Derived.Test.YtpjklfmfgmicaaaDY
import Derived.Test.YtpjklfmfgmicaaaProg
set_option maxRecDepth 100000
namespace Go.G.Ytpjklfmfgmicaaa
open Go.RowKit
/-! ### the document's disk, its files in another order: memory is as it was -/
def foAt (F : List FO) (i : Nat) : FO := (F[i]?).getD ⟨0, none, 0, [], 0⟩
def reR (seen : List Nat) (R : RD) : RD := { R with F := seen.map (foAt R.F) }
theorem foAt_get {F : List FO} {i : Nat} (h : i < F.length) : F[i]? = some (foAt F i) := by
  unfold foAt
  rw [List.getElem?_eq_getElem h]
  rfl
theorem blk_re {F : List FO} {seen : List Nat} {i : Nat} (h : i ∈ seen) (hl : i < F.length) : blk (seen.map (foAt F)) (nx seen i) = blk F i := by
  unfold blk
  rw [List.getElem?_map, nx_get h, foAt_get hl]
  rfl
theorem entC_re {F : List FO} {seen : List Nat} : ∀ {d : Dir}, (∀ e ∈ d, e.2 ∈ seen ∧ e.2 < F.length) → entC (seen.map (foAt F)) (reD seen d) = entC F d
  | [], _ => rfl
  | e :: r, h => by
    have ih := entC_re (d := r) fun x hx => h x (List.mem_cons_of_mem _ hx)
    have h1 := h e (List.mem_cons_self ..)
    unfold entC reD at ih ⊢
    rw [List.map_cons, List.flatMap_cons, List.flatMap_cons, ih]
    simp only [reE, ptrF, blk_re h1.1 h1.2]
theorem wasC_re {seen : List Nat} : ∀ {was : List Dir} {W : List (Option Addr × Nat)}, wasC (was.map (reD seen)) W = wasC was W
  | [], _ => by unfold wasC; rfl
  | d :: r, [] => rfl
  | d :: r, p :: q => by
    have := wasC_re (seen := seen) (was := r) (W := q)
    simp only [List.map_cons, wasC, this]
    simp [reD]
theorem wasB_re {F : List FO} {seen : List Nat} : ∀ {was : List Dir} {W : List (Option Addr × Nat)}, (∀ d ∈ was, ∀ e ∈ d, e.2 ∈ seen ∧ e.2 < F.length) → wasB (seen.map (foAt F)) (was.map (reD seen)) W = wasB F was W
  | [], _, _ => by unfold wasB; rfl
  | d :: r, [], _ => rfl
  | d :: r, p :: q, h => by
    simp only [List.map_cons, wasB, entC_re (h d (List.mem_cons_self ..)), wasB_re fun x hx => h x (List.mem_cons_of_mem _ hx)]
theorem WasV_re {F : List FO} {seen : List Nat} : ∀ {was : List Dir} {W : List (Option Addr × Nat)}, (∀ d ∈ was, ∀ e ∈ d, e.2 ∈ seen ∧ e.2 < F.length) → WasV F was W → WasV (seen.map (foAt F)) (was.map (reD seen)) W
  | [], [], _, v => v
  | [], _ :: _, _, v => v.elim
  | d :: r, [], _, v => v.elim
  | d :: r, p :: q, h, v => by
    refine ⟨?_, WasV_re (fun x hx => h x (List.mem_cons_of_mem _ hx)) v.2⟩
    rw [entC_re (h d (List.mem_cons_self ..))]
    have := v.1
    simpa [reD] using this
/-- Some of the files, each once: their blocks are among all files' blocks. -/
theorem fobs_re {F : List FO} {seen : List Nat} (hn : seen.Nodup) (hl : ∀ i ∈ seen, i < F.length) : ∃ X, (fobs (seen.map (foAt F)) ++ X).Perm (fobs F) := by
  have e : F = (List.range F.length).map (foAt F) := by
    apply List.ext_getElem (by simp)
    intro i h1 h2
    simp [foAt, h1]
  refine ⟨fobs (((List.range F.length).filter fun i => !decide (i ∈ seen)).map (foAt F)), ?_⟩
  have hp : (seen ++ (List.range F.length).filter fun i => !decide (i ∈ seen)).Perm (List.range F.length) := by
    have h1 : seen.Perm ((List.range F.length).filter fun i => decide (i ∈ seen)) := by
      refine (List.perm_ext_iff_of_nodup hn (List.Nodup.sublist List.filter_sublist List.nodup_range)).2 fun i => ?_
      simp only [List.mem_filter, List.mem_range, decide_eq_true_eq]
      exact ⟨fun h => ⟨hl i h, h⟩, fun h => h.2⟩
    exact (h1.append_right _).trans (List.filter_append_perm _ _)
  have h2 := (hp.map (foAt F))
  rw [List.map_append, ← e] at h2
  have h3 := h2.flatMap_right FO.blocks
  rw [List.flatMap_append] at h3
  exact h3
theorem reR_own {w0 : World} {h : AH} {B : List (Nat × AB)} {s : Ds} {R : RD} {seen : List Nat} (r : RRep s R) (v : Cov seen s) (w : Own w0 h (R.blocks s ++ B)) : Own w0 h ((reR seen R).blocks (reS seen s) ++ B) := by
  have hl : ∀ i ∈ seen, i < R.F.length := fun i hi => by rw [r.len]; exact v.lt i hi
  have e1 : rcells (reS seen s) (reR seen R) = rcells s R := by simp [rcells, reS, reR, reD]
  have e2 : entC (reR seen R).F (reS seen s).dir = entC R.F s.dir := entC_re fun e he => ⟨v.dir e he, hl _ (v.dir e he)⟩
  have e3 : wasC (reS seen s).was (reR seen R).W = wasC s.was R.W := wasC_re
  have e4 : wasB (reR seen R).F (reS seen s).was (reR seen R).W = wasB R.F s.was R.W := wasB_re fun d hd e he => ⟨v.was d hd e he, hl _ (v.was d hd e he)⟩
  obtain ⟨X, hX⟩ := fobs_re v.nd hl
  have w1 : Own w0 h ((R.bd, .cells (rcells s R) 8) :: (slB R.la (entC R.F s.dir) (R.lc * 2) ++ (slB R.wa (wasC s.was R.W) (R.wc * 1) ++ (wasB R.F s.was R.W ++ (fobs (reR seen R).F ++ (X ++ B)))))) := by
    refine w.perm ?_
    simp only [RD.blocks, RD.rest, List.cons_append, List.append_assoc]
    refine List.Perm.cons _ (List.Perm.append_left _ (List.Perm.append_left _ (List.Perm.append_left _ ?_)))
    have := (hX.symm.append_right B)
    simpa only [List.append_assoc, reR] using this
  have w2 : Own w0 h ([(R.bd, .cells (rcells s R) 8)] ++ (slB R.la (entC R.F s.dir) (R.lc * 2) ++ (slB R.wa (wasC s.was R.W) (R.wc * 1) ++ (wasB R.F s.was R.W ++ fobs (reR seen R).F))) ++ B) := by
    have q : Own w0 h (([(R.bd, .cells (rcells s R) 8)] ++ (slB R.la (entC R.F s.dir) (R.lc * 2) ++ (slB R.wa (wasC s.was R.W) (R.wc * 1) ++ (wasB R.F s.was R.W ++ fobs (reR seen R).F)))) ++ (X ++ B)) := by
      simpa only [List.append_assoc, List.cons_append, List.nil_append] using w1
    exact q.cut
  unfold RD.blocks RD.rest
  rw [e1, e2, e3, e4]
  simpa only [List.append_assoc, List.cons_append, List.nil_append, reR] using w2
theorem reR_rep {s : Ds} {R : RD} {seen : List Nat} (r : RRep s R) (v : Cov seen s) : RRep (reS seen s) (reR seen R) := by
  have hl : ∀ i ∈ seen, i < R.F.length := fun i hi => by rw [r.len]; exact v.lt i hi
  refine ⟨reS_ok r.ok v, ?_, fun f hf => ?_, ?_, ?_, WasV_re (fun d hd e he => ⟨v.was d hd e he, hl _ (v.was d hd e he)⟩) r.ww⟩
  · show (seen.map (foAt R.F)).map FO.abs = seen.map (fileAt s.fs)
    rw [List.map_map]
    refine List.map_congr_left fun i hi => ?_
    rw [← r.fs, abs_at (foAt_get (hl i hi))]
    rfl
  · obtain ⟨i, hi, rfl⟩ := List.mem_map.1 hf
    exact r.fv _ (List.mem_of_getElem? (foAt_get (hl i hi)))
  · have e2 : entC (reR seen R).F (reS seen s).dir = entC R.F s.dir := entC_re fun e he => ⟨v.dir e he, hl _ (v.dir e he)⟩
    rw [e2]
    have := r.lv
    simpa [reS, reR, reD] using this
  · have e3 : wasC (reS seen s).was (reR seen R).W = wasC s.was R.W := wasC_re
    rw [e3]
    have := r.wv
    simpa [reS, reR] using this
end Go.G.Ytpjklfmfgmicaaa
