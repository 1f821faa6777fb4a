/- What is sure. -/
import Derived.Test.YtpjklfmfgmicaaaLV
import Derived.Test.YtpjklfmfgmicaaaDRe
import Derived.Test.YtpjklfmfgmicaaaProg
set_option maxRecDepth 100000
namespace Go.G.Ytpjklfmfgmicaaa
open Go.RowKit
/-! ### what is seen of a disk; disks of which all is sure -/
def vw (fs : List Fl) (d : Dir) : List (ByteArray × List UInt8) := d.map fun e => (e.1, (fileAt fs e.2).data)
structure Same (s t : Ds) : Prop where
  off : s.off = t.off
  vw : vw s.fs s.dir = vw t.fs t.dir
theorem list_vw (s : Ds) : listS s = if s.off then [] else (vw s.fs s.dir).map (·.1) := by
  unfold listS vw
  rw [List.map_map]; rfl
theorem used_vw (s : Ds) : usedS s = ((vw s.fs s.dir).map fun e => e.2.length).sum := by
  unfold usedS vw
  rw [List.map_map]
  congr 1
  exact List.map_congr_left fun e _ => lenAt_file _ _
theorem find_vw (fs : List Fl) (n : ByteArray) : ∀ d : Dir, ((vw fs d).find? fun e => decide (e.1 = n)).map (·.2) = (findD n d).map fun i => (fileAt fs i).data
  | [] => rfl
  | e :: r => by
    have ih := find_vw fs n r
    unfold vw findD at ih ⊢
    by_cases q : e.1 = n
    · simp [q]
    · simp only [List.map_cons, List.find?_cons, q, decide_false] at ih ⊢
      exact ih
def readV (o : Option (List UInt8)) : Int × List UInt8 := match o with | none => (7, []) | some l => (0, l)
theorem read_vw (n : ByteArray) (s : Ds) : readS n s = if s.off then (10, []) else readV (((vw s.fs s.dir).find? fun e => decide (e.1 = n)).map (·.2)) := by
  rw [find_vw]
  unfold readS lookS
  split
  · rfl
  · cases findD n s.dir with
    | none => rfl
    | some i =>
      have := dataAt_file s.fs i
      exact congrArg (Prod.mk (0 : Int)) this
theorem Same.list {s t : Ds} (h : Same s t) : listS s = listS t := by rw [list_vw, list_vw, h.off, h.vw]
theorem Same.used {s t : Ds} (h : Same s t) : usedS s = usedS t := by rw [used_vw, used_vw, h.vw]
theorem Same.read {s t : Ds} (h : Same s t) (n : ByteArray) : readS n s = readS n t := by rw [read_vw, read_vw, h.off, h.vw]
theorem Same.trans {s t u : Ds} (h : Same s t) (g : Same t u) : Same s u := ⟨h.off.trans g.off, h.vw.trans g.vw⟩
theorem Same.symm {s t : Ds} (h : Same s t) : Same t s := ⟨h.off.symm, h.vw.symm⟩
theorem reS_same {s : Ds} {seen : List Nat} (v : Cov seen s) : Same (reS seen s) s := by
  refine ⟨rfl, ?_⟩
  show vw (reS seen s).fs (reD seen s.dir) = _
  unfold vw reD
  rw [List.map_map]
  refine List.map_congr_left fun e he => ?_
  show (e.1, (fileAt (reS seen s).fs (nx seen e.2)).data) = _
  rw [reS_file (v.dir e he)]

def FSure (f : Fl) : Prop := f.sure = f.data.length
structure Sure (s : Ds) : Prop where
  was : s.was = [s.dir]
  off : s.off = false
  fs : ∀ e ∈ s.dir, FSure (fileAt s.fs e.2)
theorem reS_sure {s : Ds} {seen : List Nat} (v : Cov seen s) (h : Sure s) : Sure (reS seen s) := by
  refine ⟨?_, h.off, fun e he => ?_⟩
  · show s.was.map (reD seen) = [reD seen s.dir]
    rw [h.was]; rfl
  · obtain ⟨x, hx, rfl⟩ := List.mem_map.1 he
    show FSure (fileAt (reS seen s).fs (nx seen x.2))
    rw [reS_file (v.dir x hx)]
    exact h.fs x hx
theorem fileAt_push {fs : List Fl} {f : Fl} {i : Nat} (h : i < fs.length) : fileAt (fs ++ [f]) i = fileAt fs i := by
  unfold fileAt
  rw [List.getElem?_append_left h]
theorem fileAt_last {fs : List Fl} {f : Fl} : fileAt (fs ++ [f]) fs.length = f := by simp [fileAt]
theorem keep_old : ∀ (d : Dir) (l : List Int) (fs : List Fl) (i : Nat), i < fs.length → fileAt (keepAll l d fs).2 i = fileAt fs i
  | [], _, _, _, _ => rfl
  | e :: d, l, fs, i, h => by
    simp only [keepAll]
    rw [keep_old d _ _ i (by simp; omega), fileAt_push h]
/-- What is kept of a file that is sure is all of it. -/
theorem keep_same : ∀ (d : Dir) (l : List Int) (fs : List Fl), (∀ e ∈ d, e.2 < fs.length ∧ FSure (fileAt fs e.2)) → vw (keepAll l d fs).2 (keepAll l d fs).1 = vw fs d
  | [], _, _, _ => rfl
  | e :: d, l, fs, h => by
    have h1 := h e (List.mem_cons_self ..)
    have hp := pickS_le l ((fileAt fs e.2).data.length - (fileAt fs e.2).sure)
    have hs : (fileAt fs e.2).sure = (fileAt fs e.2).data.length := h1.2
    have ih := keep_same d (pickS l ((fileAt fs e.2).data.length - (fileAt fs e.2).sure)).2 (fs ++ [⟨(fileAt fs e.2).data.take ((fileAt fs e.2).sure + (pickS l ((fileAt fs e.2).data.length - (fileAt fs e.2).sure)).1), (fileAt fs e.2).sure + (pickS l ((fileAt fs e.2).data.length - (fileAt fs e.2).sure)).1⟩]) fun x hx => by
      have := h x (List.mem_cons_of_mem _ hx)
      exact ⟨by simp; omega, by rw [fileAt_push this.1]; exact this.2⟩
    simp only [keepAll]
    unfold vw at ih ⊢
    rw [List.map_cons, List.map_cons, ih]
    congr 1
    · dsimp only
      rw [keep_old d _ _ _ (by simp), fileAt_last]
      dsimp only
      rw [hs, List.take_of_length_le (by omega)]
    · refine List.map_congr_left fun x hx => ?_
      rw [fileAt_push (h x (List.mem_cons_of_mem _ hx)).1]
theorem keep_sure : ∀ (d : Dir) (l : List Int) (fs : List Fl), (∀ f ∈ fs, FlOk f) → ∀ e ∈ (keepAll l d fs).1, FSure (fileAt (keepAll l d fs).2 e.2)
  | [], _, _, _, e, he => by cases he
  | x :: d, l, fs, h, e, he => by
    have hk := keep_file (fileAt_ok h x.2) l
    have hp := pickS_le l ((fileAt fs x.2).data.length - (fileAt fs x.2).sure)
    have hf := fileAt_ok h x.2
    simp only [keepAll] at he ⊢
    rcases List.mem_cons.1 he with rfl | he
    · rw [keep_old d _ _ _ (by simp), fileAt_last]
      show _ = _
      have := hf.2
      simp only [List.length_take]
      omega
    · refine keep_sure d _ _ (fun g hg => ?_) e he
      rcases List.mem_append.1 hg with hg | hg
      · exact h g hg
      · rw [List.mem_singleton] at hg; subst hg
        exact hk
theorem crash_sure {s : Ds} (o : s.Ok) (l : List Int) : Sure (crashS l s) := ⟨rfl, rfl, fun e he => keep_sure _ _ _ o.fs e he⟩
theorem crash_same {s : Ds} (o : s.Ok) (h : Sure s) (l : List Int) : Same (crashS l s) s := by
  refine ⟨h.off.symm, ?_⟩
  have hp := pickS_le l (s.was.length - 1)
  have hw : s.was.length - 1 = 0 := by rw [h.was]; rfl
  have h0 : (pickS l (s.was.length - 1)).1 = 0 := by omega
  have hd : (s.was[(pickS l (s.was.length - 1)).1]?).getD [] = s.dir := by rw [h0, h.was]; rfl
  show vw (keepAll (pickS l (s.was.length - 1)).2 ((s.was[(pickS l (s.was.length - 1)).1]?).getD []) s.fs).2 (keepAll (pickS l (s.was.length - 1)).2 ((s.was[(pickS l (s.was.length - 1)).1]?).getD []) s.fs).1 = _
  rw [hd]
  exact keep_same _ _ _ fun e he => ⟨(o.dir.ids e he).1, h.fs e he⟩
/-! how much a disk holds, at most -/
def lens (fs : List Fl) (d : Dir) : Nat := (d.map fun e => lenAt fs e.2).sum
def total (fs : List Fl) : Nat := (fs.map fun f => f.data.length).sum
theorem keep_lens : ∀ (d : Dir) (l : List Int) (fs : List Fl), (∀ e ∈ d, e.2 < fs.length) → lens (keepAll l d fs).2 (keepAll l d fs).1 ≤ lens fs d
  | [], _, _, _ => Nat.le_refl _
  | e :: d, l, fs, h => by
    have h1 := h e (List.mem_cons_self ..)
    have ih := keep_lens d (pickS l ((fileAt fs e.2).data.length - (fileAt fs e.2).sure)).2 (fs ++ [⟨(fileAt fs e.2).data.take ((fileAt fs e.2).sure + (pickS l ((fileAt fs e.2).data.length - (fileAt fs e.2).sure)).1), (fileAt fs e.2).sure + (pickS l ((fileAt fs e.2).data.length - (fileAt fs e.2).sure)).1⟩]) fun x hx => by
      have := h x (List.mem_cons_of_mem _ hx)
      simp; omega
    simp only [keepAll]
    unfold lens at ih ⊢
    rw [List.map_cons, List.map_cons, List.sum_cons, List.sum_cons]
    have e1 : (d.map fun x => lenAt (fs ++ [⟨(fileAt fs e.2).data.take ((fileAt fs e.2).sure + (pickS l ((fileAt fs e.2).data.length - (fileAt fs e.2).sure)).1), (fileAt fs e.2).sure + (pickS l ((fileAt fs e.2).data.length - (fileAt fs e.2).sure)).1⟩]) x.2) = d.map fun x => lenAt fs x.2 := List.map_congr_left fun x hx => by
      rw [lenAt_file, lenAt_file, fileAt_push (h x (List.mem_cons_of_mem _ hx))]
    rw [e1] at ih
    have e2 : lenAt (keepAll (pickS l ((fileAt fs e.2).data.length - (fileAt fs e.2).sure)).2 d (fs ++ [⟨(fileAt fs e.2).data.take ((fileAt fs e.2).sure + (pickS l ((fileAt fs e.2).data.length - (fileAt fs e.2).sure)).1), (fileAt fs e.2).sure + (pickS l ((fileAt fs e.2).data.length - (fileAt fs e.2).sure)).1⟩])).2 fs.length ≤ lenAt fs e.2 := by
      rw [lenAt_file, lenAt_file, keep_old d _ _ _ (by simp), fileAt_last]
      simp only [List.length_take]
      omega
    dsimp only
    omega
theorem used_crash {s : Ds} (o : s.Ok) (hne : s.was ≠ []) (l : List Int) {T : Nat} (h : ∀ d ∈ s.was, lens s.fs d ≤ T) : usedS (crashS l s) ≤ T := by
  have hp := pickS_le l (s.was.length - 1)
  have hl : (pickS l (s.was.length - 1)).1 < s.was.length := by
    have : 0 < s.was.length := List.length_pos_iff.2 hne
    omega
  have hd := List.getElem_mem hl
  have e : (s.was[(pickS l (s.was.length - 1)).1]?).getD [] = s.was[(pickS l (s.was.length - 1)).1] := by rw [List.getElem?_eq_getElem hl]; rfl
  show lens (keepAll (pickS l (s.was.length - 1)).2 ((s.was[(pickS l (s.was.length - 1)).1]?).getD []) s.fs).2 (keepAll (pickS l (s.was.length - 1)).2 ((s.was[(pickS l (s.was.length - 1)).1]?).getD []) s.fs).1 ≤ T
  rw [e]
  exact Nat.le_trans (keep_lens _ _ _ fun x hx => ((o.was _ hd).ids x hx).1) (h _ hd)
theorem reS_lens {s : Ds} {seen : List Nat} (v : Cov seen s) {T : Nat} (h : ∀ d ∈ s.was, lens s.fs d ≤ T) : ∀ d ∈ (reS seen s).was, lens (reS seen s).fs d ≤ T := fun d hd => by
  obtain ⟨x, hx, rfl⟩ := List.mem_map.1 hd
  have e : lens (reS seen s).fs (reD seen x) = lens s.fs x := by
    unfold lens reD
    rw [List.map_map]
    congr 1
    refine List.map_congr_left fun y hy => ?_
    show lenAt (reS seen s).fs (nx seen y.2) = _
    rw [lenAt_file, lenAt_file, reS_file (v.was x hx y hy)]
  rw [e]; exact h x hx
theorem lens_total {fs : List Fl} {d : Dir} (hn : (d.map (·.2)).Nodup) (hl : ∀ e ∈ d, e.2 < fs.length) : lens fs d ≤ total fs := by
  have hl' : ∀ i ∈ d.map (·.2), i < fs.length := fun i hi => by
    obtain ⟨x, hx, rfl⟩ := List.mem_map.1 hi
    exact hl x hx
  have hp : (d.map (·.2) ++ (List.range fs.length).filter fun i => !decide (i ∈ d.map (·.2))).Perm (List.range fs.length) := by
    have h1 : (d.map (·.2)).Perm ((List.range fs.length).filter fun i => decide (i ∈ d.map (·.2))) := by
      refine (List.perm_ext_iff_of_nodup hn (List.Nodup.sublist List.filter_sublist List.nodup_range)).2 fun i => ?_
      simp only [List.mem_filter, List.mem_range, decide_eq_true_eq]
      exact ⟨fun h => ⟨hl' i h, h⟩, fun h => h.2⟩
    exact (h1.append_right _).trans (List.filter_append_perm _ _)
  have h2 := (hp.map fun i => lenAt fs i).sum_nat
  rw [List.map_append, List.sum_append] at h2
  have e1 : ((List.range fs.length).map fun i => lenAt fs i) = fs.map fun f => f.data.length := range_sum (fun f : Fl => f.data.length) fs
  have e2 : ((d.map (·.2)).map fun i => lenAt fs i) = d.map fun e => lenAt fs e.2 := by rw [List.map_map]; rfl
  rw [e1, e2] at h2
  show (d.map fun e => lenAt fs e.2).sum ≤ (fs.map fun f => f.data.length).sum
  omega
/-! calls 0 to 5 on a disk without faults -/
structure Qt (s : Ds) (T : Nat) : Prop where
  off : s.off = false
  fuse : s.fuse = 0
  fails : s.fails = 0
  ids : ∀ d ∈ s.was, (d.map (·.2)).Nodup
  tot : total s.fs ≤ T
theorem Qt.call {s : Ds} {T : Nat} (q : Qt s T) : (callS s).1 = 0 ∧ (callS s).2.1 = false ∧ Qt (callS s).2.2 T := by
  obtain ⟨e1, e2, e3, e4, e5⟩ := callS_same s
  have hf : failing s = false := by unfold failing; rw [q.fails]; rfl
  have e : callS s = (0, s.fuse == 1, { tickS s with off := s.fuse == 1 }) := by
    unfold callS
    rw [q.off, hf]; rfl
  have hg : (s.fuse == 1) = false := by rw [q.fuse]; rfl
  rw [hg] at e
  rw [e]
  refine ⟨rfl, rfl, rfl, ?_, ?_, q.ids, q.tot⟩
  · show (if 0 < s.fuse then s.fuse - 1 else 0) = 0
    rw [q.fuse]; rfl
  · show (if failing s then s.fails - 1 else s.fails) = 0
    rw [hf]; exact q.fails
theorem total_push (fs : List Fl) : total (fs ++ [⟨[], 0⟩]) = total fs := by simp [total]
theorem total_modify (g : Fl → Fl) (k : Nat) (h : ∀ f, (g f).data.length ≤ f.data.length + k) : ∀ (fs : List Fl) (i : Nat), total (fs.modify i g) ≤ total fs + k
  | [], i => by simp [total]
  | f :: fs, 0 => by
    have := h f
    simp [total] at this ⊢; omega
  | f :: fs, i + 1 => by
    have := total_modify g k h fs i
    simp [total] at this ⊢; omega
theorem snd_inj {d : Dir} (hn : (d.map (·.2)).Nodup) {x y : ByteArray × Nat} (hx : x ∈ d) (hy : y ∈ d) (e : x.2 = y.2) : x = y := by
  induction d with
  | nil => cases hx
  | cons a r ih =>
    rw [List.map_cons, List.nodup_cons] at hn
    rcases List.mem_cons.1 hx with hx1 | hx1
    · rcases List.mem_cons.1 hy with hy1 | hy1
      · rw [hx1, hy1]
      · exact absurd (show a.2 ∈ r.map (·.2) from List.mem_map.2 ⟨y, hy1, by rw [← e, hx1]⟩) hn.1
    · rcases List.mem_cons.1 hy with hy1 | hy1
      · exact absurd (show a.2 ∈ r.map (·.2) from List.mem_map.2 ⟨x, hx1, by rw [e, hy1]⟩) hn.1
      · exact ih hn.2 hx1 hy1
theorem ids_drop {d : Dir} {n : ByteArray} (h : (d.map (·.2)).Nodup) : ((dropD n d).map (·.2)).Nodup := List.Nodup.sublist (List.Sublist.map _ List.filter_sublist) h
theorem ids_put {d : Dir} {n : ByteArray} {i : Nat} (h : (d.map (·.2)).Nodup) (hi : ∀ e ∈ d, e.2 ≠ i) : ((putD n i false d).map (·.2)).Nodup := by
  refine (((putD_perm n i d).map (·.2)).nodup_iff).2 ?_
  rw [List.map_cons, List.nodup_cons]
  refine ⟨fun hm => ?_, ids_drop h⟩
  obtain ⟨x, hx, e⟩ := List.mem_map.1 hm
  exact hi x (dropD_names x hx).2 e
theorem ids_alter {s : Ds} {T : Nat} {c : Chg} (q : Qt s T) (h : ((c.play s.dir).map (·.2)).Nodup) : Qt (alterS c s) T := by
  refine ⟨q.off, q.fuse, q.fails, fun d hd => ?_, q.tot⟩
  rcases List.mem_append.1 hd with hd | hd
  · exact q.ids d hd
  · rw [List.mem_singleton] at hd
    subst hd; exact h
theorem doS_qt {c : Cl} {s : Ds} {T : Nat} (o : s.Ok) (hm : s.dir ∈ s.was) (q : Qt s T) (h0 : 0 ≤ c.op) (h5 : c.op ≤ 5) (hd : c.data.length ≤ 5000) : Qt (doS c s).2 (T + 5000) := by
  obtain ⟨c1, c2, c3⟩ := q.call
  obtain ⟨e1, e2, e3, e4, e5⟩ := callS_same s
  have o1 := callS_ok o
  have hm1 : (callS s).2.2.dir ∈ (callS s).2.2.was := by rw [e3, e4]; exact hm
  have hid := c3.ids _ hm1
  have mono : ∀ {t : Ds}, Qt t T → Qt t (T + 5000) := fun q => ⟨q.off, q.fuse, q.fails, q.ids, by have := q.tot; omega⟩
  unfold doS
  generalize hcs : callS s = cs at c1 c2 c3 o1 hm1 hid
  split
  · unfold createS
    rw [hcs]
    dsimp only
    split
    · exact mono c3
    split
    · exact mono c3
    split
    · exact mono c3
    · have q2 : Qt { cs.2.2 with fs := cs.2.2.fs ++ [⟨[], 0⟩] } T := ⟨c3.off, c3.fuse, c3.fails, c3.ids, by show total (cs.2.2.fs ++ [⟨[], 0⟩]) ≤ T; rw [total_push]; exact c3.tot⟩
      refine mono (ids_alter q2 ?_)
      exact ids_put hid fun e he => Nat.ne_of_lt (o1.dir.ids e he).1
  split
  · unfold appendS
    rw [hcs]
    dsimp only
    split
    · exact mono c3
    split
    · exact mono c3
    split
    · exact mono c3
    · refine ⟨c3.off, c3.fuse, c3.fails, c3.ids, ?_⟩
      exact Nat.le_trans (total_modify _ 5000 (fun f => by simp; omega) _ _) (by have := c3.tot; omega)
  split
  · unfold syncS
    rw [hcs]
    split
    · exact mono c3
    split
    · exact mono c3
    · refine ⟨c3.off, c3.fuse, c3.fails, c3.ids, ?_⟩
      exact Nat.le_trans (total_modify _ 5000 (fun f => by simp) _ _) (by have := c3.tot; omega)
  split
  · unfold renameS
    rw [hcs]
    split
    · exact mono c3
    split
    · exact mono c3
    rename_i i hi
    split
    · exact mono c3
    split
    · exact mono c3
    · refine mono (ids_alter c3 ?_)
      unfold Chg.play
      dsimp only
      refine ids_put ?_ fun e he => ?_
      · split
        · exact hid
        · exact ids_drop hid
      · have hmem := findD_mem hi
        split at he
        · rename_i z
          have hnb := (o1.dir.ids _ hmem).2
          exact absurd z (nameB_ne hnb)
        · have hx := dropD_names e he
          intro ee
          have := snd_inj hid hx.2 hmem ee
          exact hx.1 (by rw [this])
  split
  · unfold removeS
    rw [hcs]
    split
    · exact mono c3
    split
    · exact mono c3
    · refine mono (ids_alter c3 ?_)
      unfold Chg.play
      dsimp only
      split
      · exact hid
      · exact ids_drop hid
  split
  · unfold syncDirS
    rw [hcs]
    split
    · exact mono c3
    · refine mono ⟨c3.off, c3.fuse, c3.fails, fun d hd => ?_, c3.tot⟩
      rw [List.mem_singleton] at hd
      subst hd; exact hid
  · omega
end Go.G.Ytpjklfmfgmicaaa
