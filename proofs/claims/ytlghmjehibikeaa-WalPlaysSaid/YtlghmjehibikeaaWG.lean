/- A disk without faults. -/
import Derived.Test.YtlghmjehibikeaaWF
import Derived.Test.YtlghmjehibikeaaProg
set_option maxRecDepth 100000
namespace Go.G.Ytlghmjehibikeaa
open Go.RowKit
/-! ### a disk without faults -/
structure Qu (s : Ds) : Prop where
  ok : s.Ok
  off : s.off = false
  fuse : s.fuse = 0
  fails : s.fails = 0
  nd : (s.dir.map (·.2)).Nodup
def hasD (s : Ds) (n : ByteArray) : Option (List UInt8) := (findD n s.dir).map (dataAt s.fs)
theorem newS_q (room : Int) (hr : room ≤ 9223372036854775807) : Qu (newS room) := ⟨newS_ok room hr, rfl, rfl, rfl, List.nodup_nil⟩
/-- The call counted, and nothing else. -/
theorem Qu.call {s : Ds} (q : Qu s) : callS s = (0, false, (callS s).2.2) ∧ Qu (callS s).2.2 := by
  have hf : failing s = false := by simp [failing, q.fails]
  have e : callS s = (0, false, { tickS s with off := false }) := by
    unfold callS
    rw [if_neg (by simp [q.off]), if_neg (by simp [hf])]
    have : (s.fuse == 1) = false := by rw [q.fuse]; rfl
    rw [this]
  obtain ⟨e1, e2, e3, e4, e5⟩ := callS_same s
  refine ⟨by rw [e], callS_ok q.ok, by rw [e], ?_, ?_, by rw [e3]; exact q.nd⟩
  · rw [e]; simp [tickS, q.fuse]
  · rw [e]; simp [tickS, q.fails, hf]
theorem Qu.dirs {s : Ds} (q : Qu s) {e : ByteArray × Nat} (h : e ∈ s.dir) : e.2 < s.fs.length := (q.ok.dir.ids _ h).1
theorem hasD_call (s : Ds) (n : ByteArray) : hasD (callS s).2.2 n = hasD s n := by
  obtain ⟨e1, e2, e3, e4, e5⟩ := callS_same s
  unfold hasD; rw [e2, e3]
theorem usedS_call (s : Ds) : usedS (callS s).2.2 = usedS s := by
  obtain ⟨e1, e2, e3, e4, e5⟩ := callS_same s
  unfold usedS; rw [e2, e3]
theorem findD_drop {m n : ByteArray} (h : m ≠ n) : ∀ d : Dir, findD m (dropD n d) = findD m d
  | [] => rfl
  | e :: d => by
    have ih := findD_drop h d
    by_cases q : e.1 = n
    · have q2 : ¬ e.1 = m := fun z => h (z.symm.trans q)
      have : dropD n (e :: d) = dropD n d := by simp [dropD, q]
      rw [this, ih]
      simp [findD, List.find?_cons, q2]
    · have : dropD n (e :: d) = e :: dropD n d := by simp [dropD, q]
      rw [this]
      by_cases q2 : e.1 = m
      · simp [findD, List.find?_cons, q2]
      · simpa [findD, List.find?_cons, q2] using ih
theorem findD_put {m n : ByteArray} {i : Nat} {d : Dir} (hn : (d.map (·.1)).Nodup) : findD m (putD n i false d) = if m = n then some i else findD m d := by
  have nd : (((n, i) :: dropD n d).map (·.1)).Nodup := by
    rw [List.map_cons, List.nodup_cons]
    refine ⟨fun h => ?_, dropD_nd hn⟩
    obtain ⟨e, he, q⟩ := List.mem_map.1 h
    exact (dropD_names e he).1 q
  rw [findD_perm (putD_perm n i d) nd]
  by_cases q : m = n
  · subst q; simp [findD]
  · rw [if_neg q, ← findD_drop q d]
    have : ¬ n = m := fun z => q z.symm
    simp [findD, List.find?_cons, this]
theorem dataAt_push {fs : List Fl} {f : Fl} {i : Nat} (h : i < fs.length) : dataAt (fs ++ [f]) i = dataAt fs i := by unfold dataAt; rw [List.getElem?_append_left h]
theorem lenAt_push {fs : List Fl} {f : Fl} {i : Nat} (h : i < fs.length) : lenAt (fs ++ [f]) i = lenAt fs i := by unfold lenAt; rw [List.getElem?_append_left h]
theorem create_q {s : Ds} {n : ByteArray} (q : Qu s) (hn : nameB n = true) (hf : hasD s n = none) : (createS n s).1 = 0 ∧ Qu (createS n s).2 ∧ (∀ m, hasD (createS n s).2 m = if m = n then some [] else hasD s m) ∧ usedS (createS n s).2 = usedS s ∧ (createS n s).2.room = s.room := by
  obtain ⟨ec, qc⟩ := q.call
  obtain ⟨e1, e2, e3, e4, e5⟩ := callS_same s
  have hf0 : findD n (callS s).2.2.dir = none := by
    rw [e3]; unfold hasD at hf
    cases h : findD n s.dir with
    | none => rfl
    | some i => rw [h] at hf; cases hf
  have e : createS n s = (0, alterS ⟨⟨#[]⟩, n, some (callS s).2.2.fs.length⟩ { (callS s).2.2 with fs := (callS s).2.2.fs ++ [⟨[], 0⟩] }) := by
    unfold createS; rw [ec]; dsimp only
    rw [if_neg (by simp), if_neg (by simp [hn]), if_neg (by rw [hf0]; simp)]
    rfl
  have nd := q.ok.dir.nd
  have pd : (putD n s.fs.length false s.dir).Perm ((n, s.fs.length) :: dropD n s.dir) := putD_perm ..
  have hdr : dropD n s.dir = s.dir := dropD_id (findD_none (by rw [e3] at hf0; exact hf0))
  have edir : (createS n s).2.dir = putD n s.fs.length false s.dir := by
    rw [e]; dsimp only [alterS]; rw [e3, e2]; rfl
  have efs : (createS n s).2.fs = s.fs ++ [⟨[], 0⟩] := by rw [e]; show (callS s).2.2.fs ++ _ = _; rw [e2]
  refine ⟨by rw [e], ⟨createS_ok q.ok n, ?_, ?_, ?_, ?_⟩, ?_, ?_, ?_⟩
  · rw [e]; exact qc.off
  · rw [e]; exact qc.fuse
  · rw [e]; exact qc.fails
  · rw [edir, (pd.map _).nodup_iff, hdr, List.map_cons, List.nodup_cons]
    refine ⟨fun h => ?_, q.nd⟩
    obtain ⟨x, hx, z⟩ := List.mem_map.1 h
    have := q.dirs hx
    omega
  · intro m
    unfold hasD
    rw [edir, efs, findD_put nd]
    by_cases hm : m = n
    · rw [if_pos hm, if_pos hm]
      show some (dataAt _ _) = _
      unfold dataAt; rw [List.getElem?_append_right (Nat.le_refl _), Nat.sub_self]; rfl
    · rw [if_neg hm, if_neg hm]
      cases h : findD m s.dir with
      | none => rfl
      | some i =>
        show some _ = some _
        rw [dataAt_push (q.dirs (findD_mem h))]
  · unfold usedS
    rw [edir, efs, (pd.map _).sum_nat, hdr, List.map_cons, List.sum_cons]
    have z : lenAt (s.fs ++ [⟨[], 0⟩]) s.fs.length = 0 := by unfold lenAt; rw [List.getElem?_append_right (Nat.le_refl _), Nat.sub_self]; rfl
    show lenAt (s.fs ++ [⟨[], 0⟩]) s.fs.length + _ = _
    rw [z, Nat.zero_add]
    congr 1
    exact List.map_congr_left fun x hx => lenAt_push (q.dirs hx)
  · rw [e]; exact e1
theorem create_bad {s : Ds} {n : ByteArray} (q : Qu s) (hn : nameB n = false) : createS n s = (15, (callS s).2.2) := by
  obtain ⟨ec, qc⟩ := q.call
  unfold createS; rw [ec]; dsimp only
  rw [if_neg (by simp), if_pos hn]; rfl
theorem create_there {s : Ds} {n : ByteArray} {d : List UInt8} (q : Qu s) (hn : nameB n = true) (hf : hasD s n = some d) : createS n s = (6, (callS s).2.2) := by
  obtain ⟨ec, qc⟩ := q.call
  obtain ⟨e1, e2, e3, e4, e5⟩ := callS_same s
  have h2 : (findD n (callS s).2.2.dir).isSome = true := by
    rw [e3]; unfold hasD at hf
    cases h : findD n s.dir with
    | none => rw [h] at hf; cases hf
    | some i => rfl
  unfold createS; rw [ec]; dsimp only
  rw [if_neg (by simp), if_neg (by simp [hn]), if_pos h2]; rfl
theorem dataAt_modify {fs : List Fl} {g : Fl → Fl} {i j : Nat} : dataAt (fs.modify i g) j = if i = j then ((fs[j]?).map fun f => (g f).data).getD [] else dataAt fs j := by
  unfold dataAt; rw [List.getElem?_modify]
  split
  · cases fs[j]? <;> rfl
  · cases fs[j]? <;> rfl
theorem lenAt_modify {fs : List Fl} {g : Fl → Fl} {i j : Nat} : lenAt (fs.modify i g) j = if i = j then ((fs[j]?).map fun f => (g f).data.length).getD 0 else lenAt fs j := by
  unfold lenAt; rw [List.getElem?_modify]
  split
  · cases fs[j]? <;> rfl
  · cases fs[j]? <;> rfl
theorem lenAt_data (fs : List Fl) (i : Nat) : lenAt fs i = (dataAt fs i).length := by unfold lenAt dataAt; cases fs[i]? <;> rfl
theorem sync_q {s : Ds} {n : ByteArray} {d : List UInt8} (q : Qu s) (hf : hasD s n = some d) : (syncS n s).1 = 0 ∧ Qu (syncS n s).2 ∧ (∀ m, hasD (syncS n s).2 m = hasD s m) ∧ usedS (syncS n s).2 = usedS s ∧ (syncS n s).2.room = s.room := by
  obtain ⟨ec, qc⟩ := q.call
  obtain ⟨e1, e2, e3, e4, e5⟩ := callS_same s
  obtain ⟨i, hi⟩ : ∃ i, findD n s.dir = some i := by
    unfold hasD at hf
    cases h : findD n s.dir with
    | none => rw [h] at hf; cases hf
    | some i => exact ⟨i, rfl⟩
  have e : syncS n s = (0, { (callS s).2.2 with fs := (callS s).2.2.fs.modify i fun f => { f with sure := f.data.length } }) := by
    unfold syncS; rw [ec]; dsimp only
    rw [if_neg (by simp), e3, hi]
  have hd : ∀ j, dataAt (s.fs.modify i fun f => { f with sure := f.data.length }) j = dataAt s.fs j := fun j => by rw [dataAt_modify]; split <;> rfl
  have hl : ∀ j, lenAt (s.fs.modify i fun f => { f with sure := f.data.length }) j = lenAt s.fs j := fun j => by rw [lenAt_data, lenAt_data, hd]
  refine ⟨by rw [e], ⟨syncS_ok q.ok n, by rw [e]; exact qc.off, by rw [e]; exact qc.fuse, by rw [e]; exact qc.fails, by rw [e]; show ((callS s).2.2.dir.map _).Nodup; rw [e3]; exact q.nd⟩, fun m => ?_, ?_, by rw [e]; exact e1⟩
  · rw [e]; unfold hasD; dsimp only
    rw [e2, e3]
    cases findD m s.dir with
    | none => rfl
    | some j => show some _ = some _; rw [hd]
  · rw [e]; unfold usedS; dsimp only
    rw [e2, e3]; simp only [hl]
theorem syncDir_q {s : Ds} (q : Qu s) : (syncDirS s).1 = 0 ∧ Qu (syncDirS s).2 ∧ (∀ m, hasD (syncDirS s).2 m = hasD s m) ∧ usedS (syncDirS s).2 = usedS s ∧ (syncDirS s).2.room = s.room := by
  obtain ⟨ec, qc⟩ := q.call
  obtain ⟨e1, e2, e3, e4, e5⟩ := callS_same s
  have e : syncDirS s = (0, { (callS s).2.2 with was := [(callS s).2.2.dir] }) := by
    unfold syncDirS; rw [ec]; dsimp only
    rw [if_neg (by simp)]
  refine ⟨by rw [e], ⟨syncDirS_ok q.ok, by rw [e]; exact qc.off, by rw [e]; exact qc.fuse, by rw [e]; exact qc.fails, by rw [e]; exact qc.nd⟩, fun m => ?_, ?_, by rw [e]; exact e1⟩
  · rw [e]; exact hasD_call s m
  · rw [e]; exact usedS_call s
theorem read_q {s : Ds} {n : ByteArray} {d : List UInt8} (q : Qu s) (hf : hasD s n = some d) : readS n s = (0, d) := by
  unfold hasD at hf
  unfold readS lookS
  rw [if_neg (by simp [q.off])]
  cases h : findD n s.dir with
  | none => rw [h] at hf; cases hf
  | some i => rw [h] at hf; simpa using hf
theorem read_none {s : Ds} {n : ByteArray} (q : Qu s) (hf : hasD s n = none) : readS n s = (7, []) := by
  unfold hasD at hf
  unfold readS lookS
  rw [if_neg (by simp [q.off])]
  cases h : findD n s.dir with
  | none => rfl
  | some i => rw [h] at hf; cases hf
theorem used_modify {fs : List Fl} {b : List UInt8} {i : Nat} (hi : i < fs.length) : ∀ d : Dir, (d.map (·.2)).Nodup → (d.map fun e => lenAt (fs.modify i fun f => { f with data := f.data ++ b }) e.2).sum = (d.map fun e => lenAt fs e.2).sum + if i ∈ d.map (·.2) then b.length else 0
  | [], _ => rfl
  | e :: d, hn => by
    rw [List.map_cons, List.nodup_cons] at hn
    have ih := used_modify (b := b) hi d hn.2
    rw [List.map_cons, List.sum_cons, ih, lenAt_modify, List.map_cons, List.map_cons, List.sum_cons]
    by_cases q : i = e.2
    · have h1 : ¬ i ∈ d.map (·.2) := by rw [q]; exact hn.1
      rw [if_pos q, if_neg h1, if_pos (by rw [q]; exact List.mem_cons_self ..)]
      have : fs[e.2]? = some (fs[e.2]'(by omega)) := List.getElem?_eq_getElem _
      rw [this]; unfold lenAt; rw [this]
      simp only [Option.map_some, Option.getD_some, List.length_append]
      omega
    · rw [if_neg q]
      by_cases q2 : i ∈ d.map (·.2)
      · rw [if_pos q2, if_pos (List.mem_cons_of_mem _ q2)]; omega
      · rw [if_neg q2, if_neg (by simp only [List.mem_cons, not_or]; exact ⟨q, q2⟩)]; omega
theorem append_q {s : Ds} {n : ByteArray} {d b : List UInt8} (q : Qu s) (hf : hasD s n = some d) (hd : d.length + b.length ≤ 4194304) (hr : ((usedS s : Nat) : Int) + (b.length : Nat) ≤ s.room) :
    (appendS n b s).1 = 0 ∧ Qu (appendS n b s).2 ∧ (∀ m, hasD (appendS n b s).2 m = if m = n then some (d ++ b) else hasD s m) ∧ usedS (appendS n b s).2 = usedS s + b.length ∧ (appendS n b s).2.room = s.room := by
  obtain ⟨ec, qc⟩ := q.call
  obtain ⟨e1, e2, e3, e4, e5⟩ := callS_same s
  obtain ⟨i, hi, hdi⟩ : ∃ i, findD n s.dir = some i ∧ dataAt s.fs i = d := by
    unfold hasD at hf
    cases h : findD n s.dir with
    | none => rw [h] at hf; cases hf
    | some i => rw [h] at hf; exact ⟨i, rfl, by simpa using hf⟩
  have hmem := findD_mem hi
  have hil := q.dirs hmem
  have hroom := q.ok.room
  have hln : lenAt s.fs i = d.length := by rw [lenAt_data, hdi]
  have e : appendS n b s = (0, { (callS s).2.2 with fs := (callS s).2.2.fs.modify i fun f => { f with data := f.data ++ b } }) := by
    unfold appendS; rw [ec]; dsimp only
    rw [if_neg (by simp), e3, hi]
    dsimp only
    rw [if_neg]
    · rfl
    · rw [e2, e1, usedS_call, hln, wrap64 (by omega) (by omega), wrap64 (by omega) (by omega)]; omega
  refine ⟨by rw [e], ⟨appendS_ok q.ok n b, by rw [e]; exact qc.off, by rw [e]; exact qc.fuse, by rw [e]; exact qc.fails, by rw [e]; show ((callS s).2.2.dir.map _).Nodup; rw [e3]; exact q.nd⟩, fun m => ?_, ?_, by rw [e]; exact e1⟩
  · rw [e]; unfold hasD; dsimp only
    rw [e2, e3]
    by_cases hm : m = n
    · rw [if_pos hm, hm, hi]
      show some _ = some _
      rw [dataAt_modify, if_pos rfl, ← hdi]; unfold dataAt
      rw [List.getElem?_eq_getElem hil]; rfl
    · rw [if_neg hm]
      cases hj : findD m s.dir with
      | none => rfl
      | some j =>
        show some _ = some _
        rw [dataAt_modify, if_neg]
        intro hij; subst hij
        have h2 := findD_mem hj
        have nd := q.nd
        have : ∀ (l : Dir), (l.map (·.2)).Nodup → (n, i) ∈ l → (m, i) ∈ l → m = n := fun l => by
          induction l with
          | nil => intro _ z; cases z
          | cons x l ih =>
            intro hn a c
            rw [List.map_cons, List.nodup_cons] at hn
            rcases List.mem_cons.1 a with rfl | a2
            · rcases List.mem_cons.1 c with c | c
              · exact congrArg Prod.fst c
              · exact absurd (List.mem_map.2 ⟨(m, i), c, rfl⟩ : i ∈ l.map (·.2)) hn.1
            · rcases List.mem_cons.1 c with rfl | c2
              · exact absurd (List.mem_map.2 ⟨(n, i), a2, rfl⟩ : i ∈ l.map (·.2)) hn.1
              · exact ih hn.2 a2 c2
        exact hm (this _ nd hmem h2)
  · rw [e]; unfold usedS; dsimp only
    rw [e2, e3, used_modify hil _ q.nd, if_pos (List.mem_map.2 ⟨_, hmem, rfl⟩)]
end Go.G.Ytlghmjehibikeaa
