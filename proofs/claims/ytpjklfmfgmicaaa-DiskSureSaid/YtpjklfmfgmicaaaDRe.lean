/- The files of a disk in another order. -/
import Derived.Test.YtpjklfmfgmicaaaDS
import Derived.Test.YtpjklfmfgmicaaaProg
set_option maxRecDepth 100000
namespace Go.G.Ytpjklfmfgmicaaa
open Go.RowKit
/-! ### the files of a disk, put into another order -/
/-- Which place a file has in the new order. -/
def nx (seen : List Nat) (i : Nat) : Nat := seen.idxOf i
def reE (seen : List Nat) (e : ByteArray × Nat) : ByteArray × Nat := (e.1, nx seen e.2)
def reD (seen : List Nat) (d : Dir) : Dir := d.map (reE seen)
def reC (seen : List Nat) (c : Chg) : Chg := { c with f := c.f.map (nx seen) }
def reS (seen : List Nat) (s : Ds) : Ds := { s with fs := seen.map (fileAt s.fs), dir := reD seen s.dir, was := s.was.map (reD seen) }

theorem nx_lt {seen : List Nat} {i : Nat} (h : i ∈ seen) : nx seen i < seen.length := List.idxOf_lt_length_iff.2 h
theorem nx_get {seen : List Nat} {i : Nat} (h : i ∈ seen) : seen[nx seen i]? = some i := by
  rw [List.getElem?_eq_getElem (nx_lt h)]
  exact congrArg some (List.getElem_idxOf (nx_lt h))
theorem nx_push {seen : List Nat} {i j : Nat} (h : i ∈ seen) : nx (seen ++ [j]) i = nx seen i := by
  unfold nx
  rw [List.idxOf_append, if_pos h]
theorem nx_last {seen : List Nat} {i : Nat} (h : i ∉ seen) : nx (seen ++ [i]) i = seen.length := by
  unfold nx
  rw [List.idxOf_append, if_neg h]
  simp
theorem reD_names (seen : List Nat) (d : Dir) : (reD seen d).map (·.1) = d.map (·.1) := by
  unfold reD
  rw [List.map_map]
  rfl
theorem reD_drop (seen : List Nat) (n : ByteArray) : ∀ d : Dir, reD seen (dropD n d) = dropD n (reD seen d)
  | [] => rfl
  | e :: r => by
    have ih := reD_drop seen n r
    unfold reD dropD at ih ⊢
    by_cases q : e.1 = n
    · simp [q, reE] at ih ⊢; exact ih
    · simp [q, reE] at ih ⊢; exact ih
theorem reD_put (seen : List Nat) (n : ByteArray) (i : Nat) : ∀ (d : Dir) (b : Bool), reD seen (putD n i b d) = putD n (nx seen i) b (reD seen d)
  | [], b => by cases b <;> rfl
  | e :: r, b => by
    have ih := reD_put seen n i r
    unfold reD at ih ⊢
    simp only [putD, List.map_cons, List.map_append, ih]
    congr 1
    congr 1
    · have : ∀ t : Bool, List.map (reE seen) (if t = true then [(n, i)] else []) = if t = true then [(n, nx seen i)] else [] := fun t => by cases t <;> rfl
      exact this _
    · by_cases q : e.1 = n <;> simp [q, reE]
theorem reD_play (seen : List Nat) (c : Chg) (d : Dir) : (reC seen c).play (reD seen d) = reD seen (c.play d) := by
  unfold Chg.play reC
  dsimp only
  have e1 : (if c.old = ⟨#[]⟩ then reD seen d else dropD c.old (reD seen d)) = reD seen (if c.old = ⟨#[]⟩ then d else dropD c.old d) := by
    split
    · rfl
    · exact (reD_drop seen c.old d).symm
  rw [e1]
  cases c.f with
  | none => rfl
  | some i => exact (reD_put seen c.name i _ false).symm
theorem reD_scan (seen : List Nat) : ∀ (row : List Chg) (d : Dir), scanC (reD seen d) (row.map (reC seen)) = (scanC d row).map (reD seen)
  | [], d => rfl
  | c :: r, d => by
    simp only [scanC, List.map_cons, reD_play, reD_scan seen r]
/-- All files that a disk knows are in the list, each once. -/
structure Cov (seen : List Nat) (s : Ds) : Prop where
  nd : seen.Nodup
  lt : ∀ i ∈ seen, i < s.fs.length
  dir : ∀ e ∈ s.dir, e.2 ∈ seen
  was : ∀ d ∈ s.was, ∀ e ∈ d, e.2 ∈ seen
theorem play_ids {c : Chg} {d : Dir} {P : Nat → Prop} (h1 : ∀ e ∈ d, P e.2) (h2 : ∀ i, c.f = some i → P i) : ∀ e ∈ c.play d, P e.2 := by
  have h3 : ∀ e ∈ (if c.old = ⟨#[]⟩ then d else dropD c.old d), P e.2 := by
    split
    · exact h1
    · exact fun e he => h1 e (dropD_names e he).2
  unfold Chg.play
  dsimp only
  cases q : c.f with
  | none => exact h3
  | some i =>
    intro e he
    rcases List.mem_cons.1 ((putD_perm c.name i _).mem_iff.1 he) with rfl | he
    · exact h2 i q
    · exact h3 e (dropD_names e he).2
theorem scan_ids {P : Nat → Prop} : ∀ {row : List Chg} {d : Dir}, (∀ e ∈ d, P e.2) → (∀ c ∈ row, ∀ i, c.f = some i → P i) → ∀ x ∈ scanC d row, ∀ e ∈ x, P e.2
  | [], d, h1, _, x, hx, e, he => by
    have : x = d := by simpa [scanC] using hx
    subst this; exact h1 e he
  | c :: r, d, h1, h2, x, hx, e, he => by
    rcases List.mem_cons.1 hx with rfl | hx
    · exact h1 e he
    · exact scan_ids (play_ids h1 (h2 c (List.mem_cons_self ..))) (fun c hc => h2 c (List.mem_cons_of_mem _ hc)) x hx e he
theorem reD_ok {c : Int} {k : Nat} {seen : List Nat} {d : Dir} (o : DirOk c k d) (h : ∀ e ∈ d, e.2 ∈ seen) : DirOk c seen.length (reD seen d) := by
  refine ⟨by unfold reD; rw [List.length_map]; exact o.len, by rw [reD_names]; exact o.nd, fun e he => ?_, by rw [reD_names]; exact o.so⟩
  obtain ⟨x, hx, rfl⟩ := List.mem_map.1 he
  exact ⟨nx_lt (h x hx), (o.ids x hx).2⟩
theorem reS_ok {s : Ds} {seen : List Nat} (o : s.Ok) (v : Cov seen s) : (reS seen s).Ok := by
  have e : (reS seen s).fs.length = seen.length := by simp [reS]
  refine ⟨o.room, o.calls, by show ((s.was.map (reD seen)).length : Int) ≤ _; rw [List.length_map]; exact o.nw, by rw [e]; exact reD_ok o.dir v.dir, fun d hd => ?_, fun f hf => ?_, o.fuse, o.wait, o.fails⟩
  · obtain ⟨x, hx, rfl⟩ := List.mem_map.1 hd
    rw [e]; exact reD_ok (o.was x hx) (v.was x hx)
  · obtain ⟨i, _, rfl⟩ := List.mem_map.1 hf
    exact fileAt_ok o.fs i
theorem reS_file {s : Ds} {seen : List Nat} {i : Nat} (h : i ∈ seen) : fileAt (reS seen s).fs (nx seen i) = fileAt s.fs i := by
  show fileAt (seen.map (fileAt s.fs)) (nx seen i) = _
  conv => lhs; unfold fileAt
  rw [List.getElem?_map, nx_get h]
  rfl
theorem lenAt_file (fs : List Fl) (i : Nat) : lenAt fs i = (fileAt fs i).data.length := by
  unfold lenAt fileAt
  cases fs[i]? <;> rfl
theorem dataAt_file (fs : List Fl) (i : Nat) : dataAt fs i = (fileAt fs i).data := by
  unfold dataAt fileAt
  cases fs[i]? <;> rfl
/-! what is seen is the same -/
theorem reS_used {s : Ds} {seen : List Nat} (v : Cov seen s) : usedS (reS seen s) = usedS s := by
  unfold usedS
  show ((reD seen s.dir).map fun e => lenAt (reS seen s).fs e.2).sum = _
  unfold reD
  rw [List.map_map]
  congr 1
  refine List.map_congr_left fun e he => ?_
  show lenAt (reS seen s).fs (nx seen e.2) = _
  rw [lenAt_file, lenAt_file, reS_file (v.dir e he)]
theorem findD_re (seen : List Nat) (n : ByteArray) : ∀ d : Dir, findD n (reD seen d) = (findD n d).map (nx seen)
  | [] => rfl
  | e :: r => by
    have ih := findD_re seen n r
    unfold findD reD at ih ⊢
    by_cases q : e.1 = n
    · simp [q, reE]
    · simp only [List.map_cons, List.find?_cons, reE, q, decide_false] at ih ⊢
      exact ih
theorem reS_read {s : Ds} {seen : List Nat} (v : Cov seen s) (n : ByteArray) : readS n (reS seen s) = readS n s := by
  unfold readS lookS
  have e1 : (reS seen s).off = s.off := rfl
  have e2 : findD n (reS seen s).dir = (findD n s.dir).map (nx seen) := findD_re seen n s.dir
  rw [e1, e2]
  split
  · rfl
  · cases q : findD n s.dir with
    | none => rfl
    | some i =>
      have e3 : dataAt (reS seen s).fs (nx seen i) = dataAt s.fs i := by rw [dataAt_file, dataAt_file, reS_file (v.dir _ (findD_mem q))]
      exact congrArg (Prod.mk _) e3
theorem reS_list {s : Ds} {seen : List Nat} : listS (reS seen s) = listS s := by
  unfold listS
  show (if s.off then _ else (reD seen s.dir).map _) = _
  split
  · rfl
  · exact reD_names seen s.dir
end Go.G.Ytpjklfmfgmicaaa
