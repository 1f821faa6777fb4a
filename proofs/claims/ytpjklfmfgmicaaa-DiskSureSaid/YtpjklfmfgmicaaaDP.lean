/- The other calls. -/
import Derived.Test.YtpjklfmfgmicaaaDA
import Derived.Test.YtpjklfmfgmicaaaProg
set_option maxRecDepth 100000
namespace Go.G.Ytpjklfmfgmicaaa
open Go.RowKit
/-! ### the other calls -/
def syncS (n : ByteArray) (s : Ds) : Int × Ds :=
  if (callS s).1 ≠ 0 ∨ (callS s).2.1 = true then (endS (callS s).2.1 (callS s).1, (callS s).2.2)
  else match findD n (callS s).2.2.dir with
  | none => (7, (callS s).2.2)
  | some i => (0, { (callS s).2.2 with fs := (callS s).2.2.fs.modify i fun f => { f with sure := f.data.length } })
def syncDirS (s : Ds) : Int × Ds :=
  if (callS s).1 ≠ 0 ∨ (callS s).2.1 = true then (endS (callS s).2.1 (callS s).1, (callS s).2.2)
  else (0, { (callS s).2.2 with was := [(callS s).2.2.dir] })
def renameS (o n : ByteArray) (s : Ds) : Int × Ds :=
  if (callS s).1 ≠ 0 then ((callS s).1, (callS s).2.2)
  else match findD o (callS s).2.2.dir with
  | none => (endS (callS s).2.1 7, (callS s).2.2)
  | some i => if nameB n = false then (endS (callS s).2.1 15, (callS s).2.2) else if o = n then (endS (callS s).2.1 0, (callS s).2.2) else (endS (callS s).2.1 0, alterS ⟨o, n, some i⟩ (callS s).2.2)
def removeS (n : ByteArray) (s : Ds) : Int × Ds :=
  if (callS s).1 ≠ 0 then ((callS s).1, (callS s).2.2)
  else if (findD n (callS s).2.2.dir).isNone then (endS (callS s).2.1 7, (callS s).2.2) else (endS (callS s).2.1 0, alterS ⟨n, ⟨#[]⟩, none⟩ (callS s).2.2)
def fuseS (n : Int) (s : Ds) : Ds := { s with fuse := if 0 < n then n else 0 }
def faultS (a b : Int) (s : Ds) : Ds := { s with wait := if a < 1 ∨ b < 1 then 0 else a, fails := if a < 1 ∨ b < 1 then 0 else b }
def spoilS (n : ByteArray) (a : Int) (x : UInt8) (s : Ds) : Bool × Ds :=
  if s.off then (false, s) else match findD n s.dir with
  | none => (false, s)
  | some i => if a < 0 ∨ (lenAt s.fs i : Int) ≤ a then (false, s) else (true, { s with fs := s.fs.modify i fun f => { f with data := f.data.set a.toNat x } })
def pickV (x : Int) (n : Nat) : Nat := ((if x < 0 then x % 4611686018427387904 else x) % ((n : Int) + 1)).toNat
def pickS : List Int → Nat → Nat × List Int
  | [], _ => (0, [])
  | x :: r, n => (pickV x n, r)
def fileAt (fs : List Fl) (i : Nat) : Fl := (fs[i]?).getD ⟨[], 0⟩
def keepAll : List Int → Dir → List Fl → Dir × List Fl
  | _, [], fs => ([], fs)
  | l, e :: d, fs =>
    let f := fileAt fs e.2
    let p := pickS l (f.data.length - f.sure)
    let r := keepAll p.2 d (fs ++ [⟨f.data.take (f.sure + p.1), f.sure + p.1⟩])
    ((e.1, fs.length) :: r.1, r.2)
def crashS (l : List Int) (s : Ds) : Ds :=
  let p := pickS l (s.was.length - 1)
  let r := keepAll p.2 ((s.was[p.1]?).getD []) s.fs
  { s with dir := r.1, was := [r.1], fs := r.2, fuse := 0, wait := 0, fails := 0, off := false }

theorem pickV_le (x : Int) (n : Nat) : pickV x n ≤ n := by
  unfold pickV
  have := Int.emod_lt_of_pos (if x < 0 then x % 4611686018427387904 else x) (show (0 : Int) < (n : Int) + 1 by omega)
  omega
theorem pickS_le (l : List Int) (n : Nat) : (pickS l n).1 ≤ n := by
  cases l with
  | nil => exact Nat.zero_le _
  | cons x r => exact pickV_le x n
def FlOk (f : Fl) : Prop := f.data.length ≤ 4194304 ∧ f.sure ≤ f.data.length
theorem fileAt_ok {fs : List Fl} (h : ∀ f ∈ fs, FlOk f) (i : Nat) : FlOk (fileAt fs i) := by
  unfold fileAt
  cases q : fs[i]? with
  | none => exact ⟨by simp, by simp⟩
  | some f => exact h f (List.mem_of_getElem? q)
theorem keep_file {f : Fl} (h : FlOk f) (l : List Int) : FlOk ⟨f.data.take (f.sure + (pickS l (f.data.length - f.sure)).1), f.sure + (pickS l (f.data.length - f.sure)).1⟩ := by
  have := pickS_le l (f.data.length - f.sure)
  obtain ⟨h1, h2⟩ := h
  refine ⟨?_, ?_⟩ <;> simp only [List.length_take] <;> omega
theorem keepAll_names : ∀ (d : Dir) (l : List Int) (fs : List Fl), (keepAll l d fs).1.map (·.1) = d.map (·.1)
  | [], _, _ => rfl
  | e :: d, l, fs => by simp only [keepAll, List.map_cons, keepAll_names d]
theorem keepAll_len : ∀ (d : Dir) (l : List Int) (fs : List Fl), (keepAll l d fs).2.length = fs.length + d.length
  | [], _, _ => rfl
  | e :: d, l, fs => by simp only [keepAll, keepAll_len d, List.length_append, List.length_cons, List.length_nil]; omega
theorem keepAll_ids : ∀ (d : Dir) (l : List Int) (fs : List Fl), ∀ e ∈ (keepAll l d fs).1, e.2 < fs.length + d.length
  | [], _, _, e, he => by cases he
  | x :: d, l, fs, e, he => by
    simp only [keepAll] at he
    rcases List.mem_cons.1 he with rfl | he
    · simp only [List.length_cons]; omega
    · have := keepAll_ids d _ _ e he
      simp only [List.length_append, List.length_cons, List.length_nil] at this ⊢
      omega
theorem keepAll_ok : ∀ (d : Dir) (l : List Int) (fs : List Fl), (∀ f ∈ fs, FlOk f) → ∀ f ∈ (keepAll l d fs).2, FlOk f
  | [], _, _, h, f, hf => h f hf
  | x :: d, l, fs, h, f, hf => by
    simp only [keepAll] at hf
    refine keepAll_ok d _ _ (fun g hg => ?_) f hf
    rcases List.mem_append.1 hg with hg | hg
    · exact h g hg
    · rw [List.mem_singleton] at hg; subst hg
      exact keep_file (fileAt_ok h _) l
theorem keepAll_dir {c : Int} {k : Nat} {d : Dir} (o : DirOk c k d) (l : List Int) (fs : List Fl) : DirOk c (fs.length + d.length) (keepAll l d fs).1 := by
  have hn := keepAll_names d l fs
  refine ⟨?_, by rw [hn]; exact o.nd, fun e he => ⟨keepAll_ids d l fs e he, ?_⟩, by rw [hn]; exact o.so⟩
  · have := congrArg List.length hn
    rw [List.length_map, List.length_map] at this
    rw [this]; exact o.len
  · have : e.1 ∈ d.map (·.1) := by rw [← hn]; exact List.mem_map.2 ⟨e, he, rfl⟩
    obtain ⟨x, hx, e1⟩ := List.mem_map.1 this
    rw [← e1]; exact (o.ids x hx).2

theorem modify_ok {fs : List Fl} {i : Nat} {g : Fl → Fl} (h : ∀ f ∈ fs, FlOk f) (hg : ∀ f, FlOk f → FlOk (g f)) : ∀ f ∈ fs.modify i g, FlOk f := fun f hf => by
  obtain ⟨j, hj, rfl⟩ := List.mem_iff_getElem.1 hf
  have hj' : j < fs.length := by simpa using hj
  rw [List.getElem_modify]
  have := h _ (List.getElem_mem hj')
  split
  · exact hg _ this
  · exact this
theorem syncS_ok {s : Ds} (o : s.Ok) (n : ByteArray) : (syncS n s).2.Ok := by
  have o1 := callS_ok o
  unfold syncS
  split
  · exact o1
  split
  · exact o1
  · exact fs_ok o1 _ (by simp) (modify_ok o1.fs fun f hf => ⟨hf.1, Nat.le_refl _⟩)
theorem syncDirS_ok {s : Ds} (o : s.Ok) : (syncDirS s).2.Ok := by
  have o1 := callS_ok o
  unfold syncDirS
  split
  · exact o1
  · exact ⟨o1.room, o1.calls, by have := o1.calls; simp; omega, o1.dir, fun d hd => by rw [List.mem_singleton] at hd; subst hd; exact o1.dir, o1.fs, o1.fuse, o1.wait, o1.fails⟩
theorem alterC_ok {s : Ds} (o : s.Ok) (g : Chg) (hg : ∀ i, g.f = some i → i < s.fs.length ∧ nameB g.name = true) : (alterS g (callS s).2.2).Ok := by
  have e2 := (callS_same s).2.1
  have := alter_ok o g s.fs (Nat.le_refl _) o.fs hg
  have e : ({ (callS s).2.2 with fs := s.fs } : Ds) = (callS s).2.2 := by rw [← e2]
  rw [e] at this
  exact this
theorem renameS_ok {s : Ds} (o : s.Ok) (a n : ByteArray) : (renameS a n s).2.Ok := by
  have o1 := callS_ok o
  unfold renameS
  split
  · exact o1
  split
  · exact o1
  rename_i i hi
  split
  · exact o1
  split
  · exact o1
  rename_i q _
  have e2 := (callS_same s).2.1
  refine alterC_ok o _ fun j hj => ?_
  injection hj with hj
  subst hj
  rw [← e2]
  exact ⟨(o1.dir.ids _ (findD_mem hi)).1, by simpa using q⟩
theorem removeS_ok {s : Ds} (o : s.Ok) (n : ByteArray) : (removeS n s).2.Ok := by
  have o1 := callS_ok o
  unfold removeS
  split
  · exact o1
  split
  · exact o1
  · exact alterC_ok o _ fun j hj => by cases hj
theorem fuseS_ok {s : Ds} (o : s.Ok) {n : Int} (h : n ≤ 9223372036854775807) : (fuseS n s).Ok :=
  ⟨o.room, o.calls, o.nw, o.dir, o.was, o.fs, by unfold fuseS; dsimp only; split <;> omega, o.wait, o.fails⟩
theorem faultS_ok {s : Ds} (o : s.Ok) {a b : Int} (h : a ≤ 9223372036854775807) (h2 : b ≤ 9223372036854775807) : (faultS a b s).Ok :=
  ⟨o.room, o.calls, o.nw, o.dir, o.was, o.fs, o.fuse, by unfold faultS; dsimp only; split <;> omega, by unfold faultS; dsimp only; split <;> omega⟩
theorem spoilS_ok {s : Ds} (o : s.Ok) (n : ByteArray) (a : Int) (x : UInt8) : (spoilS n a x s).2.Ok := by
  unfold spoilS
  split
  · exact o
  split
  · exact o
  split
  · exact o
  · exact fs_ok o _ (by simp) (modify_ok o.fs fun f hf => ⟨by simpa using hf.1, by simpa using hf.2⟩)
theorem was_at {s : Ds} (o : s.Ok) (i : Nat) : DirOk s.calls s.fs.length ((s.was[i]?).getD []) := by
  cases q : s.was[i]? with
  | none => exact ⟨by have := o.calls; simpa using this, by simp, fun e he => (by cases he), by simp⟩
  | some d => exact o.was d (List.mem_of_getElem? q)
theorem crashS_ok {s : Ds} (o : s.Ok) (l : List Int) : (crashS l s).Ok := by
  have hd := was_at o (pickS l (s.was.length - 1)).1
  have hk := keepAll_dir hd (pickS l (s.was.length - 1)).2 s.fs
  have hl := keepAll_len ((s.was[(pickS l (s.was.length - 1)).1]?).getD []) (pickS l (s.was.length - 1)).2 s.fs
  rw [← hl] at hk
  refine ⟨o.room, o.calls, ?_, hk, fun d hd => ?_, keepAll_ok _ _ _ o.fs, by simp [crashS], by simp [crashS], by simp [crashS]⟩
  · have := o.calls
    show (([_] : List Dir).length : Int) ≤ s.calls + 1
    simp; omega
  · have : d = (keepAll (pickS l (s.was.length - 1)).2 ((s.was[(pickS l (s.was.length - 1)).1]?).getD []) s.fs).1 := by simpa [crashS] using hd
    rw [this]; exact hk
theorem syncS_calls (n : ByteArray) (s : Ds) : (syncS n s).2.calls = s.calls + 1 := by
  have e := (callS_same s).2.2.2.2
  unfold syncS
  split
  · exact e
  split <;> exact e
theorem syncDirS_calls (s : Ds) : (syncDirS s).2.calls = s.calls + 1 := by
  have e := (callS_same s).2.2.2.2
  unfold syncDirS
  split <;> exact e
theorem renameS_calls (a n : ByteArray) (s : Ds) : (renameS a n s).2.calls = s.calls + 1 := by
  have e := (callS_same s).2.2.2.2
  unfold renameS
  split
  · exact e
  split
  · exact e
  split
  · exact e
  split <;> exact e
theorem removeS_calls (n : ByteArray) (s : Ds) : (removeS n s).2.calls = s.calls + 1 := by
  have e := (callS_same s).2.2.2.2
  unfold removeS
  split
  · exact e
  split <;> exact e
theorem spoilS_calls (n : ByteArray) (a : Int) (x : UInt8) (s : Ds) : (spoilS n a x s).2.calls = s.calls := by
  unfold spoilS
  split
  · rfl
  split
  · rfl
  split <;> rfl
end Go.G.Ytpjklfmfgmicaaa
