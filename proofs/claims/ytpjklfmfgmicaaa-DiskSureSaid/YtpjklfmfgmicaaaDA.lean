/- A disk, as both texts have it. -/
import Derived.Test.YtpjklfmfgmicaaaGOwn
import Derived.Sort.Walk0
import Derived.Lib.Strings
import Derived.Test.YtpjklfmfgmicaaaProg
set_option maxRecDepth 100000
namespace Go.G.Ytpjklfmfgmicaaa
open Go.RowKit
/-! ### a disk, as both texts have it -/
structure Fl where
  data : List UInt8
  sure : Nat
abbrev Dir := List (ByteArray × Nat)
structure Ds where
  room : Int
  fs : List Fl
  dir : Dir
  was : List Dir
  calls : Int
  fuse : Int
  wait : Int
  fails : Int
  off : Bool

def findD (n : ByteArray) (d : Dir) : Option Nat := (d.find? fun e => decide (e.1 = n)).map (·.2)
/-- As the document's answer puts a name: ahead of the first that isn't less. -/
def putD (n : ByteArray) (i : Nat) : Bool → Dir → Dir
  | done, [] => if done then [] else [(n, i)]
  | done, e :: r =>
    let now := !done && !(Op.bytesLess e.1.toList n.toList)
    (if now then [(n, i)] else []) ++ (if e.1 = n then [] else [e]) ++ putD n i (done || now) r
def dropD (n : ByteArray) (d : Dir) : Dir := d.filter fun e => !(decide (e.1 = n))
structure Chg where
  old : ByteArray
  name : ByteArray
  f : Option Nat
def Chg.play (c : Chg) (d : Dir) : Dir :=
  let d := if c.old = ⟨#[]⟩ then d else dropD c.old d
  match c.f with
  | none => d
  | some i => putD c.name i false d

def failing (s : Ds) : Bool := decide (0 < s.fails) && decide (s.wait ≤ 1)
def tickS (s : Ds) : Ds := { s with calls := s.calls + 1, fuse := if 0 < s.fuse then s.fuse - 1 else 0, fails := if failing s then s.fails - 1 else s.fails, wait := if !(failing s) && decide (0 < s.fails) then s.wait - 1 else s.wait }
def callS (s : Ds) : Int × Bool × Ds :=
  if s.off then (10, false, { s with calls := s.calls + 1 })
  else if failing s then (if s.fuse == 1 then (10, true, { tickS s with off := true }) else (9, false, tickS s)) else (0, s.fuse == 1, { tickS s with off := s.fuse == 1 })
def endS (g : Bool) (e : Int) : Int := if g then 10 else e
def nameB (n : ByteArray) : Bool := decide (1 ≤ n.size) && decide (n.size ≤ 64) && !(n.data.toList.any fun b => b == 47 || b == 0)
def lenAt (fs : List Fl) (i : Nat) : Nat := ((fs[i]?).map fun f => f.data.length).getD 0
def usedS (s : Ds) : Nat := (s.dir.map fun e => lenAt s.fs e.2).sum
def alterS (c : Chg) (s : Ds) : Ds := { s with dir := c.play s.dir, was := s.was ++ [c.play s.dir] }
def createS (n : ByteArray) (s : Ds) : Int × Ds :=
  let e := (callS s).1; let g := (callS s).2.1; let s := (callS s).2.2
  if e ≠ 0 then (e, s) else if nameB n = false then (endS g 15, s) else if (findD n s.dir).isSome then (endS g 6, s)
  else (endS g 0, alterS ⟨⟨#[]⟩, n, some s.fs.length⟩ { s with fs := s.fs ++ [⟨[], 0⟩] })
def appendS (n : ByteArray) (b : List UInt8) (s : Ds) : Int × Ds :=
  let e := (callS s).1; let g := (callS s).2.1; let s := (callS s).2.2
  if e ≠ 0 then (e, s) else match findD n s.dir with
  | none => (endS g 7, s)
  | some i =>
    if IntKind.i64.wrap (4194304 - (lenAt s.fs i : Nat)) < (b.length : Nat) ∨ IntKind.i64.wrap (s.room - (usedS s : Nat)) < (b.length : Nat) then (endS g 8, s)
    else (endS g 0, { s with fs := s.fs.modify i fun f => { f with data := f.data ++ b } })
def newS (room : Int) : Ds := ⟨if 0 < room then room else 0, [], [], [[]], 0, 0, 0, 0, false⟩

/-- Go's order of strings. -/
def ltB (a b : ByteArray) : Prop := a.data.toList < b.data.toList
/-- What a directory's names are: so many at most, each once, each of a file that there is. -/
structure DirOk (c : Int) (k : Nat) (d : Dir) : Prop where
  len : (d.length : Int) ≤ c
  nd : (d.map (·.1)).Nodup
  ids : ∀ e ∈ d, e.2 < k ∧ nameB e.1 = true
  so : (d.map (·.1)).Pairwise ltB
structure Ds.Ok (s : Ds) : Prop where
  room : 0 ≤ s.room ∧ s.room ≤ 9223372036854775807
  calls : 0 ≤ s.calls
  nw : (s.was.length : Int) ≤ s.calls + 1
  dir : DirOk s.calls s.fs.length s.dir
  was : ∀ d ∈ s.was, DirOk s.calls s.fs.length d
  fs : ∀ f ∈ s.fs, f.data.length ≤ 4194304 ∧ f.sure ≤ f.data.length
  fuse : 0 ≤ s.fuse ∧ s.fuse ≤ 9223372036854775807
  wait : 0 ≤ s.wait ∧ s.wait ≤ 9223372036854775807
  fails : 0 ≤ s.fails ∧ s.fails ≤ 9223372036854775807

theorem DirOk.more {c c' : Int} {k k' : Nat} {d : Dir} (o : DirOk c k d) (hc : c ≤ c') (hk : k ≤ k') : DirOk c' k' d :=
  ⟨by have := o.len; omega, o.nd, fun e he => ⟨by have := (o.ids e he).1; omega, (o.ids e he).2⟩, o.so⟩

theorem callS_same (s : Ds) : (callS s).2.2.room = s.room ∧ (callS s).2.2.fs = s.fs ∧ (callS s).2.2.dir = s.dir ∧ (callS s).2.2.was = s.was ∧ (callS s).2.2.calls = s.calls + 1 := by
  unfold callS
  split
  · exact ⟨rfl, rfl, rfl, rfl, rfl⟩
  · split
    · split <;> exact ⟨rfl, rfl, rfl, rfl, rfl⟩
    · exact ⟨rfl, rfl, rfl, rfl, rfl⟩
theorem callS_rest (s : Ds) (o : s.Ok) : (0 ≤ (callS s).2.2.fuse ∧ (callS s).2.2.fuse ≤ 9223372036854775807) ∧ (0 ≤ (callS s).2.2.wait ∧ (callS s).2.2.wait ≤ 9223372036854775807) ∧ (0 ≤ (callS s).2.2.fails ∧ (callS s).2.2.fails ≤ 9223372036854775807) := by
  have h1 := o.fuse
  have h2 := o.wait
  have h3 := o.fails
  have a1 : 0 ≤ (tickS s).fuse ∧ (tickS s).fuse ≤ 9223372036854775807 := by unfold tickS; dsimp only; split <;> omega
  have a2 : 0 ≤ (tickS s).wait ∧ (tickS s).wait ≤ 9223372036854775807 := by
    unfold tickS failing; dsimp only
    split
    · rename_i q; simp at q; omega
    · omega
  have a3 : 0 ≤ (tickS s).fails ∧ (tickS s).fails ≤ 9223372036854775807 := by
    unfold tickS failing; dsimp only
    split
    · rename_i q; simp at q; omega
    · omega
  unfold callS
  split
  · exact ⟨h1, h2, h3⟩
  · split
    · split <;> exact ⟨a1, a2, a3⟩
    · exact ⟨a1, a2, a3⟩
theorem callS_ok {s : Ds} (o : s.Ok) : (callS s).2.2.Ok := by
  obtain ⟨e1, e2, e3, e4, e5⟩ := callS_same s
  obtain ⟨r1, r2, r3⟩ := callS_rest s o
  have := o.calls
  have := o.nw
  exact ⟨by rw [e1]; exact o.room, by rw [e5]; omega, by rw [e4, e5]; omega, by rw [e5, e2, e3]; exact o.dir.more (by omega) (Nat.le_refl _),
    by rw [e4, e5, e2]; exact fun d hd => (o.was d hd).more (by omega) (Nat.le_refl _), by rw [e2]; exact o.fs, r1, r2, r3⟩

/-! ### directories -/
theorem findD_mem {n : ByteArray} {i : Nat} : ∀ {d : Dir}, findD n d = some i → (n, i) ∈ d
  | [], h => by simp [findD] at h
  | e :: r, h => by
    by_cases q : e.1 = n
    · have : e.2 = i := by simpa [findD, q] using h
      subst q this
      exact List.mem_cons_self ..
    · exact List.mem_cons_of_mem _ (findD_mem (d := r) (by simpa [findD, List.find?_cons, q] using h))
theorem findD_none {n : ByteArray} : ∀ {d : Dir}, findD n d = none → ∀ e ∈ d, e.1 ≠ n
  | [], _, e, he => by cases he
  | a :: r, h, e, he => by
    by_cases q : a.1 = n
    · simp [findD, q] at h
    · rcases List.mem_cons.1 he with rfl | he
      · exact q
      · exact findD_none (d := r) (by simpa [findD, List.find?_cons, q] using h) e he
theorem findD_of_mem {n : ByteArray} {i : Nat} : ∀ {d : Dir}, (d.map (·.1)).Nodup → (n, i) ∈ d → findD n d = some i
  | [], _, h => by cases h
  | e :: r, hn, h => by
    rw [List.map_cons, List.nodup_cons] at hn
    rcases List.mem_cons.1 h with rfl | h
    · simp [findD]
    · have q : e.1 ≠ n := fun q => hn.1 (List.mem_map.2 ⟨_, h, q.symm⟩)
      have := findD_of_mem hn.2 h
      simpa [findD, List.find?_cons, q] using this
theorem findD_perm {n : ByteArray} {d d' : Dir} (hp : d'.Perm d) (hn : (d.map (·.1)).Nodup) : findD n d' = findD n d := by
  have hn' : (d'.map (·.1)).Nodup := ((hp.map (·.1)).nodup_iff).2 hn
  cases h : findD n d with
  | some i => exact findD_of_mem hn' (hp.mem_iff.2 (findD_mem h))
  | none =>
    cases h' : findD n d' with
    | none => rfl
    | some i => exact absurd rfl (findD_none h _ (hp.mem_iff.1 (findD_mem h')))

theorem putD_true (n : ByteArray) (i : Nat) : ∀ d, putD n i true d = dropD n d
  | [] => rfl
  | e :: r => by
    have ih := putD_true n i r
    unfold dropD at ih ⊢
    by_cases q : e.1 = n <;> simp [putD, q, ih]
theorem putD_perm (n : ByteArray) (i : Nat) : ∀ d, (putD n i false d).Perm ((n, i) :: dropD n d)
  | [] => by simp [putD, dropD]
  | e :: r => by
    simp only [putD, Bool.not_false, Bool.true_and, Bool.false_or]
    have hd : dropD n (e :: r) = (if e.1 = n then [] else [e]) ++ dropD n r := by
      unfold dropD
      by_cases q : e.1 = n <;> simp [q]
    rw [hd]
    cases hb : !(Op.bytesLess e.1.toList n.toList) with
    | true =>
      rw [putD_true]
      simp
    | false =>
      have ih := putD_perm n i r
      simp only [Bool.false_eq_true, if_false, List.nil_append]
      refine (ih.append_left _).trans ?_
      exact List.perm_middle
theorem dropD_names {n : ByteArray} {d : Dir} : ∀ e ∈ dropD n d, e.1 ≠ n ∧ e ∈ d := fun e he => by
  have := List.mem_filter.1 he
  exact ⟨by simpa using this.2, this.1⟩
theorem dropD_nd {n : ByteArray} {d : Dir} (hn : (d.map (·.1)).Nodup) : ((dropD n d).map (·.1)).Nodup := List.Nodup.sublist (List.Sublist.map _ List.filter_sublist) hn
theorem dropD_ok {c : Int} {k : Nat} {n : ByteArray} {d : Dir} (o : DirOk c k d) : DirOk c k (dropD n d) :=
  ⟨by have := o.len; have := List.length_filter_le (fun e : ByteArray × Nat => !(decide (e.1 = n))) d; unfold dropD; omega, dropD_nd o.nd, fun e he => o.ids e (dropD_names e he).2, List.Pairwise.sublist (List.Sublist.map _ List.filter_sublist) o.so⟩
theorem less_lt (a b : ByteArray) : Op.bytesLess a.toList b.toList = decide (a.data.toList < b.data.toList) := by rw [Go.Proofs.bytesLess_eq, Lib.toList_data, Lib.toList_data]
theorem lt_tri {a b : ByteArray} (h : ¬ a.data.toList < b.data.toList) (hne : a ≠ b) : ltB b a := by
  rcases Decidable.em (b.data.toList < a.data.toList) with q | q
  · exact q
  · exfalso
    have e := List.le_antisymm (List.not_lt.1 q) (List.not_lt.1 h)
    exact hne (by cases a; cases b; simpa using congrArg List.toArray e)
theorem putD_so (n : ByteArray) (i : Nat) : ∀ d : Dir, (d.map (·.1)).Pairwise ltB → ((putD n i false d).map (·.1)).Pairwise ltB
  | [], _ => by simp [putD]
  | e :: r, h => by
    rw [List.map_cons, List.pairwise_cons] at h
    simp only [putD, Bool.not_false, Bool.true_and, Bool.false_or, less_lt]
    by_cases q : e.1.data.toList < n.data.toList
    · have hne : e.1 ≠ n := fun x => by subst x; exact List.lt_irrefl _ q
      simp only [q, decide_true, Bool.not_true, Bool.false_eq_true, if_false, List.nil_append, hne, List.cons_append, List.map_cons, List.pairwise_cons]
      refine ⟨fun x hx => ?_, putD_so n i r h.2⟩
      obtain ⟨y, hy, rfl⟩ := List.mem_map.1 hx
      rcases List.mem_cons.1 ((putD_perm n i r).mem_iff.1 hy) with rfl | hy
      · exact q
      · exact h.1 _ (List.mem_map.2 ⟨y, (dropD_names y hy).2, rfl⟩)
    · simp only [q, decide_false, Bool.not_false, if_true, putD_true]
      have hr : ∀ y ∈ r, ltB n y.1 := fun y hy => by
        have h1 := h.1 _ (List.mem_map.2 ⟨y, hy, rfl⟩)
        exact List.lt_of_le_of_lt (List.not_lt.1 q) h1
      have hd : ((dropD n r).map (·.1)).Pairwise ltB := List.Pairwise.sublist (List.Sublist.map _ List.filter_sublist) h.2
      have hr2 : ∀ x ∈ (dropD n r).map (·.1), ltB n x := fun x hx => by
        obtain ⟨y, hy, rfl⟩ := List.mem_map.1 hx
        exact hr y (dropD_names y hy).2
      by_cases hne : e.1 = n
      · simp only [hne, if_true, List.singleton_append, List.map_cons, List.pairwise_cons]
        exact ⟨hr2, hd⟩
      · simp only [hne, if_false, List.cons_append, List.nil_append, List.map_cons, List.pairwise_cons]
        refine ⟨fun x hx => ?_, fun x hx => ?_, hd⟩
        · rcases List.mem_cons.1 hx with rfl | hx
          · exact lt_tri q hne
          · exact hr2 x hx
        · obtain ⟨y, hy, rfl⟩ := List.mem_map.1 hx
          exact h.1 _ (List.mem_map.2 ⟨y, (dropD_names y hy).2, rfl⟩)
theorem putD_ok {c : Int} {k i : Nat} {n : ByteArray} {d : Dir} (o : DirOk c k d) (hi : i < k) (hne : nameB n = true) : DirOk (c + 1) k (putD n i false d) := by
  have hp := putD_perm n i d
  have o' := dropD_ok (n := n) o
  refine ⟨?_, ?_, fun e he => ?_, putD_so n i d o.so⟩
  · have := o'.len; rw [hp.length_eq]; simp; omega
  · rw [(hp.map (·.1)).nodup_iff, List.map_cons, List.nodup_cons]
    refine ⟨fun hm => ?_, o'.nd⟩
    obtain ⟨e, he, q⟩ := List.mem_map.1 hm
    exact (dropD_names e he).1 q
  · rcases List.mem_cons.1 (hp.mem_iff.1 he) with rfl | he
    · exact ⟨hi, hne⟩
    · exact o'.ids e he
theorem nameB_ne {n : ByteArray} (h : nameB n = true) : n ≠ ⟨#[]⟩ := fun e => by subst e; exact absurd h (by decide)

/-- A map's order: put, taken away. -/
def putL (n : ByteArray) (i : Nat) : Dir → Dir
  | [] => [(n, i)]
  | e :: r => if n = e.1 then (n, i) :: r else e :: putL n i r
def delL (n : ByteArray) : Dir → Dir
  | [] => []
  | e :: r => if n = e.1 then r else e :: delL n r
theorem dropD_id {n : ByteArray} : ∀ {d : Dir}, (∀ e ∈ d, e.1 ≠ n) → dropD n d = d := fun {d} h => List.filter_eq_self.2 fun e he => by simpa using h e he
theorem delL_eq {n : ByteArray} : ∀ {d : Dir}, (d.map (·.1)).Nodup → delL n d = dropD n d
  | [], _ => rfl
  | e :: r, hn => by
    rw [List.map_cons, List.nodup_cons] at hn
    have ih := delL_eq (n := n) hn.2
    by_cases q : n = e.1
    · have : dropD n r = r := dropD_id fun x hx e' => hn.1 (List.mem_map.2 ⟨x, hx, by rw [e', q]⟩)
      simp only [delL, q, if_true]
      subst q
      unfold dropD at this ⊢
      simp [this]
    · have q' : ¬ e.1 = n := fun x => q x.symm
      simp only [delL, q, if_false, ih]
      unfold dropD
      simp [q']
theorem putL_perm {n : ByteArray} {i : Nat} : ∀ {d : Dir}, (d.map (·.1)).Nodup → (putL n i d).Perm ((n, i) :: dropD n d)
  | [], _ => by simp [putL, dropD]
  | e :: r, hn => by
    rw [List.map_cons, List.nodup_cons] at hn
    by_cases q : n = e.1
    · have : dropD n r = r := dropD_id fun x hx e' => hn.1 (List.mem_map.2 ⟨x, hx, by rw [e', q]⟩)
      have h2 : dropD n (e :: r) = r := by
        unfold dropD at this ⊢
        simp [q] at this ⊢
        exact this
      simp only [putL, q, if_true]
      rw [q] at h2
      rw [h2]
    · have q' : ¬ e.1 = n := fun x => q x.symm
      have h2 : dropD n (e :: r) = e :: dropD n r := by unfold dropD; simp [q']
      simp only [putL, q, if_false]
      rw [h2]
      exact ((putL_perm hn.2).cons e).trans (List.Perm.swap _ _ _)
theorem dropD_perm {n : ByteArray} {d d' : Dir} (hp : d'.Perm d) : (dropD n d').Perm (dropD n d) := hp.filter _
theorem putL_putD {n : ByteArray} {i : Nat} {d d' : Dir} (hp : d'.Perm d) (hn : (d.map (·.1)).Nodup) : (putL n i d').Perm (putD n i false d) :=
  (putL_perm (((hp.map (·.1)).nodup_iff).2 hn)).trans (((dropD_perm hp).cons _).trans (putD_perm n i d).symm)
theorem delL_dropD {n : ByteArray} {d d' : Dir} (hp : d'.Perm d) (hn : (d.map (·.1)).Nodup) : (delL n d').Perm (dropD n d) := by
  rw [delL_eq (((hp.map (·.1)).nodup_iff).2 hn)]
  exact dropD_perm hp
theorem play_ok {c : Int} {k : Nat} {d : Dir} (o : DirOk c k d) (g : Chg) (hf : ∀ i, g.f = some i → i < k ∧ nameB g.name = true) : DirOk (c + 1) k (g.play d) := by
  have o1 : DirOk c k (if g.old = ⟨#[]⟩ then d else dropD g.old d) := by split; exact o; exact dropD_ok o
  unfold Chg.play
  dsimp only
  generalize (if g.old = ⟨#[]⟩ then d else dropD g.old d) = d1 at o1
  cases h : g.f with
  | none => exact o1.more (by omega) (Nat.le_refl _)
  | some i => exact putD_ok o1 (hf i h).1 (hf i h).2
theorem alter_ok {s : Ds} (o : s.Ok) (g : Chg) (fs' : List Fl) (hl : s.fs.length ≤ fs'.length) (hb : ∀ f ∈ fs', f.data.length ≤ 4194304 ∧ f.sure ≤ f.data.length) (hg : ∀ i, g.f = some i → i < fs'.length ∧ nameB g.name = true) :
    (alterS g { (callS s).2.2 with fs := fs' }).Ok := by
  obtain ⟨e1, e2, e3, e4, e5⟩ := callS_same s
  obtain ⟨r1, r2, r3⟩ := callS_rest s o
  have := o.calls
  have := o.nw
  have od : DirOk (s.calls + 1) fs'.length (g.play s.dir) := play_ok (o.dir.more (Int.le_refl _) hl) g hg
  refine ⟨?_, ?_, ?_, ?_, ?_, hb, r1, r2, r3⟩
  · show 0 ≤ (callS s).2.2.room ∧ (callS s).2.2.room ≤ 9223372036854775807; rw [e1]; exact o.room
  · show 0 ≤ (callS s).2.2.calls; rw [e5]; omega
  · show ((((callS s).2.2.was ++ [_]).length : Nat) : Int) ≤ (callS s).2.2.calls + 1
    rw [e4, e5, List.length_append]; simp; omega
  · show DirOk (callS s).2.2.calls fs'.length (g.play (callS s).2.2.dir)
    rw [e3, e5]; exact od
  · show ∀ d ∈ (callS s).2.2.was ++ [g.play (callS s).2.2.dir], DirOk (callS s).2.2.calls fs'.length d
    rw [e3, e4, e5]
    intro d hd
    rcases List.mem_append.1 hd with hd | hd
    · exact (o.was d hd).more (by omega) hl
    · rw [List.mem_singleton] at hd; subst hd; exact od
theorem Ds.Ok.same {s s' : Ds} (o : s.Ok) (h1 : s'.room = s.room) (h2 : s'.fs = s.fs) (h3 : s'.dir = s.dir) (h4 : s'.was = s.was) (h5 : s'.calls = s.calls) (h6 : s'.fuse = s.fuse) (h7 : s'.wait = s.wait) (h8 : s'.fails = s.fails) : s'.Ok :=
  ⟨by rw [h1]; exact o.room, by rw [h5]; exact o.calls, by rw [h4, h5]; exact o.nw, by rw [h5, h2, h3]; exact o.dir, by rw [h4, h5, h2]; exact o.was, by rw [h2]; exact o.fs, by rw [h6]; exact o.fuse, by rw [h7]; exact o.wait, by rw [h8]; exact o.fails⟩
theorem fs_ok {s : Ds} (o : s.Ok) (fs' : List Fl) (hl : fs'.length = s.fs.length) (hb : ∀ f ∈ fs', f.data.length ≤ 4194304 ∧ f.sure ≤ f.data.length) : ({ s with fs := fs' } : Ds).Ok :=
  ⟨o.room, o.calls, o.nw, by show DirOk _ fs'.length _; rw [hl]; exact o.dir, by show ∀ d ∈ s.was, DirOk _ fs'.length _; rw [hl]; exact o.was, hb, o.fuse, o.wait, o.fails⟩
theorem lenAt_le {s : Ds} (o : s.Ok) (i : Nat) : lenAt s.fs i ≤ 4194304 := by
  unfold lenAt
  cases h : s.fs[i]? with
  | none => simp
  | some f => exact (o.fs f (List.mem_of_getElem? h)).1
theorem sum_le {α : Type} (f : α → Nat) (m : Nat) (hf : ∀ x, f x ≤ m) : ∀ l : List α, (l.map f).sum ≤ l.length * m
  | [] => by simp
  | x :: l => by
    have := sum_le f m hf l
    have := hf x
    simp only [List.map_cons, List.sum_cons, List.length_cons, Nat.add_mul]
    omega
theorem used_le {s : Ds} (o : s.Ok) : (usedS s : Int) ≤ s.calls * 4194304 := by
  have h1 := sum_le (fun e : ByteArray × Nat => lenAt s.fs e.2) 4194304 (fun e => lenAt_le o e.2) s.dir
  have h2 := o.dir.len
  unfold usedS
  have h3 : (s.dir.length : Int) * 4194304 ≤ s.calls * 4194304 := by omega
  have h4 : (((s.dir.map fun e => lenAt s.fs e.2).sum : Nat) : Int) ≤ ((s.dir.length * 4194304 : Nat) : Int) := by exact_mod_cast h1
  omega
theorem createS_ok {s : Ds} (o : s.Ok) (n : ByteArray) : (createS n s).2.Ok := by
  unfold createS
  dsimp only
  split
  · exact callS_ok o
  split
  · exact callS_ok o
  split
  · exact callS_ok o
  · rename_i q _
    have e2 := (callS_same s).2.1
    refine alter_ok o _ _ ?_ ?_ ?_
    · rw [e2]; simp
    · rw [e2]
      intro f hf
      rcases List.mem_append.1 hf with hf | hf
      · exact o.fs f hf
      · rw [List.mem_singleton] at hf; subst hf; simp
    · intro i hi
      injection hi with hi
      subst hi
      refine ⟨by simp, by simpa using q⟩
theorem appendS_ok {s : Ds} (o : s.Ok) (n : ByteArray) (b : List UInt8) : (appendS n b s).2.Ok := by
  have o1 := callS_ok o
  unfold appendS
  dsimp only
  generalize (callS s).2.2 = t at o1 ⊢
  split
  · exact o1
  split
  · exact o1
  · rename_i i hi
    split
    · exact o1
    · rename_i q
      have hle := lenAt_le o1 i
      rw [wrap64 (by omega) (by omega)] at q
      refine fs_ok o1 _ (by simp) fun f hf => ?_
      obtain ⟨j, hj, rfl⟩ := List.mem_iff_getElem.1 hf
      have hj' : j < t.fs.length := by simpa using hj
      rw [List.getElem_modify]
      have := o1.fs _ (List.getElem_mem hj')
      split
      · rename_i e
        subst e
        have hl : lenAt t.fs i = t.fs[i].data.length := by simp [lenAt, hj']
        rw [hl] at q
        simp only [List.length_append]
        omega
      · exact this
end Go.G.Ytpjklfmfgmicaaa
