/- Used. -/
import Derived.Test.YtpjklfmfgmicaaaDH
import Derived.Test.YtpjklfmfgmicaaaProg
set_option maxRecDepth 100000
namespace Go.G.Ytpjklfmfgmicaaa
open Go.RowKit
def f18_J : Nat → List Nat × Nat := jOf [(5, [0, 1, 2, 4, 5, 6, 7, 8, 9, 10, 11, 13, 14, 15, 16, 17, 18, 19, 20, 21, 22, 23, 24], 0)]

def f18_5 (w0 : World) (K : Value → AH → Prop) (x3 : Int) (x12 : Go.Addr) (h : AH) : Prop :=
  ∀ j : Nat → Value, LPk Go.Proofs.Try.prog w0 (EvC Go.Proofs.Try.prog w0) f18_J 18 K 5 [.v (j 0), .v (j 1), .v (j 2), .v (.int .i64 x3), .v (j 4), .v (j 5), .v (j 6), .v (j 7), .v (j 8), .v (j 9), .v (j 10), .v (j 11), .v (.pointer (some x12)), .v (j 13), .v (j 14), .v (j 15), .v (j 16), .v (j 17), .v (j 18), .v (j 19), .v (j 20), .v (j 21), .v (j 22), .v (j 23), .v (j 24)] [] h

theorem f18_5_in {w0 : World} {K : Value → AH → Prop} (x3 : Int) (x12 : Go.Addr) (h : AH)
  (hv : (nextM h x12 (fun _ _ h'7 => (entryM h'7 x12 (fun es'8 n'9 => (∃ v'10 : Go.Value, (∃ p'11 : Option Go.Addr, ((Go.G.entIs es'8 n'9 v'10 (Go.Value.pointer p'11)) ∧ (∃ a'12 : Go.Addr, ((p'11 = (some a'12)) ∧ (∃ p'13 : Option Go.Addr, (∃ n'14 : Nat, (∃ n'15 : Nat, (((Go.G.cellA w0 h'7 (Go.Addr.add a'12 0)) = (some (Go.Value.slice p'13 n'14 n'15))) ∧ (f18_5 w0 K (Go.IntKind.wrap .i64 (x3 + ((n'14 : Nat) : Int))) x12 h'7))))))))))))) (fun h'16 => (K (Go.Value.int .i64 x3) h'16)))) :
  f18_5 w0 K x3 x12 h := fun j => LP_intro (P := Go.Proofs.Try.prog) (Eq.mp (by kernel_rfl) hv)

theorem f18_go {w0 : World} {K : Value → AH → Prop} (x0 : Option Go.Addr) (h : AH)
  (hv : (brB (Option.isNone x0) (K (Go.Value.int .i64 (0 : Int)) h) (∃ a'0 : Go.Addr, ((x0 = (some a'0)) ∧ (∃ p'1 : Option Nat, (((Go.G.cellA w0 h (Go.Addr.add a'0 1)) = (some (Go.Value.map p'1))) ∧ (rangeM h p'1 (fun n'2 => (newB w0 h (Go.G.AB.mit p'1 (List.range n'2) none) (fun b'3 h'4 => (f18_5 w0 K (0 : Int) (Go.Addr.mk b'3 0 none) h'4))))))))))) :
  EvC Go.Proofs.Try.prog w0 18 ([(.pointer x0)]).toArray K h := EvC_intro (P := Go.Proofs.Try.prog) f18_J (Eq.mp (by kernel_rfl) hv)
def Chg.playL (c : Chg) (d : Dir) : Dir :=
  let d := if c.old = ⟨#[]⟩ then d else delL c.old d
  match c.f with
  | none => d
  | some i => putL c.name i d
theorem playL_perm {c : Chg} {d d' : Dir} (hp : d'.Perm d) (hn : (d.map (·.1)).Nodup) : (c.playL d').Perm (c.play d) := by
  have h1 : (if c.old = ⟨#[]⟩ then d' else delL c.old d').Perm (if c.old = ⟨#[]⟩ then d else dropD c.old d) := by
    split
    · exact hp
    · exact delL_dropD hp hn
  have h2 : ((if c.old = ⟨#[]⟩ then d else dropD c.old d).map (·.1)).Nodup := by
    split
    · exact hn
    · exact dropD_nd hn
  unfold Chg.playL Chg.play
  dsimp only
  cases c.f with
  | none => exact h1
  | some i => exact putL_putD h1 h2

theorem PD.flat (s : Ds) (D : PD) (B : List (Nat × AB)) : D.blocks s ++ B = (D.bd, .cells (pcells s D) 9) :: (D.md, .map (mapC D.F D.ed)) :: (D.ms, .map (mapC D.F D.es)) :: (slB D.ra (rowC D.F D.row) (D.rc * 3) ++ (fobs D.F ++ B)) := by
  simp only [PD.blocks, PD.rest, List.cons_append, List.append_assoc]
theorem PRep.call {s : Ds} {D : PD} (r : PRep s D) : PRep (callS s).2.2 D := by
  obtain ⟨e1, e2, e3, e4, e5⟩ := callS_same s
  exact ⟨callS_ok r.ok, by rw [e2]; exact r.fs, r.fv, r.rv, by rw [e2]; exact r.ri, by rw [e3]; exact r.dm, by rw [e4]; exact r.wr, by rw [e4, e3]; exact r.la⟩
theorem PRep.len {s : Ds} {D : PD} (r : PRep s D) : D.F.length = s.fs.length := by rw [← r.fs]; simp
theorem PRep.rowlen {s : Ds} {D : PD} (r : PRep s D) : (D.row.length : Int) ≤ s.calls := by
  obtain ⟨d, e, _⟩ := r.wr
  have := r.ok.nw
  rw [e, scanC_length] at this
  omega
theorem PRep.find {s : Ds} {D : PD} (r : PRep s D) (n : ByteArray) : getM (.string n) (mapC D.F D.ed) = (findD n s.dir).map fun i => .pointer (ptrF D.F i) := by
  rw [findM, findD_perm r.dm r.ok.dir.nd]
theorem mapAt_D {w0 : World} {h : AH} {bs : List (Nat × AB)} {F : List FO} {d : Dir} {r : Nat} {K : List (Value × Value) → Prop} (w : Own w0 h bs) (hm : (r, .map (mapC F d)) ∈ bs) (hk : K (mapC F d)) : mapAt Go.Proofs.Try.prog w0 h (some r) 65 K :=
  mapAt_own (w.mem hm).1 (w.mem hm).2 (by kernel_rfl) keysOk_C hk
/-- A call that changes begins. -/
theorem f41_rep {w0 : World} {K : Value → AH → Prop} {h : AH} {B : List (Nat × AB)} {s : Ds} {D : PD} (r : PRep s D) (w : Own w0 h (D.blocks s ++ B)) (hc : s.calls < 1099511627776)
    (hk : ∀ h', Own w0 h' (D.blocks (callS s).2.2 ++ B) → K (.tuple #[.int .i64 (callS s).1, .bool (callS s).2.1]) h') :
    EvC Go.Proofs.Try.prog w0 41 #[.pointer (some ⟨D.bd, 0, none⟩)] K h :=
  f41_spec (B := D.rest ++ B) w r.ok hc hk

theorem sum_erase {α : Type} [BEq α] [LawfulBEq α] (g : α → Nat) {i : α} : ∀ {l : List α}, i ∈ l → (l.map g).sum = g i + ((l.erase i).map g).sum
  | [], h => by cases h
  | x :: l, h => by
    rw [List.erase_cons]
    split
    · rename_i q
      have : x = i := by simpa using q
      subst this; simp
    · rename_i q
      have : x ≠ i := by simpa using q
      have hm : i ∈ l := by rcases List.mem_cons.1 h with e | e; exact absurd e.symm this; exact e
      simp only [List.map_cons, List.sum_cons, sum_erase g hm]; omega
theorem range_sum {α : Type} (f : α → Nat) (l : List α) : ((List.range l.length).map fun i => ((l[i]?).map f).getD 0) = l.map f := by
  apply List.ext_getElem (by simp)
  intro i h1 h2
  simp at h1
  simp [h1]
/-- Used. -/
theorem f18_spec {w0 : World} {K : Value → AH → Prop} {h : AH} {B : List (Nat × AB)} {s : Ds} {D : PD} (r : PRep s D) (w : Own w0 h (D.blocks s ++ B)) (hc : s.calls < 2000000000)
    (hk : ∀ h', Own w0 h' (D.blocks s ++ B) → K (.int .i64 ((usedS s : Nat) : Int)) h') : EvC Go.Proofs.Try.prog w0 18 #[.pointer (some ⟨D.bd, 0, none⟩)] K h := by
  have ou := used_le r.ok
  have od := r.ok.dir.len
  have hmd : (D.md, AB.map (mapC D.F D.ed)) ∈ D.blocks s ++ B := by rw [PD.flat]; simp
  have hmem : ∀ p ∈ fobs D.F, p ∈ D.blocks s ++ B := fun p hp => by rw [PD.flat]; simp [hp]
  have wf := w
  rw [PD.flat] at wf
  refine f18_go _ _ (brB_of (fun q => by cases q) fun _ => ⟨_, rfl, _, wf.cell0 rfl, fun q => (by cases q), fun q hq => ?_⟩)
  injection hq with hq
  subst hq
  refine ⟨_, (w.mem hmd).2, fun b hb hbn => ?_⟩
  have hne : ∀ p ∈ D.blocks s ++ B, p.1 ≠ b := fun p hp e => by
    have := (w.is p hp).2
    rw [e, hbn] at this; cases this
  have loop : ∀ (k : Nat) (left : List Nat) (cur : Option Nat) (acc : Nat) (h' : AH), left.length = k → (∀ i ∈ left, i < D.ed.length) → acc + (left.map fun i => ((D.ed[i]?).map fun e => lenAt s.fs e.2).getD 0).sum = usedS s →
      Own w0 h' (D.blocks s ++ B) → h' b = some (.mit (some D.md) left cur) → f18_5 w0 K ((acc : Nat) : Int) ⟨b, 0, none⟩ h' := by
    intro k
    induction k with
    | zero =>
      intro left cur acc h' hl hi he w' hb'
      have hn := List.eq_nil_of_length_eq_zero hl
      subst hn
      refine f18_5_in _ _ _ ⟨_, _, _, rfl, hb', fun _ => ?_, fun q hq => ⟨_, by injection hq with hq; subst hq; exact (w'.mem hmd).2, fun i k x hi => by cases hi⟩⟩
      simp at he
      subst he
      exact hk h' w'
    | succ k ih =>
      intro left cur acc h' hl hi he w' hb'
      refine f18_5_in _ _ _ ⟨_, _, _, rfl, hb', fun q => (by rw [q] at hl; cases hl), fun q hq => ⟨_, by injection hq with hq; subst hq; exact (w'.mem hmd).2, fun i kk x hil hx => ?_⟩⟩
      have hei : i < D.ed.length := hi i hil
      have hge := List.getElem?_eq_getElem hei
      generalize D.ed[i] = e at hge
      have hx' : (kk, x) = (.string e.1, .pointer (ptrF D.F e.2)) := by
        unfold mapC at hx
        rw [List.getElem?_map, hge] at hx
        injection hx with hx; exact hx.symm
      injection hx' with hk1 hx1
      subst hk1 hx1
      have w2 : Own w0 (h'.put b (.mit (some D.md) (left.erase i) (some i))) (D.blocks s ++ B) := w'.other hne
      have hid := (r.ok.dir.ids e (r.dm.mem_iff.1 (List.mem_of_getElem? hge))).1
      have hfl : e.2 < D.F.length := by rw [r.len]; exact hid
      obtain ⟨hp, c0, _⟩ := file_cells w2 hmem (List.getElem?_eq_getElem hfl)
      have hln := lenAt_abs r.fs (List.getElem?_eq_getElem hfl)
      refine ⟨_, _, _, _, rfl, put_same _ _ _, (w2.mem hmd).2, .string e.1, ptrF D.F e.2, ?_, _, hp, _, _, _, c0, ?_⟩
      · unfold entIs mapC
        rw [List.getElem?_map, hge]; rfl
      rw [sum_erase _ hil, hge] at he
      simp only [Option.map_some, Option.getD_some] at he
      rw [show ((acc : Nat) : Int) + (((D.F[e.2]).data.length : Nat) : Int) = ((acc + lenAt s.fs e.2 : Nat) : Int) by rw [hln]; omega, wrap64 (by omega) (by omega)]
      exact ih _ (some i) _ _ (by rw [List.length_erase_of_mem hil]; omega) (fun j hj => hi j (List.mem_of_mem_erase hj)) (by omega) w2 (put_same _ _ _)
  refine loop _ _ none 0 _ rfl (fun i hi => ?_) ?_ (w.past hbn) (put_same _ _ _)
  · rw [mapC_length] at hi; exact List.mem_range.1 hi
  · rw [mapC_length, range_sum, Nat.zero_add]
    exact (r.dm.map _).sum_nat
end Go.G.Ytpjklfmfgmicaaa
