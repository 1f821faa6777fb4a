/- Append, Used, as the document answers. -/
import Derived.Test.YtpjklfmfgmicaaaDG
import Derived.Test.YtpjklfmfgmicaaaProg
set_option maxRecDepth 100000
namespace Go.G.Ytpjklfmfgmicaaa
open Go.RowKit
def f19_J : Nat → List Nat × Nat := jOf [(3, [0, 1, 2, 4, 5, 6, 7, 8, 12, 13, 14, 15, 16, 17, 18, 19, 20, 21, 22, 23, 24], 0)]

def f19_3 (w0 : World) (K : Value → AH → Prop) (x3 : Int) (a9 : Option Go.Addr) (n9 : Nat) (c9 : Nat) (x10 : Int) (x11 : Int) (h : AH) : Prop :=
  ∀ j : Nat → Value, LPk Go.Proofs.Try.prog w0 (EvC Go.Proofs.Try.prog w0) f19_J 19 K 3 [.v (j 0), .v (j 1), .v (j 2), .v (.int .i64 x3), .v (j 4), .v (j 5), .v (j 6), .v (j 7), .v (j 8), .v (.slice a9 n9 c9), .v (.int .i64 x10), .v (.int .i64 x11), .v (j 12), .v (j 13), .v (j 14), .v (j 15), .v (j 16), .v (j 17), .v (j 18), .v (j 19), .v (j 20), .v (j 21), .v (j 22), .v (j 23), .v (j 24)] [] h

theorem f19_3_in {w0 : World} {K : Value → AH → Prop} (x3 : Int) (a9 : Option Go.Addr) (n9 : Nat) (c9 : Nat) (x10 : Int) (x11 : Int) (h : AH)
  (hv : (brB (decide ((x11 < x10))) (∃ a'4 : Go.Addr, ((a9 = (some a'4)) ∧ (((0 : Int) ≤ x11) ∧ ((x11 < ((n9 : Nat) : Int)) ∧ (∃ s'5 : ByteArray, (∃ p'6 : Option Go.Addr, ((((Array.size #[(Go.Value.string s'5), (Go.Value.pointer p'6)]) = 2) ∧ (At w0 h (Go.Addr.add a'4 ((Int.toNat x11) * 2)) [(Go.Value.string s'5), (Go.Value.pointer p'6)])) ∧ (∃ a'7 : Go.Addr, ((p'6 = (some a'7)) ∧ (∃ p'8 : Option Go.Addr, (∃ n'9 : Nat, (∃ n'10 : Nat, (((Go.G.cellA w0 h (Go.Addr.add a'7 0)) = (some (Go.Value.slice p'8 n'9 n'10))) ∧ (f19_3 w0 K (Go.IntKind.wrap .i64 (x3 + ((n'9 : Nat) : Int))) a9 n9 c9 x10 (Go.IntKind.wrap .i64 (x11 + (1 : Int))) h)))))))))))))) (K (Go.Value.int .i64 x3) h))) :
  f19_3 w0 K x3 a9 n9 c9 x10 x11 h := fun j => LP_intro (P := Go.Proofs.Try.prog) (Eq.mp (by kernel_rfl) hv)

theorem f19_go {w0 : World} {K : Value → AH → Prop} (x0 : Option Go.Addr) (h : AH)
  (hv : (∃ a'0 : Go.Addr, ((x0 = (some a'0)) ∧ (∃ p'1 : Option Go.Addr, (∃ n'2 : Nat, (∃ n'3 : Nat, (((Go.G.cellA w0 h (Go.Addr.add a'0 1)) = (some (Go.Value.slice p'1 n'2 n'3))) ∧ (f19_3 w0 K (0 : Int) p'1 n'2 n'3 ((n'2 : Nat) : Int) (0 : Int) h)))))))) :
  EvC Go.Proofs.Try.prog w0 19 ([(.pointer x0)]).toArray K h := EvC_intro (P := Go.Proofs.Try.prog) f19_J (Eq.mp (by kernel_rfl) hv)
def f17_J : Nat → List Nat × Nat := jOf [(8, [0, 1, 3, 4, 5, 6, 7, 10, 11, 12, 13, 14, 15, 16, 17, 18, 19, 20, 21, 22, 23, 24, 25, 26, 27, 28, 29, 30, 31, 32, 33, 34, 35, 36, 37, 38, 39, 40, 41, 42, 43, 44, 46, 47, 48, 49, 50, 51, 52, 53, 54, 55, 56, 57, 58, 59], 0)]

def f17_8 (w0 : World) (K : Value → AH → Prop) (a2 : Option Go.Addr) (n2 : Nat) (c2 : Nat) (x8 : Bool) (x9 : Option Go.Addr) (x45 : Bool) (h : AH) : Prop :=
  ∀ j : Nat → Value, LPk Go.Proofs.Try.prog w0 (EvC Go.Proofs.Try.prog w0) f17_J 17 K 8 [.v (j 0), .v (j 1), .v (.slice a2 n2 c2), .v (j 3), .v (j 4), .v (j 5), .v (j 6), .v (j 7), .v (.bool x8), .v (.pointer x9), .v (j 10), .v (j 11), .v (j 12), .v (j 13), .v (j 14), .v (j 15), .v (j 16), .v (j 17), .v (j 18), .v (j 19), .v (j 20), .v (j 21), .v (j 22), .v (j 23), .v (j 24), .v (j 25), .v (j 26), .v (j 27), .v (j 28), .v (j 29), .v (j 30), .v (j 31), .v (j 32), .v (j 33), .v (j 34), .v (j 35), .v (j 36), .v (j 37), .v (j 38), .v (j 39), .v (j 40), .v (j 41), .v (j 42), .v (j 43), .v (j 44), .v (.bool x45), .v (j 46), .v (j 47), .v (j 48), .v (j 49), .v (j 50), .v (j 51), .v (j 52), .v (j 53), .v (j 54), .v (j 55), .v (j 56), .v (j 57), .v (j 58), .v (j 59)] [] h

theorem f17_8_in {w0 : World} {K : Value → AH → Prop} (a2 : Option Go.Addr) (n2 : Nat) (c2 : Nat) (x8 : Bool) (x9 : Option Go.Addr) (x45 : Bool) (h : AH)
  (hv : (brB x45 (EvC Go.Proofs.Try.prog w0 48 #[(Go.Value.int .i64 (8 : Int)), (Go.Value.bool x8)] (fun x'23 h'24 => (∃ i'25 : Int, ((x'23 = (Go.Value.int .i64 i'25)) ∧ (K (Go.Value.int .i64 i'25) h'24)))) h) (∃ a'26 : Go.Addr, ((x9 = (some a'26)) ∧ (∃ p'27 : Option Go.Addr, (∃ n'28 : Nat, (∃ n'29 : Nat, (((Go.G.cellA w0 h (Go.Addr.add a'26 0)) = (some (Go.Value.slice p'27 n'28 n'29))) ∧ (rowsOf w0 h 1 p'27 n'28 (fun ys'30 => (App w0 h 1 1 none 0 0 n'28 ys'30 (fun a'31 c'32 h'33 => (rowsOf w0 h'33 1 a2 n2 (fun ys'34 => (App w0 h'33 1 1 a'31 (0 + n'28) c'32 n2 ys'34 (fun a'35 c'36 h'37 => (∃ a'38 : Go.Addr, ((x9 = (some a'38)) ∧ (∃ l'39 : List Go.Value, (∃ n'40 : Nat, (((Array.size (Go.World.heap w0)) ≤ (Go.Addr.block (Go.Addr.add a'38 0))) ∧ (((Go.Addr.spot (Go.Addr.add a'38 0)) = none) ∧ (((h'37 (Go.Addr.block (Go.Addr.add a'38 0))) = (some (Go.G.AB.cells l'39 n'40))) ∧ ((((Go.Addr.off (Go.Addr.add a'38 0)) + (Array.size #[(Go.Value.slice a'35 ((0 + n'28) + n2) c'36)])) ≤ (List.length l'39)) ∧ (EvC Go.Proofs.Try.prog w0 48 #[(Go.Value.int .i64 (0 : Int)), (Go.Value.bool x8)] (fun x'41 h'42 => (∃ i'43 : Int, ((x'41 = (Go.Value.int .i64 i'43)) ∧ (K (Go.Value.int .i64 i'43) h'42)))) (Go.G.AH.put h'37 (Go.Addr.block (Go.Addr.add a'38 0)) (Go.G.AB.cells (Go.G.setCells l'39 (Go.Addr.off (Go.Addr.add a'38 0)) [(Go.Value.slice a'35 ((0 + n'28) + n2) c'36)]) n'40))))))))))))))))))))))))))) :
  f17_8 w0 K a2 n2 c2 x8 x9 x45 h := fun j => LP_intro (P := Go.Proofs.Try.prog) (Eq.mp (by kernel_rfl) hv)

theorem f17_go {w0 : World} {K : Value → AH → Prop} (x0 : Option Go.Addr) (x1 : ByteArray) (a2 : Option Go.Addr) (n2 : Nat) (c2 : Nat) (h : AH)
  (hv : (EvC Go.Proofs.Try.prog w0 46 #[(Go.Value.pointer x0)] (fun x'0 h'1 => (∃ i'2 : Int, (∃ t'3 : Bool, ((x'0 = (Go.Value.tuple #[(Go.Value.int .i64 i'2), (Go.Value.bool t'3)])) ∧ (brB (i'2 != (0 : Int)) (K (Go.Value.int .i64 i'2) h'1) (EvC Go.Proofs.Try.prog w0 49 #[(Go.Value.pointer x0), (Go.Value.string x1)] (fun x'4 h'5 => (∃ p'6 : Option Go.Addr, ((x'4 = (Go.Value.pointer p'6)) ∧ (brB (Option.isNone p'6) (EvC Go.Proofs.Try.prog w0 48 #[(Go.Value.int .i64 (7 : Int)), (Go.Value.bool t'3)] (fun x'7 h'8 => (∃ i'9 : Int, ((x'7 = (Go.Value.int .i64 i'9)) ∧ (K (Go.Value.int .i64 i'9) h'8)))) h'5) (∃ a'10 : Go.Addr, ((p'6 = (some a'10)) ∧ (∃ p'11 : Option Go.Addr, (∃ n'12 : Nat, (∃ n'13 : Nat, (((Go.G.cellA w0 h'5 (Go.Addr.add a'10 0)) = (some (Go.Value.slice p'11 n'12 n'13))) ∧ (brB (decide (((Go.IntKind.wrap .i64 ((4194304 : Int) - ((n'12 : Nat) : Int))) < ((n2 : Nat) : Int)))) (f17_8 w0 K a2 n2 c2 t'3 p'6 true h'5) (∃ a'14 : Go.Addr, ((x0 = (some a'14)) ∧ ((∃ i'15 : Int, (((Go.G.cellA w0 h'5 (Go.Addr.add a'14 0)) = (some (Go.Value.int .i64 i'15))) ∧ (EvC Go.Proofs.Try.prog w0 19 #[(Go.Value.pointer x0)] (fun x'16 h'17 => (∃ i'18 : Int, ((x'16 = (Go.Value.int .i64 i'18)) ∧ (f17_8 w0 K a2 n2 c2 t'3 p'6 (decide (((Go.IntKind.wrap .i64 (i'15 - i'18)) < ((n2 : Nat) : Int)))) h'17)))) h'5))) ∧ (EvC Go.Proofs.Try.prog w0 19 #[(Go.Value.pointer x0)] (fun x'19 h'20 => (∃ i'21 : Int, ((x'19 = (Go.Value.int .i64 i'21)) ∧ (∃ i'22 : Int, (((Go.G.cellA w0 h'20 (Go.Addr.add a'14 0)) = (some (Go.Value.int .i64 i'22))) ∧ (f17_8 w0 K a2 n2 c2 t'3 p'6 (decide (((Go.IntKind.wrap .i64 (i'22 - i'21)) < ((n2 : Nat) : Int)))) h'20)))))) h'5))))))))))))))) h'1)))))) h)) :
  EvC Go.Proofs.Try.prog w0 17 ([(.pointer x0), (.string x1), (.slice a2 n2 c2)]).toArray K h := EvC_intro (P := Go.Proofs.Try.prog) f17_J (Eq.mp (by kernel_rfl) hv)
theorem fobs_mem {F : List FO} {i : Nat} {f : FO} (hi : F[i]? = some f) : (f.b, AB.cells f.cells 2) ∈ fobs F := by
  rw [fobs_split hi]; simp [FO.blocks]
theorem file_cells {w0 : World} {h : AH} {bs : List (Nat × AB)} {F : List FO} {i : Nat} {f : FO} (w : Own w0 h bs) (hm : ∀ p ∈ fobs F, p ∈ bs) (hi : F[i]? = some f) :
    ptrF F i = some ⟨f.b, 0, none⟩ ∧ cellA w0 h (Addr.add ⟨f.b, 0, none⟩ 0) = some (.slice f.a f.data.length f.c) ∧ cellA w0 h (Addr.add ⟨f.b, 0, none⟩ 1) = some (.int .i64 (f.sure : Nat)) :=
  ⟨by simp [ptrF, blk_at hi], w.cell (hm _ (fobs_mem hi)) rfl, w.cell (hm _ (fobs_mem hi)) rfl⟩
theorem lenAt_abs {F : List FO} {fs : List Fl} {i : Nat} {f : FO} (hf : F.map FO.abs = fs) (hi : F[i]? = some f) : lenAt fs i = f.data.length := by
  subst hf; simp [lenAt, hi, FO.abs]
theorem sum_split {l : List (ByteArray × Nat)} {g : ByteArray × Nat → Nat} {i : Nat} {e : ByteArray × Nat} (hi : l[i]? = some e) : ((l.drop i).map g).sum = g e + ((l.drop (i + 1)).map g).sum := by
  have hl := (List.getElem?_eq_some_iff.1 hi).1
  rw [List.drop_eq_getElem_cons hl, (List.getElem?_eq_some_iff.1 hi).2]
  simp

/-- Used, as the document answers. -/
theorem f19_spec {w0 : World} {K : Value → AH → Prop} {h : AH} {B : List (Nat × AB)} {s : Ds} {R : RD} (r : RRep s R) (w : Own w0 h (R.blocks s ++ B)) (hc : s.calls < 2000000000)
    (hk : K (.int .i64 ((usedS s : Nat) : Int)) h) : EvC Go.Proofs.Try.prog w0 19 #[.pointer (some ⟨R.bd, 0, none⟩)] K h := by
  have ou := used_le r.ok
  have od := r.ok.dir.len
  have wf := w
  rw [RD.flat] at wf
  have rd : Rd w0 h R.la (entC R.F s.dir) := r.lv.rd (cs := [_]) wf
  have hmem : ∀ p ∈ fobs R.F, p ∈ R.blocks s ++ B := fun p hp => by rw [RD.flat]; simp [hp]
  have loop : ∀ (k i acc : Nat), i + k = s.dir.length → acc + ((s.dir.drop i).map fun e => lenAt s.fs e.2).sum = usedS s → f19_3 w0 K ((acc : Nat) : Int) R.la s.dir.length R.lc ((s.dir.length : Nat) : Int) ((i : Nat) : Int) h := by
    intro k
    induction k with
    | zero =>
      intro i acc hi he
      refine f19_3_in _ _ _ _ _ _ _ (brB_of (fun q => by simp at q; omega) fun _ => ?_)
      rw [List.drop_eq_nil_of_le (by omega)] at he
      simp at he
      rw [he]; exact hk
    | succ k ih =>
      intro i acc hi he
      have hil : i < s.dir.length := by omega
      have hget : s.dir[i]? = some s.dir[i] := List.getElem?_eq_getElem hil
      rw [sum_split hget] at he
      have hid := (r.ok.dir.ids _ (List.getElem_mem hil)).1
      generalize s.dir[i] = e at hget he hid
      have hfl : e.2 < R.F.length := by rw [r.len]; exact hid
      obtain ⟨hp, c0, _⟩ := file_cells w hmem (List.getElem?_eq_getElem hfl)
      have hln := lenAt_abs r.fs (List.getElem?_eq_getElem hfl)
      refine f19_3_in _ _ _ _ _ _ _ (brB_of (fun _ => entLoad rd hget rfl fun ad => ⟨_, hp, _, _, _, c0, ?_⟩) fun q => by simp at q; omega)
      rw [wrapS (by omega), show ((acc : Nat) : Int) + (((R.F[e.2]).data.length : Nat) : Int) = ((acc + lenAt s.fs e.2 : Nat) : Int) by rw [hln]; omega, wrap64 (by omega) (by omega)]
      exact ih (i + 1) _ (by omega) (by omega)
  exact f19_go _ _ ⟨_, rfl, _, _, _, wf.cell0 rfl, loop s.dir.length 0 0 (by omega) (by simp [usedS])⟩

theorem FV_set {F : List FO} {i : Nat} {f : FO} (v : FV F) (hf : SlV 1 f.a f.data.length f.c (u8s f.data)) : FV (F.set i f) := fun g hg => by
  rcases List.mem_or_eq_of_mem_set hg with hg | rfl
  · exact v g hg
  · exact hf
theorem set_abs {F : List FO} {fs : List Fl} {i : Nat} {f f' : FO} {g : Fl → Fl} (hf : F.map FO.abs = fs) (hi : F[i]? = some f) (hg : f'.abs = g f.abs) : (F.set i f').map FO.abs = fs.modify i g := by
  subst hf
  apply List.ext_getElem?
  intro j
  rw [List.getElem?_map, List.getElem?_set, List.getElem?_modify, List.getElem?_map]
  split
  · rename_i e
    subst e
    have hl := (List.getElem?_eq_some_iff.1 hi).1
    simp [hl, hg]
    have := (List.getElem?_eq_some_iff.1 hi).2
    rw [this]
  · rename_i e
    cases F[j]? <;> simp

/-- Append, as the document answers. -/
theorem f17_spec {w0 : World} {K : Value → AH → Prop} {h : AH} {B : List (Nat × AB)} {s : Ds} {R : RD} {n : ByteArray} {a : Option Addr} {c : Nat} {ys : List UInt8} (r : RRep s R) (w : Own w0 h (R.blocks s ++ B)) (hc : s.calls < 1000000000)
    (hr : ∀ h', Own w0 h' B → Rd w0 h' a (u8s ys)) (hy : ys.length ≤ 1000000000000)
    (hk : ∀ h' R', R'.bd = R.bd → RRep (appendS n ys s).2 R' → Own w0 h' (R'.blocks (appendS n ys s).2 ++ B) → K (.int .i64 (appendS n ys s).1) h') :
    EvC Go.Proofs.Try.prog w0 17 #[.pointer (some ⟨R.bd, 0, none⟩), .string n, .slice a ys.length c] K h := by
  have ook := appendS_ok r.ok n ys
  have oc := r.ok.calls
  refine f17_go _ _ _ _ _ _ (f46_rep r w (by omega) fun h1 w1 => ⟨_, _, rfl, brB_of (fun q => ?_) fun q => ?_⟩)
  · have e : appendS n ys s = ((callS s).1, (callS s).2.2) := by unfold appendS; dsimp only; rw [if_pos (by simpa using q)]
    rw [e] at hk
    exact hk h1 R rfl r.call w1
  rw [lastS_of q]
  have q0 : (callS s).1 = 0 := by simpa using q
  have r1 := r.call
  have e5 := (callS_same s).2.2.2.2
  generalize hg : (callS s).2.1 = g
  have ecr : appendS n ys s = match findD n (callS s).2.2.dir with
    | none => (endS g 7, (callS s).2.2)
    | some i => if IntKind.i64.wrap (4194304 - (lenAt (callS s).2.2.fs i : Nat)) < (ys.length : Nat) ∨ IntKind.i64.wrap ((callS s).2.2.room - (usedS (callS s).2.2 : Nat)) < (ys.length : Nat) then (endS g 8, (callS s).2.2)
      else (endS g 0, { (callS s).2.2 with fs := (callS s).2.2.fs.modify i fun f => { f with data := f.data ++ ys } }) := by
    rw [← hg]; unfold appendS; dsimp only; rw [if_neg (by simp [q0])]
    cases findD n (callS s).2.2.dir <;> rfl
  rw [ecr] at hk ook
  generalize (callS s).2.2 = t at hk ook w1 r1 e5
  have od := r1.ok.dir.len
  have wf := w1
  rw [RD.flat] at wf
  refine f49_spec wf r1.lv (by omega) ⟨_, rfl, ?_⟩
  cases hf : findD n t.dir with
  | none =>
    rw [hf] at hk
    exact brB_of (fun _ => f48_spec ⟨_, rfl, hk h1 R rfl r1 w1⟩) fun q => by cases q
  | some i =>
    rw [hf] at hk ook
    dsimp only at hk ook ⊢
    have hid := (r1.ok.dir.ids _ (findD_mem hf)).1
    have hfl : i < R.F.length := by rw [r1.len]; exact hid
    have hgi := List.getElem?_eq_getElem hfl
    generalize hfo : R.F[i] = fo at hgi
    have hmem : ∀ p ∈ fobs R.F, p ∈ R.blocks t ++ B := fun p hp => by rw [RD.flat]; simp [hp]
    obtain ⟨hp, c0, _⟩ := file_cells w1 hmem hgi
    have hln := lenAt_abs r1.fs hgi
    have hle := lenAt_le r1.ok i
    rw [hp]
    refine brB_of (fun q => by cases q) fun _ => ⟨_, rfl, _, _, _, c0, ?_⟩
    have no : ∀ x45, x45 = true → (IntKind.i64.wrap (4194304 - (lenAt t.fs i : Nat)) < (ys.length : Nat) ∨ IntKind.i64.wrap (t.room - (usedS t : Nat)) < (ys.length : Nat)) → f17_8 w0 K a ys.length c g (some ⟨fo.b, 0, none⟩) x45 h1 := fun x45 hx hn => by
      subst hx
      rw [if_pos hn] at hk
      exact f17_8_in _ _ _ _ _ _ _ (brB_of (fun _ => f48_spec ⟨_, rfl, hk h1 R rfl r1 w1⟩) fun q => by cases q)
    have yes : ∀ x45, x45 = false → ¬ (IntKind.i64.wrap (4194304 - (lenAt t.fs i : Nat)) < (ys.length : Nat) ∨ IntKind.i64.wrap (t.room - (usedS t : Nat)) < (ys.length : Nat)) → f17_8 w0 K a ys.length c g (some ⟨fo.b, 0, none⟩) x45 h1 := fun x45 hx hn => by
      subst hx
      rw [if_neg hn] at hk ook
      have hfv : SlV 1 fo.a fo.data.length fo.c (u8s fo.data) := r1.fv _ (List.mem_of_getElem? hgi)
      -- the blocks, the file's ones to be seen
      have ws : Own w0 h1 (((R.bd, .cells (rcells t R) 8) :: (slB R.la (entC R.F t.dir) (R.lc * 2) ++ (slB R.wa (wasC t.was R.W) (R.wc * 1) ++ (wasB R.F t.was R.W ++ fobs (R.F.take i))))) ++ ((fo.b, .cells fo.cells 2) :: (slB fo.a (u8s fo.data) (fo.c * 1) ++ (fobs (R.F.drop (i + 1)) ++ B)))) := by
        rw [fobs_split hgi] at wf
        simpa only [FO.blocks, List.cons_append, List.append_assoc] using wf
      generalize hC : ((R.bd, .cells (rcells t R) 8) :: (slB R.la (entC R.F t.dir) (R.lc * 2) ++ (slB R.wa (wasC t.was R.W) (R.wc * 1) ++ (wasB R.F t.was R.W ++ fobs (R.F.take i)))) : List (Nat × AB)) = C at ws
      have rd1 : Rd w0 h1 fo.a (u8s fo.data) := hfv.rd (cs := C ++ [(fo.b, .cells fo.cells 2)]) (bs := fobs (R.F.drop (i + 1)) ++ B) (by simpa only [List.append_assoc, List.cons_append, List.nil_append] using ws)
      refine f17_8_in _ _ _ _ _ _ _ (brB_of (fun q => by cases q) fun _ => ⟨_, rfl, _, _, _, c0, rowsOf_of rd1 (by rw [u8s_length, Nat.mul_one]) ?_⟩)
      have hfd : fo.data.length ≤ 4194304 := by rw [← hln]; exact hle
      refine App_new ws (by omega) (by omega) (by rw [u8s_length, Nat.mul_one]) (u8s_cell _) fun a2 c2 h2 v2 w2 => ?_
      have rd2 : Rd w0 h2 a (u8s ys) := hr h2 (by
        have := w2.drop.drop
        exact Own.drop (cs := fobs (R.F.drop (i + 1))) (Own.drop (cs := slB fo.a (u8s fo.data) (fo.c * 1)) this.tail))
      refine rowsOf_of rd2 (by rw [u8s_length, Nat.mul_one]) ?_
      rw [Nat.zero_add]
      refine App_slB v2 w2 (by omega) (by omega) (by rw [u8s_length, Nat.mul_one]) (u8s_cell _) fun a3 c3 h3 v3 w3 => ?_
      have w3' : Own w0 h3 ((slB a3 (u8s fo.data ++ u8s ys) (c3 * 1) ++ C) ++ ((fo.b, .cells fo.cells 2) :: (slB fo.a (u8s fo.data) (fo.c * 1) ++ (fobs (R.F.drop (i + 1)) ++ B)))) := by
        simpa only [List.append_assoc] using w3
      have gb := w3'.drop
      refine ⟨_, rfl, _, 2, gb.ge, rfl, gb.hd, by simp [FO.cells, Addr.add], f48_spec ⟨_, rfl, ?_⟩⟩
      have hdat : u8s fo.data ++ u8s ys = u8s (fo.data ++ ys) := by simp [u8s]
      have hlen2 : fo.data.length + ys.length = (fo.data ++ ys).length := by simp
      rw [hdat, hlen2] at v3
      rw [hdat] at w3'
      rw [hlen2]
      generalize hf' : ({ fo with a := a3, c := c3, data := fo.data ++ ys } : FO) = f'
      have w4 : Own w0 (h3.put fo.b (.cells f'.cells 2)) ((slB a3 (u8s (fo.data ++ ys)) (c3 * 1) ++ C) ++ ((fo.b, .cells f'.cells 2) :: (slB fo.a (u8s fo.data) (fo.c * 1) ++ (fobs (R.F.drop (i + 1)) ++ B)))) := w3'.upd
      have hset := fobs_set (f' := f') hgi
      have hbl : ∀ j, blk R.F j = blk (R.F.set i f') j := fun j => (blk_set hgi (by rw [← hf'])).symm
      have e1 : entC R.F t.dir = entC (R.F.set i f') t.dir := entC_eq fun e _ => hbl _
      have e2 : wasB R.F t.was R.W = wasB (R.F.set i f') t.was R.W := wasB_eq fun d _ e _ => hbl _
      have hput : h3.put fo.b (.cells f'.cells 2) = h3.put (Addr.add ⟨fo.b, 0, none⟩ 0).block (AB.cells (setCells fo.cells (Addr.add ⟨fo.b, 0, none⟩ 0).off [Value.slice a3 (fo.data ++ ys).length c3]) 2) := by rw [← hf']; rfl
      rw [hput] at w4
      refine hk _ { R with F := R.F.set i f' } rfl ⟨ook, set_abs r1.fs hgi (by rw [← hf']; rfl), FV_set r1.fv (by rw [← hf']; exact v3), by rw [← e1]; exact r1.lv, r1.wv, WasV_eq (fun d _ e _ => hbl _) r1.ww⟩ ?_
      generalize (h3.put (Addr.add ⟨fo.b, 0, none⟩ 0).block (AB.cells (setCells fo.cells (Addr.add ⟨fo.b, 0, none⟩ 0).off [Value.slice a3 (fo.data ++ ys).length c3]) 2)) = hN at w4 ⊢
      rw [RD.flat]
      show Own w0 hN ((R.bd, .cells (rcells t R) 8) :: (slB R.la (entC (R.F.set i f') t.dir) (R.lc * 2) ++ (slB R.wa (wasC t.was R.W) (R.wc * 1) ++ (wasB (R.F.set i f') t.was R.W ++ (fobs (R.F.set i f') ++ B)))))
      rw [← e1, ← e2, hset]
      have hfb : f'.blocks = (fo.b, .cells f'.cells 2) :: slB a3 (u8s (fo.data ++ ys)) (c3 * 1) := by rw [← hf']; rfl
      rw [hfb]
      -- the old row of bytes is forgotten, the new one stands behind the file
      have w5 : Own w0 hN (((slB a3 (u8s (fo.data ++ ys)) (c3 * 1) ++ C) ++ [(fo.b, .cells f'.cells 2)]) ++ (fobs (R.F.drop (i + 1)) ++ B)) :=
        Own.cut (cs := (slB a3 (u8s (fo.data ++ ys)) (c3 * 1) ++ C) ++ [(fo.b, .cells f'.cells 2)]) (ds := slB fo.a (u8s fo.data) (fo.c * 1)) (by simpa only [List.append_assoc, List.cons_append, List.nil_append] using w4)
      have w6 : Own w0 hN (slB a3 (u8s (fo.data ++ ys)) (c3 * 1) ++ ((C ++ [(fo.b, .cells f'.cells 2)]) ++ (fobs (R.F.drop (i + 1)) ++ B))) := by simpa only [List.append_assoc] using w5
      have w7 := w6.front
      rw [← hC] at w7
      simpa only [List.append_assoc, List.cons_append, List.nil_append] using w7
    refine brB_of (fun q => ?_) fun q => ?_
    · have : IntKind.i64.wrap (4194304 - (lenAt t.fs i : Nat)) < (ys.length : Nat) := by rw [hln]; simpa using q
      exact no _ rfl (.inl this)
    · have hq : ¬ IntKind.i64.wrap (4194304 - (lenAt t.fs i : Nat)) < (ys.length : Nat) := by rw [hln]; simpa using q
      have fin : ∀ x45, x45 = decide (IntKind.i64.wrap (t.room - (usedS t : Nat)) < (ys.length : Nat)) → f17_8 w0 K a ys.length c g (some ⟨fo.b, 0, none⟩) x45 h1 := fun x45 hx => by
        cases hd : decide (IntKind.i64.wrap (t.room - (usedS t : Nat)) < (ys.length : Nat)) with
        | true => exact no _ (by rw [hx, hd]) (.inr (by simpa using hd))
        | false => exact yes _ (by rw [hx, hd]) (fun o => o.elim hq (by simpa using hd))
      refine ⟨_, rfl, ⟨_, wf.cell0 rfl, f19_spec r1 w1 (by omega) ⟨_, rfl, fin _ rfl⟩⟩, f19_spec r1 w1 (by omega) ⟨_, rfl, _, wf.cell0 rfl, fin _ rfl⟩⟩
end Go.G.Ytpjklfmfgmicaaa
