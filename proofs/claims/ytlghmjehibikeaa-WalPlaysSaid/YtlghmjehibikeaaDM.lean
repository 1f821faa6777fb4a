/- Read. -/
import Derived.Test.YtlghmjehibikeaaDL
import Derived.Test.YtlghmjehibikeaaProg
set_option maxRecDepth 100000
namespace Go.G.Ytlghmjehibikeaa
open Go.RowKit
def f56_J : Nat → List Nat × Nat := jOf []



theorem f56_go {w0 : World} {K : Value → AH → Prop} (x0 : Option Go.Addr) (x1 : ByteArray) (h : AH)
  (hv : (brB (Option.isNone x0) (K (Go.Value.tuple #[(Go.Value.pointer none), (Go.Value.int .i64 (1 : Int))]) h) (∃ a'0 : Go.Addr, ((x0 = (some a'0)) ∧ (∃ t'1 : Bool, (((Go.G.cellA w0 h (Go.Addr.add a'0 4)) = (some (Go.Value.bool t'1))) ∧ (brB t'1 (K (Go.Value.tuple #[(Go.Value.pointer none), (Go.Value.int .i64 (10 : Int))]) h) (∃ a'2 : Go.Addr, ((x0 = (some a'2)) ∧ (∃ p'3 : Option Nat, (((Go.G.cellA w0 h (Go.Addr.add a'2 1)) = (some (Go.Value.map p'3))) ∧ (((Go.G.plainKey Go.Proofs.Try.prog 67 (Go.Value.string x1)) = true) ∧ (mapAt Go.Proofs.Try.prog w0 h p'3 67 (fun es'4 => (∃ p'5 : Option Go.Addr, (((Go.Value.pointer p'5) = (Option.getD (Go.G.getM (Go.Value.string x1) es'4) (Go.Value.pointer none))) ∧ (brB (Option.isNone p'5) (K (Go.Value.tuple #[(Go.Value.pointer none), (Go.Value.int .i64 (7 : Int))]) h) (∃ a'6 : Go.Addr, ((x0 = (some a'6)) ∧ (∃ p'7 : Option Nat, (((Go.G.cellA w0 h (Go.Addr.add a'6 1)) = (some (Go.Value.map p'7))) ∧ (((Go.G.plainKey Go.Proofs.Try.prog 67 (Go.Value.string x1)) = true) ∧ (mapAt Go.Proofs.Try.prog w0 h p'7 67 (fun es'8 => (∃ p'9 : Option Go.Addr, (((Go.Value.pointer p'9) = (Option.getD (Go.G.getM (Go.Value.string x1) es'8) (Go.Value.pointer none))) ∧ (K (Go.Value.tuple #[(Go.Value.pointer p'9), (Go.Value.int .i64 (0 : Int))]) h))))))))))))))))))))))))))) :
  EvC Go.Proofs.Try.prog w0 56 ([(.pointer x0), (.string x1)]).toArray K h := EvC_intro (P := Go.Proofs.Try.prog) f56_J (Eq.mp (by kernel_rfl) hv)
def f31_J : Nat → List Nat × Nat := jOf []



theorem f31_go {w0 : World} {K : Value → AH → Prop} (x0 : Option Go.Addr) (x1 : ByteArray) (h : AH)
  (hv : (EvC Go.Proofs.Try.prog w0 56 #[(Go.Value.pointer x0), (Go.Value.string x1)] (fun x'0 h'1 => (∃ p'2 : Option Go.Addr, (∃ i'3 : Int, ((x'0 = (Go.Value.tuple #[(Go.Value.pointer p'2), (Go.Value.int .i64 i'3)])) ∧ (brB (i'3 != (0 : Int)) (K (Go.Value.tuple #[(Go.Value.slice none 0 0), (Go.Value.int .i64 i'3)]) h'1) (∃ a'4 : Go.Addr, ((p'2 = (some a'4)) ∧ (∃ p'5 : Option Go.Addr, (∃ n'6 : Nat, (∃ n'7 : Nat, (((Go.G.cellA w0 h'1 (Go.Addr.add a'4 0)) = (some (Go.Value.slice p'5 n'6 n'7))) ∧ (rowsOf w0 h'1 1 p'5 n'6 (fun ys'8 => (App w0 h'1 1 1 none 0 0 n'6 ys'8 (fun a'9 c'10 h'11 => (K (Go.Value.tuple #[(Go.Value.slice a'9 (0 + n'6) c'10), (Go.Value.int .i64 (0 : Int))]) h'11)))))))))))))))) h)) :
  EvC Go.Proofs.Try.prog w0 31 ([(.pointer x0), (.string x1)]).toArray K h := EvC_intro (P := Go.Proofs.Try.prog) f31_J (Eq.mp (by kernel_rfl) hv)
/-- What is read of a name. -/
def lookS (n : ByteArray) (s : Ds) : Int × Option Nat := if s.off then (10, none) else match findD n s.dir with | none => (7, none) | some i => (0, some i)
/-- look. -/
theorem f56_spec {w0 : World} {K : Value → AH → Prop} {h : AH} {B : List (Nat × AB)} {s : Ds} {D : PD} {n : ByteArray} (r : PRep s D) (w : Own w0 h (D.blocks s ++ B))
    (hk : K (.tuple #[.pointer (match (lookS n s).2 with | none => none | some i => ptrF D.F i), .int .i64 (lookS n s).1]) h) : EvC Go.Proofs.Try.prog w0 56 #[.pointer (some ⟨D.bd, 0, none⟩), .string n] K h := by
  have wf := w
  rw [PD.flat] at wf
  have hm : (D.md, AB.map (mapC D.F D.ed)) ∈ (D.bd, AB.cells (pcells s D) 9) :: (D.md, .map (mapC D.F D.ed)) :: (D.ms, .map (mapC D.F D.es)) :: (slB D.ra (rowC D.F D.row) (D.rc * 3) ++ (fobs D.F ++ B)) := List.mem_cons_of_mem _ (List.mem_cons_self ..)
  refine f56_go _ _ _ (brB_of (fun q => by cases q) fun _ => ⟨_, rfl, _, wf.cell0 rfl, brB_of (fun q => ?_) fun q => ⟨_, rfl, _, wf.cell0 rfl, by kernel_rfl, mapAt_D wf hm ?_⟩⟩)
  · have e : lookS n s = (10, none) := by unfold lookS; rw [if_pos q]
    rw [e] at hk; exact hk
  rw [r.find]
  cases hf : findD n s.dir with
  | none =>
    have e : lookS n s = (7, none) := by unfold lookS; rw [if_neg (by simp [q]), hf]
    rw [e] at hk
    exact ⟨none, rfl, brB_of (fun _ => hk) fun q => by cases q⟩
  | some i =>
    have e : lookS n s = (0, some i) := by unfold lookS; rw [if_neg (by simp [q]), hf]
    rw [e] at hk
    refine ⟨_, rfl, brB_of (fun q => by cases q) fun _ => ⟨_, rfl, _, wf.cell0 rfl, by kernel_rfl, mapAt_D wf hm ?_⟩⟩
    rw [r.find, hf]
    exact ⟨_, rfl, hk⟩
def dataAt (fs : List Fl) (i : Nat) : List UInt8 := ((fs[i]?).map Fl.data).getD []
def readS (n : ByteArray) (s : Ds) : Int × List UInt8 := ((lookS n s).1, match (lookS n s).2 with | none => [] | some i => dataAt s.fs i)
theorem look_file {s : Ds} {D : PD} {n : ByteArray} (r : PRep s D) : (∃ e, e ≠ 0 ∧ lookS n s = (e, none)) ∨ ∃ i f, lookS n s = (0, some i) ∧ findD n s.dir = some i ∧ D.F[i]? = some f ∧ dataAt s.fs i = f.data := by
  unfold lookS
  split
  · exact .inl ⟨10, by decide, rfl⟩
  · cases hf : findD n s.dir with
    | none => exact .inl ⟨7, by decide, rfl⟩
    | some i =>
      have hid := (r.ok.dir.ids _ (findD_mem hf)).1
      have hfl : i < D.F.length := by rw [r.len]; exact hid
      refine .inr ⟨i, D.F[i], rfl, rfl, List.getElem?_eq_getElem hfl, ?_⟩
      unfold dataAt
      rw [← r.fs, List.getElem?_map, List.getElem?_eq_getElem hfl]
      rfl
/-- A file's bytes are readable. -/
theorem file_rd {w0 : World} {h : AH} {B : List (Nat × AB)} {s : Ds} {D : PD} {i : Nat} {f : FO} (r : PRep s D) (w : Own w0 h (D.blocks s ++ B)) (hi : D.F[i]? = some f) : Rd w0 h f.a (u8s f.data) := by
  have hfv : SlV 1 f.a f.data.length f.c (u8s f.data) := r.fv _ (List.mem_of_getElem? hi)
  have wf := w
  rw [PD.flat, fobs_split hi] at wf
  refine hfv.rd (cs := (D.bd, .cells (pcells s D) 9) :: (D.md, .map (mapC D.F D.ed)) :: (D.ms, .map (mapC D.F D.es)) :: (slB D.ra (rowC D.F D.row) (D.rc * 3) ++ (fobs (D.F.take i) ++ [(f.b, .cells f.cells 2)]))) (bs := fobs (D.F.drop (i + 1)) ++ B) ?_
  simpa only [FO.blocks, List.cons_append, List.append_assoc, List.nil_append] using wf

/-- Read. -/
theorem f31_spec {w0 : World} {K : Value → AH → Prop} {h : AH} {B : List (Nat × AB)} {s : Ds} {D : PD} {n : ByteArray} (r : PRep s D) (w : Own w0 h (D.blocks s ++ B))
    (hk : ∀ h' a c, SlV 1 a (readS n s).2.length c (u8s (readS n s).2) → Own w0 h' (slB a (u8s (readS n s).2) (c * 1) ++ (D.blocks s ++ B)) → K (.tuple #[.slice a (readS n s).2.length c, .int .i64 (readS n s).1]) h') :
    EvC Go.Proofs.Try.prog w0 31 #[.pointer (some ⟨D.bd, 0, none⟩), .string n] K h := by
  refine f31_go _ _ _ (f56_spec r w ?_)
  rcases look_file (n := n) r with ⟨e, he, hl⟩ | ⟨i, f, hl, _, hi, hd⟩
  · unfold readS at hk
    rw [hl] at hk ⊢
    exact ⟨_, _, rfl, brB_of (fun _ => hk h none 0 SlV.nil w) fun q => by simp [he] at q⟩
  · unfold readS at hk
    rw [hl] at hk ⊢
    dsimp only at hk ⊢
    rw [hd] at hk
    have hmem : ∀ p ∈ fobs D.F, p ∈ D.blocks s ++ B := fun p hp => by rw [PD.flat]; simp [hp]
    obtain ⟨hp, c0, _⟩ := file_cells w hmem hi
    have hle : f.data.length ≤ 4194304 := by have := lenAt_le r.ok i; rw [lenAt_abs r.fs hi] at this; exact this
    refine ⟨_, _, rfl, brB_of (fun q => by cases q) fun _ => ⟨_, hp, _, _, _, c0, rowsOf_of (file_rd r w hi) (by rw [u8s_length, Nat.mul_one]) (App_new w (by omega) (by omega) (by rw [u8s_length, Nat.mul_one]) (u8s_cell _) fun a' c' h' v w' => ?_)⟩⟩
    rw [Nat.zero_add]
    exact hk h' a' c' v w'
/-- ReadAt. -/
def readAtS (n : ByteArray) (at' k : Int) (s : Ds) : Int × List UInt8 :=
  if (readS n s).1 ≠ 0 then ((readS n s).1, []) else if at' < 0 ∨ k < 0 then (1, []) else if ((readS n s).2.length : Int) < at' ∨ ((readS n s).2.length : Int) - at' < k then (5, [])
  else (0, ((readS n s).2.drop at'.toNat).take k.toNat)
end Go.G.Ytlghmjehibikeaa
