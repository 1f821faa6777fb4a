/- Read, Size, ReadAt. -/
import Derived.Test.YtpjklfmfgmicaaaDL
import Derived.Test.YtpjklfmfgmicaaaProg
set_option maxRecDepth 100000
namespace Go.G.Ytpjklfmfgmicaaa
open Go.RowKit
def f52_J : Nat → List Nat × Nat := jOf []



theorem f52_go {w0 : World} {K : Value → AH → Prop} (x0 : Option Go.Addr) (x1 : ByteArray) (h : AH)
  (hv : (brB (Option.isNone x0) (K (Go.Value.tuple #[(Go.Value.pointer none), (Go.Value.int .i64 (1 : Int))]) h) (∃ a'0 : Go.Addr, ((x0 = (some a'0)) ∧ (∃ t'1 : Bool, (((Go.G.cellA w0 h (Go.Addr.add a'0 4)) = (some (Go.Value.bool t'1))) ∧ (brB t'1 (K (Go.Value.tuple #[(Go.Value.pointer none), (Go.Value.int .i64 (10 : Int))]) h) (∃ a'2 : Go.Addr, ((x0 = (some a'2)) ∧ (∃ p'3 : Option Nat, (((Go.G.cellA w0 h (Go.Addr.add a'2 1)) = (some (Go.Value.map p'3))) ∧ (((Go.G.plainKey Go.Proofs.Try.prog 65 (Go.Value.string x1)) = true) ∧ (mapAt Go.Proofs.Try.prog w0 h p'3 65 (fun es'4 => (∃ p'5 : Option Go.Addr, (((Go.Value.pointer p'5) = (Option.getD (Go.G.getM (Go.Value.string x1) es'4) (Go.Value.pointer none))) ∧ (brB (Option.isNone p'5) (K (Go.Value.tuple #[(Go.Value.pointer none), (Go.Value.int .i64 (7 : Int))]) h) (∃ a'6 : Go.Addr, ((x0 = (some a'6)) ∧ (∃ p'7 : Option Nat, (((Go.G.cellA w0 h (Go.Addr.add a'6 1)) = (some (Go.Value.map p'7))) ∧ (((Go.G.plainKey Go.Proofs.Try.prog 65 (Go.Value.string x1)) = true) ∧ (mapAt Go.Proofs.Try.prog w0 h p'7 65 (fun es'8 => (∃ p'9 : Option Go.Addr, (((Go.Value.pointer p'9) = (Option.getD (Go.G.getM (Go.Value.string x1) es'8) (Go.Value.pointer none))) ∧ (K (Go.Value.tuple #[(Go.Value.pointer p'9), (Go.Value.int .i64 (0 : Int))]) h))))))))))))))))))))))))))) :
  EvC Go.Proofs.Try.prog w0 52 ([(.pointer x0), (.string x1)]).toArray K h := EvC_intro (P := Go.Proofs.Try.prog) f52_J (Eq.mp (by kernel_rfl) hv)
def f22_J : Nat → List Nat × Nat := jOf []



theorem f22_go {w0 : World} {K : Value → AH → Prop} (x0 : Option Go.Addr) (x1 : ByteArray) (h : AH)
  (hv : (EvC Go.Proofs.Try.prog w0 52 #[(Go.Value.pointer x0), (Go.Value.string x1)] (fun x'0 h'1 => (∃ p'2 : Option Go.Addr, (∃ i'3 : Int, ((x'0 = (Go.Value.tuple #[(Go.Value.pointer p'2), (Go.Value.int .i64 i'3)])) ∧ (brB (i'3 != (0 : Int)) (K (Go.Value.tuple #[(Go.Value.int .i64 (0 : Int)), (Go.Value.int .i64 i'3)]) h'1) (∃ a'4 : Go.Addr, ((p'2 = (some a'4)) ∧ (∃ p'5 : Option Go.Addr, (∃ n'6 : Nat, (∃ n'7 : Nat, (((Go.G.cellA w0 h'1 (Go.Addr.add a'4 0)) = (some (Go.Value.slice p'5 n'6 n'7))) ∧ (K (Go.Value.tuple #[(Go.Value.int .i64 ((n'6 : Nat) : Int)), (Go.Value.int .i64 (0 : Int))]) h'1)))))))))))) h)) :
  EvC Go.Proofs.Try.prog w0 22 ([(.pointer x0), (.string x1)]).toArray K h := EvC_intro (P := Go.Proofs.Try.prog) f22_J (Eq.mp (by kernel_rfl) hv)
def f21_J : Nat → List Nat × Nat := jOf []



theorem f21_go {w0 : World} {K : Value → AH → Prop} (x0 : Option Go.Addr) (x1 : ByteArray) (h : AH)
  (hv : (EvC Go.Proofs.Try.prog w0 52 #[(Go.Value.pointer x0), (Go.Value.string x1)] (fun x'0 h'1 => (∃ p'2 : Option Go.Addr, (∃ i'3 : Int, ((x'0 = (Go.Value.tuple #[(Go.Value.pointer p'2), (Go.Value.int .i64 i'3)])) ∧ (brB (i'3 != (0 : Int)) (K (Go.Value.tuple #[(Go.Value.slice none 0 0), (Go.Value.int .i64 i'3)]) h'1) (∃ a'4 : Go.Addr, ((p'2 = (some a'4)) ∧ (∃ p'5 : Option Go.Addr, (∃ n'6 : Nat, (∃ n'7 : Nat, (((Go.G.cellA w0 h'1 (Go.Addr.add a'4 0)) = (some (Go.Value.slice p'5 n'6 n'7))) ∧ (rowsOf w0 h'1 1 p'5 n'6 (fun ys'8 => (App w0 h'1 1 1 none 0 0 n'6 ys'8 (fun a'9 c'10 h'11 => (K (Go.Value.tuple #[(Go.Value.slice a'9 (0 + n'6) c'10), (Go.Value.int .i64 (0 : Int))]) h'11)))))))))))))))) h)) :
  EvC Go.Proofs.Try.prog w0 21 ([(.pointer x0), (.string x1)]).toArray K h := EvC_intro (P := Go.Proofs.Try.prog) f21_J (Eq.mp (by kernel_rfl) hv)
def f23_J : Nat → List Nat × Nat := jOf [(5, [0, 1, 4, 5, 6, 7, 8, 9, 11, 12, 13, 14, 15, 16, 17, 18, 19, 20, 21, 23, 24, 25, 26, 27, 28, 29, 30, 31, 32, 33, 34, 35, 36, 37, 38, 39, 40, 41, 42, 43, 44, 45, 46, 47, 48, 49, 50, 51, 52, 53, 54, 55, 56, 57], 0), (7, [0, 1, 4, 5, 6, 7, 8, 9, 11, 12, 13, 14, 15, 16, 17, 18, 19, 20, 21, 22, 23, 24, 25, 26, 27, 28, 30, 31, 32, 33, 34, 35, 36, 37, 38, 39, 40, 41, 42, 43, 44, 45, 46, 47, 48, 49, 50, 51, 52, 53, 54, 55, 56, 57], 0)]

def f23_5 (w0 : World) (K : Value → AH → Prop) (x2 : Int) (x3 : Int) (x10 : Option Go.Addr) (x22 : Bool) (h : AH) : Prop :=
  ∀ j : Nat → Value, LPk Go.Proofs.Try.prog w0 (EvC Go.Proofs.Try.prog w0) f23_J 23 K 5 [.v (j 0), .v (j 1), .v (.int .i64 x2), .v (.int .i64 x3), .v (j 4), .v (j 5), .v (j 6), .v (j 7), .v (j 8), .v (j 9), .v (.pointer x10), .v (j 11), .v (j 12), .v (j 13), .v (j 14), .v (j 15), .v (j 16), .v (j 17), .v (j 18), .v (j 19), .v (j 20), .v (j 21), .v (.bool x22), .v (j 23), .v (j 24), .v (j 25), .v (j 26), .v (j 27), .v (j 28), .v (j 29), .v (j 30), .v (j 31), .v (j 32), .v (j 33), .v (j 34), .v (j 35), .v (j 36), .v (j 37), .v (j 38), .v (j 39), .v (j 40), .v (j 41), .v (j 42), .v (j 43), .v (j 44), .v (j 45), .v (j 46), .v (j 47), .v (j 48), .v (j 49), .v (j 50), .v (j 51), .v (j 52), .v (j 53), .v (j 54), .v (j 55), .v (j 56), .v (j 57)] [] h

def f23_7 (w0 : World) (K : Value → AH → Prop) (x2 : Int) (x3 : Int) (x10 : Option Go.Addr) (x29 : Bool) (h : AH) : Prop :=
  ∀ j : Nat → Value, LPk Go.Proofs.Try.prog w0 (EvC Go.Proofs.Try.prog w0) f23_J 23 K 7 [.v (j 0), .v (j 1), .v (.int .i64 x2), .v (.int .i64 x3), .v (j 4), .v (j 5), .v (j 6), .v (j 7), .v (j 8), .v (j 9), .v (.pointer x10), .v (j 11), .v (j 12), .v (j 13), .v (j 14), .v (j 15), .v (j 16), .v (j 17), .v (j 18), .v (j 19), .v (j 20), .v (j 21), .v (j 22), .v (j 23), .v (j 24), .v (j 25), .v (j 26), .v (j 27), .v (j 28), .v (.bool x29), .v (j 30), .v (j 31), .v (j 32), .v (j 33), .v (j 34), .v (j 35), .v (j 36), .v (j 37), .v (j 38), .v (j 39), .v (j 40), .v (j 41), .v (j 42), .v (j 43), .v (j 44), .v (j 45), .v (j 46), .v (j 47), .v (j 48), .v (j 49), .v (j 50), .v (j 51), .v (j 52), .v (j 53), .v (j 54), .v (j 55), .v (j 56), .v (j 57)] [] h

theorem f23_5_in {w0 : World} {K : Value → AH → Prop} (x2 : Int) (x3 : Int) (x10 : Option Go.Addr) (x22 : Bool) (h : AH)
  (hv : (brB x22 (K (Go.Value.tuple #[(Go.Value.slice none 0 0), (Go.Value.int .i64 (1 : Int))]) h) (∃ a'4 : Go.Addr, ((x10 = (some a'4)) ∧ (∃ p'5 : Option Go.Addr, (∃ n'6 : Nat, (∃ n'7 : Nat, (((Go.G.cellA w0 h (Go.Addr.add a'4 0)) = (some (Go.Value.slice p'5 n'6 n'7))) ∧ (brB (decide ((((n'6 : Nat) : Int) < x2))) (f23_7 w0 K x2 x3 x10 true h) (∃ a'8 : Go.Addr, ((x10 = (some a'8)) ∧ (∃ p'9 : Option Go.Addr, (∃ n'10 : Nat, (∃ n'11 : Nat, (((Go.G.cellA w0 h (Go.Addr.add a'8 0)) = (some (Go.Value.slice p'9 n'10 n'11))) ∧ (f23_7 w0 K x2 x3 x10 (decide (((Go.IntKind.wrap .i64 (((n'10 : Nat) : Int) - x2)) < x3))) h)))))))))))))))) :
  f23_5 w0 K x2 x3 x10 x22 h := fun j => LP_intro (P := Go.Proofs.Try.prog) (Eq.mp (by kernel_rfl) hv)

theorem f23_7_in {w0 : World} {K : Value → AH → Prop} (x2 : Int) (x3 : Int) (x10 : Option Go.Addr) (x29 : Bool) (h : AH)
  (hv : (brB x29 (K (Go.Value.tuple #[(Go.Value.slice none 0 0), (Go.Value.int .i64 (5 : Int))]) h) (∃ a'12 : Go.Addr, ((x10 = (some a'12)) ∧ (∃ p'13 : Option Go.Addr, (∃ n'14 : Nat, (∃ n'15 : Nat, (((Go.G.cellA w0 h (Go.Addr.add a'12 0)) = (some (Go.Value.slice p'13 n'14 n'15))) ∧ (((0 : Int) ≤ x2) ∧ ((x2 ≤ (Go.IntKind.wrap .i64 (x2 + x3))) ∧ (((Go.IntKind.wrap .i64 (x2 + x3)) ≤ ((n'15 : Nat) : Int)) ∧ (rowsOf w0 h 1 (Go.G.cutA 1 p'13 n'15 (Int.toNat x2)) ((Int.toNat (Go.IntKind.wrap .i64 (x2 + x3))) - (Int.toNat x2)) (fun ys'16 => (App w0 h 1 1 none 0 0 ((Int.toNat (Go.IntKind.wrap .i64 (x2 + x3))) - (Int.toNat x2)) ys'16 (fun a'17 c'18 h'19 => (K (Go.Value.tuple #[(Go.Value.slice a'17 (0 + ((Int.toNat (Go.IntKind.wrap .i64 (x2 + x3))) - (Int.toNat x2))) c'18), (Go.Value.int .i64 (0 : Int))]) h'19)))))))))))))))) :
  f23_7 w0 K x2 x3 x10 x29 h := fun j => LP_intro (P := Go.Proofs.Try.prog) (Eq.mp (by kernel_rfl) hv)

theorem f23_go {w0 : World} {K : Value → AH → Prop} (x0 : Option Go.Addr) (x1 : ByteArray) (x2 : Int) (x3 : Int) (h : AH)
  (hv : (EvC Go.Proofs.Try.prog w0 52 #[(Go.Value.pointer x0), (Go.Value.string x1)] (fun x'0 h'1 => (∃ p'2 : Option Go.Addr, (∃ i'3 : Int, ((x'0 = (Go.Value.tuple #[(Go.Value.pointer p'2), (Go.Value.int .i64 i'3)])) ∧ (brB (i'3 != (0 : Int)) (K (Go.Value.tuple #[(Go.Value.slice none 0 0), (Go.Value.int .i64 i'3)]) h'1) (brB (decide ((x2 < (0 : Int)))) (f23_5 w0 K x2 x3 p'2 true h'1) (f23_5 w0 K x2 x3 p'2 (decide ((x3 < (0 : Int)))) h'1))))))) h)) :
  EvC Go.Proofs.Try.prog w0 23 ([(.pointer x0), (.string x1), (.int .i64 x2), (.int .i64 x3)]).toArray K h := EvC_intro (P := Go.Proofs.Try.prog) f23_J (Eq.mp (by kernel_rfl) hv)
/-- What is read of a name. -/
def lookS (n : ByteArray) (s : Ds) : Int × Option Nat := if s.off then (10, none) else match findD n s.dir with | none => (7, none) | some i => (0, some i)
/-- look. -/
theorem f52_spec {w0 : World} {K : Value → AH → Prop} {h : AH} {B : List (Nat × AB)} {s : Ds} {D : PD} {n : ByteArray} (r : PRep s D) (w : Own w0 h (D.blocks s ++ B))
    (hk : K (.tuple #[.pointer (match (lookS n s).2 with | none => none | some i => ptrF D.F i), .int .i64 (lookS n s).1]) h) : EvC Go.Proofs.Try.prog w0 52 #[.pointer (some ⟨D.bd, 0, none⟩), .string n] K h := by
  have wf := w
  rw [PD.flat] at wf
  have hm : (D.md, AB.map (mapC D.F D.ed)) ∈ (D.bd, AB.cells (pcells s D) 9) :: (D.md, .map (mapC D.F D.ed)) :: (D.ms, .map (mapC D.F D.es)) :: (slB D.ra (rowC D.F D.row) (D.rc * 3) ++ (fobs D.F ++ B)) := List.mem_cons_of_mem _ (List.mem_cons_self ..)
  refine f52_go _ _ _ (brB_of (fun q => by cases q) fun _ => ⟨_, rfl, _, wf.cell0 rfl, brB_of (fun q => ?_) fun q => ⟨_, rfl, _, wf.cell0 rfl, by kernel_rfl, mapAt_D wf hm ?_⟩⟩)
  · have e : lookS n s = (10, none) := by unfold lookS; rw [if_pos q]
    rw [e] at hk; exact hk
  rw [r.find]
  cases hf : findD n s.dir with
  | none =>
    have e : lookS n s = (7, none) := by unfold lookS; rw [if_neg (by simp [q]), hf]
    rw [e] at hk
    exact ⟨none, rfl, brB_of (fun _ => hk) fun q => by cases q⟩
  | some i =>
    have e : lookS n s = (0, some i) := by unfold lookS; rw [if_neg (by simp [q]), hf]
    rw [e] at hk
    refine ⟨_, rfl, brB_of (fun q => by cases q) fun _ => ⟨_, rfl, _, wf.cell0 rfl, by kernel_rfl, mapAt_D wf hm ?_⟩⟩
    rw [r.find, hf]
    exact ⟨_, rfl, hk⟩
def dataAt (fs : List Fl) (i : Nat) : List UInt8 := ((fs[i]?).map Fl.data).getD []
def readS (n : ByteArray) (s : Ds) : Int × List UInt8 := ((lookS n s).1, match (lookS n s).2 with | none => [] | some i => dataAt s.fs i)
theorem look_file {s : Ds} {D : PD} {n : ByteArray} (r : PRep s D) : (∃ e, e ≠ 0 ∧ lookS n s = (e, none)) ∨ ∃ i f, lookS n s = (0, some i) ∧ findD n s.dir = some i ∧ D.F[i]? = some f ∧ dataAt s.fs i = f.data := by
  unfold lookS
  split
  · exact .inl ⟨10, by decide, rfl⟩
  · cases hf : findD n s.dir with
    | none => exact .inl ⟨7, by decide, rfl⟩
    | some i =>
      have hid := (r.ok.dir.ids _ (findD_mem hf)).1
      have hfl : i < D.F.length := by rw [r.len]; exact hid
      refine .inr ⟨i, D.F[i], rfl, rfl, List.getElem?_eq_getElem hfl, ?_⟩
      unfold dataAt
      rw [← r.fs, List.getElem?_map, List.getElem?_eq_getElem hfl]
      rfl
/-- A file's bytes are readable. -/
theorem file_rd {w0 : World} {h : AH} {B : List (Nat × AB)} {s : Ds} {D : PD} {i : Nat} {f : FO} (r : PRep s D) (w : Own w0 h (D.blocks s ++ B)) (hi : D.F[i]? = some f) : Rd w0 h f.a (u8s f.data) := by
  have hfv : SlV 1 f.a f.data.length f.c (u8s f.data) := r.fv _ (List.mem_of_getElem? hi)
  have wf := w
  rw [PD.flat, fobs_split hi] at wf
  refine hfv.rd (cs := (D.bd, .cells (pcells s D) 9) :: (D.md, .map (mapC D.F D.ed)) :: (D.ms, .map (mapC D.F D.es)) :: (slB D.ra (rowC D.F D.row) (D.rc * 3) ++ (fobs (D.F.take i) ++ [(f.b, .cells f.cells 2)]))) (bs := fobs (D.F.drop (i + 1)) ++ B) ?_
  simpa only [FO.blocks, List.cons_append, List.append_assoc, List.nil_append] using wf

/-- Read. -/
theorem f21_spec {w0 : World} {K : Value → AH → Prop} {h : AH} {B : List (Nat × AB)} {s : Ds} {D : PD} {n : ByteArray} (r : PRep s D) (w : Own w0 h (D.blocks s ++ B))
    (hk : ∀ h' a c, SlV 1 a (readS n s).2.length c (u8s (readS n s).2) → Own w0 h' (slB a (u8s (readS n s).2) (c * 1) ++ (D.blocks s ++ B)) → K (.tuple #[.slice a (readS n s).2.length c, .int .i64 (readS n s).1]) h') :
    EvC Go.Proofs.Try.prog w0 21 #[.pointer (some ⟨D.bd, 0, none⟩), .string n] K h := by
  refine f21_go _ _ _ (f52_spec r w ?_)
  rcases look_file (n := n) r with ⟨e, he, hl⟩ | ⟨i, f, hl, _, hi, hd⟩
  · unfold readS at hk
    rw [hl] at hk ⊢
    exact ⟨_, _, rfl, brB_of (fun _ => hk h none 0 SlV.nil w) fun q => by simp [he] at q⟩
  · unfold readS at hk
    rw [hl] at hk ⊢
    dsimp only at hk ⊢
    rw [hd] at hk
    have hmem : ∀ p ∈ fobs D.F, p ∈ D.blocks s ++ B := fun p hp => by rw [PD.flat]; simp [hp]
    obtain ⟨hp, c0, _⟩ := file_cells w hmem hi
    have hle : f.data.length ≤ 4194304 := by have := lenAt_le r.ok i; rw [lenAt_abs r.fs hi] at this; exact this
    refine ⟨_, _, rfl, brB_of (fun q => by cases q) fun _ => ⟨_, hp, _, _, _, c0, rowsOf_of (file_rd r w hi) (by rw [u8s_length, Nat.mul_one]) (App_new w (by omega) (by omega) (by rw [u8s_length, Nat.mul_one]) (u8s_cell _) fun a' c' h' v w' => ?_)⟩⟩
    rw [Nat.zero_add]
    exact hk h' a' c' v w'
/-- Size. -/
theorem f22_spec {w0 : World} {K : Value → AH → Prop} {h : AH} {B : List (Nat × AB)} {s : Ds} {D : PD} {n : ByteArray} (r : PRep s D) (w : Own w0 h (D.blocks s ++ B))
    (hk : K (.tuple #[.int .i64 (((readS n s).2.length : Nat) : Int), .int .i64 (readS n s).1]) h) :
    EvC Go.Proofs.Try.prog w0 22 #[.pointer (some ⟨D.bd, 0, none⟩), .string n] K h := by
  refine f22_go _ _ _ (f52_spec r w ?_)
  rcases look_file (n := n) r with ⟨e, he, hl⟩ | ⟨i, f, hl, _, hi, hd⟩
  · unfold readS at hk
    rw [hl] at hk ⊢
    exact ⟨_, _, rfl, brB_of (fun _ => hk) fun q => by simp [he] at q⟩
  · unfold readS at hk
    rw [hl] at hk ⊢
    dsimp only at hk ⊢
    rw [hd] at hk
    have hmem : ∀ p ∈ fobs D.F, p ∈ D.blocks s ++ B := fun p hp => by rw [PD.flat]; simp [hp]
    obtain ⟨hp, c0, _⟩ := file_cells w hmem hi
    exact ⟨_, _, rfl, brB_of (fun q => by cases q) fun _ => ⟨_, hp, _, _, _, c0, hk⟩⟩
/-- ReadAt. -/
def readAtS (n : ByteArray) (at' k : Int) (s : Ds) : Int × List UInt8 :=
  if (readS n s).1 ≠ 0 then ((readS n s).1, []) else if at' < 0 ∨ k < 0 then (1, []) else if ((readS n s).2.length : Int) < at' ∨ ((readS n s).2.length : Int) - at' < k then (5, [])
  else (0, ((readS n s).2.drop at'.toNat).take k.toNat)
theorem f23_spec {w0 : World} {K : Value → AH → Prop} {h : AH} {B : List (Nat × AB)} {s : Ds} {D : PD} {n : ByteArray} {at' k : Int} (r : PRep s D) (w : Own w0 h (D.blocks s ++ B)) (ha : -9223372036854775808 ≤ at' ∧ at' ≤ 9223372036854775807) (hkk : k ≤ 9223372036854775807)
    (hk : ∀ h' a c, SlV 1 a (readAtS n at' k s).2.length c (u8s (readAtS n at' k s).2) → Own w0 h' (slB a (u8s (readAtS n at' k s).2) (c * 1) ++ (D.blocks s ++ B)) → K (.tuple #[.slice a (readAtS n at' k s).2.length c, .int .i64 (readAtS n at' k s).1]) h') :
    EvC Go.Proofs.Try.prog w0 23 #[.pointer (some ⟨D.bd, 0, none⟩), .string n, .int .i64 at', .int .i64 k] K h := by
  refine f23_go _ _ _ _ _ (f52_spec r w ?_)
  rcases look_file (n := n) r with ⟨e, he, hl⟩ | ⟨i, f, hl, _, hi, hd⟩
  · unfold readAtS readS at hk
    rw [hl] at hk ⊢
    rw [if_pos he] at hk
    exact ⟨_, _, rfl, brB_of (fun _ => hk h none 0 SlV.nil w) fun q => by simp [he] at q⟩
  · have hrs : readS n s = (0, f.data) := by unfold readS; rw [hl]; dsimp only; rw [hd]
    unfold readAtS at hk
    rw [hrs] at hk
    rw [if_neg (by simp)] at hk
    rw [hl]
    have hmem : ∀ p ∈ fobs D.F, p ∈ D.blocks s ++ B := fun p hp => by rw [PD.flat]; simp [hp]
    obtain ⟨hp, c0, _⟩ := file_cells w hmem hi
    have hle : f.data.length ≤ 4194304 := by have := lenAt_le r.ok i; rw [lenAt_abs r.fs hi] at this; exact this
    have rd := file_rd r w hi
    have seven : ∀ x, ¬ (at' < 0 ∨ k < 0) → x = decide ((f.data.length : Int) < at' ∨ (f.data.length : Int) - at' < k) → f23_7 w0 K at' k (ptrF D.F i) x h := fun x hn hx => by
      rw [if_neg hn] at hk
      refine f23_7_in _ _ _ _ _ (brB_of (fun q => ?_) fun q => ?_)
      · rw [hx] at q
        rw [if_pos (by simpa using q)] at hk
        exact hk h none 0 SlV.nil w
      · rw [hx] at q
        have q' : ¬ ((f.data.length : Int) < at' ∨ (f.data.length : Int) - at' < k) := of_decide_eq_false q
        rw [if_neg q'] at hk
        have hfv : SlV 1 f.a f.data.length f.c (u8s f.data) := r.fv _ (List.mem_of_getElem? hi)
        have hcap := hfv.2.1
        obtain ⟨x, rfl⟩ : ∃ x : Nat, at' = (x : Int) := ⟨at'.toNat, by omega⟩
        obtain ⟨y, rfl⟩ : ∃ y : Nat, k = (y : Int) := ⟨k.toNat, by omega⟩
        simp only [Int.toNat_natCast] at hk
        have e1 : IntKind.i64.wrap (((x : Nat) : Int) + ((y : Nat) : Int)) = ((x + y : Nat) : Int) := by rw [wrap64 (by omega) (by omega)]; omega
        refine ⟨_, hp, _, _, _, c0, by omega, ?_⟩
        rw [e1]
        simp only [Int.toNat_natCast]
        have e2 : x + y - x = y := by omega
        rw [e2]
        have hxl : x ≤ f.data.length := by omega
        have hyl : y ≤ (f.data.drop x).length := by rw [List.length_drop]; omega
        have rd2 : Rd w0 h (cutA 1 f.a f.c x) (u8s ((f.data.drop x).take y)) := by
          have e3 : u8s f.data = u8s (f.data.take x) ++ u8s (f.data.drop x) := by unfold u8s; rw [← List.map_append, List.take_append_drop]
          rw [e3] at rd
          have := rd.cut (c := f.c) (k := x) (e := 1) (by rw [u8s_length, List.length_take]; omega) (fun hne e => by
            have : x = f.data.length := by omega
            rw [this, List.drop_length] at hne
            exact hne rfl)
          have e4 : u8s (f.data.drop x) = u8s ((f.data.drop x).take y) ++ u8s ((f.data.drop x).drop y) := by unfold u8s; rw [← List.map_append, List.take_append_drop]
          rw [e4] at this
          exact this.front
        have hlen : ((f.data.drop x).take y).length = y := by rw [List.length_take]; omega
        refine ⟨by omega, by omega, rowsOf_of rd2 (by rw [u8s_length, hlen, Nat.mul_one]) (App_new w (by omega) (by omega) (by rw [u8s_length, hlen, Nat.mul_one]) (u8s_cell _) fun a' c' h' v w' => ?_)⟩
        rw [Nat.zero_add]
        rw [hlen] at hk
        exact hk h' a' c' v w'
    have five : ∀ x, x = decide (at' < 0 ∨ k < 0) → f23_5 w0 K at' k (ptrF D.F i) x h := fun x hx => by
      refine f23_5_in _ _ _ _ _ (brB_of (fun q => ?_) fun q => ⟨_, hp, _, _, _, c0, ?_⟩)
      · rw [hx] at q
        rw [if_pos (by simpa using q)] at hk
        exact hk h none 0 SlV.nil w
      · rw [hx] at q
        have hn : ¬ (at' < 0 ∨ k < 0) := of_decide_eq_false q
        refine brB_of (fun q2 => seven _ hn ?_) fun q2 => ⟨_, hp, _, _, _, c0, seven _ hn ?_⟩
        · simp at q2; simp [q2]
        · simp at q2
          rw [wrap64 (by omega) (by omega), decide_eq_decide]
          omega
    refine ⟨_, _, rfl, brB_of (fun q => by cases q) fun _ => brB_of (fun q => five _ ?_) fun q => five _ ?_⟩
    · simp at q; simp [q]
    · simp at q
      rw [decide_eq_decide]; omega
end Go.G.Ytpjklfmfgmicaaa
