/- Rename, Remove, Spoil, List of the program's disk. -/
import Derived.Test.YtpjklfmfgmicaaaDQ
import Derived.Test.YtpjklfmfgmicaaaProg
set_option maxRecDepth 100000
namespace Go.G.Ytpjklfmfgmicaaa
open Go.RowKit
def f31_J : Nat → List Nat × Nat := jOf []



theorem f31_go {w0 : World} {K : Value → AH → Prop} (x0 : Option Go.Addr) (x1 : ByteArray) (x2 : ByteArray) (h : AH)
  (hv : (brB (Option.isNone x0) (K (Go.Value.int .i64 (1 : Int)) h) (EvC Go.Proofs.Try.prog w0 41 #[(Go.Value.pointer x0)] (fun x'0 h'1 => (∃ i'2 : Int, (∃ t'3 : Bool, ((x'0 = (Go.Value.tuple #[(Go.Value.int .i64 i'2), (Go.Value.bool t'3)])) ∧ (brB (i'2 != (0 : Int)) (K (Go.Value.int .i64 i'2) h'1) (∃ a'4 : Go.Addr, ((x0 = (some a'4)) ∧ (∃ p'5 : Option Nat, (((Go.G.cellA w0 h'1 (Go.Addr.add a'4 1)) = (some (Go.Value.map p'5))) ∧ (((Go.G.plainKey Go.Proofs.Try.prog 65 (Go.Value.string x1)) = true) ∧ (mapAt Go.Proofs.Try.prog w0 h'1 p'5 65 (fun es'6 => (∃ p'7 : Option Go.Addr, (((Go.Value.pointer p'7) = (Option.getD (Go.G.getM (Go.Value.string x1) es'6) (Go.Value.pointer none))) ∧ (brB (Option.isNone p'7) (EvC Go.Proofs.Try.prog w0 43 #[(Go.Value.bool t'3), (Go.Value.int .i64 (7 : Int))] (fun x'8 h'9 => (∃ i'10 : Int, ((x'8 = (Go.Value.int .i64 i'10)) ∧ (K (Go.Value.int .i64 i'10) h'9)))) h'1) (EvC Go.Proofs.Try.prog w0 42 #[(Go.Value.string x2)] (fun x'11 h'12 => (∃ t'13 : Bool, ((x'11 = (Go.Value.bool t'13)) ∧ (brB (!t'13) (EvC Go.Proofs.Try.prog w0 43 #[(Go.Value.bool t'3), (Go.Value.int .i64 (15 : Int))] (fun x'14 h'15 => (∃ i'16 : Int, ((x'14 = (Go.Value.int .i64 i'16)) ∧ (K (Go.Value.int .i64 i'16) h'15)))) h'12) (brB (!(decide ((x1 = x2)))) (EvC Go.Proofs.Try.prog w0 44 #[(Go.Value.pointer x0), (Go.Value.agg #[(Go.Value.string x1), (Go.Value.string x2), (Go.Value.pointer p'7)])] (fun x'17 h'18 => ((x'17 = (Go.Value.tuple #[])) ∧ (EvC Go.Proofs.Try.prog w0 45 #[(Go.Value.bool t'3)] (fun x'19 h'20 => (∃ i'21 : Int, ((x'19 = (Go.Value.int .i64 i'21)) ∧ (K (Go.Value.int .i64 i'21) h'20)))) h'18))) h'12) (EvC Go.Proofs.Try.prog w0 45 #[(Go.Value.bool t'3)] (fun x'22 h'23 => (∃ i'24 : Int, ((x'22 = (Go.Value.int .i64 i'24)) ∧ (K (Go.Value.int .i64 i'24) h'23)))) h'12)))))) h'1)))))))))))))))) h))) :
  EvC Go.Proofs.Try.prog w0 31 ([(.pointer x0), (.string x1), (.string x2)]).toArray K h := EvC_intro (P := Go.Proofs.Try.prog) f31_J (Eq.mp (by kernel_rfl) hv)
def f58_J : Nat → List Nat × Nat := jOf []



theorem f58_go {w0 : World} {K : Value → AH → Prop} (x0 : Option Go.Addr) (x1 : ByteArray) (h : AH)
  (hv : (brB (Option.isNone x0) (K (Go.Value.int .i64 (1 : Int)) h) (EvC Go.Proofs.Try.prog w0 41 #[(Go.Value.pointer x0)] (fun x'0 h'1 => (∃ i'2 : Int, (∃ t'3 : Bool, ((x'0 = (Go.Value.tuple #[(Go.Value.int .i64 i'2), (Go.Value.bool t'3)])) ∧ (brB (i'2 != (0 : Int)) (K (Go.Value.int .i64 i'2) h'1) (∃ a'4 : Go.Addr, ((x0 = (some a'4)) ∧ (∃ p'5 : Option Nat, (((Go.G.cellA w0 h'1 (Go.Addr.add a'4 1)) = (some (Go.Value.map p'5))) ∧ (((Go.G.plainKey Go.Proofs.Try.prog 65 (Go.Value.string x1)) = true) ∧ (mapAt Go.Proofs.Try.prog w0 h'1 p'5 65 (fun es'6 => (∃ p'7 : Option Go.Addr, (((Go.Value.pointer p'7) = (Option.getD (Go.G.getM (Go.Value.string x1) es'6) (Go.Value.pointer none))) ∧ (brB (Option.isNone p'7) (EvC Go.Proofs.Try.prog w0 43 #[(Go.Value.bool t'3), (Go.Value.int .i64 (7 : Int))] (fun x'8 h'9 => (∃ i'10 : Int, ((x'8 = (Go.Value.int .i64 i'10)) ∧ (K (Go.Value.int .i64 i'10) h'9)))) h'1) (EvC Go.Proofs.Try.prog w0 44 #[(Go.Value.pointer x0), (Go.Value.agg #[(Go.Value.string x1), (Go.Value.string (ByteArray.mk #[])), (Go.Value.pointer none)])] (fun x'11 h'12 => ((x'11 = (Go.Value.tuple #[])) ∧ (EvC Go.Proofs.Try.prog w0 45 #[(Go.Value.bool t'3)] (fun x'13 h'14 => (∃ i'15 : Int, ((x'13 = (Go.Value.int .i64 i'15)) ∧ (K (Go.Value.int .i64 i'15) h'14)))) h'12))) h'1)))))))))))))))) h))) :
  EvC Go.Proofs.Try.prog w0 58 ([(.pointer x0), (.string x1)]).toArray K h := EvC_intro (P := Go.Proofs.Try.prog) f58_J (Eq.mp (by kernel_rfl) hv)
def f40_J : Nat → List Nat × Nat := jOf [(3, [0, 1, 4, 5, 6, 7, 8, 10, 11, 12, 13, 14, 15, 16, 17, 18, 19, 20, 21, 22, 23, 24, 25, 26, 27, 28, 29, 30, 32, 33, 34, 35, 36, 37, 38], 0)]

def f40_3 (w0 : World) (K : Value → AH → Prop) (x2 : Int) (x3 : Int) (x9 : Option Go.Addr) (x31 : Bool) (h : AH) : Prop :=
  ∀ j : Nat → Value, LPk Go.Proofs.Try.prog w0 (EvC Go.Proofs.Try.prog w0) f40_J 40 K 3 [.v (j 0), .v (j 1), .v (.int .i64 x2), .v (.int .u8 x3), .v (j 4), .v (j 5), .v (j 6), .v (j 7), .v (j 8), .v (.pointer x9), .v (j 10), .v (j 11), .v (j 12), .v (j 13), .v (j 14), .v (j 15), .v (j 16), .v (j 17), .v (j 18), .v (j 19), .v (j 20), .v (j 21), .v (j 22), .v (j 23), .v (j 24), .v (j 25), .v (j 26), .v (j 27), .v (j 28), .v (j 29), .v (j 30), .v (.bool x31), .v (j 32), .v (j 33), .v (j 34), .v (j 35), .v (j 36), .v (j 37), .v (j 38)] [] h

theorem f40_3_in {w0 : World} {K : Value → AH → Prop} (x2 : Int) (x3 : Int) (x9 : Option Go.Addr) (x31 : Bool) (h : AH)
  (hv : (brB x31 (K (Go.Value.bool false) h) (∃ a'8 : Go.Addr, ((x9 = (some a'8)) ∧ (∃ p'9 : Option Go.Addr, (∃ n'10 : Nat, (∃ n'11 : Nat, (((Go.G.cellA w0 h (Go.Addr.add a'8 0)) = (some (Go.Value.slice p'9 n'10 n'11))) ∧ (∃ a'12 : Go.Addr, ((p'9 = (some a'12)) ∧ (((0 : Int) ≤ x2) ∧ ((x2 < ((n'10 : Nat) : Int)) ∧ (∃ l'13 : List Go.Value, (∃ n'14 : Nat, (((Array.size (Go.World.heap w0)) ≤ (Go.Addr.block (Go.Addr.add a'12 ((Int.toNat x2) * 1)))) ∧ (((Go.Addr.spot (Go.Addr.add a'12 ((Int.toNat x2) * 1))) = none) ∧ (((h (Go.Addr.block (Go.Addr.add a'12 ((Int.toNat x2) * 1)))) = (some (Go.G.AB.cells l'13 n'14))) ∧ ((((Go.Addr.off (Go.Addr.add a'12 ((Int.toNat x2) * 1))) + (Array.size #[(Go.Value.int .u8 x3)])) ≤ (List.length l'13)) ∧ (K (Go.Value.bool true) (Go.G.AH.put h (Go.Addr.block (Go.Addr.add a'12 ((Int.toNat x2) * 1))) (Go.G.AB.cells (Go.G.setCells l'13 (Go.Addr.off (Go.Addr.add a'12 ((Int.toNat x2) * 1))) [(Go.Value.int .u8 x3)]) n'14))))))))))))))))))))) :
  f40_3 w0 K x2 x3 x9 x31 h := fun j => LP_intro (P := Go.Proofs.Try.prog) (Eq.mp (by kernel_rfl) hv)

theorem f40_go {w0 : World} {K : Value → AH → Prop} (x0 : Option Go.Addr) (x1 : ByteArray) (x2 : Int) (x3 : Int) (h : AH)
  (hv : (EvC Go.Proofs.Try.prog w0 52 #[(Go.Value.pointer x0), (Go.Value.string x1)] (fun x'0 h'1 => (∃ p'2 : Option Go.Addr, (∃ i'3 : Int, ((x'0 = (Go.Value.tuple #[(Go.Value.pointer p'2), (Go.Value.int .i64 i'3)])) ∧ (brB (i'3 != (0 : Int)) (f40_3 w0 K x2 x3 p'2 true h'1) (brB (decide ((x2 < (0 : Int)))) (f40_3 w0 K x2 x3 p'2 true h'1) (∃ a'4 : Go.Addr, ((p'2 = (some a'4)) ∧ (∃ p'5 : Option Go.Addr, (∃ n'6 : Nat, (∃ n'7 : Nat, (((Go.G.cellA w0 h'1 (Go.Addr.add a'4 0)) = (some (Go.Value.slice p'5 n'6 n'7))) ∧ (f40_3 w0 K x2 x3 p'2 (decide ((((n'6 : Nat) : Int) ≤ x2))) h'1))))))))))))) h)) :
  EvC Go.Proofs.Try.prog w0 40 ([(.pointer x0), (.string x1), (.int .i64 x2), (.int .u8 x3)]).toArray K h := EvC_intro (P := Go.Proofs.Try.prog) f40_J (Eq.mp (by kernel_rfl) hv)
def f38_J : Nat → List Nat × Nat := jOf [(2, [1, 2, 3, 4, 5, 6, 7, 8, 9, 11, 12, 13, 14, 15, 16], 0)]

def f38_2 (w0 : World) (K : Value → AH → Prop) (x0 : Option Go.Addr) (x10 : Bool) (h : AH) : Prop :=
  ∀ j : Nat → Value, LPk Go.Proofs.Try.prog w0 (EvC Go.Proofs.Try.prog w0) f38_J 38 K 2 [.v (.pointer x0), .v (j 1), .v (j 2), .v (j 3), .v (j 4), .v (j 5), .v (j 6), .v (j 7), .v (j 8), .v (j 9), .v (.bool x10), .v (j 11), .v (j 12), .v (j 13), .v (j 14), .v (j 15), .v (j 16)] [] h

theorem f38_2_in {w0 : World} {K : Value → AH → Prop} (x0 : Option Go.Addr) (x10 : Bool) (h : AH)
  (hv : (brB x10 (K (Go.Value.slice none 0 0) h) (∃ a'2 : Go.Addr, ((x0 = (some a'2)) ∧ (∃ p'3 : Option Nat, (((Go.G.cellA w0 h (Go.Addr.add a'2 1)) = (some (Go.Value.map p'3))) ∧ (EvC Go.Proofs.Try.prog w0 57 #[(Go.Value.map p'3)] (fun x'4 h'5 => (∃ v'6 : Go.Value, ((x'4 = v'6) ∧ (EvC Go.Proofs.Try.prog w0 56 #[v'6] (fun x'7 h'8 => (∃ p'9 : Option Go.Addr, (∃ n'10 : Nat, (∃ n'11 : Nat, ((x'7 = (Go.Value.slice p'9 n'10 n'11)) ∧ (K (Go.Value.slice p'9 n'10 n'11) h'8)))))) h'5)))) h))))))) :
  f38_2 w0 K x0 x10 h := fun j => LP_intro (P := Go.Proofs.Try.prog) (Eq.mp (by kernel_rfl) hv)

theorem f38_go {w0 : World} {K : Value → AH → Prop} (x0 : Option Go.Addr) (h : AH)
  (hv : (brB (Option.isNone x0) (f38_2 w0 K x0 true h) (∃ a'0 : Go.Addr, ((x0 = (some a'0)) ∧ (∃ t'1 : Bool, (((Go.G.cellA w0 h (Go.Addr.add a'0 4)) = (some (Go.Value.bool t'1))) ∧ (f38_2 w0 K x0 t'1 h))))))) :
  EvC Go.Proofs.Try.prog w0 38 ([(.pointer x0)]).toArray K h := EvC_intro (P := Go.Proofs.Try.prog) f38_J (Eq.mp (by kernel_rfl) hv)
theorem PRep.blks {s : Ds} {D : PD} (r : PRep s D) : D.F.length = s.fs.length := r.len
/-- A change of the directory, no file being new. -/
theorem f44_rep {w0 : World} {K : Value → AH → Prop} {h : AH} {B : List (Nat × AB)} {s : Ds} {D : PD} {c : Chg} (r : PRep s D) (w : Own w0 h (D.blocks s ++ B)) (hc : s.calls < 1000000000) (ok : (alterS c s).Ok) (hf : ∀ i, c.f = some i → i < s.fs.length)
    (hk : ∀ h' D', D'.bd = D.bd → PRep (alterS c s) D' → Own w0 h' (D'.blocks (alterS c s) ++ B) → K (.tuple #[]) h') : EvC Go.Proofs.Try.prog w0 44 #[.pointer (some ⟨D.bd, 0, none⟩), chgV D.F c] K h := by
  have hrl := r.rowlen
  have wf := w
  rw [PD.flat] at wf
  refine f44_spec wf r.rv (by omega) fun h3 ra' rc' v3 w3 => ?_
  obtain ⟨d0, ewas, hes⟩ := r.wr
  refine hk h3 { D with ra := ra', rc := rc', row := D.row ++ [c], ed := c.playL D.ed } rfl ⟨ok, r.fs, r.fv, v3, fun c' hc' i hi => ?_, playL_perm r.dm r.ok.dir.nd, ⟨d0, ?_, hes⟩, ?_⟩ ?_
  · rcases List.mem_append.1 hc' with hc' | hc'
    · exact r.ri c' hc' i hi
    · rw [List.mem_singleton] at hc'
      subst hc'; exact hf i hi
  · show s.was ++ [c.play s.dir] = _
    have := r.la
    rw [ewas] at this ⊢
    rw [scanC_snoc this]
  · show (s.was ++ [c.play s.dir]).getLast? = some (c.play s.dir)
    simp
  · rw [PD.flat]; exact w3
/-- Rename. -/
theorem f31_spec {w0 : World} {K : Value → AH → Prop} {h : AH} {B : List (Nat × AB)} {s : Ds} {D : PD} {o n : ByteArray} (r : PRep s D) (w : Own w0 h (D.blocks s ++ B)) (hc : s.calls < 100000000)
    (hk : ∀ h' D', D'.bd = D.bd → PRep (renameS o n s).2 D' → Own w0 h' (D'.blocks (renameS o n s).2 ++ B) → K (.int .i64 (renameS o n s).1) h') :
    EvC Go.Proofs.Try.prog w0 31 #[.pointer (some ⟨D.bd, 0, none⟩), .string o, .string n] K h := by
  have ook := renameS_ok r.ok o n
  have e5 := (callS_same s).2.2.2.2
  have r1 := r.call
  refine f31_go _ _ _ _ (brB_of (fun q => by cases q) fun _ => f41_rep r w (by omega) fun h1 w1 => ⟨_, _, rfl, brB_of (fun q => ?_) fun q => ?_⟩)
  · have e : renameS o n s = ((callS s).1, (callS s).2.2) := by unfold renameS; rw [if_pos (by simpa using q)]
    rw [e] at hk
    exact hk h1 D rfl r1 w1
  have q0 : (callS s).1 = 0 := by simpa using q
  have es : renameS o n s = match findD o (callS s).2.2.dir with | none => (endS (callS s).2.1 7, (callS s).2.2) | some i => if nameB n = false then (endS (callS s).2.1 15, (callS s).2.2) else if o = n then (endS (callS s).2.1 0, (callS s).2.2) else (endS (callS s).2.1 0, alterS ⟨o, n, some i⟩ (callS s).2.2) := by
    unfold renameS; rw [if_neg (by simp [q0])]
    cases findD o (callS s).2.2.dir <;> rfl
  rw [es] at hk ook
  generalize (callS s).2.1 = g at hk ook
  generalize (callS s).2.2 = t at hk ook w1 r1 e5
  have wf := w1
  rw [PD.flat] at wf
  refine ⟨_, rfl, _, wf.cell0 rfl, by kernel_rfl, mapAt_D wf (List.mem_cons_of_mem _ (List.mem_cons_self ..)) ?_⟩
  rw [r1.find]
  cases hf : findD o t.dir with
  | none =>
    rw [hf] at hk
    exact ⟨none, rfl, brB_of (fun _ => f43_spec ⟨_, rfl, hk h1 D rfl r1 w1⟩) fun q => by cases q⟩
  | some i =>
    rw [hf] at hk ook
    dsimp only at hk ook
    refine ⟨_, rfl, brB_of (fun z => by cases z) fun _ => f42_spec ⟨_, rfl, brB_of (fun q1 => f43_spec ⟨_, rfl, ?_⟩) fun q1 => brB_of (fun q2 => ?_) fun q2 => f45_spec ⟨_, rfl, ?_⟩⟩⟩
    · have q1' : nameB n = false := by simpa using q1
      rw [if_pos q1'] at hk
      exact hk h1 D rfl r1 w1
    · have q1' : nameB n = true := by simpa using q1
      have q2' : ¬ o = n := by simpa using q2
      rw [if_neg (by simp [q1']), if_neg q2'] at hk ook
      refine f44_rep (c := ⟨o, n, some i⟩) r1 w1 (by omega) ook (fun j hj => ?_) fun h3 D3 b3 r3 w3 => ⟨rfl, f45_spec ⟨_, rfl, hk h3 D3 b3 r3 w3⟩⟩
      injection hj with hj
      subst hj
      exact (r1.ok.dir.ids _ (findD_mem hf)).1
    · have q1' : nameB n = true := by simpa using q1
      have q2' : o = n := by simpa using q2
      rw [if_neg (by simp [q1']), if_pos q2'] at hk
      exact hk h1 D rfl r1 w1
/-- Remove. -/
theorem f58_spec {w0 : World} {K : Value → AH → Prop} {h : AH} {B : List (Nat × AB)} {s : Ds} {D : PD} {n : ByteArray} (r : PRep s D) (w : Own w0 h (D.blocks s ++ B)) (hc : s.calls < 100000000)
    (hk : ∀ h' D', D'.bd = D.bd → PRep (removeS n s).2 D' → Own w0 h' (D'.blocks (removeS n s).2 ++ B) → K (.int .i64 (removeS n s).1) h') :
    EvC Go.Proofs.Try.prog w0 58 #[.pointer (some ⟨D.bd, 0, none⟩), .string n] K h := by
  have ook := removeS_ok r.ok n
  have e5 := (callS_same s).2.2.2.2
  have r1 := r.call
  refine f58_go _ _ _ (brB_of (fun q => by cases q) fun _ => f41_rep r w (by omega) fun h1 w1 => ⟨_, _, rfl, brB_of (fun q => ?_) fun q => ?_⟩)
  · have e : removeS n s = ((callS s).1, (callS s).2.2) := by unfold removeS; rw [if_pos (by simpa using q)]
    rw [e] at hk
    exact hk h1 D rfl r1 w1
  have q0 : (callS s).1 = 0 := by simpa using q
  have es : removeS n s = if (findD n (callS s).2.2.dir).isNone then (endS (callS s).2.1 7, (callS s).2.2) else (endS (callS s).2.1 0, alterS ⟨n, ⟨#[]⟩, none⟩ (callS s).2.2) := by
    unfold removeS; rw [if_neg (by simp [q0])]
  rw [es] at hk ook
  generalize (callS s).2.1 = g at hk ook
  generalize (callS s).2.2 = t at hk ook w1 r1 e5
  have wf := w1
  rw [PD.flat] at wf
  refine ⟨_, rfl, _, wf.cell0 rfl, by kernel_rfl, mapAt_D wf (List.mem_cons_of_mem _ (List.mem_cons_self ..)) ?_⟩
  rw [r1.find]
  cases hf : findD n t.dir with
  | none =>
    rw [hf, if_pos (show (none : Option Nat).isNone = true from rfl)] at hk
    exact ⟨none, rfl, brB_of (fun _ => f43_spec ⟨_, rfl, hk h1 D rfl r1 w1⟩) fun q => by cases q⟩
  | some i =>
    rw [hf, if_neg (by simp)] at hk ook
    refine ⟨_, rfl, brB_of (fun z => by cases z) fun _ => f44_rep (c := ⟨n, ⟨#[]⟩, none⟩) r1 w1 (by omega) ook (fun j hj => by cases hj) fun h3 D3 b3 r3 w3 => ⟨rfl, f45_spec ⟨_, rfl, hk h3 D3 b3 r3 w3⟩⟩⟩
theorem u8s_set (l : List UInt8) (i : Nat) (x : UInt8) : (u8s l).set i (.int .u8 x.toNat) = u8s (l.set i x) := by simp [u8s, List.map_set]
theorem setCells_one (l : List Value) (i : Nat) (v : Value) : setCells l i [v] = l.set i v := by simp [setCells]
/-- Spoil. -/
theorem f40_spec {w0 : World} {K : Value → AH → Prop} {h : AH} {B : List (Nat × AB)} {s : Ds} {D : PD} {n : ByteArray} {a : Int} {x : UInt8} (r : PRep s D) (w : Own w0 h (D.blocks s ++ B))
    (hk : ∀ h' D', D'.bd = D.bd → PRep (spoilS n a x s).2 D' → Own w0 h' (D'.blocks (spoilS n a x s).2 ++ B) → K (.bool (spoilS n a x s).1) h') :
    EvC Go.Proofs.Try.prog w0 40 #[.pointer (some ⟨D.bd, 0, none⟩), .string n, .int .i64 a, .int .u8 x.toNat] K h := by
  have ook := spoilS_ok r.ok n a x
  have no : ∀ p y, y = true → spoilS n a x s = (false, s) → f40_3 w0 K a (x.toNat : Int) p y h := fun p y hy e => by
    rw [e] at hk
    exact f40_3_in _ _ _ _ _ (brB_of (fun _ => hk h D rfl r w) fun z => by rw [hy] at z; cases z)
  refine f40_go _ _ _ _ _ (f52_spec r w ⟨_, _, rfl, brB_of (fun q => ?_) fun q => ?_⟩)
  · refine no _ _ rfl ?_
    unfold spoilS
    unfold lookS at q
    cases ho : s.off with
    | true => rfl
    | false =>
      rw [ho] at q
      cases hf : findD n s.dir with
      | none => rfl
      | some i => rw [hf] at q; simp at q
  have hoff : s.off = false := by
    cases ho : s.off with
    | false => rfl
    | true => unfold lookS at q; rw [ho] at q; simp at q
  cases hf : findD n s.dir with
  | none => unfold lookS at q; rw [hoff, hf] at q; simp at q
  | some i =>
    have el : (lookS n s).2 = some i := by unfold lookS; rw [hoff, hf]; rfl
    rw [el]
    dsimp only
    obtain ⟨fo, hgi, hp⟩ := r.file hf
    have ws := PD.open hgi w
    have wd := ws.drop
    have hln := lenAt_abs r.fs hgi
    have esp : spoilS n a x s = if a < 0 ∨ (lenAt s.fs i : Int) ≤ a then (false, s) else (true, { s with fs := s.fs.modify i fun f => { f with data := f.data.set a.toNat x } }) := by
      unfold spoilS; rw [hoff, hf]; rfl
    rw [hln] at esp
    rw [hp]
    refine brB_of (fun q1 => no _ _ rfl ?_) fun q1 => ⟨_, rfl, _, _, _, wd.cell0 rfl, ?_⟩
    · rw [esp, if_pos (.inl (of_decide_eq_true q1))]
    have q1' := of_decide_eq_false q1
    by_cases q2 : (fo.data.length : Int) ≤ a
    · refine no _ _ (decide_eq_true q2) ?_
      rw [esp, if_pos (.inr q2)]
    · rw [decide_eq_false q2]
      rw [esp, if_neg (by omega)] at hk ook
      have hv := r.fv _ (List.mem_of_getElem? hgi)
      have hcap := hv.2.1
      have hal : a.toNat < fo.data.length := by omega
      cases hfa : fo.a with
      | none => rw [hfa] at hv; have := hv.2.2.1; omega
      | some ad =>
        have hv' := hv
        rw [hfa] at hv'
        obtain ⟨ho1, ho2⟩ := hv'.2.2
        have had : ad = ⟨ad.block, 0, none⟩ := by cases ad; simp_all
        generalize hb : ad.block = b at had
        subst had
        have wc := wd.cell0 (j := 0) rfl
        have wd2 : Own w0 h (D.pre s i ++ ([(fo.b, .cells fo.cells 2)] ++ ((b, .cells (u8s fo.data) (fo.c * 1)) :: (fobs (D.F.drop (i + 1)) ++ B)))) := by
          rw [hfa] at ws; exact ws
        rw [← List.append_assoc] at wd2
        have we := wd2.drop
        refine f40_3_in _ _ _ _ _ (brB_of (fun z => by cases z) fun _ => ⟨_, rfl, _, _, _, wc, ⟨b, 0, none⟩, hfa, by omega, by omega, u8s fo.data, fo.c * 1, ?_, ?_, ?_, ?_, ?_⟩)
        · rw [add_plain]; exact we.ge
        · rw [add_plain]
        · rw [add_plain]; exact we.hd
        · rw [add_plain]; simp [u8s]; omega
        rw [add_plain]
        simp only [Nat.zero_add, Nat.mul_one]
        rw [setCells_one, u8s_set]
        refine hk _ { D with F := D.F.set i { fo with data := fo.data.set a.toNat x } } rfl (r.set (f' := { fo with data := fo.data.set a.toNat x }) hgi rfl rfl ?_ ook) (PD.shut (s := s) (f' := { fo with data := fo.data.set a.toNat x }) hgi rfl ?_)
        · show SlV 1 fo.a (fo.data.set a.toNat x).length fo.c (u8s (fo.data.set a.toNat x))
          rw [List.length_set, hfa]
          exact ⟨by simp [u8s], hcap, rfl, rfl⟩
        · show Own w0 _ (D.pre s i ++ ((fo.b, .cells [.slice fo.a (fo.data.set a.toNat x).length fo.c, .int .i64 (fo.sure : Nat)] 2) :: (slB fo.a (u8s (fo.data.set a.toNat x)) (fo.c * 1) ++ (fobs (D.F.drop (i + 1)) ++ B))))
          rw [List.length_set, hfa]
          have := wd2.upd (o' := .cells (u8s (fo.data.set a.toNat x)) (fo.c * 1))
          rw [List.append_assoc] at this
          rw [show fo.cells = [.slice (some ⟨b, 0, none⟩) fo.data.length fo.c, .int .i64 (fo.sure : Nat)] by unfold FO.cells; rw [hfa]] at this
          simp only [Nat.mul_one] at this ⊢
          exact this
/-- List. -/
def listS (s : Ds) : List ByteArray := if s.off then [] else s.dir.map (·.1)
theorem keys_C {F : List FO} {d d' : Dir} (hp : d'.Perm d) : ((mapC F d').map (·.1)).Perm ((d.map (·.1)).map Value.string) := by
  have e : (mapC F d').map (·.1) = (d'.map (·.1)).map Value.string := by unfold mapC; rw [List.map_map, List.map_map]; rfl
  rw [e]
  exact (hp.map _).map _
theorem nameB_size {n : ByteArray} (h : nameB n = true) : n.size ≤ 64 := by
  unfold nameB at h
  simp only [Bool.and_eq_true, decide_eq_true_eq] at h
  exact h.1.2
theorem f38_spec {w0 : World} {K : Value → AH → Prop} {h : AH} {B : List (Nat × AB)} {s : Ds} {D : PD} (r : PRep s D) (w : Own w0 h (D.blocks s ++ B)) (hc : s.calls < 1000000000)
    (hk : ∀ a c h', SlV 1 a (listS s).length c (strs (listS s)) → Own w0 h' (slB a (strs (listS s)) (c * 1) ++ (D.blocks s ++ B)) → K (.slice a (listS s).length c) h') :
    EvC Go.Proofs.Try.prog w0 38 #[.pointer (some ⟨D.bd, 0, none⟩)] K h := by
  have wf := w
  rw [PD.flat] at wf
  refine f38_go _ _ (brB_of (fun q => by cases q) fun _ => ⟨_, rfl, _, wf.cell0 rfl, ?_⟩)
  cases ho : s.off with
  | true =>
    have e : listS s = [] := by unfold listS; rw [if_pos ho]
    rw [e] at hk
    exact f38_2_in _ _ _ (brB_of (fun _ => hk none 0 h SlV.nil w) fun z => by cases z)
  | false =>
    have e : listS s = s.dir.map (·.1) := by unfold listS; rw [if_neg (by simp [ho])]
    rw [e] at hk
    have hl := r.ok.dir.len
    refine f38_2_in _ _ _ (brB_of (fun z => by cases z) fun _ => ⟨_, rfl, _, wf.cell0 rfl, f57_spec fun b hb hn => ⟨_, rfl, ?_⟩⟩)
    have w2 := w.new (o := .cells [.map (some D.md)] 1) hb hn
    refine f56_spec (r := D.md) (es := mapC D.F D.ed) w2 (List.mem_cons_self ..) (by rw [PD.flat]; simp) (keys_C r.dm) r.ok.dir.so (fun n hn => ?_) (by simp; omega) fun a c h3 v3 w3 => ⟨_, _, _, rfl, hk a c h3 v3 (Own.cut (ds := [_]) w3)⟩
    obtain ⟨e, he, rfl⟩ := List.mem_map.1 hn
    exact nameB_size (r.ok.dir.ids e he).2
end Go.G.Ytpjklfmfgmicaaa
