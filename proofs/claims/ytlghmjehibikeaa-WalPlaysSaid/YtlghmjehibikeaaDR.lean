/- Names of a directory. -/
import Derived.Test.YtlghmjehibikeaaDQ
import Derived.Test.YtlghmjehibikeaaProg
set_option maxRecDepth 100000
namespace Go.G.Ytlghmjehibikeaa
open Go.RowKit
theorem PRep.blks {s : Ds} {D : PD} (r : PRep s D) : D.F.length = s.fs.length := r.len
/-- A change of the directory, no file being new. -/
theorem f54_rep {w0 : World} {K : Value → AH → Prop} {h : AH} {B : List (Nat × AB)} {s : Ds} {D : PD} {c : Chg} (r : PRep s D) (w : Own w0 h (D.blocks s ++ B)) (hc : s.calls < 1000000000) (ok : (alterS c s).Ok) (hf : ∀ i, c.f = some i → i < s.fs.length)
    (hk : ∀ h' D', D'.bd = D.bd → PRep (alterS c s) D' → Own w0 h' (D'.blocks (alterS c s) ++ B) → K (.tuple #[]) h') : EvC Go.Proofs.Try.prog w0 54 #[.pointer (some ⟨D.bd, 0, none⟩), chgV D.F c] K h := by
  have hrl := r.rowlen
  have wf := w
  rw [PD.flat] at wf
  refine f54_spec wf r.rv (by omega) fun h3 ra' rc' v3 w3 => ?_
  obtain ⟨d0, ewas, hes⟩ := r.wr
  refine hk h3 { D with ra := ra', rc := rc', row := D.row ++ [c], ed := c.playL D.ed } rfl ⟨ok, r.fs, r.fv, v3, fun c' hc' i hi => ?_, playL_perm r.dm r.ok.dir.nd, ⟨d0, ?_, hes⟩, ?_⟩ ?_
  · rcases List.mem_append.1 hc' with hc' | hc'
    · exact r.ri c' hc' i hi
    · rw [List.mem_singleton] at hc'
      subst hc'; exact hf i hi
  · show s.was ++ [c.play s.dir] = _
    have := r.la
    rw [ewas] at this ⊢
    rw [scanC_snoc this]
  · show (s.was ++ [c.play s.dir]).getLast? = some (c.play s.dir)
    simp
  · rw [PD.flat]; exact w3
theorem u8s_set (l : List UInt8) (i : Nat) (x : UInt8) : (u8s l).set i (.int .u8 x.toNat) = u8s (l.set i x) := by simp [u8s, List.map_set]
theorem setCells_one (l : List Value) (i : Nat) (v : Value) : setCells l i [v] = l.set i v := by simp [setCells]
/-- List. -/
def listS (s : Ds) : List ByteArray := if s.off then [] else s.dir.map (·.1)
theorem keys_C {F : List FO} {d d' : Dir} (hp : d'.Perm d) : ((mapC F d').map (·.1)).Perm ((d.map (·.1)).map Value.string) := by
  have e : (mapC F d').map (·.1) = (d'.map (·.1)).map Value.string := by unfold mapC; rw [List.map_map, List.map_map]; rfl
  rw [e]
  exact (hp.map _).map _
theorem nameB_size {n : ByteArray} (h : nameB n = true) : n.size ≤ 64 := by
  unfold nameB at h
  simp only [Bool.and_eq_true, decide_eq_true_eq] at h
  exact h.1.2
end Go.G.Ytlghmjehibikeaa
