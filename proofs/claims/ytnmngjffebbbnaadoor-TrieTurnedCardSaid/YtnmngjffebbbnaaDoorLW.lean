/- What the rows list of Go's tables; a world in which it lies so. -/
import Derived.Test.YtnmngjffebbbnaaDoorTB
import Derived.Test.YtnmngjffebbbnaaDoorTE
import Derived.Test.YtnmngjffebbbnaaDoorRows
import Derived.Lib.LaidU8
import Derived.Lib.LaidIn
import Derived.KernelRfl
import Derived.Test.YtnmngjffebbbnaaDoorProg
set_option maxRecDepth 100000
namespace Go.G.YtnmngjffebbbnaaDoor
open Go.RowKit
open Value (string slice int bool agg)
theorem first_eq : Go.Pinned.utf8First = Lib.firstData := by kernel_rfl
theorem accept_eq : Go.Proofs.YtnmngjffebbbnaaDoor.Rows.laid_unicode_utf8_acceptRanges = Lib.acceptData := by kernel_rfl
theorem firstT_eq (n : Nat) : Lib.firstT n = tabF n := rfl
/-- What the rows list of the two tables is what lies in memory. -/
theorem tab_of_laid {W : World} (h : laidMet Go.Proofs.Tryd.prog [("unicode/utf8.acceptRanges", Go.Proofs.YtnmngjffebbbnaaDoor.Rows.laid_unicode_utf8_acceptRanges), ("unicode/utf8.first", Go.Proofs.YtnmngjffebbbnaaDoor.Rows.laid_unicode_utf8_first)] W) : TabOk W := by
  have h3 : Lib.VarReads Go.Proofs.Tryd.prog W "unicode/utf8.first" Lib.firstData := by
    rw [← first_eq]; exact Lib.laidMet.reads h (.tail _ (.head _))
  have h4 : Lib.VarReads Go.Proofs.Tryd.prog W "unicode/utf8.acceptRanges" Lib.acceptData := by
    rw [← accept_eq]; exact Lib.laidMet.reads h (.head _)
  have cells : ∀ i, i < 16 → W.cell? ⟨1, 2 * i, none⟩ = some (.int .u8 (Lib.accLo i : Int)) ∧ W.cell? ⟨1, 2 * i + 1, none⟩ = some (.int .u8 (Lib.accHi i : Int)) := fun i hi => by
    obtain ⟨g, t, cs, fuel, p, hg, hty, hvar, hd⟩ := h4
    obtain rfl := Option.some.inj ((show Go.Proofs.Tryd.prog.globalNamed "unicode/utf8.acceptRanges" = some 1 by kernel_rfl).symm.trans hg)
    obtain rfl := Option.some.inj ((show (Go.Proofs.Tryd.prog.globals[1]?).map (·.type) = some 112 by kernel_rfl).symm.trans hty)
    obtain ⟨fuel', d, q, hdi, he⟩ := Lib.array_elem (show Go.Proofs.Tryd.prog.underlying 112 = some (.array 16 111) by kernel_rfl) hd i hi
    simp only [List.getElem?_map, List.getElem?_range hi, Option.map_some, Option.some.injEq] at hdi
    subst hdi
    rw [show Go.Proofs.Tryd.prog.cellsOf 111 = 2 by kernel_rfl] at he
    have hcs := Lib.ints_of_struct (show Go.Proofs.Tryd.prog.underlying 111 = some (.struct #[{ name := "lo", type := 5, offset := 0, embedded := false, tag := "", pkgPath := "unicode/utf8", byteOffset := 0 }, { name := "hi", type := 5, offset := 1, embedded := false, tag := "", pkgPath := "unicode/utf8", byteOffset := 1 }]) by kernel_rfl) (fun j f hj => by
      match j, hj with
      | 0, hj => simp at hj; subst hj; exact ⟨by kernel_rfl, rfl, by kernel_rfl⟩
      | 1, hj => simp at hj; subst hj; exact ⟨by kernel_rfl, rfl, by kernel_rfl⟩
      | j + 2, hj => simp at hj) (by kernel_rfl) he
    have e0 := congrArg (·[0]?) hcs
    have e1 := congrArg (·[1]?) hcs
    simp only [List.getElem?_take, List.getElem?_drop] at e0 e1
    constructor
    · rw [World.var?_cell hg hvar (2 * i), ← Array.getElem?_toList]
      simpa [Nat.mul_comm] using e0
    · rw [World.var?_cell hg hvar (2 * i + 1), ← Array.getElem?_toList]
      simpa [Nat.mul_comm] using e1
  have acc : ∀ i, i < 16 → Lib.accLo i = accL i ∧ Lib.accHi i = accH i := by decide
  refine ⟨fun c hc => ?_, fun i hi => ?_, fun i hi => ?_⟩
  · obtain ⟨g, t, cs, fuel, p, hg, hty, hvar, hd⟩ := h3
    obtain rfl := Option.some.inj ((show Go.Proofs.Tryd.prog.globalNamed "unicode/utf8.first" = some 0 by kernel_rfl).symm.trans hg)
    obtain rfl := Option.some.inj ((show (Go.Proofs.Tryd.prog.globals[0]?).map (·.type) = some 109 by kernel_rfl).symm.trans hty)
    have hcs := Lib.cells_of_tab (show Go.Proofs.Tryd.prog.underlying 109 = some (.array 256 5) by kernel_rfl) (show Go.Proofs.Tryd.prog.underlying 5 = some (.int .u8) by kernel_rfl) (by kernel_rfl) (by kernel_rfl) hd
    have := World.var?_cell hg hvar c
    rw [this, ← Array.getElem?_toList, hcs]
    simp [Lib.firstTab, hc, firstT_eq]
  · rw [Nat.mul_comm, (cells i hi).1, (acc i hi).1]
  · rw [Nat.mul_comm i 2, (cells i hi).2, (acc i hi).2]
/-- A world in which they lie so. -/
noncomputable def laidWorld (os : Os) : World :=
  let w0 := World.holding Go.Proofs.Tryd.prog os ⟨#[], #[], []⟩
  let put (h : Array Obj) (g : Nat) (cs : Array Value) : Array Obj := h.modify g fun
    | .cells _ t frozen => .cells cs t frozen
    | o => o
  let h1 := put w0.heap 0 (Lib.firstTab.map fun z => Value.int .u8 z).toArray
  let h2 := put h1 1 ((List.range 16).flatMap fun i => [Value.int .u8 (Lib.accLo i), Value.int .u8 (Lib.accHi i)]).toArray
  { w0 with heap := h2 }
theorem laid_met (os : Os) (args : Array Value) : laidMet Go.Proofs.Tryd.prog [("unicode/utf8.acceptRanges", Go.Proofs.YtnmngjffebbbnaaDoor.Rows.laid_unicode_utf8_acceptRanges), ("unicode/utf8.first", Go.Proofs.YtnmngjffebbbnaaDoor.Rows.laid_unicode_utf8_first)] ((laidWorld os).forCall (fun _ _ => 0) ⟨#[], args, []⟩).memory := by
  have := (LaidIn.of_run (P := Go.Proofs.Tryd.prog) (w := ((laidWorld os).forCall (fun _ _ => 0) ⟨#[], args, []⟩).memory) (l := [("unicode/utf8.acceptRanges", Lib.acceptData), ("unicode/utf8.first", Lib.firstData)]) [1, 0] 8 (by kernel_rfl) (by kernel_rfl) (by kernel_rfl) (by kernel_rfl)).met
  rw [accept_eq, show (Go.Proofs.YtnmngjffebbbnaaDoor.Rows.laid_unicode_utf8_first : DataW Unit) = Lib.firstData from first_eq]
  exact this
/-! the second form's bound -/
end Go.G.YtnmngjffebbbnaaDoor
