/- What the rows list of Go's tables; a world in which it lies so; arguments. -/
import Derived.Test.YtciepfobnaemmaaDoorTB
import Derived.Test.YtciepfobnaemmaaDoorTE
import Derived.Test.YtciepfobnaemmaaDoorPA
import Derived.Test.YtciepfobnaemmaaDoorRows
import Derived.Lib.LaidU8
import Derived.Lib.LaidIn
import Derived.KernelRfl
import Derived.Test.YtciepfobnaemmaaDoorProg
set_option maxRecDepth 100000
namespace Go.G.YtciepfobnaemmaaDoor
open Go.RowKit
open Value (string slice int bool agg)
theorem first_eq : Go.Pinned.utf8First = Lib.firstData := by kernel_rfl
theorem accept_eq : Go.Proofs.YtciepfobnaemmaaDoor.Rows.laid_unicode_utf8_acceptRanges = Lib.acceptData := by kernel_rfl
theorem firstT_eq (n : Nat) : Lib.firstT n = tabF n := rfl
/-- What the rows list of the two tables is what lies in memory. -/
theorem tab_of_laid {W : World} (h : laidMet Go.Proofs.Tryd.prog [("unicode/utf8.acceptRanges", Go.Proofs.YtciepfobnaemmaaDoor.Rows.laid_unicode_utf8_acceptRanges), ("unicode/utf8.first", Go.Proofs.YtciepfobnaemmaaDoor.Rows.laid_unicode_utf8_first)] W) : TabOk W := by
  have h3 : Lib.VarReads Go.Proofs.Tryd.prog W "unicode/utf8.first" Lib.firstData := by
    rw [← first_eq]; exact Lib.laidMet.reads h (.tail _ (.head _))
  have h4 : Lib.VarReads Go.Proofs.Tryd.prog W "unicode/utf8.acceptRanges" Lib.acceptData := by
    rw [← accept_eq]; exact Lib.laidMet.reads h (.head _)
  have cells : ∀ i, i < 16 → W.cell? ⟨1, 2 * i, none⟩ = some (.int .u8 (Lib.accLo i : Int)) ∧ W.cell? ⟨1, 2 * i + 1, none⟩ = some (.int .u8 (Lib.accHi i : Int)) := fun i hi => by
    obtain ⟨g, t, cs, fuel, p, hg, hty, hvar, hd⟩ := h4
    obtain rfl := Option.some.inj ((show Go.Proofs.Tryd.prog.globalNamed "unicode/utf8.acceptRanges" = some 1 by kernel_rfl).symm.trans hg)
    obtain rfl := Option.some.inj ((show (Go.Proofs.Tryd.prog.globals[1]?).map (·.type) = some 109 by kernel_rfl).symm.trans hty)
    obtain ⟨fuel', d, q, hdi, he⟩ := Lib.array_elem (show Go.Proofs.Tryd.prog.underlying 109 = some (.array 16 108) by kernel_rfl) hd i hi
    simp only [List.getElem?_map, List.getElem?_range hi, Option.map_some, Option.some.injEq] at hdi
    subst hdi
    rw [show Go.Proofs.Tryd.prog.cellsOf 108 = 2 by kernel_rfl] at he
    have hcs := Lib.ints_of_struct (show Go.Proofs.Tryd.prog.underlying 108 = some (.struct #[{ name := "lo", type := 5, offset := 0, embedded := false, tag := "", pkgPath := "unicode/utf8", byteOffset := 0 }, { name := "hi", type := 5, offset := 1, embedded := false, tag := "", pkgPath := "unicode/utf8", byteOffset := 1 }]) by kernel_rfl) (fun j f hj => by
      match j, hj with
      | 0, hj => simp at hj; subst hj; exact ⟨by kernel_rfl, rfl, by kernel_rfl⟩
      | 1, hj => simp at hj; subst hj; exact ⟨by kernel_rfl, rfl, by kernel_rfl⟩
      | j + 2, hj => simp at hj) (by kernel_rfl) he
    have e0 := congrArg (·[0]?) hcs
    have e1 := congrArg (·[1]?) hcs
    simp only [List.getElem?_take, List.getElem?_drop] at e0 e1
    constructor
    · rw [World.var?_cell hg hvar (2 * i), ← Array.getElem?_toList]
      simpa [Nat.mul_comm] using e0
    · rw [World.var?_cell hg hvar (2 * i + 1), ← Array.getElem?_toList]
      simpa [Nat.mul_comm] using e1
  have acc : ∀ i, i < 16 → Lib.accLo i = accL i ∧ Lib.accHi i = accH i := by decide
  refine ⟨fun c hc => ?_, fun i hi => ?_, fun i hi => ?_⟩
  · obtain ⟨g, t, cs, fuel, p, hg, hty, hvar, hd⟩ := h3
    obtain rfl := Option.some.inj ((show Go.Proofs.Tryd.prog.globalNamed "unicode/utf8.first" = some 0 by kernel_rfl).symm.trans hg)
    obtain rfl := Option.some.inj ((show (Go.Proofs.Tryd.prog.globals[0]?).map (·.type) = some 106 by kernel_rfl).symm.trans hty)
    have hcs := Lib.cells_of_tab (show Go.Proofs.Tryd.prog.underlying 106 = some (.array 256 5) by kernel_rfl) (show Go.Proofs.Tryd.prog.underlying 5 = some (.int .u8) by kernel_rfl) (by kernel_rfl) (by kernel_rfl) hd
    have := World.var?_cell hg hvar c
    rw [this, ← Array.getElem?_toList, hcs]
    simp [Lib.firstTab, hc, firstT_eq]
  · rw [Nat.mul_comm, (cells i hi).1, (acc i hi).1]
  · rw [Nat.mul_comm i 2, (cells i hi).2, (acc i hi).2]
/-- A world in which they lie so. -/
noncomputable def laidWorld (os : Os) : World :=
  let w0 := World.holding Go.Proofs.Tryd.prog os ⟨#[], #[], []⟩
  let put (h : Array Obj) (g : Nat) (cs : Array Value) : Array Obj := h.modify g fun
    | .cells _ t frozen => .cells cs t frozen
    | o => o
  let h1 := put w0.heap 0 (Lib.firstTab.map fun z => Value.int .u8 z).toArray
  let h2 := put h1 1 ((List.range 16).flatMap fun i => [Value.int .u8 (Lib.accLo i), Value.int .u8 (Lib.accHi i)]).toArray
  { w0 with heap := h2 }
theorem laid_met (os : Os) (args : Array Value) : laidMet Go.Proofs.Tryd.prog [("unicode/utf8.acceptRanges", Go.Proofs.YtciepfobnaemmaaDoor.Rows.laid_unicode_utf8_acceptRanges), ("unicode/utf8.first", Go.Proofs.YtciepfobnaemmaaDoor.Rows.laid_unicode_utf8_first)] ((laidWorld os).forCall (fun _ _ => 0) ⟨#[], args, []⟩).memory := by
  have := (LaidIn.of_run (P := Go.Proofs.Tryd.prog) (w := ((laidWorld os).forCall (fun _ _ => 0) ⟨#[], args, []⟩).memory) (l := [("unicode/utf8.acceptRanges", Lib.acceptData), ("unicode/utf8.first", Lib.firstData)]) [1, 0] 8 (by kernel_rfl) (by kernel_rfl) (by kernel_rfl) (by kernel_rfl)).met
  rw [accept_eq, show (Go.Proofs.YtciepfobnaemmaaDoor.Rows.laid_unicode_utf8_first : DataW Unit) = Lib.firstData from first_eq]
  exact this
/-! the second form's bound -/
def i64 (x : Int) : Prop := -9223372036854775808 ≤ x ∧ x ≤ 9223372036854775807
theorem wf64 {x : Int} (h : (Lit.int .i64 x).wf = true) : i64 x := by
  simpa [i64, Lit.wf, IntKind.min, IntKind.max, IntKind.signed, IntKind.bits] using h
structure WantM.Ok (m : WantM) : Prop where
  fl : m.filter.size ≤ 140737488351232
  qos : i64 m.qos
structure PkM.Ok (W : World) (m : PkM) : Prop where
  kind : i64 m.kind
  id : i64 m.id
  tl : m.topic.size ≤ 140737488351232
  pl : m.pay.length ≤ 140737488355328
  plc : m.pay.length ≤ m.pc
  pay : Rd0 W m.pa (u8s m.pay)
  qos : i64 m.qos
  til : i64 m.til
  cl : m.client.size ≤ 140737488351232
  alive : i64 m.alive
  code : i64 m.code
  wl : m.wants.length ≤ 140737488355328
  wants : Rd0 W m.wa (m.wants.flatMap WantM.cells)
  wantk : ∀ x ∈ m.wants, x.Ok
  kl : m.codes.length ≤ 140737488355328
  codes : Rd0 W m.ca (ints m.codes)
  codek : ∀ x ∈ m.codes, i64 x
theorem bytes_of {v : Nat} {W : World} {cs : List Value} (h : OkT Go.Proofs.Tryd.prog W (v + 2) 22 cs) : ∃ (a : Option Addr) (n c : Nat) (l : List UInt8), cs = [.slice a n c] ∧ n = l.length ∧ n ≤ c ∧ n ≤ 140737488355328 ∧ Rd0 W a (u8s l) := by
  obtain ⟨a, n, c, l, h1, h2, h3, h4, h5, h6⟩ := h.slice (e := 5) (k := 1) (by kernel_rfl) (by kernel_rfl) (enc := fun b : UInt8 => [.int .u8 b.toNat]) (Q := fun _ => True) (fun _ => rfl) fun ys hy _ => by
    obtain ⟨x, rfl, hw⟩ := hy.int (k := .u8) (by kernel_rfl)
    have hb : 0 ≤ x ∧ x ≤ 255 := by simpa [Lit.wf, IntKind.min, IntKind.max, IntKind.signed, IntKind.bits] using hw
    refine ⟨UInt8.ofNat x.toNat, ?_, trivial⟩
    rw [UInt8.toNat_ofNat', Nat.mod_eq_of_lt (by omega), Int.toNat_of_nonneg hb.1]
  refine ⟨a, n, c, l, h1, h2, h3, ?_, ?_⟩
  · have : Go.Proofs.Tryd.prog.bytesOf 5 = 1 := by kernel_rfl
    rw [this] at h4; omega
  · have : u8s l = l.flatMap fun b : UInt8 => [Value.int .u8 b.toNat] := by
      clear h2 h5 h6
      induction l with
      | nil => rfl
      | cons b l ih => rw [List.flatMap_cons, ← ih]; rfl
    rw [this]; exact h5
end Go.G.YtciepfobnaemmaaDoor
