/- Calls as arguments. -/
import Derived.Test.YtnmngjffebbbnaaDoorTA
import Derived.Test.YtnmngjffebbbnaaDoorProg
set_option maxRecDepth 100000
namespace Go.G.YtnmngjffebbbnaaDoor
open Go.RowKit
open Value (string slice int bool agg)
/-! ### calls as arguments -/
structure Cl where
  d : Int
  f : ByteArray
  c : ByteArray
  q : Int
def Cl.cells (x : Cl) : List Value := [.int .i64 x.d, .string x.f, .string x.c, .int .i64 x.q]
structure Cl.Ok (x : Cl) : Prop where
  f : x.f.size ≤ 140737488355328
  c : x.c.size ≤ 140737488355328
theorem call_of {v : Nat} {W : World} {cs : List Value} (h : OkT Go.Proofs.Tryd.prog W (v + 2) 26 cs) : ∃ x : Cl, cs = x.cells ∧ x.Ok := by
  have hl := h.cells (k := 4) (by kernel_rfl) (by kernel_rfl)
  obtain ⟨x0, e0, w0⟩ := (h.field (i := 0) (ty := 3) (off := 0) (k := 1) (by kernel_rfl) (by kernel_rfl)).int (k := .i64) (by kernel_rfl)
  obtain ⟨x1, e1, w1⟩ := (h.field (i := 1) (ty := 9) (off := 1) (k := 1) (by kernel_rfl) (by kernel_rfl)).string (by kernel_rfl)
  obtain ⟨x2, e2, w2⟩ := (h.field (i := 2) (ty := 9) (off := 2) (k := 1) (by kernel_rfl) (by kernel_rfl)).string (by kernel_rfl)
  obtain ⟨x3, e3, w3⟩ := (h.field (i := 3) (ty := 3) (off := 3) (k := 1) (by kernel_rfl) (by kernel_rfl)).int (k := .i64) (by kernel_rfl)
  refine ⟨⟨x0, x1, x2, x3⟩, ?_, ⟨by show x1.size ≤ _; omega, by show x2.size ≤ _; omega⟩⟩
  match cs, hl with
  | [y0, y1, y2, y3], _ =>
    simp at e0 e1 e2 e3
    rw [e0, e1, e2, e3]; rfl
theorem calls_of {v : Nat} {W : World} {cs : List Value} (h : OkT Go.Proofs.Tryd.prog W (v + 4) 22 cs) : ∃ (a : Option Addr) (n c : Nat) (l : List Cl), cs = [.slice a n c] ∧ n = l.length ∧ n ≤ c ∧ n ≤ 140737488355328 ∧ Rd0 W a (l.flatMap Cl.cells) ∧ ∀ x ∈ l, x.Ok := by
  obtain ⟨a, n, c, l, h1, h2, h3, h4, h5, h6⟩ := h.slice (e := 26) (k := 4) (by kernel_rfl) (by kernel_rfl) (enc := Cl.cells) (Q := fun t => t.Ok) (fun _ => rfl) fun ys hy _ => call_of (v := v + 1) hy
  have hb : Go.Proofs.Tryd.prog.bytesOf 26 = 48 := by kernel_rfl
  rw [hb] at h4
  exact ⟨a, n, c, l, h1, h2, h3, by omega, h5, h6⟩
end Go.G.YtnmngjffebbbnaaDoor
