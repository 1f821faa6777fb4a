/- Batches as arguments. -/
import Derived.Test.YtlghmjehibikeaaLT
import Derived.Test.YtlghmjehibikeaaWI
import Derived.Test.YtlghmjehibikeaaProg
set_option maxRecDepth 100000
namespace Go.G.Ytlghmjehibikeaa
open Go.RowKit
/-! ### arguments of this program's types -/
theorem bytes_of {W : World} {cs : List Value} (h : OkT Go.Proofs.Try.prog W 2 47 cs) : ∃ (a : Option Addr) (n c : Nat) (l : List UInt8), cs = [.slice a n c] ∧ n = l.length ∧ n ≤ c ∧ n ≤ 140737488355328 ∧ Rd0 W a (u8s l) := by
  obtain ⟨a, n, c, l, h1, h2, h3, h4, h5, h6⟩ := h.slice (e := 5) (k := 1) (by kernel_rfl) (by kernel_rfl) (enc := fun b : UInt8 => [.int .u8 b.toNat]) (Q := fun _ => True) (fun _ => rfl) fun ys hy _ => by
    obtain ⟨x, rfl, hw⟩ := hy.int (k := .u8) (by kernel_rfl)
    have hb : 0 ≤ x ∧ x ≤ 255 := by simpa [Lit.wf, IntKind.min, IntKind.max, IntKind.signed, IntKind.bits] using hw
    refine ⟨UInt8.ofNat x.toNat, ?_, trivial⟩
    rw [UInt8.toNat_ofNat', Nat.mod_eq_of_lt (by omega), Int.toNat_of_nonneg hb.1]
  refine ⟨a, n, c, l, h1, h2, h3, ?_, ?_⟩
  · have : Go.Proofs.Try.prog.bytesOf 5 = 1 := by kernel_rfl
    rw [this] at h4; omega
  · have : u8s l = l.flatMap fun b : UInt8 => [Value.int .u8 b.toNat] := by
      clear h2 h5 h6
      induction l with
      | nil => rfl
      | cons b l ih => rw [List.flatMap_cons, ← ih]; rfl
    rw [this]; exact h5
structure OpM.Rok (W : World) (m : OpM) : Prop where
  ks : Rd0 W m.ka (u8s m.o.key)
  vs : Rd0 W m.va (u8s m.o.val)
  kl : m.o.key.length ≤ 140737488355328
  vl : m.o.val.length ≤ 140737488355328
theorem op_of {W : World} {cs : List Value} (h : OkT Go.Proofs.Try.prog W 3 82 cs) : ∃ m : OpM, cs = m.cells ∧ m.Rok W := by
  have hl := h.cells (k := 4) (by kernel_rfl) (by kernel_rfl)
  obtain ⟨a0, n0, c0, l0, e0, h01, _, h03, h04⟩ := bytes_of (h.field (i := 0) (ty := 47) (off := 0) (k := 1) (by kernel_rfl) (by kernel_rfl))
  obtain ⟨x1, e1⟩ := (h.field (i := 1) (ty := 4) (off := 1) (k := 1) (by kernel_rfl) (by kernel_rfl)).bool (by kernel_rfl)
  obtain ⟨x2, e2, w2⟩ := (h.field (i := 2) (ty := 2) (off := 2) (k := 1) (by kernel_rfl) (by kernel_rfl)).int (k := .i64) (by kernel_rfl)
  obtain ⟨a3, n3, c3, l3, e3, h31, _, h33, h34⟩ := bytes_of (h.field (i := 3) (ty := 47) (off := 3) (k := 1) (by kernel_rfl) (by kernel_rfl))
  subst h01 h31
  refine ⟨⟨a0, c0, a3, c3, ⟨l0, x1, x2, l3⟩⟩, ?_, ⟨h04, h34, h03, h33⟩⟩
  match cs, hl with
  | [y0, y1, y2, y3], _ =>
    simp at e0 e1 e2 e3
    rw [e0, e1, e2, e3]
structure BaM.Rok (W : World) (m : BaM) : Prop where
  rd : Rd0 W m.a (opsC m.os)
  os : ∀ o ∈ m.os, o.Rok W
  ol : m.os.length ≤ 140737488355328
theorem bat_of {W : World} {cs : List Value} (h : OkT Go.Proofs.Try.prog W 5 34 cs) : ∃ m : BaM, cs = m.cells ∧ m.Rok W := by
  have hl := h.cells (k := 2) (by kernel_rfl) (by kernel_rfl)
  obtain ⟨x0, e0, w0⟩ := (h.field (i := 0) (ty := 2) (off := 0) (k := 1) (by kernel_rfl) (by kernel_rfl)).int (k := .i64) (by kernel_rfl)
  have hf := h.field (i := 1) (ty := 32) (off := 1) (k := 1) (by kernel_rfl) (by kernel_rfl)
  obtain ⟨a, n, c, l, e1, h2, h3, h4, h5, h6⟩ := hf.slice (e := 82) (k := 4) (by kernel_rfl) (by kernel_rfl) (enc := OpM.cells) (Q := fun t => t.Rok W) (fun _ => rfl) fun ys hy _ => op_of hy
  have hb : Go.Proofs.Try.prog.bytesOf 82 = 64 := by kernel_rfl
  rw [hb] at h4
  subst h2
  refine ⟨⟨x0, a, c, l⟩, ?_, ⟨h5, h6, by show l.length ≤ _; omega⟩⟩
  match cs, hl with
  | [y0, y1], _ =>
    simp at e0 e1
    rw [e0, e1]
structure BatsR (W : World) (a : Option Addr) (c : Nat) (l : List BaM) : Prop where
  rd : Rd0 W a (batC l)
  ok : ∀ m ∈ l, m.Rok W
  ll : l.length ≤ 140737488355328
theorem bats_of {W : World} {cs : List Value} (h : OkT Go.Proofs.Try.prog W 6 28 cs) : ∃ (a : Option Addr) (n c : Nat) (l : List BaM), cs = [.slice a n c] ∧ n = l.length ∧ BatsR W a c l := by
  obtain ⟨a, n, c, l, h1, h2, h3, h4, h5, h6⟩ := h.slice (e := 34) (k := 2) (by kernel_rfl) (by kernel_rfl) (enc := BaM.cells) (Q := fun t => t.Rok W) (fun _ => rfl) fun ys hy _ => bat_of hy
  have hb : Go.Proofs.Try.prog.bytesOf 34 = 32 := by kernel_rfl
  rw [hb] at h4
  subst h2
  exact ⟨a, _, c, l, h1, rfl, ⟨h5, h6, by omega⟩⟩
theorem BaM.Rok.ops {W : World} {m : BaM} (r : m.Rok W) (h : AH) : OpsOk W h m.a m.os := ⟨r.rd.rd h, fun o ho => (r.os o ho).ks.rd h, fun o ho => (r.os o ho).vs.rd h⟩
end Go.G.Ytlghmjehibikeaa
