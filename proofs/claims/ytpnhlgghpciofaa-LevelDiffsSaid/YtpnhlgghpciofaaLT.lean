/- What the arguments are. -/
import Derived.Test.YtpnhlgghpciofaaGTab
import Derived.Test.YtpnhlgghpciofaaProg
set_option maxRecDepth 100000
namespace Go.G.Ytpnhlgghpciofaa
open Go.RowKit
/-! ### arguments of this program's types -/
theorem bytes_of {W : World} {cs : List Value} (h : OkT Go.Proofs.Try.prog W 2 41 cs) : ∃ (a : Option Addr) (n c : Nat) (l : List UInt8), cs = [.slice a n c] ∧ n = l.length ∧ n ≤ c ∧ n ≤ 140737488355328 ∧ Rd0 W a (u8s l) := by
  obtain ⟨a, n, c, l, h1, h2, h3, h4, h5, h6⟩ := h.slice (e := 5) (k := 1) (by kernel_rfl) (by kernel_rfl) (enc := fun b : UInt8 => [.int .u8 b.toNat]) (Q := fun _ => True) (fun _ => rfl) fun ys hy _ => by
    obtain ⟨x, rfl, hw⟩ := hy.int (k := .u8) (by kernel_rfl)
    have hb : 0 ≤ x ∧ x ≤ 255 := by simpa [Lit.wf, IntKind.min, IntKind.max, IntKind.signed, IntKind.bits] using hw
    refine ⟨UInt8.ofNat x.toNat, ?_, trivial⟩
    rw [UInt8.toNat_ofNat', Nat.mod_eq_of_lt (by omega), Int.toNat_of_nonneg hb.1]
  refine ⟨a, n, c, l, h1, h2, h3, ?_, ?_⟩
  · have : Go.Proofs.Try.prog.bytesOf 5 = 1 := by kernel_rfl
    rw [this] at h4; omega
  · have : u8s l = l.flatMap fun b : UInt8 => [Value.int .u8 b.toNat] := by
      clear h2 h5 h6
      induction l with
      | nil => rfl
      | cons b l ih => rw [List.flatMap_cons, ← ih]; rfl
    rw [this]; exact h5

theorem wf64 {x : Int} (h : (Lit.int .i64 x).wf = true) : -9223372036854775808 ≤ x ∧ x ≤ 9223372036854775807 := by
  simpa [Lit.wf, IntKind.min, IntKind.max, IntKind.signed, IntKind.bits] using h

theorem ints_of {W : World} {cs : List Value} (h : OkT Go.Proofs.Try.prog W 2 22 cs) : ∃ (a : Option Addr) (n c : Nat) (l : List Int), cs = [.slice a n c] ∧ ∀ h, IS W h a n c l := by
  obtain ⟨a, n, c, l, h1, h2, h3, h4, h5, h6⟩ := h.slice (e := 2) (k := 1) (by kernel_rfl) (by kernel_rfl) (enc := fun x : Int => [.int .i64 x]) (Q := fun x => -9223372036854775808 ≤ x ∧ x ≤ 9223372036854775807) (fun _ => rfl) fun ys hy _ => by
    obtain ⟨x, rfl, hw⟩ := hy.int (k := .i64) (by kernel_rfl)
    exact ⟨x, rfl, wf64 hw⟩
  have h7 : Go.Proofs.Try.prog.bytesOf 2 = 8 := by kernel_rfl
  rw [h7] at h4
  have h8 : ints l = l.flatMap fun x : Int => [Value.int .i64 x] := by
    clear h2 h5 h6
    induction l with
    | nil => rfl
    | cons b l ih => rw [List.flatMap_cons, ← ih]; rfl
  exact ⟨a, n, c, l, h1, fun h => ⟨by rw [h8]; exact h5.rs h, h2, h3, by omega, h6⟩⟩

theorem tab_of {W : World} {cs : List Value} (h : OkT Go.Proofs.Try.prog W 3 43 cs) : ∃ t : Tab, cs = t.cells ∧ ∀ h, t.Ok W h := by
  have hl := h.cells (k := 5) (by kernel_rfl) (by kernel_rfl)
  obtain ⟨x0, e0, w0⟩ := (h.field (i := 0) (ty := 2) (off := 0) (k := 1) (by kernel_rfl) (by kernel_rfl)).int (k := .i64) (by kernel_rfl)
  obtain ⟨x1, e1, w1⟩ := (h.field (i := 1) (ty := 3) (off := 1) (k := 1) (by kernel_rfl) (by kernel_rfl)).int (k := .i64) (by kernel_rfl)
  obtain ⟨x2, e2, w2⟩ := (h.field (i := 2) (ty := 2) (off := 2) (k := 1) (by kernel_rfl) (by kernel_rfl)).int (k := .i64) (by kernel_rfl)
  obtain ⟨a3, n3, c3, l3, e3, h31, _, h33, h34⟩ := bytes_of (h.field (i := 3) (ty := 41) (off := 3) (k := 1) (by kernel_rfl) (by kernel_rfl))
  obtain ⟨a4, n4, c4, l4, e4, h41, _, h43, h44⟩ := bytes_of (h.field (i := 4) (ty := 41) (off := 4) (k := 1) (by kernel_rfl) (by kernel_rfl))
  refine ⟨⟨x0, x1, x2, a3, n3, c3, a4, n4, c4, l3, l4⟩, ?_, fun h => ⟨wf64 w0, wf64 w1, wf64 w2, h34.rs h, h44.rs h, h31, h41, h33, h43⟩⟩
  match cs, hl with
  | [y0, y1, y2, y3, y4], _ =>
    simp at e0 e1 e2 e3 e4
    rw [e0, e1, e2, e3, e4]
    rfl

theorem tabs_of {W : World} {cs : List Value} (h : OkT Go.Proofs.Try.prog W 4 30 cs) : ∃ (a : Option Addr) (n c : Nat) (ts : List Tab), cs = [.slice a n c] ∧ ∀ h, TS W h a n c ts := by
  obtain ⟨a, n, c, l, h1, h2, h3, h4, h5, h6⟩ := h.slice (e := 43) (k := 5) (by kernel_rfl) (by kernel_rfl) (enc := Tab.cells) (Q := fun t => ∀ h, t.Ok W h) (fun _ => rfl) fun ys hy _ => tab_of hy
  have h7 : Go.Proofs.Try.prog.bytesOf 43 = 72 := by kernel_rfl
  rw [h7] at h4
  exact ⟨a, n, c, l, h1, fun h => ⟨h5.rs h, h2, h3, by omega, fun t ht => h6 t ht h⟩⟩

theorem ver_of {W : World} {cs : List Value} (h : OkT Go.Proofs.Try.prog W 5 32 cs) : ∃ (lo nx sq : Int) (a : Option Addr) (n c : Nat) (ts : List Tab), cs = [.int .i64 lo, .int .i64 nx, .int .i64 sq, .slice a n c] ∧
    (-9223372036854775808 ≤ lo ∧ lo ≤ 9223372036854775807) ∧ (-9223372036854775808 ≤ nx ∧ nx ≤ 9223372036854775807) ∧ (-9223372036854775808 ≤ sq ∧ sq ≤ 9223372036854775807) ∧ ∀ h, TS W h a n c ts := by
  have hl := h.cells (k := 4) (by kernel_rfl) (by kernel_rfl)
  obtain ⟨x0, e0, w0⟩ := (h.field (i := 0) (ty := 2) (off := 0) (k := 1) (by kernel_rfl) (by kernel_rfl)).int (k := .i64) (by kernel_rfl)
  obtain ⟨x1, e1, w1⟩ := (h.field (i := 1) (ty := 2) (off := 1) (k := 1) (by kernel_rfl) (by kernel_rfl)).int (k := .i64) (by kernel_rfl)
  obtain ⟨x2, e2, w2⟩ := (h.field (i := 2) (ty := 2) (off := 2) (k := 1) (by kernel_rfl) (by kernel_rfl)).int (k := .i64) (by kernel_rfl)
  obtain ⟨a, n, c, ts, e3, hts⟩ := tabs_of (h.field (i := 3) (ty := 30) (off := 3) (k := 1) (by kernel_rfl) (by kernel_rfl))
  match cs, hl with
  | [y0, y1, y2, y3], _ =>
    simp at e0 e1 e2 e3
    exact ⟨x0, x1, x2, a, n, c, ts, by rw [e0, e1, e2, e3], wf64 w0, wf64 w1, wf64 w2, hts⟩
end Go.G.Ytpnhlgghpciofaa
