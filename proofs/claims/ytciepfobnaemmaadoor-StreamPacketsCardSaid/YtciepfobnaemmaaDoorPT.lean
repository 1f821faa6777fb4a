/- Arguments. -/
import Derived.Test.YtciepfobnaemmaaDoorPA
import Derived.Test.YtciepfobnaemmaaDoorProg
set_option maxRecDepth 100000
namespace Go.G.YtciepfobnaemmaaDoor
open Go.RowKit
open Value (string slice int bool agg)
def i64 (x : Int) : Prop := -9223372036854775808 ≤ x ∧ x ≤ 9223372036854775807
theorem wf64 {x : Int} (h : (Lit.int .i64 x).wf = true) : i64 x := by
  simpa [i64, Lit.wf, IntKind.min, IntKind.max, IntKind.signed, IntKind.bits] using h
structure WantM.Ok (m : WantM) : Prop where
  fl : m.filter.size ≤ 140737488351232
  qos : i64 m.qos
structure PkM.Ok (W : World) (m : PkM) : Prop where
  kind : i64 m.kind
  id : i64 m.id
  tl : m.topic.size ≤ 140737488351232
  pl : m.pay.length ≤ 140737488355328
  plc : m.pay.length ≤ m.pc
  pay : Rd0 W m.pa (u8s m.pay)
  qos : i64 m.qos
  til : i64 m.til
  cl : m.client.size ≤ 140737488351232
  alive : i64 m.alive
  code : i64 m.code
  wl : m.wants.length ≤ 140737488355328
  wants : Rd0 W m.wa (m.wants.flatMap WantM.cells)
  wantk : ∀ x ∈ m.wants, x.Ok
  kl : m.codes.length ≤ 140737488355328
  codes : Rd0 W m.ca (ints m.codes)
  codek : ∀ x ∈ m.codes, i64 x
theorem bytes_of {v : Nat} {W : World} {cs : List Value} (h : OkT Go.Proofs.Tryd.prog W (v + 2) 22 cs) : ∃ (a : Option Addr) (n c : Nat) (l : List UInt8), cs = [.slice a n c] ∧ n = l.length ∧ n ≤ c ∧ n ≤ 140737488355328 ∧ Rd0 W a (u8s l) := by
  obtain ⟨a, n, c, l, h1, h2, h3, h4, h5, h6⟩ := h.slice (e := 5) (k := 1) (by kernel_rfl) (by kernel_rfl) (enc := fun b : UInt8 => [.int .u8 b.toNat]) (Q := fun _ => True) (fun _ => rfl) fun ys hy _ => by
    obtain ⟨x, rfl, hw⟩ := hy.int (k := .u8) (by kernel_rfl)
    have hb : 0 ≤ x ∧ x ≤ 255 := by simpa [Lit.wf, IntKind.min, IntKind.max, IntKind.signed, IntKind.bits] using hw
    refine ⟨UInt8.ofNat x.toNat, ?_, trivial⟩
    rw [UInt8.toNat_ofNat', Nat.mod_eq_of_lt (by omega), Int.toNat_of_nonneg hb.1]
  refine ⟨a, n, c, l, h1, h2, h3, ?_, ?_⟩
  · have : Go.Proofs.Tryd.prog.bytesOf 5 = 1 := by kernel_rfl
    rw [this] at h4; omega
  · have : u8s l = l.flatMap fun b : UInt8 => [Value.int .u8 b.toNat] := by
      clear h2 h5 h6
      induction l with
      | nil => rfl
      | cons b l ih => rw [List.flatMap_cons, ← ih]; rfl
    rw [this]; exact h5
structure BsM where
  a : Option Addr
  c : Nat
  l : List UInt8
@[reducible] def BsM.cells (m : BsM) : List Value := [.slice m.a m.l.length m.c]
structure BsM.Ok (W : World) (m : BsM) : Prop where
  rd : Rd0 W m.a (u8s m.l)
  cap : m.l.length ≤ m.c
  len : m.l.length ≤ 140737488355328
theorem BsM.Ok.rdr {W : World} {m : BsM} (k : m.Ok W) : Rdr W [] m.a m.c m.l := ⟨fun h' _ => k.rd.rd h', k.cap, k.len⟩
theorem ints_of {v : Nat} {W : World} {cs : List Value} (h : OkT Go.Proofs.Tryd.prog W (v + 2) 26 cs) : ∃ (a : Option Addr) (n c : Nat) (l : List Int), cs = [.slice a n c] ∧ n = l.length ∧ n ≤ c ∧ n ≤ 140737488355328 ∧ Rd0 W a (ints l) ∧ ∀ x ∈ l, i64 x := by
  obtain ⟨a, n, c, l, h1, h2, h3, h4, h5, h6⟩ := h.slice (e := 3) (k := 1) (by kernel_rfl) (by kernel_rfl) (enc := fun x : Int => [.int .i64 x]) (Q := i64) (fun _ => rfl) fun ys hy _ => by
    obtain ⟨x, rfl, hw⟩ := hy.int (k := .i64) (by kernel_rfl)
    exact ⟨x, rfl, wf64 hw⟩
  have hb : Go.Proofs.Tryd.prog.bytesOf 3 = 8 := by kernel_rfl
  rw [hb] at h4
  refine ⟨a, n, c, l, h1, h2, h3, by omega, ?_, h6⟩
  have : ints l = l.flatMap fun x : Int => [Value.int .i64 x] := by
    clear h2 h5 h6
    induction l with
    | nil => rfl
    | cons b l ih => rw [List.flatMap_cons, ← ih]; rfl
  rw [this]; exact h5
theorem bytess_of {v : Nat} {W : World} {cs : List Value} (h : OkT Go.Proofs.Tryd.prog W (v + 3) 48 cs) : ∃ (a : Option Addr) (n c : Nat) (l : List BsM), cs = [.slice a n c] ∧ n = l.length ∧ n ≤ c ∧ n ≤ 140737488355328 ∧ Rd0 W a (l.flatMap BsM.cells) ∧ ∀ x ∈ l, x.Ok W := by
  obtain ⟨a, n, c, l, h1, h2, h3, h4, h5, h6⟩ := h.slice (e := 22) (k := 1) (by kernel_rfl) (by kernel_rfl) (enc := BsM.cells) (Q := fun m => m.Ok W) (fun _ => rfl) fun ys hy _ => by
    obtain ⟨a, n, c, l, e1, e2, e3, e4, e5⟩ := bytes_of hy
    subst e2
    exact ⟨⟨a, c, l⟩, e1, ⟨e5, e3, e4⟩⟩
  have hb : Go.Proofs.Tryd.prog.bytesOf 22 = 24 := by kernel_rfl
  rw [hb] at h4
  exact ⟨a, n, c, l, h1, h2, h3, by omega, h5, h6⟩
theorem want_of {v : Nat} {W : World} {cs : List Value} (h : OkT Go.Proofs.Tryd.prog W (v + 2) 78 cs) : ∃ m : WantM, cs = m.cells ∧ m.Ok := by
  have hl := h.cells (k := 2) (by kernel_rfl) (by kernel_rfl)
  obtain ⟨x0, e0, w0⟩ := (h.field (i := 0) (ty := 9) (off := 0) (k := 1) (by kernel_rfl) (by kernel_rfl)).string (by kernel_rfl)
  obtain ⟨x1, e1, w1⟩ := (h.field (i := 1) (ty := 3) (off := 1) (k := 1) (by kernel_rfl) (by kernel_rfl)).int (k := .i64) (by kernel_rfl)
  refine ⟨⟨x0, x1⟩, ?_, ⟨w0, wf64 w1⟩⟩
  match cs, hl with
  | [y0, y1], _ =>
    simp at e0 e1
    rw [e0, e1]
theorem wants_of {v : Nat} {W : World} {cs : List Value} (h : OkT Go.Proofs.Tryd.prog W (v + 3) 25 cs) : ∃ (a : Option Addr) (n c : Nat) (l : List WantM), cs = [.slice a n c] ∧ n = l.length ∧ l.length ≤ 140737488355328 ∧ Rd0 W a (l.flatMap WantM.cells) ∧ ∀ x ∈ l, x.Ok := by
  obtain ⟨a, n, c, l, h1, h2, h3, h4, h5, h6⟩ := h.slice (e := 78) (k := 2) (by kernel_rfl) (by kernel_rfl) (enc := WantM.cells) (Q := fun t => t.Ok) (fun _ => rfl) fun ys hy _ => want_of hy
  have hb : Go.Proofs.Tryd.prog.bytesOf 78 = 24 := by kernel_rfl
  rw [hb] at h4
  exact ⟨a, n, c, l, h1, h2, by omega, h5, h6⟩
/-- A packet. -/
theorem packet_of {v : Nat} {W : World} {cs : List Value} (h : OkT Go.Proofs.Tryd.prog W (v + 5) 28 cs) : ∃ m : PkM, cs = m.cells ∧ m.Ok W := by
  have hl := h.cells (k := 16) (by kernel_rfl) (by kernel_rfl)
  obtain ⟨x0, e0, w0⟩ := (h.field (i := 0) (ty := 3) (off := 0) (k := 1) (by kernel_rfl) (by kernel_rfl)).int (k := .i64) (by kernel_rfl)
  obtain ⟨x1, e1, w1⟩ := (h.field (i := 1) (ty := 3) (off := 1) (k := 1) (by kernel_rfl) (by kernel_rfl)).int (k := .i64) (by kernel_rfl)
  obtain ⟨x2, e2⟩ := (h.field (i := 2) (ty := 4) (off := 2) (k := 1) (by kernel_rfl) (by kernel_rfl)).bool (by kernel_rfl)
  have g := h.field (i := 3) (ty := 24) (off := 3) (k := 5) (by kernel_rfl) (by kernel_rfl)
  obtain ⟨x3, e3, w3⟩ := (g.field (i := 0) (ty := 9) (off := 0) (k := 1) (by kernel_rfl) (by kernel_rfl)).string (by kernel_rfl)
  obtain ⟨a4, n4, c4, l4, e4, h41, h4c, h43, h44⟩ := bytes_of (v := v + 1) (g.field (i := 1) (ty := 22) (off := 1) (k := 1) (by kernel_rfl) (by kernel_rfl))
  obtain ⟨x5, e5, w5⟩ := (g.field (i := 2) (ty := 3) (off := 2) (k := 1) (by kernel_rfl) (by kernel_rfl)).int (k := .i64) (by kernel_rfl)
  obtain ⟨x6, e6⟩ := (g.field (i := 3) (ty := 4) (off := 3) (k := 1) (by kernel_rfl) (by kernel_rfl)).bool (by kernel_rfl)
  obtain ⟨x7, e7, w7⟩ := (g.field (i := 4) (ty := 2) (off := 4) (k := 1) (by kernel_rfl) (by kernel_rfl)).int (k := .i64) (by kernel_rfl)
  obtain ⟨x8, e8, w8⟩ := (h.field (i := 4) (ty := 9) (off := 8) (k := 1) (by kernel_rfl) (by kernel_rfl)).string (by kernel_rfl)
  obtain ⟨x9, e9⟩ := (h.field (i := 5) (ty := 4) (off := 9) (k := 1) (by kernel_rfl) (by kernel_rfl)).bool (by kernel_rfl)
  obtain ⟨x10, e10, w10⟩ := (h.field (i := 6) (ty := 3) (off := 10) (k := 1) (by kernel_rfl) (by kernel_rfl)).int (k := .i64) (by kernel_rfl)
  obtain ⟨x11, e11⟩ := (h.field (i := 7) (ty := 4) (off := 11) (k := 1) (by kernel_rfl) (by kernel_rfl)).bool (by kernel_rfl)
  obtain ⟨x12, e12⟩ := (h.field (i := 8) (ty := 4) (off := 12) (k := 1) (by kernel_rfl) (by kernel_rfl)).bool (by kernel_rfl)
  obtain ⟨x13, e13, w13⟩ := (h.field (i := 9) (ty := 3) (off := 13) (k := 1) (by kernel_rfl) (by kernel_rfl)).int (k := .i64) (by kernel_rfl)
  obtain ⟨a14, n14, c14, l14, e14, h141, h142, h143, h144⟩ := wants_of (v := v + 1) (h.field (i := 10) (ty := 25) (off := 14) (k := 1) (by kernel_rfl) (by kernel_rfl))
  obtain ⟨a15, n15, c15, l15, e15, h151, h15c, h152, h153, h154⟩ := ints_of (v := v + 2) (h.field (i := 11) (ty := 26) (off := 15) (k := 1) (by kernel_rfl) (by kernel_rfl))
  subst h41 h141 h151
  refine ⟨⟨x0, x1, x2, x3, a4, c4, l4, x5, x6, x7, x8, x9, x10, x11, x12, x13, a14, c14, l14, a15, c15, l15⟩, ?_, ⟨wf64 w0, wf64 w1, w3, h43, h4c, h44, wf64 w5, wf64 w7, w8, wf64 w10, wf64 w13, h142, h143, h144, h152, h153, h154⟩⟩
  match cs, hl with
  | [y0, y1, y2, y3, y4, y5, y6, y7, y8, y9, y10, y11, y12, y13, y14, y15], _ =>
    simp at e0 e1 e2 e3 e4 e5 e6 e7 e8 e9 e10 e11 e12 e13 e14 e15
    rw [e0, e1, e2, e3, e4, e5, e6, e7, e8, e9, e10, e11, e12, e13, e14, e15]
theorem packets_of {v : Nat} {W : World} {cs : List Value} (h : OkT Go.Proofs.Tryd.prog W (v + 6) 54 cs) : ∃ (a : Option Addr) (n c : Nat) (l : List PkM), cs = [.slice a n c] ∧ n = l.length ∧ n ≤ c ∧ n ≤ 140737488355328 ∧ Rd0 W a (l.flatMap PkM.cells) ∧ ∀ x ∈ l, x.Ok W := by
  obtain ⟨a, n, c, l, h1, h2, h3, h4, h5, h6⟩ := h.slice (e := 28) (k := 16) (by kernel_rfl) (by kernel_rfl) (enc := PkM.cells) (Q := fun m => m.Ok W) (fun _ => rfl) fun ys hy _ => packet_of (v := v) hy
  have hb : Go.Proofs.Tryd.prog.bytesOf 28 = 184 := by kernel_rfl
  rw [hb] at h4
  exact ⟨a, n, c, l, h1, h2, h3, by omega, h5, h6⟩
end Go.G.YtciepfobnaemmaaDoor
