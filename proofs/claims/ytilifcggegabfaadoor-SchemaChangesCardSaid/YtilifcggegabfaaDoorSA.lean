/- States as arguments. -/
import Derived.Test.YtilifcggegabfaaDoorGTab
import Derived.Test.YtilifcggegabfaaDoorGOwn
import Derived.Test.YtilifcggegabfaaDoorProg
set_option maxRecDepth 100000
namespace Go.G.YtilifcggegabfaaDoor
open Go.RowKit
open Value (string slice int bool agg)
/-! ### states, as an argument has them -/
structure MsgM where
  topic : ByteArray
  pa : Option Addr
  pc : Nat
  pay : List UInt8
  qos : Int
  ret : Bool
  til : Int
@[reducible] def MsgM.cells (m : MsgM) : List Value := [.string m.topic, .slice m.pa m.pay.length m.pc, .int .i64 m.qos, .bool m.ret, .int .i64 m.til]
structure WantM where
  filter : ByteArray
  qos : Int
@[reducible] def WantM.cells (m : WantM) : List Value := [.string m.filter, .int .i64 m.qos]
structure FlM where
  id : Int
  step : Int
  order : Int
  msg : MsgM
@[reducible] def FlM.cells (m : FlM) : List Value := [.int .i64 m.id, .int .i64 m.step, .int .i64 m.order] ++ m.msg.cells
structure SesM where
  client : ByteArray
  sa : Option Addr
  sc : Nat
  subs : List WantM
  qa : Option Addr
  qc : Nat
  queue : List MsgM
  fa : Option Addr
  fc : Nat
  fl : List FlM
  ia : Option Addr
  ic : Nat
  ids : List Int
  next : Int
  head : Int
  sent : Int
@[reducible] def SesM.cells (m : SesM) : List Value := [.string m.client, .slice m.sa m.subs.length m.sc, .slice m.qa m.queue.length m.qc, .slice m.fa m.fl.length m.fc, .slice m.ia m.ids.length m.ic, .int .i64 m.next, .int .i64 m.head, .int .i64 m.sent]
structure StM where
  clock : Int
  ra : Option Addr
  rc : Nat
  ret : List MsgM
  sa : Option Addr
  sc : Nat
  ses : List SesM
@[reducible] def StM.cells (m : StM) : List Value := [.int .i64 m.clock, .slice m.ra m.ret.length m.rc, .slice m.sa m.ses.length m.sc]
@[reducible] def StM.agg (m : StM) : Value := .agg m.cells.toArray
def i64 (x : Int) : Prop := -9223372036854775808 ≤ x ∧ x ≤ 9223372036854775807
structure MsgM.Ok (W : World) (m : MsgM) : Prop where
  tl : m.topic.size ≤ 140737488351232
  pl : m.pay.length ≤ 140737488355328
  pay : Rd0 W m.pa (u8s m.pay)
  qos : i64 m.qos
  til : i64 m.til
structure WantM.Ok (m : WantM) : Prop where
  fl : m.filter.size ≤ 140737488351232
  qos : i64 m.qos
structure FlM.Ok (W : World) (m : FlM) : Prop where
  id : i64 m.id
  step : i64 m.step
  order : i64 m.order
  msg : m.msg.Ok W
structure SesM.Ok (W : World) (m : SesM) : Prop where
  cl : m.client.size ≤ 140737488351232
  sl : m.subs.length ≤ 140737488355328
  subs : Rd0 W m.sa (m.subs.flatMap WantM.cells)
  subk : ∀ x ∈ m.subs, x.Ok
  ql : m.queue.length ≤ 140737488355328
  queue : Rd0 W m.qa (m.queue.flatMap MsgM.cells)
  queuek : ∀ x ∈ m.queue, x.Ok W
  fll : m.fl.length ≤ 140737488355328
  flc : m.fl.length ≤ m.fc
  fl : Rd0 W m.fa (m.fl.flatMap FlM.cells)
  flk : ∀ x ∈ m.fl, x.Ok W
  il : m.ids.length ≤ 140737488355328
  ids : Rd0 W m.ia (m.ids.flatMap fun x => [.int .i64 x])
  idk : ∀ x ∈ m.ids, i64 x
  next : i64 m.next
  head : i64 m.head
  sent : i64 m.sent
structure StM.Ok (W : World) (m : StM) : Prop where
  clock : i64 m.clock
  rl : m.ret.length ≤ 140737488355328
  ret : Rd0 W m.ra (m.ret.flatMap MsgM.cells)
  retk : ∀ x ∈ m.ret, x.Ok W
  sl : m.ses.length ≤ 140737488355328
  slc : m.ses.length ≤ m.sc
  ses : Rd0 W m.sa (m.ses.flatMap SesM.cells)
  sesk : ∀ x ∈ m.ses, x.Ok W
theorem wf64 {x : Int} (h : (Lit.int .i64 x).wf = true) : i64 x := by
  simpa [i64, Lit.wf, IntKind.min, IntKind.max, IntKind.signed, IntKind.bits] using h
theorem bytes_of {v : Nat} {W : World} {cs : List Value} (h : OkT Go.Proofs.Tryd.prog W (v + 2) 35 cs) : ∃ (a : Option Addr) (n c : Nat) (l : List UInt8), cs = [.slice a n c] ∧ n = l.length ∧ n ≤ c ∧ n ≤ 140737488355328 ∧ Rd0 W a (u8s l) := by
  obtain ⟨a, n, c, l, h1, h2, h3, h4, h5, h6⟩ := h.slice (e := 5) (k := 1) (by kernel_rfl) (by kernel_rfl) (enc := fun b : UInt8 => [.int .u8 b.toNat]) (Q := fun _ => True) (fun _ => rfl) fun ys hy _ => by
    obtain ⟨x, rfl, hw⟩ := hy.int (k := .u8) (by kernel_rfl)
    have hb : 0 ≤ x ∧ x ≤ 255 := by simpa [Lit.wf, IntKind.min, IntKind.max, IntKind.signed, IntKind.bits] using hw
    refine ⟨UInt8.ofNat x.toNat, ?_, trivial⟩
    rw [UInt8.toNat_ofNat', Nat.mod_eq_of_lt (by omega), Int.toNat_of_nonneg hb.1]
  refine ⟨a, n, c, l, h1, h2, h3, ?_, ?_⟩
  · have : Go.Proofs.Tryd.prog.bytesOf 5 = 1 := by kernel_rfl
    rw [this] at h4; omega
  · have : u8s l = l.flatMap fun b : UInt8 => [Value.int .u8 b.toNat] := by
      clear h2 h5 h6
      induction l with
      | nil => rfl
      | cons b l ih => rw [List.flatMap_cons, ← ih]; rfl
    rw [this]; exact h5
theorem msg_of {v : Nat} {W : World} {cs : List Value} (h : OkT Go.Proofs.Tryd.prog W (v + 3) 54 cs) : ∃ m : MsgM, cs = m.cells ∧ m.Ok W := by
  have hl := h.cells (k := 5) (by kernel_rfl) (by kernel_rfl)
  obtain ⟨x0, e0, w0⟩ := (h.field (i := 0) (ty := 9) (off := 0) (k := 1) (by kernel_rfl) (by kernel_rfl)).string (by kernel_rfl)
  obtain ⟨a1, n1, c1, l1, e1, h11, _, h13, h14⟩ := bytes_of (h.field (i := 1) (ty := 35) (off := 1) (k := 1) (by kernel_rfl) (by kernel_rfl))
  obtain ⟨x2, e2, w2⟩ := (h.field (i := 2) (ty := 3) (off := 2) (k := 1) (by kernel_rfl) (by kernel_rfl)).int (k := .i64) (by kernel_rfl)
  obtain ⟨x3, e3⟩ := (h.field (i := 3) (ty := 4) (off := 3) (k := 1) (by kernel_rfl) (by kernel_rfl)).bool (by kernel_rfl)
  obtain ⟨x4, e4, w4⟩ := (h.field (i := 4) (ty := 2) (off := 4) (k := 1) (by kernel_rfl) (by kernel_rfl)).int (k := .i64) (by kernel_rfl)
  subst h11
  refine ⟨⟨x0, a1, c1, l1, x2, x3, x4⟩, ?_, ⟨w0, h13, h14, wf64 w2, wf64 w4⟩⟩
  match cs, hl with
  | [y0, y1, y2, y3, y4], _ =>
    simp at e0 e1 e2 e3 e4
    rw [e0, e1, e2, e3, e4]
theorem want_of {v : Nat} {W : World} {cs : List Value} (h : OkT Go.Proofs.Tryd.prog W (v + 2) 66 cs) : ∃ m : WantM, cs = m.cells ∧ m.Ok := by
  have hl := h.cells (k := 2) (by kernel_rfl) (by kernel_rfl)
  obtain ⟨x0, e0, w0⟩ := (h.field (i := 0) (ty := 9) (off := 0) (k := 1) (by kernel_rfl) (by kernel_rfl)).string (by kernel_rfl)
  obtain ⟨x1, e1, w1⟩ := (h.field (i := 1) (ty := 3) (off := 1) (k := 1) (by kernel_rfl) (by kernel_rfl)).int (k := .i64) (by kernel_rfl)
  refine ⟨⟨x0, x1⟩, ?_, ⟨w0, wf64 w1⟩⟩
  match cs, hl with
  | [y0, y1], _ =>
    simp at e0 e1
    rw [e0, e1]
theorem fl_of {v : Nat} {W : World} {cs : List Value} (h : OkT Go.Proofs.Tryd.prog W (v + 4) 69 cs) : ∃ m : FlM, cs = m.cells ∧ m.Ok W := by
  have hl := h.cells (k := 8) (by kernel_rfl) (by kernel_rfl)
  obtain ⟨x0, e0, w0⟩ := (h.field (i := 0) (ty := 3) (off := 0) (k := 1) (by kernel_rfl) (by kernel_rfl)).int (k := .i64) (by kernel_rfl)
  obtain ⟨x1, e1, w1⟩ := (h.field (i := 1) (ty := 3) (off := 1) (k := 1) (by kernel_rfl) (by kernel_rfl)).int (k := .i64) (by kernel_rfl)
  obtain ⟨x2, e2, w2⟩ := (h.field (i := 2) (ty := 2) (off := 2) (k := 1) (by kernel_rfl) (by kernel_rfl)).int (k := .i64) (by kernel_rfl)
  obtain ⟨m, e3, w3⟩ := msg_of (h.field (i := 3) (ty := 54) (off := 3) (k := 5) (by kernel_rfl) (by kernel_rfl))
  refine ⟨⟨x0, x1, x2, m⟩, ?_, ⟨wf64 w0, wf64 w1, wf64 w2, w3⟩⟩
  match cs, hl with
  | [y0, y1, y2, y3, y4, y5, y6, y7], _ =>
    simp at e0 e1 e2 e3
    simp [e0, e1, e2, e3]
theorem msgs_of {v : Nat} {W : World} {cs : List Value} (h : OkT Go.Proofs.Tryd.prog W (v + 4) 22 cs) : ∃ (a : Option Addr) (n c : Nat) (l : List MsgM), cs = [.slice a n c] ∧ n = l.length ∧ l.length ≤ 140737488355328 ∧ Rd0 W a (l.flatMap MsgM.cells) ∧ ∀ x ∈ l, x.Ok W := by
  obtain ⟨a, n, c, l, h1, h2, h3, h4, h5, h6⟩ := h.slice (e := 54) (k := 5) (by kernel_rfl) (by kernel_rfl) (enc := MsgM.cells) (Q := fun t => t.Ok W) (fun _ => rfl) fun ys hy _ => msg_of hy
  have hb : Go.Proofs.Tryd.prog.bytesOf 54 = 64 := by kernel_rfl
  rw [hb] at h4
  exact ⟨a, n, c, l, h1, h2, by omega, h5, h6⟩
theorem wants_of {v : Nat} {W : World} {cs : List Value} (h : OkT Go.Proofs.Tryd.prog W (v + 3) 30 cs) : ∃ (a : Option Addr) (n c : Nat) (l : List WantM), cs = [.slice a n c] ∧ n = l.length ∧ l.length ≤ 140737488355328 ∧ Rd0 W a (l.flatMap WantM.cells) ∧ ∀ x ∈ l, x.Ok := by
  obtain ⟨a, n, c, l, h1, h2, h3, h4, h5, h6⟩ := h.slice (e := 66) (k := 2) (by kernel_rfl) (by kernel_rfl) (enc := WantM.cells) (Q := fun t => t.Ok) (fun _ => rfl) fun ys hy _ => want_of hy
  have hb : Go.Proofs.Tryd.prog.bytesOf 66 = 24 := by kernel_rfl
  rw [hb] at h4
  exact ⟨a, n, c, l, h1, h2, by omega, h5, h6⟩
theorem fls_of {v : Nat} {W : World} {cs : List Value} (h : OkT Go.Proofs.Tryd.prog W (v + 5) 31 cs) : ∃ (a : Option Addr) (n c : Nat) (l : List FlM), cs = [.slice a n c] ∧ n = l.length ∧ l.length ≤ 140737488355328 ∧ l.length ≤ c ∧ Rd0 W a (l.flatMap FlM.cells) ∧ ∀ x ∈ l, x.Ok W := by
  obtain ⟨a, n, c, l, h1, h2, h3, h4, h5, h6⟩ := h.slice (e := 69) (k := 8) (by kernel_rfl) (by kernel_rfl) (enc := FlM.cells) (Q := fun t => t.Ok W) (fun _ => rfl) fun ys hy _ => fl_of hy
  have hb : Go.Proofs.Tryd.prog.bytesOf 69 = 88 := by kernel_rfl
  rw [hb] at h4
  exact ⟨a, n, c, l, h1, h2, by omega, by omega, h5, h6⟩
theorem ints_of {v : Nat} {W : World} {cs : List Value} (h : OkT Go.Proofs.Tryd.prog W (v + 2) 32 cs) : ∃ (a : Option Addr) (n c : Nat) (l : List Int), cs = [.slice a n c] ∧ n = l.length ∧ l.length ≤ 140737488355328 ∧ Rd0 W a (l.flatMap fun x => [.int .i64 x]) ∧ ∀ x ∈ l, i64 x := by
  obtain ⟨a, n, c, l, h1, h2, h3, h4, h5, h6⟩ := h.slice (e := 3) (k := 1) (by kernel_rfl) (by kernel_rfl) (enc := fun x : Int => [.int .i64 x]) (Q := i64) (fun _ => rfl) fun ys hy _ => by
    obtain ⟨x, rfl, hw⟩ := hy.int (k := .i64) (by kernel_rfl)
    exact ⟨x, rfl, wf64 hw⟩
  have hb : Go.Proofs.Tryd.prog.bytesOf 3 = 8 := by kernel_rfl
  rw [hb] at h4
  exact ⟨a, n, c, l, h1, h2, by omega, h5, h6⟩
theorem ses_of {v : Nat} {W : World} {cs : List Value} (h : OkT Go.Proofs.Tryd.prog W (v + 6) 34 cs) : ∃ m : SesM, cs = m.cells ∧ m.Ok W := by
  have hl := h.cells (k := 8) (by kernel_rfl) (by kernel_rfl)
  obtain ⟨x0, e0, w0⟩ := (h.field (i := 0) (ty := 9) (off := 0) (k := 1) (by kernel_rfl) (by kernel_rfl)).string (by kernel_rfl)
  obtain ⟨a1, n1, c1, l1, e1, h11, h12, h13, h14⟩ := wants_of (v := v + 2) (h.field (i := 1) (ty := 30) (off := 1) (k := 1) (by kernel_rfl) (by kernel_rfl))
  obtain ⟨a2, n2, c2, l2, e2, h21, h22, h23, h24⟩ := msgs_of (v := v + 1) (h.field (i := 2) (ty := 22) (off := 2) (k := 1) (by kernel_rfl) (by kernel_rfl))
  obtain ⟨a3, n3, c3, l3, e3, h31, h32, h3c, h33, h34⟩ := fls_of (v := v) (h.field (i := 3) (ty := 31) (off := 3) (k := 1) (by kernel_rfl) (by kernel_rfl))
  obtain ⟨a4, n4, c4, l4, e4, h41, h42, h43, h44⟩ := ints_of (v := v + 3) (h.field (i := 4) (ty := 32) (off := 4) (k := 1) (by kernel_rfl) (by kernel_rfl))
  obtain ⟨x5, e5, w5⟩ := (h.field (i := 5) (ty := 3) (off := 5) (k := 1) (by kernel_rfl) (by kernel_rfl)).int (k := .i64) (by kernel_rfl)
  obtain ⟨x6, e6, w6⟩ := (h.field (i := 6) (ty := 2) (off := 6) (k := 1) (by kernel_rfl) (by kernel_rfl)).int (k := .i64) (by kernel_rfl)
  obtain ⟨x7, e7, w7⟩ := (h.field (i := 7) (ty := 2) (off := 7) (k := 1) (by kernel_rfl) (by kernel_rfl)).int (k := .i64) (by kernel_rfl)
  subst h11 h21 h31 h41
  refine ⟨⟨x0, a1, c1, l1, a2, c2, l2, a3, c3, l3, a4, c4, l4, x5, x6, x7⟩, ?_, ⟨w0, h12, h13, h14, h22, h23, h24, h32, h3c, h33, h34, h42, h43, h44, wf64 w5, wf64 w6, wf64 w7⟩⟩
  match cs, hl with
  | [y0, y1, y2, y3, y4, y5, y6, y7], _ =>
    simp at e0 e1 e2 e3 e4 e5 e6 e7
    rw [e0, e1, e2, e3, e4, e5, e6, e7]
/-- A state. -/
theorem state_of {v : Nat} {W : World} {cs : List Value} (h : OkT Go.Proofs.Tryd.prog W (v + 8) 25 cs) : ∃ m : StM, cs = m.cells ∧ m.Ok W := by
  have hl := h.cells (k := 3) (by kernel_rfl) (by kernel_rfl)
  obtain ⟨x0, e0, w0⟩ := (h.field (i := 0) (ty := 2) (off := 0) (k := 1) (by kernel_rfl) (by kernel_rfl)).int (k := .i64) (by kernel_rfl)
  obtain ⟨a1, n1, c1, l1, e1, h11, h12, h13, h14⟩ := msgs_of (v := v + 3) (h.field (i := 1) (ty := 22) (off := 1) (k := 1) (by kernel_rfl) (by kernel_rfl))
  obtain ⟨a2, n2, c2, l2, e2, h21, h22, h23, h24, h25⟩ := (h.field (i := 2) (ty := 23) (off := 2) (k := 1) (by kernel_rfl) (by kernel_rfl)).slice (e := 34) (k := 8) (by kernel_rfl) (by kernel_rfl) (enc := SesM.cells) (Q := fun t => t.Ok W) (fun _ => rfl) fun ys hy _ => ses_of (v := v) hy
  have hb : Go.Proofs.Tryd.prog.bytesOf 34 = 136 := by kernel_rfl
  rw [hb] at h23
  subst h11 h21
  refine ⟨⟨x0, a1, c1, l1, a2, c2, l2⟩, ?_, ⟨wf64 w0, h12, h13, h14, by show l2.length ≤ _; omega, by show l2.length ≤ c2; omega, h24, h25⟩⟩
  match cs, hl with
  | [y0, y1, y2], _ =>
    simp at e0 e1 e2
    rw [e0, e1, e2]
end Go.G.YtilifcggegabfaaDoor
