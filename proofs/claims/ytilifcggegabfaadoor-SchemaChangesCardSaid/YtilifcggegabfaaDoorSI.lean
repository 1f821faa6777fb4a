/- Which states may be, plainly. -/
import Derived.Test.YtilifcggegabfaaDoorSC
import Derived.Test.YtilifcggegabfaaDoorTA
import Derived.Sort.Walk0
import Derived.Test.YtilifcggegabfaaDoorProg
set_option maxRecDepth 100000
namespace Go.G.YtilifcggegabfaaDoor
open Go.RowKit
open Value (string slice int bool agg)
/-! ### which states may be, plainly -/
def MsgM.nrm (m : MsgM) : MsgM := { m with pa := none, pc := 0 }
def FlM.nrm (m : FlM) : FlM := { m with msg := m.msg.nrm }
def SesM.nrm (m : SesM) : SesM := { m with sa := none, sc := 0, qa := none, qc := 0, queue := m.queue.map MsgM.nrm, fa := none, fc := 0, fl := m.fl.map FlM.nrm, ia := none, ic := 0 }
def StM.nrm (m : StM) : StM := { m with ra := none, rc := 0, ret := m.ret.map MsgM.nrm, sa := none, sc := 0, ses := m.ses.map SesM.nrm }
def sLt (a b : ByteArray) : Prop := Op.bytesLess a.toList b.toList = true
theorem sLt_trans {a b c : ByteArray} (h1 : sLt a b) (h2 : sLt b c) : sLt a c := by
  simp only [sLt, Proofs.bytesLess_eq, decide_eq_true_eq] at *
  exact List.lt_trans h1 h2
structure MayMsg (m : MsgM) : Prop where
  topic : nameB m.topic = true
  pay : m.pay.length ≤ 256
  qos0 : 0 ≤ m.qos
  qos2 : m.qos ≤ 2
  til0 : 0 ≤ m.til
  til2 : m.til ≤ 2199023255552
def Rise {α : Type} (lt : α → α → Prop) (l : List α) : Prop := ∀ (i : Nat) a b, l[i]? = some a → l[i + 1]? = some b → lt a b
structure MayWant (w : WantM) : Prop where
  filter : filterB w.filter = true
  qos0 : 0 ≤ w.qos
  qos2 : w.qos ≤ 2
structure MayQ (clock : Int) (m : MsgM) : Prop where
  may : MayMsg m
  qos : m.qos ≠ 0
  til : clock < m.til
structure MayFl (sent : Int) (f : FlM) : Prop where
  may : MayMsg f.msg
  qos : f.msg.qos ≠ 0
  til : f.msg.til = 0
  id1 : 1 ≤ f.id
  id2 : f.id ≤ 65535
  order0 : 0 ≤ f.order
  order : f.order < sent
  step : f.step = 1 ∨ f.step = 2 ∧ f.msg.qos = 2
def Diff (l : List FlM) : Prop := ∀ (i j : Nat) a b, j < i → l[i]? = some a → l[j]? = some b → b.id ≠ a.id
structure MaySes (clock : Int) (x : SesM) : Prop where
  client : clientB x.client = true
  next0 : 0 ≤ x.next
  next : x.next ≤ 65535
  head0 : 0 ≤ x.head
  head : x.head ≤ 1152921504606846976
  sent0 : 0 ≤ x.sent
  sent : x.sent ≤ 1152921504606846976
  sl : x.subs.length ≤ 16
  ql : x.queue.length ≤ 16
  fll : x.fl.length ≤ 4
  il : x.ids.length ≤ 64
  subs : ∀ w ∈ x.subs, MayWant w
  rise : Rise (fun a b : WantM => sLt a.filter b.filter) x.subs
  queue : ∀ m ∈ x.queue, MayQ clock m
  fl : ∀ f ∈ x.fl, MayFl x.sent f
  flr : Rise (fun a b : FlM => a.order < b.order) x.fl
  fld : Diff x.fl
  ids : ∀ n ∈ x.ids, 1 ≤ n ∧ n ≤ 65535
  idr : Rise (fun a b : Int => a < b) x.ids
structure MayRet (clock : Int) (m : MsgM) : Prop where
  may : MayMsg m
  ret : m.ret = true
  pay : m.pay ≠ []
  til : clock < m.til
structure MaySt (s : StM) : Prop where
  clock0 : 0 ≤ s.clock
  clock : s.clock ≤ 1099511627776
  rl : s.ret.length ≤ 64
  sl : s.ses.length ≤ 16
  ret : ∀ m ∈ s.ret, MayRet s.clock m
  retr : Rise (fun a b : MsgM => sLt a.topic b.topic) s.ret
  ses : ∀ x ∈ s.ses, MaySes s.clock x
  sesr : Rise (fun a b : SesM => sLt a.client b.client) s.ses
theorem Rise.pairwise {α : Type} {lt : α → α → Prop} (tr : ∀ a b c, lt a b → lt b c → lt a c) : ∀ {l : List α}, Rise lt l → l.Pairwise lt
  | [], _ => .nil
  | x :: l, h => by
    have ht : l.Pairwise lt := Rise.pairwise tr fun i a b ha hb => h (i + 1) a b (by simpa using ha) (by simpa using hb)
    refine .cons (fun y hy => ?_) ht
    cases l with
    | nil => cases hy
    | cons z l =>
      have h1 : lt x z := h 0 x z rfl rfl
      rcases List.mem_cons.1 hy with rfl | hy
      · exact h1
      · exact tr _ _ _ h1 ((List.pairwise_cons.1 ht).1 y hy)
theorem Rise.of_pairwise {α : Type} {lt : α → α → Prop} {l : List α} (h : l.Pairwise lt) : Rise lt l := fun i a b ha hb => by
  obtain ⟨h1, rfl⟩ := List.getElem?_eq_some_iff.1 ha
  obtain ⟨h2, rfl⟩ := List.getElem?_eq_some_iff.1 hb
  exact List.pairwise_iff_getElem.1 h i (i + 1) h1 h2 (by omega)
theorem Rise.filter {α : Type} {lt : α → α → Prop} (tr : ∀ a b c, lt a b → lt b c → lt a c) {l : List α} (p : α → Bool) (h : Rise lt l) : Rise lt (l.filter p) :=
  .of_pairwise ((h.pairwise tr).filter p)
theorem Rise.map {α β : Type} {lt : α → α → Prop} {lu : β → β → Prop} (f : α → β) (hf : ∀ a b, lu (f a) (f b) ↔ lt a b) {l : List α} : Rise lu (l.map f) ↔ Rise lt l := by
  unfold Rise
  constructor
  · intro h i a b ha hb
    exact (hf a b).1 (h i (f a) (f b) (by simp [ha]) (by simp [hb]))
  · intro h i a b ha hb
    rw [List.getElem?_map] at ha hb
    obtain ⟨a', ha', rfl⟩ := Option.map_eq_some_iff.1 ha
    obtain ⟨b', hb', rfl⟩ := Option.map_eq_some_iff.1 hb
    exact (hf a' b').2 (h i a' b' ha' hb')
theorem all_map {α β : Type} {P : α → Prop} {Q : β → Prop} {f : α → β} (hf : ∀ a, Q (f a) ↔ P a) {l : List α} : (∀ x ∈ l.map f, Q x) ↔ ∀ x ∈ l, P x := by
  simp [hf]
theorem MayMsg.nrm {m : MsgM} : MayMsg m.nrm ↔ MayMsg m := ⟨fun h => ⟨h.1, h.2, h.3, h.4, h.5, h.6⟩, fun h => ⟨h.1, h.2, h.3, h.4, h.5, h.6⟩⟩
theorem MayQ.nrm {c : Int} {m : MsgM} : MayQ c m.nrm ↔ MayQ c m := ⟨fun h => ⟨MayMsg.nrm.1 h.1, h.2, h.3⟩, fun h => ⟨MayMsg.nrm.2 h.1, h.2, h.3⟩⟩
theorem MayRet.nrm {c : Int} {m : MsgM} : MayRet c m.nrm ↔ MayRet c m := ⟨fun h => ⟨MayMsg.nrm.1 h.1, h.2, h.3, h.4⟩, fun h => ⟨MayMsg.nrm.2 h.1, h.2, h.3, h.4⟩⟩
theorem MayFl.nrm {c : Int} {m : FlM} : MayFl c m.nrm ↔ MayFl c m := ⟨fun h => ⟨MayMsg.nrm.1 h.1, h.2, h.3, h.4, h.5, h.6, h.7, h.8⟩, fun h => ⟨MayMsg.nrm.2 h.1, h.2, h.3, h.4, h.5, h.6, h.7, h.8⟩⟩
theorem Diff.nrm {l : List FlM} : Diff (l.map FlM.nrm) ↔ Diff l := by
  unfold Diff
  constructor
  · intro h i j a b hj ha hb
    exact h i j a.nrm b.nrm hj (by simp [ha]) (by simp [hb])
  · intro h i j a b hj ha hb
    rw [List.getElem?_map] at ha hb
    obtain ⟨a', ha', rfl⟩ := Option.map_eq_some_iff.1 ha
    obtain ⟨b', hb', rfl⟩ := Option.map_eq_some_iff.1 hb
    exact h i j a' b' hj ha' hb'
theorem MaySes.nrm {c : Int} {x : SesM} : MaySes c x.nrm ↔ MaySes c x :=
  ⟨fun h => ⟨h.client, h.next0, h.next, h.head0, h.head, h.sent0, h.sent, h.sl, by simpa [SesM.nrm] using h.ql, by simpa [SesM.nrm] using h.fll, h.il, h.subs, h.rise, (all_map fun _ => MayQ.nrm).1 h.queue, (all_map fun _ => MayFl.nrm).1 h.fl, (Rise.map (lt := fun a b : FlM => a.order < b.order) (lu := fun a b : FlM => a.order < b.order) FlM.nrm fun _ _ => Iff.rfl).1 h.flr, Diff.nrm.1 h.fld, h.ids, h.idr⟩,
    fun h => ⟨h.client, h.next0, h.next, h.head0, h.head, h.sent0, h.sent, h.sl, by simpa [SesM.nrm] using h.ql, by simpa [SesM.nrm] using h.fll, h.il, h.subs, h.rise, (all_map fun _ => MayQ.nrm).2 h.queue, (all_map fun _ => MayFl.nrm).2 h.fl, (Rise.map (lt := fun a b : FlM => a.order < b.order) (lu := fun a b : FlM => a.order < b.order) FlM.nrm fun _ _ => Iff.rfl).2 h.flr, Diff.nrm.2 h.fld, h.ids, h.idr⟩⟩
theorem MaySt.nrm {s : StM} : MaySt s.nrm ↔ MaySt s :=
  ⟨fun h => ⟨h.clock0, h.clock, by simpa [StM.nrm] using h.rl, by simpa [StM.nrm] using h.sl, (all_map fun _ => MayRet.nrm).1 h.ret, (Rise.map (lt := fun a b : MsgM => sLt a.topic b.topic) (lu := fun a b : MsgM => sLt a.topic b.topic) MsgM.nrm fun _ _ => Iff.rfl).1 h.retr, (all_map fun _ => MaySes.nrm).1 h.ses, (Rise.map (lt := fun a b : SesM => sLt a.client b.client) (lu := fun a b : SesM => sLt a.client b.client) SesM.nrm fun _ _ => Iff.rfl).1 h.sesr⟩,
    fun h => ⟨h.clock0, h.clock, by simpa [StM.nrm] using h.rl, by simpa [StM.nrm] using h.sl, (all_map fun _ => MayRet.nrm).2 h.ret, (Rise.map (lt := fun a b : MsgM => sLt a.topic b.topic) (lu := fun a b : MsgM => sLt a.topic b.topic) MsgM.nrm fun _ _ => Iff.rfl).2 h.retr, (all_map fun _ => MaySes.nrm).2 h.ses, (Rise.map (lt := fun a b : SesM => sLt a.client b.client) (lu := fun a b : SesM => sLt a.client b.client) SesM.nrm fun _ _ => Iff.rfl).2 h.sesr⟩⟩
/-! ### the same states -/
theorem nrm_get {α : Type} {f : α → α} {l m : List α} (h : l.map f = m.map f) {i : Nat} {a b : α} (ha : l[i]? = some a) (hb : m[i]? = some b) : f a = f b := by
  have e := congrArg (fun l : List α => l[i]?) h
  simpa [ha, hb] using e
theorem nrm_len {α : Type} {f : α → α} {l m : List α} (h : l.map f = m.map f) : l.length = m.length := by
  have e := congrArg List.length h
  simpa using e
theorem sameM_of {a b : MsgM} (h : a.nrm = b.nrm) : SameM a b := by
  simp only [MsgM.nrm, MsgM.mk.injEq] at h
  exact ⟨h.1, h.2.2.2.1, h.2.2.2.2.1, h.2.2.2.2.2.1, h.2.2.2.2.2.2⟩
theorem sameF_of {a b : FlM} (h : a.nrm = b.nrm) : SameF a b := by
  simp only [FlM.nrm, FlM.mk.injEq] at h
  exact ⟨h.1, h.2.1, h.2.2.1, sameM_of h.2.2.2⟩
theorem sameS_of {a b : SesM} (h : a.nrm = b.nrm) : SameS a b := by
  simp only [SesM.nrm, SesM.mk.injEq, true_and] at h
  obtain ⟨h1, h2, h3, h4, h5, h6, h7, h8⟩ := h
  exact ⟨h1, h2, nrm_len h3, fun i a b ha hb => sameM_of (nrm_get h3 ha hb), nrm_len h4, fun i a b ha hb => sameF_of (nrm_get h4 ha hb), h5, h6, h7, h8⟩
theorem sameSt_of {a b : StM} (h : a.nrm = b.nrm) : SameSt a b := by
  simp only [StM.nrm, StM.mk.injEq, true_and] at h
  obtain ⟨h1, h2, h3⟩ := h
  exact ⟨h1, nrm_len h2, fun i a b ha hb => sameM_of (nrm_get h2 ha hb), nrm_len h3, fun i a b ha hb => sameS_of (nrm_get h3 ha hb)⟩
end Go.G.YtilifcggegabfaaDoor
