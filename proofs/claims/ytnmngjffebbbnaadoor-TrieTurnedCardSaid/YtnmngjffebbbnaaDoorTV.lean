/- Levels in memory; New. -/
import Derived.Test.YtnmngjffebbbnaaDoorTU
import Derived.Test.YtnmngjffebbbnaaDoorProg
set_option maxRecDepth 100000
namespace Go.G.YtnmngjffebbbnaaDoor
open Go.RowKit
open Value (string slice int bool agg)
def f25_J : Nat → List Nat × Nat := jOf []



theorem f25_go {w0 : World} {K : Value → AH → Prop}  (h : AH)
  (hv : (newB w0 h (AB.map []) (fun a c => (newB w0 c (AB.map []) (fun b d => (newB w0 d (AB.cells [(Value.map (some a)), (Value.map (some b))] (List.length [(Value.map (some a)), (Value.map (some b))])) (fun e g => (K (Value.pointer (some (Addr.mk e 0 none))) g)))))))) :
  EvC Proofs.Tryd.prog w0 25 ([]).toArray K h := EvC_intro (P := Proofs.Tryd.prog) f25_J (Eq.mp (by kernel_rfl) hv)
def f9_J : Nat → List Nat × Nat := jOf []



theorem f9_go {w0 : World} {K : Value → AH → Prop}  (h : AH)
  (hv : (EvC Proofs.Tryd.prog w0 25 #[] (fun c d => (∃ a : Option Addr, ((c = (Value.pointer a)) ∧ (newB w0 d (AB.map []) (fun b e => (newB w0 e (AB.cells [(Value.pointer a), (Value.map (some b))] (List.length [(Value.pointer a), (Value.map (some b))])) (fun g i => (K (Value.pointer (some (Addr.mk g 0 none))) i)))))))) h)) :
  EvC Proofs.Tryd.prog w0 9 ([]).toArray K h := EvC_intro (P := Proofs.Tryd.prog) f9_J (Eq.mp (by kernel_rfl) hv)
/-! ### levels in memory -/
theorem nds_app (N M : List Nd) : nds (N ++ M) = nds N ++ nds M := by
  induction N with
  | nil => rfl
  | cons n N ih => simp only [List.cons_append, nds, ih]
structure RdS (w0 : World) (R : List (Nat × AB)) (p : Option Addr) (c : Nat) (l : List ByteArray) : Prop where
  rd : ∀ h', (∀ x ∈ R, w0.heap.size ≤ x.1 ∧ h' x.1 = some x.2) → Rd w0 h' p (strs l)
  cap : l.length ≤ c
section
variable {w0 : World} {h : AH} {B R : List (Nat × AB)} {N : List Nd} {n m : Nd} {a : Option Addr} {c rb : Nat} {l : List ByteArray} {x : ByteArray}
theorem RdS.at (r : RdS w0 R a c l) (w : Own w0 h B) (hs : R ⊆ B) : Rd w0 h a (strs l) := r.rd h fun x hx => w.is x (hs hx)
theorem RdS.tail (r : RdS w0 R a c (x :: l)) : RdS w0 R (cutA 1 a c 1) (c - 1) l :=
  ⟨fun h' hx => strs_cut (r.rd h' hx) r.cap, by have := r.cap; rw [List.length_cons] at this; omega⟩
theorem RdS.own (v : SlV 1 a l.length c (strs l)) : RdS w0 (slB a (strs l) (c * 1)) a c l := ⟨fun h' hx => by
  obtain ⟨h1, h2, h3⟩ := v
  have s : Sl w0 h' 1 a l.length c (strs l) := by
    refine ⟨h1, h2, ?_⟩
    cases a with
    | none => exact h3
    | some ad => exact ⟨h3.1, h3.2, (hx _ (List.mem_cons_self ..)).1, (hx _ (List.mem_cons_self ..)).2⟩
  exact s.rd, v.2.1⟩
theorem nd_in (hn : n ∈ N) : (n.b, AB.cells [gV n.hm, gV n.dm] 2) ∈ nds N ++ B ∧ (n.hm, AB.map (mV iV n.here)) ∈ nds N ++ B ∧ (n.dm, AB.map (mV pV n.down)) ∈ nds N ++ B := by
  obtain ⟨s, t, rfl⟩ := List.append_of_mem hn
  rw [nds_app]
  refine ⟨?_, ?_, ?_⟩ <;> simp [nds]
theorem nd_here (w : Own w0 h (nds N ++ B)) (hn : n ∈ N) : cellA w0 h (Addr.add ⟨n.b, 0, none⟩ 0) = some (gV n.hm) := w.cell (nd_in hn).1 rfl
theorem nd_down (w : Own w0 h (nds N ++ B)) (hn : n ∈ N) : cellA w0 h (Addr.add ⟨n.b, 0, none⟩ 1) = some (gV n.dm) := w.cell (nd_in hn).1 rfl
theorem keys58 {α : Type} {enc : α → Value} (es : List (ByteArray × α)) : keysOk Go.Proofs.Tryd.prog 58 (mV enc es) := fun e he => by
  obtain ⟨x, _, rfl⟩ := List.mem_map.1 he
  exact (show plainKey Go.Proofs.Tryd.prog 58 (.string x.1) = true by kernel_rfl)
theorem keys59 {α : Type} {enc : α → Value} (es : List (ByteArray × α)) : keysOk Go.Proofs.Tryd.prog 59 (mV enc es) := fun e he => by
  obtain ⟨x, _, rfl⟩ := List.mem_map.1 he
  exact (show plainKey Go.Proofs.Tryd.prog 59 (.string x.1) = true by kernel_rfl)
theorem keys53 {α : Type} {enc : α → Value} (es : List (ByteArray × α)) : keysOk Go.Proofs.Tryd.prog 53 (mV enc es) := fun e he => by
  obtain ⟨x, _, rfl⟩ := List.mem_map.1 he
  exact (show plainKey Go.Proofs.Tryd.prog 53 (.string x.1) = true by kernel_rfl)
theorem pk58 (s : ByteArray) : plainKey Go.Proofs.Tryd.prog 58 (.string s) = true := by kernel_rfl
theorem pk59 (s : ByteArray) : plainKey Go.Proofs.Tryd.prog 59 (.string s) = true := by kernel_rfl
theorem pk53 (s : ByteArray) : plainKey Go.Proofs.Tryd.prog 53 (.string s) = true := by kernel_rfl
section
variable {α : Type} {enc : α → Value} {es : List (ByteArray × α)} {r : Nat} {K : List (Value × Value) → Prop}
theorem map58 (w : Own w0 h B) (hr : (r, AB.map (mV enc es)) ∈ B) (hk : K (mV enc es)) : mapAt Go.Proofs.Tryd.prog w0 h (some r) 58 K := mapAt_own (w.mem hr).1 (w.mem hr).2 (by kernel_rfl) (keys58 es) hk
theorem map59 (w : Own w0 h B) (hr : (r, AB.map (mV enc es)) ∈ B) (hk : K (mV enc es)) : mapAt Go.Proofs.Tryd.prog w0 h (some r) 59 K := mapAt_own (w.mem hr).1 (w.mem hr).2 (by kernel_rfl) (keys59 es) hk
theorem map53 (w : Own w0 h B) (hr : (r, AB.map (mV enc es)) ∈ B) (hk : K (mV enc es)) : mapAt Go.Proofs.Tryd.prog w0 h (some r) 53 K := mapAt_own (w.mem hr).1 (w.mem hr).2 (by kernel_rfl) (keys53 es) hk
theorem mapNo {t : TypeId} (ht : isMapT Go.Proofs.Tryd.prog t = true) (hk : K []) : mapAt Go.Proofs.Tryd.prog w0 h none t K := by
  unfold mapAt
  rw [ht]
  exact ⟨[], fun _ => rfl, fun r e => (by cases e), fun e he => (by cases he), hk⟩
end
theorem own_here {H : List (ByteArray × Int)} (w : Own w0 h (nds N ++ B)) {M : List Nd} (hp : N.Perm (n :: M)) : Own w0 (h.putm n.hm (mV iV H)) (nds ({ n with here := H } :: M) ++ B) :=
  Own.updm (cs := [(n.b, .cells [gV n.hm, gV n.dm] 2)]) (w.perm ((nds_perm hp).append_right B))
theorem own_down {H : List (ByteArray × Nat)} (w : Own w0 h (nds N ++ B)) {M : List Nd} (hp : N.Perm (n :: M)) : Own w0 (h.putm n.dm (mV pV H)) (nds ({ n with down := H } :: M) ++ B) :=
  Own.updm (cs := [(n.b, .cells [gV n.hm, gV n.dm] 2), (n.hm, .map (mV iV n.here))]) (w.perm ((nds_perm hp).append_right B))
theorem pV_get {k : ByteArray} {l : List (ByteArray × Nat)} : Option.getD (getM (.string k) (mV pV l)) (.pointer none) = .pointer ((getA k l).map fun b => ⟨b, 0, none⟩) := by
  rw [get_mV]; cases getA k l <;> rfl
theorem gV_get {k : ByteArray} {l : List (ByteArray × Nat)} : Option.getD (getM (.string k) (mV gV l)) (.map none) = .map (getA k l) := by
  rw [get_mV]; cases getA k l <;> rfl
theorem iV_get {k : ByteArray} {l : List (ByteArray × Int)} : Option.getD (getM (.string k) (mV iV l)) (.int .i64 0) = .int .i64 ((getA k l).getD 0) := by
  rw [get_mV]; cases getA k l <;> rfl
theorem str0 (r : RdS w0 R a c (x :: l)) (w : Own w0 h B) (hs : R ⊆ B) : ∃ ad, a = some ad ∧ cellA w0 h (Addr.add ad 0) = some (.string x) := strLoad (r.at w hs) rfl
end
section
variable {w0 : World} {K : Value → AH → Prop} {h : AH} {B : List (Nat × AB)}
/-- fresh. -/
theorem f25_spec (w : Own w0 h B) (hk : ∀ h' b hm dm, (∀ p, Own w0 h' (nds [⟨p, b, hm, dm, [], []⟩] ++ B)) → K (pV b) h') : EvC Go.Proofs.Tryd.prog w0 25 #[] K h := by
  refine f25_go _ fun b0 g0 n0 b1 g1 n1 b2 g2 n2 => ?_
  have w0' := Own.new (o := .map []) w g0 n0
  have w1 := Own.new (o := .map []) w0' g1 n1
  have w2 := Own.new (o := .cells [gV b0, gV b1] 2) w1 g2 n2
  refine hk _ b2 b0 b1 fun p => ?_
  exact w2.perm (by
    refine List.Perm.cons _ ?_
    exact List.Perm.swap _ _ _)
/-- New. -/
theorem f9_spec (w : Own w0 h B) (hk : ∀ h' D, Rep [] D → Own w0 h' (D.own B) → K (pV D.tb) h') : EvC Go.Proofs.Tryd.prog w0 9 #[] K h := by
  refine f9_go _ (f25_spec w fun h1 b hm dm w1 => ⟨_, rfl, fun b1 g1 n1 b2 g2 n2 => ?_⟩)
  have w2 := Own.new (o := .map []) (w1 []) g1 n1
  have w3 := Own.new (o := .cells [pV b, gV b1] 2) w2 g2 n2
  refine hk _ ⟨b2, b1, b, [⟨[], b, hm, dm, [], []⟩], []⟩ ?_ ?_
  · refine ⟨⟨⟨_, List.mem_singleton.2 rfl, rfl, rfl⟩, by simp, fun n hn => ?_, fun n hn => ?_, fun n hn k b => ?_, fun n hn P k e => ?_⟩, List.Pairwise.nil, fun s hs => (by cases hs), fun c P q => ?_, List.nodup_nil, fun a ha => (by cases ha), fun c f q => ?_⟩
    · rw [List.mem_singleton] at hn; subst hn; exact List.nodup_nil
    · rw [List.mem_singleton] at hn; subst hn; exact List.nodup_nil
    · rw [List.mem_singleton] at hn; subst hn
      constructor
      · intro a; cases a
      · rintro ⟨m, hm, e, _⟩
        rw [List.mem_singleton] at hm; subst hm
        cases e
    · rw [List.mem_singleton] at hn; subst hn
      have := congrArg List.length e
      simp at this
    · constructor
      · rintro ⟨n, hn, _, a⟩
        rw [List.mem_singleton] at hn; subst hn; cases a
      · rintro ⟨f, _, a⟩; cases a
    · constructor
      · intro a; cases a
      · rintro ⟨a, ha, _⟩; cases ha
  · exact w3.perm (by
      classical
      rw [List.perm_iff_count]
      intro t
      simp only [TD.own, TD.rest, nds, acs, allV, mV, List.map_nil, List.nil_append, List.cons_append, List.count_cons]
      omega)
end
end Go.G.YtnmngjffebbbnaaDoor
