/- take. -/
import Derived.Test.YtnmngjffebbbnaaDoorTV
import Derived.Test.YtnmngjffebbbnaaDoorProg
set_option maxRecDepth 100000
namespace Go.G.YtnmngjffebbbnaaDoor
open Go.RowKit
open Value (string slice int bool agg)
def f45_J : Nat → List Nat × Nat := jOf [(1, (0 :: (rn 11 9 (rn 33 21 []))), 0), (5, (0 :: (2 :: (rn 11 6 (rn 29 17 [30, 31, 32])))), 0)]

def f45_1 (w0 : World) (K : Value → AH → Prop) (a b : Addr) (h : AH) : Prop :=
  ∀ j : Nat → Value, LPk Proofs.Tryd.prog w0 (EvC Proofs.Tryd.prog w0) f45_J 45 K 1 (jv j 1 1 (.v (.pointer (some a)) :: (jv j 11 9 (.v (.pointer (some b)) :: (jv j 33 21 []))))) [] h

def f45_5 (w0 : World) (K : Value → AH → Prop) (a : Addr) (b : ByteArray) (c : Int) (d : Addr) (e : Bool) (h : AH) : Prop :=
  ∀ j : Nat → Value, LPk Proofs.Tryd.prog w0 (EvC Proofs.Tryd.prog w0) f45_J 45 K 5 (jv j 1 1 (.v (.pointer (some a)) :: (jv j 3 1 (.v (.string b) :: (.v (.int .i64 c) :: (jv j 11 6 (.v (.pointer (some d)) :: (jv j 29 17 (.v (.bool e) :: (jv j 33 3 [])))))))))) [] h

theorem f45_1_in {w0 : World} {K : Value → AH → Prop} (d b : Addr) (h : AH)
  (hv : (nextM h b (fun p q c => (entryM c b (fun m n => (∃ a : ByteArray, (∃ e : Int, ((entIs m n (string a) (int .i64 e)) ∧ (∃ g : Option Nat, (((cellA w0 c d) = (some (Value.map g))) ∧ (((plainKey Proofs.Tryd.prog 58 (string a)) = true) ∧ (mapAt Proofs.Tryd.prog w0 c g 58 (fun i => (∃ k : Int, (((int .i64 k) = (Option.getD (getM (string a) i) (int .i64 (0 : Int)))) ∧ (brB (!(Option.isSome (getM (string a) i))) (f45_5 w0 K d a e b true c) (f45_5 w0 K d a e b (decide ((k < e))) c))))))))))))))) (fun o => (K (Value.tuple #[]) o)))) :
  f45_1 w0 K d b h := fun j => LP_intro (P := Proofs.Tryd.prog) (Eq.mp (by kernel_rfl) hv)

theorem f45_5_in {w0 : World} {K : Value → AH → Prop} (a : Addr) (b : ByteArray) (e : Int) (c : Addr) (g : Bool) (h : AH)
  (hv : (brB g (∃ i : Option Nat, (((cellA w0 h a) = (some (Value.map i))) ∧ (((plainKey Proofs.Tryd.prog 58 (string b)) = true) ∧ (∃ d : Nat, ((i = (some d)) ∧ (mapAt Proofs.Tryd.prog w0 h (some d) 58 (fun k => (f45_1 w0 K a c (AH.putm h d (putM (string b) (int .i64 e) k)))))))))) (f45_1 w0 K a c h))) :
  f45_5 w0 K a b e c g h := fun j => LP_intro (P := Proofs.Tryd.prog) (Eq.mp (by kernel_rfl) hv)

theorem f45_go {w0 : World} {K : Value → AH → Prop} (b : Option Addr) (c : Addr) (h : AH)
  (hv : (∃ d : Addr, ((b = (some d)) ∧ (∃ a : Option Nat, (((cellA w0 h (Addr.add d 0)) = (some (Value.map a))) ∧ (rangeM h a (fun e => (newB w0 h (AB.mit a (List.range e) none) (fun g i => (f45_1 w0 K c (Addr.mk g 0 none) i)))))))))) :
  EvC Proofs.Tryd.prog w0 45 ([(.pointer b), (.pointer (some c))]).toArray K h := EvC_intro (P := Proofs.Tryd.prog) f45_J (Eq.mp (by kernel_rfl) hv)
/-! ### node.meet -/
section
theorem low_put {M : List (ByteArray × Int)} (hM : (keys M).Nodup) {k c : ByteArray} {q v : Int} : low (putA k q M) c v ↔ (c = k ∧ v ≤ q) ∨ (c ≠ k ∧ low M c v) := by
  unfold low
  constructor
  · rintro ⟨x, hx, hv⟩
    rcases (putA_mem hM c x).1 hx with ⟨e1, e2⟩ | ⟨e1, e2⟩
    · exact .inl ⟨e1, by omega⟩
    · exact .inr ⟨e1, x, e2, hv⟩
  · rintro (⟨e1, e2⟩ | ⟨e1, x, e2, hv⟩)
    · exact ⟨q, (putA_mem hM c q).2 (.inl ⟨e1, rfl⟩), e2⟩
    · exact ⟨x, (putA_mem hM c x).2 (.inr ⟨e1, e2⟩), hv⟩
theorem low_more {M : List (ByteArray × Int)} (hM : (keys M).Nodup) {k c : ByteArray} {q v : Int} (h : ∀ p, getA k M = some p → p < q) : low (putA k q M) c v ↔ low M c v ∨ (k = c ∧ v ≤ q) := by
  rw [low_put hM]
  constructor
  · rintro (⟨e, g⟩ | ⟨_, g⟩)
    · exact .inr ⟨e.symm, g⟩
    · exact .inl g
  · rintro (g | ⟨e, g⟩)
    · by_cases e : c = k
      · subst e
        obtain ⟨x, hx, hv⟩ := g
        have := h x ((getA_mem hM).2 hx)
        exact .inl ⟨rfl, by omega⟩
      · exact .inr ⟨e, g⟩
    · exact .inl ⟨e.symm, g⟩
theorem low_less {M : List (ByteArray × Int)} {k c : ByteArray} {p q v : Int} (h : getA k M = some p) (hq : q ≤ p) : low M c v ↔ low M c v ∨ (k = c ∧ v ≤ q) := by
  constructor
  · exact .inl
  · rintro (g | ⟨e, g⟩)
    · exact g
    · subst e; exact ⟨p, getA_some h, by omega⟩
end
section
variable {w0 : World} {K : Value → AH → Prop} {h : AH} {B R : List (Nat × AB)} {N : List Nd} {n m : Nd} {mo cb : Nat} {M : List (ByteArray × Int)}
theorem cell_at {xs : List Value} {sz b : Nat} {x : Value} (w : Own w0 h B) (hm : (b, .cells xs sz) ∈ B) (hx : xs[0]? = some x) : cellA w0 h ⟨b, 0, none⟩ = some x := by
  have := w.cell hm hx
  rwa [add_plain] at this
def mB (mo : Nat) (M : List (ByteArray × Int)) : Nat × AB := (mo, .map (mV iV M))
def cB (cb mo : Nat) : Nat × AB := (cb, .cells [gV mo] 1)
/-- take. -/
theorem f45_spec (hn : n ∈ N) (hM : (keys M).Nodup) (w : Own w0 h (nds N ++ (mB mo M :: cB cb mo :: B)))
    (hk : ∀ h' M', (keys M').Nodup → (∀ c v, low M' c v ↔ low M c v ∨ low n.here c v) → Own w0 h' (nds N ++ (mB mo M' :: cB cb mo :: B)) → K (.tuple #[]) h') :
    EvC Go.Proofs.Tryd.prog w0 45 #[.pointer (some ⟨n.b, 0, none⟩), .pointer (some ⟨cb, 0, none⟩)] K h := by
  refine f45_go _ _ _ ⟨_, rfl, _, nd_here w hn, fun z => (by cases z), fun r e => ?_⟩
  injection e with e
  subst e
  refine ⟨_, (w.mem (nd_in hn).2.1).2, fun b hb hbn => ?_⟩
  have hne0 : ∀ p ∈ nds N ++ (mB mo M :: cB cb mo :: B), p.1 ≠ b := fun p hp e => by
    have := (w.is p hp).2
    rw [e, hbn] at this; cases this
  have hne : ∀ M', ∀ p ∈ nds N ++ (mB mo M' :: cB cb mo :: B), p.1 ≠ b := fun M' p hp => by
    rcases List.mem_append.1 hp with hp | hp
    · exact hne0 p (List.mem_append_left _ hp)
    · rcases List.mem_cons.1 hp with rfl | hp
      · exact hne0 (mB mo M) (List.mem_append_right _ (List.mem_cons_self ..))
      · exact hne0 p (List.mem_append_right _ (List.mem_cons_of_mem _ hp))
  have mob : b ≠ mo := fun e => hne M _ (List.mem_append_right _ (List.mem_cons_self ..)) e.symm
  have hmo : n.hm ≠ mo := (w.perm Own.mid).ne _ (show (n.hm, AB.map (mV iV n.here)) ∈ nds N ++ (cB cb mo :: B) from (nd_in hn).2.1)
  have loop : ∀ (k : Nat) (left : List Nat) (cur : Option Nat) (M' : List (ByteArray × Int)) (h' : AH), left.length = k → (∀ i ∈ left, i < n.here.length) → (keys M').Nodup →
      (∀ c v, (low M' c v ∨ ∃ i ∈ left, ∃ e, n.here[i]? = some e ∧ e.1 = c ∧ v ≤ e.2) ↔ low M c v ∨ low n.here c v) →
      Own w0 h' (nds N ++ (mB mo M' :: cB cb mo :: B)) → h' b = some (.mit (some n.hm) left cur) → f45_1 w0 K ⟨cb, 0, none⟩ ⟨b, 0, none⟩ h' := by
    intro k
    induction k with
    | zero =>
      intro left cur M' h' hl hi hM' he w' hb'
      have hn0 := List.eq_nil_of_length_eq_zero hl
      subst hn0
      refine f45_1_in _ _ _ ⟨_, _, _, rfl, hb', fun _ => hk h' M' hM' (fun c v => ?_) w', fun q hq => ⟨_, by injection hq with hq; subst hq; exact (w'.mem (nd_in hn).2.1).2, fun i k x hi => by cases hi⟩⟩
      rw [← he]
      constructor
      · exact .inl
      · rintro (g | ⟨i, hi, _⟩)
        · exact g
        · cases hi
    | succ k ih =>
      intro left cur M' h' hl hi hM' he w' hb'
      refine f45_1_in _ _ _ ⟨_, _, _, rfl, hb', fun q => (by rw [q] at hl; cases hl), fun q hq => ⟨_, by injection hq with hq; subst hq; exact (w'.mem (nd_in hn).2.1).2, fun i kk x hil hx => ?_⟩⟩
      have hei := hi i hil
      have hge := List.getElem?_eq_getElem hei
      generalize n.here[i] = e at hge
      obtain ⟨ek, eq⟩ := e
      have hx' : (kk, x) = (.string ek, .int .i64 eq) := by
        unfold mV at hx
        rw [List.getElem?_map, hge] at hx
        injection hx with hx; exact hx.symm
      injection hx' with hk1 hx1
      subst hk1 hx1
      have w2 : Own w0 (h'.put b (.mit (some n.hm) (left.erase i) (some i))) (nds N ++ (mB mo M' :: cB cb mo :: B)) := w'.other (hne M')
      have inC : cB cb mo ∈ nds N ++ (mB mo M' :: cB cb mo :: B) := List.mem_append_right _ (List.mem_cons_of_mem _ (List.mem_cons_self ..))
      have inM : (mo, AB.map (mV iV M')) ∈ nds N ++ (mB mo M' :: cB cb mo :: B) := List.mem_append_right _ (List.mem_cons_self ..)
      have left' : ∀ c v, (∃ i ∈ left, ∃ e, n.here[i]? = some e ∧ e.1 = c ∧ v ≤ e.2) ↔ (ek = c ∧ v ≤ eq) ∨ ∃ j ∈ left.erase i, ∃ e, n.here[j]? = some e ∧ e.1 = c ∧ v ≤ e.2 := fun c v => by
        constructor
        · rintro ⟨j, hj, e, he, h1, h2⟩
          by_cases ej : j = i
          · subst ej
            rw [hge] at he
            injection he with he
            subst he
            exact .inl ⟨h1, h2⟩
          · exact .inr ⟨j, (List.mem_erase_of_ne ej).2 hj, e, he, h1, h2⟩
        · rintro (⟨h1, h2⟩ | ⟨j, hj, r⟩)
          · exact ⟨i, hil, _, hge, h1, h2⟩
          · exact ⟨j, List.mem_of_mem_erase hj, r⟩
      have step : ∀ (M2 : List (ByteArray × Int)) h2, (keys M2).Nodup → (∀ c v, low M2 c v ↔ low M' c v ∨ (ek = c ∧ v ≤ eq)) → Own w0 h2 (nds N ++ (mB mo M2 :: cB cb mo :: B)) → h2 b = some (.mit (some n.hm) (left.erase i) (some i)) → f45_1 w0 K ⟨cb, 0, none⟩ ⟨b, 0, none⟩ h2 := fun M2 h2 n2 l2 w2 hb2 =>
        ih _ (some i) M2 h2 (by rw [List.length_erase_of_mem hil]; omega) (fun j hj => hi j (List.mem_of_mem_erase hj)) n2 (fun c v => by rw [← he, l2, left', or_assoc]) w2 hb2
      have place : ∀ z : Bool, (z = true → ∀ p, getA ek M' = some p → p < eq) → (z = false → ∃ p, getA ek M' = some p ∧ eq ≤ p) → f45_5 w0 K ⟨cb, 0, none⟩ ek eq ⟨b, 0, none⟩ z (h'.put b (.mit (some n.hm) (left.erase i) (some i))) := fun z h1 h2 => by
        refine f45_5_in _ _ _ _ _ _ (brB_of (fun e => ?_) fun e => ?_)
        · refine ⟨_, cell_at w2 inC rfl, pk58 _, _, rfl, map58 w2 inM ?_⟩
          have ep : putM (.string ek) (.int .i64 eq) (mV iV M') = mV iV (putA ek eq M') := put_mV M'
          rw [ep]
          refine step (putA ek eq M') _ (putA_nodup hM') (fun c v => low_more hM' (h1 e)) (Own.updm w2) ?_
          unfold AH.putm
          rw [put_other _ _ mob]
          unfold AH.noIt
          rw [put_same]
          show (if n.hm = mo then none else _) = _
          rw [if_neg hmo]
        · obtain ⟨p, g1, g2⟩ := h2 e
          exact step M' _ hM' (fun c v => low_less g1 g2) w2 (put_same _ _ _)
      refine ⟨_, _, _, _, rfl, put_same _ _ _, (w2.mem (nd_in hn).2.1).2, ek, eq, ?_, _, cell_at w2 inC rfl, pk58 _, map58 w2 inM ⟨_, iV_get.symm, ?_⟩⟩
      · unfold entIs mV
        rw [List.getElem?_map, hge]; rfl
      · rw [get_mV]
        cases g : getA ek M' with
        | none => exact brB_of (fun _ => place true (fun _ p hp => by rw [g] at hp; cases hp) fun z => by cases z) fun z => by cases z
        | some p =>
          refine brB_of (fun z => by cases z) fun _ => place _ (fun z p' hp => ?_) fun z => ⟨p, g, ?_⟩
          · rw [g] at hp
            injection hp with hp
            subst hp
            exact of_decide_eq_true z
          · have : ¬ (p < eq) := of_decide_eq_false z
            omega
  refine loop _ _ none M _ rfl (fun i hi => ?_) hM (fun c v => ?_) (w.past hbn) (put_same _ _ _)
  · rw [mV_length] at hi; exact List.mem_range.1 hi
  · constructor
    · rintro (g | ⟨i, _, e, he, h1, h2⟩)
      · exact .inl g
      · subst h1
        exact .inr ⟨e.2, List.mem_of_getElem? he, h2⟩
    · rintro (g | ⟨q, hq, h2⟩)
      · exact .inl g
      · obtain ⟨i, hi, e⟩ := List.mem_iff_getElem.1 hq
        exact .inr ⟨i, by rw [mV_length]; exact List.mem_range.2 hi, _, by rw [List.getElem?_eq_getElem hi, e], rfl, h2⟩
end
end Go.G.YtnmngjffebbbnaaDoor
