/- A region whose order is open does what the evaluator says. -/
import Derived.Test.YtpjklfmfgmicaaaGDraw
namespace Go.G
open Go.RowKit

def unl (l : Array Bool) : Nat := l.toList.count false

theorem count_set : ∀ (l : List Bool) (i : Nat), l[i]? = some false → (l.set i true).count false + 1 = l.count false
  | [], i, h => by cases h
  | b :: l, 0, h => by simp at h; subst h; simp
  | b :: l, i + 1, h => by
    have := count_set l i (by simpa using h)
    simp only [List.set_cons_succ, List.count_cons]
    omega

theorem unl_set {l : Array Bool} {i : Nat} (h : l.getD i true = false) : unl (l.setIfInBounds i true) + 1 = unl l := by
  have : l.toList[i]? = some false := by
    rw [Array.getD_eq_getD_getElem?] at h
    cases hq : l[i]? with
    | none => rw [hq] at h; cases h
    | some b => rw [hq] at h; simp at h; subst h; simpa using hq
  have := count_set _ _ this
  simpa [unl, Array.toList_setIfInBounds] using this

section
variable {P : Program} {w0 : World} {fr : Fr} {X : XR} {ops : Array Oper} {K : Env → Bxs → AH → Prop}
variable {bx0 : Bxs} {h0 : AH} {a0 : Act} {w1 : World} {β0 : Nat → Nat} {env0 : Env} {prot : List Nat}

/-- What a region must bring about. -/
def DrawQ (w0 : World) (fr : Fr) (K : Env → Bxs → AH → Prop) : Exit → Act → World → Prop := fun e a' w' => e = .normal ∧ Left w0 fr K a' w'

theorem drawQ_panic {o : Oper} {v : Value} : ∀ c a w, DrawQ w0 fr K (.panic c) (a.put o.dst v) w → DrawQ w0 fr K (.panic c) a w := fun _ _ _ h => by cases h.1

/-- One step of the evaluator's in such a region. -/
def stepD (P : Program) (w0 : World) (X : XR) (ops : Array Oper) (prot : List Nat) (bx0 : Bxs) (n : Nat) (listed : Array Bool) (env : Env) (bx : Bxs) (h : AH) (K : Env → Bxs → AH → Prop) (i : Nat) : Prop :=
  match ops[i]? with
  | some o => (match readOp o.op with
    | true => evOper P w0 X ops.toList o env (mergeB bx0 prot bx) h fun env _ h => evDraw P w0 X ops prot bx0 n (listed.setIfInBounds i true) env bx h K
    | false => evOper P w0 X ops.toList o env bx h fun env bx h => evDraw P w0 X ops prot bx0 n (listed.setIfInBounds i true) env bx h K)
  | none => False

theorem allOf_mem {A : Nat → Prop} : ∀ {l : List Nat}, allOf A l → ∀ i ∈ l, A i
  | [], _, i, hi => by cases hi
  | [j], h, i, hi => by simp at hi; subst hi; exact h
  | j :: k :: l, h, i, hi => by
    rcases List.mem_cons.1 hi with rfl | hi
    · exact h.1
    · exact allOf_mem h.2 i hi

theorem evDraw_cases {n : Nat} {listed : Array Bool} {env : Env} {bx : Bxs} {h : AH} (hb : evDraw P w0 X ops prot bx0 (n + 1) listed env bx h K) :
    (Region.ready .any ops listed = [] ∧ K env (mergeB bx0 prot bx) h) ∨
      (Region.ready .any ops listed ≠ [] ∧ ((∃ i, i ∈ Region.ready .any ops listed ∧ takes P ops prot listed env bx0 i = true ∧ stepD P w0 X ops prot bx0 n listed env bx h K i) ∨
        ∀ i ∈ Region.ready .any ops listed, stepD P w0 X ops prot bx0 n listed env bx h K i)) := by
  simp only [evDraw] at hb
  split at hb
  · rename_i hr
    exact .inl ⟨hr, hb⟩
  · rename_i hr
    refine .inr ⟨hr, ?_⟩
    split at hb
    · rename_i i hi
      exact .inl ⟨i, List.mem_of_find?_eq_some hi, by simpa using List.find?_some hi, hb⟩
    · exact .inr fun i hi => allOf_mem hb i hi

/-- A load: where a variable that the region does not touch is read, in every world in which those variables are as they were. -/
theorem load_split (s0 : St w0 fr β0 env0 bx0 h0 a0 w1) {β : Nat → Nat} {env : Env} {bx : Bxs} {h : AH} {a : Act} {w : World} (s : St w0 (inn w1 h0 β0 bx0 prot) β env bx h a w)
    {o : Oper} {K' : Env → AH → Prop} (hr : readOp o.op = true) (hb : evOper P w0 X ops.toList o env (mergeB bx0 prot bx) h fun env _ h => K' env h) :
    ∃ x, K' (setE env o.dst x) h ∧ ((Region.wanted o (yielded ops a.tmps) = true ∧ (execOp a.eval o).run P w = .ok (.value (gam β x)) w ∧
        (boxLoad prot env bx0 o.op = true → ∀ w' : World, (∀ i cs, i ∈ prot → bx0[i]? = some (some cs) → w'.heap[β0 i]? = w1.heap[β0 i]?) → (execOp a.eval o).run P w' = .ok (.value (gam β x)) w')) ∨
      (Region.wanted o (yielded ops a.tmps) = false ∧ gam β x = undef)) := by
  have sm := s0.outer s
  rcases oper_split hb sm with ⟨hw, hb⟩ | ⟨hw, hb⟩
  · obtain ⟨dst, op, ty, pos, aft, gd⟩ := o
    cases op with
    | load t x =>
      simp only [evOp] at hb
      obtain ⟨y, hk, hrun⟩ := load_any sm hb
      have ev := opd_eval sm x
      refine ⟨.v y, hk, .inl ⟨hw, by show _ = Result.ok (Next.value y) w; simp [execOp, ev, hrun w rfl], fun hbl w' hw' => ?_⟩⟩
      simp only [boxLoad] at hbl
      split at hbl
      · rename_i i off hx
        simp only [Bool.and_eq_true, List.any_eq_true] at hbl
        obtain ⟨⟨k, hk1, hk2⟩, hbx⟩ := hbl
        have : i = k := Nat.eq_of_beq_eq_true hk2
        subst this
        obtain ⟨cs, hi⟩ := boxIs_iff.1 hbx
        rw [hx] at hb
        obtain ⟨y', hk', hrun'⟩ := load_box sm hb
        have hkept := s0.kept s hk1 hi
        have hp := s.pinned hi
        have r1 := hrun w rfl
        have r2 := hrun' w rfl
        rw [hx] at r1
        rw [r1] at r2
        have : y = y' := by injection r2
        subst this
        have r3 := hrun' w' (by rw [hp, hkept.2]; exact hw' i cs hk1 hi)
        rw [hx] at ev
        show _ = Result.ok (Next.value y) w'
        simp [execOp, ev, r3]
      · cases hbl
    | _ => simp [readOp] at hr
  · exact ⟨.v undef, hb, .inr ⟨hw, rfl⟩⟩

theorem pure_split {fr : Fr} {β : Nat → Nat} {env : Env} {bx : Bxs} {h : AH} {a : Act} {w : World} (s : St w0 fr β env bx h a w) {o : Oper} {K' : Env → Bxs → AH → Prop} (hp : pureOp P o.op = true)
    (hb : evOper P w0 X ops.toList o env bx h K') :
    ∃ x β env bx h, K' (setE env o.dst x) bx h ∧ St w0 fr β env bx h a w ∧ ((Region.wanted o (yielded ops a.tmps) = true ∧ ∀ w', (execOp a.eval o).run P w' = .ok (.value (gam β x)) w') ∨
      (Region.wanted o (yielded ops a.tmps) = false ∧ gam β x = undef)) := by
  rcases oper_split hb s with ⟨hw, hb⟩ | ⟨hw, hb⟩
  · obtain ⟨v, hr, β', env', bx', h', y, rfl, s', hk⟩ := pure_ok hp hb s
    exact ⟨y, β', env', bx', h', hk, s', .inl ⟨hw, hr⟩⟩
  · exact ⟨.v undef, β, env, bx, h, hb, s, .inr ⟨hw, rfl⟩⟩

theorem stepD_some {n : Nat} {listed : Array Bool} {env : Env} {bx : Bxs} {h : AH} {i : Nat} (hb : stepD P w0 X ops prot bx0 n listed env bx h K i) : ∃ o, ops[i]? = some o ∧
    ((readOp o.op = true ∧ evOper P w0 X ops.toList o env (mergeB bx0 prot bx) h fun env _ h => evDraw P w0 X ops prot bx0 n (listed.setIfInBounds i true) env bx h K) ∨
      (readOp o.op = false ∧ evOper P w0 X ops.toList o env bx h fun env bx h => evDraw P w0 X ops prot bx0 n (listed.setIfInBounds i true) env bx h K)) := by
  unfold stepD at hb
  split at hb
  · rename_i o ho
    split at hb
    · rename_i hr; exact ⟨o, ho, .inl ⟨hr, hb⟩⟩
    · rename_i hr; exact ⟨o, ho, .inr ⟨hr, hb⟩⟩
  · exact hb.elim

theorem ready_left {listed : Array Bool} {i : Nat} (hi : i ∈ Region.ready .any ops listed) : listed.getD i true = false := (mem_ready.1 hi).1

theorem quiet_spec {listed : Array Bool} (hq : quietLeft P ops listed = true) {i : Nat} {o : Oper} (ho : ops[i]? = some o) (hl : listed.getD i true = false) : pureOp P o.op = true ∨ readOp o.op = true := by
  unfold quietLeft at hq
  rw [List.all_eq_true] at hq
  have := hq i (List.mem_range.2 (Array.getElem?_eq_some_iff.1 ho).1)
  rw [ho, hl] at this
  simpa using this
theorem quiet_set {listed : Array Bool} (hq : quietLeft P ops listed = true) (i : Nat) : quietLeft P ops (listed.setIfInBounds i true) = true := by
  unfold quietLeft at *
  rw [List.all_eq_true] at *
  intro j hj
  have := hq j hj
  by_cases e : i = j
  · subst e
    have : (listed.setIfInBounds i true).getD i true = true := by
      rw [Array.getD_eq_getD_getElem?, Array.getElem?_setIfInBounds]
      simp
      split <;> rfl
    rw [this]; rfl
  · rw [getD_set_ne true e]; exact this

theorem wpAnyH_weaken {Q : Exit → Act → World → Prop} {S S' : World → Prop} (hS : ∀ w, S w → S' w) : ∀ (fuel : Nat) (listed : Array Bool) (a : Act) (w : World), wpAnyH P .any ops Q S fuel listed a w → wpAnyH P .any ops Q S' fuel listed a w
  | 0, _, _, _, h => h
  | fuel + 1, _, _, _, h => ⟨h.1, fun i hi => wpOp_mono (fun a' w' h' => ⟨hS _ h'.1, wpAnyH_weaken hS fuel _ a' w' h'.2⟩) (h.2 i hi)⟩

theorem unl_zero {listed : Array Bool} (hu : unl listed = 0) : Region.ready .any ops listed = [] := by
  cases hr : Region.ready .any ops listed with
  | nil => rfl
  | cons i r =>
    have := unl_set (ready_left (ops := ops) (listed := listed) (i := i) (by rw [hr]; exact .head _))
    omega

variable (hs : Region.noSelect ops = true)
include hs

/-- Where what is left only reads. -/
theorem quiet_ok (s0 : St w0 fr β0 env0 bx0 h0 a0 w1) {w : World} : ∀ (fuel n : Nat) (listed : Array Bool) (β : Nat → Nat) (env : Env) (bx : Bxs) (h : AH) (a : Act), unl listed ≤ fuel → quietLeft P ops listed = true →
    evDraw P w0 X ops prot bx0 n listed env bx h K → St w0 (inn w1 h0 β0 bx0 prot) β env bx h a w → wpAnyH P .any ops (DrawQ w0 fr K) (· = w) fuel listed a w := by
  intro fuel
  induction fuel with
  | zero =>
    intro n listed β env bx h a hu hq hb s
    cases n with
    | zero => simp [evDraw] at hb
    | succ n =>
      have hz : Region.ready .any ops listed = [] := unl_zero (by omega)
      rcases evDraw_cases hb with ⟨hr, hk⟩ | ⟨hr, _⟩
      · exact ⟨hr, rfl, β, env, _, h, s0.outer s, hk⟩
      · exact (hr hz).elim
  | succ fuel ih =>
    intro n listed β env bx h a hu hq hb s
    cases n with
    | zero => simp [evDraw] at hb
    | succ n =>
      rcases evDraw_cases hb with ⟨hr, hk⟩ | ⟨hr, hstep⟩
      · exact wpAnyH_done hr ⟨rfl, β, env, _, h, s0.outer s, hk⟩ _
      · -- what one step leaves
        have one : ∀ i, i ∈ Region.ready .any ops listed → stepD P w0 X ops prot bx0 n listed env bx h K i → ∃ o v, ops[i]? = some o ∧ YieldsIf P ops (· = w) o v a ∧
            wpAnyH P .any ops (DrawQ w0 fr K) (· = w) fuel (listed.setIfInBounds i true) (a.put o.dst v) w := by
          intro i hi hst
          obtain ⟨o, ho, hst⟩ := stepD_some hst
          have hl := ready_left hi
          have hcount := unl_set hl
          rcases hst with ⟨hro, hst⟩ | ⟨hro, hst⟩
          · obtain ⟨x, hk, hy⟩ := load_split s0 s hro hst
            refine ⟨o, gam β x, ho, ?_, ih n _ β _ bx h _ (by omega) (quiet_set hq i) hk (s.setE o.dst x)⟩
            rcases hy with ⟨h1, h2, _⟩ | ⟨h1, h2⟩
            · exact .inl ⟨h1, fun w' e => by subst e; exact h2⟩
            · exact .inr ⟨h1, h2⟩
          · have hp : pureOp P o.op = true := by
              rcases quiet_spec hq ho hl with h | h
              · exact h
              · rw [hro] at h; cases h
            obtain ⟨x, β', env', bx', h', hk, s', hy⟩ := pure_split s hp hst
            refine ⟨o, gam β' x, ho, ?_, ih n _ β' _ bx' h' _ (by omega) (quiet_set hq i) hk (s'.setE o.dst x)⟩
            rcases hy with ⟨h1, h2⟩ | ⟨h1, h2⟩
            · exact .inl ⟨h1, fun w' _ => h2 w'⟩
            · exact .inr ⟨h1, h2⟩
        rcases hstep with ⟨i, hi, htk, hst⟩ | hall
        · obtain ⟨o, v, ho, hy, hnext⟩ := one i hi hst
          have hfree : Region.free .any ops listed i = true := by
            simp only [takes, ho, Bool.and_eq_true] at htk
            exact htk.1
          exact wpAnyH_take ho hs hfree (by simpa using hi) drawQ_panic hy rfl hnext
        · refine wpAnyH_all rfl hr fun i hi => ?_
          obtain ⟨o, v, ho, hy, hnext⟩ := one i hi (hall i hi)
          exact hy.wpOp ho rfl ⟨rfl, hnext⟩

theorem draw_ok (hX : Snd P w0 X) (s0 : St w0 fr β0 env0 bx0 h0 a0 w1) : ∀ (fuel n : Nat) (listed : Array Bool) (β : Nat → Nat) (env : Env) (bx : Bxs) (h : AH) (a : Act) (w : World), unl listed ≤ fuel →
    evDraw P w0 X ops prot bx0 n listed env bx h K → St w0 (inn w1 h0 β0 bx0 prot) β env bx h a w →
    wpAnyH P .any ops (DrawQ w0 fr K) (fun w' => ∀ i cs, i ∈ prot → bx0[i]? = some (some cs) → w'.heap[β0 i]? = w1.heap[β0 i]?) fuel listed a w := by
  intro fuel
  induction fuel with
  | zero =>
    intro n listed β env bx h a w hu hb s
    cases n with
    | zero => simp [evDraw] at hb
    | succ n =>
      have hz : Region.ready .any ops listed = [] := unl_zero (by omega)
      rcases evDraw_cases hb with ⟨hr, hk⟩ | ⟨hr, _⟩
      · exact ⟨hr, rfl, β, env, _, h, s0.outer s, hk⟩
      · exact (hr hz).elim
  | succ fuel ih =>
    intro n listed β env bx h a w hu hb s
    cases n with
    | zero => simp [evDraw] at hb
    | succ n =>
      have hS : ∀ i cs, i ∈ prot → bx0[i]? = some (some cs) → w.heap[β0 i]? = w1.heap[β0 i]? := fun i cs hp hi => (s0.kept s hp hi).2
      cases hq : quietLeft P ops listed with
      | true => exact wpAnyH_weaken (fun w' e => by subst e; exact hS) _ _ _ _ (quiet_ok hs s0 (fuel + 1) (n + 1) listed β env bx h a hu hq hb s)
      | false =>
        rcases evDraw_cases hb with ⟨hr, hk⟩ | ⟨hr, hstep⟩
        · exact wpAnyH_done hr ⟨rfl, β, env, _, h, s0.outer s, hk⟩ _
        · rcases hstep with ⟨i, hi, htk, hst⟩ | hall
          · obtain ⟨o, ho, hst⟩ := stepD_some hst
            have hl := ready_left hi
            have hcount := unl_set hl
            simp only [takes, ho, Bool.and_eq_true, Bool.or_eq_true, hq, Bool.false_eq_true, and_false, or_false] at htk
            obtain ⟨hfree, htk⟩ := htk
            by_cases hskip : skipB ops.toList o env = true
            · rcases hst with ⟨hro, hst⟩ | ⟨hro, hst⟩
              · obtain ⟨h1, hk⟩ := skip_split hskip hst (s0.outer s)
                exact wpAnyH_take ho hs hfree (by simpa using hi) drawQ_panic (v := gam β (.v undef)) (.inr ⟨h1, rfl⟩) hS (ih n _ β _ bx h _ w (by omega) hk (s.setE o.dst (.v undef)))
              · obtain ⟨h1, hk⟩ := skip_split hskip hst s
                exact wpAnyH_take ho hs hfree (by simpa using hi) drawQ_panic (v := gam β (.v undef)) (.inr ⟨h1, rfl⟩) hS (ih n _ β _ bx h _ w (by omega) hk (s.setE o.dst (.v undef)))
            have hsf : skipB ops.toList o env = false := by simpa using hskip
            simp only [hsf, Bool.false_eq_true, and_false, or_false] at htk
            rcases hst with ⟨hro, hst⟩ | ⟨hro, hst⟩
            · have hbl : boxLoad prot env bx0 o.op = true := by
                rcases htk with h | h
                · cases hop : o.op <;> rw [hop] at hro h <;> simp [readOp, pureOp] at hro h
                · exact h
              obtain ⟨x, hk, hy⟩ := load_split s0 s hro hst
              refine wpAnyH_take ho hs hfree (by simpa using hi) drawQ_panic (v := gam β x) ?_ hS (ih n _ β _ bx h _ w (by omega) hk (s.setE o.dst x))
              rcases hy with ⟨h1, _, h2⟩ | ⟨h1, h2⟩
              · exact .inl ⟨h1, fun w' hw' => h2 hbl w' hw'⟩
              · exact .inr ⟨h1, h2⟩
            · have hp : pureOp P o.op = true := by
                rcases htk with h | h
                · exact h
                · cases hop : o.op <;> rw [hop] at hro h <;> simp [readOp, boxLoad] at hro h
              obtain ⟨x, β', env', bx', h', hk, s', hy⟩ := pure_split s hp hst
              refine wpAnyH_take ho hs hfree (by simpa using hi) drawQ_panic (v := gam β' x) ?_ hS (ih n _ β' _ bx' h' _ w (by omega) hk (s'.setE o.dst x))
              rcases hy with ⟨h1, h2⟩ | ⟨h1, h2⟩
              · exact .inl ⟨h1, fun w' _ => h2 w'⟩
              · exact .inr ⟨h1, h2⟩
          · refine wpAnyH_all rfl hr fun i hi => ?_
            obtain ⟨o, ho, hst⟩ := stepD_some (hall i hi)
            have hl := ready_left hi
            have hcount := unl_set hl
            rcases hst with ⟨hro, hst⟩ | ⟨hro, hst⟩
            · obtain ⟨x, hk, hy⟩ := load_split s0 s hro hst
              have hnext := ih n _ β _ bx h _ w (by omega) hk (s.setE o.dst x)
              have hy' : YieldsIf P ops (· = w) o (gam β x) a := by
                rcases hy with ⟨h1, h2, _⟩ | ⟨h1, h2⟩
                · exact .inl ⟨h1, fun w' e => by subst e; exact h2⟩
                · exact .inr ⟨h1, h2⟩
              exact hy'.wpOp ho rfl ⟨hS, hnext⟩
            · unfold Go.wpOp
              simp only [ho]
              exact oper_ok hX hst s fun β' env' bx' h' a' w' s' hk => ⟨fun i cs hp hi => (s0.kept s' hp hi).2, ih n _ β' env' bx' h' a' w' (by omega) hk s'⟩

theorem hdraw_ok (hX : Snd P w0 X) (hm : P.follows .mixedOrders = true) (id : Nat) (β : Nat → Nat) (env : Env) (bx : Bxs) (h : AH) (a : Act) (w : World)
    (hb : evDraw P w0 X ops prot bx (ops.size + 1) (Array.replicate ops.size false) env (maskB prot bx) h K) (s : St w0 fr β env bx h a w) :
    (Code.region id ops true).wp P (fun e a' w' => e = .normal ∧ Left w0 fr K a' w') a w := by
  have s1 := s.drew
  refine wp_region_held (S := fun w' => ∀ i cs, i ∈ prot → bx[i]? = some (some cs) → w'.heap[β i]? = w.drew.heap[β i]?) hm ?_
  have hu : unl (Array.replicate ops.size false) ≤ ops.size := by simp [unl]
  exact draw_ok hs hX s1 ops.size (ops.size + 1) _ β env _ h a w.drew hu hb (s1.inner prot)
end
end Go.G
