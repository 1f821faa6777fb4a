/- What the evaluator's states say of the machine's; how the evaluator's control is the machine's, whatever the operations are known to do. -/
import Derived.Test.YtlghmjehibikeaaGEval
import Derived.Tactics
import Derived.Scope
import Derived.WalkKit
namespace Go.G
open Go.RowKit

theorem Keep.refl (h : AH) (w : World) : Keep h w h w := ⟨Nat.le_refl _, fun _ hb _ => ⟨hb, rfl⟩⟩
theorem Keep.trans {h h1 h2 : AH} {w w1 w2 : World} (a : Keep h w h1 w1) (b : Keep h1 w1 h2 w2) : Keep h w h2 w2 :=
  ⟨Nat.le_trans a.size b.size, fun i hi hl => by
    obtain ⟨x, y⟩ := a.same i hi hl
    obtain ⟨x', y'⟩ := b.same i x (Nat.lt_of_lt_of_le hl a.size)
    exact ⟨x', y'.trans y⟩⟩

def gam (β : Nat → Nat) : AV → Value
  | .v x => x
  | .bp i off => .pointer (some ⟨β i, off, none⟩)
  | .bs i n => .slice (some ⟨β i, 0, none⟩) n n

/-- Whence a law is seen: the world in which it began, what was known there; the blocks that are the function's own although they stood there; the first variables' blocks. -/
structure Fr where
  we : World
  he : AH
  own : Nat → Prop
  N : Nat
  β0 : Nat → Nat

structure KeepX (fr : Fr) (h : AH) (w : World) : Prop where
  size : fr.we.heap.size ≤ w.heap.size
  same : ∀ b, fr.he b = none → b < fr.we.heap.size → ¬ fr.own b → h b = none ∧ w.heap[b]? = fr.we.heap[b]?

theorem KeepX.trans {fr : Fr} {h h1 : AH} {w w1 : World} (a : KeepX fr h w) (b : Keep h w h1 w1) : KeepX fr h1 w1 :=
  ⟨Nat.le_trans a.size b.size, fun i hi hl ho => by
    obtain ⟨x, y⟩ := a.same i hi hl ho
    obtain ⟨x', y'⟩ := b.same i x (Nat.lt_of_lt_of_le hl a.size)
    exact ⟨x', y'.trans y⟩⟩

structure St (w0 : World) (fr : Fr) (β : Nat → Nat) (env : Env) (bx : Bxs) (h : AH) (a : Act) (w : World) : Prop where
  tm : a.tmps.toList = env.map (gam β)
  df : a.defers = []
  rw : Rw w0 h w
  kp : KeepX fr h w
  bxs : ∀ (i : Nat) (cs : List Value), bx[i]? = some (some cs) → (fr.own (β i) ∨ fr.we.heap.size ≤ β i) ∧ w0.heap.size ≤ β i ∧ h (β i) = none ∧ ∃ T, w.heap[β i]? = some (.cells cs.toArray T (0, 0))
  inj : ∀ i j : Nat, boxIs bx i = true → boxIs bx j = true → β i = β j → i = j
  pin : ∀ i, i < fr.N → β i = fr.β0 i
  len : fr.N ≤ bx.length

theorem opd_eval {w0 : World} {fr : Fr} {β : Nat → Nat} {env : Env} {bx : Bxs} {h : AH} {a : Act} {w : World} (s : St w0 fr β env bx h a w) (x : Operand) : a.eval x = gam β (opd env x) := by
  cases x with
  | tmp t =>
    have h1 := s.tm
    simp only [Act.eval, opd]
    have h2 : a.tmps.getD t undef = a.tmps.toList.getD t undef := by simp [Array.getD_eq_getD_getElem?, List.getD_eq_getElem?_getD]
    rw [h2, h1]
    simp only [List.getD_eq_getElem?_getD, List.getElem?_map]
    cases env[t]? <;> rfl
  | const v => rfl
  | global g => rfl
  | func f => rfl

/-! ### places -/
theorem junk_map (β : Nat → Nat) (j : Nat → Value) : ∀ (J : List Nat) (env : Env), (∀ t ∈ J, j t = gam β (env.getD t (.v undef))) → (junk J j env).map (gam β) = env.map (gam β)
  | [], env, _ => rfl
  | t :: r, env, hj => by
    have h1 := hj t (by simp)
    have key : (env.set t (.v (j t))).map (gam β) = env.map (gam β) := by
      rw [List.map_set]
      apply List.ext_getElem?
      intro i
      rw [List.getElem?_set]
      split
      · rename_i e
        subst e
        simp only [List.length_map, List.getElem?_map]
        split
        · rename_i hl
          simp only [gam, h1, List.getD_eq_getElem?_getD]
          rw [List.getElem?_eq_getElem hl]; rfl
        · rename_i hl
          rw [List.getElem?_eq_none (by omega)]; rfl
      · rfl
    simp only [junk]
    rw [junk_map β j r (env.set t (.v (j t))) ?_, key]
    intro t' ht'
    rw [hj t' (by simp [ht'])]
    have := congrArg (fun l => l[t']?) key
    simp only [List.getElem?_map] at this
    simp only [List.getD_eq_getElem?_getD]
    revert this
    cases (env.set t (.v (j t)))[t']? <;> cases env[t']? <;> simp
    intro h; exact h.symm

theorem St.jump {w0 : World} {fr : Fr} (h0 : fr.N = 0) {β : Nat → Nat} {env : Env} {bx : Bxs} {h : AH} {a : Act} {w : World} (s : St w0 fr β env bx h a w)
    {J : Nat → List Nat × Nat} {Z : ZR} {key : Nat} {c : Code} {S : Stk} (hz : jump J Z key c S env bx h) : ∃ env' bx', Z c S env' bx' h ∧ St w0 fr β env' bx' h a w := by
  refine ⟨_, _, hz (fun t => gam β (env.getD t (.v undef))), ⟨?_, s.df, s.rw, s.kp, ?_, ?_, fun i hi => by omega, by omega⟩⟩
  · rw [junk_map β _ _ _ (fun _ _ => rfl)]; exact s.tm
  · intro i cs hi
    refine s.bxs i cs ?_
    rw [List.getElem?_take] at hi
    split at hi
    · exact hi
    · cases hi
  · intro i k hi hk
    have up : ∀ i, boxIs (bx.take (J key).2) i = true → boxIs bx i = true := by
      intro i hi
      simp only [boxIs, List.getElem?_take] at hi ⊢
      by_cases hlt : i < (J key).2
      · simpa [hlt] using hi
      · simp [hlt] at hi
    exact s.inj i k (up i hi) (up k hk)

/-! ### control -/
def itemOf : It → Item
  | .code c => .code c
  | .jn c => .code c
  | .blk id => .inBlock id
  | .lp c => .inLoop c
  | .scp c => .inScope c
def items (S : Stk) : List Item := S.map itemOf

theorem exit_items {id : Nat} : ∀ {S S' : Stk}, exitK id S = some S' → exitTo id (items S) = some (items S')
  | [], _, h => by cases h
  | x :: S, S', h => by
    cases x with
    | blk i =>
      simp only [exitK] at h
      simp only [items, List.map_cons, itemOf, exitTo]
      cases hb : Nat.beq i id with
      | true =>
        rw [hb] at h
        have e : i = id := Nat.eq_of_beq_eq_true hb
        subst e
        injection h with h; subst h
        simp
      | false =>
        rw [hb] at h
        have hne : (i == id) = false := by
          cases hq : (i == id) with
          | false => rfl
          | true =>
            have e : i = id := by simpa using hq
            subst e
            simp at hb
        have := exit_items h
        simp only [items] at this
        first | (simp_all; done) | (have h2 : (id == i) = false := by rw [← hne]; exact Bool.eq_iff_iff.mpr (by simp [eq_comm]); simp_all)
    | code c => exact exit_items (S := S) (by simpa [exitK] using h)
    | jn c => exact exit_items (S := S) (by simpa [exitK] using h)
    | lp c => exact exit_items (S := S) (by simpa [exitK] using h)
    | scp c => exact exit_items (S := S) (by simpa [exitK] using h)

theorem goto_items {l : Nat} : ∀ {S : Stk} {c : Code} {S' : Stk}, gotoK l S = some (c, S') → gotoIn l (items S) = some (.code c :: items S')
  | [], _, _, h => by cases h
  | x :: S, c, S', h => by
    cases x with
    | scp b =>
      simp only [gotoK] at h
      simp only [items, List.map_cons, itemOf, gotoIn]
      cases hf : findLabel b l with
      | some rest =>
        rw [hf] at h
        simp only [Option.some.injEq, Prod.mk.injEq] at h
        obtain ⟨rfl, rfl⟩ := h
        simp [itemOf]
      | none =>
        rw [hf] at h
        exact goto_items h
    | code c => exact goto_items (S := S) (by simpa [gotoK] using h)
    | jn c => exact goto_items (S := S) (by simpa [gotoK] using h)
    | lp c => exact goto_items (S := S) (by simpa [gotoK] using h)
    | blk c => exact goto_items (S := S) (by simpa [gotoK] using h)

/-- From here the frame comes to its end, and F holds there. -/
def Good (P : Program) (F : Act → World → Prop) (todo : List Item) (a : Act) (w : World) : Prop :=
  ∀ (b : Frame) (cs : List Frame), ∃ a' w' todo', F a' w' ∧ Steps P (lone (b.at a todo) cs w) (lone { b.at a' todo' with mode := .returning } cs w')

theorem Good.step {P : Program} {F : Act → World → Prop} {todo todo' : List Item} {a : Act} {w : World} (h : Good P F todo' a w)
    (hs : ∀ (b : Frame) (cs : List Frame), step P (lone (b.at a todo) cs w) = .next (lone (b.at a todo') cs w)) : Good P F todo a w := fun b cs => by
  obtain ⟨a', w', t, hf, hst⟩ := h b cs
  exact ⟨a', w', t, hf, .head (hs b cs) hst⟩

section
variable (P : Program) (w0 : World) (fr : Fr) (h0 : fr.N = 0) (X : XR)

/-- What a region leaves: some state of the evaluator's at which K holds. -/
def Left (K : Env → Bxs → AH → Prop) (a : Act) (w : World) : Prop := ∃ β env bx h, St w0 fr β env bx h a w ∧ K env bx h

variable (hops : ∀ (id : Nat) (ops : Array Oper) (K : Env → Bxs → AH → Prop) β env bx h a w, evOps P w0 X ops.toList ops.toList env bx h K → St w0 fr β env bx h a w →
    (Code.region id ops false).wp P (fun e a' w' => e = .normal ∧ Left w0 fr K a' w') a w)
  (hdraw : ∀ (id : Nat) (ops : Array Oper) (K : Env → Bxs → AH → Prop) β env bx h a w, Region.noSelect ops = true → evDraw P w0 X ops (protB ops.toList env bx) bx (ops.size + 1) (Array.replicate ops.size false) env (maskB (protB ops.toList env bx) bx) h K → St w0 fr β env bx h a w →
    (Code.region id ops true).wp P (fun e a' w' => e = .normal ∧ Left w0 fr K a' w') a w)
  (J : Nat → List Nat × Nat) (Z : ZR) (K : Env → Bxs → AH → Prop) (F : Act → World → Prop)
  (hZ : ∀ c S env bx h, Z c S env bx h → ∀ β a w, St w0 fr β env bx h a w → Good P F (.code c :: items S) a w)
  (hK : ∀ β env bx h a w, K env bx h → St w0 fr β env bx h a w → F a w)
  (hexp : ∀ (xs : List Operand) (K : Env → Bxs → AH → Prop) β env bx h a w, exposeAll w0 xs env bx h K → St w0 fr β env bx h a w → ∃ env' bx' h', K env' bx' h' ∧ St w0 fr β env' bx' h' a w)
set_option linter.unusedSectionVars false
include h0 hops hdraw hZ hK hexp

omit hops hdraw hZ hK in
theorem jumpX_good {β : Nat → Nat} {env : Env} {bx : Bxs} {h : AH} {a : Act} {w : World} (s : St w0 fr β env bx h a w) {key : Nat} {c : Code} {S : Stk} (hz : jumpX w0 J Z key c S env bx h) :
    ∃ env' bx' h', Z c S env' bx' h' ∧ St w0 fr β env' bx' h' a w := by
  obtain ⟨e1, b1, h1, hj, s1⟩ := hexp _ _ _ _ _ _ _ _ hz s
  obtain ⟨e2, b2, hz2, s2⟩ := s1.jump h0 hj
  exact ⟨e2, b2, h1, hz2, s2⟩

theorem good_region {id : Nat} {ops : Array Oper} {d : Bool} {K' : Env → Bxs → AH → Prop} {S : Stk} {a : Act} {w : World}
    (hw : (Code.region id ops d).wp P (fun e a' w' => e = .normal ∧ Left w0 fr K' a' w') a w) (hn : ∀ β env bx h a w, K' env bx h → St w0 fr β env bx h a w → Good P F (items S) a w) :
    Good P F (.code (.region id ops d) :: items S) a w := fun b cs => by
  obtain ⟨e, a1, w1, ⟨rfl, β, env, bx, h, hst, hk⟩, harr⟩ := hw b (items S) cs
  obtain ⟨a2, w2, t, hf, hs⟩ := hn β env bx h a1 w1 hk hst b cs
  exact ⟨a2, w2, t, hf, Steps.trans harr hs⟩

theorem ev_good (n : Nat) : (∀ c S env bx h, ev P w0 X J Z K n c S env bx h → ∀ β a w, St w0 fr β env bx h a w → Good P F (.code c :: items S) a w) ∧
    (∀ S env bx h, ev P w0 X J Z K n .skip S env bx h → ∀ β a w, St w0 fr β env bx h a w → Good P F (items S) a w) := by
  induction n with
  | zero => exact ⟨fun c S env bx h hev => by simp [ev] at hev, fun S env bx h hev => by simp [ev] at hev⟩
  | succ n ih =>
    obtain ⟨ihA, ihB⟩ := ih
    have hskip : ∀ S env bx h, ev P w0 X J Z K (n + 1) .skip S env bx h → ∀ β a w, St w0 fr β env bx h a w → Good P F (items S) a w := by
      intro S env bx h hev β a w hst
      cases S with
      | nil =>
        simp only [ev] at hev
        exact fun b cs => ⟨a, w, [], hK _ _ _ _ _ _ hev hst, .one step_end⟩
      | cons x S =>
        cases x with
        | code c => simp only [ev] at hev; exact ihA _ _ _ _ _ hev _ _ _ hst
        | jn c =>
          simp only [ev] at hev
          obtain ⟨env', bx', h', hz, hst'⟩ := jumpX_good w0 fr h0 J Z hexp hst hev
          exact hZ _ _ _ _ _ hz _ _ _ hst'
        | blk id => simp only [ev] at hev; exact (ihB _ _ _ _ hev _ _ _ hst).step fun b cs => step_inBlock
        | lp c =>
          simp only [ev] at hev
          obtain ⟨env', bx', h', hz, hst'⟩ := jumpX_good w0 fr h0 J Z hexp hst hev
          exact (hZ _ _ _ _ _ hz _ _ _ hst').step fun b cs => step_inLoop
        | scp c => simp only [ev] at hev; exact (ihB _ _ _ _ hev _ _ _ hst).step fun b cs => step_inScope
    refine ⟨?_, hskip⟩
    intro c S env bx h hev β a w hst
    cases c with
    | skip => exact (hskip _ _ _ _ hev _ _ _ hst).step fun b cs => step_skip
    | label l => simp only [ev] at hev; exact (ihB _ _ _ _ hev _ _ _ hst).step fun b cs => step_label
    | region id ops d =>
      cases d with
      | false =>
        simp only [ev] at hev
        exact good_region P w0 fr h0 X hops hdraw Z K F hZ hK hexp (hops id ops _ _ _ _ _ _ _ hev hst) fun β env bx h a w hk hst => ihB _ _ _ _ hk _ _ _ hst
      | true =>
        simp only [ev] at hev
        cases hsel : Region.noSelect ops with
        | false => rw [hsel] at hev; exact hev.elim
        | true =>
        rw [hsel] at hev
        exact good_region P w0 fr h0 X hops hdraw Z K F hZ hK hexp (hdraw id ops _ _ _ _ _ _ _ hsel hev hst) fun β env bx h a w hk hst => ihB _ _ _ _ hk _ _ _ hst
    | seq x y =>
      simp only [ev] at hev
      cases hj : joins x y with
      | false => rw [hj] at hev; exact (ihA _ _ _ _ _ hev _ _ _ hst).step fun b cs => step_seq
      | true => rw [hj] at hev; exact (ihA _ _ _ _ _ hev _ _ _ hst).step fun b cs => step_seq
    | cond c x y =>
      have hev' := opd_eval hst c
      cases c with
      | tmp t =>
        simp only [ev] at hev
        split at hev
        · rename_i v t0 heq
          rw [brB_iff] at hev
          rw [heq] at hev'
          simp only [gam] at hev'
          have same : ∀ v, t0 = v → St w0 fr β (env.set t (.v (.bool v))) bx h a w := by
            rintro v rfl
            refine ⟨?_, hst.df, hst.rw, hst.kp, hst.bxs, hst.inj, hst.pin, hst.len⟩
            rw [hst.tm]
            apply List.ext_getElem?
            intro i
            simp only [List.getElem?_map, List.getElem?_set]
            split
            · rename_i e
              subst e
              simp only [opd, List.getD_eq_getElem?_getD] at heq
              split
              · rename_i hl
                rw [List.getElem?_eq_getElem hl] at heq ⊢
                simp only [Option.getD_some] at heq
                rw [heq]
              · rename_i hl
                rw [List.getElem?_eq_none (by omega)]
            · rfl
          cases ht : t0 with
          | true =>
            rw [ht] at hev'
            exact (ihA _ _ _ _ _ (hev.1 ht) _ _ _ (same _ ht)).step fun b cs => step_cond hev'
          | false =>
            rw [ht] at hev'
            exact (ihA _ _ _ _ _ (hev.2 ht) _ _ _ (same _ ht)).step fun b cs => step_cond hev'
        · exact hev.elim
      | const v =>
        cases v with
        | bool t =>
          simp only [ev] at hev
          rw [brB_iff] at hev
          cases t with
          | true => exact (ihA _ _ _ _ _ (hev.1 rfl) _ _ _ hst).step fun b cs => step_cond (t := true) rfl
          | false => exact (ihA _ _ _ _ _ (hev.2 rfl) _ _ _ hst).step fun b cs => step_cond (t := false) rfl
        | _ => simp only [ev] at hev
      | global g => simp only [ev] at hev
      | func f => simp only [ev] at hev
    | block id c => simp only [ev] at hev; exact (ihA _ _ _ _ _ hev _ _ _ hst).step fun b cs => step_block
    | loop c =>
      simp only [ev] at hev
      obtain ⟨env', bx', h', hz, hst'⟩ := jumpX_good w0 fr h0 J Z hexp hst hev
      exact (hZ _ _ _ _ _ hz _ _ _ hst').step fun b cs => step_loop
    | scope c => simp only [ev] at hev; exact (ihA _ _ _ _ _ hev _ _ _ hst).step fun b cs => step_scope
    | exit id =>
      simp only [ev] at hev
      cases hx : exitK id S with
      | none => rw [hx] at hev; exact hev.elim
      | some S' => rw [hx] at hev; exact (ihB _ _ _ _ hev _ _ _ hst).step fun b cs => step_exit (exit_items hx)
    | goto l =>
      simp only [ev] at hev
      cases hx : gotoK l S with
      | none => rw [hx] at hev; exact hev.elim
      | some p =>
        obtain ⟨c, S'⟩ := p
        rw [hx] at hev
        obtain ⟨env', bx', h', hz, hst'⟩ := jumpX_good w0 fr h0 J Z hexp hst hev
        exact (hZ _ _ _ _ _ hz _ _ _ hst').step fun b cs => step_goto (goto_items hx)
    | ret =>
      simp only [ev] at hev
      exact fun b cs => ⟨a, w, _, hK _ _ _ _ _ _ hev hst, .one step_ret⟩
    | rangeFunc f ps x y => simp only [ev] at hev
    | refuse s => simp only [ev] at hev
end

end Go.G
