/- What the evaluator's states say of the machine's; how the evaluator's control is the machine's, whatever the operations are known to do. -/
import Derived.Test.YtpjklfmfgmicaaaGEval
import Derived.Tactics
import Derived.Scope
import Derived.WalkKit
namespace Go.G
open Go.RowKit

/-! ### sets of operations, as numbers -/
theorem beq_iff {a b : Nat} : Nat.beq a b = true ↔ a = b := ⟨Nat.eq_of_beq_eq_true, fun h => by subst h; exact Nat.beq_refl _⟩
theorem hasZ_bit (L i : Nat) : hasZ L i = L.testBit i := by
  have h : Nat.land (Nat.shiftRight L i) 1 = (L >>> i) % 2 := Nat.and_one_is_mod _
  unfold hasZ
  rw [Bool.eq_iff_iff, beq_iff, h, Nat.testBit, Nat.and_comm, Nat.and_one_is_mod]
  simp
theorem putZ_bit (L i k : Nat) : (putZ L i).testBit k = (L.testBit k || decide (i = k)) := by
  show (L ||| (1 <<< i)).testBit k = _
  rw [Nat.testBit_or, Nat.one_shiftLeft, Nat.testBit_two_pow]
theorem orZ_bit (k : Nat) : ∀ l : List Nat, (orZ l).testBit k = l.any fun i => decide (i = k)
  | [] => by simp [orZ]
  | i :: r => by rw [orZ, putZ_bit, orZ_bit k r, List.any_cons, Bool.or_comm]
theorem subZ_iff (M L : Nat) : subZ M L = true ↔ ∀ k, M.testBit k = true → L.testBit k = true := by
  have h : subZ M L = true ↔ M &&& L = M := beq_iff
  rw [h]
  constructor
  · intro e k hk
    have := congrArg (fun n => Nat.testBit n k) e
    simp only [Nat.testBit_and, hk, Bool.true_and] at this
    exact this
  · intro hs
    refine Nat.eq_of_testBit_eq fun k => ?_
    rw [Nat.testBit_and]
    cases hm : M.testBit k with
    | false => rfl
    | true => rw [hs k hm]; rfl
def arrB (n L : Nat) : Array Bool := ((List.range n).map fun i => L.testBit i).toArray
theorem arrB_get (n L i : Nat) (d : Bool) : (arrB n L).getD i d = if i < n then L.testBit i else d := by
  rw [Array.getD_eq_getD_getElem?]
  unfold arrB
  by_cases h : i < n
  · simp [h]
  · simp [h]
theorem arrB_zero (n : Nat) : arrB n 0 = Array.replicate n false := by
  apply Array.ext'
  unfold arrB
  rw [List.toList_toArray, Array.toList_replicate]
  refine List.ext_getElem (by simp) fun i h1 h2 => by simp
theorem arrB_set {n L i : Nat} : (arrB n L).setIfInBounds i true = arrB n (putZ L i) := by
  apply Array.ext'
  unfold arrB
  rw [Array.toList_setIfInBounds, List.toList_toArray, List.toList_toArray]
  refine List.ext_getElem (by simp) fun k h1 h2 => ?_
  rw [List.getElem_set]
  by_cases e : i = k
  · subst e
    simp [putZ_bit]
  · simp [e, putZ_bit]
/-- No operation that is not there. -/
def InB (n L : Nat) : Prop := ∀ k, n ≤ k → L.testBit k = false
theorem inB_zero (n : Nat) : InB n 0 := fun k _ => Nat.zero_testBit k
theorem inB_put {n L i : Nat} (h : InB n L) (hi : i < n) : InB n (putZ L i) := fun k hk => by
  rw [putZ_bit, h k hk]
  have : ¬ i = k := by omega
  simp [this]
theorem bit_get {n L : Nat} (hL : InB n L) (k : Nat) : (arrB n L).getD k false = L.testBit k := by
  rw [arrB_get]
  by_cases h : k < n
  · rw [if_pos h]
  · rw [if_neg h, hL k (by omega)]
theorem readyM_eq {ops : Array Oper} {L : Nat} (hL : InB ops.size L) : readyM ops L = Region.ready .any ops (arrB ops.size L) := by
  unfold readyM Region.ready
  refine List.filter_congr fun i hi => ?_
  have hi' := List.mem_range.1 hi
  rw [arrB_get, if_pos hi', hasZ_bit]
  congr 1
  have hg : ops[i]? = some ops[i] := Array.getElem?_eq_getElem hi'
  unfold afterM
  rw [hg]
  simp only [Option.map_some, Option.getD_some]
  rw [Bool.eq_iff_iff, subZ_iff, Array.all_eq_true_iff_forall_mem]
  constructor
  · intro h e he
    cases hb : Region.binds .any e with
    | false => rfl
    | true =>
      simp only [Bool.not_true, Bool.false_or]
      rw [bit_get hL]
      refine h e.on ?_
      rw [orZ_bit, List.any_eq_true]
      exact ⟨e.on, List.mem_map.2 ⟨e, List.mem_filter.2 ⟨by simpa using he, hb⟩, rfl⟩, by simp⟩
  · intro h k hk
    rw [orZ_bit, List.any_eq_true] at hk
    obtain ⟨x, hx, hxk⟩ := hk
    obtain ⟨e, he, rfl⟩ := List.mem_map.1 hx
    obtain ⟨he1, he2⟩ := List.mem_filter.1 he
    have := h e (by simpa using he1)
    rw [he2] at this
    simp only [Bool.not_true, Bool.false_or] at this
    rw [bit_get hL] at this
    have e3 : e.on = k := by simpa using hxk
    rw [← e3]; exact this
theorem freeM_eq {ops : Array Oper} {L i : Nat} {oi : Oper} (hi : ops[i]? = some oi) : subZ (clashM ops i) L = Region.free .any ops (arrB ops.size L) i := by
  unfold clashM Region.free
  rw [hi]
  simp only
  rw [Bool.eq_iff_iff, subZ_iff, List.all_eq_true]
  constructor
  · intro h j hj
    have hj' := List.mem_range.1 hj
    by_cases hc : clashB ops i oi j = true
    · have := h j (by
        rw [orZ_bit, List.any_eq_true]
        exact ⟨j, List.mem_filter.2 ⟨hj, hc⟩, by simp⟩)
      rw [arrB_get, if_pos hj', this]
      simp
    · unfold clashB at hc
      cases hoj : ops[j]? with
      | none => simp
      | some oj =>
        rw [hoj] at hc
        simp only [Bool.and_eq_true, Bool.not_eq_true'] at hc
        simp only
        cases h1 : (j == i) with
        | true => rfl
        | false =>
          cases h2 : (oj.after.any (fun e => Region.binds .any e && e.on == i) || oi.apart ops oj) with
          | true => simp
          | false => exact absurd ⟨h1, h2⟩ hc
  · intro h k hk
    rw [orZ_bit, List.any_eq_true] at hk
    obtain ⟨j, hj, hjk⟩ := hk
    have e : j = k := by simpa using hjk
    subst e
    obtain ⟨hj1, hj2⟩ := List.mem_filter.1 hj
    have := h j hj1
    unfold clashB at hj2
    cases hoj : ops[j]? with
    | none => rw [hoj] at hj2; simp at hj2
    | some oj =>
      rw [hoj] at hj2 this
      simp only [Bool.and_eq_true, Bool.not_eq_true'] at hj2
      simp only at this
      rw [hj2.1, Bool.false_or, arrB_get, if_pos (List.mem_range.1 hj1), hj2.2, Bool.or_false] at this
      exact this
theorem quietM_eq {P : Program} {ops : Array Oper} {L : Nat} : subZ (noisyM P ops) L = quietLeft P ops (arrB ops.size L) := by
  unfold noisyM quietLeft
  rw [Bool.eq_iff_iff, subZ_iff, List.all_eq_true]
  constructor
  · intro h j hj
    have hj' := List.mem_range.1 hj
    rw [arrB_get, if_pos hj']
    cases hoj : ops[j]? with
    | none => simp
    | some o =>
      cases hc : (pureOp P o.op || readOp o.op) with
      | true => simp [hc]
      | false =>
        have := h j (by
          rw [orZ_bit, List.any_eq_true]
          exact ⟨j, List.mem_filter.2 ⟨hj, by rw [hoj]; simp only; rw [hc]; rfl⟩, by simp⟩)
        rw [this]; rfl
  · intro h k hk
    rw [orZ_bit, List.any_eq_true] at hk
    obtain ⟨j, hj, hjk⟩ := hk
    have e : j = k := by simpa using hjk
    subst e
    obtain ⟨hj1, hj2⟩ := List.mem_filter.1 hj
    have := h j hj1
    cases hoj : ops[j]? with
    | none => rw [hoj] at hj2; simp at hj2
    | some o =>
      rw [hoj] at hj2 this
      simp only [Bool.not_eq_true'] at hj2
      simp only at this
      rw [arrB_get, if_pos (List.mem_range.1 hj1), hj2, Bool.or_false] at this
      exact this
theorem testedM_eq {ops : Array Oper} {L i : Nat} (hL : InB ops.size L) : (!(Nat.beq (Nat.land (sameM ops i) L) 0)) = tested ops (arrB ops.size L) i := by
  unfold tested sameM
  rw [Bool.eq_iff_iff, List.any_eq_true, Bool.not_eq_true', ← Bool.not_eq_true, beq_iff]
  constructor
  · intro h
    apply Classical.byContradiction
    intro hn
    refine h (Nat.eq_of_testBit_eq fun k => ?_)
    show (_ &&& L).testBit k = _
    rw [Nat.testBit_and, Nat.zero_testBit, orZ_bit, Bool.and_eq_false_iff]
    cases hk : L.testBit k with
    | false => exact .inr rfl
    | true =>
      refine .inl ?_
      rw [List.any_eq_false]
      intro j hj
      have hm := List.mem_filter.1 hj
      intro e
      have e' : j = k := by simpa using e
      subst e'
      exact hn ⟨j, hm.1, by rw [hm.2, bit_get hL, hk]; rfl⟩
  · rintro ⟨k, hk, h2⟩ h
    rw [Bool.and_eq_true, bit_get hL] at h2
    have := congrArg (fun n => Nat.testBit n k) h
    have e : Nat.testBit (Nat.land (orZ ((List.range ops.size).filter fun k => sameG ops i k)) L) k = (Nat.testBit (orZ ((List.range ops.size).filter fun k => sameG ops i k)) k && L.testBit k) := Nat.testBit_and ..
    simp only [e, Nat.zero_testBit, h2.2, Bool.and_true, orZ_bit] at this
    rw [List.any_eq_false] at this
    exact this k (List.mem_filter.2 ⟨hk, h2.1⟩) (by simp)
theorem takesM_eq {P : Program} {ops : Array Oper} {prot : List Nat} {L : Nat} {env : Env} {bx : Bxs} (hL : InB ops.size L) : takesM P ops prot L env bx = takes P ops prot (arrB ops.size L) env bx := by
  funext i
  unfold takesM takes
  cases hi : ops[i]? with
  | none => rfl
  | some o => simp only [freeM_eq hi, quietM_eq, testedM_eq hL]
theorem evDrawM_eq {P : Program} {w0 : World} {X : XR} {ops : Array Oper} {prot : List Nat} {bx0 : Bxs} {K : Env → Bxs → AH → Prop} : ∀ (n L : Nat) (env : Env) (bx : Bxs) (h : AH), InB ops.size L →
    evDrawM P w0 X ops prot bx0 n L env bx h K = evDraw P w0 X ops prot bx0 n (arrB ops.size L) env bx h K
  | 0, _, _, _, _, _ => rfl
  | n + 1, L, env, bx, h, hL => by
    have ih := fun i (hi : i < ops.size) env bx h => evDrawM_eq (P := P) (w0 := w0) (X := X) (ops := ops) (prot := prot) (bx0 := bx0) (K := K) n (putZ L i) env bx h (inB_put hL hi)
    have one : ∀ i : Nat, (match ops[i]? with
        | some o => (match readOp o.op with
          | true => evOper P w0 X ops.toList o env (mergeB bx0 prot bx) h fun env _ h => evDrawM P w0 X ops prot bx0 n (putZ L i) env bx h K
          | false => evOper P w0 X ops.toList o env bx h fun env bx h => evDrawM P w0 X ops prot bx0 n (putZ L i) env bx h K)
        | none => False) = (match ops[i]? with
        | some o => (match readOp o.op with
          | true => evOper P w0 X ops.toList o env (mergeB bx0 prot bx) h fun env _ h => evDraw P w0 X ops prot bx0 n ((arrB ops.size L).setIfInBounds i true) env bx h K
          | false => evOper P w0 X ops.toList o env bx h fun env bx h => evDraw P w0 X ops prot bx0 n ((arrB ops.size L).setIfInBounds i true) env bx h K)
        | none => False) := fun i => by
      cases hi : ops[i]? with
      | none => rfl
      | some o =>
        have hlt := (Array.getElem?_eq_some_iff.1 hi).1
        have e := ih i hlt
        simp only [e, arrB_set]
    unfold evDrawM evDraw
    rw [readyM_eq hL, takesM_eq hL]
    cases Region.ready .any ops (arrB ops.size L) with
    | nil => rfl
    | cons r rs =>
      simp only
      cases List.find? (takes P ops prot (arrB ops.size L) env bx0) (r :: rs) with
      | some i => exact one i
      | none => exact congrArg (fun A => allOf A (r :: rs)) (funext one)
theorem evDrawM_start {P : Program} {w0 : World} {X : XR} {ops : Array Oper} {prot : List Nat} {bx0 : Bxs} {K : Env → Bxs → AH → Prop} (n : Nat) (env : Env) (bx : Bxs) (h : AH) :
    evDrawM P w0 X ops prot bx0 n 0 env bx h K = evDraw P w0 X ops prot bx0 n (Array.replicate ops.size false) env bx h K := by
  rw [evDrawM_eq _ _ _ _ _ (inB_zero _), arrB_zero]

theorem Keep.refl (h : AH) (w : World) : Keep h w h w := ⟨Nat.le_refl _, fun _ hb _ => ⟨hb, rfl⟩⟩
theorem Keep.trans {h h1 h2 : AH} {w w1 w2 : World} (a : Keep h w h1 w1) (b : Keep h1 w1 h2 w2) : Keep h w h2 w2 :=
  ⟨Nat.le_trans a.size b.size, fun i hi hl => by
    obtain ⟨x, y⟩ := a.same i hi hl
    obtain ⟨x', y'⟩ := b.same i x (Nat.lt_of_lt_of_le hl a.size)
    exact ⟨x', y'.trans y⟩⟩

def gam (β : Nat → Nat) : AV → Value
  | .v x => x
  | .bp i off => .pointer (some ⟨β i, off, none⟩)
  | .bs i n => .slice (some ⟨β i, 0, none⟩) n n

/-- Whence a law is seen: the world in which it began, what was known there; the blocks that are the function's own although they stood there; the first variables' blocks. -/
structure Fr where
  we : World
  he : AH
  own : Nat → Prop
  N : Nat
  β0 : Nat → Nat

structure KeepX (fr : Fr) (h : AH) (w : World) : Prop where
  size : fr.we.heap.size ≤ w.heap.size
  same : ∀ b, fr.he b = none → b < fr.we.heap.size → ¬ fr.own b → h b = none ∧ w.heap[b]? = fr.we.heap[b]?

theorem KeepX.trans {fr : Fr} {h h1 : AH} {w w1 : World} (a : KeepX fr h w) (b : Keep h w h1 w1) : KeepX fr h1 w1 :=
  ⟨Nat.le_trans a.size b.size, fun i hi hl ho => by
    obtain ⟨x, y⟩ := a.same i hi hl ho
    obtain ⟨x', y'⟩ := b.same i x (Nat.lt_of_lt_of_le hl a.size)
    exact ⟨x', y'.trans y⟩⟩

structure St (w0 : World) (fr : Fr) (β : Nat → Nat) (env : Env) (bx : Bxs) (h : AH) (a : Act) (w : World) : Prop where
  tm : a.tmps.toList = env.map (gam β)
  df : a.defers = []
  rw : Rw w0 h w
  kp : KeepX fr h w
  bxs : ∀ (i : Nat) (cs : List Value), bx[i]? = some (some cs) → (fr.own (β i) ∨ fr.we.heap.size ≤ β i) ∧ w0.heap.size ≤ β i ∧ h (β i) = none ∧ ∃ T, w.heap[β i]? = some (.cells cs.toArray T (0, 0))
  inj : ∀ i j : Nat, boxIs bx i = true → boxIs bx j = true → β i = β j → i = j
  pin : ∀ i, i < fr.N → β i = fr.β0 i
  len : fr.N ≤ bx.length

theorem opd_eval {w0 : World} {fr : Fr} {β : Nat → Nat} {env : Env} {bx : Bxs} {h : AH} {a : Act} {w : World} (s : St w0 fr β env bx h a w) (x : Operand) : a.eval x = gam β (opd env x) := by
  cases x with
  | tmp t =>
    have h1 := s.tm
    simp only [Act.eval, opd]
    have h2 : a.tmps.getD t undef = a.tmps.toList.getD t undef := by simp [Array.getD_eq_getD_getElem?, List.getD_eq_getElem?_getD]
    rw [h2, h1]
    simp only [List.getD_eq_getElem?_getD, List.getElem?_map]
    cases env[t]? <;> rfl
  | const v => rfl
  | global g => rfl
  | func f => rfl

/-! ### places -/
theorem junkM_map (β : Nat → Nat) (j : Nat → Value) (M : Nat) : ∀ (env : Env) (t : Nat), (∀ i, M.testBit (t + i) = true → j (t + i) = gam β (env.getD i (.v undef))) → (junkM M j t env).map (gam β) = env.map (gam β)
  | [], _, _ => rfl
  | x :: r, t, hj => by
    have ih := junkM_map β j M r (t + 1) fun i hi => by
      have := hj (i + 1) (by rw [show t + (i + 1) = t + 1 + i by omega]; exact hi)
      rw [show t + 1 + i = t + (i + 1) by omega, this]
      simp
    simp only [junkM, List.map_cons, ih, hasZ_bit]
    congr 1
    cases h : M.testBit t with
    | false => rfl
    | true =>
      have := hj 0 (by simpa using h)
      simpa [gam] using this
theorem junk_map (β : Nat → Nat) (j : Nat → Value) (J : List Nat) (env : Env) (hj : ∀ t ∈ J, j t = gam β (env.getD t (.v undef))) : (junk J j env).map (gam β) = env.map (gam β) := by
  refine junkM_map β j _ env 0 fun i hi => ?_
  rw [orZ_bit, List.any_eq_true] at hi
  obtain ⟨k, hk, e⟩ := hi
  have e' : k = i := by simpa using e
  subst e'
  rw [Nat.zero_add]
  exact hj k hk

theorem St.jump {w0 : World} {fr : Fr} (h0 : fr.N = 0) {β : Nat → Nat} {env : Env} {bx : Bxs} {h : AH} {a : Act} {w : World} (s : St w0 fr β env bx h a w)
    {J : Nat → List Nat × Nat} {Z : ZR} {key : Nat} {c : Code} {S : Stk} (hz : jump J Z key c S env bx h) : ∃ env' bx', Z c S env' bx' h ∧ St w0 fr β env' bx' h a w := by
  refine ⟨_, _, hz (fun t => gam β (env.getD t (.v undef))), ⟨?_, s.df, s.rw, s.kp, ?_, ?_, fun i hi => by omega, by omega⟩⟩
  · rw [junk_map β _ _ _ (fun _ _ => rfl)]; exact s.tm
  · intro i cs hi
    refine s.bxs i cs ?_
    rw [List.getElem?_take] at hi
    split at hi
    · exact hi
    · cases hi
  · intro i k hi hk
    have up : ∀ i, boxIs (bx.take (J key).2) i = true → boxIs bx i = true := by
      intro i hi
      simp only [boxIs, List.getElem?_take] at hi ⊢
      by_cases hlt : i < (J key).2
      · simpa [hlt] using hi
      · simp [hlt] at hi
    exact s.inj i k (up i hi) (up k hk)

/-! ### control -/
def itemOf : It → Item
  | .code c => .code c
  | .jn c => .code c
  | .blk id => .inBlock id
  | .lp c => .inLoop c
  | .scp c => .inScope c
def items (S : Stk) : List Item := S.map itemOf

theorem exit_items {id : Nat} : ∀ {S S' : Stk}, exitK id S = some S' → exitTo id (items S) = some (items S')
  | [], _, h => by cases h
  | x :: S, S', h => by
    cases x with
    | blk i =>
      simp only [exitK] at h
      simp only [items, List.map_cons, itemOf, exitTo]
      cases hb : Nat.beq i id with
      | true =>
        rw [hb] at h
        have e : i = id := Nat.eq_of_beq_eq_true hb
        subst e
        injection h with h; subst h
        simp
      | false =>
        rw [hb] at h
        have hne : (i == id) = false := by
          cases hq : (i == id) with
          | false => rfl
          | true =>
            have e : i = id := by simpa using hq
            subst e
            simp at hb
        have := exit_items h
        simp only [items] at this
        first | (simp_all; done) | (have h2 : (id == i) = false := by rw [← hne]; exact Bool.eq_iff_iff.mpr (by simp [eq_comm]); simp_all)
    | code c => exact exit_items (S := S) (by simpa [exitK] using h)
    | jn c => exact exit_items (S := S) (by simpa [exitK] using h)
    | lp c => exact exit_items (S := S) (by simpa [exitK] using h)
    | scp c => exact exit_items (S := S) (by simpa [exitK] using h)

theorem goto_items {l : Nat} : ∀ {S : Stk} {c : Code} {S' : Stk}, gotoK l S = some (c, S') → gotoIn l (items S) = some (.code c :: items S')
  | [], _, _, h => by cases h
  | x :: S, c, S', h => by
    cases x with
    | scp b =>
      simp only [gotoK] at h
      simp only [items, List.map_cons, itemOf, gotoIn]
      cases hf : findLabel b l with
      | some rest =>
        rw [hf] at h
        simp only [Option.some.injEq, Prod.mk.injEq] at h
        obtain ⟨rfl, rfl⟩ := h
        simp [itemOf]
      | none =>
        rw [hf] at h
        exact goto_items h
    | code c => exact goto_items (S := S) (by simpa [gotoK] using h)
    | jn c => exact goto_items (S := S) (by simpa [gotoK] using h)
    | lp c => exact goto_items (S := S) (by simpa [gotoK] using h)
    | blk c => exact goto_items (S := S) (by simpa [gotoK] using h)

/-- From here the frame comes to its end, and F holds there. -/
def Good (P : Program) (F : Act → World → Prop) (todo : List Item) (a : Act) (w : World) : Prop :=
  ∀ (b : Frame) (cs : List Frame), ∃ a' w' todo', F a' w' ∧ Steps P (lone (b.at a todo) cs w) (lone { b.at a' todo' with mode := .returning } cs w')

theorem Good.step {P : Program} {F : Act → World → Prop} {todo todo' : List Item} {a : Act} {w : World} (h : Good P F todo' a w)
    (hs : ∀ (b : Frame) (cs : List Frame), step P (lone (b.at a todo) cs w) = .next (lone (b.at a todo') cs w)) : Good P F todo a w := fun b cs => by
  obtain ⟨a', w', t, hf, hst⟩ := h b cs
  exact ⟨a', w', t, hf, .head (hs b cs) hst⟩

section
variable (P : Program) (w0 : World) (fr : Fr) (h0 : fr.N = 0) (X : XR)

/-- What a region leaves: some state of the evaluator's at which K holds. -/
def Left (K : Env → Bxs → AH → Prop) (a : Act) (w : World) : Prop := ∃ β env bx h, St w0 fr β env bx h a w ∧ K env bx h

variable (hops : ∀ (id : Nat) (ops : Array Oper) (K : Env → Bxs → AH → Prop) β env bx h a w, evOps P w0 X ops.toList ops.toList env bx h K → St w0 fr β env bx h a w →
    (Code.region id ops false).wp P (fun e a' w' => e = .normal ∧ Left w0 fr K a' w') a w)
  (hdraw : ∀ (id : Nat) (ops : Array Oper) (K : Env → Bxs → AH → Prop) β env bx h a w, Region.noSelect ops = true → evDraw P w0 X ops (protB ops.toList env bx) bx (ops.size + 1) (Array.replicate ops.size false) env (maskB (protB ops.toList env bx) bx) h K → St w0 fr β env bx h a w →
    (Code.region id ops true).wp P (fun e a' w' => e = .normal ∧ Left w0 fr K a' w') a w)
  (J : Nat → List Nat × Nat) (Z : ZR) (K : Env → Bxs → AH → Prop) (F : Act → World → Prop)
  (hZ : ∀ c S env bx h, Z c S env bx h → ∀ β a w, St w0 fr β env bx h a w → Good P F (.code c :: items S) a w)
  (hK : ∀ β env bx h a w, K env bx h → St w0 fr β env bx h a w → F a w)
  (hexp : ∀ (xs : List Operand) (K : Env → Bxs → AH → Prop) β env bx h a w, exposeAll w0 xs env bx h K → St w0 fr β env bx h a w → ∃ env' bx' h', K env' bx' h' ∧ St w0 fr β env' bx' h' a w)
set_option linter.unusedSectionVars false
include h0 hops hdraw hZ hK hexp

omit hops hdraw hZ hK in
theorem jumpX_good {β : Nat → Nat} {env : Env} {bx : Bxs} {h : AH} {a : Act} {w : World} (s : St w0 fr β env bx h a w) {key : Nat} {c : Code} {S : Stk} (hz : jumpX w0 J Z key c S env bx h) :
    ∃ env' bx' h', Z c S env' bx' h' ∧ St w0 fr β env' bx' h' a w := by
  obtain ⟨e1, b1, h1, hj, s1⟩ := hexp _ _ _ _ _ _ _ _ hz s
  obtain ⟨e2, b2, hz2, s2⟩ := s1.jump h0 hj
  exact ⟨e2, b2, h1, hz2, s2⟩

theorem good_region {id : Nat} {ops : Array Oper} {d : Bool} {K' : Env → Bxs → AH → Prop} {S : Stk} {a : Act} {w : World}
    (hw : (Code.region id ops d).wp P (fun e a' w' => e = .normal ∧ Left w0 fr K' a' w') a w) (hn : ∀ β env bx h a w, K' env bx h → St w0 fr β env bx h a w → Good P F (items S) a w) :
    Good P F (.code (.region id ops d) :: items S) a w := fun b cs => by
  obtain ⟨e, a1, w1, ⟨rfl, β, env, bx, h, hst, hk⟩, harr⟩ := hw b (items S) cs
  obtain ⟨a2, w2, t, hf, hs⟩ := hn β env bx h a1 w1 hk hst b cs
  exact ⟨a2, w2, t, hf, Steps.trans harr hs⟩

theorem ev_good (n : Nat) : (∀ c S env bx h, ev P w0 X J Z K n c S env bx h → ∀ β a w, St w0 fr β env bx h a w → Good P F (.code c :: items S) a w) ∧
    (∀ S env bx h, ev P w0 X J Z K n .skip S env bx h → ∀ β a w, St w0 fr β env bx h a w → Good P F (items S) a w) := by
  induction n with
  | zero => exact ⟨fun c S env bx h hev => by simp [ev] at hev, fun S env bx h hev => by simp [ev] at hev⟩
  | succ n ih =>
    obtain ⟨ihA, ihB⟩ := ih
    have hskip : ∀ S env bx h, ev P w0 X J Z K (n + 1) .skip S env bx h → ∀ β a w, St w0 fr β env bx h a w → Good P F (items S) a w := by
      intro S env bx h hev β a w hst
      cases S with
      | nil =>
        simp only [ev] at hev
        exact fun b cs => ⟨a, w, [], hK _ _ _ _ _ _ hev hst, .one step_end⟩
      | cons x S =>
        cases x with
        | code c => simp only [ev] at hev; exact ihA _ _ _ _ _ hev _ _ _ hst
        | jn c =>
          simp only [ev] at hev
          obtain ⟨env', bx', h', hz, hst'⟩ := jumpX_good w0 fr h0 J Z hexp hst hev
          exact hZ _ _ _ _ _ hz _ _ _ hst'
        | blk id => simp only [ev] at hev; exact (ihB _ _ _ _ hev _ _ _ hst).step fun b cs => step_inBlock
        | lp c =>
          simp only [ev] at hev
          obtain ⟨env', bx', h', hz, hst'⟩ := jumpX_good w0 fr h0 J Z hexp hst hev
          exact (hZ _ _ _ _ _ hz _ _ _ hst').step fun b cs => step_inLoop
        | scp c => simp only [ev] at hev; exact (ihB _ _ _ _ hev _ _ _ hst).step fun b cs => step_inScope
    refine ⟨?_, hskip⟩
    intro c S env bx h hev β a w hst
    cases c with
    | skip => exact (hskip _ _ _ _ hev _ _ _ hst).step fun b cs => step_skip
    | label l => simp only [ev] at hev; exact (ihB _ _ _ _ hev _ _ _ hst).step fun b cs => step_label
    | region id ops d =>
      cases d with
      | false =>
        simp only [ev] at hev
        exact good_region P w0 fr h0 X hops hdraw Z K F hZ hK hexp (hops id ops _ _ _ _ _ _ _ hev hst) fun β env bx h a w hk hst => ihB _ _ _ _ hk _ _ _ hst
      | true =>
        simp only [ev] at hev
        cases hsel : Region.noSelect ops with
        | false => rw [hsel] at hev; exact hev.elim
        | true =>
        rw [hsel] at hev
        simp only [evDrawM_start] at hev
        exact good_region P w0 fr h0 X hops hdraw Z K F hZ hK hexp (hdraw id ops _ _ _ _ _ _ _ hsel hev hst) fun β env bx h a w hk hst => ihB _ _ _ _ hk _ _ _ hst
    | seq x y =>
      simp only [ev] at hev
      cases hj : joins (markJ J) x y with
      | false => rw [hj] at hev; exact (ihA _ _ _ _ _ hev _ _ _ hst).step fun b cs => step_seq
      | true => rw [hj] at hev; exact (ihA _ _ _ _ _ hev _ _ _ hst).step fun b cs => step_seq
    | cond c x y =>
      have hev' := opd_eval hst c
      cases c with
      | tmp t =>
        simp only [ev] at hev
        split at hev
        · rename_i v t0 heq
          rw [brB_iff] at hev
          rw [heq] at hev'
          simp only [gam] at hev'
          have same : ∀ v, t0 = v → St w0 fr β (env.set t (.v (.bool v))) bx h a w := by
            rintro v rfl
            refine ⟨?_, hst.df, hst.rw, hst.kp, hst.bxs, hst.inj, hst.pin, hst.len⟩
            rw [hst.tm]
            apply List.ext_getElem?
            intro i
            simp only [List.getElem?_map, List.getElem?_set]
            split
            · rename_i e
              subst e
              simp only [opd, List.getD_eq_getElem?_getD] at heq
              split
              · rename_i hl
                rw [List.getElem?_eq_getElem hl] at heq ⊢
                simp only [Option.getD_some] at heq
                rw [heq]
              · rename_i hl
                rw [List.getElem?_eq_none (by omega)]
            · rfl
          cases ht : t0 with
          | true =>
            rw [ht] at hev'
            exact (ihA _ _ _ _ _ (hev.1 ht) _ _ _ (same _ ht)).step fun b cs => step_cond hev'
          | false =>
            rw [ht] at hev'
            exact (ihA _ _ _ _ _ (hev.2 ht) _ _ _ (same _ ht)).step fun b cs => step_cond hev'
        · exact hev.elim
      | const v =>
        cases v with
        | bool t =>
          simp only [ev] at hev
          rw [brB_iff] at hev
          cases t with
          | true => exact (ihA _ _ _ _ _ (hev.1 rfl) _ _ _ hst).step fun b cs => step_cond (t := true) rfl
          | false => exact (ihA _ _ _ _ _ (hev.2 rfl) _ _ _ hst).step fun b cs => step_cond (t := false) rfl
        | _ => simp only [ev] at hev
      | global g => simp only [ev] at hev
      | func f => simp only [ev] at hev
    | block id c => simp only [ev] at hev; exact (ihA _ _ _ _ _ hev _ _ _ hst).step fun b cs => step_block
    | loop c =>
      simp only [ev] at hev
      obtain ⟨env', bx', h', hz, hst'⟩ := jumpX_good w0 fr h0 J Z hexp hst hev
      exact (hZ _ _ _ _ _ hz _ _ _ hst').step fun b cs => step_loop
    | scope c => simp only [ev] at hev; exact (ihA _ _ _ _ _ hev _ _ _ hst).step fun b cs => step_scope
    | exit id =>
      simp only [ev] at hev
      cases hx : exitK id S with
      | none => rw [hx] at hev; exact hev.elim
      | some S' => rw [hx] at hev; exact (ihB _ _ _ _ hev _ _ _ hst).step fun b cs => step_exit (exit_items hx)
    | goto l =>
      simp only [ev] at hev
      cases hx : gotoK l S with
      | none => rw [hx] at hev; exact hev.elim
      | some p =>
        obtain ⟨c, S'⟩ := p
        rw [hx] at hev
        obtain ⟨env', bx', h', hz, hst'⟩ := jumpX_good w0 fr h0 J Z hexp hst hev
        exact (hZ _ _ _ _ _ hz _ _ _ hst').step fun b cs => step_goto (goto_items hx)
    | ret =>
      simp only [ev] at hev
      exact fun b cs => ⟨a, w, _, hK _ _ _ _ _ _ hev hst, .one step_ret⟩
    | rangeFunc f ps x y => simp only [ev] at hev
    | refuse s => simp only [ev] at hev
end

end Go.G
