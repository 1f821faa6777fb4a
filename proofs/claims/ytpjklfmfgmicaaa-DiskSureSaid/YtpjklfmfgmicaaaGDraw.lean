/- A region, its order written or open, does what the evaluator says. -/
import Derived.Test.YtpjklfmfgmicaaaGHold
namespace Go.G
open Go.RowKit

section
variable {P : Program} {w0 : World} {fr : Fr} {β : Nat → Nat} {env : Env} {bx : Bxs} {h : AH} {a : Act} {w : World}

theorem set_same {env : Env} {d : Nat} {x : AV} (hx : env[d]? = some x) : env.set d x = env := by
  apply List.ext_getElem?
  intro i
  rw [List.getElem?_set]
  split
  · rename_i e
    subst e
    rw [hx]
    have := (List.getElem?_eq_some_iff.1 hx).1
    simp [this]
  · rfl

theorem getD_v {env : Env} {d : Nat} {t : Bool} (hx : env.getD d (.v undef) = .v (.bool t)) : env[d]? = some (.v (.bool t)) := by
  rw [List.getD_eq_getElem?_getD] at hx
  cases hq : env[d]? with
  | none => rw [hq] at hx; cases hx
  | some y => rw [hq] at hx; simp at hx; rw [hx]

theorem St.tmp (s : St w0 fr β env bx h a w) (d : Nat) : a.tmps[d]? = (env[d]?).map (gam β) := by
  have := congrArg (fun l => l[d]?) s.tm
  simpa using this

theorem oper_split {X : XR} {ops : Array Oper} {o : Oper} {K : Env → Bxs → AH → Prop} (hb : evOper P w0 X ops.toList o env bx h K) (s : St w0 fr β env bx h a w) :
    (Region.wanted o (yielded ops a.tmps) = true ∧ evOp P w0 X o.op o.type env bx h fun env bx h y => K (setE env o.dst y) bx h) ∨
      (Region.wanted o (yielded ops a.tmps) = false ∧ K (setE env o.dst (.v undef)) bx h) := by
  unfold evOper at hb
  split at hb
  · rename_i x hx
    split at hb
    · rename_i hg
      refine .inl ⟨by simp [Region.wanted, hg], ?_⟩
      have ho : o.op = .entry x := by
        unfold entOf at hx
        split at hx
        · injection hx with hx; subst hx; assumption
        · cases hx
      rw [ho]
      unfold withV at hb
      split at hb
      · rename_i e
        simp only [evOp, e]
        exact ⟨_, _, hb⟩
      · exact hb.elim
    · exact hb.elim
  split at hb
  · rename_i hg
    exact .inl ⟨by simp [Region.wanted, hg], hb⟩
  · rename_i j want hg
    split at hb
    · rename_i oj hoj
      split at hb
      · rename_i d hd
        have hoj' : ops[j]? = some oj := by simpa using hoj
        have hy : yielded ops a.tmps j = match a.tmps[d]? with | some (.bool b) => some b | _ => none := by
          simp [yielded, hoj', hd]
          rfl
        have hw : Region.wanted o (yielded ops a.tmps) = (yielded ops a.tmps j == some want) := by simp [Region.wanted, hg]
        rw [s.tmp d] at hy
        split at hb
        · rename_i t ht
          have hx := getD_v ht
          have hs := set_same hx
          rw [hx] at hy
          simp only [Option.map_some, gam] at hy
          rw [hw, hy]
          cases t with
          | true =>
            rw [hs] at hb
            cases want with
            | true => exact .inl ⟨rfl, ((brB_iff _ _ _).1 hb).1 rfl⟩
            | false => exact .inr ⟨rfl, ((brB_iff _ _ _).1 hb).1 rfl⟩
          | false =>
            rw [hs] at hb
            cases want with
            | true => exact .inr ⟨rfl, ((brB_iff _ _ _).1 hb).2 rfl⟩
            | false => exact .inl ⟨rfl, ((brB_iff _ _ _).1 hb).2 rfl⟩
        · rename_i vs ht
          split at hb
          · refine .inr ⟨?_, hb⟩
            rw [hw, hy]
            rw [List.getD_eq_getElem?_getD] at ht
            cases hq : env[d]? with
            | none => rfl
            | some y => rw [hq] at ht; simp at ht; rw [ht]; rfl
          · exact hb.elim
        · exact hb.elim
      · exact hb.elim
    · exact hb.elim

theorem skip_split {X : XR} {ops : Array Oper} {o : Oper} {K : Env → Bxs → AH → Prop} (hk : skipB ops.toList o env = true) (hb : evOper P w0 X ops.toList o env bx h K) (s : St w0 fr β env bx h a w) :
    Region.wanted o (yielded ops a.tmps) = false ∧ K (setE env o.dst (.v undef)) bx h := by
  have no : Region.wanted o (yielded ops a.tmps) = false := by
    unfold skipB at hk
    split at hk
    · cases hk
    · split at hk
      · cases hk
      · rename_i j want hg
        split at hk
        · rename_i oj hoj
          split at hk
          · rename_i d hd
            have hoj' : ops[j]? = some oj := by simpa using hoj
            have hy : yielded ops a.tmps j = match a.tmps[d]? with | some (.bool b) => some b | _ => none := by
              simp [yielded, hoj', hd]
              rfl
            have hw : Region.wanted o (yielded ops a.tmps) = (yielded ops a.tmps j == some want) := by simp [Region.wanted, hg]
            rw [s.tmp d] at hy
            split at hk
            · rename_i t ht
              have hx := getD_v ht
              rw [hx] at hy
              simp only [Option.map_some, gam] at hy
              rw [hw, hy]
              cases t <;> cases want <;> simp at hk ⊢
            · rename_i vs ht
              split at hk
              · rw [hw, hy]
                rw [List.getD_eq_getElem?_getD] at ht
                cases hq : env[d]? with
                | none => rfl
                | some y => rw [hq] at ht; simp at ht; rw [ht]; rfl
              · cases hk
            · cases hk
          · cases hk
        · cases hk
  rcases oper_split hb s with ⟨hw, _⟩ | ⟨hw, hb⟩
  · rw [no] at hw; cases hw
  · exact ⟨no, hb⟩

theorem St.setE (s : St w0 fr β env bx h a w) (d : Option Nat) (y : AV) : St w0 fr β (setE env d y) bx h (a.put d (gam β y)) w := by
  cases d with
  | none => exact s
  | some d =>
    refine ⟨?_, s.df, s.rw, s.kp, s.bxs, s.inj, s.pin, s.len⟩
    simp only [Act.put, Go.G.setE, Array.toList_setIfInBounds, s.tm, List.map_set]

theorem upon_ok {o : Oper} {K : KO} {next : Act → World → Prop} {Q : Exit → Act → World → Prop} {r : Result Next} (hr : OpOK P w0 fr K a r)
    (hn : ∀ β env bx h y w', St w0 fr β env bx h a w' → K env bx h y → next (a.put o.dst (gam β y)) w') : o.upon P a next Q r := by
  cases r with
  | halt x w' => exact hr.elim
  | ok n w' =>
    cases n with
    | value x =>
      obtain ⟨β, env, bx, h, y, rfl, s, hk⟩ := hr
      exact hn _ _ _ _ _ _ s hk
    | skip =>
      obtain ⟨β, env, bx, h, y, e, s, hk⟩ := hr
      simp only [Oper.upon]
      rw [e]
      exact hn _ _ _ _ _ _ s hk
    | enter f args =>
      refine Calls.mono hr fun e w'' he => ?_
      obtain ⟨x, rfl, β, env, bx, h, y, rfl, s, hk⟩ := he
      exact hn _ _ _ _ _ _ s hk
    | _ => exact hr.elim

section
variable {X : XR} (hX : Snd P w0 X)
include hX

/-- An operation, with its guard. -/
theorem oper_ok {ops : Array Oper} {o : Oper} {K : Env → Bxs → AH → Prop} {next : Act → World → Prop} {Q : Exit → Act → World → Prop} (hb : evOper P w0 X ops.toList o env bx h K) (s : St w0 fr β env bx h a w)
    (hn : ∀ β env bx h a w, St w0 fr β env bx h a w → K env bx h → next a w) :
    if Region.wanted o (yielded ops a.tmps) then o.wp P a w next Q ∨ (o.asks P a w ∧ LetsOut Q) else next (a.put o.dst undef) w := by
  rcases oper_split hb s with ⟨hw, hb⟩ | ⟨hw, hb⟩
  · rw [if_pos hw]
    refine .inl (upon_ok (op_ok hX hb s) fun β env bx h y w' s' hk => hn _ _ _ _ _ _ (s'.setE o.dst y) hk)
  · rw [if_neg (by simp [hw])]
    exact hn _ _ _ _ _ _ (s.setE o.dst (.v undef)) hb

theorem ops_ok {ops : Array Oper} {K : Env → Bxs → AH → Prop} : ∀ (l : List Oper) β env bx h a w, evOps P w0 X ops.toList l env bx h K → St w0 fr β env bx h a w →
    wpList P ops (fun e a' w' => e = .normal ∧ Left w0 fr K a' w') l a w
  | [], β, env, bx, h, a, w, hb, s => ⟨rfl, β, env, bx, h, s, hb⟩
  | o :: os, β, env, bx, h, a, w, hb, s => by
    simp only [evOps] at hb
    simp only [wpList]
    exact oper_ok hX hb s fun β env bx h a w s' hk => ops_ok os β env bx h a w hk s'

theorem hops_ok (id : Nat) (ops : Array Oper) (K : Env → Bxs → AH → Prop) (β : Nat → Nat) (env : Env) (bx : Bxs) (h : AH) (a : Act) (w : World)
    (hb : evOps P w0 X ops.toList ops.toList env bx h K) (s : St w0 fr β env bx h a w) : (Code.region id ops false).wp P (fun e a' w' => e = .normal ∧ Left w0 fr K a' w') a w :=
  wp_region_list (ops_ok hX ops.toList β env bx h a w hb s)
end

/-! ### variables laid aside -/
theorem mask_length : ∀ (l : List Nat) (bx : Bxs), (maskB l bx).length = bx.length
  | [], bx => rfl
  | i :: l, bx => by simp [maskB, mask_length l]
theorem merge_length {bx0 : Bxs} : ∀ (l : List Nat) (bx : Bxs), (mergeB bx0 l bx).length = bx.length
  | [], bx => rfl
  | i :: l, bx => by simp [mergeB, merge_length l]

theorem mask_some : ∀ {l : List Nat} {bx : Bxs} {i : Nat} {cs : List Value}, (maskB l bx)[i]? = some (some cs) → i ∉ l ∧ bx[i]? = some (some cs)
  | [], bx, i, cs, hi => ⟨by simp, hi⟩
  | k :: l, bx, i, cs, hi => by
    obtain ⟨h1, h2⟩ := mask_some (l := l) hi
    rw [List.getElem?_set] at h2
    split at h2
    · split at h2 <;> cases h2
    · rename_i hk
      exact ⟨by simp only [List.mem_cons, not_or]; exact ⟨fun e => hk e.symm, h1⟩, h2⟩

theorem merge_some {bx0 : Bxs} : ∀ {l : List Nat} {bx : Bxs} {i : Nat} {cs : List Value}, (mergeB bx0 l bx)[i]? = some (some cs) → (i ∈ l ∧ bx0[i]? = some (some cs)) ∨ (i ∉ l ∧ bx[i]? = some (some cs))
  | [], bx, i, cs, hi => .inr ⟨by simp, hi⟩
  | k :: l, bx, i, cs, hi => by
    rcases merge_some (l := l) hi with ⟨h1, h2⟩ | ⟨h1, h2⟩
    · exact .inl ⟨.tail _ h1, h2⟩
    · rw [List.getElem?_set] at h2
      split at h2
      · rename_i e
        subst e
        split at h2
        · simp only [Option.some.injEq] at h2
          split at h2
          · rename_i x hx
            exact .inl ⟨.head _, by rw [hx, h2]⟩
          · cases h2
        · cases h2
      · rename_i e
        exact .inr ⟨by simp only [List.mem_cons, not_or]; exact ⟨fun q => e q.symm, h1⟩, h2⟩

theorem boxIs_iff {bx : Bxs} {i : Nat} : boxIs bx i = true ↔ ∃ cs, bx[i]? = some (some cs) := by
  constructor
  · intro hi
    obtain ⟨cs, h, _⟩ := boxIs_some hi
    exact ⟨cs, h⟩
  · rintro ⟨cs, h⟩
    simp [boxIs, h]

/-- Within a region: the variables that it does not touch are laid aside. -/
def inn (w1 : World) (h0 : AH) (β0 : Nat → Nat) (bx0 : Bxs) (prot : List Nat) : Fr :=
  { we := w1, he := h0, own := fun b => ∃ i cs, bx0[i]? = some (some cs) ∧ i ∉ prot ∧ b = β0 i, N := bx0.length, β0 := β0 }

theorem St.inner (s : St w0 fr β env bx h a w) (prot : List Nat) : St w0 (inn w h β bx prot) β env (maskB prot bx) h a w := by
  refine ⟨s.tm, s.df, s.rw, ⟨Nat.le_refl _, fun b hb _ _ => ⟨hb, rfl⟩⟩, fun i cs hi => ?_, fun i j hi hj e => ?_, fun i _ => rfl, by rw [mask_length]; exact Nat.le_refl _⟩
  · obtain ⟨h1, h2⟩ := mask_some hi
    obtain ⟨_, g2, g3, g4⟩ := s.bxs i cs h2
    exact ⟨.inl ⟨i, cs, h2, h1, rfl⟩, g2, g3, g4⟩
  · obtain ⟨ci, hi⟩ := boxIs_iff.1 hi
    obtain ⟨cj, hj⟩ := boxIs_iff.1 hj
    exact s.inj i j (boxIs_iff.2 ⟨ci, (mask_some hi).2⟩) (boxIs_iff.2 ⟨cj, (mask_some hj).2⟩) e

section
variable {bx0 : Bxs} {h0 : AH} {a0 : Act} {w1 : World} {β0 : Nat → Nat} {env0 : Env} {prot : List Nat}

theorem not_own (s0 : St w0 fr β0 env0 bx0 h0 a0 w1) {i : Nat} {cs : List Value} (hp : i ∈ prot) (hi : bx0[i]? = some (some cs)) : ¬ (inn w1 h0 β0 bx0 prot).own (β0 i) := by
  rintro ⟨k, ck, hk, hnk, e⟩
  have := s0.inj i k (boxIs_iff.2 ⟨cs, hi⟩) (boxIs_iff.2 ⟨ck, hk⟩) e
  subst this
  exact hnk hp

theorem St.kept (s0 : St w0 fr β0 env0 bx0 h0 a0 w1) (s : St w0 (inn w1 h0 β0 bx0 prot) β env bx h a w) {i : Nat} {cs : List Value} (hp : i ∈ prot) (hi : bx0[i]? = some (some cs)) :
    h (β0 i) = none ∧ w.heap[β0 i]? = w1.heap[β0 i]? := by
  obtain ⟨_, _, g3, _⟩ := s0.bxs i cs hi
  exact s.kp.same (β0 i) g3 (s0.lt hi) (not_own s0 hp hi)

theorem St.pinned (s : St w0 (inn w1 h0 β0 bx0 prot) β env bx h a w) {i : Nat} {cs : List Value} (hi : bx0[i]? = some (some cs)) : β i = β0 i :=
  s.pin i (List.getElem?_eq_some_iff.1 hi).1

theorem St.outer (s0 : St w0 fr β0 env0 bx0 h0 a0 w1) (s : St w0 (inn w1 h0 β0 bx0 prot) β env bx h a w) : St w0 fr β env (mergeB bx0 prot bx) h a w := by
  have far : ∀ {i j : Nat} {ci cj : List Value}, i ∈ prot → bx0[i]? = some (some ci) → bx[j]? = some (some cj) → β i = β j → False := by
    intro i j ci cj hp hi hj e
    obtain ⟨o, _⟩ := s.bxs j cj hj
    rw [s.pinned hi] at e
    rcases o with o | o
    · rw [← e] at o
      exact not_own s0 hp hi o
    · have h1 : w1.heap.size ≤ β j := o
      have := s0.lt hi
      omega
  refine ⟨s.tm, s.df, s.rw, ⟨Nat.le_trans s0.kp.size s.kp.size, fun b hb hl ho => ?_⟩, fun i cs hi => ?_, fun i j hi hj e => ?_, fun i hi => ?_, ?_⟩
  · obtain ⟨x, y⟩ := s0.kp.same b hb hl ho
    obtain ⟨x', y'⟩ := s.kp.same b x (Nat.lt_of_lt_of_le hl s0.kp.size) (by
      rintro ⟨i, cs, hi, _, rfl⟩
      obtain ⟨o, _⟩ := s0.bxs i cs hi
      rcases o with o | o
      · exact ho o
      · omega)
    exact ⟨x', y'.trans y⟩
  · rcases merge_some hi with ⟨hp, hi⟩ | ⟨_, hi⟩
    · obtain ⟨g1, g2, g3, T, hT⟩ := s0.bxs i cs hi
      obtain ⟨k1, k2⟩ := s0.kept s hp hi
      rw [s.pinned hi]
      exact ⟨g1, g2, k1, T, by rw [k2]; exact hT⟩
    · obtain ⟨g1, g2, g3, g4⟩ := s.bxs i cs hi
      refine ⟨?_, g2, g3, g4⟩
      rcases g1 with ⟨k, ck, hk, _, e⟩ | g1
      · rw [e]
        exact (s0.bxs k ck hk).1
      · exact .inr (Nat.le_trans s0.kp.size g1)
  · obtain ⟨ci, hi⟩ := boxIs_iff.1 hi
    obtain ⟨cj, hj⟩ := boxIs_iff.1 hj
    rcases merge_some hi with ⟨pi, hi⟩ | ⟨_, hi⟩
    · rcases merge_some hj with ⟨pj, hj⟩ | ⟨_, hj⟩
      · rw [s.pinned hi, s.pinned hj] at e
        exact s0.inj i j (boxIs_iff.2 ⟨ci, hi⟩) (boxIs_iff.2 ⟨cj, hj⟩) e
      · exact (far pi hi hj e).elim
    · rcases merge_some hj with ⟨pj, hj⟩ | ⟨_, hj⟩
      · exact (far pj hj hi e.symm).elim
      · exact s.inj i j (boxIs_iff.2 ⟨ci, hi⟩) (boxIs_iff.2 ⟨cj, hj⟩) e
  · have := s0.len
    rw [s.pin i (Nat.lt_of_lt_of_le hi this)]
    exact s0.pin i hi
  · rw [merge_length]
    exact Nat.le_trans s0.len s.len
end
end
end Go.G
