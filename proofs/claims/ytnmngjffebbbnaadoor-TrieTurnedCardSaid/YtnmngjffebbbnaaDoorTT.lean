/- A tree of levels, plainly. -/
import Derived.Test.YtnmngjffebbbnaaDoorTK
import Derived.Test.YtnmngjffebbbnaaDoorTS
import Derived.Test.YtnmngjffebbbnaaDoorProg
set_option maxRecDepth 100000
namespace Go.G.YtnmngjffebbbnaaDoor
open Go.RowKit
open Value (string slice int bool agg)
/-! ### entries by key -/
def getA {α : Type} (k : ByteArray) : List (ByteArray × α) → Option α
  | [] => none
  | e :: es => if k = e.1 then some e.2 else getA k es
def putA {α : Type} (k : ByteArray) (x : α) : List (ByteArray × α) → List (ByteArray × α)
  | [] => [(k, x)]
  | e :: es => if k = e.1 then (k, x) :: es else e :: putA k x es
def delA {α : Type} (k : ByteArray) : List (ByteArray × α) → List (ByteArray × α)
  | [] => []
  | e :: es => if k = e.1 then es else e :: delA k es
def mV {α : Type} (enc : α → Value) (l : List (ByteArray × α)) : List (Value × Value) := l.map fun e => (.string e.1, enc e.2)
section
variable {α : Type} {enc : α → Value} {k : ByteArray} {x : α}
theorem mV_length (l : List (ByteArray × α)) : (mV enc l).length = l.length := List.length_map ..
theorem eqK_s (a b : ByteArray) : eqK (.string a) (.string b) = decide (a = b) := rfl
theorem get_mV : ∀ l : List (ByteArray × α), getM (.string k) (mV enc l) = (getA k l).map enc
  | [] => rfl
  | e :: l => by
    have ih := get_mV l
    show (match eqK (Value.string k) (Value.string e.1) with | true => some (enc e.2) | false => getM (Value.string k) (mV enc l)) = _
    rw [eqK_s, getA]
    by_cases h : k = e.1
    · simp [h]
    · simp [h, ih]
theorem put_mV : ∀ l : List (ByteArray × α), putM (.string k) (enc x) (mV enc l) = mV enc (putA k x l)
  | [] => rfl
  | e :: l => by
    have ih := put_mV l
    show (match eqK (Value.string k) (Value.string e.1) with | true => (Value.string k, enc x) :: mV enc l | false => (Value.string e.1, enc e.2) :: putM (Value.string k) (enc x) (mV enc l)) = _
    rw [eqK_s, putA]
    by_cases h : k = e.1
    · simp [h, mV]
    · rw [if_neg h, decide_eq_false h]; dsimp only; rw [ih]; rfl
theorem del_mV : ∀ l : List (ByteArray × α), delM (.string k) (mV enc l) = mV enc (delA k l)
  | [] => rfl
  | e :: l => by
    have ih := del_mV l
    show (match eqK (Value.string k) (Value.string e.1) with | true => mV enc l | false => (Value.string e.1, enc e.2) :: delM (Value.string k) (mV enc l)) = _
    rw [eqK_s, delA]
    by_cases h : k = e.1
    · simp [h]
    · rw [if_neg h, decide_eq_false h]; dsimp only; rw [ih]; rfl
theorem getA_some : ∀ {l : List (ByteArray × α)}, getA k l = some x → (k, x) ∈ l
  | [], h => by cases h
  | e :: l, h => by
    rw [getA] at h
    split at h
    · rename_i g; injection h with h; subst h g; exact List.mem_cons_self ..
    · exact List.mem_cons_of_mem _ (getA_some h)
theorem getA_none : ∀ {l : List (ByteArray × α)}, getA k l = none → ∀ x, (k, x) ∉ l
  | [], _, _, h => by cases h
  | e :: l, h, x, hx => by
    rw [getA] at h
    split at h
    · cases h
    · rename_i g
      rcases List.mem_cons.1 hx with rfl | hx
      · exact g rfl
      · exact getA_none h x hx
theorem getA_mem {l : List (ByteArray × α)} (h : (keys l).Nodup) : getA k l = some x ↔ (k, x) ∈ l := by
  constructor
  · exact getA_some
  · intro hx
    induction l with
    | nil => cases hx
    | cons e l ih =>
      obtain ⟨a, b⟩ := List.nodup_cons.1 h
      rw [getA]
      rcases List.mem_cons.1 hx with rfl | hx
      · rw [if_pos rfl]
      · rw [if_neg fun g => a (List.mem_map.2 ⟨_, hx, g⟩)]
        exact ih b hx
theorem putA_new {l : List (ByteArray × α)} (h : getA k l = none) : putA k x l = l ++ [(k, x)] := by
  induction l with
  | nil => rfl
  | cons e l ih =>
    rw [getA] at h
    split at h
    · cases h
    · rename_i g
      rw [putA, if_neg g, ih h]; rfl
theorem putA_keys : ∀ {l : List (ByteArray × α)}, ∀ y, y ∈ keys (putA k x l) ↔ y = k ∨ y ∈ keys l
  | [], y => by simp [putA, keys]
  | e :: l, y => by
    have ih := putA_keys (l := l) y
    rw [putA]
    split
    · rename_i g; simp [keys, ← g]
    · simp only [keys, List.map_cons, List.mem_cons] at ih ⊢
      rw [ih]
      constructor
      · rintro (a | a | a)
        · exact .inr (.inl a)
        · exact .inl a
        · exact .inr (.inr a)
      · rintro (a | a | a)
        · exact .inr (.inl a)
        · exact .inl a
        · exact .inr (.inr a)
theorem putA_nodup : ∀ {l : List (ByteArray × α)}, (keys l).Nodup → (keys (putA k x l)).Nodup
  | [], _ => by simp [putA, keys]
  | e :: l, h => by
    obtain ⟨a, b⟩ := List.nodup_cons.1 h
    rw [putA]
    split
    · rename_i g
      refine List.nodup_cons.2 ⟨?_, b⟩
      rw [g]; exact a
    · rename_i g
      refine List.nodup_cons.2 ⟨fun q => ?_, putA_nodup b⟩
      rcases (putA_keys e.1).1 q with q | q
      · exact g q.symm
      · exact a q
theorem putA_mem : ∀ {l : List (ByteArray × α)}, (keys l).Nodup → ∀ k' x', (k', x') ∈ putA k x l ↔ (k' = k ∧ x' = x) ∨ (k' ≠ k ∧ (k', x') ∈ l)
  | [], _, k', x' => by simp [putA]
  | e :: l, h, k', x' => by
    obtain ⟨a, b⟩ := List.nodup_cons.1 h
    have ih := putA_mem b k' x'
    rw [putA]
    split
    · rename_i g
      simp only [List.mem_cons, Prod.mk.injEq]
      constructor
      · rintro (q | q)
        · exact .inl q
        · refine .inr ⟨fun z => ?_, .inr q⟩
          subst z
          exact a (List.mem_map.2 ⟨_, q, g⟩)
      · rintro (q | ⟨z, q | q⟩)
        · exact .inl q
        · exact absurd (by rw [g, ← q]) z
        · exact .inr q
    · rename_i g
      simp only [List.mem_cons, ih]
      constructor
      · rintro (q | q | ⟨z, q⟩)
        · exact .inr ⟨fun z => g (by rw [← z, ← q]), .inl q⟩
        · exact .inl q
        · exact .inr ⟨z, .inr q⟩
      · rintro (q | ⟨z, q | q⟩)
        · exact .inr (.inl q)
        · exact .inl q
        · exact .inr (.inr ⟨z, q⟩)
theorem delA_sub : ∀ {l : List (ByteArray × α)}, List.Sublist (delA k l) l
  | [] => List.Sublist.slnil
  | e :: l => by
    rw [delA]
    split
    · exact List.sublist_cons_self ..
    · exact delA_sub.cons_cons _
theorem delA_nodup {l : List (ByteArray × α)} (h : (keys l).Nodup) : (keys (delA k l)).Nodup := (delA_sub.map _).nodup h
theorem delA_mem : ∀ {l : List (ByteArray × α)}, (keys l).Nodup → ∀ k' x', (k', x') ∈ delA k l ↔ k' ≠ k ∧ (k', x') ∈ l
  | [], _, k', x' => by simp [delA]
  | e :: l, h, k', x' => by
    obtain ⟨a, b⟩ := List.nodup_cons.1 h
    have ih := delA_mem b k' x'
    rw [delA]
    split
    · rename_i g
      simp only [List.mem_cons]
      constructor
      · intro q
        refine ⟨fun z => ?_, .inr q⟩
        subst z
        exact a (List.mem_map.2 ⟨_, q, g⟩)
      · rintro ⟨z, q | q⟩
        · exact absurd (by rw [g, ← q]) z
        · exact q
    · rename_i g
      simp only [List.mem_cons, ih]
      constructor
      · rintro (q | ⟨z, q⟩)
        · exact ⟨fun z => g (by rw [← z, ← q]), .inl q⟩
        · exact ⟨z, .inr q⟩
      · rintro ⟨z, q | q⟩
        · exact .inl q
        · exact .inr ⟨z, q⟩
end
/-! ### a tree: its levels, each with its path -/
structure Nd where
  p : List ByteArray
  b : Nat
  hm : Nat
  dm : Nat
  here : List (ByteArray × Int)
  down : List (ByteArray × Nat)
def iV (q : Int) : Value := .int .i64 q
def pV (b : Nat) : Value := .pointer (some ⟨b, 0, none⟩)
def gV (b : Nat) : Value := .map (some b)
def nds : List Nd → List (Nat × AB)
  | [] => []
  | n :: N => (n.b, .cells [gV n.hm, gV n.dm] 2) :: (n.hm, .map (mV iV n.here)) :: (n.dm, .map (mV pV n.down)) :: nds N
structure Tre (N : List Nd) (rb : Nat) : Prop where
  root : ∃ n ∈ N, n.p = [] ∧ n.b = rb
  np : (N.map (·.p)).Nodup
  hk : ∀ n ∈ N, (keys n.here).Nodup
  dk : ∀ n ∈ N, (keys n.down).Nodup
  dn : ∀ n ∈ N, ∀ k b, (k, b) ∈ n.down ↔ ∃ m ∈ N, m.p = n.p ++ [k] ∧ m.b = b
  up : ∀ n ∈ N, ∀ P k, n.p = P ++ [k] → ∃ m ∈ N, m.p = P
def Has (N : List Nd) (P : List ByteArray) (c : ByteArray) (q : Int) : Prop := ∃ n ∈ N, n.p = P ∧ (c, q) ∈ n.here
section
variable {N M R : List Nd} {rb : Nat} {n m : Nd} {k c : ByteArray} {P : List ByteArray} {q : Int}
theorem front (h : n ∈ N) : ∃ R, N.Perm (n :: R) := by
  obtain ⟨s, t, rfl⟩ := List.append_of_mem h
  exact ⟨s ++ t, List.perm_middle⟩
theorem nds_perm (h : N.Perm M) : (nds N).Perm (nds M) := by
  induction h with
  | nil => exact List.Perm.refl _
  | cons x _ ih => exact ((ih.cons _).cons _).cons _
  | swap x y l =>
    classical
    rw [List.perm_iff_count]
    intro t
    simp only [nds, List.count_cons]
    omega
  | trans _ _ h1 h2 => exact h1.trans h2
theorem Has.perm (h : N.Perm M) : Has N P c q ↔ Has M P c q := by
  unfold Has
  constructor
  · rintro ⟨n, hn, a⟩; exact ⟨n, h.mem_iff.1 hn, a⟩
  · rintro ⟨n, hn, a⟩; exact ⟨n, h.mem_iff.2 hn, a⟩
theorem Tre.perm (t : Tre N rb) (h : N.Perm M) : Tre M rb where
  root := by obtain ⟨n, hn, a⟩ := t.root; exact ⟨n, h.mem_iff.1 hn, a⟩
  np := ((h.map _).nodup_iff).1 t.np
  hk := fun n hn => t.hk n (h.mem_iff.2 hn)
  dk := fun n hn => t.dk n (h.mem_iff.2 hn)
  dn := fun n hn k b => by
    rw [t.dn n (h.mem_iff.2 hn) k b]
    constructor
    · rintro ⟨m, hm, a⟩; exact ⟨m, h.mem_iff.1 hm, a⟩
    · rintro ⟨m, hm, a⟩; exact ⟨m, h.mem_iff.2 hm, a⟩
  up := fun n hn P k e => by obtain ⟨m, hm, a⟩ := t.up n (h.mem_iff.2 hn) P k e; exact ⟨m, h.mem_iff.1 hm, a⟩
theorem path_one : ∀ {N : List Nd}, (N.map (·.p)).Nodup → ∀ {n m : Nd}, n ∈ N → m ∈ N → n.p = m.p → n = m
  | [], _, _, _, hn, _, _ => by cases hn
  | x :: N, h, n, m, hn, hm, e => by
    obtain ⟨a, b⟩ := List.nodup_cons.1 h
    rcases List.mem_cons.1 hn with e1 | g1
    · rcases List.mem_cons.1 hm with e2 | g2
      · rw [e1, e2]
      · exact absurd (List.mem_map.2 ⟨m, g2, by rw [← e, e1]⟩) a
    · rcases List.mem_cons.1 hm with e2 | g2
      · exact absurd (List.mem_map.2 ⟨n, g1, by rw [e, e2]⟩) a
      · exact path_one b g1 g2 e
theorem Tre.one (t : Tre N rb) (hn : n ∈ N) (hm : m ∈ N) (e : n.p = m.p) : n = m := path_one t.np hn hm e
theorem Tre.none (t : Tre N rb) (hn : n ∈ N) (h : getA k n.down = .none) : ∀ m ∈ N, m.p ≠ n.p ++ [k] := fun m hm e => getA_none h m.b ((t.dn n hn k m.b).2 ⟨m, hm, e, rfl⟩)
theorem Tre.some (t : Tre N rb) (hn : n ∈ N) {b : Nat} (h : getA k n.down = .some b) : ∃ m ∈ N, m.p = n.p ++ [k] ∧ m.b = b := (t.dn n hn k b).1 (getA_some h)
/-- What stands below a path stands below its levels. -/
theorem Tre.way (t : Tre N rb) : ∀ (k : Nat) (q P : List ByteArray) (m : Nd), q.length = k → m ∈ N → m.p = P ++ q → ∃ n ∈ N, n.p = P
  | k, q, P, m, hk, hm, e => by
    rcases List.eq_nil_or_concat q with rfl | ⟨q', x, rfl⟩
    · exact ⟨m, hm, by rw [e, List.append_nil]⟩
    · cases k with
      | zero => simp at hk
      | succ k =>
        obtain ⟨m2, h2, e2⟩ := t.up m hm (P ++ q') x (by rw [e, List.concat_eq_append, List.append_assoc])
        exact Tre.way t k q' P m2 (by simpa using hk) h2 e2
/-- What a level holds is another list. -/
theorem Tre.here (t : Tre (n :: R) rb) {H : List (ByteArray × Int)} (hH : (keys H).Nodup) : Tre ({ n with here := H } :: R) rb := by
  have fw : ∀ {Q : List ByteArray → Nat → Prop}, (∃ m ∈ n :: R, Q m.p m.b) ↔ ∃ m ∈ ({ n with here := H } : Nd) :: R, Q m.p m.b := fun {Q} => by
    constructor
    · rintro ⟨m, hm, a⟩
      rcases List.mem_cons.1 hm with rfl | hm
      · exact ⟨_, List.mem_cons_self .., a⟩
      · exact ⟨m, List.mem_cons_of_mem _ hm, a⟩
    · rintro ⟨m, hm, a⟩
      rcases List.mem_cons.1 hm with rfl | hm
      · exact ⟨n, List.mem_cons_self .., a⟩
      · exact ⟨m, List.mem_cons_of_mem _ hm, a⟩
  refine ⟨(fw (Q := fun p b => p = [] ∧ b = rb)).1 t.root, t.np, fun m hm => ?_, fun m hm => ?_, fun m hm k b => ?_, fun m hm P k e => ?_⟩
  · rcases List.mem_cons.1 hm with rfl | hm
    · exact hH
    · exact t.hk m (List.mem_cons_of_mem _ hm)
  · rcases List.mem_cons.1 hm with rfl | hm
    · exact t.dk n (List.mem_cons_self ..)
    · exact t.dk m (List.mem_cons_of_mem _ hm)
  · rw [← fw (Q := fun p b' => p = m.p ++ [k] ∧ b' = b)]
    rcases List.mem_cons.1 hm with rfl | hm
    · exact t.dn n (List.mem_cons_self ..) k b
    · exact t.dn m (List.mem_cons_of_mem _ hm) k b
  · refine (fw (Q := fun p _ => p = P)).1 ?_
    rcases List.mem_cons.1 hm with rfl | hm
    · exact t.up n (List.mem_cons_self ..) P k e
    · exact t.up m (List.mem_cons_of_mem _ hm) P k e
theorem Has.other {H : List (ByteArray × Int)} (t : Tre (n :: R) rb) : Has ({ n with here := H } :: R) P c q ↔ (P ≠ n.p ∧ Has (n :: R) P c q) ∨ (P = n.p ∧ (c, q) ∈ H) := by
  constructor
  · rintro ⟨m, hm, e, a⟩
    rcases List.mem_cons.1 hm with rfl | hm
    · exact .inr ⟨e.symm, a⟩
    · refine .inl ⟨fun z => ?_, m, List.mem_cons_of_mem _ hm, e, a⟩
      exact (List.nodup_cons.1 t.np).1 (List.mem_map.2 ⟨m, hm, e.trans z⟩)
  · rintro (⟨z, m, hm, e, a⟩ | ⟨rfl, a⟩)
    · rcases List.mem_cons.1 hm with rfl | hm
      · exact absurd e.symm z
      · exact ⟨m, List.mem_cons_of_mem _ hm, e, a⟩
    · exact ⟨_, List.mem_cons_self .., rfl, a⟩
theorem Has.front (t : Tre (n :: R) rb) : Has (n :: R) n.p c q ↔ (c, q) ∈ n.here := by
  constructor
  · rintro ⟨m, hm, e, a⟩
    have := t.one hm (List.mem_cons_self ..) e
    subst this; exact a
  · exact fun a => ⟨n, List.mem_cons_self .., rfl, a⟩
/-- A level more. -/
theorem Tre.grow (t : Tre (n :: R) rb) (h : getA k n.down = .none) (b hm dm : Nat) : Tre (⟨n.p ++ [k], b, hm, dm, [], []⟩ :: { n with down := putA k b n.down } :: R) rb := by
  have no := t.none (List.mem_cons_self ..) h
  have nd := t.dk n (List.mem_cons_self ..)
  have fw : ∀ {Q : List ByteArray → Nat → Prop}, (∃ m ∈ (⟨n.p ++ [k], b, hm, dm, [], []⟩ : Nd) :: { n with down := putA k b n.down } :: R, Q m.p m.b) ↔ Q (n.p ++ [k]) b ∨ ∃ m ∈ n :: R, Q m.p m.b := fun {Q} => by
    constructor
    · rintro ⟨m, hm, a⟩
      rcases List.mem_cons.1 hm with rfl | hm
      · exact .inl a
      · rcases List.mem_cons.1 hm with rfl | hm
        · exact .inr ⟨n, List.mem_cons_self .., a⟩
        · exact .inr ⟨m, List.mem_cons_of_mem _ hm, a⟩
    · rintro (a | ⟨m, hm, a⟩)
      · exact ⟨_, List.mem_cons_self .., a⟩
      · rcases List.mem_cons.1 hm with rfl | hm
        · exact ⟨_, List.mem_cons_of_mem _ (List.mem_cons_self ..), a⟩
        · exact ⟨m, List.mem_cons_of_mem _ (List.mem_cons_of_mem _ hm), a⟩
  refine ⟨?_, ?_, fun m hm => ?_, fun m hm => ?_, fun m hm k' b' => ?_, fun m hm P k' e => ?_⟩
  · exact (fw (Q := fun p b => p = [] ∧ b = rb)).2 (.inr t.root)
  · refine List.nodup_cons.2 ⟨fun a => ?_, t.np⟩
    obtain ⟨m, hm, e⟩ := List.mem_map.1 a
    rcases List.mem_cons.1 hm with rfl | hm
    · exact no n (List.mem_cons_self ..) e
    · exact no m (List.mem_cons_of_mem _ hm) e
  · rcases List.mem_cons.1 hm with rfl | hm
    · exact List.nodup_nil
    · rcases List.mem_cons.1 hm with rfl | hm
      · exact t.hk n (List.mem_cons_self ..)
      · exact t.hk m (List.mem_cons_of_mem _ hm)
  · rcases List.mem_cons.1 hm with rfl | hm
    · exact List.nodup_nil
    · rcases List.mem_cons.1 hm with rfl | hm
      · exact putA_nodup nd
      · exact t.dk m (List.mem_cons_of_mem _ hm)
  · rw [fw (Q := fun p b => p = m.p ++ [k'] ∧ b = b')]
    rcases List.mem_cons.1 hm with rfl | hm
    · dsimp only
      constructor
      · intro a; cases a
      · rintro (⟨a, _⟩ | ⟨m2, h2, a, _⟩)
        · have := congrArg List.length a
          simp at this
        · obtain ⟨m3, h3, e3⟩ := t.up m2 h2 _ _ a
          exact absurd e3 (no m3 h3)
    · rcases List.mem_cons.1 hm with rfl | hm
      · dsimp only
        rw [putA_mem nd k' b', t.dn n (List.mem_cons_self ..) k' b']
        constructor
        · rintro (⟨rfl, rfl⟩ | ⟨_, a⟩)
          · exact .inl ⟨rfl, rfl⟩
          · exact .inr a
        · rintro (⟨a, rfl⟩ | ⟨m2, h2, a, e2⟩)
          · have := List.append_cancel_left a
            injection this with this
            exact .inl ⟨this.symm, rfl⟩
          · refine .inr ⟨fun z => ?_, m2, h2, a, e2⟩
            subst z; exact no m2 h2 a
      · rw [t.dn m (List.mem_cons_of_mem _ hm) k' b']
        constructor
        · exact .inr
        · rintro (⟨a, _⟩ | a)
          · exfalso
            have : n.p = m.p := (List.append_inj' a rfl).1
            exact (List.nodup_cons.1 t.np).1 (List.mem_map.2 ⟨m, hm, this.symm⟩)
          · exact a
  · refine (fw (Q := fun p _ => p = P)).2 (.inr ?_)
    rcases List.mem_cons.1 hm with rfl | hm
    · exact ⟨n, List.mem_cons_self .., (List.append_inj' e rfl).1⟩
    · rcases List.mem_cons.1 hm with rfl | hm
      · exact t.up n (List.mem_cons_self ..) P k' e
      · exact t.up m (List.mem_cons_of_mem _ hm) P k' e
theorem Has.grow {b hm dm : Nat} {dn : List (ByteArray × Nat)} {p : List ByteArray} : Has (⟨p, b, hm, dm, [], []⟩ :: { n with down := dn } :: R) P c q ↔ Has (n :: R) P c q := by
  constructor
  · rintro ⟨m, hm, e, a⟩
    rcases List.mem_cons.1 hm with rfl | hm
    · cases a
    · rcases List.mem_cons.1 hm with rfl | hm
      · exact ⟨n, List.mem_cons_self .., e, a⟩
      · exact ⟨m, List.mem_cons_of_mem _ hm, e, a⟩
  · rintro ⟨m, hm, e, a⟩
    rcases List.mem_cons.1 hm with rfl | hm
    · exact ⟨_, List.mem_cons_of_mem _ (List.mem_cons_self ..), e, a⟩
    · exact ⟨m, List.mem_cons_of_mem _ (List.mem_cons_of_mem _ hm), e, a⟩
/-- A level less. -/
theorem Tre.prune (t : Tre (n :: m :: R) rb) (e : m.p = n.p ++ [k]) (hd : m.down = []) : Tre ({ n with down := delA k n.down } :: R) rb := by
  have nd := t.dk n (List.mem_cons_self ..)
  have inm : m ∈ n :: m :: R := List.mem_cons_of_mem _ (List.mem_cons_self ..)
  have leaf : ∀ x ∈ n :: m :: R, ∀ k', x.p ≠ m.p ++ [k'] := fun x hx k' a => by
    have := (t.dn m inm k' x.b).2 ⟨x, hx, a, rfl⟩
    rw [hd] at this; cases this
  have only : ∀ x ∈ n :: m :: R, x.p = m.p → x = m := fun x hx a => t.one hx inm a
  have np := t.np
  have fw : ∀ {Q : List ByteArray → Nat → Prop}, ¬ Q m.p m.b → ((∃ x ∈ ({ n with down := delA k n.down } : Nd) :: R, Q x.p x.b) ↔ ∃ x ∈ n :: m :: R, Q x.p x.b) := fun {Q} nq => by
    constructor
    · rintro ⟨x, hx, a⟩
      rcases List.mem_cons.1 hx with rfl | hx
      · exact ⟨n, List.mem_cons_self .., a⟩
      · exact ⟨x, List.mem_cons_of_mem _ (List.mem_cons_of_mem _ hx), a⟩
    · rintro ⟨x, hx, a⟩
      rcases List.mem_cons.1 hx with rfl | hx
      · exact ⟨_, List.mem_cons_self .., a⟩
      · rcases List.mem_cons.1 hx with rfl | hx
        · exact absurd a nq
        · exact ⟨x, List.mem_cons_of_mem _ hx, a⟩
  have notm : ∀ x ∈ R, x.p ≠ m.p := fun x hx a => by
    obtain ⟨_, b⟩ := List.nodup_cons.1 np
    exact (List.nodup_cons.1 b).1 (List.mem_map.2 ⟨x, hx, a⟩)
  have notn : n.p ≠ m.p := fun a => by rw [e] at a; have := congrArg List.length a; simp at this
  refine ⟨?_, ?_, fun x hx => ?_, fun x hx => ?_, fun x hx k' b' => ?_, fun x hx P k' a => ?_⟩
  · refine (fw (Q := fun p b => p = [] ∧ b = rb) ?_).2 t.root
    rintro ⟨a, _⟩
    rw [e] at a; simp at a
  · obtain ⟨a, b⟩ := List.nodup_cons.1 np
    exact List.nodup_cons.2 ⟨fun z => a (List.mem_cons_of_mem _ z), (List.nodup_cons.1 b).2⟩
  · rcases List.mem_cons.1 hx with rfl | hx
    · exact t.hk n (List.mem_cons_self ..)
    · exact t.hk x (List.mem_cons_of_mem _ (List.mem_cons_of_mem _ hx))
  · rcases List.mem_cons.1 hx with rfl | hx
    · exact delA_nodup nd
    · exact t.dk x (List.mem_cons_of_mem _ (List.mem_cons_of_mem _ hx))
  · rcases List.mem_cons.1 hx with rfl | hx
    · dsimp only
      rw [delA_mem nd, t.dn n (List.mem_cons_self ..)]
      by_cases hk : k' = k
      · subst hk
        constructor
        · intro a; exact absurd rfl a.1
        · rintro ⟨y, hy, a, _⟩
          exfalso
          rcases List.mem_cons.1 hy with rfl | hy
          · exact notn (a.trans e.symm)
          · exact notm y hy (a.trans e.symm)
      · rw [fw (Q := fun p b => p = n.p ++ [k'] ∧ b = b') (fun z => hk (by have := z.1; rw [e] at this; have := List.append_cancel_left this; injection this with this; exact this.symm))]
        exact ⟨fun a => a.2, fun a => ⟨hk, a⟩⟩
    · have hx2 : x ∈ n :: m :: R := List.mem_cons_of_mem _ (List.mem_cons_of_mem _ hx)
      rw [t.dn x hx2, fw (Q := fun p b => p = x.p ++ [k'] ∧ b = b') fun z => ?_]
      have := z.1
      rw [e] at this
      have := (List.append_inj' this rfl).1
      have := t.one (List.mem_cons_self ..) hx2 this
      subst this
      exact (List.nodup_cons.1 np).1 (List.mem_map.2 ⟨n, List.mem_cons_of_mem _ hx, rfl⟩)
  · have main : ∀ x ∈ n :: m :: R, x.p = P ++ [k'] → ∃ y ∈ ({ n with down := delA k n.down } : Nd) :: R, y.p = P := fun x hx a => by
      refine (fw (Q := fun p _ => p = P) fun z => ?_).2 (t.up x hx P k' a)
      exact leaf x hx k' (by rw [a, z])
    rcases List.mem_cons.1 hx with rfl | hx
    · exact main n (List.mem_cons_self ..) a
    · exact main x (List.mem_cons_of_mem _ (List.mem_cons_of_mem _ hx)) a
theorem Has.prune {dn : List (ByteArray × Nat)} (hh : m.here = []) : Has ({ n with down := dn } :: R) P c q ↔ Has (n :: m :: R) P c q := by
  constructor
  · rintro ⟨x, hx, e, a⟩
    rcases List.mem_cons.1 hx with rfl | hx
    · exact ⟨n, List.mem_cons_self .., e, a⟩
    · exact ⟨x, List.mem_cons_of_mem _ (List.mem_cons_of_mem _ hx), e, a⟩
  · rintro ⟨x, hx, e, a⟩
    rcases List.mem_cons.1 hx with rfl | hx
    · exact ⟨_, List.mem_cons_self .., e, a⟩
    · rcases List.mem_cons.1 hx with rfl | hx
      · rw [hh] at a; cases a
      · exact ⟨x, List.mem_cons_of_mem _ hx, e, a⟩
end
/-! ### whom a name meets -/
def metP : List ByteArray → List ByteArray → Bool → Bool
  | [], l, _ => l.isEmpty
  | x :: q, l, s => (s && decide (x = hashB) && q.isEmpty) || (match l with
    | [] => false
    | y :: r => ((s && decide (x = plusB)) || decide (x = y)) && metP q r true)
theorem meet_met : ∀ (F : List ByteArray) (L : List ByteArray) (i n : Nat), n = i + F.length → okLevs n i F = true → (∀ y ∈ L, signB y = false) → metP F L true = meetS oneM F L
  | [], L, _, _, _, _, _ => rfl
  | x :: q, L, i, n, hn, hf, hL => by
    rw [okLevs, Bool.and_eq_true] at hf
    rw [List.length_cons] at hn
    unfold metP meetS
    by_cases hx : x = hashB
    · have hq : q = [] := by
        have h1 := hf.1
        subst hx
        have e1 : decide (hashB = plusB) = false := by decide
        have e2 : signB hashB = true := by decide
        rw [e1, e2] at h1
        simp at h1
        exact List.eq_nil_of_length_eq_zero (by omega)
      subst hx hq
      rw [if_pos rfl]; simp
    · rw [if_neg hx, decide_eq_false hx, Bool.and_false, Bool.false_and, Bool.false_or]
      cases L with
      | nil => rfl
      | cons y r =>
        dsimp only
        rw [meet_met q r (i + 1) n (by omega) hf.2 fun z hz => hL z (List.mem_cons_of_mem _ hz), Bool.true_and]
        rfl
theorem met_match {f n : ByteArray} (hf : filterB f = true) (hn : nameB n = true) : metP (levS f) (levS n) (!(decide (first n = some 36))) = matchB f n := by
  have fo : okLevs (levS f).length 0 (levS f) = true := by simp only [filterB, Bool.and_eq_true] at hf; exact hf.2
  have nl := name_lev hn
  have f1 := (filter_one hf).1
  have n1 := (name_one hn).1
  have base := meet_met (levS f) (levS n) 0 _ (by omega) fo nl
  unfold matchB
  rw [hf, hn, Bool.true_and, Bool.true_and]
  by_cases d : first n = some 36
  · rw [decide_eq_true d, Bool.not_true]
    unfold hiddenB
    rw [decide_eq_true d, Bool.true_and]
    cases hF : levS f with
    | nil => exact absurd hF (levS_ne f)
    | cons x q =>
      cases hN : levS n with
      | nil => exact absurd hN (levS_ne n)
      | cons y r =>
        rw [hF, hN] at base
        have xf := first_lev f1 hF
        have yf := first_lev n1 hN
        have same : x = y → first f = first n := fun e => by rw [xf, yf, e]
        rw [metP, Bool.false_and, Bool.false_and, Bool.false_or]
        rw [Bool.false_and, Bool.false_or]
        by_cases hid : first f = some 43 ∨ first f = some 35
        · have : x ≠ y := fun e => by
            have := same e
            rw [d] at this
            rw [this] at hid
            rcases hid with h | h <;> cases h
          rw [decide_eq_false this, Bool.false_and]
          rcases hid with h | h <;> simp [h]
        · have h43 : first f ≠ some 43 := fun h => hid (.inl h)
          have h35 : first f ≠ some 35 := fun h => hid (.inr h)
          rw [decide_eq_false h43, decide_eq_false h35, Bool.or_false, Bool.not_false, Bool.true_and, ← base, metP]
          have xp : x ≠ plusB := fun e => h43 (by rw [xf, e]; rfl)
          have xh : x ≠ hashB := fun e => h35 (by rw [xf, e]; rfl)
          rw [decide_eq_false xh, decide_eq_false xp]
          simp
  · rw [decide_eq_false d, Bool.not_false, base]
    unfold hiddenB
    rw [decide_eq_false d, Bool.false_and, Bool.not_false, Bool.true_and]
end Go.G.YtnmngjffebbbnaaDoor
