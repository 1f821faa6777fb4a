/- How a tree lies in memory. -/
import Derived.Test.YtnmngjffebbbnaaDoorTT
import Derived.Test.YtnmngjffebbbnaaDoorProg
set_option maxRecDepth 100000
namespace Go.G.YtnmngjffebbbnaaDoor
open Go.RowKit
open Value (string slice int bool agg)
/-! ### how a tree lies in memory -/
structure Ac where
  c : ByteArray
  mb : Nat
  fs : List (ByteArray × Int)
structure TD where
  tb : Nat
  am : Nat
  rb : Nat
  N : List Nd
  A : List Ac
def allV (A : List Ac) : List (ByteArray × Nat) := A.map fun a => (a.c, a.mb)
def acs (A : List Ac) : List (Nat × AB) := A.map fun a => (a.mb, .map (mV iV a.fs))
def TD.rest (D : TD) (B : List (Nat × AB)) : List (Nat × AB) := (D.tb, .cells [pV D.rb, gV D.am] 2) :: (D.am, .map (mV gV (allV D.A))) :: (acs D.A ++ B)
def TD.own (D : TD) (B : List (Nat × AB)) : List (Nat × AB) := nds D.N ++ D.rest B
structure Rep (S : List Sb) (D : TD) : Prop where
  tre : Tre D.N D.rb
  so : S.Pairwise ltS
  ok : ∀ s ∈ S, filterB s.f = true ∧ clientB s.c = true ∧ 0 ≤ s.q ∧ s.q ≤ 2
  has : ∀ c P q, Has D.N P c q ↔ ∃ f, P = levS f ∧ (⟨c, f, q⟩ : Sb) ∈ S
  ak : (D.A.map (·.c)).Nodup
  fk : ∀ a ∈ D.A, (keys a.fs).Nodup
  al : ∀ c f q, (⟨c, f, q⟩ : Sb) ∈ S ↔ ∃ a ∈ D.A, a.c = c ∧ (f, q) ∈ a.fs
section
variable {S : List Sb} {D : TD} {c f : ByteArray} {q : Int}
theorem ac_one : ∀ {A : List Ac}, (A.map (·.c)).Nodup → ∀ {a b : Ac}, a ∈ A → b ∈ A → a.c = b.c → a = b
  | [], _, _, _, ha, _, _ => by cases ha
  | x :: A, h, a, b, ha, hb, e => by
    obtain ⟨h1, h2⟩ := List.nodup_cons.1 h
    rcases List.mem_cons.1 ha with e1 | g1
    · rcases List.mem_cons.1 hb with e2 | g2
      · rw [e1, e2]
      · exact absurd (List.mem_map.2 ⟨b, g2, by rw [← e, e1]⟩) h1
    · rcases List.mem_cons.1 hb with e2 | g2
      · exact absurd (List.mem_map.2 ⟨a, g1, by rw [e, e2]⟩) h1
      · exact ac_one h2 g1 g2 e
theorem allV_keys (A : List Ac) : keys (allV A) = A.map (·.c) := by unfold keys allV; rw [List.map_map]; rfl
/-- A client's filters, as the map of all has them. -/
theorem Rep.find (r : Rep S D) (c : ByteArray) : (∃ A1 a A2, D.A = A1 ++ a :: A2 ∧ a.c = c ∧ getA c (allV D.A) = some a.mb) ∨ (getA c (allV D.A) = none ∧ ∀ a ∈ D.A, a.c ≠ c) := by
  cases h : getA c (allV D.A) with
  | none =>
    refine .inr ⟨rfl, fun a ha e => ?_⟩
    exact getA_none h a.mb (List.mem_map.2 ⟨a, ha, by rw [← e]⟩)
  | some b =>
    obtain ⟨a, ha, e⟩ := List.mem_map.1 (getA_some h)
    injection e with e1 e2
    obtain ⟨A1, A2, eA⟩ := List.append_of_mem ha
    exact .inl ⟨A1, a, A2, eA, e1, by rw [e2]⟩
theorem Rep.fs (r : Rep S D) {A1 A2 : List Ac} {a : Ac} (e : D.A = A1 ++ a :: A2) : a ∈ D.A := by rw [e]; exact List.mem_append_right _ (List.mem_cons_self ..)
theorem Rep.mine (r : Rep S D) {a : Ac} (ha : a ∈ D.A) : (f, q) ∈ a.fs ↔ (⟨a.c, f, q⟩ : Sb) ∈ S := by
  rw [r.al]
  constructor
  · exact fun h => ⟨a, ha, rfl, h⟩
  · rintro ⟨b, hb, e, h⟩
    have := ac_one r.ak hb ha e
    subst this; exact h
theorem Rep.none (r : Rep S D) (h : ∀ a ∈ D.A, a.c ≠ c) : ∀ s ∈ S, s.c ≠ c := fun s hs e => by
  obtain ⟨a, ha, e2, _⟩ := (r.al s.c s.f s.q).1 hs
  exact h a ha (e2.trans e)
theorem Rep.key (r : Rep S D) {p q : Int} (h1 : (⟨c, f, p⟩ : Sb) ∈ S) (h2 : (⟨c, f, q⟩ : Sb) ∈ S) : p = q := by
  obtain ⟨a, ha, e, h3⟩ := (r.al c f p).1 h1
  obtain ⟨b, hb, e2, h4⟩ := (r.al c f q).1 h2
  have := ac_one r.ak ha hb (e.trans e2.symm)
  subst this
  exact key_one (r.fk a ha) h3 h4
theorem subs_key : ∀ {S : List Sb}, S.Pairwise ltS → ∀ {x y : Sb}, x ∈ S → y ∈ S → (x.c = y.c ∧ x.f = y.f) → x = y
  | [], _, _, _, hx, _, _ => by cases hx
  | s :: S, h, x, y, hx, hy, e => by
    obtain ⟨h1, h2⟩ := List.pairwise_cons.1 h
    rcases List.mem_cons.1 hx with e1 | g1
    · rcases List.mem_cons.1 hy with e2 | g2
      · rw [e1, e2]
      · exact absurd e (ltS_key (by rw [e1]; exact h1 y g2))
    · rcases List.mem_cons.1 hy with e2 | g2
      · exact absurd ⟨e.1.symm, e.2.symm⟩ (ltS_key (by rw [e2]; exact h1 x g1))
      · exact subs_key h2 g1 g2 e
theorem nodup_of (h : S.Pairwise ltS) : S.Nodup := h.imp fun {a b} hab e => by subst e; exact ltS_key hab ⟨rfl, rfl⟩
theorem perm_sum {l m : List Nat} (h : l.Perm m) : l.sum = m.sum := h.sum_nat
/-- As many as there are. -/
theorem Rep.count (r : Rep S D) : (D.A.map fun a => a.fs.length).sum = S.length := by
  have p : (D.A.flatMap fun a => a.fs.map fun e => (⟨a.c, e.1, e.2⟩ : Sb)).Perm S := by
    refine (List.perm_ext_iff_of_nodup ?_ (nodup_of r.so)).2 fun x => ?_
    · have hf := r.fk
      have hk := r.ak
      generalize D.A = A at hf hk
      clear r
      induction A with
      | nil => exact List.nodup_nil
      | cons a A ih =>
        obtain ⟨h1, h2⟩ := List.nodup_cons.1 hk
        rw [List.flatMap_cons]
        refine List.nodup_append.2 ⟨?_, ih (fun b hb => hf b (List.mem_cons_of_mem _ hb)) h2, fun x hx y hy e => ?_⟩
        · have := hf a (List.mem_cons_self ..)
          unfold keys at this
          rw [List.nodup_iff_pairwise_ne, List.pairwise_map] at this ⊢
          exact this.imp fun {u v} huv e => huv (by injection e)
        · obtain ⟨u, _, rfl⟩ := List.mem_map.1 hx
          obtain ⟨b, hb, hv⟩ := List.mem_flatMap.1 hy
          obtain ⟨v, _, rfl⟩ := List.mem_map.1 hv
          injection e with e1
          exact h1 (List.mem_map.2 ⟨b, hb, e1.symm⟩)
    · rw [List.mem_flatMap]
      obtain ⟨xc, xf, xq⟩ := x
      rw [r.al]
      constructor
      · rintro ⟨a, ha, h⟩
        obtain ⟨e, he, h⟩ := List.mem_map.1 h
        injection h with e1 e2 e3
        exact ⟨a, ha, e1, by rw [← e2, ← e3]; exact he⟩
      · rintro ⟨a, ha, rfl, h⟩
        exact ⟨a, ha, List.mem_map.2 ⟨_, h, rfl⟩⟩
  have := p.length_eq
  rw [List.length_flatMap] at this
  simpa using this
end
section
variable {S : List Sb} {D : TD} {c f : ByteArray} {q : Int}
theorem Rep.add (r : Rep S D) (hf : filterB f = true) (hc : clientB c = true) (h0 : 0 ≤ q) (h2 : q ≤ 2) {N' : List Nd} {A' : List Ac} (t : Tre N' D.rb)
    (hn : ∀ c' P q', Has N' P c' q' ↔ (P ≠ levS f ∧ Has D.N P c' q') ∨ (P = levS f ∧ ((c' = c ∧ q' = q) ∨ (c' ≠ c ∧ Has D.N P c' q'))))
    (ak : (A'.map (·.c)).Nodup) (fk : ∀ a ∈ A', (keys a.fs).Nodup)
    (ha : ∀ c' f' q', (∃ a ∈ A', a.c = c' ∧ (f', q') ∈ a.fs) ↔ (c' = c ∧ f' = f ∧ q' = q) ∨ (¬ (c' = c ∧ f' = f) ∧ ∃ a ∈ D.A, a.c = c' ∧ (f', q') ∈ a.fs)) :
    Rep (addS c f q false S) { D with N := N', A := A' } where
  tre := t
  so := addS_so c f q r.so
  ok := fun s hs => by
    rcases (addS_mem c f q S s).1 hs with rfl | ⟨h, _⟩
    · exact ⟨hf, hc, h0, h2⟩
    · exact r.ok s h
  ak := ak
  fk := fk
  al := fun c' f' q' => by
    rw [ha, ← r.al, addS_mem]
    constructor
    · rintro (h | ⟨h, g⟩)
      · injection h with e1 e2 e3; exact .inl ⟨e1, e2, e3⟩
      · exact .inr ⟨g, h⟩
    · rintro (⟨rfl, rfl, rfl⟩ | ⟨g, h⟩)
      · exact .inl rfl
      · exact .inr ⟨h, g⟩
  has := fun c' P q' => by
    rw [hn, r.has]
    constructor
    · rintro (⟨hp, f', e, h⟩ | ⟨hp, ⟨rfl, rfl⟩ | ⟨g, f', e, h⟩⟩)
      · exact ⟨f', e, (addS_mem c f q S _).2 (.inr ⟨h, fun z => hp (by rw [e]; exact congrArg levS z.2)⟩)⟩
      · exact ⟨f, hp, (addS_mem c' f q' S _).2 (.inl rfl)⟩
      · exact ⟨f', e, (addS_mem c f q S _).2 (.inr ⟨h, fun z => g z.1⟩)⟩
    · rintro ⟨f', e, h⟩
      rcases (addS_mem c f q S _).1 h with h | ⟨h, g⟩
      · injection h with e1 e2 e3
        exact .inr ⟨by rw [e, e2], .inl ⟨e1, e3⟩⟩
      · by_cases hp : P = levS f
        · have : f' = f := levS_inj (e.symm.trans hp)
          exact .inr ⟨hp, .inr ⟨fun z => g ⟨z, this⟩, f', e, h⟩⟩
        · exact .inl ⟨hp, f', e, h⟩
theorem Rep.gone (r : Rep S D) {N' : List Nd} {A' : List Ac} (t : Tre N' D.rb)
    (hn : ∀ c' P q', Has N' P c' q' ↔ Has D.N P c' q' ∧ ¬ (P = levS f ∧ c' = c))
    (ak : (A'.map (·.c)).Nodup) (fk : ∀ a ∈ A', (keys a.fs).Nodup)
    (ha : ∀ c' f' q', (∃ a ∈ A', a.c = c' ∧ (f', q') ∈ a.fs) ↔ (∃ a ∈ D.A, a.c = c' ∧ (f', q') ∈ a.fs) ∧ ¬ (c' = c ∧ f' = f)) :
    Rep (withoutS c f true S) { D with N := N', A := A' } where
  tre := t
  so := withoutS_so r.so
  ok := fun s hs => r.ok s (withoutS_mem.1 hs).1
  ak := ak
  fk := fk
  al := fun c' f' q' => by
    rw [ha, ← r.al, withoutS_mem]
    simp
  has := fun c' P q' => by
    rw [hn, r.has]
    constructor
    · rintro ⟨⟨f', e, h⟩, g⟩
      exact ⟨f', e, withoutS_mem.2 ⟨h, fun z => g ⟨by rw [e]; exact congrArg levS (z.2 rfl), z.1⟩⟩⟩
    · rintro ⟨f', e, h⟩
      obtain ⟨h1, h2⟩ := withoutS_mem.1 h
      exact ⟨⟨f', e, h1⟩, fun z => h2 ⟨z.2, fun _ => levS_inj (e.symm.trans z.1)⟩⟩
/-- The lists of all: one more, or another one. -/
theorem allV_put {A1 A2 : List Ac} {a : Ac} : allV (A1 ++ a :: A2) = allV A1 ++ (a.c, a.mb) :: allV A2 := by simp [allV]
theorem al_set {A1 A2 : List Ac} {a : Ac} {L : List (ByteArray × Int)} (h : ((A1 ++ a :: A2).map (·.c)).Nodup) (c' f' : ByteArray) (q' : Int) :
    (∃ b ∈ A1 ++ { a with fs := L } :: A2, b.c = c' ∧ (f', q') ∈ b.fs) ↔ (c' = a.c ∧ (f', q') ∈ L) ∨ (c' ≠ a.c ∧ ∃ b ∈ A1 ++ a :: A2, b.c = c' ∧ (f', q') ∈ b.fs) := by
  have mid : ∀ (x : Ac) (b : Ac), b ∈ A1 ++ x :: A2 ↔ b = x ∨ b ∈ A1 ++ A2 := fun x b => by
    rw [List.mem_append, List.mem_append, List.mem_cons]
    constructor
    · rintro (h | h | h)
      · exact .inr (.inl h)
      · exact .inl h
      · exact .inr (.inr h)
    · rintro (h | h | h)
      · exact .inr (.inl h)
      · exact .inl h
      · exact .inr (.inr h)
  have ne : ∀ b ∈ A1 ++ A2, b.c ≠ a.c := fun b hb e => by
    have hp : (A1 ++ a :: A2).Perm (a :: (A1 ++ A2)) := List.perm_middle
    have := ((hp.map (·.c)).nodup_iff).1 h
    exact (List.nodup_cons.1 this).1 (List.mem_map.2 ⟨b, hb, e⟩)
  constructor
  · rintro ⟨b, hb, e, hm⟩
    rcases (mid _ b).1 hb with rfl | hb
    · exact .inl ⟨e.symm, hm⟩
    · exact .inr ⟨fun z => ne b hb (e.trans z), b, (mid _ b).2 (.inr hb), e, hm⟩
  · rintro (⟨e, hm⟩ | ⟨z, b, hb, e, hm⟩)
    · exact ⟨_, (mid _ _).2 (.inl rfl), e.symm, hm⟩
    · rcases (mid _ b).1 hb with rfl | hb
      · exact absurd e.symm z
      · exact ⟨b, (mid _ b).2 (.inr hb), e, hm⟩
end
end Go.G.YtnmngjffebbbnaaDoor
