/- Subscriptions, as the document has them. -/
import Derived.Test.YtnmngjffebbbnaaDoorTA
import Derived.Test.YtnmngjffebbbnaaDoorProg
set_option maxRecDepth 100000
namespace Go.G.YtnmngjffebbbnaaDoor
open Go.RowKit
open Value (string slice int bool agg)
/-! ### subscriptions, as the document has them -/
structure Sb where
  c : ByteArray
  f : ByteArray
  q : Int
def ltB (a b : ByteArray) : Prop := a.data.toList < b.data.toList
theorem ltB_irr (a : ByteArray) : ¬ ltB a a := List.lt_irrefl _
theorem ltB_trans {a b c : ByteArray} (h : ltB a b) (h2 : ltB b c) : ltB a c := List.lt_trans h h2
theorem ltB_tri {a b : ByteArray} (h : ¬ ltB a b) (hne : a ≠ b) : ltB b a := by
  have h1 : b.data.toList ≤ a.data.toList := List.not_lt.1 h
  rcases Decidable.em (b.data.toList < a.data.toList) with h2 | h2
  · exact h2
  · exact absurd (by rw [← toB_data a, ← List.le_antisymm h1 (List.not_lt.1 h2), toB_data]) hne
instance (a b : ByteArray) : Decidable (ltB a b) := by unfold ltB; infer_instance
def ltS (x y : Sb) : Prop := ltB x.c y.c ∨ (x.c = y.c ∧ ltB x.f y.f)
def geS (c f : ByteArray) (s : Sb) : Prop := ltB c s.c ∨ (s.c = c ∧ ¬ ltB s.f f)
instance (c f : ByteArray) (s : Sb) : Decidable (geS c f s) := by unfold geS ltB; infer_instance
def addS (c f : ByteArray) (q : Int) : Bool → List Sb → List Sb
  | done, [] => if done then [] else [⟨c, f, q⟩]
  | done, s :: r => (if !done && decide (geS c f s) then [⟨c, f, q⟩] else []) ++ ((if s.c = c ∧ s.f = f then [] else [s]) ++ addS c f q (done || decide (geS c f s)) r)
theorem addS_done (c f : ByteArray) (q : Int) : ∀ (l : List Sb) (x : Sb), x ∈ addS c f q true l ↔ x ∈ l ∧ ¬ (x.c = c ∧ x.f = f)
  | [], x => by simp [addS]
  | s :: r, x => by
    have ih := addS_done c f q r x
    simp only [addS, Bool.not_true, Bool.false_and, Bool.false_eq_true, ↓reduceIte, List.nil_append, Bool.true_or, List.mem_append, ih, List.mem_cons]
    split
    · rename_i h
      constructor
      · rintro (a | ⟨a, b⟩)
        · cases a
        · exact ⟨.inr a, b⟩
      · rintro ⟨rfl | a, b⟩
        · exact absurd h b
        · exact .inr ⟨a, b⟩
    · rename_i h
      constructor
      · rintro (a | ⟨a, b⟩)
        · rw [List.mem_singleton] at a; subst a; exact ⟨.inl rfl, h⟩
        · exact ⟨.inr a, b⟩
      · rintro ⟨rfl | a, b⟩
        · exact .inl (List.mem_singleton.2 rfl)
        · exact .inr ⟨a, b⟩
theorem addS_mem (c f : ByteArray) (q : Int) : ∀ (l : List Sb) (x : Sb), x ∈ addS c f q false l ↔ x = ⟨c, f, q⟩ ∨ (x ∈ l ∧ ¬ (x.c = c ∧ x.f = f))
  | [], x => by simp [addS]
  | s :: r, x => by
    have keep : x ∈ (if s.c = c ∧ s.f = f then [] else [s]) ↔ x = s ∧ ¬ (x.c = c ∧ x.f = f) := by
      split
      · rename_i h
        constructor
        · intro a; cases a
        · rintro ⟨rfl, a⟩; exact absurd h a
      · rename_i h
        rw [List.mem_singleton]
        constructor
        · rintro rfl; exact ⟨rfl, h⟩
        · exact fun a => a.1
    simp only [addS, Bool.not_false, Bool.true_and, Bool.false_or, List.mem_append, keep, List.mem_cons]
    by_cases g : geS c f s
    · simp only [g, decide_true, if_true, List.mem_singleton, addS_done]
      constructor
      · rintro (a | ⟨a, b⟩ | ⟨a, b⟩)
        · exact .inl a
        · exact .inr ⟨.inl a, b⟩
        · exact .inr ⟨.inr a, b⟩
      · rintro (a | ⟨a | a, b⟩)
        · exact .inl a
        · exact .inr (.inl ⟨a, b⟩)
        · exact .inr (.inr ⟨a, b⟩)
    · simp only [g, decide_false, Bool.false_eq_true, if_false, List.not_mem_nil, false_or, addS_mem c f q r x]
      constructor
      · rintro (⟨a, b⟩ | a | ⟨a, b⟩)
        · exact .inr ⟨.inl a, b⟩
        · exact .inl a
        · exact .inr ⟨.inr a, b⟩
      · rintro (a | ⟨a | a, b⟩)
        · exact .inr (.inl a)
        · exact .inl ⟨a, b⟩
        · exact .inr (.inr ⟨a, b⟩)
theorem ltS_trans {x y z : Sb} (h : ltS x y) (h2 : ltS y z) : ltS x z := by
  rcases h with a | ⟨a, b⟩
  · rcases h2 with c | ⟨c, d⟩
    · exact .inl (ltB_trans a c)
    · exact .inl (c ▸ a)
  · rcases h2 with c | ⟨c, d⟩
    · exact .inl (a ▸ c)
    · exact .inr ⟨a.trans c, ltB_trans b d⟩
theorem ltS_key {x y : Sb} (h : ltS x y) : ¬ (x.c = y.c ∧ x.f = y.f) := by
  rintro ⟨a, b⟩
  rcases h with h | ⟨_, h⟩
  · rw [a] at h; exact ltB_irr _ h
  · rw [b] at h; exact ltB_irr _ h
theorem geS_not {c f : ByteArray} {s : Sb} {q : Int} (h : ¬ geS c f s) : ltS s ⟨c, f, q⟩ := by
  have h1 : ¬ ltB c s.c := fun a => h (.inl a)
  by_cases e : s.c = c
  · exact .inr ⟨e, Decidable.byContradiction fun a => h (.inr ⟨e, a⟩)⟩
  · exact .inl (ltB_tri h1 fun a => e a.symm)
theorem geS_yes {c f : ByteArray} {s : Sb} {q : Int} (h : geS c f s) : ltS ⟨c, f, q⟩ s ∨ (s.c = c ∧ s.f = f) := by
  rcases h with h | ⟨e, h⟩
  · exact .inl (.inl h)
  · by_cases e2 : s.f = f
    · exact .inr ⟨e, e2⟩
    · exact .inl (.inr ⟨e.symm, ltB_tri h e2⟩)
theorem addS_doneSo (c f : ByteArray) (q : Int) : ∀ {l : List Sb}, l.Pairwise ltS → (addS c f q true l).Pairwise ltS
  | [], _ => by simp [addS]
  | s :: r, h => by
    obtain ⟨h1, h2⟩ := List.pairwise_cons.1 h
    simp only [addS, Bool.not_true, Bool.false_and, Bool.false_eq_true, ↓reduceIte, List.nil_append, Bool.true_or]
    split
    · exact addS_doneSo c f q h2
    · rw [List.singleton_append]
      exact List.pairwise_cons.2 ⟨fun y hy => h1 y ((addS_done c f q r y).1 hy).1, addS_doneSo c f q h2⟩
theorem addS_so (c f : ByteArray) (q : Int) : ∀ {l : List Sb}, l.Pairwise ltS → (addS c f q false l).Pairwise ltS
  | [], _ => by simp [addS]
  | s :: r, h => by
    obtain ⟨h1, h2⟩ := List.pairwise_cons.1 h
    by_cases g : geS c f s
    · have e : addS c f q false (s :: r) = ⟨c, f, q⟩ :: addS c f q true (s :: r) := by simp [addS, g]
      rw [e]
      refine List.pairwise_cons.2 ⟨fun y hy => ?_, addS_doneSo c f q h⟩
      obtain ⟨a, b⟩ := (addS_done c f q _ y).1 hy
      rcases List.mem_cons.1 a with rfl | a
      · rcases geS_yes (q := q) g with d | d
        · exact d
        · exact absurd d b
      · rcases geS_yes (q := q) g with d | ⟨d1, d2⟩
        · exact ltS_trans d (h1 y a)
        · have := h1 y a
          obtain ⟨sc, sf, sq⟩ := s
          subst d1 d2
          exact this
    · have ns : ¬ (s.c = c ∧ s.f = f) := fun a => ltS_key (geS_not (q := q) g) a
      have e : addS c f q false (s :: r) = s :: addS c f q false r := by simp [addS, g, ns]
      rw [e]
      refine List.pairwise_cons.2 ⟨fun y hy => ?_, addS_so c f q h2⟩
      rcases (addS_mem c f q r y).1 hy with rfl | ⟨a, _⟩
      · exact geS_not g
      · exact h1 y a
/-! what a list of (client, quality) says -/
def low (l : List (ByteArray × Int)) (c : ByteArray) (v : Int) : Prop := ∃ q, (c, q) ∈ l ∧ v ≤ q
def mS (n : ByteArray) : List (ByteArray × Int) → List Sb → List (ByteArray × Int)
  | out, [] => out
  | out, s :: r => if matchB s.f n = true then (match out.getLast? with
      | some e => if e.1 = s.c then mS n (out.dropLast ++ [(e.1, max e.2 s.q)]) r else mS n (out ++ [(s.c, s.q)]) r
      | none => mS n (out ++ [(s.c, s.q)]) r) else mS n out r
def matchS (n : ByteArray) (l : List Sb) : List (ByteArray × Int) := mS n [] l
theorem last_of {α : Type} {l : List α} {e : α} (h : l.getLast? = some e) : l = l.dropLast ++ [e] := by
  obtain ⟨ys, rfl⟩ := List.getLast?_eq_some_iff.1 h
  rw [List.dropLast_concat]
theorem low_app {l m : List (ByteArray × Int)} {c : ByteArray} {v : Int} : low (l ++ m) c v ↔ low l c v ∨ low m c v := by
  constructor
  · rintro ⟨q, h, hv⟩
    rcases List.mem_append.1 h with h | h
    · exact .inl ⟨q, h, hv⟩
    · exact .inr ⟨q, h, hv⟩
  · rintro (⟨q, h, hv⟩ | ⟨q, h, hv⟩)
    · exact ⟨q, List.mem_append_left _ h, hv⟩
    · exact ⟨q, List.mem_append_right _ h, hv⟩
theorem low_one {d : ByteArray} {x : Int} {c : ByteArray} {v : Int} : low [(d, x)] c v ↔ d = c ∧ v ≤ x := by
  constructor
  · rintro ⟨q, h, hv⟩
    have h := List.mem_singleton.1 h
    injection h with a b
    subst a b
    exact ⟨rfl, hv⟩
  · rintro ⟨rfl, h⟩
    exact ⟨x, List.mem_singleton.2 rfl, h⟩
theorem mS_low (n : ByteArray) (c : ByteArray) (v : Int) : ∀ (l : List Sb) (out : List (ByteArray × Int)), low (mS n out l) c v ↔ low out c v ∨ ∃ s ∈ l, s.c = c ∧ matchB s.f n = true ∧ v ≤ s.q
  | [], out => by simp [mS]
  | s :: r, out => by
    have split : (∃ t ∈ s :: r, t.c = c ∧ matchB t.f n = true ∧ v ≤ t.q) ↔ (s.c = c ∧ matchB s.f n = true ∧ v ≤ s.q) ∨ ∃ t ∈ r, t.c = c ∧ matchB t.f n = true ∧ v ≤ t.q := by
      constructor
      · rintro ⟨t, ht, h⟩
        rcases List.mem_cons.1 ht with rfl | ht
        · exact .inl h
        · exact .inr ⟨t, ht, h⟩
      · rintro (h | ⟨t, ht, h⟩)
        · exact ⟨s, List.mem_cons_self .., h⟩
        · exact ⟨t, List.mem_cons_of_mem _ ht, h⟩
    rw [split, ← or_assoc]
    unfold mS
    by_cases m : matchB s.f n = true
    · rw [if_pos m]
      have new : low (mS n (out ++ [(s.c, s.q)]) r) c v ↔ (low out c v ∨ (s.c = c ∧ matchB s.f n = true ∧ v ≤ s.q)) ∨ ∃ t ∈ r, t.c = c ∧ matchB t.f n = true ∧ v ≤ t.q := by
        rw [mS_low n c v r, low_app, low_one]
        simp only [m, true_and]
      cases hg : out.getLast? with
      | none => exact new
      | some e =>
        dsimp only
        by_cases ec : e.1 = s.c
        · rw [if_pos ec, mS_low n c v r]
          have eo : out = out.dropLast ++ [e] := last_of hg
          have : low (out.dropLast ++ [(e.1, max e.2 s.q)]) c v ↔ low out c v ∨ (s.c = c ∧ matchB s.f n = true ∧ v ≤ s.q) := by
            have e2 : low out c v ↔ low (out.dropLast ++ [(e.1, e.2)]) c v := by rw [← eo]
            rw [e2, low_app, low_app, low_one, low_one, ← ec, or_assoc]
            simp only [m, true_and]
            constructor
            · rintro (a | ⟨a, b⟩)
              · exact .inl a
              · rcases Int.le_total e.2 s.q with g | g
                · rw [Int.max_eq_right g] at b; exact .inr (.inr ⟨a, b⟩)
                · rw [Int.max_eq_left g] at b; exact .inr (.inl ⟨a, b⟩)
            · rintro (a | ⟨a, b⟩ | ⟨a, b⟩)
              · exact .inl a
              · exact .inr ⟨a, Int.le_trans b (Int.le_max_left ..)⟩
              · exact .inr ⟨a, Int.le_trans b (Int.le_max_right ..)⟩
          rw [this]
        · rw [if_neg ec]; exact new
    · rw [if_neg m, mS_low n c v r]
      constructor
      · rintro (a | a)
        · exact .inl (.inl a)
        · exact .inr a
      · rintro ((a | a) | a)
        · exact .inl a
        · exact absurd a.2.1 m
        · exact .inr a
def keys {α : Type} (l : List (ByteArray × α)) : List ByteArray := l.map (·.1)
theorem mS_so (n : ByteArray) : ∀ (l : List Sb) (out : List (ByteArray × Int)), (keys out).Pairwise ltB → (∀ e ∈ out, ∀ s ∈ l, e.1 = s.c ∨ ltB e.1 s.c) → l.Pairwise ltS → (keys (mS n out l)).Pairwise ltB
  | [], _, h, _, _ => h
  | s :: r, out, h, hb, hs => by
    obtain ⟨h1, h2⟩ := List.pairwise_cons.1 hs
    have le1 : ∀ t ∈ r, s.c = t.c ∨ ltB s.c t.c := fun t ht => by
      rcases h1 t ht with a | ⟨a, _⟩
      · exact .inr a
      · exact .inl a
    have tl : ∀ e ∈ out, ∀ t ∈ r, e.1 = t.c ∨ ltB e.1 t.c := fun e he t ht => hb e he t (List.mem_cons_of_mem _ ht)
    unfold mS
    by_cases m : matchB s.f n = true
    · rw [if_pos m]
      have new : (∀ e ∈ out, e.1 ≠ s.c) → (keys (mS n (out ++ [(s.c, s.q)]) r)).Pairwise ltB := fun ne => by
        refine mS_so n r _ ?_ (fun e he t ht => ?_) h2
        · unfold keys
          rw [List.map_append]
          refine List.pairwise_append.2 ⟨h, by simp, fun a ha b hb2 => ?_⟩
          obtain ⟨e, he, rfl⟩ := List.mem_map.1 ha
          have : b = s.c := by simpa using hb2
          subst this
          rcases hb e he s (List.mem_cons_self ..) with g | g
          · exact absurd g (ne e he)
          · exact g
        · rcases List.mem_append.1 he with he | he
          · exact tl e he t ht
          · rw [List.mem_singleton] at he; subst he; exact le1 t ht
      cases hg : out.getLast? with
      | none =>
        have : out = [] := List.getLast?_eq_none_iff.1 hg
        subst this
        exact new fun e he => by cases he
      | some e =>
        have eo : out = out.dropLast ++ [e] := last_of hg
        dsimp only
        by_cases ec : e.1 = s.c
        · rw [if_pos ec]
          have ek : keys (out.dropLast ++ [(e.1, max e.2 s.q)]) = keys out := by rw [eo]; simp [keys]
          refine mS_so n r _ (by rw [ek]; exact h) (fun x hx t ht => ?_) h2
          rcases List.mem_append.1 hx with hx | hx
          · exact tl x (by rw [eo]; exact List.mem_append_left _ hx) t ht
          · rw [List.mem_singleton] at hx
            subst hx
            exact tl e (by rw [eo]; exact List.mem_append_right _ (List.mem_singleton.2 rfl)) t ht
        · rw [if_neg ec]
          refine new fun x hx ex => ?_
          rw [eo] at hx h
          rcases List.mem_append.1 hx with hx | hx
          · -- before the last: below it, and it is not above s
            unfold keys at h
            rw [List.map_append] at h
            have l1 := (List.pairwise_append.1 h).2.2 x.1 (List.mem_map.2 ⟨x, hx, rfl⟩) e.1 (by simp)
            have l2 := hb e (by rw [eo]; exact List.mem_append_right _ (List.mem_singleton.2 rfl)) s (List.mem_cons_self ..)
            rcases l2 with l2 | l2
            · exact ec l2
            · rw [ex] at l1; exact ltB_irr _ (ltB_trans l1 l2)
          · rw [List.mem_singleton] at hx; subst hx; exact ec ex
    · rw [if_neg m]
      exact mS_so n r out h tl h2
theorem sorted_eq : ∀ {l m : List (ByteArray × Int)}, (keys l).Pairwise ltB → (keys m).Pairwise ltB → (∀ x, x ∈ l ↔ x ∈ m) → l = m
  | [], [], _, _, _ => rfl
  | [], y :: m, _, _, h => by have := (h y).2 (List.mem_cons_self ..); cases this
  | x :: l, [], _, _, h => by have := (h x).1 (List.mem_cons_self ..); cases this
  | x :: l, y :: m, hl, hm, h => by
    obtain ⟨l1, l2⟩ := List.pairwise_cons.1 hl
    obtain ⟨m1, m2⟩ := List.pairwise_cons.1 hm
    have lx : ∀ z ∈ l, ltB x.1 z.1 := fun z hz => l1 _ (List.mem_map.2 ⟨z, hz, rfl⟩)
    have my : ∀ z ∈ m, ltB y.1 z.1 := fun z hz => m1 _ (List.mem_map.2 ⟨z, hz, rfl⟩)
    have exy : x = y := by
      rcases List.mem_cons.1 ((h x).1 (List.mem_cons_self ..)) with a | a
      · exact a
      · rcases List.mem_cons.1 ((h y).2 (List.mem_cons_self ..)) with b | b
        · exact b.symm
        · exact absurd (ltB_trans (my x a) (lx y b)) (ltB_irr _)
    subst exy
    congr 1
    refine sorted_eq l2 m2 fun z => ?_
    have := h z
    constructor
    · intro hz
      rcases List.mem_cons.1 (this.1 (List.mem_cons_of_mem _ hz)) with rfl | a
      · exact absurd (lx z hz) (ltB_irr _)
      · exact a
    · intro hz
      rcases List.mem_cons.1 (this.2 (List.mem_cons_of_mem _ hz)) with rfl | a
      · exact absurd (my z hz) (ltB_irr _)
      · exact a
theorem key_one {l : List (ByteArray × Int)} (h : (keys l).Nodup) {c : ByteArray} {p q : Int} (h1 : (c, p) ∈ l) (h2 : (c, q) ∈ l) : p = q := by
  induction l with
  | nil => cases h1
  | cons e l ih =>
    obtain ⟨a, b⟩ := List.nodup_cons.1 h
    rcases List.mem_cons.1 h1 with e1 | e1
    · rcases List.mem_cons.1 h2 with e2 | e2
      · rw [← e2] at e1; injection e1
      · subst e1; exact absurd (List.mem_map.2 ⟨_, e2, rfl⟩) a
    · rcases List.mem_cons.1 h2 with e2 | e2
      · subst e2; exact absurd (List.mem_map.2 ⟨_, e1, rfl⟩) a
      · exact ih b e1 e2
theorem so_nodup {l : List ByteArray} (h : l.Pairwise ltB) : l.Nodup := h.imp fun {a b} hab e => by subst e; exact ltB_irr _ hab
theorem low_mem {l m : List (ByteArray × Int)} (hl : (keys l).Nodup) (hm : (keys m).Nodup) (h : ∀ c v, low l c v ↔ low m c v) (x : ByteArray × Int) : x ∈ l ↔ x ∈ m := by
  have half : ∀ {l m : List (ByteArray × Int)}, (keys l).Nodup → (∀ c v, low l c v ↔ low m c v) → x ∈ l → x ∈ m := fun {l m} hl h hx => by
    obtain ⟨c, q⟩ := x
    obtain ⟨q2, h2, g2⟩ := (h c q).1 ⟨q, hx, Int.le_refl _⟩
    obtain ⟨q3, h3, g3⟩ := (h c q2).2 ⟨q2, h2, Int.le_refl _⟩
    have := key_one hl hx h3
    have : q2 = q := by omega
    rw [← this]; exact h2
  exact ⟨half hl h, half hm fun c v => (h c v).symm⟩
theorem same_out {l m : List (ByteArray × Int)} (hl : (keys l).Pairwise ltB) (hm : (keys m).Pairwise ltB) (h : ∀ c v, low l c v ↔ low m c v) : l = m :=
  sorted_eq hl hm (low_mem (so_nodup hl) (so_nodup hm) h)
theorem matchS_so {n : ByteArray} {l : List Sb} (h : l.Pairwise ltS) : (keys (matchS n l)).Pairwise ltB := mS_so n l [] List.Pairwise.nil (fun e he => by cases he) h
theorem matchS_low {n : ByteArray} {l : List Sb} {c : ByteArray} {v : Int} : low (matchS n l) c v ↔ ∃ s ∈ l, s.c = c ∧ matchB s.f n = true ∧ v ≤ s.q := by
  unfold matchS
  rw [mS_low]
  constructor
  · rintro (⟨q, h, _⟩ | h)
    · cases h
    · exact h
  · exact .inr
def listS (c : ByteArray) (l : List Sb) : List (ByteArray × Int) := (l.filter fun s => decide (s.c = c)).map fun s => (s.f, s.q)
theorem listS_mem {c : ByteArray} {l : List Sb} {f : ByteArray} {q : Int} : (f, q) ∈ listS c l ↔ ⟨c, f, q⟩ ∈ l := by
  unfold listS
  rw [List.mem_map]
  constructor
  · rintro ⟨s, hs, e⟩
    obtain ⟨h1, h2⟩ := List.mem_filter.1 hs
    obtain ⟨sc, sf, sq⟩ := s
    injection e with a b
    subst a b
    have : sc = c := of_decide_eq_true h2
    subst this
    exact h1
  · intro h
    exact ⟨_, List.mem_filter.2 ⟨h, decide_eq_true rfl⟩, rfl⟩
theorem listS_so {c : ByteArray} {l : List Sb} (h : l.Pairwise ltS) : (keys (listS c l)).Pairwise ltB := by
  unfold keys listS
  rw [List.map_map, List.pairwise_map]
  have : (l.filter fun s => decide (s.c = c)).Pairwise fun a b => ltS a b ∧ a.c = c ∧ b.c = c := by
    refine (List.pairwise_filter.2 (h.imp fun {a b} hab h1 h2 => ⟨hab, of_decide_eq_true h1, of_decide_eq_true h2⟩))
  refine this.imp ?_
  rintro a b ⟨h1, h2, h3⟩
  rcases h1 with h1 | ⟨_, h1⟩
  · rw [h2, h3] at h1; exact absurd h1 (ltB_irr _)
  · exact h1
/-- Those of others; with one, of its filters this one alone is left out. -/
def goneS (c f : ByteArray) (one : Bool) (s : Sb) : Bool := decide (s.c = c) && (!one || decide (s.f = f))
def withoutS (c f : ByteArray) (one : Bool) (l : List Sb) : List Sb := l.filter fun s => !(goneS c f one s)
theorem withoutS_mem {c f : ByteArray} {one : Bool} {l : List Sb} {x : Sb} : x ∈ withoutS c f one l ↔ x ∈ l ∧ ¬ (x.c = c ∧ (one = true → x.f = f)) := by
  unfold withoutS goneS
  rw [List.mem_filter]
  cases one with
  | false => simp
  | true =>
    simp only [Bool.not_true, Bool.false_or, Bool.not_eq_true', Bool.and_eq_false_iff, decide_eq_false_iff_not, forall_const, not_and]
    refine and_congr_right fun _ => ⟨fun a b => ?_, fun a => ?_⟩
    · rcases a with a | a
      · exact absurd b a
      · exact a
    · by_cases b : x.c = c
      · exact .inr (a b)
      · exact .inl b
theorem withoutS_so {c f : ByteArray} {one : Bool} {l : List Sb} (h : l.Pairwise ltS) : (withoutS c f one l).Pairwise ltS := h.filter _
theorem subs_eq : ∀ {l m : List Sb}, l.Pairwise ltS → m.Pairwise ltS → (∀ x, x ∈ l ↔ x ∈ m) → l = m
  | [], [], _, _, _ => rfl
  | [], y :: m, _, _, h => by have := (h y).2 (List.mem_cons_self ..); cases this
  | x :: l, [], _, _, h => by have := (h x).1 (List.mem_cons_self ..); cases this
  | x :: l, y :: m, hl, hm, h => by
    obtain ⟨lx, l2⟩ := List.pairwise_cons.1 hl
    obtain ⟨my, m2⟩ := List.pairwise_cons.1 hm
    have irr : ∀ z : Sb, ¬ ltS z z := fun z a => ltS_key a ⟨rfl, rfl⟩
    have exy : x = y := by
      rcases List.mem_cons.1 ((h x).1 (List.mem_cons_self ..)) with a | a
      · exact a
      · rcases List.mem_cons.1 ((h y).2 (List.mem_cons_self ..)) with b | b
        · exact b.symm
        · exact absurd (ltS_trans (my x a) (lx y b)) (irr _)
    subst exy
    congr 1
    refine subs_eq l2 m2 fun z => ?_
    have := h z
    constructor
    · intro hz
      rcases List.mem_cons.1 (this.1 (List.mem_cons_of_mem _ hz)) with rfl | a
      · exact absurd (lx z hz) (irr _)
      · exact a
    · intro hz
      rcases List.mem_cons.1 (this.2 (List.mem_cons_of_mem _ hz)) with rfl | a
      · exact absurd (my z hz) (irr _)
      · exact a
end Go.G.YtnmngjffebbbnaaDoor
