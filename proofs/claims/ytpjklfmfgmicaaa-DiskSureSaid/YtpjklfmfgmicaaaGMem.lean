/- How the evaluator's memory goes with the machine's: new blocks, stores, variables of the function's own. -/
import Derived.Test.YtpjklfmfgmicaaaGRel
import Derived.Deep.AppendSrc
import Derived.Deep.Upon
import Derived.Laws.OwnMore
namespace Go.G
open Go.RowKit

theorem Rw.cell {w0 : World} {h : AH} {w : World} (r : Rw w0 h w) {a : Addr} {x : Value} (hc : cellA w0 h a = some x) : w.cell? a = some x := by
  unfold cellA at hc
  split at hc
  · rename_i hlt
    have := r.below.block a.block hlt
    simp only [World.cell?] at hc ⊢
    rw [this]; exact hc
  · split at hc
    · rename_i xs sz hb
      obtain ⟨_, ob, ho, hf⟩ := r.fits _ _ hb
      cases ob with
      | cells c T fr =>
        simp only [World.cell?, ho]
        cases hs : a.spot with
        | none => rw [hs] at hc; simpa using hf.2.2.1 _ _ (by simpa using hc)
        | some q => rw [hs] at hc; simp at hc
      | _ => exact hf.elim
    · rename_i xs hb
      obtain ⟨_, ob, ho, hf⟩ := r.fits _ _ hb
      cases ob with
      | cells c T fr =>
        simp only [World.cell?, ho]
        cases hs : a.spot with
        | none => rw [hs] at hc; simpa using hf _ _ (by simpa using hc)
        | some q => rw [hs] at hc; simp at hc
      | _ => exact hf.elim
    · cases hc

theorem Rw.at_ {w0 : World} {h : AH} {w : World} (r : Rw w0 h w) {a : Addr} {vs : List Value} (hA : At w0 h a vs) : ∀ j v, vs[j]? = some v → w.cell? (a.add j) = some v :=
  fun j v hj => r.cell (hA j v hj)

theorem Rw.drew {w0 : World} {h : AH} {w : World} (r : Rw w0 h w) : Rw w0 h w.drew := ⟨r.below.drew, r.fits, r.its⟩

theorem Rw.fresh {w0 : World} {h : AH} {w : World} (r : Rw w0 h w) : h w.heap.size = none := by
  cases hb : h w.heap.size with
  | none => rfl
  | some o =>
    obtain ⟨_, ob, ho, _⟩ := r.fits _ _ hb
    have := (Array.getElem?_eq_some_iff.1 ho).1
    omega

/-- Another world, which differs at one block of the law's own alone. -/
theorem Rw.turned {w0 : World} {h : AH} {w w' : World} (r : Rw w0 h w) {b : Nat} (hb : w0.heap.size ≤ b) (hos : w'.os = w.os) (ht : w'.tape = w.tape) (hou : w'.output = w.output)
    (hs : w.heap.size ≤ w'.heap.size) (hk : ∀ i, i < w.heap.size → i ≠ b → w'.heap[i]? = w.heap[i]?) {o : AB} {ob : Obj} (ho : w'.heap[b]? = some ob) (hf : Go.G.fits o ob)
    (hn1 : b < w.heap.size → ∀ e c, ob ≠ .map e c)
    (hn2 : ∀ m l c, o = .mit m l c → ∃ since seen last, w'.heap[b]? = some (.mapIter m since seen last) ∧ (m = none → l = []) ∧ ∀ q, m = some q → ∃ ob, w'.heap[q]? = some ob ∧ ItOk ob since seen last l c) :
    Rw w0 (h.put b o) w' := by
  refine ⟨⟨hos.trans r.below.os, ht.trans r.below.tape, hou.trans r.below.output, Nat.le_trans r.below.size hs, fun k hk' => ?_⟩, fun i oi hi => ?_, ?_⟩
  rotate_right
  · intro i m l c hi
    unfold AH.put at hi
    split at hi
    · rename_i e
      subst e
      injection hi with hi
      exact hn2 m l c hi
    · rename_i e
      obtain ⟨si, se, la, h1, h2, h3⟩ := r.its i m l c hi
      refine ⟨si, se, la, by rw [hk i (Array.getElem?_eq_some_iff.1 h1).1 e]; exact h1, h2, fun q hq => ?_⟩
      obtain ⟨oq, g1, g2⟩ := h3 q hq
      have hlt := (Array.getElem?_eq_some_iff.1 g1).1
      by_cases eq : q = b
      · subst eq
        exact ⟨ob, ho, fun ents clock hm => absurd hm (hn1 hlt ents clock)⟩
      · exact ⟨oq, by rw [hk q hlt eq]; exact g1, g2⟩
  · have h1 := r.below.size
    rw [hk k (by omega) (by omega)]
    exact r.below.block k hk'
  · unfold AH.put at hi
    split at hi
    · rename_i e
      subst e
      injection hi with hi
      subst hi
      exact ⟨hb, ob, ho, hf⟩
    · rename_i e
      obtain ⟨h1, ob', h2, h3⟩ := r.fits i oi hi
      exact ⟨h1, ob', by rw [hk i (Array.getElem?_eq_some_iff.1 h2).1 e]; exact h2, h3⟩

theorem Rw.turned0 {w0 : World} {h : AH} {w w' : World} (r : Rw w0 h w) {b : Nat} (hb : w0.heap.size ≤ b) (hn : h b = none) (hos : w'.os = w.os) (ht : w'.tape = w.tape) (hou : w'.output = w.output)
    (hs : w.heap.size ≤ w'.heap.size) (hk : ∀ i, i < w.heap.size → i ≠ b → w'.heap[i]? = w.heap[i]?) {ob : Obj} (ho : w'.heap[b]? = some ob) (hn1 : ∀ e c, ob ≠ .map e c) : Rw w0 h w' := by
  refine ⟨⟨hos.trans r.below.os, ht.trans r.below.tape, hou.trans r.below.output, Nat.le_trans r.below.size hs, fun k hk' => ?_⟩, fun i oi hi => ?_, ?_⟩
  rotate_right
  · intro i m l c hi
    obtain ⟨si, se, la, h1, h2, h3⟩ := r.its i m l c hi
    have e : i ≠ b := fun e => by subst e; rw [hn] at hi; cases hi
    refine ⟨si, se, la, by rw [hk i (Array.getElem?_eq_some_iff.1 h1).1 e]; exact h1, h2, fun q hq => ?_⟩
    obtain ⟨oq, g1, g2⟩ := h3 q hq
    have hlt := (Array.getElem?_eq_some_iff.1 g1).1
    by_cases eq : q = b
    · subst eq
      exact ⟨ob, ho, fun ents clock hm => absurd hm (hn1 ents clock)⟩
    · exact ⟨oq, by rw [hk q hlt eq]; exact g1, g2⟩
  · have h1 := r.below.size
    rw [hk k (by omega) (by omega)]
    exact r.below.block k hk'
  · obtain ⟨h1, ob', h2, h3⟩ := r.fits i oi hi
    have e : i ≠ b := fun e => by subst e; rw [hn] at hi; cases hi
    exact ⟨h1, ob', by rw [hk i (Array.getElem?_eq_some_iff.1 h2).1 e]; exact h2, h3⟩

theorem noIt_some {h : AH} {r i : Nat} {o : AB} (hi : (h.noIt r) i = some o) : h i = some o ∧ ∀ l c, o ≠ .mit (some r) l c := by
  unfold AH.noIt at hi
  split at hi
  · rename_i q l c hq
    split at hi
    · cases hi
    · rename_i hne
      injection hi with hi
      subst hi
      exact ⟨hq, fun l c e => hne (by injection e with e; injection e)⟩
  · rename_i hq
    refine ⟨hi, fun l c e => ?_⟩
    subst e
    exact hq r l c hi
theorem noIt_none {h : AH} {r i : Nat} (hi : h i = none) : (h.noIt r) i = none := by
  unfold AH.noIt
  rw [hi]
theorem noIt_cells {h : AH} {r i : Nat} {xs : List Value} {sz : Nat} (hi : h i = some (.cells xs sz)) : (h.noIt r) i = some (.cells xs sz) := by
  unfold AH.noIt
  rw [hi]
theorem noIt_map {h : AH} {r i : Nat} {es : List (Value × Value)} (hi : h i = some (.map es)) : (h.noIt r) i = some (.map es) := by
  unfold AH.noIt
  rw [hi]

/-- A map of the law's own is written. -/
theorem Rw.turnedM {w0 : World} {h : AH} {w w' : World} (r : Rw w0 h w) {b : Nat} (hb : w0.heap.size ≤ b) (hos : w'.os = w.os) (ht : w'.tape = w.tape) (hou : w'.output = w.output)
    (hs : w.heap.size ≤ w'.heap.size) (hk : ∀ i, i < w.heap.size → i ≠ b → w'.heap[i]? = w.heap[i]?) {es : List (Value × Value)} {ob : Obj} (ho : w'.heap[b]? = some ob) (hf : Go.G.fits (.map es) ob) :
    Rw w0 (h.putm b es) w' := by
  refine ⟨⟨hos.trans r.below.os, ht.trans r.below.tape, hou.trans r.below.output, Nat.le_trans r.below.size hs, fun k hk' => ?_⟩, fun i oi hi => ?_, ?_⟩
  · have h1 := r.below.size
    rw [hk k (by omega) (by omega)]
    exact r.below.block k hk'
  · unfold AH.putm AH.put at hi
    split at hi
    · rename_i e
      subst e
      injection hi with hi
      subst hi
      exact ⟨hb, ob, ho, hf⟩
    · rename_i e
      obtain ⟨h1, ob', h2, h3⟩ := r.fits i oi (noIt_some hi).1
      exact ⟨h1, ob', by rw [hk i (Array.getElem?_eq_some_iff.1 h2).1 e]; exact h2, h3⟩
  · intro i m l c hi
    unfold AH.putm AH.put at hi
    split at hi
    · injection hi with hi; cases hi
    · rename_i e
      obtain ⟨hi, hne⟩ := noIt_some hi
      obtain ⟨si, se, la, h1, h2, h3⟩ := r.its i m l c hi
      refine ⟨si, se, la, by rw [hk i (Array.getElem?_eq_some_iff.1 h1).1 e]; exact h1, h2, fun q hq => ?_⟩
      obtain ⟨oq, g1, g2⟩ := h3 q hq
      have hlt := (Array.getElem?_eq_some_iff.1 g1).1
      have eq : q ≠ b := fun eq => hne l c (by rw [hq, eq])
      exact ⟨oq, by rw [hk q hlt eq]; exact g1, g2⟩

theorem heap_alloc_old (w : World) (o : Obj) (i : Nat) (hi : i < w.heap.size) : (w.alloc o).heap[i]? = w.heap[i]? := by
  show (w.heap.push o)[i]? = w.heap[i]?
  rw [Array.getElem?_push]
  split
  · omega
  · rfl
theorem heap_alloc_new' (w : World) (o : Obj) : (w.alloc o).heap[w.heap.size]? = some o := by
  show (w.heap.push o)[w.heap.size]? = some o
  simp
theorem size_alloc' (w : World) (o : Obj) : (w.alloc o).heap.size = w.heap.size + 1 := by
  show (w.heap.push o).size = _
  simp

theorem put_same (h : AH) (b : Nat) (o : AB) : (h.put b o) b = some o := by simp [AH.put]
theorem put_other (h : AH) {b i : Nat} (o : AB) (hi : i ≠ b) : (h.put b o) i = h i := by simp [AH.put, hi]

section
variable {w0 : World} {fr : Fr} {β : Nat → Nat} {env : Env} {bx : Bxs} {h : AH} {a : Act} {w : World}

theorem St.drew (s : St w0 fr β env bx h a w) : St w0 fr β env bx h a w.drew :=
  ⟨s.tm, s.df, s.rw.drew, ⟨s.kp.size, s.kp.same⟩, s.bxs, s.inj, s.pin, s.len⟩

theorem St.lt (s : St w0 fr β env bx h a w) {i : Nat} {cs : List Value} (hi : bx[i]? = some (some cs)) : β i < w.heap.size := by
  obtain ⟨_, _, _, T, hT⟩ := s.bxs i cs hi
  exact (Array.getElem?_eq_some_iff.1 hT).1

/-- A new block. -/
theorem St.newG (s : St w0 fr β env bx h a w) {o : AB} {ob : Obj} (hf : fits o ob)
    (hn2 : ∀ m l c, o = .mit m l c → ∃ since seen last, (w.alloc ob).heap[w.heap.size]? = some (.mapIter m since seen last) ∧ (m = none → l = []) ∧ ∀ q, m = some q → ∃ ob', (w.alloc ob).heap[q]? = some ob' ∧ ItOk ob' since seen last l c) :
    St w0 fr β env bx (h.put w.heap.size o) a (w.alloc ob) := by
  have hlt : w0.heap.size ≤ w.heap.size := s.rw.below.size
  refine ⟨s.tm, s.df, ?_, ?_, ?_, s.inj, s.pin, s.len⟩
  · exact s.rw.turned (w' := w.alloc ob) hlt rfl rfl rfl (by rw [size_alloc']; omega) (fun i hi _ => heap_alloc_old w ob i hi) (heap_alloc_new' w ob) hf (fun q => absurd q (Nat.lt_irrefl _)) hn2
  · refine s.kp.trans ⟨by rw [size_alloc']; omega, fun b hb hl => ⟨by rw [put_other _ _ (by omega)]; exact hb, heap_alloc_old w ob b hl⟩⟩
  · intro i cs hi
    obtain ⟨h1, h2, h3, T, hT⟩ := s.bxs i cs hi
    have hl := s.lt hi
    exact ⟨h1, h2, by rw [put_other _ _ (by omega)]; exact h3, T, by rw [heap_alloc_old w ob _ hl]; exact hT⟩

theorem St.new (s : St w0 fr β env bx h a w) {o : AB} {ob : Obj} (hf : fits o ob) (hn2 : ∀ m l c, o ≠ .mit m l c := by intro _ _ _ e; cases e) : St w0 fr β env bx (h.put w.heap.size o) a (w.alloc ob) :=
  s.newG hf fun m l c e => absurd e (hn2 m l c)

/-- A block of the law's own is written. -/
theorem St.putG (s : St w0 fr β env bx h a w) {w' : World} {b : Nat} {o o' : AB} {ob : Obj} (hh : h b = some o') (hos : w'.os = w.os) (ht : w'.tape = w.tape) (hou : w'.output = w.output)
    (hs : w'.heap.size = w.heap.size) (hk : ∀ i, i < w.heap.size → i ≠ b → w'.heap[i]? = w.heap[i]?) (ho : w'.heap[b]? = some ob) (hf : fits o ob) (hn1 : ∀ e c, ob ≠ .map e c)
    (hn2 : ∀ m l c, o = .mit m l c → ∃ since seen last, w'.heap[b]? = some (.mapIter m since seen last) ∧ (m = none → l = []) ∧ ∀ q, m = some q → ∃ ob, w'.heap[q]? = some ob ∧ ItOk ob since seen last l c) : St w0 fr β env bx (h.put b o) a w' := by
  obtain ⟨hb, _⟩ := s.rw.fits _ _ hh
  refine ⟨s.tm, s.df, s.rw.turned hb hos ht hou (by omega) hk ho hf (fun _ => hn1) hn2, ?_, ?_, s.inj, s.pin, s.len⟩
  · refine s.kp.trans ⟨by omega, fun i hi hl => ?_⟩
    have e : i ≠ b := fun e => by subst e; rw [hh] at hi; cases hi
    exact ⟨by rw [put_other _ _ e]; exact hi, hk i hl e⟩
  · intro i cs hi
    obtain ⟨h1, h2, h3, T, hT⟩ := s.bxs i cs hi
    have e : β i ≠ b := fun e => by rw [e, hh] at h3; cases h3
    exact ⟨h1, h2, by rw [put_other _ _ e]; exact h3, T, by rw [hk _ (s.lt hi) e]; exact hT⟩

theorem St.put (s : St w0 fr β env bx h a w) {w' : World} {b : Nat} {o o' : AB} {ob : Obj} (hh : h b = some o') (hos : w'.os = w.os) (ht : w'.tape = w.tape) (hou : w'.output = w.output)
    (hs : w'.heap.size = w.heap.size) (hk : ∀ i, i < w.heap.size → i ≠ b → w'.heap[i]? = w.heap[i]?) (ho : w'.heap[b]? = some ob) (hf : fits o ob)
    (hn1 : ∀ e c, ob ≠ .map e c := by intro _ _ e; cases e) (hn2 : ∀ m l c, o ≠ .mit m l c := by intro _ _ _ e; cases e) : St w0 fr β env bx (h.put b o) a w' :=
  s.putG hh hos ht hou hs hk ho hf hn1 fun m l c e => absurd e (hn2 m l c)

/-- A map of the law's own is written. -/
theorem St.putM (s : St w0 fr β env bx h a w) {w' : World} {b : Nat} {o' : AB} {es : List (Value × Value)} {ob : Obj} (hh : h b = some o') (hos : w'.os = w.os) (ht : w'.tape = w.tape) (hou : w'.output = w.output)
    (hs : w'.heap.size = w.heap.size) (hk : ∀ i, i < w.heap.size → i ≠ b → w'.heap[i]? = w.heap[i]?) (ho : w'.heap[b]? = some ob) (hf : fits (.map es) ob) : St w0 fr β env bx (h.putm b es) a w' := by
  obtain ⟨hb, _⟩ := s.rw.fits _ _ hh
  refine ⟨s.tm, s.df, s.rw.turnedM hb hos ht hou (by omega) hk ho hf, ?_, ?_, s.inj, s.pin, s.len⟩
  · refine s.kp.trans ⟨by omega, fun i hi hl => ?_⟩
    have e : i ≠ b := fun e => by subst e; rw [hh] at hi; cases hi
    exact ⟨by unfold AH.putm; rw [put_other _ _ e]; exact noIt_none hi, hk i hl e⟩
  · intro i cs hi
    obtain ⟨h1, h2, h3, T, hT⟩ := s.bxs i cs hi
    have e : β i ≠ b := fun e => by rw [e, hh] at h3; cases h3
    exact ⟨h1, h2, by unfold AH.putm; rw [put_other _ _ e]; exact noIt_none h3, T, by rw [hk _ (s.lt hi) e]; exact hT⟩

theorem gam_upd {β : Nat → Nat} {i b : Nat} : ∀ {x : AV}, hasB i x = false → gam (fun k => if k = i then b else β k) x = gam β x
  | .v _, _ => rfl
  | .bp j off, hx => by
    have : j ≠ i := fun e => by subst e; simp [hasB] at hx
    simp [gam, this]
  | .bs j n, hx => by
    have : j ≠ i := fun e => by subst e; simp [hasB] at hx
    simp [gam, this]

/-- A variable of the function's own comes to be. -/
theorem St.boxNew (s : St w0 fr β env bx h a w) (cs : List Value) (T : TypeId) (hn : env.any (hasB bx.length) = false) :
    St w0 fr (fun k => if k = bx.length then w.heap.size else β k) env (bx ++ [some cs]) h a (w.alloc (.cells cs.toArray T)) := by
  have hbase : w0.heap.size ≤ w.heap.size := s.rw.below.size
  have hwe : fr.we.heap.size ≤ w.heap.size := s.kp.size
  have hfr := s.rw.fresh
  refine ⟨?_, s.df, ?_, ?_, ?_, ?_, fun i hi => ?_, by have := s.len; simp; omega⟩
  rotate_right
  · have := s.len
    rw [if_neg (by omega)]
    exact s.pin i hi
  · rw [s.tm]
    apply List.map_congr_left
    intro x hx
    have : hasB bx.length x = false := by
      rw [List.any_eq_false] at hn
      simpa using hn x hx
    exact (gam_upd this).symm
  · exact s.rw.turned0 (w' := w.alloc (.cells cs.toArray T)) hbase hfr rfl rfl rfl (by rw [size_alloc']; omega) (fun i hi _ => heap_alloc_old w _ i hi) (heap_alloc_new' w _) (by intro _ _ e; cases e)
  · refine s.kp.trans ⟨by rw [size_alloc']; omega, fun b hb hl => ⟨hb, heap_alloc_old w _ b hl⟩⟩
  · intro i cs' hi
    by_cases e : i = bx.length
    · subst e
      simp at hi
      subst hi
      simp only [if_true]
      exact ⟨.inr hwe, hbase, hfr, T, heap_alloc_new' w _⟩
    · have hi' : bx[i]? = some (some cs') := by
        rw [List.getElem?_append] at hi
        split at hi
        · exact hi
        · rename_i hl
          have : i - bx.length ≠ 0 := by omega
          rw [List.getElem?_singleton, if_neg this] at hi
          cases hi
      obtain ⟨h1, h2, h3, T', hT⟩ := s.bxs i cs' hi'
      simp only [if_neg e]
      exact ⟨h1, h2, h3, T', by rw [heap_alloc_old w _ _ (s.lt hi')]; exact hT⟩
  · have up : ∀ i, i ≠ bx.length → boxIs (bx ++ [some cs]) i = true → ∃ c, bx[i]? = some (some c) := by
      intro i e hi
      simp only [boxIs] at hi
      rw [List.getElem?_append] at hi
      split at hi
      · rename_i c heq
        split at heq
        · exact ⟨c, heq⟩
        · rename_i hl
          have : i - bx.length ≠ 0 := by omega
          rw [List.getElem?_singleton, if_neg this] at heq
          cases heq
      · cases hi
    intro i k hi hk hik
    by_cases ei : i = bx.length
    · by_cases ek : k = bx.length
      · rw [ei, ek]
      · obtain ⟨c, hc⟩ := up k ek hk
        have := s.lt hc
        simp only [if_pos ei, if_neg ek] at hik
        omega
    · by_cases ek : k = bx.length
      · obtain ⟨c, hc⟩ := up i ei hi
        have := s.lt hc
        simp only [if_pos ek, if_neg ei] at hik
        omega
      · simp only [if_neg ei, if_neg ek] at hik
        obtain ⟨c, hc⟩ := up i ei hi
        obtain ⟨c', hc'⟩ := up k ek hk
        exact s.inj i k (by simp [boxIs, hc]) (by simp [boxIs, hc']) hik

theorem boxIs_some {bx : Bxs} {i : Nat} (hi : boxIs bx i = true) : ∃ cs, bx[i]? = some (some cs) ∧ boxAt bx i = cs := by
  simp only [boxIs] at hi
  split at hi
  · rename_i cs heq
    exact ⟨cs, heq, by simp [boxAt, heq]⟩
  · cases hi

theorem boxIs_set {bx : Bxs} {i k : Nat} {x : Option (List Value)} (hk : boxIs (bx.set i x) k = true) : (k = i ∧ x.isSome = true) ∨ (k ≠ i ∧ boxIs bx k = true) := by
  simp only [boxIs, List.getElem?_set] at hk
  by_cases e : i = k
  · subst e
    simp only [if_true] at hk
    split at hk
    · rename_i h1
      split at h1
      · injection h1 with h1; subst h1; exact .inl ⟨rfl, rfl⟩
      · cases h1
    · cases hk
  · rw [if_neg e] at hk
    exact .inr ⟨fun h => e h.symm, by simpa [boxIs] using hk⟩

/-- A variable of the function's own is written. -/
theorem St.boxSet (s : St w0 fr β env bx h a w) {i : Nat} {cs cs' : List Value} (hi : bx[i]? = some (some cs)) {w' : World} {T : TypeId} (hos : w'.os = w.os) (ht : w'.tape = w.tape) (hou : w'.output = w.output)
    (hs : w'.heap.size = w.heap.size) (hk : ∀ k, k < w.heap.size → k ≠ β i → w'.heap[k]? = w.heap[k]?) (ho : w'.heap[β i]? = some (.cells cs'.toArray T (0, 0))) :
    St w0 fr β env (bx.set i (some cs')) h a w' := by
  obtain ⟨h1, h2, h3, T', hT⟩ := s.bxs i cs hi
  have hlt := s.lt hi
  refine ⟨s.tm, s.df, s.rw.turned0 h2 h3 hos ht hou (by omega) hk ho (by intro _ _ e; cases e), ?_, ?_, ?_, s.pin, by simpa using s.len⟩
  · refine ⟨by rw [hs]; exact s.kp.size, fun b hb hl ho => ?_⟩
    obtain ⟨x, y⟩ := s.kp.same b hb hl ho
    have := s.kp.size
    have hne : b ≠ β i := fun e => by subst e; rcases h1 with h1 | h1 <;> first | exact ho h1 | omega
    exact ⟨x, by rw [hk b (by omega) hne]; exact y⟩
  · intro k c hkk
    rw [List.getElem?_set] at hkk
    split at hkk
    · rename_i e
      subst e
      split at hkk
      · simp at hkk; subst hkk; exact ⟨h1, h2, h3, T, ho⟩
      · cases hkk
    · rename_i e
      obtain ⟨k1, k2, k3, T2, hT2⟩ := s.bxs k c hkk
      have hne : β k ≠ β i := fun q => e (s.inj i k (by simp [boxIs, hi]) (by simp [boxIs, hkk]) q.symm)
      exact ⟨k1, k2, k3, T2, by rw [hk _ (s.lt hkk) hne]; exact hT2⟩
  · intro p q hp hq hpq
    have up : ∀ k, boxIs (bx.set i (some cs')) k = true → boxIs bx k = true := fun k hk => by
      rcases boxIs_set hk with ⟨e, _⟩ | ⟨_, h⟩
      · subst e; simp [boxIs, hi]
      · exact h
    exact s.inj p q (up p hp) (up q hq) hpq

/-- A variable's address goes out. -/
theorem St.exposed (s : St w0 fr β env bx h a w) {i : Nat} {cs : List Value} (hi : bx[i]? = some (some cs)) :
    w0.heap.size ≤ β i ∧ h (β i) = none ∧ St w0 fr β (env.map (subB i (β i))) (bx.set i none) (h.put (β i) (.cells cs cs.length)) a w := by
  obtain ⟨h1, h2, h3, T, hT⟩ := s.bxs i cs hi
  have hlt := s.lt hi
  refine ⟨h2, h3, ?_, s.df, ?_, ?_, ?_, ?_, s.pin, by simpa using s.len⟩
  · rw [s.tm, List.map_map]
    apply List.map_congr_left
    intro x _
    simp only [Function.comp]
    cases x with
    | v y => rfl
    | bp j off =>
      simp only [subB]
      cases hb : Nat.beq i j with
      | true => have e : i = j := Nat.eq_of_beq_eq_true hb; subst e; rfl
      | false => rfl
    | bs j n =>
      simp only [subB]
      cases hb : Nat.beq i j with
      | true => have e : i = j := Nat.eq_of_beq_eq_true hb; subst e; rfl
      | false => rfl
  · exact s.rw.turned h2 rfl rfl rfl (Nat.le_refl _) (fun _ _ _ => rfl) hT ⟨by simp, Nat.le_refl _, fun k x hk => by simpa using hk, fun k _ => by simp⟩ (fun _ _ _ e => by cases e) (fun _ _ _ e => by cases e)
  · refine ⟨s.kp.size, fun b hb hl ho => ?_⟩
    obtain ⟨x, y⟩ := s.kp.same b hb hl ho
    have hne : b ≠ β i := fun e => by subst e; rcases h1 with h1 | h1 <;> first | exact ho h1 | omega
    exact ⟨by rw [put_other _ _ hne]; exact x, y⟩
  · intro k c hkk
    rw [List.getElem?_set] at hkk
    split at hkk
    · split at hkk <;> cases hkk
    · rename_i e
      obtain ⟨k1, k2, k3, T2, hT2⟩ := s.bxs k c hkk
      have hne : β k ≠ β i := fun q => e (s.inj i k (by simp [boxIs, hi]) (by simp [boxIs, hkk]) q.symm)
      exact ⟨k1, k2, by rw [put_other _ _ hne]; exact k3, T2, hT2⟩
  · intro p q hp hq hpq
    have up : ∀ k, boxIs (bx.set i none) k = true → boxIs bx k = true := fun k hk => by
      rcases boxIs_set hk with ⟨e, h⟩ | ⟨_, h⟩
      · cases h
      · exact h
    exact s.inj p q (up p hp) (up q hq) hpq

theorem expose_sound {i : Nat} {K : Env → Bxs → AH → Prop} (hx : expose w0 i env bx h K) (s : St w0 fr β env bx h a w) : ∃ env' bx' h', K env' bx' h' ∧ St w0 fr β env' bx' h' a w := by
  unfold expose at hx
  split at hx
  · rename_i hb
    obtain ⟨cs, hi, hat⟩ := boxIs_some hb
    obtain ⟨h1, h2, h3⟩ := s.exposed hi
    rw [hat] at hx
    exact ⟨_, _, _, hx (β i) h1 h2, h3⟩
  · exact hx.elim

theorem exposeAll_sound {K : Env → Bxs → AH → Prop} : ∀ {xs : List Operand} {env : Env} {bx : Bxs} {h : AH}, exposeAll w0 xs env bx h K → St w0 fr β env bx h a w → ∃ env' bx' h', K env' bx' h' ∧ St w0 fr β env' bx' h' a w
  | [], env, bx, h, hx, s => ⟨env, bx, h, hx, s⟩
  | x :: xs, env, bx, h, hx, s => by
    simp only [exposeAll] at hx
    split at hx
    · obtain ⟨e1, b1, h1, k1, s1⟩ := expose_sound hx s
      exact exposeAll_sound k1 s1
    · exact exposeAll_sound hx s

theorem valsA_gam {l : List AV} {vs : List Value} (hv : valsA l = some vs) : l.map (gam β) = vs := by
  induction l generalizing vs with
  | nil => simp [valsA] at hv; simp [hv]
  | cons x l ih =>
    cases x with
    | v y =>
      simp only [valsA] at hv
      split at hv
      · rename_i l' hl'
        injection hv with hv; subst hv
        simp [gam, ih hl']
      · cases hv
    | bp i o => simp [valsA] at hv
    | bs i o => simp [valsA] at hv

theorem vals_sound {xs : List Operand} {K : List Value → Env → Bxs → AH → Prop} (hx : vals w0 xs env bx h K) (s : St w0 fr β env bx h a w) :
    ∃ env' bx' h', K (xs.map a.eval) env' bx' h' ∧ St w0 fr β env' bx' h' a w := by
  unfold vals at hx
  obtain ⟨env', bx', h', hk, s'⟩ := exposeAll_sound hx s
  split at hk
  · rename_i vs hv
    refine ⟨env', bx', h', ?_, s'⟩
    have : xs.map a.eval = vs := by
      rw [← valsA_gam (β := β) hv, List.map_map]
      apply List.map_congr_left
      intro x _
      exact opd_eval s' x
    rw [this]; exact hk
  · exact hk.elim
end

theorem zip_map {ps : List (Nat × Operand)} {f : Operand → Value} : (ps.map (·.1)).zip ((ps.map (·.2)).map f) = ps.map fun x => (x.1, f x.2) := by
  induction ps with
  | nil => rfl
  | cons x r ih => simp only [List.map_cons, List.zip_cons_cons, ih]

end Go.G
