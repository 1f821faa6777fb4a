/- Blocks of the law's own, side by side. -/
import Derived.Test.YtpjklfmfgmicaaaGTab
namespace Go.G
open Go.RowKit

/-- These blocks are the law's own, each stands there once, and this is known of them. -/
structure Own (w0 : World) (h : AH) (bs : List (Nat × AB)) : Prop where
  nd : (bs.map (·.1)).Nodup
  is : ∀ p ∈ bs, w0.heap.size ≤ p.1 ∧ h p.1 = some p.2
  pl : ∀ p ∈ bs, p.2.plain = true

variable {w0 : World} {h : AH} {b : Nat} {o o' : AB} {bs cs ds : List (Nat × AB)}

theorem Own.perm (w : Own w0 h bs) (hp : bs.Perm cs) : Own w0 h cs :=
  ⟨((hp.map (·.1)).nodup_iff).1 w.nd, fun p hpc => w.is p (hp.mem_iff.2 hpc), fun p hpc => w.pl p (hp.mem_iff.2 hpc)⟩
theorem Own.nil : Own w0 h [] := ⟨by simp, fun _ h => (by cases h), fun _ h => (by cases h)⟩
theorem Own.past (w : Own w0 h bs) (hn : h b = none) : Own w0 (h.put b o) bs :=
  ⟨w.nd, fun p hp => ⟨(w.is p hp).1, by
    have : p.1 ≠ b := fun e => by
      have := (w.is p hp).2
      rw [e, hn] at this; cases this
    rw [put_other _ _ this]; exact (w.is p hp).2⟩, w.pl⟩
theorem Own.new (w : Own w0 h bs) (hb : w0.heap.size ≤ b) (hn : h b = none) (ho : o.plain = true := by rfl) : Own w0 (h.put b o) ((b, o) :: bs) := by
  have hne : ∀ p ∈ bs, p.1 ≠ b := fun p hp e => by
    have := (w.is p hp).2
    rw [e, hn] at this; cases this
  refine ⟨?_, fun p hp => ?_, fun p hp => ?_⟩
  · rw [List.map_cons, List.nodup_cons]
    refine ⟨fun hm => ?_, w.nd⟩
    obtain ⟨p, hp, e⟩ := List.mem_map.1 hm
    exact hne p hp e
  · rcases List.mem_cons.1 hp with rfl | hp
    · exact ⟨hb, put_same _ _ _⟩
    · exact (w.past hn).is p hp
  · rcases List.mem_cons.1 hp with rfl | hp
    · exact ho
    · exact w.pl p hp
theorem Own.ne (w : Own w0 h ((b, o) :: bs)) : ∀ p ∈ bs, p.1 ≠ b := fun p hp e => by
  have := w.nd
  rw [List.map_cons, List.nodup_cons] at this
  exact this.1 (List.mem_map.2 ⟨p, hp, e⟩)
theorem Own.put (w : Own w0 h ((b, o) :: bs)) (ho : o'.plain = true := by rfl) : Own w0 (h.put b o') ((b, o') :: bs) := by
  refine ⟨w.nd, fun p hp => ?_, fun p hp => ?_⟩
  · rcases List.mem_cons.1 hp with rfl | hp'
    · exact ⟨(w.is _ (List.mem_cons_self ..)).1, put_same _ _ _⟩
    · exact ⟨(w.is p (List.mem_cons_of_mem _ hp')).1, by rw [put_other _ _ (w.ne p hp')]; exact (w.is p (List.mem_cons_of_mem _ hp')).2⟩
  · rcases List.mem_cons.1 hp with rfl | hp'
    · exact ho
    · exact w.pl p (List.mem_cons_of_mem _ hp')
theorem noIt_keep {i : Nat} {x : AB} (hi : h i = some x) (hx : x.plain = true) : (h.noIt b) i = some x := by
  unfold AH.noIt
  split
  · rename_i q l c hq
    rw [hi] at hq
    injection hq with hq
    subst hq
    cases hx
  · exact hi
theorem Own.noIt (w : Own w0 h bs) : Own w0 (h.noIt b) bs := ⟨w.nd, fun p hp => ⟨(w.is p hp).1, noIt_keep (w.is p hp).2 (w.pl p hp)⟩, w.pl⟩
theorem Own.putm {es : List (Value × Value)} (w : Own w0 h ((b, o) :: bs)) : Own w0 (h.putm b es) ((b, .map es) :: bs) := (w.noIt (b := b)).put
theorem Own.mid : ∀ {cs : List (Nat × AB)}, (cs ++ (b, o) :: bs).Perm ((b, o) :: (cs ++ bs)) := List.perm_middle
/-- A block is written, wherever it stands. -/
theorem Own.upd (w : Own w0 h (cs ++ (b, o) :: bs)) (ho : o'.plain = true := by rfl) : Own w0 (h.put b o') (cs ++ (b, o') :: bs) := ((w.perm Own.mid).put ho).perm Own.mid.symm
theorem Own.updm {es : List (Value × Value)} (w : Own w0 h (cs ++ (b, o) :: bs)) : Own w0 (h.putm b es) (cs ++ (b, .map es) :: bs) := (w.perm Own.mid).putm.perm Own.mid.symm
theorem Own.tail {p : Nat × AB} (w : Own w0 h (p :: bs)) : Own w0 h bs :=
  ⟨by have := w.nd; rw [List.map_cons, List.nodup_cons] at this; exact this.2, fun q hq => w.is q (List.mem_cons_of_mem _ hq), fun q hq => w.pl q (List.mem_cons_of_mem _ hq)⟩
theorem Own.drop (w : Own w0 h (cs ++ bs)) : Own w0 h bs := by
  induction cs with
  | nil => exact w
  | cons p cs ih => exact ih (Own.tail w)
theorem Own.take (w : Own w0 h (cs ++ bs)) : Own w0 h cs := (w.perm List.perm_append_comm).drop
theorem Own.swap (w : Own w0 h (cs ++ bs)) : Own w0 h (bs ++ cs) := w.perm List.perm_append_comm
/-- The second part comes to the front .. -/
theorem Own.front (w : Own w0 h (cs ++ (ds ++ bs))) : Own w0 h (ds ++ (cs ++ bs)) := w.perm (by
  rw [← List.append_assoc, ← List.append_assoc]
  exact List.Perm.append_right _ List.perm_append_comm)
theorem Own.cut (w : Own w0 h (cs ++ (ds ++ bs))) : Own w0 h (cs ++ bs) := w.front.drop
theorem Own.other (w : Own w0 h bs) (hne : ∀ p ∈ bs, p.1 ≠ b) : Own w0 (h.put b o) bs :=
  ⟨w.nd, fun p hp => ⟨(w.is p hp).1, by rw [put_other _ _ (hne p hp)]; exact (w.is p hp).2⟩, w.pl⟩
theorem Own.hd (w : Own w0 h ((b, o) :: bs)) : h b = some o := (w.is _ (List.mem_cons_self ..)).2
theorem Own.ge (w : Own w0 h ((b, o) :: bs)) : w0.heap.size ≤ b := (w.is _ (List.mem_cons_self ..)).1
theorem Own.mem (w : Own w0 h bs) (hm : (b, o) ∈ bs) : w0.heap.size ≤ b ∧ h b = some o := w.is _ hm
theorem own_cell {xs : List Value} {sz j : Nat} {x : Value} (hb : w0.heap.size ≤ b) (hh : h b = some (.cells xs sz)) (hj : xs[j]? = some x) : cellA w0 h (Addr.add ⟨b, 0, none⟩ j) = some x := by
  rw [add_plain]
  simp only [cellA]
  rw [if_neg (by omega), hh]
  simpa using hj
theorem Own.cell {xs : List Value} {sz j : Nat} {x : Value} (w : Own w0 h bs) (hm : (b, .cells xs sz) ∈ bs) (hj : xs[j]? = some x) : cellA w0 h (Addr.add ⟨b, 0, none⟩ j) = some x := own_cell (w.mem hm).1 (w.mem hm).2 hj
/-- A cell of the block at the front. -/
theorem Own.cell0 {xs : List Value} {sz j : Nat} {x : Value} (w : Own w0 h ((b, .cells xs sz) :: bs)) (hj : xs[j]? = some x) : cellA w0 h (Addr.add ⟨b, 0, none⟩ j) = some x := own_cell w.ge w.hd hj
/-- A map of the law's own. -/
theorem mapAt_own {P : Program} {t : TypeId} {r : Nat} {es : List (Value × Value)} {K : List (Value × Value) → Prop} (hb : w0.heap.size ≤ r) (hh : h r = some (.map es)) (ht : isMapT P t = true) (ho : keysOk P t es) (hk : K es) : mapAt P w0 h (some r) t K := by
  unfold mapAt
  rw [ht]
  exact ⟨es, fun e => (by cases e), fun r' e => by injection e with e; subst e; exact ⟨hb, hh⟩, ho, hk⟩

/-- The block behind a slice, if there is one. -/
def slB (a : Option Addr) (xs : List Value) (sz : Nat) : List (Nat × AB) := match a with
  | none => []
  | some ad => [(ad.block, .cells xs sz)]
/-- What a slice value is, its block being owned elsewhere in the list. -/
def SlV (e : Nat) (a : Option Addr) (n c : Nat) (xs : List Value) : Prop :=
  xs.length = n * e ∧ n ≤ c ∧ match a with
  | none => n = 0 ∧ c = 0
  | some ad => ad.off = 0 ∧ ad.spot = none
theorem SlV.sl {e : Nat} {a : Option Addr} {n c : Nat} {xs : List Value} (v : SlV e a n c xs) (w : Own w0 h (slB a xs (c * e) ++ bs)) : Sl w0 h e a n c xs := by
  obtain ⟨h1, h2, h3⟩ := v
  refine ⟨h1, h2, ?_⟩
  cases a with
  | none => exact h3
  | some ad => exact ⟨h3.1, h3.2, Own.ge w, Own.hd w⟩
theorem SlV.nil {e : Nat} : SlV e none 0 0 [] := ⟨by simp, Nat.le_refl _, rfl, rfl⟩
theorem SlV.rd {e : Nat} {a : Option Addr} {n c : Nat} {xs : List Value} (v : SlV e a n c xs) (w : Own w0 h (cs ++ (slB a xs (c * e) ++ bs))) : Rd w0 h a xs := (v.sl w.front).rd

/-- A slice of the law's own grows. -/
theorem App_slB {e by' : Nat} {a : Option Addr} {n c m : Nat} {xs ys : List Value} {K : Option Addr → Nat → AH → Prop} (v : SlV e a n c xs) (w : Own w0 h (slB a xs (c * e) ++ bs))
    (hby : (n + m) * by' ≤ 140737488355328) (hn : n + m ≤ 140737488355328) (hl : ys.length = m * e) (h1 : ∀ y ∈ ys, y.oneCell' = true)
    (hk : ∀ a' c' h', SlV e a' (n + m) c' (xs ++ ys) → Own w0 h' (slB a' (xs ++ ys) (c' * e) ++ bs) → K a' c' h') : App w0 h e by' a n c m ys K := by
  obtain ⟨hx, hc, hs⟩ := v
  have hxy : (xs ++ ys).length = (n + m) * e := by rw [List.length_append, hx, hl, Nat.add_mul]
  have fresh : ∀ cap b, n + m ≤ cap → w0.heap.size ≤ b → h b = none → K (some ⟨b, 0, none⟩) cap (h.put b (.cells (xs ++ ys) (cap * e))) := fun cap b hcap hb hbn =>
    hk _ _ _ ⟨hxy, hcap, rfl, rfl⟩ (Own.new w.drop hb hbn)
  refine ⟨hby, hn, hl, h1, ?_⟩
  cases a with
  | none =>
    obtain ⟨rfl, rfl⟩ := hs
    have hx0 : xs = [] := List.eq_nil_of_length_eq_zero (by simpa using hx)
    subst hx0
    refine ⟨rfl, rfl, fun hm => ?_, fun hm cap hcap b hb hbn => ?_⟩
    · subst hm
      have : ys = [] := List.eq_nil_of_length_eq_zero (by simpa using hl)
      subst this
      exact hk _ _ _ ⟨by simp, Nat.le_refl _, rfl, rfl⟩ w
    · simpa using fresh cap b (by omega) hb hbn
  | some ad =>
    refine ⟨xs, [], hs.1, hs.2, Own.ge w, by rw [List.append_nil]; exact Own.hd w, hx, hc, fun hroom => ?_, fun _ cap hcap b hb hbn => fresh cap b hcap hb hbn⟩
    exact hk _ _ _ ⟨hxy, hroom, hs⟩ (Own.put w)
/-- .. behind a cut. -/
theorem App_cut {e by' : Nat} {a : Option Addr} {n N c m : Nat} {xs zs ys : List Value} {K : Option Addr → Nat → AH → Prop} (v : SlV e a N c (xs ++ zs)) (hx : xs.length = n * e) (hN : n ≤ N) (w : Own w0 h (slB a (xs ++ zs) (c * e) ++ bs))
    (hby : (n + m) * by' ≤ 140737488355328) (hn : n + m ≤ 140737488355328) (hl : ys.length = m * e) (h1 : ∀ y ∈ ys, y.oneCell' = true)
    (hk : ∀ a' c' h', SlV e a' (n + m) c' (xs ++ ys) → Own w0 h' (slB a' (xs ++ ys) (c' * e) ++ bs) → K a' c' h') : App w0 h e by' a n c m ys K := by
  obtain ⟨hxz, hc, hs⟩ := v
  have hxy : (xs ++ ys).length = (n + m) * e := by rw [List.length_append, hx, hl, Nat.add_mul]
  have fresh : ∀ cap b, n + m ≤ cap → w0.heap.size ≤ b → h b = none → K (some ⟨b, 0, none⟩) cap (h.put b (.cells (xs ++ ys) (cap * e))) := fun cap b hcap hb hbn =>
    hk _ _ _ ⟨hxy, hcap, rfl, rfl⟩ (Own.new w.drop hb hbn)
  cases a with
  | none =>
    obtain ⟨rfl, rfl⟩ := hs
    obtain rfl : n = 0 := by omega
    have hx0 : xs = [] := List.eq_nil_of_length_eq_zero (by simpa using hx)
    subst hx0
    refine ⟨hby, hn, hl, h1, rfl, rfl, fun hm => ?_, fun hm cap hcap b hb hbn => ?_⟩
    · subst hm
      have : ys = [] := List.eq_nil_of_length_eq_zero (by simpa using hl)
      subst this
      exact hk _ _ _ ⟨by simp, Nat.le_refl _, rfl, rfl⟩ w
    · simpa using fresh cap b (by omega) hb hbn
  | some ad =>
    refine ⟨hby, hn, hl, h1, xs, zs, hs.1, hs.2, Own.ge w, Own.hd w, hx, Nat.le_trans hN hc, fun hroom => ?_, fun _ cap hcap b hb hbn => fresh cap b hcap hb hbn⟩
    exact hk _ _ _ ⟨hxy, hroom, hs⟩ (Own.put w)
/-- .. wherever its block stands. -/
theorem App_mid {e by' : Nat} {a : Option Addr} {n c m : Nat} {xs ys : List Value} {K : Option Addr → Nat → AH → Prop} (v : SlV e a n c xs) (w : Own w0 h (cs ++ (slB a xs (c * e) ++ bs)))
    (hby : (n + m) * by' ≤ 140737488355328) (hn : n + m ≤ 140737488355328) (hl : ys.length = m * e) (h1 : ∀ y ∈ ys, y.oneCell' = true)
    (hk : ∀ a' c' h', SlV e a' (n + m) c' (xs ++ ys) → Own w0 h' (cs ++ (slB a' (xs ++ ys) (c' * e) ++ bs)) → K a' c' h') : App w0 h e by' a n c m ys K :=
  App_slB v w.front hby hn hl h1 fun a' c' h' v' w' => hk a' c' h' v' w'.front
/-- A new slice. -/
theorem App_new {e by' m : Nat} {ys : List Value} {K : Option Addr → Nat → AH → Prop} (w : Own w0 h bs)
    (hby : (0 + m) * by' ≤ 140737488355328) (hn : 0 + m ≤ 140737488355328) (hl : ys.length = m * e) (h1 : ∀ y ∈ ys, y.oneCell' = true)
    (hk : ∀ a' c' h', SlV e a' m c' ys → Own w0 h' (slB a' ys (c' * e) ++ bs) → K a' c' h') : App w0 h e by' none 0 0 m ys K :=
  App_slB (xs := []) SlV.nil (bs := bs) w hby hn hl h1 fun a' c' h' v' w' => hk a' c' h' (by simpa using v') (by simpa using w')
/-- The numbers `b - n` to `b - 1`. -/
def rn (b : Nat) : Nat → List Nat → List Nat
  | 0, t => t
  | n + 1, t => (b - (n + 1)) :: rn b n t
/-- Of the temporaries `b - n` to `b - 1`, whatever they hold. -/
def jv (j : Nat → Value) (b : Nat) : Nat → List AV → List AV
  | 0, t => t
  | n + 1, t => .v (j (b - (n + 1))) :: jv j b n t
end Go.G
