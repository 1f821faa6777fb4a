/- Laws for the conditions that the evaluator prints: rows of the law's own, what lies in memory, tests. -/
import Derived.Test.YtpjklfmfgmicaaaGCalls
namespace Go.G
open Go.RowKit

/-- A slice at the head of a row of the law's own (or nil), e cells an element: its elements' cells. -/
def Sl (w0 : World) (h : AH) (e : Nat) (a : Option Addr) (n c : Nat) (xs : List Value) : Prop :=
  xs.length = n * e ∧ n ≤ c ∧ match a with
  | none => n = 0 ∧ c = 0
  | some ad => ad.off = 0 ∧ ad.spot = none ∧ w0.heap.size ≤ ad.block ∧ h ad.block = some (.cells xs (c * e))

/-- Not an iterator. -/
def AB.plain : AB → Bool
  | .cells _ _ => true
  | .map _ => true
  | .strb _ => true
  | _ => false
/-- What was known stays known, but for the slice's own block (and for iterators). -/
def Ext (h h' : AH) (a : Option Addr) : Prop := ∀ i o, h i = some o → (∀ ad, a = some ad → i ≠ ad.block) → o.plain = true → h' i = some o

theorem Ext.refl (h : AH) (a : Option Addr) : Ext h h a := fun _ _ hi _ _ => hi
theorem Ext.of_none {h h' : AH} (x : Ext h h' none) (a : Option Addr) : Ext h h' a := fun i o hi _ p => x i o hi (fun _ e => by cases e) p
theorem Ext.trans {h h1 h2 : AH} {a : Option Addr} (x : Ext h h1 a) (y : Ext h1 h2 a) : Ext h h2 a := fun i o hi hn p => y i o (x i o hi hn p) hn p

theorem Sl.nil {w0 : World} {h : AH} {e : Nat} : Sl w0 h e none 0 0 [] := ⟨by simp, Nat.le_refl _, rfl, rfl⟩

theorem Ext_put {h : AH} {b : Nat} {o : AB} (hb : h b = none) : Ext h (h.put b o) none := fun i oi hi _ _ => by
  have : i ≠ b := fun e => by subst e; rw [hb] at hi; cases hi
  rw [put_other _ _ this]; exact hi

/-- A slice of the law's own grows: in place, or to a new row. -/
theorem App_own {w0 : World} {h : AH} {e by' : Nat} {a : Option Addr} {n c m : Nat} {xs ys : List Value} {K : Option Addr → Nat → AH → Prop}
    (hs : Sl w0 h e a n c xs) (hby : (n + m) * by' ≤ 140737488355328) (hn : n + m ≤ 140737488355328) (hl : ys.length = m * e) (h1 : ∀ y ∈ ys, y.oneCell' = true)
    (hk : ∀ a' c' h', Sl w0 h' e a' (n + m) c' (xs ++ ys) → Ext h h' a → (a' = a ∨ ∃ ad, a' = some ad ∧ h ad.block = none) → K a' c' h') : App w0 h e by' a n c m ys K := by
  obtain ⟨hx, hc, hs⟩ := hs
  have hxy : (xs ++ ys).length = (n + m) * e := by rw [List.length_append, hx, hl, Nat.add_mul]
  have fresh : ∀ cap b, n + m ≤ cap → w0.heap.size ≤ b → h b = none → K (some ⟨b, 0, none⟩) cap (h.put b (.cells (xs ++ ys) (cap * e))) := fun cap b hcap hb hn =>
    hk _ _ _ ⟨hxy, hcap, rfl, rfl, hb, put_same _ _ _⟩ ((Ext_put hn).of_none a) (.inr ⟨_, rfl, hn⟩)
  refine ⟨hby, hn, hl, h1, ?_⟩
  cases a with
  | none =>
    obtain ⟨rfl, rfl⟩ := hs
    have hx0 : xs = [] := List.eq_nil_of_length_eq_zero (by simpa using hx)
    subst hx0
    refine ⟨rfl, rfl, fun hm => ?_, fun hm cap hcap b hb hbn => ?_⟩
    · subst hm
      have : ys = [] := List.eq_nil_of_length_eq_zero (by simpa using hl)
      subst this
      exact hk _ _ _ ⟨by simp, Nat.le_refl _, rfl, rfl⟩ (Ext.refl _ _) (.inl rfl)
    · simpa using fresh cap b (by omega) hb hbn
  | some ad =>
    obtain ⟨h2, h3, h4, h5⟩ := hs
    refine ⟨xs, [], h2, h3, h4, by rw [List.append_nil]; exact h5, hx, hc, fun hroom => ?_, fun _ cap hcap b hb hbn => fresh cap b hcap hb hbn⟩
    refine hk _ _ _ ⟨hxy, hroom, h2, h3, h4, put_same _ _ _⟩ (fun i o hi hne _ => ?_) (.inl rfl)
    rw [put_other _ _ (hne ad rfl)]; exact hi

theorem Sl.cell {w0 : World} {h : AH} {e : Nat} {ad : Addr} {n c : Nat} {xs : List Value} (hs : Sl w0 h e (some ad) n c xs) {j : Nat} {x : Value} (hj : xs[j]? = some x) : cellA w0 h (ad.add j) = some x := by
  obtain ⟨_, _, h2, h3, h4, h5⟩ := hs
  have had : ad = ⟨ad.block, 0, none⟩ := by cases ad; simp_all
  rw [had, add_plain]
  simp only [cellA]
  rw [if_neg (by omega), h5]
  simpa using hj

/-- Readable cells behind a slice's address, in whatever memory. -/
def Rd (w0 : World) (h : AH) (a : Option Addr) (xs : List Value) : Prop := ∀ j x, xs[j]? = some x → ∃ ad, a = some ad ∧ cellA w0 h (ad.add j) = some x
theorem Sl.rd {w0 : World} {h : AH} {e : Nat} {a : Option Addr} {n c : Nat} {xs : List Value} (hs : Sl w0 h e a n c xs) : Rd w0 h a xs := fun j x hj => by
  cases a with
  | none =>
    obtain ⟨hx, _, rfl, _⟩ := hs
    have : xs = [] := List.eq_nil_of_length_eq_zero (by simpa using hx)
    subst this; simp at hj
  | some ad => exact ⟨ad, rfl, hs.cell hj⟩

/-- Cells of the world in which the law began: readable whatever is known of newer blocks. -/
def Rd0 (w0 : World) (a : Option Addr) (xs : List Value) : Prop := ∀ j x, xs[j]? = some x → ∃ ad, a = some ad ∧ ad.block < w0.heap.size ∧ w0.cell? (ad.add j) = some x
theorem Rd0.rd {w0 : World} {a : Option Addr} {xs : List Value} (hr : Rd0 w0 a xs) (h : AH) : Rd w0 h a xs := fun j x hj => by
  obtain ⟨ad, e, hb, hc⟩ := hr j x hj
  refine ⟨ad, e, ?_⟩
  have : (ad.add j).block = ad.block := by unfold Addr.add; split <;> rfl
  simp only [cellA]
  rw [if_pos (by rw [this]; exact hb)]; exact hc

/-- Readable, and so in all that is to come. -/
def Rs (w0 : World) (h : AH) (a : Option Addr) (xs : List Value) : Prop := ∀ h', Ext h h' none → Rd w0 h' a xs
theorem Rd0.rs {w0 : World} {a : Option Addr} {xs : List Value} (hr : Rd0 w0 a xs) (h : AH) : Rs w0 h a xs := fun h' _ => hr.rd h'
theorem Sl.ext {w0 : World} {h h' : AH} {e : Nat} {a : Option Addr} {n c : Nat} {xs : List Value} (hs : Sl w0 h e a n c xs) (hx : Ext h h' none) : Sl w0 h' e a n c xs := by
  obtain ⟨h1, h2, h3⟩ := hs
  refine ⟨h1, h2, ?_⟩
  cases a with
  | none => exact h3
  | some ad =>
    obtain ⟨g1, g2, g3, g4⟩ := h3
    exact ⟨g1, g2, g3, hx _ _ g4 (fun _ e => by cases e) rfl⟩
theorem Sl.rs {w0 : World} {h : AH} {e : Nat} {a : Option Addr} {n c : Nat} {xs : List Value} (hs : Sl w0 h e a n c xs) : Rs w0 h a xs := fun _ hx => (hs.ext hx).rd
theorem Rs.ext {w0 : World} {h h' : AH} {a : Option Addr} {xs : List Value} (hr : Rs w0 h a xs) (hx : Ext h h' none) : Rs w0 h' a xs := fun h2 hx2 => hr h2 (hx.trans hx2)
theorem Rs.rd {w0 : World} {h : AH} {a : Option Addr} {xs : List Value} (hr : Rs w0 h a xs) : Rd w0 h a xs := hr h (Ext.refl _ _)
/-- A new row that is a literal. -/
theorem Sl.lit {w0 : World} {h : AH} {b n e : Nat} {xs : List Value} (hb : w0.heap.size ≤ b) (hl : xs.length = n * e) : Sl w0 (h.put b (.cells xs (n * e))) e (some ⟨b, 0, none⟩) n n xs :=
  ⟨hl, Nat.le_refl _, rfl, rfl, hb, put_same _ _ _⟩
/-- A slice whose block is newer than what h knows. -/
def New (h : AH) (a : Option Addr) : Prop := ∀ ad, a = some ad → ∀ o, h ad.block = some o → o.plain = true → False
theorem New.none {h : AH} : New h none := fun _ e => by cases e
theorem New.of {h : AH} {a : Option Addr} (hn : ∀ ad, a = some ad → h ad.block = Option.none) : New h a := fun ad e o ho _ => by rw [hn ad e] at ho; cases ho
theorem Ext.past {h0 h h' : AH} {a : Option Addr} (hx : Ext h0 h none) (hn : New h0 a) (hy : Ext h h' a) : Ext h0 h' none := fun i o hi hne p => hy i o (hx i o hi hne p) (fun ad e q => hn ad e o (by rw [← q]; exact hi) p) p
theorem New.grown {h0 h : AH} {a a' : Option Addr} (hx : Ext h0 h Option.none) (hn : New h0 a) (hg : a' = a ∨ ∃ ad, a' = some ad ∧ h ad.block = Option.none) : New h0 a' := fun ad e o ho p => by
  rcases hg with rfl | ⟨ad', rfl, hb⟩
  · exact hn ad e o ho p
  · injection e with e
    subst e
    have := hx _ _ ho (fun _ e => by cases e) p
    rw [hb] at this; cases this
theorem New.old {h0 h : AH} {a : Option Addr} (hn : New h a) (hx : Ext h0 h Option.none) : New h0 a := fun ad e o ho p => hn ad e o (hx _ _ ho (fun _ e => by cases e) p) p
/-- A map that is written: all else stays, but for iterators. -/
theorem putm_old {h : AH} {b i : Nat} {o : AB} {es : List (Value × Value)} (hi : h i = some o) (hne : i ≠ b) (p : o.plain = true) : (h.putm b es) i = some o := by
  unfold AH.putm
  rw [put_other _ _ hne]
  unfold AH.noIt
  rw [hi]
  cases o <;> first | rfl | cases p
theorem putm_same (h : AH) (b : Nat) (es : List (Value × Value)) : (h.putm b es) b = some (.map es) := put_same _ _ _

theorem wrap64 {x : Int} (h1 : -9223372036854775808 ≤ x) (h2 : x ≤ 9223372036854775807) : IntKind.i64.wrap x = x := by
  rw [IntKind.wrap_i64]; omega

theorem brB_of {t : Bool} {A B : Prop} (h1 : t = true → A) (h2 : t = false → B) : brB t A B := (brB_iff _ _ _).2 ⟨h1, h2⟩

/-- From the evaluator's word to a law's row. -/
theorem law_holds {P : Program} (hm : P.follows .mixedOrders = true) {W : World} {g : FuncId} {args : Array Value} (hev : EvC P W g args (fun x _ => x = .bool true) fun _ => none) :
    Calls P g args W fun e W' => e = .returned (.bool true) ∧ Below W.heap.size W W' :=
  (EvC_sound hm _ _ _ _ hev W ⟨Below.refl _ _, (fun b o hb => by cases hb), (fun i m left cur hi => by cases hi)⟩).mono fun e W' h => by
    obtain ⟨x, h', rfl, r, _, rfl⟩ := h
    exact ⟨rfl, r.below⟩

theorem block_of_cell {W : World} {a : Addr} {x : Value} (h : W.cell? a = some x) : a.block < W.heap.size := by
  unfold World.cell? at h
  split at h
  · rename_i hb
    exact (Array.getElem?_eq_some_iff.1 hb).1
  · cases h

/-- A row of numbers of the world in which the law begins. -/
theorem Rd0.row {W : World} {a : Option Addr} {k : IntKind} {zs : List Int} {n : Nat} (h : ∀ x, a = some x → ∀ i, i < zs.length → W.cell? (x.add i) = some (.int k (zs.getD i 0))) (hn : a = none → zs = []) :
    Rd0 W a ((zs.take n).map (.int k)) := fun j x hj => by
  rw [List.getElem?_map] at hj
  cases hq : (zs.take n)[j]? with
  | none => rw [hq] at hj; cases hj
  | some z =>
    rw [hq] at hj
    simp only [Option.map_some, Option.some.injEq] at hj
    subst hj
    rw [List.getElem?_take] at hq
    split at hq
    · have hl := (List.getElem?_eq_some_iff.1 hq).1
      cases a with
      | none => have := hn rfl; subst this; simp at hq
      | some ad =>
        have hc := h ad rfl j hl
        have hz : zs.getD j 0 = z := by rw [List.getD_eq_getElem?_getD, hq]; rfl
        rw [hz] at hc
        have hb := block_of_cell hc
        have : (ad.add j).block = ad.block := by unfold Addr.add; split <;> rfl
        exact ⟨ad, rfl, by rw [← this]; exact hb, hc⟩
    · cases hq
end Go.G
