/- What a law's argument is, from the contract: cells of its type, all the way down, readable in the world in which the law begins, and no greater than a machine's memory. -/
import Derived.Test.YtpjklfmfgmicaaaGLib
import Derived.ChangeArms
import Derived.OpenShut
import Derived.Deep.Slices
import Derived.SizedLaws
namespace Go.G
open Go.RowKit

/-- These cells hold a value of the type, n levels down, in this world. -/
def OkT (P : Program) (W : World) : Nat → TypeId → List Value → Prop
  | 0, _, _ => True
  | n + 1, t, cs => match P.underlying t with
    | some .bool => ∃ b, cs = [.bool b]
    | some (.int k) => ∃ x, cs = [.int k x] ∧ (Lit.int k x).wf = true
    | some .string => ∃ s : ByteArray, cs = [.string s] ∧ s.size ≤ 140737488351232
    | some (.slice e) => ∃ (a : Option Addr) (len cap : Nat), cs = [.slice a len cap] ∧ len ≤ cap ∧ cap ≤ maxLen ∧ cap * P.bytesOf e ≤ 140737488351232 ∧ (a = none → cap = 0) ∧
        ∀ i, i < cap → ∃ ys, ys.length = P.cellsOf e ∧ (∀ ad, a = some ad → ∀ j y, ys[j]? = some y → W.cell? (ad.add (i * P.cellsOf e + j)) = some y) ∧ OkT P W n e ys
    | some (.struct fs) => cs.length = P.cellsOf t ∧ ∀ (i : Nat) (f : Field), fs[i]? = some f → OkT P W n f.type ((cs.drop f.offset).take (P.cellsOf f.type))
    | some (.array m e) => cs.length = P.cellsOf t ∧ ∀ i, i < m → OkT P W n e ((cs.drop (i * P.cellsOf e)).take (P.cellsOf e))
    | _ => True

theorem weights_all {H : Type} {P : Program} {e : TypeId} : ∀ {ds : List (DataW H)} {i : Nat} {d : DataW H}, ds[i]? = some d → ∀ n ∈ d.weights P e, n ∈ DataW.weightsAll P e ds
  | [], _, _, hd, _, _ => by simp at hd
  | d0 :: ds, 0, d, hd, n, hn => by
    simp only [List.getElem?_cons_zero, Option.some.injEq] at hd
    subst hd
    simp only [DataW.weightsAll, List.mem_append]
    exact .inl hn
  | d0 :: ds, i + 1, d, hd, n, hn => by
    simp only [List.getElem?_cons_succ] at hd
    simp only [DataW.weightsAll, List.mem_append]
    exact .inr (weights_all hd n hn)

theorem okT_of_trod {H : Type} {enc : TypeId × Value → H} {P : Program} {W : World} {base : Nat} {held : Bool} : ∀ (n fuel : Nat) (t : TypeId) (cs : List Value) (x : DataW H × List MemPlace),
    DataW.trod enc P W base (fun _ => true) held fuel t cs = some x → (∀ n ∈ x.1.weights P t, n ≤ 140737488351232) → OkT P W n t cs
  | 0, _, _, _, _, _, _ => trivial
  | n + 1, fuel, t, cs, x, h, hw => by
    unfold OkT
    split
    · rename_i hu
      obtain ⟨b, rfl, _⟩ := DataW.trod_bool hu h
      exact ⟨b, rfl⟩
    · rename_i k hu
      obtain ⟨z, rfl, _, hw⟩ := DataW.trod_int hu h
      exact ⟨z, rfl, hw⟩
    · rename_i hu
      obtain ⟨s, rfl, rfl, hs⟩ := DataW.trod_string hu h
      exact ⟨s, rfl, by simpa [DataW.weights] using hw⟩
    · rename_i e hu
      rcases DataW.trod_slice hu h with ⟨rfl, _⟩ | ⟨a, len, cap, elems, rest, m, _, rfl, rfl, _, hl, hm, hlen, hel, hsp, _⟩
      · exact ⟨none, 0, 0, rfl, Nat.le_refl _, by simp, by simp, fun _ => rfl, fun i hi => by omega⟩
      · obtain ⟨hrl, hr⟩ := hsp rfl
        have hcapw := hw ((elems.length + rest.length) * P.bytesOf e) (by simp [DataW.weights, hu])
        rw [show elems.length + rest.length = cap by omega] at hcapw
        refine ⟨some a, len, cap, rfl, hl, hm, hcapw, (fun h => by cases h), fun i hi => ?_⟩
        have hb : ∃ y, (W.cells? base (a.add (i * P.cellsOf e)) (P.cellsOf e)).bind (DataW.trod enc P W base (fun _ => true) held m e) = some y ∧ ∀ k ∈ y.1.weights P e, k ≤ 140737488351232 := by
          by_cases hi' : i < len
          · have hg : elems[i]? = some elems[i] := List.getElem?_eq_getElem (by omega)
            refine ⟨_, (hel i hi').trans hg, fun k hk => hw k ?_⟩
            simp only [DataW.weights, hu, List.mem_cons, List.mem_append]
            exact .inr (.inl (weights_all (i := i) (by rw [List.getElem?_map, hg]; rfl) k hk))
          · have := hr (i - len) (by omega)
            rw [show len + (i - len) = i by omega] at this
            have hg : rest[i - len]? = some rest[i - len] := List.getElem?_eq_getElem (by omega)
            refine ⟨_, this.trans hg, fun k hk => hw k ?_⟩
            simp only [DataW.weights, hu, List.mem_cons, List.mem_append]
            exact .inr (.inr (weights_all (i := i - len) (by rw [List.getElem?_map, hg]; rfl) k hk))
        obtain ⟨y, hy, hyw⟩ := hb
        rw [Option.bind_eq_some_iff] at hy
        obtain ⟨ys, hys, ht⟩ := hy
        obtain ⟨_, h2, h3⟩ := World.cells?_some hys
        refine ⟨ys, h2, fun ad had j v hj => ?_, okT_of_trod n m e ys y ht hyw⟩
        injection had with had
        subst had
        have hlt := (List.getElem?_eq_some_iff.1 hj).1
        have := h3 j (by omega)
        rw [Deep.add_add] at this
        rw [this, hj]
    · rename_i fs hu
      obtain ⟨xs, m, _, rfl, hc, hx, hf⟩ := DataW.trod_struct hu h
      refine ⟨hc, fun i f hi => ?_⟩
      have hlt : i < xs.length := by
        have := (Array.getElem?_eq_some_iff.1 hi).1
        omega
      have hg : xs[i]? = some xs[i] := List.getElem?_eq_getElem hlt
      refine okT_of_trod n m f.type _ _ ((hf i f hi).trans hg) fun k hk => hw k ?_
      simp only [DataW.weights, hu]
      exact DataW.weights_mem_each (j := i) (by rw [List.getElem?_map, Array.getElem?_toList, hi]; rfl) (by rw [List.getElem?_map, hg]; rfl) k hk
    · rename_i m e hu
      obtain ⟨xs, q, _, rfl, hc, hx, hf⟩ := DataW.trod_array hu h
      refine ⟨hc, fun i hi => ?_⟩
      have hg : xs[i]? = some xs[i] := List.getElem?_eq_getElem (by omega)
      refine okT_of_trod n q e _ _ ((hf i hi).trans hg) fun k hk => hw k ?_
      simp only [DataW.weights, hu]
      exact weights_all (i := i) (by rw [List.getElem?_map, hg]; rfl) k hk
    · trivial

theorem okT_arg {H : Type} {enc : TypeId × Value → H} {P : Program} {W : World} {base : Nat} {held : Bool} (n : Nat) {t : TypeId} {v : Value} {d : DataW H} {ps : List MemPlace} {ts : List TypeId} {ds : List (DataW H)} {j : Nat}
    (h : DataW.Trod enc P W base (fun _ => true) held t v d ps) (hsz : (DataW.weightsEach P ts ds).all (· ≤ reachBytes) = true) (ht : ts[j]? = some t) (hd : ds[j]? = some d) : OkT P W n t v.cells.toList := by
  obtain ⟨fuel, hf⟩ := h
  refine okT_of_trod n fuel t _ _ hf fun k hk => ?_
  have := List.all_eq_true.1 hsz k (DataW.weights_mem_each ht hd k hk)
  exact of_decide_eq_true this

/-- A field's type and place. -/
def fieldAt (P : Program) (t : TypeId) (i : Nat) : Option (TypeId × Nat) := match P.underlying t with
  | some (.struct fs) => fs[i]?.map fun f => (f.type, f.offset)
  | _ => none
theorem OkT.field {P : Program} {W : World} {n : Nat} {t ty : TypeId} {cs : List Value} {i off k : Nat} (h : OkT P W (n + 1) t cs) (hf : fieldAt P t i = some (ty, off)) (hc : P.cellsOf ty = k) : OkT P W n ty ((cs.drop off).take k) := by
  unfold fieldAt at hf
  unfold OkT at h
  split at hf
  · rename_i fs hu
    rw [hu] at h
    cases hi : fs[i]? with
    | none => rw [hi] at hf; cases hf
    | some f =>
      rw [hi] at hf
      simp only [Option.map_some, Option.some.injEq, Prod.mk.injEq] at hf
      obtain ⟨rfl, rfl⟩ := hf
      rw [← hc]
      exact h.2 i f hi
  · cases hf
theorem OkT.cells {P : Program} {W : World} {n : Nat} {t : TypeId} {cs : List Value} {k : Nat} (h : OkT P W (n + 1) t cs) (hf : (fieldAt P t 0).isSome = true) (hc : P.cellsOf t = k) : cs.length = k := by
  unfold fieldAt at hf
  unfold OkT at h
  split at hf
  · rename_i fs hu
    rw [hu] at h
    rw [← hc]; exact h.1
  · cases hf
theorem OkT.int {P : Program} {W : World} {n : Nat} {t : TypeId} {cs : List Value} {k : IntKind} (h : OkT P W (n + 1) t cs) (hu : P.underlying t = some (.int k)) : ∃ x, cs = [.int k x] ∧ (Lit.int k x).wf = true := by
  unfold OkT at h
  rw [hu] at h; exact h
theorem OkT.bool {P : Program} {W : World} {n : Nat} {t : TypeId} {cs : List Value} (h : OkT P W (n + 1) t cs) (hu : P.underlying t = some .bool) : ∃ b, cs = [.bool b] := by
  unfold OkT at h
  rw [hu] at h; exact h
theorem OkT.string {P : Program} {W : World} {n : Nat} {t : TypeId} {cs : List Value} (h : OkT P W (n + 1) t cs) (hu : P.underlying t = some .string) : ∃ s : ByteArray, cs = [.string s] ∧ s.size ≤ 140737488351232 := by
  unfold OkT at h
  rw [hu] at h; exact h

theorem list_of {α : Type} {Q : Nat → α → Prop} : ∀ {n : Nat}, (∀ i, i < n → ∃ x, Q i x) → ∃ l : List α, l.length = n ∧ ∀ i x, l[i]? = some x → Q i x
  | 0, _ => ⟨[], rfl, fun i x h => by simp at h⟩
  | n + 1, h => by
    obtain ⟨l, hl, hq⟩ := list_of (n := n) (Q := Q) fun i hi => h i (by omega)
    obtain ⟨y, hy⟩ := h n (by omega)
    refine ⟨l ++ [y], by simp [hl], fun i x hx => ?_⟩
    by_cases hi : i < l.length
    · rw [List.getElem?_append_left hi] at hx; exact hq i x hx
    · rw [List.getElem?_append_right (by omega)] at hx
      have : i - l.length = 0 := by
        have := (List.getElem?_eq_some_iff.1 hx).1
        simp at this; omega
      rw [this] at hx
      have hi' : i = n := by omega
      subst hi'
      simp at hx
      subst hx; exact hy

/-- A slice: its elements, each with what is known of it. -/
theorem OkT.slice {P : Program} {W : World} {n : Nat} {t e : TypeId} {cs : List Value} {k : Nat} (h : OkT P W (n + 1) t cs) (hu : P.underlying t = some (.slice e)) (hc : P.cellsOf e = k) {α : Type} {enc : α → List Value} {Q : α → Prop}
    (henc : ∀ x, (enc x).length = k) (hel : ∀ ys, OkT P W n e ys → ys.length = k → ∃ x, ys = enc x ∧ Q x) :
    ∃ (a : Option Addr) (m c : Nat) (l : List α), cs = [.slice a m c] ∧ m = l.length ∧ m ≤ c ∧ c * P.bytesOf e ≤ 140737488351232 ∧ Rd0 W a (l.flatMap enc) ∧ ∀ x ∈ l, Q x := by
  unfold OkT at h
  rw [hu] at h
  obtain ⟨a, m, c, rfl, hm, _, hb, hn, hi⟩ := h
  rw [hc] at hi
  have : ∃ l : List α, l.length = m ∧ ∀ i x, l[i]? = some x → Q x ∧ ∃ ad, a = some ad ∧ ∀ j y, (enc x)[j]? = some y → W.cell? (ad.add (i * k + j)) = some y := by
    refine list_of fun i him => ?_
    obtain ⟨ys, hys, hcell, hok⟩ := hi i (by omega)
    obtain ⟨x, rfl, hq⟩ := hel ys hok hys
    refine ⟨x, hq, ?_⟩
    cases a with
    | none => have := hn rfl; omega
    | some ad => exact ⟨ad, rfl, hcell ad rfl⟩
  obtain ⟨l, hl, hq⟩ := this
  have flat : ∀ (l : List α) (i : Nat) (v : Value), (l.flatMap enc)[i]? = some v → ∃ q j x, i = q * k + j ∧ l[q]? = some x ∧ (enc x)[j]? = some v := by
    intro l
    induction l with
    | nil => intro i v hv; simp at hv
    | cons x l ih =>
      intro i v hv
      rw [List.flatMap_cons] at hv
      by_cases hlt : i < (enc x).length
      · rw [List.getElem?_append_left hlt] at hv
        exact ⟨0, i, x, by omega, rfl, hv⟩
      · rw [List.getElem?_append_right (by omega), henc] at hv
        obtain ⟨q, j, y, h1, h2, h3⟩ := ih _ _ hv
        have := henc x
        refine ⟨q + 1, j, y, ?_, by simpa using h2, h3⟩
        rw [Nat.add_mul]; omega
  refine ⟨a, m, c, l, rfl, hl.symm, hm, hb, fun i v hv => ?_, fun x hx => ?_⟩
  · obtain ⟨q, j, x, rfl, h2, h3⟩ := flat l i v hv
    obtain ⟨_, ad, had, hcell⟩ := hq q x h2
    have hcl := hcell j v h3
    have hbk := block_of_cell hcl
    have : (ad.add (q * k + j)).block = ad.block := by unfold Addr.add; split <;> rfl
    exact ⟨ad, had, by rw [← this]; exact hbk, hcl⟩
  · obtain ⟨i, hi', hx'⟩ := List.getElem_of_mem hx
    exact (hq i x (by rw [List.getElem?_eq_getElem hi', hx'])).1
end Go.G
