/- Filters' specs. -/
import Derived.Test.YtnmngjffebbbnaaDoorTI0
import Derived.Test.YtnmngjffebbbnaaDoorProg
set_option maxRecDepth 100000
namespace Go.G.YtnmngjffebbbnaaDoor
open Go.RowKit
open Value (string slice int bool agg)
theorem splitL_le : ∀ (l : List UInt8), ∀ x ∈ splitL l, x.length ≤ l.length
  | [], x, hx => by simp [splitL] at hx; subst hx; simp
  | b :: r, x, hx => by
    have ih := splitL_le r
    unfold splitL at hx
    split at hx
    · rcases List.mem_cons.1 hx with rfl | hx
      · simp
      · have := ih x hx; simp; omega
    · split at hx
      · rename_i y q e
        rw [e] at ih
        rcases List.mem_cons.1 hx with rfl | hx
        · have := ih y (List.mem_cons_self ..); simp; omega
        · have := ih x (List.mem_cons_of_mem _ hx); simp; omega
      · simp at hx; subst hx; simp
theorem levS_le {s x : ByteArray} (hx : x ∈ levS s) : x.size ≤ s.size := by
  obtain ⟨y, hy, rfl⟩ := List.mem_map.1 hx
  have := splitL_le _ y hy
  rw [slen] at this
  exact this
/-- A string of a row is loaded. -/
theorem strLoad {w0 : World} {h : AH} {a : Option Addr} {L : List ByteArray} {i : Nat} {x : ByteArray} (hr : Rd w0 h a (strs L)) (hi : L[i]? = some x) : ∃ ad, a = some ad ∧ cellA w0 h (ad.add i) = some (.string x) := hr i _ (by simp [strs, hi])
theorem strs_cut {w0 : World} {h : AH} {a : Option Addr} {x : ByteArray} {L : List ByteArray} {c : Nat} (hr : Rd w0 h a (strs (x :: L))) (hc : (x :: L).length ≤ c) : Rd w0 h (cutA 1 a c 1) (strs L) := by
  have e : strs (x :: L) = [.string x] ++ strs L := rfl
  rw [e] at hr
  refine hr.cut rfl fun hne e => ?_
  have : L = [] := by
    cases L with
    | nil => rfl
    | cons y L => simp at hc; omega
  subst this; exact hne rfl

/-- sign. -/
theorem f52_spec {w0 : World} {K : Value → AH → Prop} {h : AH} {s : ByteArray} (hs : s.size ≤ 1000000000000000) (hk : K (.bool (signB s)) h) : EvC Go.Proofs.Tryd.prog w0 52 #[.string s] K h := by
  have hl := slen s
  have loop : ∀ (k i : Nat), i + k = s.size → ((s.data.toList.drop i).any fun b => b == 43 || b == 35) = signB s → f52_2 w0 K s ((s.size : Nat) : Int) ((i : Nat) : Int) h := by
    intro k
    induction k with
    | zero =>
      intro i hi he
      refine f52_2_in _ _ _ _ (brB_of (fun q => by have := of_decide_eq_true q; omega) fun _ => ?_)
      rw [List.drop_eq_nil_of_le (by omega)] at he
      rw [← he] at hk; exact hk
    | succ k ih =>
      intro i hi he
      have hil : i < s.data.toList.length := by omega
      have hget : s.data[i]? = some s.data.toList[i] := by simp
      have hb2 : byteAt s ((i : Nat) : Int).toNat = ((s.data.toList[i]).toNat : Int) := by
        unfold byteAt
        rw [Int.toNat_natCast, hget]
      rw [List.drop_eq_getElem_cons hil, List.any_cons] at he
      generalize hx : s.data.toList[i] = x at hb2 he
      have step : ∀ t, t = (x == 43 || x == 35) → f52_5 w0 K s ((s.size : Nat) : Int) ((i : Nat) : Int) t h := fun t ht => by
        refine f52_5_in _ _ _ _ _ (brB_of (fun q => ?_) fun q => ?_)
        · rw [← ht, q, Bool.true_or] at he
          rw [← he] at hk; exact hk
        · rw [← ht, q, Bool.false_or] at he
          rw [wrapS (by omega)]
          exact ih (i + 1) (by omega) he
      refine f52_2_in _ _ _ _ (brB_of (fun _ => ⟨by omega, by omega, ?_⟩) fun q => absurd (of_decide_eq_false q) (by omega))
      rw [hb2, c_eq (k := 43) (m := 43) rfl]
      refine brB_of (fun q => step _ (by rw [q]; rfl)) fun q => ⟨by omega, by omega, step _ ?_⟩
      rw [c_eq (k := 35) (m := 35) rfl, q]; rfl
  exact f52_go _ _ (loop s.size 0 (by omega) rfl)

/-- topic.Name. -/
theorem f28_spec {w0 : World} {K : Value → AH → Prop} {h : AH} {B : List (Nat × AB)} {s : ByteArray} (T : TabOk w0) (w : Own w0 h B) (hk : ∀ h', Own w0 h' B → K (.bool (nameB s)) h') : EvC Go.Proofs.Tryd.prog w0 28 #[.string s] K h := by
  unfold nameB at hk
  refine f28_go _ _ (f36_spec (most := 64) T w fun h1 w1 => ⟨_, rfl, brB_of (fun q => ?_) fun q => ?_⟩)
  · have hsz : s.size ≤ 64 := by simp only [sizedB, Bool.and_eq_true, decide_eq_true_eq] at q; omega
    refine f43_spec (by omega) w1 fun h2 w2 => ⟨_, rfl, ?_⟩
    rw [q] at hk; exact hk h2 w2
  · rw [q] at hk; exact hk h1 w1
/-- topic.Client. -/
theorem f17_spec {w0 : World} {K : Value → AH → Prop} {h : AH} {B : List (Nat × AB)} {s : ByteArray} (T : TabOk w0) (w : Own w0 h B) (hk : ∀ h', Own w0 h' B → K (.bool (clientB s)) h') : EvC Go.Proofs.Tryd.prog w0 17 #[.string s] K h :=
  f17_go _ _ (f36_spec (most := 32) T w fun h1 w1 => ⟨_, rfl, hk h1 w1⟩)
/-- topic.Filter. -/
theorem f26_spec {w0 : World} {K : Value → AH → Prop} {h : AH} {B : List (Nat × AB)} {s : ByteArray} (T : TabOk w0) (w : Own w0 h B) (hk : ∀ h', Own w0 h' B → K (.bool (filterB s)) h') : EvC Go.Proofs.Tryd.prog w0 26 #[.string s] K h := by
  unfold filterB at hk
  refine f26_go _ _ (f36_spec (most := 64) T w fun h1 w1 => ⟨_, rfl, brB_of (fun q => ?_) fun q => ?_⟩)
  · have q' : sizedB s 64 = false := by simpa using q
    rw [q'] at hk; exact hk h1 w1
  have q' : sizedB s 64 = true := by simpa using q
  have hsz : s.size ≤ 64 := by simp only [sizedB, Bool.and_eq_true, decide_eq_true_eq] at q'; omega
  rw [q'] at hk
  refine f27_spec (by omega) w1 fun h2 a c v w2 => ⟨_, _, _, rfl, ?_⟩
  have hpc : ∀ x ∈ levS s, x.size ≤ 64 := fun x hx => Nat.le_trans (levS_le hx) hsz
  have hlen : (levS s).length ≤ 65 := by
    unfold levS; rw [List.length_map, splitL_length]
    have := List.count_le_length (a := (47 : UInt8)) (l := s.data.toList)
    rw [slen] at this; omega
  generalize levS s = L at *
  have loop : ∀ (k i : Nat) (h3 : AH), i + k = L.length → okLevs L.length i (L.drop i) = okLevs L.length 0 L → Own w0 h3 (slB a (strs L) (c * 1) ++ B) → f26_5 w0 K a L.length c a L.length c ((L.length : Nat) : Int) ((i : Nat) : Int) h3 := by
    intro k
    induction k with
    | zero =>
      intro i h3 hi he w3
      refine f26_5_in _ _ _ _ _ _ _ _ _ (brB_of (fun q => by have := of_decide_eq_true q; omega) fun _ => ?_)
      rw [List.drop_eq_nil_of_le (by omega)] at he
      rw [← he] at hk
      exact hk h3 w3.drop
    | succ k ih =>
      intro i h3 hi he w3
      have hil : i < L.length := by omega
      have hget := List.getElem?_eq_getElem hil
      have hxs := hpc _ (List.getElem_mem hil)
      rw [List.drop_eq_getElem_cons hil] at he
      generalize L[i] = x at hget hxs he
      have rd : Rd w0 h3 a (strs L) := v.rd (cs := []) w3
      obtain ⟨ad, ha, hc⟩ := strLoad rd hget
      have next : ∀ h4, Own w0 h4 (slB a (strs L) (c * 1) ++ B) → (decide (x = plusB) || (decide (x = hashB) && decide (i + 1 = L.length)) || !(signB x)) = true → f26_5 w0 K a L.length c a L.length c ((L.length : Nat) : Int) (IntKind.i64.wrap (((i : Nat) : Int) + 1)) h4 := fun h4 w4 ht => by
        rw [wrapS (by omega)]
        refine ih (i + 1) h4 (by omega) ?_ w4
        rw [← he, okLevs, ht]; rfl
      have nine : ∀ t, t = (decide (x = plusB) || (decide (x = hashB) && decide (i + 1 = L.length))) → f26_9 w0 K a L.length c x a L.length c ((L.length : Nat) : Int) ((i : Nat) : Int) t h3 := fun t ht => by
        refine f26_9_in _ _ _ _ _ _ _ _ _ _ _ (brB_of (fun q => next h3 w3 (by rw [← ht, q]; rfl)) fun q => f43_spec (by omega) w3 fun h4 w4 => ⟨_, rfl, brB_of (fun z => ?_) fun z => next h4 w4 (by rw [z]; simp)⟩)
        have : okLevs L.length 0 L = false := by rw [← he, okLevs, ← ht, q, z]; rfl
        rw [this] at hk
        exact hk h4 w4.drop
      refine f26_5_in _ _ _ _ _ _ _ _ _ (brB_of (fun _ => ⟨ad, ha, by omega, by omega, x, ?_, brB_of (fun q => nine _ ?_) fun q => brB_of (fun q2 => nine _ ?_) fun q2 => nine _ ?_⟩) fun q => absurd (of_decide_eq_false q) (by omega))
      · rw [Int.toNat_natCast, Nat.mul_one]; exact hc
      · have : decide (x = plusB) = true := q
        rw [this]; rfl
      · have a1 : decide (x = plusB) = false := q
        have a2 : decide (x = hashB) = true := q2
        rw [a1, a2, Bool.false_or, Bool.true_and, wrap64 (by omega) (by omega), Bool.eq_iff_iff]
        simp; omega
      · have a1 : decide (x = plusB) = false := q
        have a2 : decide (x = hashB) = false := q2
        rw [a1, a2]; rfl
  exact loop L.length 0 h2 (by omega) rfl w2

/-! the document's -/
theorem text_go {w0 : World} {h : AH} {B : List (Nat × AB)} {s : ByteArray} {K : Value → AH → Prop} (w : Own w0 h B) (hk : ∀ h', Own w0 h' B → K (.bool (textB s.data.toList)) h') :
    ∀ n'0 : Nat, s.size ≤ n'0 → newB w0 h (AB.cells (intsOf s) n'0) fun b'1 h'2 => EvC Go.Proofs.Tryd.prog w0 50 #[.slice (some (Addr.mk b'1 0 none)) s.size n'0] K h'2 := fun cap hcap b hb hn => by
  have w1 := w.new hb hn (o := .cells (intsOf s) cap)
  rw [← slen s]
  exact f50_spec (lit_rd w1 hcap) (by rw [slen]; exact hcap) (hk _ w1.tail)
theorem sized_of {s : ByteArray} {most : Nat} (h1 : 1 ≤ s.size) (h2 : s.size ≤ most) : sizedB s most = textB s.data.toList := by simp [sizedB, h1, h2]
theorem sized_small {s : ByteArray} {most : Nat} (h1 : ¬ 1 ≤ s.size) : sizedB s most = false := by unfold sizedB; simp; omega
theorem sized_great {s : ByteArray} {most : Nat} (h1 : ¬ s.size ≤ most) : sizedB s most = false := by unfold sizedB; simp; omega
/-- Name. -/
theorem f53_spec {w0 : World} {K : Value → AH → Prop} {h : AH} {B : List (Nat × AB)} {s : ByteArray} (w : Own w0 h B) (hk : ∀ h', Own w0 h' B → K (.bool (nameB s)) h') : EvC Go.Proofs.Tryd.prog w0 53 #[.string s] K h := by
  unfold nameB at hk
  refine f53_go _ _ (brB_of (fun q1 => brB_of (fun q2 => text_go w fun h1 w1 => ⟨_, rfl, brB_of (fun q => ?_) fun q => ?_⟩) fun q2 => ?_) fun q1 => ?_)
  · have a1 : 1 ≤ s.size := by have := of_decide_eq_true q1; omega
    have a2 : s.size ≤ 64 := by have := of_decide_eq_true q2; omega
    rw [sized_of a1 a2, q] at hk
    exact f52_spec (by omega) ⟨_, rfl, hk h1 w1⟩
  · have a1 : 1 ≤ s.size := by have := of_decide_eq_true q1; omega
    have a2 : s.size ≤ 64 := by have := of_decide_eq_true q2; omega
    rw [sized_of a1 a2, q] at hk
    exact hk h1 w1
  · rw [sized_great (by have := of_decide_eq_false q2; omega)] at hk
    exact hk h w
  · rw [sized_small (by have := of_decide_eq_false q1; omega)] at hk
    exact hk h w
/-- Client. -/
theorem f38_spec {w0 : World} {K : Value → AH → Prop} {h : AH} {B : List (Nat × AB)} {s : ByteArray} (w : Own w0 h B) (hk : ∀ h', Own w0 h' B → K (.bool (clientB s)) h') : EvC Go.Proofs.Tryd.prog w0 38 #[.string s] K h := by
  unfold clientB at hk
  refine f38_go _ _ (brB_of (fun q1 => brB_of (fun q2 => text_go w fun h1 w1 => ⟨_, rfl, ?_⟩) fun q2 => ?_) fun q1 => ?_)
  · have a1 : 1 ≤ s.size := by have := of_decide_eq_true q1; omega
    have a2 : s.size ≤ 32 := by have := of_decide_eq_true q2; omega
    rw [sized_of a1 a2] at hk
    exact hk h1 w1
  · rw [sized_great (by have := of_decide_eq_false q2; omega)] at hk
    exact hk h w
  · rw [sized_small (by have := of_decide_eq_false q1; omega)] at hk
    exact hk h w
/-- Filter. -/
theorem f37_spec {w0 : World} {K : Value → AH → Prop} {h : AH} {B : List (Nat × AB)} {s : ByteArray} (w : Own w0 h B) (hk : ∀ h', Own w0 h' B → K (.bool (filterB s)) h') : EvC Go.Proofs.Tryd.prog w0 37 #[.string s] K h := by
  have no : ∀ h1, Own w0 h1 B → sizedB s 64 = false → f37_2 w0 K s true h1 := fun h1 w1 e => by
    have : filterB s = false := by unfold filterB; rw [e]; rfl
    rw [this] at hk
    exact f37_2_in _ _ _ (brB_of (fun _ => hk h1 w1) fun q => by cases q)
  refine f37_go _ _ (brB_of (fun q1 => no h w (sized_small (by have := of_decide_eq_true q1; omega))) fun q1 => brB_of (fun q2 => no h w (sized_great (by have := of_decide_eq_true q2; omega))) fun q2 => text_go w fun h1 w1 => ⟨_, rfl, ?_⟩)
  have a1 : 1 ≤ s.size := by have := of_decide_eq_false q1; omega
  have hsz : s.size ≤ 64 := by have := of_decide_eq_false q2; omega
  have es := sized_of a1 hsz
  cases ht : textB s.data.toList with
  | false => exact no h1 w1 (by rw [es, ht])
  | true =>
    rw [ht] at es
    unfold filterB at hk
    rw [es] at hk
    refine f37_2_in _ _ _ (brB_of (fun q => by cases q) fun _ => f37_3_in _ _ (f51_spec (by omega) w1 fun h2 a c v w2 => ⟨_, _, _, rfl, ?_⟩))
    have hpc : ∀ x ∈ levS s, x.size ≤ 64 := fun x hx => Nat.le_trans (levS_le hx) hsz
    have hlen : (levS s).length ≤ 65 := by
      unfold levS; rw [List.length_map, splitL_length]
      have := List.count_le_length (a := (47 : UInt8)) (l := s.data.toList)
      rw [slen] at this; omega
    have rd : Rd w0 h2 a (strs (levS s)) := v.rd (cs := []) w2
    generalize levS s = L at *
    have loop : ∀ (k i : Nat), i + k = L.length → okLevs L.length i (L.drop i) = okLevs L.length 0 L → f37_5 w0 K a L.length c a L.length c ((L.length : Nat) : Int) ((i : Nat) : Int) h2 := by
      intro k
      induction k with
      | zero =>
        intro i hi he
        refine f37_5_in _ _ _ _ _ _ _ _ _ (brB_of (fun q => by have := of_decide_eq_true q; omega) fun _ => ?_)
        rw [List.drop_eq_nil_of_le (by omega)] at he
        rw [← he] at hk
        exact hk h2 w2.drop
      | succ k ih =>
        intro i hi he
        have hil : i < L.length := by omega
        have hget := List.getElem?_eq_getElem hil
        have hxs := hpc _ (List.getElem_mem hil)
        rw [List.drop_eq_getElem_cons hil] at he
        generalize L[i] = x at hget hxs he
        obtain ⟨ad, ha, hc⟩ := strLoad rd hget
        have eight : ∀ t, t = !(decide (x = plusB) || (decide (x = hashB) && decide (i + 1 = L.length)) || !(signB x)) → f37_8 w0 K a L.length c a L.length c ((L.length : Nat) : Int) ((i : Nat) : Int) t h2 := fun t ht => by
          refine f37_8_in _ _ _ _ _ _ _ _ _ _ (brB_of (fun q => ?_) fun q => ?_)
          · have : okLevs L.length 0 L = false := by rw [← he, okLevs]; rw [q] at ht; rw [show (decide (x = plusB) || (decide (x = hashB) && decide (i + 1 = L.length)) || !(signB x)) = false by rw [← Bool.not_not (_ || _), ← ht]; rfl]; rfl
            rw [this] at hk
            exact hk h2 w2.drop
          · rw [wrapS (by omega)]
            refine ih (i + 1) (by omega) ?_
            rw [← he, okLevs]
            rw [q] at ht
            rw [show (decide (x = plusB) || (decide (x = hashB) && decide (i + 1 = L.length)) || !(signB x)) = true by rw [← Bool.not_not (_ || _), ← ht]; rfl]; rfl
        refine f37_5_in _ _ _ _ _ _ _ _ _ (brB_of (fun _ => ⟨ad, ha, by omega, by omega, x, ?_, f52_spec (by omega) ⟨_, rfl, brB_of (fun q => brB_of (fun q2 => brB_of (fun q3 => eight _ ?_) fun q3 => eight _ ?_) fun q2 => eight _ ?_) fun q => eight _ ?_⟩⟩) fun q => absurd (of_decide_eq_false q) (by omega))
        · rw [Int.toNat_natCast, Nat.mul_one]; exact hc
        · have b1 : decide (x = plusB) = false := by
            have : (!decide (x = plusB)) = true := q2
            simpa using this
          have b2 : decide (x = hashB) = false := by
            have : (!decide (x = hashB)) = true := q3
            simpa using this
          rw [b1, b2, q]; rfl
        · have b1 : decide (x = plusB) = false := by
            have : (!decide (x = plusB)) = true := q2
            simpa using this
          have b2 : decide (x = hashB) = true := by
            have : (!decide (x = hashB)) = false := q3
            simpa using this
          rw [b1, b2, q, wrap64 (by omega) (by omega), Bool.eq_iff_iff]
          simp; omega
        · have b1 : decide (x = plusB) = true := by
            have : (!decide (x = plusB)) = false := q2
            simpa using this
          rw [b1]; rfl
        · rw [q]; simp
    exact loop L.length 0 (by omega) rfl
end Go.G.YtnmngjffebbbnaaDoor
