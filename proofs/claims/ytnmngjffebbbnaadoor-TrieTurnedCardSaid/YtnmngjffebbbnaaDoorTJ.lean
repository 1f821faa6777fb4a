/- Matches, Covers: specs. -/
import Derived.Test.YtnmngjffebbbnaaDoorTJ0
import Derived.Test.YtnmngjffebbbnaaDoorProg
set_option maxRecDepth 100000
namespace Go.G.YtnmngjffebbbnaaDoor
open Go.RowKit
open Value (string slice int bool agg)
theorem first_at {s : ByteArray} {k : UInt8} {m : Int} (h : 1 ≤ s.size) (hm : m = (k.toNat : Nat)) : (byteAt s 0 == m) = decide (first s = some k) := by
  obtain ⟨⟨l⟩⟩ := s
  match l, h with
  | [], h => exact absurd h (by decide)
  | b :: r, _ =>
    have e : byteAt ⟨⟨b :: r⟩⟩ 0 = ((b.toNat : Nat) : Int) := rfl
    have e2 : first ⟨⟨b :: r⟩⟩ = some b := rfl
    rw [e, e2, c_eq hm, Bool.eq_iff_iff]; simp
theorem sized_one {s : ByteArray} {most : Nat} (h : sizedB s most = true) : 1 ≤ s.size ∧ s.size ≤ most := by simp only [sizedB, Bool.and_eq_true, decide_eq_true_eq] at h; exact ⟨h.1.1, h.1.2⟩
theorem filter_one {s : ByteArray} (h : filterB s = true) : 1 ≤ s.size ∧ s.size ≤ 64 := by simp only [filterB, Bool.and_eq_true] at h; exact sized_one h.1
theorem name_one {s : ByteArray} (h : nameB s = true) : 1 ≤ s.size ∧ s.size ≤ 64 := by simp only [nameB, Bool.and_eq_true] at h; exact sized_one h.1
/-- hidden. -/
theorem f32_spec {w0 : World} {K : Value → AH → Prop} {h : AH} {f s : ByteArray} (hf : 1 ≤ f.size) (hs : 1 ≤ s.size) (hk : K (.bool (hiddenB f s)) h) : EvC Go.Proofs.Tryd.prog w0 32 #[.string f, .string s] K h := by
  unfold hiddenB at hk
  refine f32_go _ _ _ ⟨by decide, by omega, ?_⟩
  rw [first_at (k := 36) (m := 36) hs rfl]
  refine brB_of (fun q => ⟨by decide, by omega, ?_⟩) fun q => by rw [q] at hk; exact hk
  rw [first_at (k := 43) (m := 43) hf rfl]
  refine brB_of (fun q2 => by rw [q, q2] at hk; exact hk) fun q2 => ⟨by decide, by omega, ?_⟩
  rw [first_at (k := 35) (m := 35) hf rfl]
  rw [q, q2] at hk; exact hk
theorem f35_spec {w0 : World} {K : Value → AH → Prop} {h : AH} {x y : ByteArray} (hk : K (.bool (oneM x y)) h) : EvC Go.Proofs.Tryd.prog w0 35 #[.string x, .string y] K h := by
  unfold oneM at hk
  refine f35_go _ _ _ (brB_of (fun q => ?_) fun q => ?_)
  · have e : decide (x = plusB) = true := q
    rw [e] at hk; exact hk
  · have e : decide (x = plusB) = false := q
    rw [e] at hk; exact hk
theorem f34_spec {w0 : World} {K : Value → AH → Prop} {h : AH} {x y : ByteArray} (hk : K (.bool (oneC x y)) h) : EvC Go.Proofs.Tryd.prog w0 34 #[.string x, .string y] K h := by
  unfold oneC at hk
  refine f34_go _ _ _ (brB_of (fun q0 => brB_of (fun q => ?_) fun q => ?_) fun q0 => ?_)
  · have e0 : (!decide (y = hashB)) = true := q0
    have e : decide (x = plusB) = true := q
    rw [e0, e] at hk; exact hk
  · have e0 : (!decide (y = hashB)) = true := q0
    have e : decide (x = plusB) = false := q
    rw [e0, e] at hk; exact hk
  · have e0 : (!decide (y = hashB)) = false := q0
    rw [e0] at hk; exact hk

section
variable {w0 : World} {K : Value → AH → Prop} {h : AH}
/-! meet, of topics -/
theorem f33m_two : ∀ (l m : List ByteArray) (a b : Option Addr) (c d : Nat), Rd w0 h a (strs l) → l.length ≤ c → Rd w0 h b (strs m) → m.length ≤ d → K (.bool (meetS oneM l m)) h →
    f33m_2 w0 K a l.length c b m.length d (decide (l.head? = some hashB)) h
  | [], m, a, b, c, d, hr, hc, hr2, hd, hk => by
    refine f33m_2_in _ _ _ _ _ _ _ _ (brB_of (fun q => absurd q (by decide)) fun _ => brB_of (fun _ => f33m_4_in _ _ _ _ _ _ _ _ (brB_of (fun _ => ?_) fun q => by cases q)) fun q => absurd q (by decide))
    have e : meetS oneM [] m = (((List.length ([] : List ByteArray) : Nat) : Int) == ((m.length : Nat) : Int)) := by
      cases m with
      | nil => rfl
      | cons y m => simp [meetS]; omega
    rw [e] at hk; exact hk
  | x :: l, m, a, b, c, d, hr, hc, hr2, hd, hk => by
    obtain ⟨ad, rfl, hx⟩ := strLoad hr (i := 0) rfl
    have p0 : (0 : Int) < (((x :: l).length : Nat) : Int) := by rw [List.length_cons]; omega
    refine f33m_2_in _ _ _ _ _ _ _ _ (brB_of (fun q => ?_) fun q => brB_of (fun z => absurd z (by rw [List.length_cons]; simp <;> omega)) fun _ => ?_)
    · have e : x = hashB := by simpa using q
      have : meetS oneM (x :: l) m = true := by unfold meetS; rw [if_pos e]
      rw [this] at hk; exact hk
    have hxh : ¬ x = hashB := by simpa using q
    match m, hr2, hd, hk with
    | [], _, _, hk =>
      have : meetS oneM (x :: l) [] = false := by unfold meetS; rw [if_neg hxh]
      rw [this] at hk
      refine f33m_4_in _ _ _ _ _ _ _ _ (brB_of (fun _ => ?_) fun q => absurd q (by decide))
      have e : ((((x :: l).length : Nat) : Int) == (((List.length ([] : List ByteArray)) : Nat) : Int)) = false := by rw [List.length_cons, beq_eq_false_iff_ne, List.length_nil]; omega
      rw [e]; exact hk
    | y :: m, hr2, hd, hk =>
      obtain ⟨bd, rfl, hy⟩ := strLoad hr2 (i := 0) rfl
      have p1 : (0 : Int) < (((y :: m).length : Nat) : Int) := by rw [List.length_cons]; omega
      have hm : meetS oneM (x :: l) (y :: m) = (oneM x y && meetS oneM l m) := by rw [meetS, if_neg hxh]
      rw [hm] at hk
      have go : EvC Go.Proofs.Tryd.prog w0 35 #[.string x, .string y] (fun x'6 h'7 => ∃ t'8 : Bool, x'6 = .bool t'8 ∧ brB (!t'8) (K (.bool false) h'7) ((0 : Int) ≤ (1 : Int) ∧ (1 : Int) ≤ (((x :: l).length : Nat) : Int) ∧ (0 : Int) ≤ (1 : Int) ∧ (1 : Int) ≤ (((y :: m).length : Nat) : Int) ∧
          f33m_10000 w0 K (cutA 1 (some ad) c 1) ((x :: l).length - 1) (c - 1) (cutA 1 (some bd) d 1) ((y :: m).length - 1) (d - 1) h'7)) h := by
        refine f35_spec ⟨_, rfl, brB_of (fun z => ?_) fun z => ⟨by decide, by omega, by decide, by omega, ?_⟩⟩
        · have e : oneM x y = false := by simpa using z
          rw [e] at hk; exact hk
        · have e : oneM x y = true := by simpa using z
          rw [e, Bool.true_and] at hk
          have r1 := strs_cut hr hc
          have r2 := strs_cut hr2 hd
          have ih := f33m_two l m _ _ (c - 1) (d - 1) r1 (by simp at hc; omega) r2 (by simp at hd; omega) hk
          show f33m_10000 w0 K (cutA 1 (some ad) c 1) l.length (c - 1) (cutA 1 (some bd) d 1) m.length (d - 1) h
          refine f33m_10000_in _ _ _ _ _ _ _ (brB_of (fun z2 => ?_) fun z2 => ?_)
          · match l, r1, ih, z2 with
            | u :: l, r1, ih, _ =>
              obtain ⟨ud, eu, hu⟩ := strLoad r1 (i := 0) rfl
              refine ⟨ud, eu, by decide, by rw [List.length_cons]; omega, u, hu, ?_⟩
              have e2 : decide ((u :: l).head? = some hashB) = decide (u = hashB) := by rw [decide_eq_decide]; simp
              rw [e2] at ih
              exact ih
          · have : l = [] := List.eq_nil_of_length_eq_zero (by have := of_decide_eq_false z2; omega)
            subst this
            exact ih
      have e0 : (((((y :: m).length : Nat) : Int)) == (0 : Int)) = false := by rw [List.length_cons, beq_eq_false_iff_ne]; omega
      rw [e0]
      exact f33m_4_in _ _ _ _ _ _ _ _ (brB_of (fun q => by cases q) fun _ => ⟨_, rfl, by decide, p0, _, rfl, by decide, p1, ⟨x, hx, y, hy, go⟩, ⟨y, hy, x, hx, go⟩⟩)
theorem f33m_spec {l m : List ByteArray} {a b : Option Addr} {c d : Nat} (hr : Rd w0 h a (strs l)) (hc : l.length ≤ c) (hr2 : Rd w0 h b (strs m)) (hd : m.length ≤ d) (hk : K (.bool (meetS oneM l m)) h) :
    EvC Go.Proofs.Tryd.prog w0 33 #[.slice a l.length c, .slice b m.length d, .func (.func 35) #[] #[]] K h := by
  have ih := f33m_two l m _ _ c d hr hc hr2 hd hk
  refine f33m_go _ _ _ _ _ _ _ (brB_of (fun z2 => ?_) fun z2 => ?_)
  · match l, hr, ih, z2 with
    | u :: l, r1, ih, _ =>
      obtain ⟨ud, eu, hu⟩ := strLoad r1 (i := 0) rfl
      refine ⟨ud, eu, by decide, by rw [List.length_cons]; omega, u, hu, ?_⟩
      have e2 : decide ((u :: l).head? = some hashB) = decide (u = hashB) := by rw [decide_eq_decide]; simp
      rw [e2] at ih
      exact ih
  · have : l = [] := List.eq_nil_of_length_eq_zero (by have := of_decide_eq_false z2; omega)
    subst this
    exact ih
/-! meet, of filters -/
theorem f33c_two : ∀ (l m : List ByteArray) (a b : Option Addr) (c d : Nat), Rd w0 h a (strs l) → l.length ≤ c → Rd w0 h b (strs m) → m.length ≤ d → K (.bool (meetS oneC l m)) h →
    f33c_2 w0 K a l.length c b m.length d (decide (l.head? = some hashB)) h
  | [], m, a, b, c, d, hr, hc, hr2, hd, hk => by
    refine f33c_2_in _ _ _ _ _ _ _ _ (brB_of (fun q => absurd q (by decide)) fun _ => brB_of (fun _ => f33c_4_in _ _ _ _ _ _ _ _ (brB_of (fun _ => ?_) fun q => by cases q)) fun q => absurd q (by decide))
    have e : meetS oneC [] m = (((List.length ([] : List ByteArray) : Nat) : Int) == ((m.length : Nat) : Int)) := by
      cases m with
      | nil => rfl
      | cons y m => simp [meetS]; omega
    rw [e] at hk; exact hk
  | x :: l, m, a, b, c, d, hr, hc, hr2, hd, hk => by
    obtain ⟨ad, rfl, hx⟩ := strLoad hr (i := 0) rfl
    have p0 : (0 : Int) < (((x :: l).length : Nat) : Int) := by rw [List.length_cons]; omega
    refine f33c_2_in _ _ _ _ _ _ _ _ (brB_of (fun q => ?_) fun q => brB_of (fun z => absurd z (by rw [List.length_cons]; simp <;> omega)) fun _ => ?_)
    · have e : x = hashB := by simpa using q
      have : meetS oneC (x :: l) m = true := by unfold meetS; rw [if_pos e]
      rw [this] at hk; exact hk
    have hxh : ¬ x = hashB := by simpa using q
    match m, hr2, hd, hk with
    | [], _, _, hk =>
      have : meetS oneC (x :: l) [] = false := by unfold meetS; rw [if_neg hxh]
      rw [this] at hk
      refine f33c_4_in _ _ _ _ _ _ _ _ (brB_of (fun _ => ?_) fun q => absurd q (by decide))
      have e : ((((x :: l).length : Nat) : Int) == (((List.length ([] : List ByteArray)) : Nat) : Int)) = false := by rw [List.length_cons, beq_eq_false_iff_ne, List.length_nil]; omega
      rw [e]; exact hk
    | y :: m, hr2, hd, hk =>
      obtain ⟨bd, rfl, hy⟩ := strLoad hr2 (i := 0) rfl
      have p1 : (0 : Int) < (((y :: m).length : Nat) : Int) := by rw [List.length_cons]; omega
      have hm : meetS oneC (x :: l) (y :: m) = (oneC x y && meetS oneC l m) := by rw [meetS, if_neg hxh]
      rw [hm] at hk
      have go : EvC Go.Proofs.Tryd.prog w0 34 #[.string x, .string y] (fun x'6 h'7 => ∃ t'8 : Bool, x'6 = .bool t'8 ∧ brB (!t'8) (K (.bool false) h'7) ((0 : Int) ≤ (1 : Int) ∧ (1 : Int) ≤ (((x :: l).length : Nat) : Int) ∧ (0 : Int) ≤ (1 : Int) ∧ (1 : Int) ≤ (((y :: m).length : Nat) : Int) ∧
          f33c_10000 w0 K (cutA 1 (some ad) c 1) ((x :: l).length - 1) (c - 1) (cutA 1 (some bd) d 1) ((y :: m).length - 1) (d - 1) h'7)) h := by
        refine f34_spec ⟨_, rfl, brB_of (fun z => ?_) fun z => ⟨by decide, by omega, by decide, by omega, ?_⟩⟩
        · have e : oneC x y = false := by simpa using z
          rw [e] at hk; exact hk
        · have e : oneC x y = true := by simpa using z
          rw [e, Bool.true_and] at hk
          have r1 := strs_cut hr hc
          have r2 := strs_cut hr2 hd
          have ih := f33c_two l m _ _ (c - 1) (d - 1) r1 (by simp at hc; omega) r2 (by simp at hd; omega) hk
          show f33c_10000 w0 K (cutA 1 (some ad) c 1) l.length (c - 1) (cutA 1 (some bd) d 1) m.length (d - 1) h
          refine f33c_10000_in _ _ _ _ _ _ _ (brB_of (fun z2 => ?_) fun z2 => ?_)
          · match l, r1, ih, z2 with
            | u :: l, r1, ih, _ =>
              obtain ⟨ud, eu, hu⟩ := strLoad r1 (i := 0) rfl
              refine ⟨ud, eu, by decide, by rw [List.length_cons]; omega, u, hu, ?_⟩
              have e2 : decide ((u :: l).head? = some hashB) = decide (u = hashB) := by rw [decide_eq_decide]; simp
              rw [e2] at ih
              exact ih
          · have : l = [] := List.eq_nil_of_length_eq_zero (by have := of_decide_eq_false z2; omega)
            subst this
            exact ih
      have e0 : (((((y :: m).length : Nat) : Int)) == (0 : Int)) = false := by rw [List.length_cons, beq_eq_false_iff_ne]; omega
      rw [e0]
      exact f33c_4_in _ _ _ _ _ _ _ _ (brB_of (fun q => by cases q) fun _ => ⟨_, rfl, by decide, p0, _, rfl, by decide, p1, ⟨x, hx, y, hy, go⟩, ⟨y, hy, x, hx, go⟩⟩)
theorem f33c_spec {l m : List ByteArray} {a b : Option Addr} {c d : Nat} (hr : Rd w0 h a (strs l)) (hc : l.length ≤ c) (hr2 : Rd w0 h b (strs m)) (hd : m.length ≤ d) (hk : K (.bool (meetS oneC l m)) h) :
    EvC Go.Proofs.Tryd.prog w0 33 #[.slice a l.length c, .slice b m.length d, .func (.func 34) #[] #[]] K h := by
  have ih := f33c_two l m _ _ c d hr hc hr2 hd hk
  refine f33c_go _ _ _ _ _ _ _ (brB_of (fun z2 => ?_) fun z2 => ?_)
  · match l, hr, ih, z2 with
    | u :: l, r1, ih, _ =>
      obtain ⟨ud, eu, hu⟩ := strLoad r1 (i := 0) rfl
      refine ⟨ud, eu, by decide, by rw [List.length_cons]; omega, u, hu, ?_⟩
      have e2 : decide ((u :: l).head? = some hashB) = decide (u = hashB) := by rw [decide_eq_decide]; simp
      rw [e2] at ih
      exact ih
  · have : l = [] := List.eq_nil_of_length_eq_zero (by have := of_decide_eq_false z2; omega)
    subst this
    exact ih
end
/-- meets. -/
theorem f54_all {w0 : World} {h : AH} : ∀ (l m : List ByteArray) (K : Value → AH → Prop) (a b : Option Addr) (c d : Nat), Rd w0 h a (strs l) → l.length ≤ c → Rd w0 h b (strs m) → m.length ≤ d → K (.bool (meetS oneM l m)) h →
    EvC Go.Proofs.Tryd.prog w0 54 #[.slice a l.length c, .slice b m.length d] K h
  | [], m, K, a, b, c, d, hr, hc, hr2, hd, hk => by
    refine f54_go _ _ _ _ _ _ _ (brB_of (fun _ => ?_) fun q => absurd q (by decide))
    have e : meetS oneM [] m = (((m.length : Nat) : Int) == 0) := by
      cases m with
      | nil => rfl
      | cons y m => rw [List.length_cons, Bool.eq_iff_iff]; simp [meetS]; omega
    rw [e] at hk; exact hk
  | x :: l, m, K, a, b, c, d, hr, hc, hr2, hd, hk => by
    obtain ⟨ad, rfl, hx⟩ := strLoad hr (i := 0) rfl
    have p0 : (0 : Int) < (((x :: l).length : Nat) : Int) := by rw [List.length_cons]; omega
    refine f54_go _ _ _ _ _ _ _ (brB_of (fun q => absurd q (by rw [List.length_cons]; simp <;> omega)) fun _ => ⟨_, rfl, by decide, p0, x, hx, brB_of (fun q => ?_) fun q => ?_⟩)
    · have e : x = hashB := of_decide_eq_true q
      have : meetS oneM (x :: l) m = true := by unfold meetS; rw [if_pos e]
      rw [this] at hk; exact hk
    have hxh : ¬ x = hashB := of_decide_eq_false q
    match m, hr2, hd, hk with
    | [], _, _, hk =>
      have : meetS oneM (x :: l) [] = false := by unfold meetS; rw [if_neg hxh]
      rw [this] at hk
      exact brB_of (fun z => absurd z (by decide)) fun _ => hk
    | y :: m, hr2, hd, hk =>
      obtain ⟨bd, rfl, hy⟩ := strLoad hr2 (i := 0) rfl
      have p1 : (0 : Int) < (((y :: m).length : Nat) : Int) := by rw [List.length_cons]; omega
      have hm : meetS oneM (x :: l) (y :: m) = (oneM x y && meetS oneM l m) := by rw [meetS, if_neg hxh]
      rw [hm] at hk
      have yes : oneM x y = true → (0 : Int) ≤ (1 : Int) ∧ (1 : Int) ≤ (((x :: l).length : Nat) : Int) ∧ (0 : Int) ≤ (1 : Int) ∧ (1 : Int) ≤ (((y :: m).length : Nat) : Int) ∧
          EvC Go.Proofs.Tryd.prog w0 54 #[.slice (cutA 1 (some ad) c 1) ((x :: l).length - 1) (c - 1), .slice (cutA 1 (some bd) d 1) ((y :: m).length - 1) (d - 1)] (fun x'4 h'5 => (∃ t'6 : Bool, ((x'4 = (Value.bool t'6)) ∧ (K (.bool t'6) h'5)))) h := fun e => by
        rw [e, Bool.true_and] at hk
        refine ⟨by decide, by omega, by decide, by omega, ?_⟩
        exact f54_all l m _ _ _ _ _ (strs_cut hr hc) (by simp at hc; omega) (strs_cut hr2 hd) (by simp at hd; omega) ⟨_, rfl, hk⟩
      have no : oneM x y = false → K (.bool false) h := fun e => by rw [e] at hk; exact hk
      refine brB_of (fun _ => ⟨_, rfl, by decide, p0, x, hx, brB_of (fun z => ?_) fun z => ?_⟩) fun z => absurd z (by rw [List.length_cons]; simp <;> omega)
      · have e : oneM x y = true := by unfold oneM; rw [show decide (x = plusB) = true from z]; rfl
        exact yes e
      · have e : oneM x y = decide (x = y) := by unfold oneM; rw [show decide (x = plusB) = false from z]; rfl
        refine ⟨_, rfl, by decide, p0, _, rfl, by decide, p1, ⟨x, hx, y, hy, brB_of (fun z2 => yes (by rw [e, z2])) fun z2 => no (by rw [e, z2])⟩, ⟨y, hy, x, hx, brB_of (fun z2 => yes (by rw [e, z2])) fun z2 => no (by rw [e, z2])⟩⟩
theorem f54_spec {w0 : World} {K : Value → AH → Prop} {h : AH} {l m : List ByteArray} {a b : Option Addr} {c d : Nat} (hr : Rd w0 h a (strs l)) (hc : l.length ≤ c) (hr2 : Rd w0 h b (strs m)) (hd : m.length ≤ d) (hk : K (.bool (meetS oneM l m)) h) :
    EvC Go.Proofs.Tryd.prog w0 54 #[.slice a l.length c, .slice b m.length d] K h := f54_all l m K a b c d hr hc hr2 hd hk
theorem levS_len {s : ByteArray} (h : s.size ≤ 64) : (levS s).length ≤ 65 := by
  unfold levS; rw [List.length_map, splitL_length]
  have := List.count_le_length (a := (47 : UInt8)) (l := s.data.toList)
  rw [slen] at this; omega
/-- topic.Match. -/
theorem f16_spec {w0 : World} {K : Value → AH → Prop} {h : AH} {B : List (Nat × AB)} {f s : ByteArray} (T : TabOk w0) (w : Own w0 h B) (hk : ∀ h', Own w0 h' B → K (.bool (matchB f s)) h') : EvC Go.Proofs.Tryd.prog w0 16 #[.string f, .string s] K h := by
  unfold matchB at hk
  have no : ∀ h1, Own w0 h1 B → (filterB f && nameB s && !(hiddenB f s)) = false → f16_2 w0 K f s true h1 := fun h1 w1 e => by
    rw [e] at hk
    exact f16_2_in _ _ _ _ (brB_of (fun _ => hk h1 w1) fun q => by cases q)
  refine f16_go _ _ _ (f26_spec T w fun h1 w1 => ⟨_, rfl, brB_of (fun q1 => no h1 w1 ?_) fun q1 => f28_spec T w1 fun h2 w2 => ⟨_, rfl, brB_of (fun q2 => no h2 w2 ?_) fun q2 => ?_⟩⟩)
  · have e : filterB f = false := by simpa using q1
    rw [e]; rfl
  · have e : nameB s = false := by simpa using q2
    rw [e]; simp
  have e1 : filterB f = true := by simpa using q1
  have e2 : nameB s = true := by simpa using q2
  obtain ⟨f1, f2⟩ := filter_one e1
  obtain ⟨s1, s2⟩ := name_one e2
  refine f32_spec f1 s1 ⟨_, rfl, ?_⟩
  cases hh : hiddenB f s with
  | true => exact no h2 w2 (by rw [hh]; simp)
  | false =>
    rw [e1, e2, hh] at hk
    refine f16_2_in _ _ _ _ (brB_of (fun q => by cases q) fun _ => f27_spec (by omega) w2 fun h3 a c v w3 => ⟨_, _, _, rfl, f27_spec (by omega) w3 fun h4 b d v2 w4 => ⟨_, _, _, rfl, ?_⟩⟩)
    have rd1 : Rd w0 h4 a (strs (levS f)) := v.rd (cs := slB b (strs (levS s)) (d * 1)) w4
    have rd2 : Rd w0 h4 b (strs (levS s)) := v2.rd (cs := []) w4
    exact f33m_spec rd1 v.2.1 rd2 v2.2.1 ⟨_, rfl, hk h4 w4.drop.drop⟩
/-- topic.Covers. -/
theorem f15_spec {w0 : World} {K : Value → AH → Prop} {h : AH} {B : List (Nat × AB)} {f s : ByteArray} (T : TabOk w0) (w : Own w0 h B) (hk : ∀ h', Own w0 h' B → K (.bool (coversB f s)) h') : EvC Go.Proofs.Tryd.prog w0 15 #[.string f, .string s] K h := by
  unfold coversB at hk
  have no : ∀ h1, Own w0 h1 B → (filterB f && filterB s && !(hiddenB f s)) = false → f15_2 w0 K f s true h1 := fun h1 w1 e => by
    rw [e] at hk
    exact f15_2_in _ _ _ _ (brB_of (fun _ => hk h1 w1) fun q => by cases q)
  refine f15_go _ _ _ (f26_spec T w fun h1 w1 => ⟨_, rfl, brB_of (fun q1 => no h1 w1 ?_) fun q1 => f26_spec T w1 fun h2 w2 => ⟨_, rfl, brB_of (fun q2 => no h2 w2 ?_) fun q2 => ?_⟩⟩)
  · have e : filterB f = false := by simpa using q1
    rw [e]; rfl
  · have e : filterB s = false := by simpa using q2
    rw [e]; simp
  have e1 : filterB f = true := by simpa using q1
  have e2 : filterB s = true := by simpa using q2
  obtain ⟨f1, f2⟩ := filter_one e1
  obtain ⟨s1, s2⟩ := filter_one e2
  refine f32_spec f1 s1 ⟨_, rfl, ?_⟩
  cases hh : hiddenB f s with
  | true => exact no h2 w2 (by rw [hh]; simp)
  | false =>
    rw [e1, e2, hh] at hk
    refine f15_2_in _ _ _ _ (brB_of (fun q => by cases q) fun _ => f27_spec (by omega) w2 fun h3 a c v w3 => ⟨_, _, _, rfl, f27_spec (by omega) w3 fun h4 b d v2 w4 => ⟨_, _, _, rfl, ?_⟩⟩)
    have rd1 : Rd w0 h4 a (strs (levS f)) := v.rd (cs := slB b (strs (levS s)) (d * 1)) w4
    have rd2 : Rd w0 h4 b (strs (levS s)) := v2.rd (cs := []) w4
    exact f33c_spec rd1 v.2.1 rd2 v2.2.1 ⟨_, rfl, hk h4 w4.drop.drop⟩
/-- Match, as the document answers. -/
theorem f41_spec {w0 : World} {K : Value → AH → Prop} {h : AH} {B : List (Nat × AB)} {f s : ByteArray} (w : Own w0 h B) (hk : ∀ h', Own w0 h' B → K (.bool (matchB f s)) h') : EvC Go.Proofs.Tryd.prog w0 41 #[.string f, .string s] K h := by
  unfold matchB at hk
  refine f41_go _ _ _ (f37_spec w fun h1 w1 => ⟨_, rfl, brB_of (fun q1 => f53_spec w1 fun h2 w2 => ⟨_, rfl, brB_of (fun q2 => ?_) fun q2 => ?_⟩) fun q1 => ?_⟩)
  · obtain ⟨f1, f2⟩ := filter_one q1
    obtain ⟨s1, s2⟩ := name_one q2
    rw [q1, q2] at hk
    have lev : hiddenB f s = false → EvC Go.Proofs.Tryd.prog w0 51 #[.string f] (fun x'6 h'7 => ∃ p'8 : Option Addr, ∃ n'9 : Nat, ∃ n'10 : Nat, x'6 = .slice p'8 n'9 n'10 ∧ EvC Go.Proofs.Tryd.prog w0 51 #[.string s] (fun x'11 h'12 => ∃ p'13 : Option Addr, ∃ n'14 : Nat, ∃ n'15 : Nat, x'11 = .slice p'13 n'14 n'15 ∧ EvC Go.Proofs.Tryd.prog w0 54 #[.slice p'8 n'9 n'10, .slice p'13 n'14 n'15] (fun x'16 h'17 => ∃ t'18 : Bool, x'16 = .bool t'18 ∧ K (.bool t'18) h'17) h'12) h'7) h2 := fun e => by
      rw [e] at hk
      refine f51_spec (by omega) w2 fun h3 a c v w3 => ⟨_, _, _, rfl, f51_spec (by omega) w3 fun h4 b d v2 w4 => ⟨_, _, _, rfl, ?_⟩⟩
      have rd1 : Rd w0 h4 a (strs (levS f)) := v.rd (cs := slB b (strs (levS s)) (d * 1)) w4
      have rd2 : Rd w0 h4 b (strs (levS s)) := v2.rd (cs := []) w4
      exact f54_spec rd1 v.2.1 rd2 v2.2.1 ⟨_, rfl, hk h4 w4.drop.drop⟩
    have hid : hiddenB f s = true → K (.bool false) h2 := fun e => by rw [e] at hk; exact hk h2 w2
    refine ⟨by decide, by omega, ?_⟩
    rw [first_at (k := 36) (m := 36) s1 rfl]
    refine brB_of (fun z => ⟨by decide, by omega, ?_⟩) fun z => lev (by unfold hiddenB; rw [z]; rfl)
    rw [first_at (k := 43) (m := 43) f1 rfl]
    refine brB_of (fun z2 => hid (by unfold hiddenB; rw [z, z2]; rfl)) fun z2 => ⟨by decide, by omega, ?_⟩
    rw [first_at (k := 35) (m := 35) f1 rfl]
    refine brB_of (fun z3 => lev ?_) fun z3 => hid ?_
    · unfold hiddenB; rw [z, z2]; cases hq : decide (first f = some 35) <;> rw [hq] at z3 <;> first | rfl | cases z3
    · unfold hiddenB; rw [z, z2]; cases hq : decide (first f = some 35) <;> rw [hq] at z3 <;> first | rfl | cases z3
  · rw [q1, q2] at hk; exact hk h2 w2
  · rw [q1] at hk; exact hk h1 w1
end Go.G.YtnmngjffebbbnaaDoor
