/- utf8.Valid's spec. -/
import Derived.Test.YtnmngjffebbbnaaDoorTE0
import Derived.Test.YtnmngjffebbbnaaDoorProg
set_option maxRecDepth 100000
namespace Go.G.YtnmngjffebbbnaaDoor
open Go.RowKit
open Value (string slice int bool agg)
theorem mask_of {x : BitVec 64} (h : (IntKind.u64.wrap ((((x &&& BitVec.ofInt 64 (9259542123273814144 : Int)).toNat : Nat)) : Int) == (0 : Int)) = true) : x &&& himask = 0 := by
  rw [wrap_bv] at h
  have h' : (((x &&& BitVec.ofInt 64 (9259542123273814144 : Int)).toNat : Nat) : Int) = 0 := by simpa using h
  have e : BitVec.ofInt 64 (9259542123273814144 : Int) = himask := rfl
  rw [e] at h'
  exact BitVec.eq_of_toNat_eq (by show _ = 0; omega)
theorem and7 : ∀ t, t < 256 → IntKind.i64.wrap (IntKind.u8.wrap ((((BitVec.ofInt 8 ((t : Nat) : Int) &&& BitVec.ofInt 8 (7 : Int)).toNat : Nat)) : Int)) = ((t % 8 : Nat) : Int) := by decide +kernel
theorem dec_lt (x y : UInt8) : decide (((x.toNat : Nat) : Int) < ((y.toNat : Nat) : Int)) = !(decide (y ≤ x)) := by
  rw [Bool.eq_iff_iff]; simp [UInt8.lt_iff_toNat_lt]
theorem dec_lt' (x y : UInt8) {m : Int} (hm : m = (x.toNat : Nat)) : decide (m < ((y.toNat : Nat) : Int)) = !(decide (y ≤ x)) := by rw [hm]; exact dec_lt x y
theorem fdiv16 (t : Nat) : Int.fdiv ((t : Nat) : Int) 16 = ((t / 16 : Nat) : Int) := by rw [Int.fdiv_eq_ediv_of_nonneg _ (by decide)]; rfl
theorem low_cut {l : List UInt8} {k m : Nat} (h : ∀ i, i < m → ∃ y, (l.drop k)[i]? = some y ∧ y < 128) : ∀ i, k ≤ i → i < k + m → ∃ y, l[i]? = some y ∧ y < 128 := fun i h1 h2 => by
  obtain ⟨y, e, hy⟩ := h (i - k) (by omega)
  rw [List.getElem?_drop] at e
  exact ⟨y, by rw [← e]; congr 1; omega, hy⟩

section
variable {w0 : World} {K : Value → AH → Prop} {h : AH} {N : Nat}
/-- What is known of shorter rows. -/
abbrev Two (w0 : World) (K : Value → AH → Prop) (h : AH) (N : Nat) : Prop := ∀ (l : List UInt8) (a : Option Addr) (c : Nat), l.length ≤ N → Rd w0 h a (u8s l) → l.length ≤ c → K (.bool (validU l)) h → f60_2 w0 K a l.length c h

theorem f60_10s (two : Two w0 K h N) : ∀ (m : Nat) (l : List UInt8) (a : Option Addr) (c : Nat), l.length ≤ m → l.length ≤ N → Rd w0 h a (u8s l) → l.length ≤ c → K (.bool (validU l)) h → f60_10 w0 K a l.length c h := by
  intro m
  induction m with
  | zero =>
    intro l a c hm hN hr hc hk
    exact f60_10_in _ _ _ _ (brB_of (fun q => by simp at q; omega) fun _ => two l a c hN hr hc hk)
  | succ m ih =>
    intro l a c hm hN hr hc hk
    refine f60_10_in _ _ _ _ (brB_of (fun q => ?_) fun _ => two l a c hN hr hc hk)
    have hl : 32 < l.length := by have := of_decide_eq_true q; omega
    have cut : ∀ k, k ≤ 32 → Rd w0 h (cutA 1 a c k) (u8s (l.drop k)) ∧ l.length - k = (l.drop k).length ∧ 8 ≤ (l.drop (min k 24)).length := fun k hk => ⟨rd8_cut hr hc (by omega), by rw [List.length_drop], by rw [List.length_drop]; omega⟩
    have l8 : ∀ k, k ≤ 24 → 8 ≤ (l.drop k).length := fun k hk => by rw [List.length_drop]; omega
    refine ⟨by decide, by omega, by decide, by omega, by decide, by omega, f81_spec hr rfl (by omega) ⟨_, rfl, f81_spec (cut 8 (by decide)).1 (cut 8 (by decide)).2.1 (l8 8 (by decide)) ⟨_, rfl, f81_spec (cut 16 (by decide)).1 (cut 16 (by decide)).2.1 (l8 16 (by decide)) ⟨_, rfl, f81_spec (cut 24 (by decide)).1 (cut 24 (by decide)).2.1 (l8 24 (by decide)) ⟨_, rfl, ?_⟩⟩⟩⟩⟩
    simp only [ofInt_bv, or_bv]
    refine brB_of (fun q2 => ⟨by decide, by omega, ?_⟩) fun _ => two l a c hN hr hc hk
    have hm := mask_of q2
    have low : ∀ k, k = 0 ∨ k = 8 ∨ k = 16 ∨ k = 24 → ∀ i, i < 8 → ∃ y, (l.drop k)[i]? = some y ∧ y < 128 := fun k hk => by
      refine word_low (l8 k (by omega)) _ (fun hx j hj => ?_) hm
      have := hx j hj
      simp only [BitVec.getLsbD_or, Bool.or_eq_false_iff] at this
      rcases hk with rfl | rfl | rfl | rfl
      · exact this.1.1
      · exact this.1.2
      · exact this.2.1
      · exact this.2.2
    have all : ∀ i, i < 32 → ∃ y, l[i]? = some y ∧ y < 128 := fun i hi => by
      by_cases h1 : i < 8
      · exact low_cut (low 0 (.inl rfl)) i (by omega) (by omega)
      by_cases h2 : i < 16
      · exact low_cut (low 8 (.inr (.inl rfl))) i (by omega) (by omega)
      by_cases h3 : i < 24
      · exact low_cut (low 16 (.inr (.inr (.inl rfl)))) i (by omega) (by omega)
      · exact low_cut (low 24 (.inr (.inr (.inr rfl)))) i (by omega) (by omega)
    rw [(cut 32 (by decide)).2.1]
    rw [validU_drop 32 l all] at hk
    exact ih _ _ _ (by rw [List.length_drop]; omega) (by rw [List.length_drop]; omega) (cut 32 (by decide)).1 (by rw [List.length_drop]; omega) hk

theorem f60_9s (two : Two w0 K h N) {l : List UInt8} {a : Option Addr} {c : Nat} {x : Bool} (hN : l.length ≤ N) (hr : Rd w0 h a (u8s l)) (hc : l.length ≤ c) (hk : K (.bool (validU l)) h) (hx : x = true → 16 ≤ l.length ∧ ∀ i, i < 16 → ∃ y, l[i]? = some y ∧ y < 128) :
    f60_9 w0 K a l.length c x h := by
  refine f60_9_in _ _ _ _ _ (brB_of (fun q => ?_) fun _ => two l a c hN hr hc hk)
  obtain ⟨h16, all⟩ := hx q
  refine ⟨by decide, by omega, ?_⟩
  rw [show l.length - 16 = (l.drop 16).length by rw [List.length_drop]]
  rw [validU_drop 16 l all] at hk
  exact f60_10s two _ _ _ _ (Nat.le_refl _) (by rw [List.length_drop]; omega) (rd8_cut hr hc h16) (by rw [List.length_drop]; omega) hk

theorem f60_7s (two : Two w0 K h N) {l : List UInt8} {a : Option Addr} {c : Nat} {x : Bool} (hN : l.length ≤ N) (hr : Rd w0 h a (u8s l)) (hc : l.length ≤ c) (hk : K (.bool (validU l)) h) (hx : x = true → 8 ≤ l.length ∧ ∀ i, i < 8 → ∃ y, l[i]? = some y ∧ y < 128) :
    f60_7 w0 K a l.length c x h := by
  refine f60_7_in _ _ _ _ _ (brB_of (fun q => ?_) fun _ => two l a c hN hr hc hk)
  obtain ⟨h8, all⟩ := hx q
  have hd : l.length - 8 = (l.drop 8).length := by rw [List.length_drop]
  have hr' : Rd w0 h (cutA 1 a c 8) (u8s (l.drop 8)) := rd8_cut hr hc h8
  have hc' : (l.drop 8).length ≤ c - 8 := by rw [List.length_drop]; omega
  have hN' : (l.drop 8).length ≤ N := by rw [List.length_drop]; omega
  rw [validU_drop 8 l all] at hk
  rw [hd]
  generalize l.drop 8 = l' at hr' hc' hN' hk
  generalize cutA 1 a c 8 = a' at hr'
  generalize c - 8 = c' at hc'
  refine ⟨by decide, by omega, brB_of (fun q2 => ?_) fun _ => f60_9s two hN' hr' hc' hk fun e => by cases e⟩
  have hl : 16 < l'.length := by have := of_decide_eq_true q2; omega
  refine ⟨by decide, by omega, f81_spec hr' rfl (by omega) ⟨_, rfl, f81_spec (rd8_cut hr' hc' (k := 8) (by omega)) (by rw [List.length_drop]) (by rw [List.length_drop]; omega) ⟨_, rfl, ?_⟩⟩⟩
  simp only [ofInt_bv, or_bv]
  refine f60_9s two hN' hr' hc' hk fun e => ⟨by omega, fun i hi => ?_⟩
  have hm := mask_of e
  have low : ∀ k, k = 0 ∨ k = 8 → ∀ i, i < 8 → ∃ y, (l'.drop k)[i]? = some y ∧ y < 128 := fun k hk => by
    refine word_low (by rw [List.length_drop]; omega) _ (fun hx j hj => ?_) hm
    have := hx j hj
    simp only [BitVec.getLsbD_or, Bool.or_eq_false_iff] at this
    rcases hk with rfl | rfl
    · exact this.1
    · exact this.2
  by_cases h1 : i < 8
  · exact low_cut (low 0 (.inl rfl)) i (by omega) (by omega)
  · exact low_cut (low 8 (.inr rfl)) i (by omega) (by omega)

/-- A character of more bytes is taken, or is none. -/
theorem f60_fin (two : Two w0 K h N) {b : UInt8} {r : List UInt8} {a : Option Addr} {c k : Nat} {x : Bool} {Q : Prop} (hN : r.length ≤ N) (hr : Rd w0 h a (u8s (b :: r))) (hc : (b :: r).length ≤ c) (hk : K (.bool (validU (b :: r))) h)
    (hs : sizeU (b :: r) = if x then 0 else k) (h1 : 1 ≤ k) (hq : ((0 : Int) ≤ ((k : Nat) : Int) ∧ ((k : Nat) : Int) ≤ (((b :: r).length : Nat) : Int) ∧ f60_2 w0 K (cutA 1 a c k) ((b :: r).length - k) (c - k) h) → Q) : brB x (K (.bool false) h) Q := by
  have hle := sizeU_le b r
  refine brB_of (fun q => ?_) fun q => hq ?_
  · rw [q] at hs
    rw [validU_none hs] at hk; exact hk
  · rw [q] at hs
    have hs' : sizeU (b :: r) = k := hs
    rw [hs'] at hle
    rw [validU_some (by omega), hs'] at hk
    refine ⟨by omega, by omega, ?_⟩
    rw [show (b :: r).length - k = ((b :: r).drop k).length by rw [List.length_drop]]
    exact two _ _ _ (by rw [List.length_drop, List.length_cons]; omega) (rd8_cut hr hc hle) (by rw [List.length_drop]; omega) hk

theorem f60_2s (T : TabOk w0) : ∀ N, Two w0 K h N := by
  intro N
  induction N with
  | zero =>
    intro l a c hn hr hc hk
    have : l = [] := List.eq_nil_of_length_eq_zero (by omega)
    subst this
    exact f60_2_in _ _ _ _ (brB_of (fun q => by simp at q) fun _ => hk)
  | succ N two =>
    intro l a c hn hr hc hk
    match l, hn, hr, hc, hk with
    | [], _, _, _, hk => exact f60_2_in _ _ _ _ (brB_of (fun q => by simp at q) fun _ => hk)
    | b :: r, hn, hr, hc, hk =>
      have hrl : r.length ≤ N := by simp at hn; omega
      obtain ⟨ad, rfl, hcell⟩ := rd8 hr (i := 0) rfl
      refine f60_2_in _ _ _ _ (brB_of (fun _ => ⟨ad, rfl, by decide, by simp, _, hcell, brB_of (fun q => ?_) fun q => ?_⟩) fun q => by simp at q)
      · have hb : b < 128 := by
          rw [UInt8.lt_iff_toNat_lt]; show b.toNat < 128
          have : ((b.toNat : Nat) : Int) < 128 := by simpa using q
          omega
        rw [validU_ascii hb] at hk
        have hr' : Rd w0 h (cutA 1 (some ad) c 1) (u8s r) := rd8_cut hr hc (k := 1) (by simp)
        have hc' : r.length ≤ c - 1 := by simp at hc; omega
        refine ⟨by decide, by simp; omega, ?_⟩
        rw [show (b :: r).length - 1 = r.length by simp]
        generalize cutA 1 (some ad) c 1 = a' at hr'
        generalize c - 1 = c' at hc'
        refine brB_of (fun q2 => f81_spec hr' rfl (by have := of_decide_eq_true q2; omega) ⟨_, rfl, f60_7s two hrl hr' hc' hk fun e => ?_⟩) fun _ => f60_7s two hrl hr' hc' hk fun e => by cases e
        have h8 : 8 < r.length := by have := of_decide_eq_true q2; omega
        rw [ofInt_bv] at e
        exact ⟨by omega, word_low (by omega) _ (fun hx => hx) (mask_of e)⟩
      · have hb : (128 : UInt8) ≤ b := by
          rw [UInt8.le_iff_toNat_le]; show 128 ≤ b.toNat
          have : ¬ ((b.toNat : Nat) : Int) < 128 := by simpa using q
          omega
        have hbn : 128 ≤ b.toNat := UInt8.le_iff_toNat_le.1 hb
        have hb2 := u8lt b
        obtain ⟨t1, t2, t3, t4⟩ := tab_facts b.toNat hb2 hbn
        rw [UInt8.ofNat_toNat] at t3 t4
        have hsz := size_kind (r := r) hb
        refine ⟨by omega, by omega, ((tabF b.toNat : Nat) : Int), ?_, by decide, ?_⟩
        · rw [Int.toNat_natCast, Nat.mul_one]; exact glob_cell (T.first _ hb2)
        rw [fdiv16, and7 _ t1, Int.toNat_natCast]
        refine ⟨by omega, by omega, ((accL (tabF b.toNat / 16) : Nat) : Int), ((accH (tabF b.toNat / 16) : Nat) : Int), ⟨rfl, ?_⟩, ?_⟩
        · intro j x hj
          rw [Deep.add_add]
          match j, hj with
          | 0, hj => simp at hj; subst hj; exact glob_cell (T.low _ t2)
          | 1, hj => simp at hj; subst hj; exact glob_cell (T.high _ t2)
          | j + 2, hj => simp at hj
        have n1 : (kindU b).1 ≠ 1 → accL (tabF b.toNat / 16) = (kindU b).2.1.toNat ∧ accH (tabF b.toNat / 16) = (kindU b).2.2.toNat := t4
        have cell : ∀ i y, (b :: r)[i]? = some y → cellA w0 h (ad.add i) = some (.int .u8 ((y.toNat : Nat) : Int)) := fun i y hi => by
          obtain ⟨ad', e, hc⟩ := rd8 hr hi
          injection e with e
          subst e; exact hc
        have geti : ∀ i, i < (b :: r).length → ∃ y, (b :: r)[i]? = some y := fun i hi => ⟨_, List.getElem?_eq_getElem hi⟩
        have kr := kind_range b
        generalize hlo : (kindU b).2.1 = lo at n1 hsz
        generalize hhi : (kindU b).2.2 = hi at n1 hsz
        have lt_of : ∀ y lo : UInt8, (decide (((y.toNat : Nat) : Int) < ((lo.toNat : Nat) : Int)) = true ↔ ¬ lo ≤ y) := fun y lo => by rw [UInt8.le_iff_toNat_le]; simp
        -- the tests one by one
        rcases kr with k1 | k2 | k3 | k4
        · have t38 : tabF b.toNat % 8 = 1 := by rcases t3 with e | ⟨e, _⟩ <;> omega
          rw [t38]
          rw [k1] at hsz
          refine brB_of (fun q => by simp at q) fun _ => brB_of (fun q => by simp at q) fun _ => brB_of (fun q => by simp at q) fun _ => ?_
          rw [validU_none hsz] at hk; exact hk
        · have t38 : tabF b.toNat % 8 = 2 := by rcases t3 with e | ⟨_, e⟩ <;> omega
          obtain ⟨e1, e2⟩ := n1 (by omega)
          rw [t38, e1, e2]
          rw [k2] at hsz
          change sizeU (b :: r) = (if atL (b :: r) 1 lo hi then 2 else 0) at hsz
          refine brB_of (fun _ => ?_) fun q => by simp at q
          have fin : ∀ x, x = !(atL (b :: r) 1 lo hi) → f60_19 w0 K (some ad) (b :: r).length c x h := fun x hx =>
            f60_19_in _ _ _ _ _ (f60_fin two (k := 2) hrl hr hc hk (by rw [hsz, hx]; cases atL (b :: r) 1 lo hi <;> rfl) (by decide) fun z => z)
          refine brB_of (fun q => fin _ ?_) fun q => ?_
          · have : (b :: r)[1]? = none := List.getElem?_eq_none (by have := of_decide_eq_true q; omega)
            unfold atL; rw [this]; rfl
          · have hl : 2 ≤ (b :: r).length := by have := of_decide_eq_false q; omega
            obtain ⟨y, hy⟩ := geti 1 (by omega)
            have el : atL (b :: r) 1 lo hi = (decide (lo ≤ y) && decide (y ≤ hi)) := by unfold atL; rw [hy]
            refine ⟨ad, rfl, by decide, by omega, _, cell 1 y hy, brB_of (fun q2 => fin _ ?_) fun q2 => ⟨ad, rfl, by decide, by omega, _, cell 1 y hy, fin _ ?_⟩⟩
            · have := (lt_of y lo).1 q2; rw [el]; simp [this]
            · have : lo ≤ y := by
                cases Classical.em (lo ≤ y) with
                | inl z => exact z
                | inr z => rw [(lt_of y lo).2 z] at q2; cases q2
              rw [el, dec_lt]; simp [this]
        · have t38 : tabF b.toNat % 8 = 3 := by rcases t3 with e | ⟨_, e⟩ <;> omega
          obtain ⟨e1, e2⟩ := n1 (by omega)
          rw [t38, e1, e2]
          rw [k3] at hsz
          change sizeU (b :: r) = (if atL (b :: r) 1 lo hi && atL (b :: r) 2 128 191 then 3 else 0) at hsz
          refine brB_of (fun q => by simp at q) fun _ => brB_of (fun _ => ?_) fun q => by simp at q
          have fin : ∀ x, x = !(atL (b :: r) 1 lo hi && atL (b :: r) 2 128 191) → f60_23 w0 K (some ad) (b :: r).length c x h := fun x hx =>
            f60_23_in _ _ _ _ _ (f60_fin two (k := 3) hrl hr hc hk (by rw [hsz, hx]; cases (atL (b :: r) 1 lo hi && atL (b :: r) 2 128 191) <;> rfl) (by decide) fun z => z)
          refine brB_of (fun q => fin _ ?_) fun q => ?_
          · have : (b :: r)[2]? = none := List.getElem?_eq_none (by have := of_decide_eq_true q; omega)
            have : atL (b :: r) 2 128 191 = false := by unfold atL; rw [this]
            rw [this]; simp
          · have hl : 3 ≤ (b :: r).length := by have := of_decide_eq_false q; omega
            obtain ⟨y, hy⟩ := geti 1 (by omega)
            obtain ⟨z, hz⟩ := geti 2 (by omega)
            have el : atL (b :: r) 1 lo hi = (decide (lo ≤ y) && decide (y ≤ hi)) := by unfold atL; rw [hy]
            have el2 : atL (b :: r) 2 128 191 = (decide (128 ≤ z) && decide (z ≤ 191)) := by unfold atL; rw [hz]
            have i1 : (1 : Int) < (((b :: r).length : Nat) : Int) := by omega
            have i2 : (2 : Int) < (((b :: r).length : Nat) : Int) := by omega
            refine ⟨ad, rfl, by decide, i1, _, cell 1 y hy, brB_of (fun q2 => fin _ ?_) fun q2 => ⟨ad, rfl, by decide, i1, _, cell 1 y hy, brB_of (fun q3 => fin _ ?_) fun q3 => ⟨ad, rfl, by decide, i2, _, cell 2 z hz, brB_of (fun q4 => fin _ ?_) fun q4 => ⟨ad, rfl, by decide, i2, _, cell 2 z hz, fin _ ?_⟩⟩⟩⟩
            · have := (lt_of y lo).1 q2; rw [el]; simp [this]
            · have := (lt_of hi y).1 q3; rw [el]; simp [this]
            · have := (lt_of z 128).1 q4; rw [el2]; simp [this]
            · have a1 : lo ≤ y := by
                cases Classical.em (lo ≤ y) with
                | inl z => exact z
                | inr z => rw [(lt_of y lo).2 z] at q2; cases q2
              have a2 : y ≤ hi := by
                cases Classical.em (y ≤ hi) with
                | inl z => exact z
                | inr z => rw [(lt_of hi y).2 z] at q3; cases q3
              have a3 : (128 : UInt8) ≤ z := by
                cases Classical.em ((128 : UInt8) ≤ z) with
                | inl z => exact z
                | inr w => rw [show decide (((z.toNat : Nat) : Int) < 128) = true from (lt_of z 128).2 w] at q4; cases q4
              rw [el, el2, dec_lt' 191 z (m := 191) rfl]; simp [a1, a2, a3]
        · have t38 : tabF b.toNat % 8 = 4 := by rcases t3 with e | ⟨_, e⟩ <;> omega
          obtain ⟨e1, e2⟩ := n1 (by omega)
          rw [t38, e1, e2]
          rw [k4] at hsz
          change sizeU (b :: r) = (if atL (b :: r) 1 lo hi && atL (b :: r) 2 128 191 && atL (b :: r) 3 128 191 then 4 else 0) at hsz
          refine brB_of (fun q => by simp at q) fun _ => brB_of (fun q => by simp at q) fun _ => brB_of (fun _ => ?_) fun q => by simp at q
          have fin : ∀ x, x = !(atL (b :: r) 1 lo hi && atL (b :: r) 2 128 191 && atL (b :: r) 3 128 191) → f60_27 w0 K (some ad) (b :: r).length c x h := fun x hx =>
            f60_27_in _ _ _ _ _ (f60_fin two (k := 4) hrl hr hc hk (by rw [hsz, hx]; cases (atL (b :: r) 1 lo hi && atL (b :: r) 2 128 191 && atL (b :: r) 3 128 191) <;> rfl) (by decide) fun z => z)
          refine brB_of (fun q => fin _ ?_) fun q => ?_
          · have : (b :: r)[3]? = none := List.getElem?_eq_none (by have := of_decide_eq_true q; omega)
            have : atL (b :: r) 3 128 191 = false := by unfold atL; rw [this]
            rw [this]; simp
          · have hl : 4 ≤ (b :: r).length := by have := of_decide_eq_false q; omega
            obtain ⟨y, hy⟩ := geti 1 (by omega)
            obtain ⟨z, hz⟩ := geti 2 (by omega)
            obtain ⟨v, hv⟩ := geti 3 (by omega)
            have el : atL (b :: r) 1 lo hi = (decide (lo ≤ y) && decide (y ≤ hi)) := by unfold atL; rw [hy]
            have el2 : atL (b :: r) 2 128 191 = (decide (128 ≤ z) && decide (z ≤ 191)) := by unfold atL; rw [hz]
            have el3 : atL (b :: r) 3 128 191 = (decide (128 ≤ v) && decide (v ≤ 191)) := by unfold atL; rw [hv]
            have i1 : (1 : Int) < (((b :: r).length : Nat) : Int) := by omega
            have i2 : (2 : Int) < (((b :: r).length : Nat) : Int) := by omega
            have i3 : (3 : Int) < (((b :: r).length : Nat) : Int) := by omega
            refine ⟨ad, rfl, by decide, i1, _, cell 1 y hy, brB_of (fun q2 => fin _ ?_) fun q2 => ⟨ad, rfl, by decide, i1, _, cell 1 y hy, brB_of (fun q3 => fin _ ?_) fun q3 => ⟨ad, rfl, by decide, i2, _, cell 2 z hz, brB_of (fun q4 => fin _ ?_) fun q4 => ⟨ad, rfl, by decide, i2, _, cell 2 z hz, brB_of (fun q5 => fin _ ?_) fun q5 => ⟨ad, rfl, by decide, i3, _, cell 3 v hv, brB_of (fun q6 => fin _ ?_) fun q6 => ⟨ad, rfl, by decide, i3, _, cell 3 v hv, fin _ ?_⟩⟩⟩⟩⟩⟩
            · have := (lt_of y lo).1 q2; rw [el]; simp [this]
            · have := (lt_of hi y).1 q3; rw [el]; simp [this]
            · have := (lt_of z 128).1 q4; rw [el2]; simp [this]
            · have := (lt_of 191 z).1 q5; rw [el2]; simp [this]
            · have := (lt_of v 128).1 q6; rw [el3]; simp [this]
            · have a1 : lo ≤ y := by
                cases Classical.em (lo ≤ y) with
                | inl z => exact z
                | inr z => rw [(lt_of y lo).2 z] at q2; cases q2
              have a2 : y ≤ hi := by
                cases Classical.em (y ≤ hi) with
                | inl z => exact z
                | inr z => rw [(lt_of hi y).2 z] at q3; cases q3
              have a3 : (128 : UInt8) ≤ z := by
                cases Classical.em ((128 : UInt8) ≤ z) with
                | inl z => exact z
                | inr w => rw [show decide (((z.toNat : Nat) : Int) < 128) = true from (lt_of z 128).2 w] at q4; cases q4
              have a4 : z ≤ (191 : UInt8) := by
                cases Classical.em (z ≤ (191 : UInt8)) with
                | inl z => exact z
                | inr w => rw [show decide ((191 : Int) < ((z.toNat : Nat) : Int)) = true from (lt_of 191 z).2 w] at q5; cases q5
              have a5 : (128 : UInt8) ≤ v := by
                cases Classical.em ((128 : UInt8) ≤ v) with
                | inl z => exact z
                | inr w => rw [show decide (((v.toNat : Nat) : Int) < 128) = true from (lt_of v 128).2 w] at q6; cases q6
              rw [el, el2, el3, dec_lt' 191 v (m := 191) rfl]; simp [a1, a2, a3, a4, a5]
end
/-- utf8.Valid. -/
theorem f60_spec {w0 : World} {K : Value → AH → Prop} {h : AH} {a : Option Addr} {c : Nat} {l : List UInt8} (T : TabOk w0) (hr : Rd w0 h a (u8s l)) (hc : l.length ≤ c) (hk : K (.bool (validU l)) h) : EvC Go.Proofs.Tryd.prog w0 60 #[.slice a l.length c] K h := by
  refine f60_go _ _ _ _ ⟨by omega, by omega, by omega, ?_⟩
  rw [Int.toNat_natCast]
  exact f60_2s T l.length l a l.length (Nat.le_refl _) hr (Nat.le_refl _) hk
end Go.G.YtnmngjffebbbnaaDoor
