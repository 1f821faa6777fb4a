/- Valid UTF-8. -/
import Derived.Test.YtnmngjffebbbnaaDoorTB
import Derived.Test.YtnmngjffebbbnaaDoorProg
set_option maxRecDepth 100000
namespace Go.G.YtnmngjffebbbnaaDoor
open Go.RowKit
open Value (string slice int bool agg)
theorem valid_fuel : ∀ (n m : Nat) (l : List UInt8), l.length ≤ n → l.length ≤ m → validF sizeU n l = validF sizeU m l
  | _, _, [], _, _ => by simp [validF]
  | 0, _, _ :: _, h, _ => by simp at h
  | _, 0, _ :: _, _, h => by simp at h
  | n + 1, m + 1, b :: r, h1, h2 => by
    unfold validF
    split
    · rfl
    · rename_i q
      have : ((b :: r).drop (sizeU (b :: r))).length ≤ r.length := by rw [List.length_drop, List.length_cons]; omega
      simp at h1 h2
      exact valid_fuel n m _ (by omega) (by omega)
theorem validU_none {b : UInt8} {r : List UInt8} (h : sizeU (b :: r) = 0) : validU (b :: r) = false := by
  show validF sizeU (r.length + 1) (b :: r) = false
  unfold validF; rw [if_pos h]
theorem validU_some {b : UInt8} {r : List UInt8} (h : sizeU (b :: r) ≠ 0) : validU (b :: r) = validU ((b :: r).drop (sizeU (b :: r))) := by
  show validF sizeU (r.length + 1) (b :: r) = _
  unfold validF; rw [if_neg h]
  exact valid_fuel _ _ _ (by rw [List.length_drop, List.length_cons]; omega) (Nat.le_refl _)
theorem validU_ascii {b : UInt8} {r : List UInt8} (h : b < 128) : validU (b :: r) = validU r := by
  have e : sizeU (b :: r) = 1 := by simp [sizeU, h]
  rw [validU_some (by omega), e]; rfl
theorem validU_drop : ∀ (k : Nat) (l : List UInt8), (∀ i, i < k → ∃ x, l[i]? = some x ∧ x < 128) → validU l = validU (l.drop k)
  | 0, l, _ => rfl
  | k + 1, l, h => by
    match l, h with
    | [], h => obtain ⟨x, e, _⟩ := h 0 (by omega); simp at e
    | b :: r, h =>
      obtain ⟨x, e, hx⟩ := h 0 (by omega)
      simp at e; subst e
      rw [validU_ascii hx]
      exact validU_drop k r fun i hi => h (i + 1) (by omega)

/-! the library's tables -/
def kindU (c : UInt8) : Nat × UInt8 × UInt8 :=
  if decide (194 ≤ c) && decide (c ≤ 223) then (2, 128, 191) else if c == 224 then (3, 160, 191) else if c == 237 then (3, 128, 159)
  else if decide (225 ≤ c) && decide (c ≤ 239) then (3, 128, 191) else if c == 240 then (4, 144, 191) else if decide (241 ≤ c) && decide (c ≤ 243) then (4, 128, 191) else if c == 244 then (4, 128, 143) else (1, 0, 0)
def tabF (n : Nat) : Nat :=
  if n < 128 then 240 else if n < 194 then 241 else if n < 224 then 2 else if n = 224 then 19 else if n < 237 then 3 else if n = 237 then 35 else if n < 240 then 3 else if n = 240 then 52 else if n < 244 then 4 else if n = 244 then 68 else 241
def accL (i : Nat) : Nat := match i with | 0 => 128 | 1 => 160 | 2 => 128 | 3 => 144 | 4 => 128 | _ => 0
def accH (i : Nat) : Nat := match i with | 0 => 191 | 1 => 191 | 2 => 159 | 3 => 191 | 4 => 143 | _ => 0
/-- The two tables lie there. -/
structure TabOk (w0 : World) : Prop where
  first : ∀ i, i < 256 → w0.cell? ⟨0, i, none⟩ = some (.int .u8 ((tabF i : Nat) : Int))
  low : ∀ i, i < 16 → w0.cell? ⟨1, i * 2, none⟩ = some (.int .u8 ((accL i : Nat) : Int))
  high : ∀ i, i < 16 → w0.cell? ⟨1, i * 2 + 1, none⟩ = some (.int .u8 ((accH i : Nat) : Int))
theorem glob_cell {w0 : World} {h : AH} {g i : Nat} {x : Value} (hc : w0.cell? ⟨g, i, none⟩ = some x) : cellA w0 h (Addr.add ⟨g, 0, none⟩ i) = some x := by
  rw [add_plain, Nat.zero_add]
  have := block_of_cell hc
  simp only [cellA]
  rw [if_pos this]; exact hc
theorem tab_facts : ∀ n, n < 256 → 128 ≤ n → tabF n < 256 ∧ tabF n / 16 < 16 ∧ (tabF n % 8 = (kindU (UInt8.ofNat n)).1 ∨ (tabF n % 8 = 1 ∧ (kindU (UInt8.ofNat n)).1 = 1)) ∧ ((kindU (UInt8.ofNat n)).1 ≠ 1 → accL (tabF n / 16) = (kindU (UInt8.ofNat n)).2.1.toNat ∧ accH (tabF n / 16) = (kindU (UInt8.ofNat n)).2.2.toNat) := by decide +kernel
theorem kind_range (c : UInt8) : (kindU c).1 = 1 ∨ (kindU c).1 = 2 ∨ (kindU c).1 = 3 ∨ (kindU c).1 = 4 := by
  unfold kindU
  repeat' split
  all_goals simp
theorem size_kind {c : UInt8} {r : List UInt8} (hc : 128 ≤ c) : sizeU (c :: r) = match (kindU c).1 with
    | 2 => if atL (c :: r) 1 (kindU c).2.1 (kindU c).2.2 then 2 else 0
    | 3 => if atL (c :: r) 1 (kindU c).2.1 (kindU c).2.2 && atL (c :: r) 2 128 191 then 3 else 0
    | 4 => if atL (c :: r) 1 (kindU c).2.1 (kindU c).2.2 && atL (c :: r) 2 128 191 && atL (c :: r) 3 128 191 then 4 else 0
    | _ => 0 := by
  have hn : ¬ c < 128 := UInt8.not_lt.2 hc
  rw [sizeU_r, if_neg hn]
  unfold r3
  by_cases h1 : (decide (194 ≤ c) && decide (c ≤ 223)) = true
  · have e : kindU c = (2, 128, 191) := by unfold kindU; rw [if_pos h1]
    have hm : c.toNat ≤ 223 := by simp at h1; exact UInt8.le_iff_toNat_le.1 h1.2
    rw [e, h1]
    have z : r5 c (c :: r) = 0 := by
      have n1 : (c == 224) = false := by simp; intro q; subst q; exact absurd hm (by decide)
      have n2 : (c == 237) = false := by simp; intro q; subst q; exact absurd hm (by decide)
      have n3 : decide (225 ≤ c) = false := by simp; rw [UInt8.lt_iff_toNat_lt]; show c.toNat < 225; omega
      have n4 : (c == 240) = false := by simp; intro q; subst q; exact absurd hm (by decide)
      have n5 : decide (241 ≤ c) = false := by simp; rw [UInt8.lt_iff_toNat_lt]; show c.toNat < 241; omega
      have n6 : (c == 244) = false := by simp; intro q; subst q; exact absurd hm (by decide)
      unfold r5 r7 r9 r11 r13 r15
      rw [n1, n2, n3, n4, n5, n6]
      rfl
    rw [z]
    cases atL (c :: r) 1 128 191 <;> rfl
  have h1' : (decide (194 ≤ c) && decide (c ≤ 223)) = false := by simpa using h1
  rw [h1']
  show r5 c (c :: r) = _
  unfold r5
  by_cases h2 : c = 224
  · subst h2
    have z : ∀ l, r7 224 l = 0 := fun l => rfl
    rw [z]
    show (if ((224 : UInt8) == 224 && atL (224 :: r) 1 160 191 && atL (224 :: r) 2 128 191) = true then 3 else 0) = _
    simp only [beq_self_eq_true, Bool.true_and]
    rfl
  have h2' : (c == 224) = false := by simpa using h2
  rw [h2']
  show r7 c (c :: r) = _
  unfold r7
  by_cases h3 : c = 237
  · subst h3
    have z : ∀ l, r9 237 l = 0 := fun l => rfl
    rw [z]
    show (if ((237 : UInt8) == 237 && atL (237 :: r) 1 128 159 && atL (237 :: r) 2 128 191) = true then 3 else 0) = _
    simp only [beq_self_eq_true, Bool.true_and]
    rfl
  have h3' : (c == 237) = false := by simpa using h3
  rw [h3']
  show r9 c (c :: r) = _
  unfold r9
  by_cases h4 : (decide (225 ≤ c) && decide (c ≤ 239)) = true
  · have e : kindU c = (3, 128, 191) := by unfold kindU; rw [if_neg h1, if_neg (by simp [h2]), if_neg (by simp [h3]), if_pos h4]
    have hm : c.toNat ≤ 239 := by simp at h4; exact UInt8.le_iff_toNat_le.1 h4.2
    have n0 : (c != 237) = true := by simpa using h3
    rw [e, h4, n0]
    have z : r11 c (c :: r) = 0 := by
      have n4 : (c == 240) = false := by simp; intro q; subst q; exact absurd hm (by decide)
      have n5 : decide (241 ≤ c) = false := by simp; rw [UInt8.lt_iff_toNat_lt]; show c.toNat < 241; omega
      have n6 : (c == 244) = false := by simp; intro q; subst q; exact absurd hm (by decide)
      unfold r11 r13 r15
      rw [n4, n5, n6]
      rfl
    rw [z]
    cases atL (c :: r) 1 128 191 <;> cases atL (c :: r) 2 128 191 <;> rfl
  have h4' : (decide (225 ≤ c) && decide (c ≤ 239)) = false := by simpa using h4
  rw [h4']
  show r11 c (c :: r) = _
  unfold r11
  by_cases h5 : c = 240
  · subst h5
    have z : ∀ l, r13 240 l = 0 := fun l => rfl
    rw [z]
    show (if ((240 : UInt8) == 240 && atL (240 :: r) 1 144 191 && atL (240 :: r) 2 128 191 && atL (240 :: r) 3 128 191) = true then 4 else 0) = _
    simp only [beq_self_eq_true, Bool.true_and]
    rfl
  have h5' : (c == 240) = false := by simpa using h5
  rw [h5']
  show r13 c (c :: r) = _
  unfold r13
  by_cases h6 : (decide (241 ≤ c) && decide (c ≤ 243)) = true
  · have e : kindU c = (4, 128, 191) := by unfold kindU; rw [if_neg h1, if_neg (by simp [h2]), if_neg (by simp [h3]), if_neg h4, if_neg (by simp [h5]), if_pos h6]
    have hm : c.toNat ≤ 243 := by simp at h6; exact UInt8.le_iff_toNat_le.1 h6.2
    rw [e, h6]
    have z : r15 c (c :: r) = 0 := by
      have n6 : (c == 244) = false := by simp; intro q; subst q; exact absurd hm (by decide)
      unfold r15
      rw [n6]
      rfl
    rw [z]
    cases atL (c :: r) 1 128 191 <;> cases atL (c :: r) 2 128 191 <;> cases atL (c :: r) 3 128 191 <;> rfl
  have h6' : (decide (241 ≤ c) && decide (c ≤ 243)) = false := by simpa using h6
  rw [h6']
  show r15 c (c :: r) = _
  unfold r15
  by_cases h7 : c = 244
  · subst h7
    show (if ((244 : UInt8) == 244 && atL (244 :: r) 1 128 143 && atL (244 :: r) 2 128 191 && atL (244 :: r) 3 128 191) = true then 4 else 0) = _
    simp only [beq_self_eq_true, Bool.true_and]
    rfl
  have h7' : (c == 244) = false := by simpa using h7
  have e : kindU c = (1, 0, 0) := by unfold kindU; rw [if_neg h1, if_neg (by simp [h2]), if_neg (by simp [h3]), if_neg h4, if_neg (by simp [h5]), if_neg h6, if_neg (by simp [h7])]
  rw [h7', e]
  rfl

/-! eight bytes at once -/
def wordB (b : List Nat) : BitVec 64 := (b.zipIdx.map fun p => BitVec.ofNat 64 (p.1 * 2 ^ (8 * p.2))).foldl (· ||| ·) 0
def himask : BitVec 64 := BitVec.ofNat 64 9259542123273814144
theorem mask_bit : ∀ k, k < 8 → himask.getLsbD (8 * k + 7) = true := by decide
theorem bit_of {b k j : Nat} (hb : b < 256) (hj : j < 8) (hk : k < 8) : (BitVec.ofNat 64 (b * 2 ^ (8 * k))).getLsbD (8 * j + 7) = (decide (k = j) && decide (128 ≤ b)) := by
  rw [BitVec.getLsbD_ofNat, Nat.testBit_mul_two_pow]
  by_cases h : k = j
  · subst h
    have : b.testBit 7 = decide (128 ≤ b) := by
      rw [Nat.testBit_eq_decide_div_mod_eq, decide_eq_decide]; omega
    rw [show 8 * k + 7 - 8 * k = 7 by omega, this]
    simp; omega
  · by_cases hlt : k < j
    · have : b.testBit (8 * j + 7 - 8 * k) = false := Nat.testBit_lt_two_pow (Nat.lt_of_lt_of_le hb (show 2 ^ 8 ≤ 2 ^ (8 * j + 7 - 8 * k) from Nat.pow_le_pow_right (by omega) (by omega)))
      simp [this, h]
    · simp [h]; omega
end Go.G.YtnmngjffebbbnaaDoor
