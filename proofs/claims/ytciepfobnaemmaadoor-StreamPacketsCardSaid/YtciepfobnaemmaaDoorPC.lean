/- Bits; the length; the first byte. -/
import Derived.Test.YtciepfobnaemmaaDoorPB
import Derived.Test.YtciepfobnaemmaaDoorProg
set_option maxRecDepth 100000
namespace Go.G.YtciepfobnaemmaaDoor
open Go.RowKit
open Value (string slice int bool agg)
def f32_J : Nat → List Nat × Nat := jOf [(10000, (1 :: (2 :: (3 :: (4 :: (rn 36 29 []))))), 0)]

def f32_10000 (w0 : World) (K : Value → AH → Prop) (a : Option Addr) (b c : Nat) (d e : Int) (h : AH) : Prop :=
  ∀ j : Nat → Value, LPk Proofs.Tryd.prog w0 (EvC Proofs.Tryd.prog w0) f32_J 32 K 10000 (.v (.slice a b c) :: (jv j 5 4 (.v (.int .i64 d) :: (.v (.int .i64 e) :: (jv j 36 29 []))))) [] h

theorem f32_10000_in {w0 : World} {K : Value → AH → Prop} (c : Option Addr) (b g : Nat) (d a : Int) (h : AH)
  (hv : (brB (a == (4 : Int)) (K (Value.tuple #[(int .i64 (0 : Int)), (int .i64 (0 : Int)), (int .i64 (3 : Int))]) h) (brB (a == ((b : Nat) : Int)) (K (Value.tuple #[(int .i64 (0 : Int)), (int .i64 (0 : Int)), (int .i64 (5 : Int))]) h) (∃ i : Addr, ((c = (some i)) ∧ (((0 : Int) ≤ a) ∧ ((a < ((b : Nat) : Int)) ∧ (∃ e : Int, (((cellA w0 h (Addr.add i ((Int.toNat a) * 1))) = (some (int .u8 e))) ∧ (((0 : Int) ≤ (IntKind.wrap .i64 ((7 : Int) * a))) ∧ (∃ k : Addr, ((c = (some k)) ∧ (((0 : Int) ≤ (IntKind.wrap .i64 ((IntKind.wrap .i64 (a + (1 : Int))) - (1 : Int)))) ∧ (((IntKind.wrap .i64 ((IntKind.wrap .i64 (a + (1 : Int))) - (1 : Int))) < ((b : Nat) : Int)) ∧ (∃ m : Int, (((cellA w0 h (Addr.add k ((Int.toNat (IntKind.wrap .i64 ((IntKind.wrap .i64 (a + (1 : Int))) - (1 : Int)))) * 1))) = (some (int .u8 m))) ∧ (brB (decide (((128 : Int) ≤ m))) (f32_10000 w0 K c b g (IntKind.wrap .i64 (((BitVec.toNat ((BitVec.ofInt 64 d) ||| (BitVec.ofInt 64 (IntKind.wrap .i64 ((IntKind.wrap .i64 (IntKind.wrap .u8 (((BitVec.toNat ((BitVec.ofInt 8 e) &&& (BitVec.ofInt 8 (127 : Int)))) : Nat) : Int))) * ((2 : Int) ^ (Min.min (Int.toNat (IntKind.wrap .i64 ((7 : Int) * a))) 64))))))) : Nat) : Int)) (IntKind.wrap .i64 (a + (1 : Int))) h) (K (Value.tuple #[(int .i64 (IntKind.wrap .i64 (((BitVec.toNat ((BitVec.ofInt 64 d) ||| (BitVec.ofInt 64 (IntKind.wrap .i64 ((IntKind.wrap .i64 (IntKind.wrap .u8 (((BitVec.toNat ((BitVec.ofInt 8 e) &&& (BitVec.ofInt 8 (127 : Int)))) : Nat) : Int))) * ((2 : Int) ^ (Min.min (Int.toNat (IntKind.wrap .i64 ((7 : Int) * a))) 64))))))) : Nat) : Int))), (int .i64 (IntKind.wrap .i64 (a + (1 : Int)))), (int .i64 (0 : Int))]) h)))))))))))))))))) :
  f32_10000 w0 K c b g d a h := fun j => LP_intro (P := Proofs.Tryd.prog) (Eq.mp (by kernel_rfl) hv)

theorem f32_go {w0 : World} {K : Value → AH → Prop} (b : Option Addr) (a d : Nat) (h : AH)
  (hv : (brB ((0 : Int) == ((a : Nat) : Int)) (K (Value.tuple #[(int .i64 (0 : Int)), (int .i64 (0 : Int)), (int .i64 (5 : Int))]) h) (∃ e : Addr, ((b = (some e)) ∧ (((0 : Int) ≤ (0 : Int)) ∧ (((0 : Int) < ((a : Nat) : Int)) ∧ (∃ c : Int, (((cellA w0 h (Addr.add e 0)) = (some (int .u8 c))) ∧ (((0 : Int) ≤ (0 : Int)) ∧ (∃ g : Addr, ((b = (some g)) ∧ (((0 : Int) ≤ (0 : Int)) ∧ (((0 : Int) < ((a : Nat) : Int)) ∧ (∃ i : Int, (((cellA w0 h (Addr.add g 0)) = (some (int .u8 i))) ∧ (brB (decide (((128 : Int) ≤ i))) (f32_10000 w0 K b a d (IntKind.wrap .i64 (((BitVec.toNat ((BitVec.ofInt 64 (0 : Int)) ||| (BitVec.ofInt 64 (IntKind.wrap .i64 ((IntKind.wrap .i64 (IntKind.wrap .u8 (((BitVec.toNat ((BitVec.ofInt 8 c) &&& (BitVec.ofInt 8 (127 : Int)))) : Nat) : Int))) * (1 : Int)))))) : Nat) : Int)) (1 : Int) h) (K (Value.tuple #[(int .i64 (IntKind.wrap .i64 (((BitVec.toNat ((BitVec.ofInt 64 (0 : Int)) ||| (BitVec.ofInt 64 (IntKind.wrap .i64 ((IntKind.wrap .i64 (IntKind.wrap .u8 (((BitVec.toNat ((BitVec.ofInt 8 c) &&& (BitVec.ofInt 8 (127 : Int)))) : Nat) : Int))) * (1 : Int)))))) : Nat) : Int))), (int .i64 (1 : Int)), (int .i64 (0 : Int))]) h))))))))))))))))) :
  EvC Proofs.Tryd.prog w0 32 ([(.slice b a d)]).toArray K h := EvC_intro (P := Proofs.Tryd.prog) f32_J (Eq.mp (by kernel_rfl) hv)
def f20_J : Nat → List Nat × Nat := jOf [(3, (1 :: (2 :: (3 :: (4 :: (6 :: (rn 35 27 [])))))), 0)]

def f20_3 (w0 : World) (K : Value → AH → Prop) (a : Option Addr) (b c : Nat) (d e : Int) (h : AH) : Prop :=
  ∀ j : Nat → Value, LPk Proofs.Tryd.prog w0 (EvC Proofs.Tryd.prog w0) f20_J 20 K 3 (.v (.slice a b c) :: (jv j 5 4 (.v (.int .i64 d) :: (jv j 7 1 (.v (.int .i64 e) :: (jv j 35 27 [])))))) [] h

theorem f20_3_in {w0 : World} {K : Value → AH → Prop} (c : Option Addr) (b g : Nat) (d a : Int) (h : AH)
  (hv : (brB (decide ((a < (4 : Int)))) (brB (a == ((b : Nat) : Int)) (K (Value.tuple #[(int .i64 (0 : Int)), (int .i64 (0 : Int)), (int .i64 (5 : Int))]) h) (∃ i : Addr, ((c = (some i)) ∧ (((0 : Int) ≤ a) ∧ ((a < ((b : Nat) : Int)) ∧ (∃ e : Int, (((cellA w0 h (Addr.add i ((Int.toNat a) * 1))) = (some (int .u8 e))) ∧ (((0 : Int) ≤ (IntKind.wrap .u64 (IntKind.wrap .i64 ((7 : Int) * a)))) ∧ (∃ k : Addr, ((c = (some k)) ∧ (((0 : Int) ≤ a) ∧ ((a < ((b : Nat) : Int)) ∧ (∃ m : Int, (((cellA w0 h (Addr.add k ((Int.toNat a) * 1))) = (some (int .u8 m))) ∧ (brB (decide ((m < (128 : Int)))) (K (Value.tuple #[(int .i64 (IntKind.wrap .i64 (((BitVec.toNat ((BitVec.ofInt 64 d) ||| (BitVec.ofInt 64 (IntKind.wrap .i64 ((IntKind.wrap .i64 (IntKind.wrap .u8 (((BitVec.toNat ((BitVec.ofInt 8 e) &&& (BitVec.ofInt 8 (127 : Int)))) : Nat) : Int))) * ((2 : Int) ^ (Min.min (Int.toNat (IntKind.wrap .u64 (IntKind.wrap .i64 ((7 : Int) * a)))) 64))))))) : Nat) : Int))), (int .i64 (IntKind.wrap .i64 (a + (1 : Int)))), (int .i64 (0 : Int))]) h) (f20_3 w0 K c b g (IntKind.wrap .i64 (((BitVec.toNat ((BitVec.ofInt 64 d) ||| (BitVec.ofInt 64 (IntKind.wrap .i64 ((IntKind.wrap .i64 (IntKind.wrap .u8 (((BitVec.toNat ((BitVec.ofInt 8 e) &&& (BitVec.ofInt 8 (127 : Int)))) : Nat) : Int))) * ((2 : Int) ^ (Min.min (Int.toNat (IntKind.wrap .u64 (IntKind.wrap .i64 ((7 : Int) * a)))) 64))))))) : Nat) : Int)) (IntKind.wrap .i64 (a + (1 : Int))) h)))))))))))))))) (K (Value.tuple #[(int .i64 (0 : Int)), (int .i64 (0 : Int)), (int .i64 (3 : Int))]) h))) :
  f20_3 w0 K c b g d a h := fun j => LP_intro (P := Proofs.Tryd.prog) (Eq.mp (by kernel_rfl) hv)

theorem f20_go {w0 : World} {K : Value → AH → Prop} (a : Option Addr) (b c : Nat) (h : AH)
  (hv : (f20_3 w0 K a b c (0 : Int) (0 : Int) h)) :
  EvC Proofs.Tryd.prog w0 20 ([(.slice a b c)]).toArray K h := EvC_intro (P := Proofs.Tryd.prog) f20_J (Eq.mp (by kernel_rfl) hv)
def f33_J : Nat → List Nat × Nat := jOf [(5, (0 :: (1 :: (2 :: (3 :: (rn 10 5 (rn 37 25 [])))))), 0), (11, (0 :: (1 :: (2 :: (3 :: (rn 29 24 (rn 37 7 [])))))), 0)]

def f33_5 (w0 : World) (K : Value → AH → Prop) (a b : Int) (c : Bool) (h : AH) : Prop :=
  ∀ j : Nat → Value, LPk Proofs.Tryd.prog w0 (EvC Proofs.Tryd.prog w0) f33_J 33 K 5 (jv j 4 4 (.v (.int .u8 a) :: (jv j 10 5 (.v (.int .i64 b) :: (.v (.bool c) :: (jv j 37 25 [])))))) [] h

def f33_11 (w0 : World) (K : Value → AH → Prop) (a : Int) (b : Bool) (h : AH) : Prop :=
  ∀ j : Nat → Value, LPk Proofs.Tryd.prog w0 (EvC Proofs.Tryd.prog w0) f33_J 33 K 11 (jv j 4 4 (.v (.int .u8 a) :: (jv j 29 24 (.v (.bool b) :: (jv j 37 7 []))))) [] h

theorem f33_5_in {w0 : World} {K : Value → AH → Prop} (a b : Int) (c : Bool) (h : AH)
  (hv : (brB c (K (bool false) h) (brB (b == (3 : Int)) (brB ((IntKind.wrap .u8 (((BitVec.toNat ((BitVec.ofInt 8 a) &&& (BitVec.ofInt 8 (6 : Int)))) : Nat) : Int)) != (6 : Int)) (brB ((IntKind.wrap .u8 (((BitVec.toNat ((BitVec.ofInt 8 a) &&& (BitVec.ofInt 8 (8 : Int)))) : Nat) : Int)) == (0 : Int)) (K (bool true) h) (K (bool ((IntKind.wrap .u8 (((BitVec.toNat ((BitVec.ofInt 8 a) &&& (BitVec.ofInt 8 (6 : Int)))) : Nat) : Int)) != (0 : Int))) h)) (K (bool false) h)) (brB (b == (6 : Int)) (f33_11 w0 K a true h) (brB (b == (8 : Int)) (f33_11 w0 K a true h) (f33_11 w0 K a (b == (10 : Int)) h)))))) :
  f33_5 w0 K a b c h := fun j => LP_intro (P := Proofs.Tryd.prog) (Eq.mp (by kernel_rfl) hv)

theorem f33_11_in {w0 : World} {K : Value → AH → Prop} (a : Int) (b : Bool) (h : AH)
  (hv : (brB b (K (bool (a == (2 : Int))) h) (K (bool (a == (0 : Int))) h))) :
  f33_11 w0 K a b h := fun j => LP_intro (P := Proofs.Tryd.prog) (Eq.mp (by kernel_rfl) hv)

theorem f33_go {w0 : World} {K : Value → AH → Prop} (a : Int) (h : AH)
  (hv : (((0 : Int) ≤ (4 : Int)) ∧ (brB ((IntKind.wrap .i64 (Int.fdiv a (16 : Int))) == (0 : Int)) (f33_5 w0 K (IntKind.wrap .u8 (((BitVec.toNat ((BitVec.ofInt 8 a) &&& (BitVec.ofInt 8 (15 : Int)))) : Nat) : Int)) (IntKind.wrap .i64 (Int.fdiv a (16 : Int))) true h) (f33_5 w0 K (IntKind.wrap .u8 (((BitVec.toNat ((BitVec.ofInt 8 a) &&& (BitVec.ofInt 8 (15 : Int)))) : Nat) : Int)) (IntKind.wrap .i64 (Int.fdiv a (16 : Int))) ((IntKind.wrap .i64 (Int.fdiv a (16 : Int))) == (15 : Int)) h)))) :
  EvC Proofs.Tryd.prog w0 33 ([(.int .u8 a)]).toArray K h := EvC_intro (P := Proofs.Tryd.prog) f33_J (Eq.mp (by kernel_rfl) hv)
def f53_J : Nat → List Nat × Nat := jOf [(10, [0, 1, 2, 3, 5, 6, 7, 8, 9, 10, 11, 12], 0)]

def f53_10 (w0 : World) (K : Value → AH → Prop) (a : Bool) (h : AH) : Prop :=
  ∀ j : Nat → Value, LPk Proofs.Tryd.prog w0 (EvC Proofs.Tryd.prog w0) f53_J 53 K 10 (jv j 4 4 (.v (.bool a) :: (jv j 13 8 []))) [] h

theorem f53_10_in {w0 : World} {K : Value → AH → Prop} (a : Bool) (h : AH)
  (hv : (brB a (K (bool true) h) (K (bool false) h))) :
  f53_10 w0 K a h := fun j => LP_intro (P := Proofs.Tryd.prog) (Eq.mp (by kernel_rfl) hv)

theorem f53_go {w0 : World} {K : Value → AH → Prop} (a : Int) (h : AH)
  (hv : (brB (a == (4 : Int)) (f53_10 w0 K true h) (brB (a == (5 : Int)) (f53_10 w0 K true h) (brB (a == (6 : Int)) (f53_10 w0 K true h) (brB (a == (7 : Int)) (f53_10 w0 K true h) (brB (a == (8 : Int)) (f53_10 w0 K true h) (brB (a == (9 : Int)) (f53_10 w0 K true h) (brB (a == (10 : Int)) (f53_10 w0 K true h) (f53_10 w0 K (a == (11 : Int)) h))))))))) :
  EvC Proofs.Tryd.prog w0 53 ([(.int .i64 a)]).toArray K h := EvC_intro (P := Proofs.Tryd.prog) f53_J (Eq.mp (by kernel_rfl) hv)
def f57_J : Nat → List Nat × Nat := jOf []



theorem f57_go {w0 : World} {K : Value → AH → Prop} (a : Int) (h : AH)
  (hv : (brB (decide (((0 : Int) ≤ a))) (brB (decide ((a ≤ (2 : Int)))) (K (bool true) h) (K (bool (a == (128 : Int))) h)) (K (bool (a == (128 : Int))) h))) :
  EvC Proofs.Tryd.prog w0 57 ([(.int .i64 a)]).toArray K h := EvC_intro (P := Proofs.Tryd.prog) f57_J (Eq.mp (by kernel_rfl) hv)
/-! ### bits; the length at the front; the first byte -/
theorem and8 {n c : Nat} {z : Int} (hz : z = ((c : Nat) : Int)) (hn : n < 256) (hc : c < 256) : IntKind.u8.wrap (((BitVec.toNat ((BitVec.ofInt 8 ((n : Nat) : Int)) &&& (BitVec.ofInt 8 z))) : Nat) : Int) = ((n &&& c : Nat) : Int) := by
  subst hz
  rw [ofInt_nat, ofInt_nat, BitVec.toNat_and, BitVec.toNat_ofNat, BitVec.toNat_ofNat, Nat.mod_eq_of_lt (by omega), Nat.mod_eq_of_lt (by omega), wrap8, Nat.mod_eq_of_lt (Nat.lt_of_le_of_lt Nat.and_le_left hn)]
theorem and64 {n c : Nat} {z : Int} (hz : z = ((c : Nat) : Int)) (hn : n < 9223372036854775808) (hc : c < 9223372036854775808) : IntKind.i64.wrap (((BitVec.toNat ((BitVec.ofInt 64 ((n : Nat) : Int)) &&& (BitVec.ofInt 64 z))) : Nat) : Int) = ((n &&& c : Nat) : Int) := by
  subst hz
  have : n &&& c ≤ n := Nat.and_le_left
  rw [ofInt_nat, ofInt_nat, BitVec.toNat_and, BitVec.toNat_ofNat, BitVec.toNat_ofNat, Nat.mod_eq_of_lt (by omega), Nat.mod_eq_of_lt (by omega), wrap64 (by omega) (by omega)]
theorem fdivN (n k : Nat) {z : Int} (hz : z = ((k : Nat) : Int)) : Int.fdiv ((n : Nat) : Int) z = ((n / k : Nat) : Int) := by
  subst hz
  rw [Int.fdiv_eq_ediv_of_nonneg _ (Int.natCast_nonneg _)]; rfl
theorem natBne (n : Nat) : (((n : Nat) : Int) != 0) = !(decide (n = 0)) := by
  rw [Bool.eq_iff_iff]; simp
theorem natBeq (n m : Nat) {z : Int} (hz : z = ((m : Nat) : Int)) : (((n : Nat) : Int) == z) = decide (n = m) := by
  subst hz
  rw [Bool.eq_iff_iff]; simp [Int.natCast_inj]
theorem bit_and {i : Nat} (hi : i < 8) : ∀ n, n < 256 → (!(decide (n &&& 2 ^ i = 0))) = bitN n i := by
  have : ∀ i, i < 8 → ∀ n, n < 256 → (!(decide (n &&& 2 ^ i = 0))) = bitN n i := by decide
  exact this i hi
theorem bit8 {n c i : Nat} {z : Int} (hz : z = ((c : Nat) : Int)) (hc : c = 2 ^ i) (hi : i < 8) (hn : n < 256) : (IntKind.u8.wrap (((BitVec.toNat ((BitVec.ofInt 8 ((n : Nat) : Int)) &&& (BitVec.ofInt 8 z))) : Nat) : Int) != (0 : Int)) = bitN n i := by
  have h2 : (2 : Nat) ^ i ≤ 2 ^ 7 := Nat.pow_le_pow_right (by decide) (by omega)
  rw [and8 hz hn (by omega), natBne, hc, bit_and hi n hn]
theorem bit64 {n c i : Nat} {z : Int} (hz : z = ((c : Nat) : Int)) (hc : c = 2 ^ i) (hi : i < 8) (hn : n < 256) : (IntKind.i64.wrap (((BitVec.toNat ((BitVec.ofInt 64 ((n : Nat) : Int)) &&& (BitVec.ofInt 64 z))) : Nat) : Int) != (0 : Int)) = bitN n i := by
  have h2 : (2 : Nat) ^ i ≤ 2 ^ 7 := Nat.pow_le_pow_right (by decide) (by omega)
  rw [and64 hz (by omega) (by omega), natBne, hc, bit_and hi n hn]
theorem and3 : ∀ n, n < 256 → n &&& 3 = n % 4 := by decide
theorem and127 (b : UInt8) : IntKind.u8.wrap (((BitVec.toNat ((BitVec.ofInt 8 (b.toNat : Int)) &&& (BitVec.ofInt 8 (127 : Int)))) : Nat) : Int) = ((b.toNat % 128 : Nat) : Int) := by
  have e : ∀ m, m < 256 → m &&& 127 = m % 128 := by decide
  rw [and8 (c := 127) (z := 127) rfl b.toNat_lt (by decide), e _ b.toNat_lt]
theorem byte_at {w0 : World} {h : AH} {a : Option Addr} {l : List UInt8} {i : Nat} {x : UInt8} (hr : Rd w0 h a (u8s l)) (hi : l[i]? = some x) : ∃ ad, a = some ad ∧ cellA w0 h (Addr.add ad ((Int.toNat ((i : Nat) : Int)) * 1)) = some (.int .u8 ((x.toNat : Nat) : Int)) := by
  obtain ⟨ad, had, hc⟩ := rd8 hr hi
  exact ⟨ad, had, by rw [Int.toNat_natCast, Nat.mul_one]; exact hc⟩
theorem pow_step : ∀ k, k < 4 → (2 : Int) ^ (Min.min (Int.toNat (IntKind.i64.wrap ((7 : Int) * ((k : Nat) : Int)))) 64) = ((128 ^ k : Nat) : Int) := by
  intro k hk
  have : k = 0 ∨ k = 1 ∨ k = 2 ∨ k = 3 := by omega
  rcases this with rfl | rfl | rfl | rfl <;> decide
theorem pow_stepU : ∀ k, k < 4 → (2 : Int) ^ (Min.min (Int.toNat (IntKind.u64.wrap (IntKind.i64.wrap ((7 : Int) * ((k : Nat) : Int))))) 64) = ((128 ^ k : Nat) : Int) := by
  intro k hk
  have : k = 0 ∨ k = 1 ∨ k = 2 ∨ k = 3 := by omega
  rcases this with rfl | rfl | rfl | rfl <;> decide
theorem len_or {n k : Nat} (b : UInt8) (hk : k < 4) (hn : n < 128 ^ k) : IntKind.i64.wrap (((BitVec.toNat ((BitVec.ofInt 64 ((n : Nat) : Int)) ||| (BitVec.ofInt 64 (IntKind.i64.wrap ((IntKind.i64.wrap (IntKind.u8.wrap (((BitVec.toNat ((BitVec.ofInt 8 (b.toNat : Int)) &&& (BitVec.ofInt 8 (127 : Int)))) : Nat) : Int))) * ((128 ^ k : Nat) : Int)))))) : Nat) : Int) = ((n + b.toNat % 128 * 128 ^ k : Nat) : Int) := by
  have hp : 128 ^ k ≤ 128 ^ 3 := Nat.pow_le_pow_right (by decide) (by omega)
  have hm : b.toNat % 128 * 128 ^ k ≤ 127 * 128 ^ k := Nat.mul_le_mul_right _ (by omega)
  have e2 : 128 ^ k = 2 ^ (7 * k) := by rw [Nat.pow_mul]
  have eo : n ||| b.toNat % 128 * 128 ^ k = n + b.toNat % 128 * 128 ^ k := by
    rw [Nat.or_comm]
    rw [e2] at hn ⊢
    rw [or_add hn, Nat.add_comm]
  rw [and127, wrap64 (x := ((b.toNat % 128 : Nat) : Int)) (by omega) (by omega), ← Int.natCast_mul, wrap64 (x := ((b.toNat % 128 * 128 ^ k : Nat) : Int)) (by omega) (by omega), or_i64 (by omega) (by omega) (by omega), eo]
theorem len_grow {n k : Nat} (b : UInt8) (hn : n < 128 ^ k) : n + b.toNat % 128 * 128 ^ k < 128 ^ (k + 1) := by
  have hm : b.toNat % 128 * 128 ^ k ≤ 127 * 128 ^ k := Nat.mul_le_mul_right _ (by omega)
  rw [Nat.pow_succ]; omega
theorem lenF_step {f k n : Nat} {b : UInt8} {r : List UInt8} : lenF (f + 1) k n (b :: r) = if 128 ≤ b.toNat then lenF f (k + 1) (n + b.toNat % 128 * 128 ^ k) r else (n + b.toNat % 128 * 128 ^ k, k + 1, 0) := rfl
@[reducible] def lenV (v : Nat × Nat × Int) : Value := .tuple #[.int .i64 ((v.1 : Nat) : Int), .int .i64 ((v.2.1 : Nat) : Int), .int .i64 v.2.2]
section
variable {w0 : World} {K : Value → AH → Prop} {h : AH} {a : Option Addr} {c : Nat} {l : List UInt8}
theorem f32_loop (hr : Rd w0 h a (u8s l)) : ∀ (f k n : Nat), k + f = 4 → k ≤ l.length → n < 128 ^ k → K (lenV (lenF f k n (l.drop k))) h → f32_10000 w0 K a l.length c ((n : Nat) : Int) ((k : Nat) : Int) h
  | 0, k, n, hf, _, _, hk => by
    have : k = 4 := by omega
    subst this
    exact f32_10000_in _ _ _ _ _ _ (brB_of (fun _ => hk) fun z => by simp at z)
  | f + 1, k, n, hf, hle, hn, hk => by
    refine f32_10000_in _ _ _ _ _ _ (brB_of (fun z => by simp at z; omega) fun _ => brB_of (fun z => ?_) fun z => ?_)
    · rw [List.drop_eq_nil_of_le (by simp at z; omega)] at hk
      exact hk
    · have hlt : k < l.length := by
        have : k ≠ l.length := fun q => by rw [q] at z; simp at z
        omega
      have hg : l[k]? = some l[k] := List.getElem?_eq_getElem hlt
      rw [List.drop_eq_getElem_cons hlt] at hk
      generalize l[k] = x at hg hk
      obtain ⟨ad, had, hc⟩ := byte_at hr hg
      have e1 : IntKind.i64.wrap (IntKind.i64.wrap (((k : Nat) : Int) + 1) - 1) = ((k : Nat) : Int) := by
        rw [wrap64 (x := ((k : Nat) : Int) + 1) (by omega) (by omega), wrap64 (by omega) (by omega)]; omega
      rw [e1, wrapS (by omega), pow_step k (by omega)]
      refine ⟨ad, had, by omega, by omega, _, hc, by rw [wrap64 (by omega) (by omega)]; omega, ad, had, by omega, by omega, _, hc, ?_⟩
      rw [len_or x (by omega) hn]
      rw [lenF_step] at hk
      refine brB_of (fun z => ?_) fun z => ?_
      · rw [if_pos (by have := of_decide_eq_true z; omega)] at hk
        exact f32_loop hr f (k + 1) _ (by omega) hlt (len_grow x hn) hk
      · rw [if_neg (by have := of_decide_eq_false z; omega)] at hk
        exact hk
/-- TakeLength. -/
theorem f32_spec (hr : Rd w0 h a (u8s l)) (hk : K (lenV (lenS l)) h) : EvC Go.Proofs.Tryd.prog w0 32 #[.slice a l.length c] K h := by
  unfold lenS at hk
  refine f32_go _ _ _ _ (brB_of (fun z => ?_) fun z => ?_)
  · have : l = [] := List.eq_nil_of_length_eq_zero (by simp at z; omega)
    subst this
    exact hk
  · match l, hr, hk, z with
    | [], _, _, z => simp at z
    | x :: t, hr, hk, _ =>
      obtain ⟨ad, had, hc⟩ := hr 0 _ rfl
      rw [lenF_step] at hk
      refine ⟨ad, had, by omega, by simp, _, hc, by omega, ad, had, by omega, by simp, _, hc, ?_⟩
      have e := len_or (n := 0) (k := 0) x (by decide) (by decide)
      rw [show ((0 : Nat) : Int) = 0 from rfl, show ((128 ^ 0 : Nat) : Int) = 1 from rfl] at e
      rw [e]
      refine brB_of (fun z => ?_) fun z => ?_
      · rw [if_pos (by have := of_decide_eq_true z; omega)] at hk
        exact f32_loop (l := x :: t) hr 3 1 _ (by omega) (by simp) (len_grow (n := 0) (k := 0) x (by decide)) hk
      · rw [if_neg (by have := of_decide_eq_false z; omega)] at hk
        exact hk
/-- .. the document's. -/
theorem f20_loop (hr : Rd w0 h a (u8s l)) : ∀ (f k n : Nat), k + f = 4 → k ≤ l.length → n < 128 ^ k → K (lenV (lenF f k n (l.drop k))) h → f20_3 w0 K a l.length c ((n : Nat) : Int) ((k : Nat) : Int) h
  | 0, k, n, hf, _, _, hk => by
    have : k = 4 := by omega
    subst this
    exact f20_3_in _ _ _ _ _ _ (brB_of (fun z => by simp at z) fun _ => hk)
  | f + 1, k, n, hf, hle, hn, hk => by
    refine f20_3_in _ _ _ _ _ _ (brB_of (fun _ => brB_of (fun z => ?_) fun z => ?_) fun z => by simp at z; omega)
    · rw [List.drop_eq_nil_of_le (by simp at z; omega)] at hk
      exact hk
    · have hlt : k < l.length := by
        have : k ≠ l.length := fun q => by rw [q] at z; simp at z
        omega
      have hg : l[k]? = some l[k] := List.getElem?_eq_getElem hlt
      rw [List.drop_eq_getElem_cons hlt] at hk
      generalize l[k] = x at hg hk
      obtain ⟨ad, had, hc⟩ := byte_at hr hg
      rw [wrapS (by omega), pow_stepU k (by omega)]
      refine ⟨ad, had, by omega, by omega, _, hc, by rw [wrap64 (by omega) (by omega), wrap64u (by omega) (by omega)]; omega, ad, had, by omega, by omega, _, hc, ?_⟩
      rw [len_or x (by omega) hn]
      rw [lenF_step] at hk
      refine brB_of (fun z => ?_) fun z => ?_
      · rw [if_neg (by have := of_decide_eq_true z; omega)] at hk
        exact hk
      · rw [if_pos (by have := of_decide_eq_false z; omega)] at hk
        exact f20_loop hr f (k + 1) _ (by omega) hlt (len_grow x hn) hk
theorem f20_spec (hr : Rd w0 h a (u8s l)) (hk : K (lenV (lenS l)) h) : EvC Go.Proofs.Tryd.prog w0 20 #[.slice a l.length c] K h :=
  f20_go _ _ _ _ (f20_loop hr 4 0 0 rfl (Nat.zero_le _) (by decide) hk)
end
section
variable {w0 : World} {K : Value → AH → Prop} {h : AH}
/-- hasId. -/
theorem f53_spec {k : Nat} (hk : K (.bool (hasIdB k)) h) : EvC Go.Proofs.Tryd.prog w0 53 #[.int .i64 ((k : Nat) : Int)] K h := by
  have ten : ∀ t, t = hasIdB k → f53_10 w0 K t h := fun t ht => f53_10_in _ _ (brB_of (fun z => by rw [← ht, z] at hk; exact hk) fun z => by rw [← ht, z] at hk; exact hk)
  have yes : ∀ m, 4 ≤ m → m ≤ 11 → k = m → true = hasIdB k := fun m h1 h2 e => (decide_eq_true (by omega)).symm
  refine f53_go _ _ (brB_of (fun z => ten _ (yes 4 (by decide) (by decide) (by simp at z; omega))) fun z4 => brB_of (fun z => ten _ (yes 5 (by decide) (by decide) (by simp at z; omega))) fun z5 => brB_of (fun z => ten _ (yes 6 (by decide) (by decide) (by simp at z; omega))) fun z6 => brB_of (fun z => ten _ (yes 7 (by decide) (by decide) (by simp at z; omega))) fun z7 =>
    brB_of (fun z => ten _ (yes 8 (by decide) (by decide) (by simp at z; omega))) fun z8 => brB_of (fun z => ten _ (yes 9 (by decide) (by decide) (by simp at z; omega))) fun z9 => brB_of (fun z => ten _ (yes 10 (by decide) (by decide) (by simp at z; omega))) fun z10 => ten _ ?_)
  unfold hasIdB
  rw [Bool.eq_iff_iff]
  simp at *
  omega
/-- coded. -/
theorem f57_spec {k : Nat} (hk : K (.bool (codedB k)) h) : EvC Go.Proofs.Tryd.prog w0 57 #[.int .i64 ((k : Nat) : Int)] K h := by
  unfold codedB at hk
  have e : (((k : Nat) : Int) == 128) = decide (k = 128) := natBeq k 128 (z := 128) rfl
  refine f57_go _ _ (brB_of (fun _ => brB_of (fun z => ?_) fun z => ?_) fun z => by simp at z)
  · rw [decide_eq_true (by have := of_decide_eq_true z; omega), Bool.true_or] at hk
    exact hk
  · rw [decide_eq_false (by have := of_decide_eq_false z; omega), Bool.false_or] at hk
    rw [e]; exact hk
theorem low4 : ∀ n, n < 256 → n &&& 15 = n % 16 := by decide
theorem head_pub : ∀ f, f < 16 → (!(decide (f / 2 % 4 = 3)) && (!(bitN f 3) || !(decide (f / 2 % 4 = 0)))) = (!(decide (f &&& 6 = 6)) && (decide (f &&& 8 = 0) || !(decide (f &&& 6 = 0)))) := by decide
/-- head. -/
theorem f33_spec {x : UInt8} (hk : K (.bool (headB x.toNat)) h) : EvC Go.Proofs.Tryd.prog w0 33 #[.int .u8 ((x.toNat : Nat) : Int)] K h := by
  have hx : x.toNat < 256 := x.toNat_lt
  generalize x.toNat = n at hk hx
  have e1 : IntKind.i64.wrap (Int.fdiv ((n : Nat) : Int) 16) = ((n / 16 : Nat) : Int) := by rw [fdivN n 16 (z := 16) rfl, wrap64 (by omega) (by omega)]
  have e2 := and8 (n := n) (c := 15) (z := 15) rfl hx (by decide)
  rw [low4 n hx] at e2
  refine f33_go _ _ ⟨by decide, ?_⟩
  rw [e1, e2, natBeq (n / 16) 0 (z := 0) rfl, natBeq (n / 16) 15 (z := 15) rfl]
  unfold headB at hk
  dsimp only at hk
  have hf : n % 16 < 256 := by omega
  have eleven : ∀ t, t = decide (n / 16 = 6 ∨ n / 16 = 8 ∨ n / 16 = 10) → n / 16 ≠ 0 → n / 16 ≠ 15 → n / 16 ≠ 3 → f33_11 w0 K ((n % 16 : Nat) : Int) t h := fun t ht n0 n15 n3 => by
    rw [if_neg (by omega), if_neg n3] at hk
    refine f33_11_in _ _ _ (brB_of (fun z => ?_) fun z => ?_)
    · rw [natBeq (n % 16) 2 (z := 2) rfl]
      rw [if_pos (of_decide_eq_true (ht.symm.trans z))] at hk
      exact hk
    · rw [natBeq (n % 16) 0 (z := 0) rfl]
      rw [if_neg (of_decide_eq_false (ht.symm.trans z))] at hk
      exact hk
  have five : ∀ t, t = decide (n / 16 = 0 ∨ n / 16 = 15) → f33_5 w0 K ((n % 16 : Nat) : Int) ((n / 16 : Nat) : Int) t h := fun t ht => by
    refine f33_5_in _ _ _ _ (brB_of (fun z => ?_) fun z => ?_)
    · rw [if_pos (of_decide_eq_true (ht.symm.trans z))] at hk
      exact hk
    · have hn := of_decide_eq_false (ht.symm.trans z)
      rw [natBeq (n / 16) 3 (z := 3) rfl, natBeq (n / 16) 6 (z := 6) rfl, natBeq (n / 16) 8 (z := 8) rfl, natBeq (n / 16) 10 (z := 10) rfl]
      refine brB_of (fun z3 => ?_) fun z3 => ?_
      · have n3 := of_decide_eq_true z3
        rw [if_neg hn, if_pos n3, head_pub (n % 16) (by omega)] at hk
        have e6 := and8 (n := n % 16) (c := 6) (z := 6) rfl hf (by decide)
        have e8 := and8 (n := n % 16) (c := 8) (z := 8) rfl hf (by decide)
        rw [e6, e8, natBeq (n % 16 &&& 8) 0 (z := 0) rfl, natBne]
        have e66 : ((((n % 16 &&& 6 : Nat) : Int)) != 6) = !(decide (n % 16 &&& 6 = 6)) := by unfold bne; rw [natBeq (n % 16 &&& 6) 6 (z := 6) rfl]
        rw [e66]
        refine brB_of (fun y => brB_of (fun y2 => ?_) fun y2 => ?_) fun y => ?_
        · rw [y, y2] at hk; exact hk
        · rw [y, y2] at hk; exact hk
        · rw [y] at hk; exact hk
      · have n3 := of_decide_eq_false z3
        refine brB_of (fun y => eleven _ ?_ (by omega) (by omega) n3) fun y => brB_of (fun y2 => eleven _ ?_ (by omega) (by omega) n3) fun y2 => eleven _ ?_ (by omega) (by omega) n3
        · exact (decide_eq_true (.inl (of_decide_eq_true y))).symm
        · exact (decide_eq_true (.inr (.inl (of_decide_eq_true y2)))).symm
        · rw [decide_eq_decide]
          have := of_decide_eq_false y
          have := of_decide_eq_false y2
          omega
  refine brB_of (fun z => five _ ?_) fun z => five _ ?_
  · exact (decide_eq_true (.inl (of_decide_eq_true z))).symm
  · rw [decide_eq_decide]
    have := of_decide_eq_false z
    omega
end
end Go.G.YtciepfobnaemmaaDoor
