/- Numbers' bytes. -/
import Derived.Test.YtciepfobnaemmaaDoorPR
import Derived.Test.YtciepfobnaemmaaDoorProg
set_option maxRecDepth 100000
namespace Go.G.YtciepfobnaemmaaDoor
open Go.RowKit
open Value (string slice int bool agg)
def f77_J : Nat → List Nat × Nat := jOf [(10000, (0 :: (2 :: (3 :: (4 :: (rn 23 17 []))))), 0)]

def f77_10000 (w0 : World) (K : Value → AH → Prop) (a : Int) (b : Option Addr) (c d : Nat) (h : AH) : Prop :=
  ∀ j : Nat → Value, LPk Proofs.Tryd.prog w0 (EvC Proofs.Tryd.prog w0) f77_J 77 K 10000 (jv j 1 1 (.v (.int .u64 a) :: (jv j 5 3 (.v (.slice b c d) :: (jv j 23 17 []))))) [] h

theorem f77_10000_in {w0 : World} {K : Value → AH → Prop} (a : Int) (c : Option Addr) (b d : Nat) (h : AH)
  (hv : (brB (decide (((128 : Int) ≤ a))) (App w0 h 1 1 c b d 1 [(int .u8 (IntKind.wrap .u8 (((BitVec.toNat ((BitVec.ofInt 8 (IntKind.wrap .u8 a)) ||| (BitVec.ofInt 8 (128 : Int)))) : Nat) : Int)))] (fun e g i => (((0 : Int) ≤ (7 : Int)) ∧ (f77_10000 w0 K (Int.fdiv a (128 : Int)) e (b + 1) g i)))) (App w0 h 1 1 c b d 1 [(int .u8 (IntKind.wrap .u8 a))] (fun k m n => (K (slice k (b + 1) m) n))))) :
  f77_10000 w0 K a c b d h := fun j => LP_intro (P := Proofs.Tryd.prog) (Eq.mp (by kernel_rfl) hv)

theorem f77_go {w0 : World} {K : Value → AH → Prop} (c : Option Addr) (a i : Nat) (b : Int) (h : AH)
  (hv : (rowsOf w0 h 1 c a (fun k => (App w0 h 1 1 none 0 0 a k (fun d e g => (brB (decide (((128 : Int) ≤ b))) (App w0 g 1 1 d (0 + a) e 1 [(int .u8 (IntKind.wrap .u8 (((BitVec.toNat ((BitVec.ofInt 8 (IntKind.wrap .u8 b)) ||| (BitVec.ofInt 8 (128 : Int)))) : Nat) : Int)))] (fun m n o => (((0 : Int) ≤ (7 : Int)) ∧ (f77_10000 w0 K (Int.fdiv b (128 : Int)) m ((0 + a) + 1) n o)))) (App w0 g 1 1 d (0 + a) e 1 [(int .u8 (IntKind.wrap .u8 b))] (fun p q r => (K (slice p ((0 + a) + 1) q) r))))))))) :
  EvC Proofs.Tryd.prog w0 77 ([(.slice c a i), (.int .u64 b)]).toArray K h := EvC_intro (P := Proofs.Tryd.prog) f77_J (Eq.mp (by kernel_rfl) hv)
def f73_J : Nat → List Nat × Nat := jOf [(3, (0 :: (3 :: (4 :: (5 :: (6 :: (rn 16 8 (rn 33 16 []))))))), 0), (4, (0 :: (3 :: (4 :: (5 :: (6 :: (rn 33 25 [])))))), 0), (5, (0 :: (rn 7 5 (rn 33 24 []))), 0)]

def f73_3 (w0 : World) (K : Value → AH → Prop) (a b : Int) (c : Option Addr) (d e : Nat) (g : Bool) (h : AH) : Prop :=
  ∀ j : Nat → Value, LPk Proofs.Tryd.prog w0 (EvC Proofs.Tryd.prog w0) f73_J 73 K 3 (jv j 1 1 (.v (.int .u64 a) :: (.v (.int .i64 b) :: (jv j 7 4 (.v (.slice c d e) :: (jv j 16 8 (.v (.bool g) :: (jv j 33 16 [])))))))) [] h

def f73_4 (w0 : World) (K : Value → AH → Prop) (a b : Int) (c : Option Addr) (d e : Nat) (h : AH) : Prop :=
  ∀ j : Nat → Value, LPk Proofs.Tryd.prog w0 (EvC Proofs.Tryd.prog w0) f73_J 73 K 4 (jv j 1 1 (.v (.int .u64 a) :: (.v (.int .i64 b) :: (jv j 7 4 (.v (.slice c d e) :: (jv j 33 25 [])))))) [] h

def f73_5 (w0 : World) (K : Value → AH → Prop) (a : Int) (b : Option Addr) (c d : Nat) (e : Int) (h : AH) : Prop :=
  ∀ j : Nat → Value, LPk Proofs.Tryd.prog w0 (EvC Proofs.Tryd.prog w0) f73_J 73 K 5 (jv j 1 1 (.v (.int .u64 a) :: (jv j 7 5 (.v (.slice b c d) :: (.v (.int .i64 e) :: (jv j 33 24 [])))))) [] h

theorem f73_3_in {w0 : World} {K : Value → AH → Prop} (d e : Int) (a : Option Addr) (b c : Nat) (g : Bool) (h : AH)
  (hv : (brB g (K (slice a b c) h) (f73_4 w0 K d e a b c h))) :
  f73_3 w0 K d e a b c g h := fun j => LP_intro (P := Proofs.Tryd.prog) (Eq.mp (by kernel_rfl) hv)

theorem f73_4_in {w0 : World} {K : Value → AH → Prop} (a b : Int) (c : Option Addr) (d e : Nat) (h : AH)
  (hv : (f73_5 w0 K a c d e (IntKind.wrap .i64 (b - (1 : Int))) h)) :
  f73_4 w0 K a b c d e h := fun j => LP_intro (P := Proofs.Tryd.prog) (Eq.mp (by kernel_rfl) hv)

theorem f73_5_in {w0 : World} {K : Value → AH → Prop} (c : Int) (d : Option Addr) (b e : Nat) (a : Int) (h : AH)
  (hv : (brB (decide (((0 : Int) ≤ a))) (((0 : Int) ≤ (IntKind.wrap .i64 ((8 : Int) * a))) ∧ (App w0 h 1 1 d b e 1 [(int .u8 (IntKind.wrap .u8 (Int.fdiv c ((2 : Int) ^ (Min.min (Int.toNat (IntKind.wrap .i64 ((8 : Int) * a))) 64)))))] (fun g i k => (f73_5 w0 K c g (b + 1) i (IntKind.wrap .i64 (a - (1 : Int))) k)))) (K (slice d b e) h))) :
  f73_5 w0 K c d b e a h := fun j => LP_intro (P := Proofs.Tryd.prog) (Eq.mp (by kernel_rfl) hv)

theorem f73_go {w0 : World} {K : Value → AH → Prop} (d : Option Addr) (a k : Nat) (c b : Int) (h : AH)
  (hv : (rowsOf w0 h 1 d a (fun m => (App w0 h 1 1 none 0 0 a m (fun e g i => (brB (decide ((b < (1 : Int)))) (f73_3 w0 K c b e (0 + a) g true i) (f73_3 w0 K c b e (0 + a) g (decide (((8 : Int) < b))) i))))))) :
  EvC Proofs.Tryd.prog w0 73 ([(.slice d a k), (.int .u64 c), (.int .i64 b)]).toArray K h := EvC_intro (P := Proofs.Tryd.prog) f73_J (Eq.mp (by kernel_rfl) hv)
/-! ### vint: Put, Fixed -/
theorem putV_more {w0 : World} {K : Value → AH → Prop} {B : List (Nat × AB)} : ∀ (k n : Nat), n < 128 ^ (k + 1) → ∀ (a : Option Addr) (c : Nat) (h : AH) (l : List UInt8), SlV 1 a l.length c (u8s l) → Own w0 h (slB a (u8s l) (c * 1) ++ B) → l.length + k ≤ 1000000000000 →
    (∀ h' a' c', SlV 1 a' (l ++ putV n).length c' (u8s (l ++ putV n)) → Own w0 h' (slB a' (u8s (l ++ putV n)) (c' * 1) ++ B) → K (.slice a' (l ++ putV n).length c') h') →
    (brB (decide (((128 : Int) ≤ ((n : Nat) : Int)))) (App w0 h 1 1 a l.length c 1 [(.int .u8 (IntKind.u8.wrap (((BitVec.toNat ((BitVec.ofInt 8 (IntKind.u8.wrap ((n : Nat) : Int))) ||| (BitVec.ofInt 8 (128 : Int)))) : Nat) : Int)))]
        (fun a'10 c'11 h'12 => (((0 : Int) ≤ (7 : Int)) ∧ (f77_10000 w0 K (Int.fdiv ((n : Nat) : Int) (128 : Int)) a'10 (l.length + 1) c'11 h'12))))
      (App w0 h 1 1 a l.length c 1 [(.int .u8 (IntKind.u8.wrap ((n : Nat) : Int)))] (fun a'13 c'14 h'15 => (K (.slice a'13 (l.length + 1) c'14) h'15))))
  | k, n, hn, a, c, h, l, v, w, hl, hk => by
    refine brB_of (fun q => ?_) fun q => ?_
    · have q' : ¬ n < 128 := by have := of_decide_eq_true q; omega
      rw [or128]
      refine App_byte v w (by omega) (by omega) fun a' c' h' v' w' => ⟨by decide, ?_⟩
      rw [fdiv128]
      match k, hn with
      | 0, hn => simp at hn; omega
      | k + 1, hn =>
        rw [show l.length + 1 = (l ++ [UInt8.ofNat (n % 128 + 128)]).length by simp]
        refine f77_10000_in _ _ _ _ _ (putV_more k (n / 128) (by rw [Nat.pow_succ] at hn; omega) a' c' h' _ v' w' (by simp; omega) fun h2 a2 c2 v2 w2 => ?_)
        have e : l ++ [UInt8.ofNat (n % 128 + 128)] ++ putV (n / 128) = l ++ putV n := by rw [putV_step q']; simp
        rw [e] at v2 w2 ⊢
        exact hk h2 a2 c2 v2 w2
    · have q' : n < 128 := by have := of_decide_eq_false q; omega
      rw [wrap8, Nat.mod_eq_of_lt (by omega)]
      refine App_byte v w (by omega) (by omega) fun a' c' h' v' w' => ?_
      have e : l ++ [UInt8.ofNat n] = l ++ putV n := by rw [putV_small q']
      rw [e] at v' w'
      have := hk h' a' c' v' w'
      rw [show (l ++ putV n).length = l.length + 1 by rw [putV_small q']; simp] at this
      exact this
/-- vint.Put. -/
theorem f77_spec {w0 : World} {K : Value → AH → Prop} {h : AH} {B : List (Nat × AB)} {a : Option Addr} {c n : Nat} {l : List UInt8} (w : Own w0 h B) (hr : Rd w0 h a (u8s l)) (hl : l.length ≤ 100000000000) (hn : n < 18446744073709551616)
    (hk : ∀ h' a' c', SlV 1 a' (l ++ putV n).length c' (u8s (l ++ putV n)) → Own w0 h' (slB a' (u8s (l ++ putV n)) (c' * 1) ++ B) → K (.slice a' (l ++ putV n).length c') h') :
    EvC Go.Proofs.Tryd.prog w0 77 #[.slice a l.length c, .int .u64 ((n : Nat) : Int)] K h := by
  refine f77_go _ _ _ _ _ (rowsOf_of hr (by rw [u8s_length, Nat.mul_one]) (App_copy w (by omega) fun a' c' h' v' w' => ?_))
  rw [Nat.zero_add]
  exact putV_more 9 n (by omega) a' c' h' l v' w' (by omega) hk
theorem fixed_byte {n k : Nat} (hk : k ≤ 7) : IntKind.u8.wrap (Int.fdiv ((n : Nat) : Int) ((2 : Int) ^ (Min.min (Int.toNat (IntKind.i64.wrap ((8 : Int) * ((k : Nat) : Int)))) 64))) = ((n / 256 ^ k % 256 : Nat) : Int) := by
  rw [wrap64 (by omega) (by omega), show Int.toNat ((8 : Int) * ((k : Nat) : Int)) = 8 * k by omega, Nat.min_eq_left (by omega)]
  have e : ((2 : Int) ^ (8 * k)) = ((256 ^ k : Nat) : Int) := by rw [Int.pow_mul]; norm_cast
  rw [e, Int.fdiv_eq_ediv_of_nonneg _ (Int.natCast_nonneg _), ← Int.natCast_ediv, wrap8]
theorem f73_loop {w0 : World} {K : Value → AH → Prop} {B : List (Nat × AB)} {n : Nat} : ∀ (k : Nat), k ≤ 8 → ∀ (a : Option Addr) (c : Nat) (h : AH) (l : List UInt8), SlV 1 a l.length c (u8s l) → Own w0 h (slB a (u8s l) (c * 1) ++ B) → l.length + k ≤ 100000000000 →
    (∀ h' a' c', SlV 1 a' (l ++ fixedV n k).length c' (u8s (l ++ fixedV n k)) → Own w0 h' (slB a' (u8s (l ++ fixedV n k)) (c' * 1) ++ B) → K (.slice a' (l ++ fixedV n k).length c') h') →
    f73_5 w0 K ((n : Nat) : Int) a l.length c (((k : Nat) : Int) - 1) h
  | 0, _, a, c, h, l, v, w, _, hk => by
    refine f73_5_in _ _ _ _ _ _ (brB_of (fun q => by have := of_decide_eq_true q; omega) fun _ => ?_)
    have := hk h a c (by simpa [fixedV] using v) (by simpa [fixedV] using w)
    simpa [fixedV] using this
  | k + 1, hk8, a, c, h, l, v, w, hl, hk => by
    have e1 : (((k + 1 : Nat) : Int) - 1) = ((k : Nat) : Int) := by omega
    rw [e1]
    refine f73_5_in _ _ _ _ _ _ (brB_of (fun _ => ⟨by rw [show IntKind.i64.wrap ((8 : Int) * ((k : Nat) : Int)) = ((8 * k : Nat) : Int) by rw [wrap64 (by omega) (by omega)]; omega]; exact Int.natCast_nonneg _, ?_⟩) fun q => by have := of_decide_eq_false q; omega)
    rw [fixed_byte (by omega)]
    refine App_byte v w (by omega) (by omega) fun a' c' h' v' w' => ?_
    rw [wrap64 (by omega) (by omega), show l.length + 1 = (l ++ [UInt8.ofNat (n / 256 ^ k % 256)]).length by simp]
    refine f73_loop k (by omega) a' c' h' _ v' w' (by simp; omega) fun h2 a2 c2 v2 w2 => ?_
    have e : l ++ [UInt8.ofNat (n / 256 ^ k % 256)] ++ fixedV n k = l ++ fixedV n (k + 1) := by simp [fixedV]
    rw [e] at v2 w2 ⊢
    exact hk h2 a2 c2 v2 w2
/-- vint.Fixed. -/
theorem f73_spec {w0 : World} {K : Value → AH → Prop} {h : AH} {B : List (Nat × AB)} {a : Option Addr} {c n k : Nat} {l : List UInt8} (w : Own w0 h B) (hr : Rd w0 h a (u8s l)) (hl : l.length ≤ 10000000000) (h1 : 1 ≤ k) (h8 : k ≤ 8)
    (hk : ∀ h' a' c', SlV 1 a' (l ++ fixedV n k).length c' (u8s (l ++ fixedV n k)) → Own w0 h' (slB a' (u8s (l ++ fixedV n k)) (c' * 1) ++ B) → K (.slice a' (l ++ fixedV n k).length c') h') :
    EvC Go.Proofs.Tryd.prog w0 73 #[.slice a l.length c, .int .u64 ((n : Nat) : Int), .int .i64 ((k : Nat) : Int)] K h := by
  refine f73_go _ _ _ _ _ _ (rowsOf_of hr (by rw [u8s_length, Nat.mul_one]) (App_copy w (by omega) fun a' c' h' v' w' => ?_))
  rw [Nat.zero_add]
  refine brB_of (fun q => by have := of_decide_eq_true q; omega) fun _ => ?_
  rw [decide_eq_false (by omega)]
  refine f73_3_in _ _ _ _ _ _ _ (brB_of (fun z => by cases z) fun _ => f73_4_in _ _ _ _ _ _ ?_)
  rw [wrap64 (by omega) (by omega)]
  exact f73_loop k h8 a' c' h' l v' w' (by omega) hk
def f45_J : Nat → List Nat × Nat := jOf [(2, (rn 13 10 (rn 31 17 [])), 0), (3, (rn 31 28 []), 0), (4, (rn 7 5 (rn 31 23 [])), 0)]

def f45_2 (w0 : World) (K : Value → AH → Prop) (a : Option Addr) (b c : Nat) (d e : Int) (g : Bool) (h : AH) : Prop :=
  ∀ j : Nat → Value, LPk Proofs.Tryd.prog w0 (EvC Proofs.Tryd.prog w0) f45_J 45 K 2 (.v (.slice a b c) :: (.v (.int .u64 d) :: (.v (.int .i64 e) :: (jv j 13 10 (.v (.bool g) :: (jv j 31 17 [])))))) [] h

def f45_3 (w0 : World) (K : Value → AH → Prop) (a : Option Addr) (b c : Nat) (d e : Int) (h : AH) : Prop :=
  ∀ j : Nat → Value, LPk Proofs.Tryd.prog w0 (EvC Proofs.Tryd.prog w0) f45_J 45 K 3 (.v (.slice a b c) :: (.v (.int .u64 d) :: (.v (.int .i64 e) :: (jv j 31 28 [])))) [] h

def f45_4 (w0 : World) (K : Value → AH → Prop) (a : Option Addr) (b c : Nat) (d e : Int) (h : AH) : Prop :=
  ∀ j : Nat → Value, LPk Proofs.Tryd.prog w0 (EvC Proofs.Tryd.prog w0) f45_J 45 K 4 (.v (.slice a b c) :: (.v (.int .u64 d) :: (jv j 7 5 (.v (.int .i64 e) :: (jv j 31 23 []))))) [] h

theorem f45_2_in {w0 : World} {K : Value → AH → Prop} (a : Option Addr) (b c : Nat) (d e : Int) (g : Bool) (h : AH)
  (hv : (brB g (K (slice a b c) h) (f45_3 w0 K a b c d e h))) :
  f45_2 w0 K a b c d e g h := fun j => LP_intro (P := Proofs.Tryd.prog) (Eq.mp (by kernel_rfl) hv)

theorem f45_3_in {w0 : World} {K : Value → AH → Prop} (a : Option Addr) (b c : Nat) (d e : Int) (h : AH)
  (hv : (f45_4 w0 K a b c d (IntKind.wrap .i64 (e - (1 : Int))) h)) :
  f45_3 w0 K a b c d e h := fun j => LP_intro (P := Proofs.Tryd.prog) (Eq.mp (by kernel_rfl) hv)

theorem f45_4_in {w0 : World} {K : Value → AH → Prop} (c : Option Addr) (b d : Nat) (e a : Int) (h : AH)
  (hv : (brB (decide (((0 : Int) ≤ a))) (((0 : Int) ≤ (IntKind.wrap .u64 (IntKind.wrap .i64 ((8 : Int) * a)))) ∧ (App w0 h 1 1 c b d 1 [(int .u8 (IntKind.wrap .u8 (Int.fdiv e ((2 : Int) ^ (Min.min (Int.toNat (IntKind.wrap .u64 (IntKind.wrap .i64 ((8 : Int) * a)))) 64)))))] (fun g i k => (f45_4 w0 K g (b + 1) i e (IntKind.wrap .i64 (a - (1 : Int))) k)))) (K (slice c b d) h))) :
  f45_4 w0 K c b d e a h := fun j => LP_intro (P := Proofs.Tryd.prog) (Eq.mp (by kernel_rfl) hv)

theorem f45_go {w0 : World} {K : Value → AH → Prop} (b : Option Addr) (c d : Nat) (e a : Int) (h : AH)
  (hv : (brB (decide ((a < (1 : Int)))) (f45_2 w0 K b c d e a true h) (f45_2 w0 K b c d e a (decide (((8 : Int) < a))) h))) :
  EvC Proofs.Tryd.prog w0 45 ([(.slice b c d), (.int .u64 e), (.int .i64 a)]).toArray K h := EvC_intro (P := Proofs.Tryd.prog) f45_J (Eq.mp (by kernel_rfl) hv)
def f48_J : Nat → List Nat × Nat := jOf [(1, (rn 21 19 []), 0)]

def f48_1 (w0 : World) (K : Value → AH → Prop) (a : Option Addr) (b c : Nat) (d : Int) (h : AH) : Prop :=
  ∀ j : Nat → Value, LPk Proofs.Tryd.prog w0 (EvC Proofs.Tryd.prog w0) f48_J 48 K 1 (.v (.slice a b c) :: (.v (.int .u64 d) :: (jv j 21 19 []))) [] h

theorem f48_1_in {w0 : World} {K : Value → AH → Prop} (c : Option Addr) (a d : Nat) (b : Int) (h : AH)
  (hv : (brB (decide (((128 : Int) ≤ b))) (App w0 h 1 1 c a d 1 [(int .u8 (IntKind.wrap .u8 (((BitVec.toNat ((BitVec.ofInt 8 (IntKind.wrap .u8 (IntKind.wrap .u64 (((BitVec.toNat ((BitVec.ofInt 64 b) &&& (BitVec.ofInt 64 (127 : Int)))) : Nat) : Int)))) ||| (BitVec.ofInt 8 (128 : Int)))) : Nat) : Int)))] (fun e g i => (((0 : Int) ≤ (7 : Int)) ∧ (f48_1 w0 K e (a + 1) g (Int.fdiv b (128 : Int)) i)))) (App w0 h 1 1 c a d 1 [(int .u8 (IntKind.wrap .u8 b))] (fun k m n => (K (slice k (a + 1) m) n))))) :
  f48_1 w0 K c a d b h := fun j => LP_intro (P := Proofs.Tryd.prog) (Eq.mp (by kernel_rfl) hv)

theorem f48_go {w0 : World} {K : Value → AH → Prop} (a : Option Addr) (b c : Nat) (d : Int) (h : AH)
  (hv : (f48_1 w0 K a b c d h)) :
  EvC Proofs.Tryd.prog w0 48 ([(.slice a b c), (.int .u64 d)]).toArray K h := EvC_intro (P := Proofs.Tryd.prog) f48_J (Eq.mp (by kernel_rfl) hv)
def f50_J : Nat → List Nat × Nat := jOf [(2, (rn 9 8 [10, 11, 12]), 0)]

def f50_2 (w0 : World) (K : Value → AH → Prop) (a : Int) (b : Bool) (h : AH) : Prop :=
  ∀ j : Nat → Value, LPk Proofs.Tryd.prog w0 (EvC Proofs.Tryd.prog w0) f50_J 50 K 2 (.v (.int .i64 a) :: (jv j 9 8 (.v (.bool b) :: (jv j 13 3 [])))) [] h

theorem f50_2_in {w0 : World} {K : Value → AH → Prop} (a : Int) (b : Bool) (h : AH)
  (hv : (brB b (K (Value.tuple #[(slice none 0 0), (int .i64 (1 : Int))]) h) (EvC Proofs.Tryd.prog w0 77 #[(slice none 0 0), (int .u64 (IntKind.wrap .u64 a))] (fun g i => (∃ c : Option Addr, (∃ d : Nat, (∃ e : Nat, ((g = (slice c d e)) ∧ (K (Value.tuple #[(slice c d e), (int .i64 (0 : Int))]) i)))))) h))) :
  f50_2 w0 K a b h := fun j => LP_intro (P := Proofs.Tryd.prog) (Eq.mp (by kernel_rfl) hv)

theorem f50_go {w0 : World} {K : Value → AH → Prop} (a : Int) (h : AH)
  (hv : (brB (decide ((a < (0 : Int)))) (f50_2 w0 K a true h) (f50_2 w0 K a (decide (((268435455 : Int) < a))) h))) :
  EvC Proofs.Tryd.prog w0 50 ([(.int .i64 a)]).toArray K h := EvC_intro (P := Proofs.Tryd.prog) f50_J (Eq.mp (by kernel_rfl) hv)
def f21_J : Nat → List Nat × Nat := jOf [(2, (rn 9 8 [10, 11, 12]), 0)]

def f21_2 (w0 : World) (K : Value → AH → Prop) (a : Int) (b : Bool) (h : AH) : Prop :=
  ∀ j : Nat → Value, LPk Proofs.Tryd.prog w0 (EvC Proofs.Tryd.prog w0) f21_J 21 K 2 (.v (.int .i64 a) :: (jv j 9 8 (.v (.bool b) :: (jv j 13 3 [])))) [] h

theorem f21_2_in {w0 : World} {K : Value → AH → Prop} (a : Int) (b : Bool) (h : AH)
  (hv : (brB b (K (Value.tuple #[(slice none 0 0), (int .i64 (1 : Int))]) h) (EvC Proofs.Tryd.prog w0 48 #[(slice none 0 0), (int .u64 (IntKind.wrap .u64 a))] (fun g i => (∃ c : Option Addr, (∃ d : Nat, (∃ e : Nat, ((g = (slice c d e)) ∧ (K (Value.tuple #[(slice c d e), (int .i64 (0 : Int))]) i)))))) h))) :
  f21_2 w0 K a b h := fun j => LP_intro (P := Proofs.Tryd.prog) (Eq.mp (by kernel_rfl) hv)

theorem f21_go {w0 : World} {K : Value → AH → Prop} (a : Int) (h : AH)
  (hv : (brB (decide ((a < (0 : Int)))) (f21_2 w0 K a true h) (f21_2 w0 K a (decide (((268435455 : Int) < a))) h))) :
  EvC Proofs.Tryd.prog w0 21 ([(.int .i64 a)]).toArray K h := EvC_intro (P := Proofs.Tryd.prog) f21_J (Eq.mp (by kernel_rfl) hv)
def f76_J : Nat → List Nat × Nat := jOf []



theorem f76_go {w0 : World} {K : Value → AH → Prop} (c : Option Addr) (d e : Nat) (a : ByteArray) (h : AH)
  (hv : (EvC Proofs.Tryd.prog w0 73 #[(slice c d e), (int .u64 (IntKind.wrap .u64 (((ByteArray.size a) : Nat) : Int))), (int .i64 (2 : Int))] (fun k m => (∃ g : Option Addr, (∃ b : Nat, (∃ i : Nat, ((k = (slice g b i)) ∧ (App w0 m 1 1 g b i (ByteArray.size a) (intsOf a) (fun n o p => (K (slice n (b + (ByteArray.size a)) o) p)))))))) h)) :
  EvC Proofs.Tryd.prog w0 76 ([(.slice c d e), (.string a)]).toArray K h := EvC_intro (P := Proofs.Tryd.prog) f76_J (Eq.mp (by kernel_rfl) hv)
def f46_J : Nat → List Nat × Nat := jOf []



theorem f46_go {w0 : World} {K : Value → AH → Prop} (c : Option Addr) (d e : Nat) (g : Option Addr) (a n : Nat) (h : AH)
  (hv : (EvC Proofs.Tryd.prog w0 45 #[(slice c d e), (int .u64 (IntKind.wrap .u64 ((a : Nat) : Int))), (int .i64 (2 : Int))] (fun o i => (∃ k : Option Addr, (∃ b : Nat, (∃ m : Nat, ((o = (slice k b m)) ∧ (rowsOf w0 i 1 g a (fun p => (App w0 i 1 1 k b m a p (fun q r s => (K (slice q (b + a) r) s)))))))))) h)) :
  EvC Proofs.Tryd.prog w0 46 ([(.slice c d e), (.slice g a n)]).toArray K h := EvC_intro (P := Proofs.Tryd.prog) f46_J (Eq.mp (by kernel_rfl) hv)
def f75_J : Nat → List Nat × Nat := jOf []



theorem f75_go {w0 : World} {K : Value → AH → Prop} (a : Bool) (b : Int) (h : AH)
  (hv : (brB a (K (int .u8 b) h) (K (int .u8 (0 : Int)) h))) :
  EvC Proofs.Tryd.prog w0 75 ([(.bool a), (.int .u8 b)]).toArray K h := EvC_intro (P := Proofs.Tryd.prog) f75_J (Eq.mp (by kernel_rfl) hv)
def f47_J : Nat → List Nat × Nat := jOf []



theorem f47_go {w0 : World} {K : Value → AH → Prop} (a : Bool) (b : Int) (h : AH)
  (hv : (brB a (K (int .u8 b) h) (K (int .u8 (0 : Int)) h))) :
  EvC Proofs.Tryd.prog w0 47 ([(.bool a), (.int .u8 b)]).toArray K h := EvC_intro (P := Proofs.Tryd.prog) f47_J (Eq.mp (by kernel_rfl) hv)
/-! ### the document's Fixed, Put; texts -/
section
variable {w0 : World} {K : Value → AH → Prop} {h : AH} {B : List (Nat × AB)} {a : Option Addr} {c : Nat} {l : List UInt8}
theorem fixed_byteU {n k : Nat} (hk : k ≤ 7) : IntKind.u8.wrap (Int.fdiv ((n : Nat) : Int) ((2 : Int) ^ (Min.min (Int.toNat (IntKind.u64.wrap (IntKind.i64.wrap ((8 : Int) * ((k : Nat) : Int))))) 64))) = ((n / 256 ^ k % 256 : Nat) : Int) := by
  have e : IntKind.u64.wrap (IntKind.i64.wrap ((8 : Int) * ((k : Nat) : Int))) = IntKind.i64.wrap ((8 : Int) * ((k : Nat) : Int)) := by
    rw [wrap64 (by omega) (by omega), wrap64u (by omega) (by omega)]
  rw [e]; exact fixed_byte hk
theorem f45_loop {n : Nat} : ∀ (k : Nat), k ≤ 8 → ∀ (a : Option Addr) (c : Nat) (h : AH) (l : List UInt8), SlV 1 a l.length c (u8s l) → Own w0 h (slB a (u8s l) (c * 1) ++ B) → l.length + k ≤ 100000000000 →
    (∀ h' a' c', SlV 1 a' (l ++ fixedV n k).length c' (u8s (l ++ fixedV n k)) → Own w0 h' (slB a' (u8s (l ++ fixedV n k)) (c' * 1) ++ B) → K (.slice a' (l ++ fixedV n k).length c') h') →
    f45_4 w0 K a l.length c ((n : Nat) : Int) (((k : Nat) : Int) - 1) h
  | 0, _, a, c, h, l, v, w, _, hk => by
    refine f45_4_in _ _ _ _ _ _ (brB_of (fun q => by have := of_decide_eq_true q; omega) fun _ => ?_)
    have := hk h a c (by simpa [fixedV] using v) (by simpa [fixedV] using w)
    simpa [fixedV] using this
  | k + 1, hk8, a, c, h, l, v, w, hl, hk => by
    have e1 : (((k + 1 : Nat) : Int) - 1) = ((k : Nat) : Int) := by omega
    rw [e1]
    refine f45_4_in _ _ _ _ _ _ (brB_of (fun _ => ⟨by rw [wrap64 (x := (8 : Int) * _) (by omega) (by omega), wrap64u (by omega) (by omega)]; omega, ?_⟩) fun q => by have := of_decide_eq_false q; omega)
    rw [fixed_byteU (by omega)]
    refine App_byte v w (by omega) (by omega) fun a' c' h' v' w' => ?_
    rw [wrap64 (by omega) (by omega), show l.length + 1 = (l ++ [UInt8.ofNat (n / 256 ^ k % 256)]).length by simp]
    refine f45_loop k (by omega) a' c' h' _ v' w' (by simp; omega) fun h2 a2 c2 v2 w2 => ?_
    have e : l ++ [UInt8.ofNat (n / 256 ^ k % 256)] ++ fixedV n k = l ++ fixedV n (k + 1) := by simp [fixedV]
    rw [e] at v2 w2 ⊢
    exact hk h2 a2 c2 v2 w2
/-- Fixed, of two bytes. -/
theorem f45_spec {n : Nat} (v : SlV 1 a l.length c (u8s l)) (w : Own w0 h (slB a (u8s l) (c * 1) ++ B)) (hl : l.length ≤ 10000000000)
    (hk : ∀ h' a' c', SlV 1 a' (l ++ fixedV n 2).length c' (u8s (l ++ fixedV n 2)) → Own w0 h' (slB a' (u8s (l ++ fixedV n 2)) (c' * 1) ++ B) → K (.slice a' (l ++ fixedV n 2).length c') h') :
    EvC Go.Proofs.Tryd.prog w0 45 #[.slice a l.length c, .int .u64 ((n : Nat) : Int), .int .i64 2] K h := by
  refine f45_go _ _ _ _ _ _ (brB_of (fun q => by simp at q) fun _ => f45_2_in _ _ _ _ _ _ _ (brB_of (fun q => by simp at q) fun _ => f45_3_in _ _ _ _ _ _ ?_))
  rw [wrap64 (by omega) (by omega)]
  exact f45_loop 2 (by decide) a c h l v w (by omega) hk
theorem and127_64 (n : Nat) (hn : n < 18446744073709551616) : IntKind.u64.wrap (((BitVec.toNat ((BitVec.ofInt 64 ((n : Nat) : Int)) &&& (BitVec.ofInt 64 (127 : Int)))) : Nat) : Int) = ((n % 128 : Nat) : Int) := by
  have e1 : (BitVec.ofInt 64 (127 : Int)).toNat = 127 := by decide
  have e2 : n &&& 127 = n % 128 := Nat.and_two_pow_sub_one_eq_mod n 7
  rw [ofInt_nat, BitVec.toNat_and, BitVec.toNat_ofNat, e1, Nat.mod_eq_of_lt (by omega), e2, wrap64u (by omega) (by omega)]
theorem f48_loop : ∀ (k n : Nat), n < 128 ^ (k + 1) → n < 18446744073709551616 → ∀ (a : Option Addr) (c : Nat) (h : AH) (l : List UInt8), SlV 1 a l.length c (u8s l) → Own w0 h (slB a (u8s l) (c * 1) ++ B) → l.length + k ≤ 1000000000000 →
    (∀ h' a' c', SlV 1 a' (l ++ putV n).length c' (u8s (l ++ putV n)) → Own w0 h' (slB a' (u8s (l ++ putV n)) (c' * 1) ++ B) → K (.slice a' (l ++ putV n).length c') h') →
    f48_1 w0 K a l.length c ((n : Nat) : Int) h
  | k, n, hn, hn2, a, c, h, l, v, w, hl, hk => by
    refine f48_1_in _ _ _ _ _ (brB_of (fun q => ?_) fun q => ?_)
    · have q' : ¬ n < 128 := by have := of_decide_eq_true q; omega
      rw [and127_64 n hn2, or128, Nat.mod_mod]
      refine App_byte v w (by omega) (by omega) fun a' c' h' v' w' => ⟨by decide, ?_⟩
      rw [fdiv128]
      match k, hn with
      | 0, hn => simp at hn; omega
      | k + 1, hn =>
        rw [show l.length + 1 = (l ++ [UInt8.ofNat (n % 128 + 128)]).length by simp]
        refine f48_loop k (n / 128) (by rw [Nat.pow_succ] at hn; omega) (by omega) a' c' h' _ v' w' (by simp; omega) fun h2 a2 c2 v2 w2 => ?_
        have e : l ++ [UInt8.ofNat (n % 128 + 128)] ++ putV (n / 128) = l ++ putV n := by rw [putV_step q']; simp
        rw [e] at v2 w2 ⊢
        exact hk h2 a2 c2 v2 w2
    · have q' : n < 128 := by have := of_decide_eq_false q; omega
      rw [wrap8, Nat.mod_eq_of_lt (by omega)]
      refine App_byte v w (by omega) (by omega) fun a' c' h' v' w' => ?_
      have e : l ++ [UInt8.ofNat n] = l ++ putV n := by rw [putV_small q']
      rw [e] at v' w'
      have := hk h' a' c' v' w'
      rw [show (l ++ putV n).length = l.length + 1 by rw [putV_small q']; simp] at this
      exact this
theorem f48_spec {n : Nat} (v : SlV 1 a l.length c (u8s l)) (w : Own w0 h (slB a (u8s l) (c * 1) ++ B)) (hl : l.length ≤ 100000000000) (hn : n < 18446744073709551616)
    (hk : ∀ h' a' c', SlV 1 a' (l ++ putV n).length c' (u8s (l ++ putV n)) → Own w0 h' (slB a' (u8s (l ++ putV n)) (c' * 1) ++ B) → K (.slice a' (l ++ putV n).length c') h') :
    EvC Go.Proofs.Tryd.prog w0 48 #[.slice a l.length c, .int .u64 ((n : Nat) : Int)] K h :=
  f48_go _ _ _ _ _ (f48_loop 9 n (by omega) hn a c h l v w (by omega) hk)
/-- Length: the program's, the document's. -/
theorem f50_spec {n : Nat} (w : Own w0 h B) (hn : n ≤ 268435455)
    (hk : ∀ h' a' c', SlV 1 a' (putV n).length c' (u8s (putV n)) → Own w0 h' (slB a' (u8s (putV n)) (c' * 1) ++ B) → K (.tuple #[.slice a' (putV n).length c', .int .i64 0]) h') : EvC Go.Proofs.Tryd.prog w0 50 #[.int .i64 ((n : Nat) : Int)] K h := by
  refine f50_go _ _ (brB_of (fun q => by have := of_decide_eq_true q; omega) fun _ => f50_2_in _ _ _ (brB_of (fun q => by have := of_decide_eq_true q; omega) fun _ => ?_))
  rw [wrap64u (by omega) (by omega)]
  exact f77_spec (l := []) w Rd.nil (by simp) (by omega) fun h' a' c' v' w' => ⟨_, _, _, rfl, hk h' a' c' v' w'⟩
theorem f21_spec {n : Nat} (w : Own w0 h B) (hn : n ≤ 268435455)
    (hk : ∀ h' a' c', SlV 1 a' (putV n).length c' (u8s (putV n)) → Own w0 h' (slB a' (u8s (putV n)) (c' * 1) ++ B) → K (.tuple #[.slice a' (putV n).length c', .int .i64 0]) h') : EvC Go.Proofs.Tryd.prog w0 21 #[.int .i64 ((n : Nat) : Int)] K h := by
  refine f21_go _ _ (brB_of (fun q => by have := of_decide_eq_true q; omega) fun _ => f21_2_in _ _ _ (brB_of (fun q => by have := of_decide_eq_true q; omega) fun _ => ?_))
  rw [wrap64u (by omega) (by omega)]
  exact f48_spec (l := []) SlV.nil w (by simp) (by omega) fun h' a' c' v' w' => ⟨_, _, _, rfl, hk h' a' c' v' w'⟩
/-- text: the program's. -/
theorem f76_spec {x : List UInt8} (w : Own w0 h B) (hr : Rd w0 h a (u8s l)) (hl : l.length ≤ 10000000) (hx : x.length ≤ 65535)
    (hk : ∀ h' a' c', SlV 1 a' (l ++ textP x).length c' (u8s (l ++ textP x)) → Own w0 h' (slB a' (u8s (l ++ textP x)) (c' * 1) ++ B) → K (.slice a' (l ++ textP x).length c') h') : EvC Go.Proofs.Tryd.prog w0 76 #[.slice a l.length c, .string (toB x)] K h := by
  refine f76_go _ _ _ _ _ ?_
  rw [size_toB, wrap64u (by omega) (by omega)]
  refine f73_spec (k := 2) w hr (by omega) (by omega) (by omega) fun h1 a1 c1 v1 w1 => ⟨_, _, _, rfl, App_bytes v1 w1 (by rw [List.length_append, fixedV_len]; omega) fun a2 c2 h2 v2 w2 => ?_⟩
  rw [List.append_assoc] at v2 w2
  have := hk h2 a2 c2 v2 w2
  rw [show (l ++ textP x).length = (l ++ fixedV x.length 2).length + x.length by unfold textP; simp [List.length_append]; omega] at this
  exact this
/-- .. the document's. -/
theorem f46_spec {x : List UInt8} {b : Option Addr} {d : Nat} (v : SlV 1 a l.length c (u8s l)) (w : Own w0 h (slB a (u8s l) (c * 1) ++ B)) (hx : ∀ h' C, Own w0 h' (C ++ B) → Rd w0 h' b (u8s x)) (hl : l.length ≤ 10000000) (hxl : x.length ≤ 65535)
    (hk : ∀ h' a' c', SlV 1 a' (l ++ textP x).length c' (u8s (l ++ textP x)) → Own w0 h' (slB a' (u8s (l ++ textP x)) (c' * 1) ++ B) → K (.slice a' (l ++ textP x).length c') h') : EvC Go.Proofs.Tryd.prog w0 46 #[.slice a l.length c, .slice b x.length d] K h := by
  refine f46_go _ _ _ _ _ _ _ ?_
  rw [wrap64u (by omega) (by omega)]
  refine f45_spec v w (by omega) fun h1 a1 c1 v1 w1 => ⟨_, _, _, rfl, rowsOf_of (hx h1 _ w1) (by rw [u8s_length, Nat.mul_one]) (App_bytes v1 w1 (by rw [List.length_append, fixedV_len]; omega) fun a2 c2 h2 v2 w2 => ?_)⟩
  rw [List.append_assoc] at v2 w2
  have := hk h2 a2 c2 v2 w2
  rw [show (l ++ textP x).length = (l ++ fixedV x.length 2).length + x.length by unfold textP; simp [List.length_append]; omega] at this
  exact this
theorem f75_spec {b : Bool} {n : Nat} {z : Int} (hz : z = ((n : Nat) : Int)) (hk : K (.int .u8 ((bitV b n : Nat) : Int)) h) : EvC Go.Proofs.Tryd.prog w0 75 #[.bool b, .int .u8 z] K h := by
  subst hz
  exact f75_go _ _ _ (brB_of (fun q => by rw [q] at hk; exact hk) fun q => by rw [q] at hk; exact hk)
theorem f47_spec {b : Bool} {n : Nat} {z : Int} (hz : z = ((n : Nat) : Int)) (hk : K (.int .u8 ((bitV b n : Nat) : Int)) h) : EvC Go.Proofs.Tryd.prog w0 47 #[.bool b, .int .u8 z] K h := by
  subst hz
  exact f47_go _ _ _ (brB_of (fun q => by rw [q] at hk; exact hk) fun q => by rw [q] at hk; exact hk)
end
end Go.G.YtciepfobnaemmaaDoor
