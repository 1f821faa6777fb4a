/- Bytes of keys and values. -/
import Derived.Test.YtilifcggegabfaaDoorSM
import Derived.Test.YtilifcggegabfaaDoorProg
set_option maxRecDepth 100000
namespace Go.G.YtilifcggegabfaaDoor
open Go.RowKit
open Value (string slice int bool agg)
def f51_J : Nat → List Nat × Nat := jOf [(10000, [0, 2, 3, 4, 6, 7, 8, 9, 10, 11, 12, 13, 14, 15, 16, 17, 18, 19, 20, 21, 22], 0)]

def f51_10000 (w0 : World) (K : Value → AH → Prop) (a : Int) (b : Option Addr) (c : Nat) (d : Nat) (h : AH) : Prop :=
  ∀ j : Nat → Value, LPk Proofs.Tryd.prog w0 (EvC Proofs.Tryd.prog w0) f51_J 51 K 10000 [.v (j 0), .v (.int .u64 a), .v (j 2), .v (j 3), .v (j 4), .v (.slice b c d), .v (j 6), .v (j 7), .v (j 8), .v (j 9), .v (j 10), .v (j 11), .v (j 12), .v (j 13), .v (j 14), .v (j 15), .v (j 16), .v (j 17), .v (j 18), .v (j 19), .v (j 20), .v (j 21), .v (j 22)] [] h

theorem f51_10000_in {w0 : World} {K : Value → AH → Prop} (a : Int) (c : Option Addr) (b : Nat) (d : Nat) (h : AH)
  (hv : (brB (decide (((128 : Int) ≤ a))) (App w0 h 1 1 c b d 1 [(int .u8 (IntKind.wrap .u8 (((BitVec.toNat ((BitVec.ofInt 8 (IntKind.wrap .u8 a)) ||| (BitVec.ofInt 8 (128 : Int)))) : Nat) : Int)))] (fun e g i => (((0 : Int) ≤ (7 : Int)) ∧ (f51_10000 w0 K (Int.fdiv a (128 : Int)) e (b + 1) g i)))) (App w0 h 1 1 c b d 1 [(int .u8 (IntKind.wrap .u8 a))] (fun k m n => (K (slice k (b + 1) m) n))))) :
  f51_10000 w0 K a c b d h := fun j => LP_intro (P := Proofs.Tryd.prog) (Eq.mp (by kernel_rfl) hv)

theorem f51_go {w0 : World} {K : Value → AH → Prop} (c : Option Addr) (a : Nat) (i : Nat) (b : Int) (h : AH)
  (hv : (rowsOf w0 h 1 c a (fun k => (App w0 h 1 1 none 0 0 a k (fun d e g => (brB (decide (((128 : Int) ≤ b))) (App w0 g 1 1 d (0 + a) e 1 [(int .u8 (IntKind.wrap .u8 (((BitVec.toNat ((BitVec.ofInt 8 (IntKind.wrap .u8 b)) ||| (BitVec.ofInt 8 (128 : Int)))) : Nat) : Int)))] (fun m n o => (((0 : Int) ≤ (7 : Int)) ∧ (f51_10000 w0 K (Int.fdiv b (128 : Int)) m ((0 + a) + 1) n o)))) (App w0 g 1 1 d (0 + a) e 1 [(int .u8 (IntKind.wrap .u8 b))] (fun p q r => (K (slice p ((0 + a) + 1) q) r))))))))) :
  EvC Proofs.Tryd.prog w0 51 ([(.slice c a i), (.int .u64 b)]).toArray K h := EvC_intro (P := Proofs.Tryd.prog) f51_J (Eq.mp (by kernel_rfl) hv)
def f75_J : Nat → List Nat × Nat := jOf []



theorem f75_go {w0 : World} {K : Value → AH → Prop} (c : Option Addr) (d : Nat) (e : Nat) (g : Option Addr) (a : Nat) (n : Nat) (h : AH)
  (hv : (EvC Proofs.Tryd.prog w0 51 #[(slice c d e), (int .u64 (IntKind.wrap .u64 ((a : Nat) : Int)))] (fun o i => (∃ k : Option Addr, (∃ b : Nat, (∃ m : Nat, ((o = (slice k b m)) ∧ (rowsOf w0 i 1 g a (fun p => (App w0 i 1 1 k b m a p (fun q r s => (K (slice q (b + a) r) s)))))))))) h)) :
  EvC Proofs.Tryd.prog w0 75 ([(.slice c d e), (.slice g a n)]).toArray K h := EvC_intro (P := Proofs.Tryd.prog) f75_J (Eq.mp (by kernel_rfl) hv)
def f55_J : Nat → List Nat × Nat := jOf [(4, [0, 1, 2, 3, 4, 8, 9, 10, 11, 12, 13, 14, 15, 16, 17, 18, 19, 20, 21, 22, 23, 24, 25], 0)]

def f55_4 (w0 : World) (K : Value → AH → Prop) (a : Option Addr) (b : Nat) (c : Nat) (d : Int) (e : Int) (h : AH) : Prop :=
  ∀ j : Nat → Value, LPk Proofs.Tryd.prog w0 (EvC Proofs.Tryd.prog w0) f55_J 55 K 4 [.v (j 0), .v (j 1), .v (j 2), .v (j 3), .v (j 4), .v (.slice a b c), .v (.int .u64 d), .v (.int .i64 e), .v (j 8), .v (j 9), .v (j 10), .v (j 11), .v (j 12), .v (j 13), .v (j 14), .v (j 15), .v (j 16), .v (j 17), .v (j 18), .v (j 19), .v (j 20), .v (j 21), .v (j 22), .v (j 23), .v (j 24), .v (j 25)] [] h

theorem f55_4_in {w0 : World} {K : Value → AH → Prop} (c : Option Addr) (b : Nat) (d : Nat) (e : Int) (a : Int) (h : AH)
  (hv : (brB (decide (((0 : Int) ≤ a))) (((0 : Int) ≤ (IntKind.wrap .i64 ((8 : Int) * a))) ∧ (App w0 h 1 1 c b d 1 [(int .u8 (IntKind.wrap .u8 (Int.fdiv e ((2 : Int) ^ (Min.min (Int.toNat (IntKind.wrap .i64 ((8 : Int) * a))) 64)))))] (fun g i k => (f55_4 w0 K g (b + 1) i e (IntKind.wrap .i64 (a - (1 : Int))) k)))) (K (slice c b d) h))) :
  f55_4 w0 K c b d e a h := fun j => LP_intro (P := Proofs.Tryd.prog) (Eq.mp (by kernel_rfl) hv)

theorem f55_go {w0 : World} {K : Value → AH → Prop} (b : Option Addr) (a : Nat) (d : Nat) (c : Int) (h : AH)
  (hv : (rowsOf w0 h 1 b a (fun e => (App w0 h 1 1 none 0 0 a e (fun g i k => (f55_4 w0 K g (0 + a) i (IntKind.wrap .u64 (((BitVec.toNat ((BitVec.ofInt 64 (IntKind.wrap .u64 c)) ^^^ (BitVec.ofInt 64 (9223372036854775808 : Int)))) : Nat) : Int)) (7 : Int) k)))))) :
  EvC Proofs.Tryd.prog w0 55 ([(.slice b a d), (.int .i64 c)]).toArray K h := EvC_intro (P := Proofs.Tryd.prog) f55_J (Eq.mp (by kernel_rfl) hv)
def f54_J : Nat → List Nat × Nat := jOf [(3, [0, 1, 2, 3, 4, 6, 7, 8, 9, 13, 14, 15, 16, 17, 18, 19, 20, 21, 22, 23, 24, 25, 26, 27, 28], 0)]

def f54_3 (w0 : World) (K : Value → AH → Prop) (a : Option Addr) (b : Nat) (c : Nat) (d : Option Addr) (e : Nat) (g : Nat) (i : Int) (k : Int) (h : AH) : Prop :=
  ∀ j : Nat → Value, LPk Proofs.Tryd.prog w0 (EvC Proofs.Tryd.prog w0) f54_J 54 K 3 [.v (j 0), .v (j 1), .v (j 2), .v (j 3), .v (j 4), .v (.slice a b c), .v (j 6), .v (j 7), .v (j 8), .v (j 9), .v (.slice d e g), .v (.int .i64 i), .v (.int .i64 k), .v (j 13), .v (j 14), .v (j 15), .v (j 16), .v (j 17), .v (j 18), .v (j 19), .v (j 20), .v (j 21), .v (j 22), .v (j 23), .v (j 24), .v (j 25), .v (j 26), .v (j 27), .v (j 28)] [] h

theorem f54_3_in {w0 : World} {K : Value → AH → Prop} (g : Option Addr) (a : Nat) (i : Nat) (c : Option Addr) (d : Nat) (k : Nat) (e : Int) (b : Int) (h : AH)
  (hv : (brB (decide ((b < e))) (∃ n : Addr, ((c = (some n)) ∧ (((0 : Int) ≤ b) ∧ ((b < ((d : Nat) : Int)) ∧ (∃ m : Int, (((cellA w0 h (Addr.add n ((Int.toNat b) * 1))) = (some (int .u8 m))) ∧ (App w0 h 1 1 g a i 1 [(int .u8 m)] (fun o p q => (brB (m == (0 : Int)) (App w0 q 1 1 o (a + 1) p 1 [(int .u8 (255 : Int))] (fun r s t => (f54_3 w0 K r ((a + 1) + 1) s c d k e (IntKind.wrap .i64 (b + (1 : Int))) t))) (f54_3 w0 K o (a + 1) p c d k e (IntKind.wrap .i64 (b + (1 : Int))) q)))))))))) (App w0 h 1 1 g a i 2 [(int .u8 (0 : Int)), (int .u8 (1 : Int))] (fun u v x => (K (slice u (a + 2) v) x))))) :
  f54_3 w0 K g a i c d k e b h := fun j => LP_intro (P := Proofs.Tryd.prog) (Eq.mp (by kernel_rfl) hv)

theorem f54_go {w0 : World} {K : Value → AH → Prop} (c : Option Addr) (a : Nat) (g : Nat) (d : Option Addr) (b : Nat) (e : Nat) (h : AH)
  (hv : (rowsOf w0 h 1 c a (fun i => (App w0 h 1 1 none 0 0 a i (fun k m n => (f54_3 w0 K k (0 + a) m d b e ((b : Nat) : Int) (0 : Int) n)))))) :
  EvC Proofs.Tryd.prog w0 54 ([(.slice c a g), (.slice d b e)]).toArray K h := EvC_intro (P := Proofs.Tryd.prog) f54_J (Eq.mp (by kernel_rfl) hv)
def f52_J : Nat → List Nat × Nat := jOf []



theorem f52_go {w0 : World} {K : Value → AH → Prop} (b : Int) (a : ByteArray) (h : AH)
  (hv : (∀ c : Nat, (((ByteArray.size a) ≤ c) → (newB w0 h (AB.cells (intsOf a) c) (fun i k => (newB w0 k (AB.cells [(int .u8 b)] (List.length [(int .u8 b)])) (fun m n => (EvC Proofs.Tryd.prog w0 54 #[(slice (some (Addr.mk m 0 none)) 1 1), (slice (some (Addr.mk i 0 none)) (ByteArray.size a) c)] (fun o p => (∃ d : Option Addr, (∃ e : Nat, (∃ g : Nat, ((o = (slice d e g)) ∧ (K (slice d e g) p)))))) n)))))))) :
  EvC Proofs.Tryd.prog w0 52 ([(.int .u8 b), (.string a)]).toArray K h := EvC_intro (P := Proofs.Tryd.prog) f52_J (Eq.mp (by kernel_rfl) hv)
/-! ### numbers -/
theorem wrap8 (n : Nat) : IntKind.u8.wrap ((n : Nat) : Int) = ((n % 256 : Nat) : Int) := by
  simp [IntKind.wrap, IntKind.signed, IntKind.bits]
theorem wrap64u {n : Int} (h0 : 0 ≤ n) (h1 : n < 18446744073709551616) : IntKind.u64.wrap n = n := by
  simp [IntKind.wrap, IntKind.signed, IntKind.bits]; omega
theorem wrap32u {n : Int} (h0 : 0 ≤ n) (h1 : n < 4294967296) : IntKind.u32.wrap n = n := by
  simp [IntKind.wrap, IntKind.signed, IntKind.bits]; omega
theorem wrap32_rg (n : Int) : 0 ≤ IntKind.u32.wrap n ∧ IntKind.u32.wrap n < 4294967296 := by
  simp [IntKind.wrap, IntKind.signed, IntKind.bits]; omega
theorem ofInt_nat (w n : Nat) : BitVec.ofInt w ((n : Nat) : Int) = BitVec.ofNat w n := BitVec.ofInt_natCast w n
/-- A byte with its highest bit set. -/
theorem or128 (n : Nat) : IntKind.u8.wrap (((BitVec.toNat ((BitVec.ofInt 8 (IntKind.u8.wrap ((n : Nat) : Int))) ||| (BitVec.ofInt 8 (128 : Int)))) : Nat) : Int) = ((n % 128 + 128 : Nat) : Int) := by
  rw [wrap8, wrap8, ofInt_nat, BitVec.toNat_or, BitVec.toNat_ofNat]
  have e1 : (BitVec.ofInt 8 (128 : Int)).toNat = 128 := by decide
  rw [e1]
  have e2 : ∀ m, m < 256 → (m % 256 % 2 ^ 8 ||| 128) % 256 = m % 128 + 128 := by decide
  have := e2 (n % 256) (Nat.mod_lt _ (by decide))
  have e3 : n % 256 % 256 = n % 256 := Nat.mod_mod _ _
  rw [e3] at this
  rw [this]
  congr 1
  omega
theorem fdiv128 (n : Nat) : Int.fdiv ((n : Nat) : Int) (128 : Int) = ((n / 128 : Nat) : Int) := by
  rw [Int.fdiv_eq_ediv_of_nonneg _ (by decide)]; omega
/-- A number of bytes, seven bits a byte. -/
def putV (n : Nat) : List UInt8 := if h : n < 128 then [UInt8.ofNat n] else UInt8.ofNat (n % 128 + 128) :: putV (n / 128)
termination_by n
decreasing_by omega
theorem putV_small {n : Nat} (h : n < 128) : putV n = [UInt8.ofNat n] := by rw [putV, dif_pos h]
theorem putV_step {n : Nat} (h : ¬ n < 128) : putV n = UInt8.ofNat (n % 128 + 128) :: putV (n / 128) := by rw [putV, dif_neg h]
theorem putV_len : ∀ (k n : Nat), n < 128 ^ (k + 1) → 1 ≤ (putV n).length ∧ (putV n).length ≤ k + 1
  | 0, n, h => by rw [putV_small (by simpa using h)]; simp
  | k + 1, n, h => by
    by_cases q : n < 128
    · rw [putV_small q]; simp
    · have := putV_len k (n / 128) (by rw [Nat.pow_succ] at h; omega)
      rw [putV_step q, List.length_cons]; omega
theorem putV_len10 {n : Nat} (h : n < 18446744073709551616) : 1 ≤ (putV n).length ∧ (putV n).length ≤ 10 := putV_len 9 n (by omega)
/-- The lowest bytes of a number, the highest first. -/
def fixedV (n : Nat) : Nat → List UInt8
  | 0 => []
  | k + 1 => UInt8.ofNat (n / 256 ^ k % 256) :: fixedV n k
theorem fixedV_len (n : Nat) : ∀ k, (fixedV n k).length = k
  | 0 => rfl
  | k + 1 => by simp [fixedV, fixedV_len n k]
theorem byte_cell {m : Nat} (h : m < 256) : [Value.int .u8 ((m : Nat) : Int)] = u8s [UInt8.ofNat m] := by
  simp [u8s, UInt8.toNat_ofNat', Nat.mod_eq_of_lt h]
theorem u8s_app (a b : List UInt8) : u8s (a ++ b) = u8s a ++ u8s b := by simp [u8s]
/-- A byte is put behind a new row. -/
theorem App_byte {w0 : World} {h : AH} {B : List (Nat × AB)} {a : Option Addr} {c m : Nat} {l : List UInt8} {K : Option Addr → Nat → AH → Prop} (v : SlV 1 a l.length c (u8s l)) (w : Own w0 h (slB a (u8s l) (c * 1) ++ B)) (hl : l.length ≤ 100000000000000) (hm : m < 256)
    (hk : ∀ a' c' h', SlV 1 a' (l ++ [UInt8.ofNat m]).length c' (u8s (l ++ [UInt8.ofNat m])) → Own w0 h' (slB a' (u8s (l ++ [UInt8.ofNat m])) (c' * 1) ++ B) → K a' c' h') : App w0 h 1 1 a l.length c 1 [.int .u8 ((m : Nat) : Int)] K := by
  refine App_slB v w (by omega) (by omega) rfl (fun y hy => by rw [List.mem_singleton] at hy; subst hy; rfl) fun a' c' h' v' w' => ?_
  rw [byte_cell hm, ← u8s_app] at v' w'
  exact hk a' c' h' (by rw [List.length_append]; exact v') w'
/-- Bytes are put behind a new row. -/
theorem App_bytes {w0 : World} {h : AH} {B : List (Nat × AB)} {a : Option Addr} {c : Nat} {l x : List UInt8} {K : Option Addr → Nat → AH → Prop} (v : SlV 1 a l.length c (u8s l)) (w : Own w0 h (slB a (u8s l) (c * 1) ++ B)) (hl : l.length + x.length ≤ 100000000000000)
    (hk : ∀ a' c' h', SlV 1 a' (l ++ x).length c' (u8s (l ++ x)) → Own w0 h' (slB a' (u8s (l ++ x)) (c' * 1) ++ B) → K a' c' h') : App w0 h 1 1 a l.length c x.length (u8s x) K := by
  refine App_slB v w (by omega) (by omega) (by rw [u8s_length, Nat.mul_one]) (u8s_cell _) fun a' c' h' v' w' => ?_
  rw [← u8s_app] at v' w'
  exact hk a' c' h' (by rw [List.length_append]; exact v') w'
theorem App_copy {w0 : World} {h : AH} {B : List (Nat × AB)} {x : List UInt8} {K : Option Addr → Nat → AH → Prop} (w : Own w0 h B) (hl : x.length ≤ 100000000000000)
    (hk : ∀ a' c' h', SlV 1 a' x.length c' (u8s x) → Own w0 h' (slB a' (u8s x) (c' * 1) ++ B) → K a' c' h') : App w0 h 1 1 none 0 0 x.length (u8s x) K :=
  App_new w (by omega) (by omega) (by rw [u8s_length, Nat.mul_one]) (u8s_cell _) hk

/-! ### vint: Put, PutBytes, Fixed -/
theorem putV_more {w0 : World} {K : Value → AH → Prop} {B : List (Nat × AB)} : ∀ (k n : Nat), n < 128 ^ (k + 1) → ∀ (a : Option Addr) (c : Nat) (h : AH) (l : List UInt8), SlV 1 a l.length c (u8s l) → Own w0 h (slB a (u8s l) (c * 1) ++ B) → l.length + k ≤ 1000000000000 →
    (∀ h' a' c', SlV 1 a' (l ++ putV n).length c' (u8s (l ++ putV n)) → Own w0 h' (slB a' (u8s (l ++ putV n)) (c' * 1) ++ B) → K (.slice a' (l ++ putV n).length c') h') →
    (brB (decide (((128 : Int) ≤ ((n : Nat) : Int)))) (App w0 h 1 1 a l.length c 1 [(.int .u8 (IntKind.u8.wrap (((BitVec.toNat ((BitVec.ofInt 8 (IntKind.u8.wrap ((n : Nat) : Int))) ||| (BitVec.ofInt 8 (128 : Int)))) : Nat) : Int)))]
        (fun a'10 c'11 h'12 => (((0 : Int) ≤ (7 : Int)) ∧ (f51_10000 w0 K (Int.fdiv ((n : Nat) : Int) (128 : Int)) a'10 (l.length + 1) c'11 h'12))))
      (App w0 h 1 1 a l.length c 1 [(.int .u8 (IntKind.u8.wrap ((n : Nat) : Int)))] (fun a'13 c'14 h'15 => (K (.slice a'13 (l.length + 1) c'14) h'15))))
  | k, n, hn, a, c, h, l, v, w, hl, hk => by
    refine brB_of (fun q => ?_) fun q => ?_
    · have q' : ¬ n < 128 := by have := of_decide_eq_true q; omega
      rw [or128]
      refine App_byte v w (by omega) (by omega) fun a' c' h' v' w' => ⟨by decide, ?_⟩
      rw [fdiv128]
      match k, hn with
      | 0, hn => simp at hn; omega
      | k + 1, hn =>
        rw [show l.length + 1 = (l ++ [UInt8.ofNat (n % 128 + 128)]).length by simp]
        refine f51_10000_in _ _ _ _ _ (putV_more k (n / 128) (by rw [Nat.pow_succ] at hn; omega) a' c' h' _ v' w' (by simp; omega) fun h2 a2 c2 v2 w2 => ?_)
        have e : l ++ [UInt8.ofNat (n % 128 + 128)] ++ putV (n / 128) = l ++ putV n := by rw [putV_step q']; simp
        rw [e] at v2 w2 ⊢
        exact hk h2 a2 c2 v2 w2
    · have q' : n < 128 := by have := of_decide_eq_false q; omega
      rw [wrap8, Nat.mod_eq_of_lt (by omega)]
      refine App_byte v w (by omega) (by omega) fun a' c' h' v' w' => ?_
      have e : l ++ [UInt8.ofNat n] = l ++ putV n := by rw [putV_small q']
      rw [e] at v' w'
      have := hk h' a' c' v' w'
      rw [show (l ++ putV n).length = l.length + 1 by rw [putV_small q']; simp] at this
      exact this
/-- vint.Put. -/
theorem f51_spec {w0 : World} {K : Value → AH → Prop} {h : AH} {B : List (Nat × AB)} {a : Option Addr} {c n : Nat} {l : List UInt8} (w : Own w0 h B) (hr : Rd w0 h a (u8s l)) (hl : l.length ≤ 100000000000) (hn : n < 18446744073709551616)
    (hk : ∀ h' a' c', SlV 1 a' (l ++ putV n).length c' (u8s (l ++ putV n)) → Own w0 h' (slB a' (u8s (l ++ putV n)) (c' * 1) ++ B) → K (.slice a' (l ++ putV n).length c') h') :
    EvC Go.Proofs.Tryd.prog w0 51 #[.slice a l.length c, .int .u64 ((n : Nat) : Int)] K h := by
  refine f51_go _ _ _ _ _ (rowsOf_of hr (by rw [u8s_length, Nat.mul_one]) (App_copy w (by omega) fun a' c' h' v' w' => ?_))
  rw [Nat.zero_add]
  exact putV_more 9 n (by omega) a' c' h' l v' w' (by omega) hk
/-- vint.PutBytes. -/
theorem f75_spec {w0 : World} {K : Value → AH → Prop} {h : AH} {B : List (Nat × AB)} {a b : Option Addr} {c d : Nat} {l x : List UInt8} (w : Own w0 h B) (hr : Rd w0 h a (u8s l)) (hx : ∀ h', Own w0 h' B → Rd w0 h' b (u8s x)) (hl : l.length ≤ 10000000000) (hxl : x.length ≤ 10000000000)
    (hk : ∀ h' a' c', SlV 1 a' (l ++ (putV x.length ++ x)).length c' (u8s (l ++ (putV x.length ++ x))) → Own w0 h' (slB a' (u8s (l ++ (putV x.length ++ x))) (c' * 1) ++ B) → K (.slice a' (l ++ (putV x.length ++ x)).length c') h') :
    EvC Go.Proofs.Tryd.prog w0 75 #[.slice a l.length c, .slice b x.length d] K h := by
  refine f75_go _ _ _ _ _ _ _ ?_
  rw [wrap64u (by omega) (by omega)]
  have hp := putV_len10 (n := x.length) (by omega)
  refine f51_spec w hr (by omega) (by omega) fun h1 a1 c1 v1 w1 => ⟨_, _, _, rfl, rowsOf_of (hx h1 w1.drop) (by rw [u8s_length, Nat.mul_one]) (App_bytes v1 w1 (by rw [List.length_append]; omega) fun a2 c2 h2 v2 w2 => ?_)⟩
  rw [List.append_assoc] at v2 w2
  have := hk h2 a2 c2 v2 w2
  rw [← List.append_assoc, List.length_append] at this
  exact this
theorem fixed_byteU {n k : Nat} (hk : k ≤ 7) : IntKind.u8.wrap (Int.fdiv ((n : Nat) : Int) ((2 : Int) ^ (Min.min (Int.toNat (IntKind.u64.wrap (IntKind.i64.wrap ((8 : Int) * ((k : Nat) : Int))))) 64))) = ((n / 256 ^ k % 256 : Nat) : Int) := by
  rw [wrap64 (by omega) (by omega), wrap64u (by omega) (by omega), show Int.toNat ((8 : Int) * ((k : Nat) : Int)) = 8 * k by omega, Nat.min_eq_left (by omega)]
  have e : ((2 : Int) ^ (8 * k)) = ((256 ^ k : Nat) : Int) := by rw [Int.pow_mul]; norm_cast
  rw [e, Int.fdiv_eq_ediv_of_nonneg _ (Int.natCast_nonneg _), ← Int.natCast_ediv, wrap8]
theorem fixed_byte {n k : Nat} (hk : k ≤ 7) : IntKind.u8.wrap (Int.fdiv ((n : Nat) : Int) ((2 : Int) ^ (Min.min (Int.toNat (IntKind.i64.wrap ((8 : Int) * ((k : Nat) : Int)))) 64))) = ((n / 256 ^ k % 256 : Nat) : Int) := by
  rw [wrap64 (by omega) (by omega), show Int.toNat ((8 : Int) * ((k : Nat) : Int)) = 8 * k by omega, Nat.min_eq_left (by omega)]
  have e : ((2 : Int) ^ (8 * k)) = ((256 ^ k : Nat) : Int) := by rw [Int.pow_mul]; norm_cast
  rw [e, Int.fdiv_eq_ediv_of_nonneg _ (Int.natCast_nonneg _), ← Int.natCast_ediv, wrap8]
theorem f55_loop {w0 : World} {K : Value → AH → Prop} {B : List (Nat × AB)} {n : Nat} : ∀ (k : Nat), k ≤ 8 → ∀ (a : Option Addr) (c : Nat) (h : AH) (l : List UInt8), SlV 1 a l.length c (u8s l) → Own w0 h (slB a (u8s l) (c * 1) ++ B) → l.length + k ≤ 100000000000 →
    (∀ h' a' c', SlV 1 a' (l ++ fixedV n k).length c' (u8s (l ++ fixedV n k)) → Own w0 h' (slB a' (u8s (l ++ fixedV n k)) (c' * 1) ++ B) → K (.slice a' (l ++ fixedV n k).length c') h') →
    f55_4 w0 K a l.length c ((n : Nat) : Int) (((k : Nat) : Int) - 1) h
  | 0, _, a, c, h, l, v, w, _, hk => by
    refine f55_4_in _ _ _ _ _ _ (brB_of (fun q => by have := of_decide_eq_true q; omega) fun _ => ?_)
    have := hk h a c (by simpa [fixedV] using v) (by simpa [fixedV] using w)
    simpa [fixedV] using this
  | k + 1, hk8, a, c, h, l, v, w, hl, hk => by
    have e1 : (((k + 1 : Nat) : Int) - 1) = ((k : Nat) : Int) := by omega
    rw [e1]
    refine f55_4_in _ _ _ _ _ _ (brB_of (fun _ => ⟨by rw [show IntKind.i64.wrap ((8 : Int) * ((k : Nat) : Int)) = ((8 * k : Nat) : Int) by rw [wrap64 (by omega) (by omega)]; omega]; exact Int.natCast_nonneg _, ?_⟩) fun q => by have := of_decide_eq_false q; omega)
    rw [fixed_byte (by omega)]
    refine App_byte v w (by omega) (by omega) fun a' c' h' v' w' => ?_
    rw [wrap64 (by omega) (by omega), show l.length + 1 = (l ++ [UInt8.ofNat (n / 256 ^ k % 256)]).length by simp]
    refine f55_loop k (by omega) a' c' h' _ v' w' (by simp; omega) fun h2 a2 c2 v2 w2 => ?_
    have e : l ++ [UInt8.ofNat (n / 256 ^ k % 256)] ++ fixedV n k = l ++ fixedV n (k + 1) := by simp [fixedV]
    rw [e] at v2 w2 ⊢
    exact hk h2 a2 c2 v2 w2
/-- A number as a part of a key. -/
def numU (x : Int) : Nat := BitVec.toNat ((BitVec.ofInt 64 (IntKind.u64.wrap x)) ^^^ (BitVec.ofInt 64 (9223372036854775808 : Int)))
def numL (x : Int) : List UInt8 := fixedV (numU x) 8
theorem numU_wrap (x : Int) : IntKind.u64.wrap (((BitVec.toNat ((BitVec.ofInt 64 (IntKind.u64.wrap x)) ^^^ (BitVec.ofInt 64 (9223372036854775808 : Int)))) : Nat) : Int) = ((numU x : Nat) : Int) := by
  have := BitVec.isLt ((BitVec.ofInt 64 (IntKind.u64.wrap x)) ^^^ (BitVec.ofInt 64 (9223372036854775808 : Int)))
  unfold numU
  exact wrap64u (Int.natCast_nonneg _) (by omega)
/-- key.Number. -/
theorem f55_spec {w0 : World} {K : Value → AH → Prop} {h : AH} {B : List (Nat × AB)} {a : Option Addr} {c : Nat} {x : Int} {l : List UInt8} (w : Own w0 h B) (hr : Rd w0 h a (u8s l)) (hl : l.length ≤ 10000000000)
    (hk : ∀ h' a' c', SlV 1 a' (l ++ numL x).length c' (u8s (l ++ numL x)) → Own w0 h' (slB a' (u8s (l ++ numL x)) (c' * 1) ++ B) → K (.slice a' (l ++ numL x).length c') h') :
    EvC Go.Proofs.Tryd.prog w0 55 #[.slice a l.length c, .int .i64 x] K h := by
  refine f55_go _ _ _ _ _ (rowsOf_of hr (by rw [u8s_length, Nat.mul_one]) (App_copy w (by omega) fun a' c' h' v' w' => ?_))
  rw [Nat.zero_add, numU_wrap]
  exact f55_loop 8 (by omega) a' c' h' l v' w' (by omega) hk
/-- A part of a key. -/
def partL : List UInt8 → List UInt8
  | [] => []
  | x :: l => (if x = 0 then [0, 255] else [x]) ++ partL l
theorem partL_app : ∀ (l m : List UInt8), partL (l ++ m) = partL l ++ partL m
  | [], m => rfl
  | x :: l, m => by simp [partL, partL_app l m]
theorem partL_len : ∀ (l : List UInt8), (partL l).length ≤ 2 * l.length
  | [] => by simp [partL]
  | x :: l => by
    have := partL_len l
    simp only [partL, List.length_append, List.length_cons]
    split <;> simp <;> omega
def partE (l : List UInt8) : List UInt8 := partL l ++ [0, 1]
theorem byte_at {w0 : World} {h : AH} {a : Option Addr} {l : List UInt8} {i : Nat} {b : UInt8} (hr : Rd w0 h a (u8s l)) (hb : l[i]? = some b) : ∃ ad, a = some ad ∧ cellA w0 h (Addr.add ad ((Int.toNat ((i : Nat) : Int)) * 1)) = some (.int .u8 (b.toNat : Int)) := by
  obtain ⟨ad, had, hat⟩ := hr i (.int .u8 (b.toNat : Int)) (by simp [u8s, hb])
  exact ⟨ad, had, by rw [Int.toNat_natCast, Nat.mul_one]; exact hat⟩
theorem f54_loop {w0 : World} {K : Value → AH → Prop} {B : List (Nat × AB)} {b : Option Addr} {d : Nat} {l x : List UInt8} (hx : ∀ h', Own w0 h' B → Rd w0 h' b (u8s x)) (hl : l.length ≤ 10000000000) (hxl : x.length ≤ 10000000000)
    (hk : ∀ h' a' c', SlV 1 a' (l ++ partE x).length c' (u8s (l ++ partE x)) → Own w0 h' (slB a' (u8s (l ++ partE x)) (c' * 1) ++ B) → K (.slice a' (l ++ partE x).length c') h') :
    ∀ (n i : Nat), i + n = x.length → ∀ (a : Option Addr) (c : Nat) (h : AH) (m : List UInt8), m = l ++ partL (x.take i) → SlV 1 a m.length c (u8s m) → Own w0 h (slB a (u8s m) (c * 1) ++ B) → f54_3 w0 K a m.length c b x.length d ((x.length : Nat) : Int) ((i : Nat) : Int) h := fun n => by
  induction n with
  | zero =>
    intro i hi a c h m hm v w
    rw [List.take_of_length_le (by omega)] at hm
    have pl := partL_len x
    have ml : m.length ≤ 100000000000 := by rw [hm, List.length_append]; omega
    refine f54_3_in _ _ _ _ _ _ _ _ _ (brB_of (fun z => by have := of_decide_eq_true z; omega) fun _ => ?_)
    refine App_bytes (x := [0, 1]) v w (by simp; omega) fun a' c' h' v' w' => ?_
    have e : m ++ [0, 1] = l ++ partE x := by rw [hm, List.append_assoc]; rfl
    rw [show m.length + 2 = (l ++ partE x).length by rw [← e]; simp]
    rw [e] at v' w'
    exact hk h' a' c' v' w'
  | succ n ih =>
    intro i hi a c h m hm v w
    have g1 : x[i]? = some x[i] := List.getElem?_eq_getElem _
    have ht : x.take (i + 1) = x.take i ++ [x[i]] := List.take_succ_eq_append_getElem (by omega)
    generalize x[i] = y at g1 ht
    have pl := partL_len (x.take i)
    have tl := List.length_take_le i x
    have ml : m.length ≤ 100000000000 := by rw [hm, List.length_append]; omega
    obtain ⟨ad, had, hat⟩ := byte_at (hx h w.drop) g1
    refine f54_3_in _ _ _ _ _ _ _ _ _ (brB_of (fun _ => ⟨ad, had, by omega, by omega, _, hat, ?_⟩) fun z => by have := of_decide_eq_false z; omega)
    have hy : y.toNat < 256 := y.toNat_lt
    refine App_byte v w (by omega) hy fun a' c' h' v' w' => ?_
    rw [show UInt8.ofNat y.toNat = y by simp] at v' w'
    rw [wrapS (by omega)]
    refine brB_of (fun z => ?_) fun z => ?_
    · have y0 : y = 0 := by
        have : (y.toNat : Int) = 0 := by simpa using z
        exact UInt8.toNat_inj.1 (by simpa using this)
      rw [show m.length + 1 = (m ++ [y]).length by simp]
      refine App_byte (m := 255) v' w' (by simp; omega) (by decide) fun a2 c2 h2 v2 w2 => ?_
      rw [show (m ++ [y]).length + 1 = (m ++ [y] ++ [UInt8.ofNat 255]).length by simp]
      exact ih (i + 1) (by omega) a2 c2 h2 _ (by rw [ht, partL_app, hm, y0]; simp [partL]) v2 w2
    · have y0 : ¬ y = 0 := fun e => by subst e; simp at z
      rw [show m.length + 1 = (m ++ [y]).length by simp]
      exact ih (i + 1) (by omega) a' c' h' _ (by rw [ht, partL_app, hm]; simp [partL, y0]) v' w'
/-- key.Bytes. -/
theorem f54_spec {w0 : World} {K : Value → AH → Prop} {h : AH} {B : List (Nat × AB)} {a b : Option Addr} {c d : Nat} {l x : List UInt8} (w : Own w0 h B) (hr : Rd w0 h a (u8s l)) (hx : ∀ h', Own w0 h' B → Rd w0 h' b (u8s x)) (hl : l.length ≤ 10000000000) (hxl : x.length ≤ 10000000000)
    (hk : ∀ h' a' c', SlV 1 a' (l ++ partE x).length c' (u8s (l ++ partE x)) → Own w0 h' (slB a' (u8s (l ++ partE x)) (c' * 1) ++ B) → K (.slice a' (l ++ partE x).length c') h') :
    EvC Go.Proofs.Tryd.prog w0 54 #[.slice a l.length c, .slice b x.length d] K h := by
  refine f54_go _ _ _ _ _ _ _ (rowsOf_of hr (by rw [u8s_length, Nat.mul_one]) (App_copy w (by omega) fun a' c' h' v' w' => ?_))
  rw [Nat.zero_add]
  exact f54_loop hx hl hxl hk x.length 0 (by omega) a' c' h' l (by simp [partL]) v' w'
/-- The front of a client's keys of a kind. -/
def keyL (k : UInt8) (s : ByteArray) : List UInt8 := k :: partE s.data.toList
theorem f52_spec {w0 : World} {K : Value → AH → Prop} {h : AH} {B : List (Nat × AB)} {k : UInt8} {x : Int} {s : ByteArray} (w : Own w0 h B) (hx : x = ((k.toNat : Nat) : Int)) (hs : s.size ≤ 10000000000)
    (hk : ∀ h' a' c', SlV 1 a' (keyL k s).length c' (u8s (keyL k s)) → Own w0 h' (slB a' (u8s (keyL k s)) (c' * 1) ++ B) → K (.slice a' (keyL k s).length c') h') :
    EvC Go.Proofs.Tryd.prog w0 52 #[.int .u8 x, .string s] K h := by
  subst hx
  refine f52_go _ _ _ fun cap hcap b hb hbn => ?_
  have w1 := w.new hb hbn (o := .cells (intsOf s) cap)
  intro b2 hb2 hbn2
  have w2 := w1.new hb2 hbn2 (o := .cells (u8s [k]) 1)
  have r1 : Rd w0 _ (some ⟨b2, 0, none⟩) (u8s [k]) := SlV.rd (e := 1) (n := 1) (c := 1) (cs := []) ⟨rfl, Nat.le_refl _, rfl, rfl⟩ w2
  rw [← slen s]
  refine f54_spec (l := [k]) (x := s.data.toList) w2 r1 (fun h' w' => lit_rd w'.tail hcap) (by simp) (by rw [slen]; omega) fun h' a' c' v' w' => ⟨a', (keyL k s).length, c', rfl, ?_⟩
  exact hk h' a' c' v' (Own.cut (ds := [(b2, .cells (u8s [k]) 1), (b, .cells (intsOf s) cap)]) w')
/-- A message's bytes. -/
def msgL (m : MsgM) : List UInt8 := UInt8.ofNat (m.qos.toNat + if m.ret then 4 else 0) :: (putV m.topic.size ++ m.topic.data.toList ++ (putV m.pay.length ++ m.pay))
theorem qos_or {q : Int} (h0 : 0 ≤ q) (h2 : q ≤ 2) : IntKind.u8.wrap (((BitVec.toNat ((BitVec.ofInt 8 (IntKind.u8.wrap q)) ||| (BitVec.ofInt 8 (4 : Int)))) : Nat) : Int) = ((q.toNat + 4 : Nat) : Int) := by
  have : q = 0 ∨ q = 1 ∨ q = 2 := by omega
  rcases this with rfl | rfl | rfl <;> decide
theorem qos_add {q : Int} (h0 : 0 ≤ q) (h2 : q ≤ 2) : IntKind.u8.wrap ((IntKind.u8.wrap q) + (4 : Int)) = ((q.toNat + 4 : Nat) : Int) := by
  have : q = 0 ∨ q = 1 ∨ q = 2 := by omega
  rcases this with rfl | rfl | rfl <;> decide
theorem qos_no {q : Int} (h0 : 0 ≤ q) (h2 : q ≤ 2) : IntKind.u8.wrap q = ((q.toNat + 0 : Nat) : Int) := by
  have : q = 0 ∨ q = 1 ∨ q = 2 := by omega
  rcases this with rfl | rfl | rfl <;> decide
end Go.G.YtilifcggegabfaaDoor
