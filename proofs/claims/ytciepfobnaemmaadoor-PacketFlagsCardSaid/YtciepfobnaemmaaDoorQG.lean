/- PacketFlags. -/
import Derived.Test.YtciepfobnaemmaaDoorQC
import Derived.Test.YtciepfobnaemmaaDoorLB
import Derived.Test.YtciepfobnaemmaaDoorProg
set_option maxRecDepth 100000
namespace Go.G.YtciepfobnaemmaaDoor
open Go.RowKit
open Value (string slice int bool agg)
def f9_J : Nat → List Nat × Nat := jOf [(2, [0, 3, 4, 5, 6, 7, 8, 9, 10, 11, 12, 13, 14, 15, 16, 17, 19, 20, 21, 22, 23, 24, 25, 26, 27, 28, 29, 30, 31, 32, 33, 34, 35, 36, 37, 38, 39, 40, 41, 42, 43, 44, 45, 46, 47, 48, 49, 50, 51, 52, 53, 54, 55, 56, 57, 58, 59, 60, 61, 62, 63, 64, 65, 66, 67, 68, 69, 70, 71, 72, 73, 74, 75, 76, 77, 78, 79, 80, 81, 82, 83, 84, 85, 86, 87, 88, 89, 90], 1), (3, [0, 3, 4, 5, 6, 7, 8, 9, 10, 11, 12, 13, 14, 15, 16, 17, 18, 19, 20, 21, 22, 23, 24, 25, 26, 27, 28, 29, 30, 31, 32, 33, 34, 35, 36, 37, 38, 39, 40, 41, 42, 43, 44, 45, 46, 47, 48, 49, 50, 51, 52, 53, 54, 55, 56, 57, 58, 59, 60, 61, 62, 63, 64, 65, 66, 67, 68, 69, 70, 71, 72, 73, 74, 75, 76, 77, 78, 79, 80, 81, 82, 83, 84, 85, 86, 87, 88, 89, 90], 1), (5, [0, 3, 4, 6, 7, 8, 9, 10, 11, 12, 13, 14, 15, 16, 17, 18, 19, 20, 21, 22, 23, 24, 25, 26, 27, 28, 29, 30, 32, 33, 34, 35, 36, 37, 38, 39, 40, 41, 42, 43, 44, 45, 46, 47, 48, 49, 50, 51, 52, 53, 54, 55, 56, 57, 58, 59, 60, 61, 62, 63, 64, 65, 66, 67, 68, 69, 70, 71, 72, 73, 74, 75, 76, 77, 78, 79, 80, 81, 82, 83, 84, 85, 86, 87, 88, 89, 90], 1), (6, [0, 3, 4, 6, 7, 8, 9, 10, 11, 12, 13, 14, 15, 16, 17, 18, 19, 20, 21, 22, 23, 24, 25, 26, 27, 28, 29, 30, 31, 32, 33, 34, 35, 36, 37, 38, 39, 40, 41, 42, 43, 44, 45, 46, 47, 48, 49, 50, 51, 52, 53, 54, 55, 56, 57, 58, 59, 60, 61, 62, 63, 64, 65, 66, 67, 68, 69, 70, 71, 72, 73, 74, 75, 76, 77, 78, 79, 80, 81, 82, 83, 84, 85, 86, 87, 88, 89, 90], 1), (11, [0, 1, 2, 3, 4, 6, 8, 9, 11, 12, 13, 14, 15, 16, 17, 18, 19, 20, 21, 22, 23, 24, 25, 26, 27, 28, 29, 30, 31, 32, 33, 34, 35, 36, 37, 38, 39, 40, 41, 42, 43, 44, 45, 46, 47, 48, 49, 50, 51, 52, 53, 54, 55, 56, 57, 58, 60, 61, 62, 63, 64, 65, 66, 67, 68, 69, 70, 71, 72, 73, 74, 75, 76, 77, 78, 79, 80, 81, 82, 83, 84, 85, 86, 87, 88, 89, 90], 0)]

def f9_2 (w0 : World) (K : Value → AH → Prop) (a : Int) (b : Bool) (c d : Int) (e : Bool) (g : ByteArray) (i : Option Addr) (k m : Nat) (n : Int) (o : Bool) (p : Int) (q : ByteArray) (r : Bool) (s : Int) (t u : Bool) (x : Int) (y : Option Addr) (z A : Nat) (B : Option Addr) (C D : Nat) (h : AH) : Prop :=
  ∀ j : Nat → Value, LPk Proofs.Tryd.prog w0 (EvC Proofs.Tryd.prog w0) f9_J 9 K 2 (jv j 1 1 (.v (.int .u8 a) :: (.bp 0 0 :: (jv j 18 15 (.v (.bool b) :: (jv j 91 72 [])))))) [some [(.int .i64 c), (.int .i64 d), (.bool e), (.string g), (.slice i k m), (.int .i64 n), (.bool o), (.int .i64 p), (.string q), (.bool r), (.int .i64 s), (.bool t), (.bool u), (.int .i64 x), (.slice y z A), (.slice B C D)]] h

def f9_3 (w0 : World) (K : Value → AH → Prop) (a b c : Int) (d : Bool) (e : ByteArray) (g : Option Addr) (i k : Nat) (m : Int) (n : Bool) (o : Int) (p : ByteArray) (q : Bool) (r : Int) (s t : Bool) (u : Int) (x : Option Addr) (y z : Nat) (A : Option Addr) (B C : Nat) (h : AH) : Prop :=
  ∀ j : Nat → Value, LPk Proofs.Tryd.prog w0 (EvC Proofs.Tryd.prog w0) f9_J 9 K 3 (jv j 1 1 (.v (.int .u8 a) :: (.bp 0 0 :: (jv j 91 88 [])))) [some [(.int .i64 b), (.int .i64 c), (.bool d), (.string e), (.slice g i k), (.int .i64 m), (.bool n), (.int .i64 o), (.string p), (.bool q), (.int .i64 r), (.bool s), (.bool t), (.int .i64 u), (.slice x y z), (.slice A B C)]] h

def f9_5 (w0 : World) (K : Value → AH → Prop) (a : Int) (b : Option Addr) (c d : Nat) (e : Bool) (g i : Int) (k : Bool) (m : ByteArray) (n : Option Addr) (o p : Nat) (q : Int) (r : Bool) (s : Int) (t : ByteArray) (u : Bool) (x : Int) (y z : Bool) (A : Int) (B : Option Addr) (C D : Nat) (E : Option Addr) (F G : Nat) (h : AH) : Prop :=
  ∀ j : Nat → Value, LPk Proofs.Tryd.prog w0 (EvC Proofs.Tryd.prog w0) f9_J 9 K 5 (jv j 1 1 (.v (.int .u8 a) :: (.bp 0 0 :: (jv j 5 2 (.v (.slice b c d) :: (jv j 31 25 (.v (.bool e) :: (jv j 91 59 [])))))))) [some [(.int .i64 g), (.int .i64 i), (.bool k), (.string m), (.slice n o p), (.int .i64 q), (.bool r), (.int .i64 s), (.string t), (.bool u), (.int .i64 x), (.bool y), (.bool z), (.int .i64 A), (.slice B C D), (.slice E F G)]] h

def f9_6 (w0 : World) (K : Value → AH → Prop) (a : Int) (b : Option Addr) (c d : Nat) (e g : Int) (i : Bool) (k : ByteArray) (m : Option Addr) (n o : Nat) (p : Int) (q : Bool) (r : Int) (s : ByteArray) (t : Bool) (u : Int) (x y : Bool) (z : Int) (A : Option Addr) (B C : Nat) (D : Option Addr) (E F : Nat) (h : AH) : Prop :=
  ∀ j : Nat → Value, LPk Proofs.Tryd.prog w0 (EvC Proofs.Tryd.prog w0) f9_J 9 K 6 (jv j 1 1 (.v (.int .u8 a) :: (.bp 0 0 :: (jv j 5 2 (.v (.slice b c d) :: (jv j 91 85 [])))))) [some [(.int .i64 e), (.int .i64 g), (.bool i), (.string k), (.slice m n o), (.int .i64 p), (.bool q), (.int .i64 r), (.string s), (.bool t), (.int .i64 u), (.bool x), (.bool y), (.int .i64 z), (.slice A B C), (.slice D E F)]] h

def f9_11 (w0 : World) (K : Value → AH → Prop) (a : Option Addr) (b c : Nat) (d e : Int) (g : Bool) (h : AH) : Prop :=
  ∀ j : Nat → Value, LPk Proofs.Tryd.prog w0 (EvC Proofs.Tryd.prog w0) f9_J 9 K 11 (jv j 5 5 (.v (.slice a b c) :: (jv j 7 1 (.v (.int .u8 d) :: (jv j 10 2 (.v (.int .i64 e) :: (jv j 59 48 (.v (.bool g) :: (jv j 91 31 []))))))))) [] h

theorem f9_2_in {w0 : World} {K : Value → AH → Prop} (a : Int) (b : Bool) (c d : Int) (e : Bool) (g : ByteArray) (i : Option Addr) (k m : Nat) (n : Int) (o : Bool) (p : Int) (q : ByteArray) (r : Bool) (s : Int) (t u : Bool) (v : Int) (x : Option Addr) (y z : Nat) (A : Option Addr) (B C : Nat) (h : AH)
  (hv : (brB b (EvC Proofs.Tryd.prog w0 17 #[] (fun E F => (∃ D : Bool, ((E = (bool D)) ∧ (K (bool D) F)))) h) (f9_3 w0 K a c d e g i k m n o p q r s t u v x y z A B C h))) :
  f9_2 w0 K a b c d e g i k m n o p q r s t u v x y z A B C h := fun j => LP_intro (P := Proofs.Tryd.prog) (Eq.mp (by kernel_rfl) hv)

theorem f9_3_in {w0 : World} {K : Value → AH → Prop} (C a b : Int) (c : Bool) (d : ByteArray) (e : Option Addr) (g i : Nat) (k : Int) (m : Bool) (n : Int) (o : ByteArray) (p : Bool) (q : Int) (r s : Bool) (t : Int) (u : Option Addr) (v x : Nat) (y : Option Addr) (z A : Nat) (h : AH)
  (hv : (EvC Proofs.Tryd.prog w0 22 #[(agg #[(int .i64 a), (int .i64 b), (bool c), (string d), (slice e g i), (int .i64 k), (bool m), (int .i64 n), (string o), (bool p), (int .i64 q), (bool r), (bool s), (int .i64 t), (slice u v x), (slice y z A)])] (fun L F => (∃ D : Option Addr, (∃ B : Nat, (∃ E : Nat, (∃ G : Int, ((L = (Value.tuple #[(slice D B E), (int .i64 G)])) ∧ (brB (G != (0 : Int)) (f9_5 w0 K C D B E true a b c d e g i k m n o p q r s t u v x y z A F) (f9_5 w0 K C D B E (decide ((((B : Nat) : Int) < (2 : Int)))) a b c d e g i k m n o p q r s t u v x y z A F)))))))) h)) :
  f9_3 w0 K C a b c d e g i k m n o p q r s t u v x y z A h := fun j => LP_intro (P := Proofs.Tryd.prog) (Eq.mp (by kernel_rfl) hv)

theorem f9_5_in {w0 : World} {K : Value → AH → Prop} (a : Int) (b : Option Addr) (c d : Nat) (e : Bool) (g i : Int) (k : Bool) (m : ByteArray) (n : Option Addr) (o p : Nat) (q : Int) (r : Bool) (s : Int) (t : ByteArray) (u : Bool) (v : Int) (x y : Bool) (z : Int) (A : Option Addr) (B C : Nat) (D : Option Addr) (E F : Nat) (h : AH)
  (hv : (brB e (K (bool false) h) (f9_6 w0 K a b c d g i k m n o p q r s t u v x y z A B C D E F h))) :
  f9_5 w0 K a b c d e g i k m n o p q r s t u v x y z A B C D E F h := fun j => LP_intro (P := Proofs.Tryd.prog) (Eq.mp (by kernel_rfl) hv)

theorem f9_6_in {w0 : World} {K : Value → AH → Prop} (b : Int) (c : Option Addr) (a e : Nat) (k r : Int) (s : Bool) (t : ByteArray) (u : Option Addr) (v x : Nat) (y : Int) (z : Bool) (A : Int) (B : ByteArray) (C : Bool) (D : Int) (E F : Bool) (L : Int) (M : Option Addr) (N Q : Nat) (R : Option Addr) (T U : Nat) (h : AH)
  (hv : (∃ m : Addr, ((c = (some m)) ∧ (((0 : Int) ≤ (0 : Int)) ∧ (((0 : Int) < ((a : Nat) : Int)) ∧ (((0 : Int) ≤ (1 : Int)) ∧ (((1 : Int) ≤ ((a : Nat) : Int)) ∧ (∃ i : Int, (((cellA w0 h (Addr.add m 0)) = (some (int .u8 i))) ∧ (newB w0 h (AB.cells [(int .u8 (IntKind.wrap .u8 (((BitVec.toNat ((BitVec.ofInt 8 (IntKind.wrap .u8 (((BitVec.toNat ((BitVec.ofInt 8 i) &&& (BitVec.ofInt 8 (240 : Int)))) : Nat) : Int))) ||| (BitVec.ofInt 8 (IntKind.wrap .u8 (((BitVec.toNat ((BitVec.ofInt 8 b) &&& (BitVec.ofInt 8 (15 : Int)))) : Nat) : Int))))) : Nat) : Int)))] (List.length [(int .u8 (IntKind.wrap .u8 (((BitVec.toNat ((BitVec.ofInt 8 (IntKind.wrap .u8 (((BitVec.toNat ((BitVec.ofInt 8 i) &&& (BitVec.ofInt 8 (240 : Int)))) : Nat) : Int))) ||| (BitVec.ofInt 8 (IntKind.wrap .u8 (((BitVec.toNat ((BitVec.ofInt 8 b) &&& (BitVec.ofInt 8 (15 : Int)))) : Nat) : Int))))) : Nat) : Int)))])) (fun V n => (rowsOf w0 n 1 (cutA 1 c e 1) (a - 1) (fun Y => (App w0 n 1 1 (some (Addr.mk V 0 none)) 1 1 (a - 1) Y (fun Z a0 a1 => (EvC Proofs.Tryd.prog w0 14 #[(slice Z (1 + (a - 1)) a0)] (fun a2 d => (∃ a3 : Int, (∃ a4 : Int, (∃ a5 : Bool, (∃ a6 : ByteArray, (∃ a7 : Option Addr, (∃ a8 : Nat, (∃ a9 : Nat, (∃ b0 : Int, (∃ b1 : Bool, (∃ b2 : Int, (∃ b3 : ByteArray, (∃ b4 : Bool, (∃ b5 : Int, (∃ b6 : Bool, (∃ b7 : Bool, (∃ b8 : Int, (∃ b9 : Option Addr, (∃ c0 : Nat, (∃ c1 : Nat, (∃ c2 : Option Addr, (∃ c3 : Nat, (∃ c4 : Nat, (∃ g : Int, ((a2 = (Value.tuple #[(agg #[(int .i64 a3), (int .i64 a4), (bool a5), (string a6), (slice a7 a8 a9), (int .i64 b0), (bool b1), (int .i64 b2), (string b3), (bool b4), (int .i64 b5), (bool b6), (bool b7), (int .i64 b8), (slice b9 c0 c1), (slice c2 c3 c4)]), (int .i64 g)])) ∧ (brB (k == (3 : Int)) (brB ((IntKind.wrap .u8 (((BitVec.toNat ((BitVec.ofInt 8 (IntKind.wrap .u8 (((BitVec.toNat ((BitVec.ofInt 8 b) &&& (BitVec.ofInt 8 (15 : Int)))) : Nat) : Int))) &&& (BitVec.ofInt 8 (6 : Int)))) : Nat) : Int)) == (6 : Int)) (f9_11 w0 K c a e (IntKind.wrap .u8 (((BitVec.toNat ((BitVec.ofInt 8 b) &&& (BitVec.ofInt 8 (15 : Int)))) : Nat) : Int)) g true d) (f9_11 w0 K c a e (IntKind.wrap .u8 (((BitVec.toNat ((BitVec.ofInt 8 b) &&& (BitVec.ofInt 8 (15 : Int)))) : Nat) : Int)) g ((IntKind.wrap .u8 (((BitVec.toNat ((BitVec.ofInt 8 (IntKind.wrap .u8 (((BitVec.toNat ((BitVec.ofInt 8 b) &&& (BitVec.ofInt 8 (15 : Int)))) : Nat) : Int))) &&& (BitVec.ofInt 8 (14 : Int)))) : Nat) : Int)) == (8 : Int)) d)) (∃ o : Addr, ((c = (some o)) ∧ (((0 : Int) ≤ (0 : Int)) ∧ (((0 : Int) < ((a : Nat) : Int)) ∧ (∃ p : Int, (((cellA w0 d (Addr.add o 0)) = (some (int .u8 p))) ∧ (brB ((g == (0 : Int)) == ((IntKind.wrap .u8 (((BitVec.toNat ((BitVec.ofInt 8 b) &&& (BitVec.ofInt 8 (15 : Int)))) : Nat) : Int)) == (IntKind.wrap .u8 (((BitVec.toNat ((BitVec.ofInt 8 p) &&& (BitVec.ofInt 8 (15 : Int)))) : Nat) : Int)))) (EvC Proofs.Tryd.prog w0 17 #[] (fun c5 c6 => (∃ q : Bool, ((c5 = (bool q)) ∧ (K (bool q) c6)))) d) (K (bool false) d)))))))))))))))))))))))))))))))))) a1)))))))))))))))) :
  f9_6 w0 K b c a e k r s t u v x y z A B C D E F L M N Q R T U h := fun j => LP_intro (P := Proofs.Tryd.prog) (Eq.mp (by kernel_rfl) hv)

theorem f9_11_in {w0 : World} {K : Value → AH → Prop} (b : Option Addr) (c o : Nat) (d a : Int) (e : Bool) (h : AH)
  (hv : (brB e (brB (a == (3 : Int)) (EvC Proofs.Tryd.prog w0 17 #[] (fun p q => (∃ g : Bool, ((p = (bool g)) ∧ (K (bool g) q)))) h) (K (bool false) h)) (∃ i : Addr, ((b = (some i)) ∧ (((0 : Int) ≤ (0 : Int)) ∧ (((0 : Int) < ((c : Nat) : Int)) ∧ (∃ k : Int, (((cellA w0 h (Addr.add i 0)) = (some (int .u8 k))) ∧ (brB ((IntKind.wrap .u8 (((BitVec.toNat ((BitVec.ofInt 8 d) &&& (BitVec.ofInt 8 (6 : Int)))) : Nat) : Int)) != (IntKind.wrap .u8 (((BitVec.toNat ((BitVec.ofInt 8 k) &&& (BitVec.ofInt 8 (6 : Int)))) : Nat) : Int))) (EvC Proofs.Tryd.prog w0 17 #[] (fun r s => (∃ m : Bool, ((r = (bool m)) ∧ (K (bool m) s)))) h) (brB (a == (0 : Int)) (EvC Proofs.Tryd.prog w0 17 #[] (fun t u => (∃ n : Bool, ((t = (bool n)) ∧ (K (bool n) u)))) h) (K (bool false) h))))))))))) :
  f9_11 w0 K b c o d a e h := fun j => LP_intro (P := Proofs.Tryd.prog) (Eq.mp (by kernel_rfl) hv)

theorem f9_go {w0 : World} {K : Value → AH → Prop} (a b : Int) (c : Bool) (d : ByteArray) (e : Option Addr) (g i : Nat) (k : Int) (m : Bool) (n : Int) (o : ByteArray) (p : Bool) (q : Int) (r s : Bool) (t : Int) (u : Option Addr) (v x : Nat) (y : Option Addr) (z A : Nat) (B : Int) (h : AH)
  (hv : (EvC Proofs.Tryd.prog w0 19 #[(agg #[(int .i64 a), (int .i64 b), (bool c), (string d), (slice e g i), (int .i64 k), (bool m), (int .i64 n), (string o), (bool p), (int .i64 q), (bool r), (bool s), (int .i64 t), (slice u v x), (slice y z A)])] (fun F C => (∃ D : Bool, ((F = (bool D)) ∧ (brB (!D) (f9_2 w0 K B true a b c d e g i k m n o p q r s t u v x y z A C) (EvC Proofs.Tryd.prog w0 23 #[(agg #[(int .i64 a), (int .i64 b), (bool c), (string d), (slice e g i), (int .i64 k), (bool m), (int .i64 n), (string o), (bool p), (int .i64 q), (bool r), (bool s), (int .i64 t), (slice u v x), (slice y z A)])] (fun G L => (∃ E : Bool, ((G = (bool E)) ∧ (f9_2 w0 K B (!E) a b c d e g i k m n o p q r s t u v x y z A L)))) C))))) h)) :
  EvC Proofs.Tryd.prog w0 9 ([(.agg #[(.int .i64 a), (.int .i64 b), (.bool c), (.string d), (.slice e g i), (.int .i64 k), (.bool m), (.int .i64 n), (.string o), (.bool p), (.int .i64 q), (.bool r), (.bool s), (.int .i64 t), (.slice u v x), (.slice y z A)]), (.int .u8 B)]).toArray K h := EvC_intro (P := Proofs.Tryd.prog) f9_J (Eq.mp (by kernel_rfl) hv)
/-! ### PacketFlags -/
theorem enc_head {k : Pk} {n : Nat} (en : k.kind = ((n : Nat) : Int)) : encP k = UInt8.ofNat (n * 16 + (restP k).2) :: (putV (restP k).1.length ++ (restP k).1) := by
  unfold encP
  rw [en, Int.toNat_natCast]
theorem flag_dec {k : Pk} (h : MayK k) {n fl : Nat} (hn : n ≤ 14) (hf : fl < 16) : decL (UInt8.ofNat (n * 16 + fl) :: (putV (restP k).1.length ++ (restP k).1)) = if headB (n * 16 + fl) = false then ({}, 3) else endP (bodyS (n * 16 + fl) (restP k).1) := by
  have rl := rest_le h
  rw [decL_cons]
  have ex : (UInt8.ofNat (n * 16 + fl)).toNat = n * 16 + fl := by rw [UInt8.toNat_ofNat', Nat.mod_eq_of_lt (by omega)]
  rw [len_put (by omega), ex]
  dsimp only
  rw [if_neg (fun z => z rfl), if_neg (by omega), if_neg (by rw [List.length_append]; omega), List.drop_left' rfl]
  cases headB (n * 16 + fl) with
  | true => rw [if_neg (by rw [List.length_append]; rintro (a | a); omega; cases a), if_neg (by decide)]
  | false => rw [if_pos (.inr rfl), if_pos rfl]
theorem flag_other {k : Pk} (h : MayK k) {n fl : Nat} (en : k.kind = ((n : Nat) : Int)) (n3 : n ≠ 3) (hf : fl < 16) : (decL (UInt8.ofNat (n * 16 + fl) :: (putV (restP k).1.length ++ (restP k).1))).2 = 0 ↔ fl = (restP k).2 := by
  obtain ⟨g1, g2, g3⟩ := body_back h en
  have hk := h.kind
  obtain ⟨_, _, p2, p0⟩ := head_flag _ (by omega) g2
  constructor
  · intro e
    rw [flag_dec h (by omega) hf] at e
    by_cases c : headB (n * 16 + fl) = false
    · rw [if_pos c] at e
      exact absurd e (by exact (by decide : (3 : Int) ≠ 0))
    · have c : headB (n * 16 + fl) = true := by cases q : headB (n * 16 + fl); exact absurd q c; rfl
      obtain ⟨_, _, q2, q0⟩ := head_flag _ (by omega) c
      by_cases z : n = 6 ∨ n = 8 ∨ n = 10
      · have := p2 (by omega)
        have := q2 (by omega)
        omega
      · have := p0 (by omega) (by omega) (by omega) (by omega)
        have := q0 (by omega) (by omega) (by omega) (by omega)
        omega
  · intro e
    subst e
    rw [← enc_head en, enc_back h]
theorem head3 : ∀ f, f < 16 → (headB (48 + f) = false ↔ (f &&& 6 = 6 ∨ f &&& 14 = 8)) := by decide
theorem qos3 : ∀ f, f < 16 → ∀ g, g < 16 → f &&& 6 = (48 + g) &&& 6 → (48 + f) / 2 % 4 = (48 + g) / 2 % 4 := by decide
theorem body3 {f : Nat} (hf : f < 16) (l : List UInt8) : (bodyS (48 + f) l).2 = (pubS ((48 + f) / 2 % 4) (l, 0)).2.2.2 := by
  have e3 : (48 + f) / 16 = 3 := by omega
  unfold bodyS
  rw [e3]
  rfl
theorem flag_pub {k : Pk} (h : MayK k) {fl : Nat} (en : k.kind = ((3 : Nat) : Int)) (hf : fl < 16) : ((fl &&& 6 = 6 ∨ fl &&& 14 = 8) → (decL (UInt8.ofNat (3 * 16 + fl) :: (putV (restP k).1.length ++ (restP k).1))).2 = 3) ∧
    (¬ (fl &&& 6 = 6 ∨ fl &&& 14 = 8) → fl &&& 6 = (48 + (restP k).2) &&& 6 → (decL (UInt8.ofNat (3 * 16 + fl) :: (putV (restP k).1.length ++ (restP k).1))).2 = 0) := by
  obtain ⟨g1, g2, g3⟩ := body_back h en
  have hh := head3 fl hf
  rw [flag_dec h (by decide) hf]
  constructor
  · intro c
    rw [if_pos (hh.2 c)]
  · intro c e
    rw [if_neg (fun z => c (hh.1 z))]
    have b1 := body3 hf (restP k).1
    have b2 := body3 g1 (restP k).1
    rw [qos3 fl hf _ g1 e] at b1
    have b3 : (bodyS (3 * 16 + fl) (restP k).1).2 = ([], 0) := b1.trans (b2.symm.trans (congrArg Prod.snd g3))
    unfold endP
    rw [b3]
    rfl
theorem top4 : ∀ y, y < 256 → y &&& 240 = 2 ^ 4 * (y / 16) := by decide
theorem flag_byte {y fl : Nat} (hy : y < 256) (hf : fl < 16) : IntKind.u8.wrap (((BitVec.toNat ((BitVec.ofInt 8 (((y &&& 240 : Nat)) : Int)) ||| (BitVec.ofInt 8 ((fl : Nat) : Int)))) : Nat) : Int) = ((y / 16 * 16 + fl : Nat) : Int) := by
  have e : (y &&& 240) ||| fl = y / 16 * 16 + fl := by
    rw [top4 y hy, ← Nat.two_pow_add_eq_or_of_lt hf]
    omega
  have l : y &&& 240 < 256 := by rw [top4 y hy]; omega
  rw [or8 l (by omega) (by rw [e]; omega), e]
section
variable {w0 : World} {K : Value → AH → Prop} {c : Nat}
theorem f9_spec {m : PkM} {x : Nat} (hx : x < 256) (T : TabOk w0) (k : m.Ok w0) (hk : ∀ h', K (.bool true) h') : EvC Go.Proofs.Tryd.prog w0 9 #[m.agg, .int .u8 ((x : Nat) : Int)] K (fun _ => none) := by
  have w1 : Own w0 (fun _ => none) [] := Own.nil
  have fin : ∀ h X, Own w0 h X → EvC Go.Proofs.Tryd.prog w0 17 #[] (fun x h29 => ∃ t : Bool, x = .bool t ∧ K (.bool t) h29) h := fun h X w => f17_spec T w fun h6 _ => ⟨_, rfl, hk h6⟩
  have no : ∀ h X, Own w0 h X → f9_2 w0 K ((x : Nat) : Int) true m.kind m.id m.dup m.topic m.pa m.pay.length m.pc m.qos m.ret m.til m.client m.clean m.alive m.will m.present m.code m.wa m.wants.length m.wc m.ca m.codes.length m.cc h := fun h X w => f9_2_in _ _ _ _ _ _ _ _ _ _ _ _ _ _ _ _ _ _ _ _ _ _ _ _ _ (brB_of (fun _ => fin h X w) fun z => by cases z)
  refine f9_go _ _ _ _ _ _ _ _ _ _ _ _ _ _ _ _ _ _ _ _ _ _ _ _ (f19_spec (fun l => ⟨_, rfl, brB_of (fun z => by cases z) fun _ => ?_⟩) ⟨_, rfl, brB_of (fun _ => no _ _ w1) fun z => by cases z⟩)
  have rm : ∀ {Y : List (Nat × AB)} h', Own w0 h' Y → PkRd w0 h' m := fun h' _ => k.rd l h'
  refine f23_spec T w1 rm (fun hm h2 w2 => ⟨_, rfl, ?_⟩) fun _ h2 w2 => ⟨_, rfl, no _ _ w2⟩
  refine f9_2_in _ _ _ _ _ _ _ _ _ _ _ _ _ _ _ _ _ _ _ _ _ _ _ _ _ (brB_of (fun z => by cases z) fun _ => f9_3_in _ _ _ _ _ _ _ _ _ _ _ _ _ _ _ _ _ _ _ _ _ _ _ _ (f22_spec T w2 rm (fun _ h3 a c v w3 => ⟨_, _, _, _, rfl, ?_⟩) fun n => absurd hm n))
  have le := enc_le hm
  have ge := enc_two hm
  obtain ⟨n, en, n1, n14⟩ := kind_nat hm
  obtain ⟨g1, g2, g3⟩ := body_back hm en
  have eh := enc_head en
  have cp := v.2.1
  generalize hf : (restP m.key).2 = f at *
  generalize ht : putV (restP m.key).1.length ++ (restP m.key).1 = t at *
  have tl : (encP m.key).length = t.length + 1 := by rw [eh, List.length_cons]
  refine brB_of (fun z => by cases z) fun _ => f9_5_in _ _ _ _ _ _ _ _ _ _ _ _ _ _ _ _ _ _ _ _ _ _ _ _ _ _ _ _ (brB_of (fun z => absurd (of_decide_eq_true z) (by omega)) fun _ => f9_6_in _ _ _ _ _ _ _ _ _ _ _ _ _ _ _ _ _ _ _ _ _ _ _ _ _ _ _ ?_)
  have rd : ∀ {Y : List (Nat × AB)} h', Own w0 h' (Y ++ (slB a (u8s (encP m.key)) (c * 1) ++ [])) → Rd w0 h' a (u8s (UInt8.ofNat (n * 16 + f) :: t)) := fun h' w' => by rw [← eh]; exact v.rd w'
  obtain ⟨ad, had, hat⟩ := byte_at (i := 0) (rd (Y := []) h3 w3) rfl
  have e0 : (UInt8.ofNat (n * 16 + f)).toNat = n * 16 + f := by rw [UInt8.toNat_ofNat', Nat.mod_eq_of_lt (by omega)]
  rw [e0] at hat
  refine ⟨ad, had, by omega, by omega, by omega, by omega, _, hat, ?_⟩
  have efl : IntKind.u8.wrap (((BitVec.toNat ((BitVec.ofInt 8 ((x : Nat) : Int)) &&& (BitVec.ofInt 8 (15 : Int)))) : Nat) : Int) = ((x % 16 : Nat) : Int) := by
    rw [and8 (c := 15) (z := 15) rfl hx (by decide), low4 x hx]
  have hfl : x % 16 < 16 := Nat.mod_lt _ (by decide)
  generalize x % 16 = fl at *
  have e1 : IntKind.u8.wrap (((BitVec.toNat ((BitVec.ofInt 8 ((n * 16 + f : Nat) : Int)) &&& (BitVec.ofInt 8 (240 : Int)))) : Nat) : Int) = (((n * 16 + f) &&& 240 : Nat) : Int) := and8 (c := 240) (z := 240) rfl (by omega) (by decide)
  rw [efl, e1, flag_byte (by omega) hfl, show (n * 16 + f) / 16 * 16 + fl = n * 16 + fl by omega]
  have ev : [Value.int .u8 ((n * 16 + fl : Nat) : Int)] = u8s [UInt8.ofNat (n * 16 + fl)] := byte_cell (by omega)
  rw [ev, show (u8s [UInt8.ofNat (n * 16 + fl)]).length = 1 from rfl]
  intro b hb hbn
  have w4 := Own.new (o := .cells (u8s [UInt8.ofNat (n * 16 + fl)]) 1) w3 hb hbn
  have v4 : SlV 1 (some ⟨b, 0, none⟩) [UInt8.ofNat (n * 16 + fl)].length 1 (u8s [UInt8.ofNat (n * 16 + fl)]) := ⟨rfl, Nat.le_refl _, rfl, rfl⟩
  have r4 := rd (Y := [_]) _ w4
  have tn : (encP m.key).length - 1 = t.length := by omega
  rw [tn]
  have cut : Rd w0 _ (cutA 1 a c 1) (u8s t) := rd8_cut (k := 1) r4 (by rw [List.length_cons]; omega) (by rw [List.length_cons]; omega)
  refine rowsOf_of cut (by rw [u8s_length]; omega) ?_
  refine App_bytes v4 (B := slB a (u8s (encP m.key)) (c * 1) ++ []) w4 (by rw [List.length_singleton]; omega) fun a5 c5 h5 v5 w5 => ?_
  have hlen : ([UInt8.ofNat (n * 16 + fl)] ++ t).length = 1 + t.length := by rw [List.length_append, List.length_singleton]
  refine dec_spec hlen.symm T w5 (own_rdr v5 (by rw [hlen]; omega)) (List.subset_append_left ..) fun h6 m6 e6 em6 v6 w6 => ⟨_, _, _, _, _, _, _, _, _, _, _, _, _, _, _, _, _, _, _, _, _, _, _, rfl, ?_⟩
  rw [List.singleton_append] at em6
  have ee : e6 = (decL (UInt8.ofNat (n * 16 + fl) :: t)).2 := congrArg Prod.snd em6
  have r6 : Rd w0 h6 a (u8s (UInt8.ofNat (n * 16 + f) :: t)) := rd (Y := ownP m6 ++ slB a5 (u8s ([UInt8.ofNat (n * 16 + fl)] ++ t)) (c5 * 1)) h6 (by rw [List.append_assoc]; exact w6)
  obtain ⟨ad2, had2, hat2⟩ := byte_at (i := 0) r6 rfl
  rw [e0] at hat2
  have ek : m.kind = ((n : Nat) : Int) := en
  refine brB_of (fun z => ?_) fun z => ?_
  · have n3 : n = 3 := by
      rw [ek] at z
      have := of_decide_eq_true ((natBeq n 3 (z := 3) rfl).symm.trans z)
      exact this
    subst n3
    have fp := flag_pub hm (fl := fl) en hfl
    rw [ht, hf] at fp
    rw [← ee] at fp
    have b6 : IntKind.u8.wrap (((BitVec.toNat ((BitVec.ofInt 8 ((fl : Nat) : Int)) &&& (BitVec.ofInt 8 (6 : Int)))) : Nat) : Int) = ((fl &&& 6 : Nat) : Int) := and8 (c := 6) (z := 6) rfl (by omega) (by decide)
    have b14 : IntKind.u8.wrap (((BitVec.toNat ((BitVec.ofInt 8 ((fl : Nat) : Int)) &&& (BitVec.ofInt 8 (14 : Int)))) : Nat) : Int) = ((fl &&& 14 : Nat) : Int) := and8 (c := 14) (z := 14) rfl (by omega) (by decide)
    have c6 : IntKind.u8.wrap (((BitVec.toNat ((BitVec.ofInt 8 ((3 * 16 + f : Nat) : Int)) &&& (BitVec.ofInt 8 (6 : Int)))) : Nat) : Int) = (((3 * 16 + f) &&& 6 : Nat) : Int) := and8 (c := 6) (z := 6) rfl (by omega) (by decide)
    have bad : (fl &&& 6 = 6 ∨ fl &&& 14 = 8) → f9_11 w0 K a (encP m.key).length c ((fl : Nat) : Int) e6 true h6 := fun g => f9_11_in _ _ _ _ _ _ _ (brB_of (fun _ => brB_of (fun _ => fin _ _ w6) fun z => by rw [fp.1 g] at z; cases z) fun z => by cases z)
    rw [b6, b14, natBeq (fl &&& 6) 6 (z := 6) rfl, natBeq (fl &&& 14) 8 (z := 8) rfl]
    refine brB_of (fun z => bad (.inl (of_decide_eq_true z))) fun z => ?_
    cases z2 : decide (fl &&& 14 = 8)
    · refine f9_11_in _ _ _ _ _ _ _ (brB_of (fun z => by cases z) fun _ => ⟨ad2, had2, by omega, by omega, _, hat2, ?_⟩)
      rw [b6, c6]
      refine brB_of (fun _ => fin _ _ w6) fun z3 => brB_of (fun _ => fin _ _ w6) fun z4 => ?_
      have z5 : fl &&& 6 = (3 * 16 + f) &&& 6 := by
        have : ((fl &&& 6 : Nat) : Int) = (((3 * 16 + f) &&& 6 : Nat) : Int) := by simpa using z3
        exact Int.ofNat.inj this
      have := fp.2 (fun g => by rcases g with g | g; exact absurd g (of_decide_eq_false z); exact absurd g (of_decide_eq_false z2)) z5
      rw [this] at z4; cases z4
    · exact bad (.inr (of_decide_eq_true z2))
  · have n3 : n ≠ 3 := fun q => by subst q; rw [ek] at z; cases z
    have fo := flag_other hm (fl := fl) en n3 hfl
    rw [ht, hf, ← ee] at fo
    refine ⟨ad2, had2, by omega, by omega, _, hat2, ?_⟩
    have c15 : IntKind.u8.wrap (((BitVec.toNat ((BitVec.ofInt 8 ((n * 16 + f : Nat) : Int)) &&& (BitVec.ofInt 8 (15 : Int)))) : Nat) : Int) = ((f : Nat) : Int) := by
      rw [and8 (c := 15) (z := 15) rfl (by omega) (by decide), low4 _ (by omega)]
      omega
    rw [c15]
    have : ((e6 == 0) == (((fl : Nat) : Int) == ((f : Nat) : Int))) = true := by
      rw [natBeq fl f rfl]
      by_cases q : fl = f
      · rw [fo.2 q, decide_eq_true q]; rfl
      · rw [decide_eq_false q, beq_eq_false_iff_ne.2 (fun z => q (fo.1 z))]; rfl
    rw [this]
    exact brB_of (fun _ => fin _ _ w6) fun z => by cases z
theorem f9_specI {m : PkM} {x : Int} (hx : 0 ≤ x ∧ x ≤ 255) (T : TabOk w0) (k : m.Ok w0) (hk : ∀ h', K (.bool true) h') : EvC Go.Proofs.Tryd.prog w0 9 #[m.agg, .int .u8 x] K (fun _ => none) := by
  obtain ⟨n, rfl, hn⟩ := nat_of hx
  exact f9_spec (by omega) T k hk
end
end Go.G.YtciepfobnaemmaaDoor
