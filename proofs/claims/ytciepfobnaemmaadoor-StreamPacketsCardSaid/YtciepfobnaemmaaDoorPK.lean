/- The document's Decode; the same packets. -/
import Derived.Test.YtciepfobnaemmaaDoorPJ
import Derived.Test.YtciepfobnaemmaaDoorProg
set_option maxRecDepth 100000
namespace Go.G.YtciepfobnaemmaaDoor
open Go.RowKit
open Value (string slice int bool agg)
def f16_J : Nat → List Nat × Nat := jOf [(2, (0 :: (1 :: (rn 85 81 (rn 143 57 [])))), 2), (3, (0 :: (1 :: (rn 143 139 []))), 2), (4, (0 :: (1 :: (rn 88 84 (rn 143 53 [])))), 2)]

def f16_2 (w0 : World) (K : Value → AH → Prop) (a : Bool) (b c : Int) (d : Bool) (e : ByteArray) (g : Option Addr) (i k : Nat) (m : Int) (n : Bool) (o : Int) (p : ByteArray) (q : Bool) (r : Int) (s t : Bool) (u : Int) (x : Option Addr) (y z : Nat) (A : Option Addr) (B C : Nat) (D E : Int) (F : Bool) (G : ByteArray) (L : Option Addr) (M N : Nat) (Q : Int) (R : Bool) (T : Int) (U : ByteArray) (V : Bool) (Y : Int) (Z a0 : Bool) (a1 : Int) (a2 : Option Addr) (a3 a4 : Nat) (a5 : Option Addr) (a6 a7 : Nat) (h : AH) : Prop :=
  ∀ j : Nat → Value, LPk Proofs.Tryd.prog w0 (EvC Proofs.Tryd.prog w0) f16_J 16 K 2 (jv j 2 2 (.bp 0 0 :: (.bp 1 0 :: (jv j 85 81 (.v (.bool a) :: (jv j 143 57 [])))))) [some [(.int .i64 b), (.int .i64 c), (.bool d), (.string e), (.slice g i k), (.int .i64 m), (.bool n), (.int .i64 o), (.string p), (.bool q), (.int .i64 r), (.bool s), (.bool t), (.int .i64 u), (.slice x y z), (.slice A B C)], some [(.int .i64 D), (.int .i64 E), (.bool F), (.string G), (.slice L M N), (.int .i64 Q), (.bool R), (.int .i64 T), (.string U), (.bool V), (.int .i64 Y), (.bool Z), (.bool a0), (.int .i64 a1), (.slice a2 a3 a4), (.slice a5 a6 a7)]] h

def f16_3 (w0 : World) (K : Value → AH → Prop) (a b : Int) (c : Bool) (d : ByteArray) (e : Option Addr) (g i : Nat) (k : Int) (m : Bool) (n : Int) (o : ByteArray) (p : Bool) (q : Int) (r s : Bool) (t : Int) (u : Option Addr) (x y : Nat) (z : Option Addr) (A B : Nat) (C D : Int) (E : Bool) (F : ByteArray) (G : Option Addr) (L M : Nat) (N : Int) (Q : Bool) (R : Int) (T : ByteArray) (U : Bool) (V : Int) (Y Z : Bool) (a0 : Int) (a1 : Option Addr) (a2 a3 : Nat) (a4 : Option Addr) (a5 a6 : Nat) (h : AH) : Prop :=
  ∀ j : Nat → Value, LPk Proofs.Tryd.prog w0 (EvC Proofs.Tryd.prog w0) f16_J 16 K 3 (jv j 2 2 (.bp 0 0 :: (.bp 1 0 :: (jv j 143 139 [])))) [some [(.int .i64 a), (.int .i64 b), (.bool c), (.string d), (.slice e g i), (.int .i64 k), (.bool m), (.int .i64 n), (.string o), (.bool p), (.int .i64 q), (.bool r), (.bool s), (.int .i64 t), (.slice u x y), (.slice z A B)], some [(.int .i64 C), (.int .i64 D), (.bool E), (.string F), (.slice G L M), (.int .i64 N), (.bool Q), (.int .i64 R), (.string T), (.bool U), (.int .i64 V), (.bool Y), (.bool Z), (.int .i64 a0), (.slice a1 a2 a3), (.slice a4 a5 a6)]] h

def f16_4 (w0 : World) (K : Value → AH → Prop) (a b : Int) (c d : Int) (e : Bool) (g : ByteArray) (i : Option Addr) (k m : Nat) (n : Int) (o : Bool) (p : Int) (q : ByteArray) (r : Bool) (s : Int) (t u : Bool) (x : Int) (y : Option Addr) (z A : Nat) (B : Option Addr) (C D : Nat) (E F : Int) (G : Bool) (L : ByteArray) (M : Option Addr) (N Q : Nat) (R : Int) (T : Bool) (U : Int) (V : ByteArray) (Y : Bool) (Z : Int) (a0 a1 : Bool) (a2 : Int) (a3 : Option Addr) (a4 a5 : Nat) (a6 : Option Addr) (a7 a8 : Nat) (h : AH) : Prop :=
  ∀ j : Nat → Value, LPk Proofs.Tryd.prog w0 (EvC Proofs.Tryd.prog w0) f16_J 16 K 4 (jv j 2 2 (.bp 0 0 :: (.bp 1 0 :: (jv j 88 84 (.v (.int .i64 a) :: (.v (.int .i64 b) :: (jv j 143 53 []))))))) [some [(.int .i64 c), (.int .i64 d), (.bool e), (.string g), (.slice i k m), (.int .i64 n), (.bool o), (.int .i64 p), (.string q), (.bool r), (.int .i64 s), (.bool t), (.bool u), (.int .i64 x), (.slice y z A), (.slice B C D)], some [(.int .i64 E), (.int .i64 F), (.bool G), (.string L), (.slice M N Q), (.int .i64 R), (.bool T), (.int .i64 U), (.string V), (.bool Y), (.int .i64 Z), (.bool a0), (.bool a1), (.int .i64 a2), (.slice a3 a4 a5), (.slice a6 a7 a8)]] h

theorem f16_2_in {w0 : World} {K : Value → AH → Prop} (a : Bool) (b c : Int) (d : Bool) (e : ByteArray) (g : Option Addr) (i k : Nat) (m : Int) (n : Bool) (o : Int) (p : ByteArray) (q : Bool) (r : Int) (s t : Bool) (u : Int) (v : Option Addr) (x y : Nat) (z : Option Addr) (A B : Nat) (C D : Int) (E : Bool) (F : ByteArray) (G : Option Addr) (L M : Nat) (N : Int) (Q : Bool) (R : Int) (T : ByteArray) (U : Bool) (V : Int) (Y Z : Bool) (a0 : Int) (a1 : Option Addr) (a2 a3 : Nat) (a4 : Option Addr) (a5 a6 : Nat) (h : AH)
  (hv : (brB a (K (bool false) h) (f16_3 w0 K b c d e g i k m n o p q r s t u v x y z A B C D E F G L M N Q R T U V Y Z a0 a1 a2 a3 a4 a5 a6 h))) :
  f16_2 w0 K a b c d e g i k m n o p q r s t u v x y z A B C D E F G L M N Q R T U V Y Z a0 a1 a2 a3 a4 a5 a6 h := fun j => LP_intro (P := Proofs.Tryd.prog) (Eq.mp (by kernel_rfl) hv)

theorem f16_3_in {w0 : World} {K : Value → AH → Prop} (b c : Int) (d : Bool) (e : ByteArray) (g : Option Addr) (i k : Nat) (m : Int) (n : Bool) (o : Int) (p : ByteArray) (q : Bool) (r : Int) (s t : Bool) (u : Int) (v : Option Addr) (x y : Nat) (z : Option Addr) (a A : Nat) (B C : Int) (D : Bool) (E : ByteArray) (F : Option Addr) (G L : Nat) (M : Int) (N : Bool) (Q : Int) (R : ByteArray) (T : Bool) (U : Int) (V Y : Bool) (Z : Int) (a0 : Option Addr) (a1 a2 : Nat) (a3 : Option Addr) (a4 a5 : Nat) (h : AH)
  (hv : (f16_4 w0 K ((a : Nat) : Int) (0 : Int) b c d e g i k m n o p q r s t u v x y z a A B C D E F G L M N Q R T U V Y Z a0 a1 a2 a3 a4 a5 h)) :
  f16_3 w0 K b c d e g i k m n o p q r s t u v x y z a A B C D E F G L M N Q R T U V Y Z a0 a1 a2 a3 a4 a5 h := fun j => LP_intro (P := Proofs.Tryd.prog) (Eq.mp (by kernel_rfl) hv)

theorem f16_4_in {w0 : World} {K : Value → AH → Prop} (r a : Int) (x y : Int) (z : Bool) (b : ByteArray) (c : Option Addr) (d A : Nat) (e : Int) (g : Bool) (i : Int) (B : ByteArray) (C : Bool) (D : Int) (E F : Bool) (L : Int) (M : Option Addr) (N Q : Nat) (s : Option Addr) (t R : Nat) (T U : Int) (V : Bool) (k : ByteArray) (m : Option Addr) (n Y : Nat) (o : Int) (p : Bool) (q : Int) (Z : ByteArray) (a0 : Bool) (a1 : Int) (a2 a3 : Bool) (a4 : Int) (a5 : Option Addr) (a6 a7 : Nat) (u : Option Addr) (v a8 : Nat) (h : AH)
  (hv : (brB (decide ((a < r))) (∃ a9 : Addr, ((s = (some a9)) ∧ (((0 : Int) ≤ a) ∧ ((a < ((t : Nat) : Int)) ∧ (∃ b0 : Int, (((cellA w0 h (Addr.add a9 ((Int.toNat a) * 1))) = (some (int .i64 b0))) ∧ (∃ b1 : Addr, ((u = (some b1)) ∧ (((0 : Int) ≤ a) ∧ ((a < ((v : Nat) : Int)) ∧ (∃ b2 : Int, (((cellA w0 h (Addr.add b1 ((Int.toNat a) * 1))) = (some (int .i64 b2))) ∧ (brB (b0 != b2) (K (bool false) h) (f16_4 w0 K r (IntKind.wrap .i64 (a + (1 : Int))) x y z b c d A e g i B C D E F L M N Q s t R T U V k m n Y o p q Z a0 a1 a2 a3 a4 a5 a6 a7 u v a8 h)))))))))))))) ((brB (decide ((b = k))) (rowsOf w0 h 1 c d (fun b7 => (∃ b3 : ByteArray, ((b7 = (intsOf b3)) ∧ (rowsOf w0 h 1 m n (fun b8 => (∃ b4 : ByteArray, ((b8 = (intsOf b4)) ∧ (brB (decide ((b3 = b4))) (brB (e == o) (brB (g == p) (K (bool (i == q)) h) (K (bool false) h)) (K (bool false) h)) (K (bool false) h)))))))))) (K (bool false) h)) ∧ (brB (decide ((b = k))) (rowsOf w0 h 1 c d (fun b9 => (∃ b5 : ByteArray, ((b9 = (intsOf b5)) ∧ (rowsOf w0 h 1 m n (fun c0 => (∃ b6 : ByteArray, ((c0 = (intsOf b6)) ∧ (brB (decide ((b5 = b6))) (brB (e == o) (brB (g == p) (K (bool (i == q)) h) (K (bool false) h)) (K (bool false) h)) (K (bool false) h)))))))))) (K (bool false) h))))) :
  f16_4 w0 K r a x y z b c d A e g i B C D E F L M N Q s t R T U V k m n Y o p q Z a0 a1 a2 a3 a4 a5 a6 a7 u v a8 h := fun j => LP_intro (P := Proofs.Tryd.prog) (Eq.mp (by kernel_rfl) hv)

theorem f16_go {w0 : World} {K : Value → AH → Prop} (a b : Int) (c : Bool) (F : ByteArray) (G : Option Addr) (L M : Nat) (N : Int) (Q : Bool) (R : Int) (d : ByteArray) (e : Bool) (g : Int) (i k : Bool) (m : Int) (n : Option Addr) (o p : Nat) (T : Option Addr) (q U : Nat) (r s : Int) (t : Bool) (V : ByteArray) (Y : Option Addr) (Z a0 : Nat) (a1 : Int) (a2 : Bool) (a3 : Int) (u : ByteArray) (v : Bool) (x : Int) (y z : Bool) (A : Int) (B : Option Addr) (C D : Nat) (a4 : Option Addr) (E a5 : Nat) (h : AH)
  (hv : (brB (a != r) (f16_2 w0 K true a b c F G L M N Q R d e g i k m n o p T q U r s t V Y Z a0 a1 a2 a3 u v x y z A B C D a4 E a5 h) (brB (b != s) (f16_2 w0 K true a b c F G L M N Q R d e g i k m n o p T q U r s t V Y Z a0 a1 a2 a3 u v x y z A B C D a4 E a5 h) (brB (c != t) (f16_2 w0 K true a b c F G L M N Q R d e g i k m n o p T q U r s t V Y Z a0 a1 a2 a3 u v x y z A B C D a4 E a5 h) (brB (!(decide ((d = u)))) (f16_2 w0 K true a b c F G L M N Q R d e g i k m n o p T q U r s t V Y Z a0 a1 a2 a3 u v x y z A B C D a4 E a5 h) (brB (e != v) (f16_2 w0 K true a b c F G L M N Q R d e g i k m n o p T q U r s t V Y Z a0 a1 a2 a3 u v x y z A B C D a4 E a5 h) (brB (g != x) (f16_2 w0 K true a b c F G L M N Q R d e g i k m n o p T q U r s t V Y Z a0 a1 a2 a3 u v x y z A B C D a4 E a5 h) (brB (i != y) (f16_2 w0 K true a b c F G L M N Q R d e g i k m n o p T q U r s t V Y Z a0 a1 a2 a3 u v x y z A B C D a4 E a5 h) (brB (k != z) (f16_2 w0 K true a b c F G L M N Q R d e g i k m n o p T q U r s t V Y Z a0 a1 a2 a3 u v x y z A B C D a4 E a5 h) (brB (m != A) (f16_2 w0 K true a b c F G L M N Q R d e g i k m n o p T q U r s t V Y Z a0 a1 a2 a3 u v x y z A B C D a4 E a5 h) (EvC Proofs.Tryd.prog w0 44 #[(slice n o p), (slice B C D)] (fun a8 a6 => (∃ a7 : Bool, ((a8 = (bool a7)) ∧ (brB (!a7) (f16_2 w0 K true a b c F G L M N Q R d e g i k m n o p T q U r s t V Y Z a0 a1 a2 a3 u v x y z A B C D a4 E a5 a6) (f16_2 w0 K (((q : Nat) : Int) != ((E : Nat) : Int)) a b c F G L M N Q R d e g i k m n o p T q U r s t V Y Z a0 a1 a2 a3 u v x y z A B C D a4 E a5 a6))))) h))))))))))) :
  EvC Proofs.Tryd.prog w0 16 ([(.agg #[(.int .i64 a), (.int .i64 b), (.bool c), (.string F), (.slice G L M), (.int .i64 N), (.bool Q), (.int .i64 R), (.string d), (.bool e), (.int .i64 g), (.bool i), (.bool k), (.int .i64 m), (.slice n o p), (.slice T q U)]), (.agg #[(.int .i64 r), (.int .i64 s), (.bool t), (.string V), (.slice Y Z a0), (.int .i64 a1), (.bool a2), (.int .i64 a3), (.string u), (.bool v), (.int .i64 x), (.bool y), (.bool z), (.int .i64 A), (.slice B C D), (.slice a4 E a5)])]).toArray K h := EvC_intro (P := Proofs.Tryd.prog) f16_J (Eq.mp (by kernel_rfl) hv)
def f44_J : Nat → List Nat × Nat := jOf [(4, (rn 12 10 (rn 26 12 [])), 0)]

def f44_4 (w0 : World) (K : Value → AH → Prop) (a : Option Addr) (b c : Nat) (d : Option Addr) (e g : Nat) (i k : Int) (h : AH) : Prop :=
  ∀ j : Nat → Value, LPk Proofs.Tryd.prog w0 (EvC Proofs.Tryd.prog w0) f44_J 44 K 4 (.v (.slice a b c) :: (.v (.slice d e g) :: (jv j 12 10 (.v (.int .i64 i) :: (.v (.int .i64 k) :: (jv j 26 12 [])))))) [] h

theorem f44_4_in {w0 : World} {K : Value → AH → Prop} (b : Option Addr) (c o : Nat) (d : Option Addr) (e p : Nat) (g a : Int) (h : AH)
  (hv : (brB (decide ((a < g))) (∃ q : Addr, ((b = (some q)) ∧ (((0 : Int) ≤ a) ∧ ((a < ((c : Nat) : Int)) ∧ (∃ i : ByteArray, (∃ k : Int, ((((Array.size #[(string i), (int .i64 k)]) = 2) ∧ (At w0 h (Addr.add q ((Int.toNat a) * 2)) [(string i), (int .i64 k)])) ∧ (∃ r : Addr, ((d = (some r)) ∧ (((0 : Int) ≤ a) ∧ ((a < ((e : Nat) : Int)) ∧ (∃ m : ByteArray, (∃ n : Int, ((((Array.size #[(string m), (int .i64 n)]) = 2) ∧ (At w0 h (Addr.add r ((Int.toNat a) * 2)) [(string m), (int .i64 n)])) ∧ (brB (!((true && (decide ((i = m)))) && (k == n))) (K (bool false) h) (f44_4 w0 K b c o d e p g (IntKind.wrap .i64 (a + (1 : Int))) h)))))))))))))))) (K (bool true) h))) :
  f44_4 w0 K b c o d e p g a h := fun j => LP_intro (P := Proofs.Tryd.prog) (Eq.mp (by kernel_rfl) hv)

theorem f44_go {w0 : World} {K : Value → AH → Prop} (c : Option Addr) (a d : Nat) (e : Option Addr) (b g : Nat) (h : AH)
  (hv : (brB (((a : Nat) : Int) != ((b : Nat) : Int)) (K (bool false) h) (f44_4 w0 K c a d e b g ((a : Nat) : Int) (0 : Int) h))) :
  EvC Proofs.Tryd.prog w0 44 ([(.slice c a d), (.slice e b g)]).toArray K h := EvC_intro (P := Proofs.Tryd.prog) f44_J (Eq.mp (by kernel_rfl) hv)
section
variable {w0 : World} {K : Value → AH → Prop} {h : AH} {R X : List (Nat × AB)} {c q : Nat}
theorem head_kinds (n : Nat) (t : Bool) (ht : t = !(headB n)) (hf : n % 16 < 16 := by omega) :
    (n / 16 = 0 ∨ n / 16 = 15 → t = true) ∧ (n / 16 ≠ 0 → n / 16 ≠ 15 → n / 16 ≠ 3 → t = !(decide (n % 16 = if n / 16 = 6 ∨ n / 16 = 8 ∨ n / 16 = 10 then 2 else 0))) ∧
    (n / 16 = 3 → t = (decide (n % 16 &&& 6 = 6) || (!(decide (n % 16 &&& 8 = 0)) && decide (n % 16 &&& 6 = 0)))) := by
  subst ht
  unfold headB
  dsimp only
  refine ⟨fun e => by rw [if_pos e]; rfl, fun e1 e2 e3 => ?_, fun e => ?_⟩
  · rw [if_neg (by omega), if_neg e3]
    split <;> rfl
  · rw [if_neg (by omega), if_pos e, head_pub _ hf]
    cases decide (n % 16 &&& 6 = 6) <;> cases decide (n % 16 &&& 8 = 0) <;> cases decide (n % 16 &&& 6 = 0) <;> rfl
/-- Decode, the document's. -/
theorem f15_spec {l : List UInt8} {a : Option Addr} (T : TabOk w0) (w : Own w0 h X) (r : Rdr w0 R a c l) (hs : R ⊆ X)
    (hk : ∀ h' m' e, (m'.key, e) = decL l → PkV m' → Own w0 h' (ownP m' ++ X) → K (.tuple #[m'.agg, .int .i64 e]) h') :
    EvC Go.Proofs.Tryd.prog w0 15 #[.slice a l.length c] K h := by
  have zero : ∀ h1 e, Own w0 h1 X → ({}, e) = decL l → K (.tuple #[(pk0 0).agg, .int .i64 e]) h1 := fun h1 e w1 he => hk h1 (pk0 0) e he (pk0_v 0) (by rw [pk0_own]; exact w1)
  refine f15_go _ _ _ _ ?_
  match l, r, hk, zero with
  | [], r, hk, zero => exact brB_of (fun _ => zero h 5 w rfl) fun z => by simp at z
  | x :: t, r, hk, zero =>
    have hl := r.len
    have hcap := r.cap
    rw [List.length_cons] at hl hcap
    have rd1 : Rd w0 h (cutA 1 a c 1) (u8s t) := rd8_cut (k := 1) (r.at w hs) r.cap (by simp)
    refine brB_of (fun z => by simp at z; omega) fun _ => ⟨by omega, by rw [List.length_cons]; omega, ?_⟩
    have el : (x :: t).length - 1 = t.length := by simp
    rw [el]
    have vl := lenS_le t
    have ed : decL (x :: t) = if (lenS t).2.2 ≠ 0 then ({}, (lenS t).2.2) else if 1024 < (lenS t).1 then ({}, 2) else if t.length < (lenS t).2.1 + (lenS t).1 then ({}, 5)
      else if (lenS t).2.1 + (lenS t).1 < t.length ∨ headB x.toNat = false then ({}, 3) else endP (bodyS x.toNat (t.drop (lenS t).2.1)) := rfl
    refine f20_spec rd1 ⟨_, _, _, rfl, ?_⟩
    generalize lenS t = v at *
    obtain ⟨n, k, e⟩ := v
    dsimp only at ed vl ⊢
    refine brB_of (fun z => ?_) fun z => ?_
    · have z' : e ≠ 0 := by simpa using z
      exact zero h e w (by rw [ed, if_pos z'])
    have z0 : e = 0 := by simpa using z
    subst z0
    rw [if_neg (by simp)] at ed
    have e2 : decide ((1024 : Int) < ((n : Nat) : Int)) = decide (1024 < n) := by rw [decide_eq_decide]; omega
    rw [e2]
    refine brB_of (fun z => zero h 2 w (by rw [ed, if_pos (of_decide_eq_true z)])) fun z => ?_
    have n1024 := of_decide_eq_false z
    rw [if_neg n1024] at ed
    have e1 : IntKind.i64.wrap (IntKind.i64.wrap ((1 : Int) + ((k : Nat) : Int)) + ((n : Nat) : Int)) = ((1 + k + n : Nat) : Int) := by
      rw [wrap64 (x := (1 : Int) + _) (by omega) (by omega), wrap64 (by omega) (by omega)]; omega
    rw [e1]
    have e3 : decide ((((x :: t).length : Nat) : Int) < ((1 + k + n : Nat) : Int)) = decide (t.length < k + n) := by rw [decide_eq_decide, List.length_cons]; omega
    have e4 : decide (((1 + k + n : Nat) : Int) < (((x :: t).length : Nat) : Int)) = decide (k + n < t.length) := by rw [decide_eq_decide, List.length_cons]; omega
    rw [e3, e4]
    refine brB_of (fun z => zero h 5 w (by rw [ed, if_pos (of_decide_eq_true z)])) fun z => ?_
    rw [if_neg (of_decide_eq_false z)] at ed
    refine brB_of (fun z => zero h 3 w (by rw [ed, if_pos (.inl (of_decide_eq_true z))])) fun z => ?_
    have kn := of_decide_eq_false z
    obtain ⟨ad, had, hc⟩ := byte_at (i := 0) (r.at w hs) rfl
    refine ⟨ad, had, by omega, by rw [List.length_cons]; omega, _, hc, by omega, ad, had, by omega, by rw [List.length_cons]; omega, _, hc, ?_⟩
    have hx : x.toNat < 256 := x.toNat_lt
    have edrop : (x :: t).drop (k + 1) = t.drop k := rfl
    rw [← edrop] at ed
    generalize x.toNat = y at hc hx ed
    have ek : IntKind.i64.wrap (Int.fdiv ((y : Nat) : Int) 16) = ((y / 16 : Nat) : Int) := by rw [fdivN y 16 (z := 16) rfl, wrap64 (by omega) (by omega)]
    have ef := and8 (n := y) (c := 15) (z := 15) rfl hx (by decide)
    rw [low4 y hx] at ef
    rw [ek, ef, natBeq (y / 16) 6 (z := 6) rfl, natBeq (y / 16) 8 (z := 8) rfl, natBeq (y / 16) 10 (z := 10) rfl]
    obtain ⟨hk1, hk2, hk3⟩ := head_kinds y (!(headB y)) rfl
    have eighteen : ∀ t' (b : Nat) h1, t' = !(headB y) → Own w0 h1 (pkB b (pk0 ((y / 16 : Nat) : Int)) :: X) → f15_18 w0 K a (x :: t).length c ((k : Nat) : Int) ⟨b, 0, none⟩ ((y % 16 : Nat) : Int) t' 0 0 false ⟨#[]⟩ none 0 0 0 false 0 ⟨#[]⟩ false 0 false false 0 none 0 0 none 0 0 h1 := fun t' b h1 ht w1 =>
      f15_18_in _ _ _ _ _ _ _ _ _ _ _ _ _ _ _ _ _ _ _ _ _ _ _ _ _ _ _ _ _ _ (brB_of (fun z => zero h1 3 w1.tail (by rw [ed, if_pos (.inr (by rw [ht] at z; simpa using z))])) fun z => by
        have hh : headB y = true := by rw [ht] at z; simpa using z
        rw [if_neg (by rw [hh]; simp [kn])] at ed
        exact f15_19s T hx (by rw [List.length_cons]; omega) hh w1 r hs fun h3 m3 e3 em3 v3 w3 => hk h3 m3 e3 (by rw [em3, ed]) v3 w3)
    have seventeen : ∀ (v : Nat) (b : Nat) h1, v = (if y / 16 = 6 ∨ y / 16 = 8 ∨ y / 16 = 10 then 2 else 0) → Own w0 h1 (pkB b (pk0 ((y / 16 : Nat) : Int)) :: X) → f15_17 w0 K a (x :: t).length c ((k : Nat) : Int) ⟨b, 0, none⟩ ((y % 16 : Nat) : Int) ((v : Nat) : Int) 0 0 false ⟨#[]⟩ none 0 0 0 false 0 ⟨#[]⟩ false 0 false false 0 none 0 0 none 0 0 h1 := fun v b h1 hv w1 => by
      have ld : cellA w0 h1 (Addr.add ⟨b, 0, none⟩ 0) = some (.int .i64 ((y / 16 : Nat) : Int)) := w1.cell0 (j := 0) rfl
      refine f15_17_in _ _ _ _ _ _ _ _ _ _ _ _ _ _ _ _ _ _ _ _ _ _ _ _ _ _ _ _ _ _ ⟨_, ld, ?_⟩
      have e6 := and8 (n := y % 16) (c := 6) (z := 6) rfl (by omega) (by decide)
      have e8 := and8 (n := y % 16) (c := 8) (z := 8) rfl (by omega) (by decide)
      rw [natBeq (y / 16) 0 (z := 0) rfl]
      refine brB_of (fun z => eighteen _ b h1 (hk1 (.inl (of_decide_eq_true z))).symm w1) fun z0 => ⟨_, ld, ?_⟩
      have k0 := of_decide_eq_false z0
      rw [natBeq (y / 16) 15 (z := 15) rfl]
      refine brB_of (fun z => eighteen _ b h1 (hk1 (.inr (of_decide_eq_true z))).symm w1) fun z1 => ⟨_, ld, ?_⟩
      have k15 := of_decide_eq_false z1
      have en3 : (((y / 16 : Nat) : Int) != 3) = !(decide (y / 16 = 3)) := by unfold bne; rw [natBeq _ 3 (z := 3) rfl]
      rw [en3, e6, e8, natBeq (y % 16 &&& 6) 6 (z := 6) rfl, natBeq (y % 16 &&& 6) 0 (z := 0) rfl, natBne]
      refine brB_of (fun z3 => ?_) fun z3 => ?_
      · have k3 : y / 16 ≠ 3 := by simpa using z3
        have hh := hk2 k0 k15 k3
        rw [← hv] at hh
        have ev : ((((y % 16 : Nat) : Int)) != ((v : Nat) : Int)) = !(decide (y % 16 = v)) := by unfold bne; rw [natBeq _ v (z := ((v : Nat) : Int)) rfl]
        rw [ev]
        refine brB_of (fun z => eighteen _ b h1 (by rw [hh, z]) w1) fun z => ⟨_, ld, ?_⟩
        rw [natBeq _ 3 (z := 3) rfl]
        exact brB_of (fun z' => absurd (of_decide_eq_true z') k3) fun _ => eighteen _ b h1 (by rw [hh, z]) w1
      · have k3 : y / 16 = 3 := by simpa using z3
        have hh := hk3 k3
        refine ⟨_, ld, ?_⟩
        rw [natBeq _ 3 (z := 3) rfl]
        refine brB_of (fun _ => brB_of (fun z6 => eighteen _ b h1 (by rw [hh, z6]; rfl) w1) fun z6 => brB_of (fun z8 => eighteen _ b h1 (by rw [hh, z6, z8]; rfl) w1) fun z8 => eighteen _ b h1 (by rw [hh, z6, z8]; rfl) w1) fun z' => absurd k3 (of_decide_eq_false z')
    have sixteen : ∀ t' (b : Nat) h1, t' = decide (y / 16 = 6 ∨ y / 16 = 8 ∨ y / 16 = 10) → Own w0 h1 (pkB b (pk0 ((y / 16 : Nat) : Int)) :: X) → f15_16 w0 K a (x :: t).length c ((k : Nat) : Int) ⟨b, 0, none⟩ ((y % 16 : Nat) : Int) 0 t' 0 0 false ⟨#[]⟩ none 0 0 0 false 0 ⟨#[]⟩ false 0 false false 0 none 0 0 none 0 0 h1 := fun t' b h1 ht w1 =>
      f15_16_in _ _ _ _ _ _ _ _ _ _ _ _ _ _ _ _ _ _ _ _ _ _ _ _ _ _ _ _ _ _ _ (brB_of (fun z => seventeen 2 b h1 (by rw [if_pos (of_decide_eq_true (ht.symm.trans z))]) w1) fun z => seventeen 0 b h1 (by rw [if_neg (of_decide_eq_false (ht.symm.trans z))]) w1)
    refine brB_of (fun z => fun b hb hbn => sixteen _ b _ ?_ (Own.new w hb hbn)) fun z => brB_of (fun z2 => fun b hb hbn => sixteen _ b _ ?_ (Own.new w hb hbn)) fun z2 => fun b hb hbn => sixteen _ b _ ?_ (Own.new w hb hbn)
    · exact (decide_eq_true (.inl (of_decide_eq_true z))).symm
    · exact (decide_eq_true (.inr (.inl (of_decide_eq_true z2)))).symm
    · rw [decide_eq_decide]
      have := of_decide_eq_false z
      have := of_decide_eq_false z2
      omega
end
/-! ### the same packets -/
structure PkRd (w0 : World) (h : AH) (m : PkM) : Prop where
  pay : Rd w0 h m.pa (u8s m.pay)
  wants : Rd w0 h m.wa (m.wants.flatMap WantM.cells)
  codes : Rd w0 h m.ca (ints m.codes)
  nw : m.wants.length ≤ 140737488355328
  nc : m.codes.length ≤ 140737488355328
theorem flat_get {α : Type} {enc : α → List Value} {k : Nat} (hk : ∀ x, (enc x).length = k) : ∀ {l : List α} {i : Nat} {x : α}, l[i]? = some x → ∀ j y, (enc x)[j]? = some y → (l.flatMap enc)[i * k + j]? = some y
  | [], _, _, h, _, _, _ => by simp at h
  | z :: l, 0, x, h, j, y, hj => by
    simp at h; subst h
    rw [List.flatMap_cons, Nat.zero_mul, Nat.zero_add, List.getElem?_append_left (List.getElem?_eq_some_iff.1 hj).1]
    exact hj
  | z :: l, i + 1, x, h, j, y, hj => by
    have ih := flat_get hk (l := l) (i := i) (by simpa using h) j y hj
    rw [List.flatMap_cons, Nat.add_mul, Nat.one_mul, List.getElem?_append_right (by rw [hk]; omega), hk, show i * k + k + j - k = i * k + j by omega]
    exact ih
theorem flat_len {α : Type} {enc : α → List Value} {k : Nat} (hk : ∀ x, (enc x).length = k) : ∀ l : List α, (l.flatMap enc).length = l.length * k
  | [] => by simp
  | x :: l => by rw [List.flatMap_cons, List.length_append, hk, flat_len hk l, List.length_cons, Nat.add_mul, Nat.one_mul]; omega
/-- A row of a slice is loaded. -/
theorem rowLoad {w0 : World} {h : AH} {α : Type} {enc : α → List Value} {k : Nat} (hk : ∀ x, (enc x).length = k) (hk0 : 0 < k) {a : Option Addr} {l : List α} {i : Nat} {x : α} (hr : Rd w0 h a (l.flatMap enc)) (hi : l[i]? = some x) :
    ∃ ad, a = some ad ∧ At w0 h (Addr.add ad ((Int.toNat ((i : Nat) : Int)) * k)) (enc x) := by
  have hg := flat_get hk hi
  have h0 : ∃ y, (enc x)[0]? = some y := ⟨_, List.getElem?_eq_getElem (by rw [hk]; exact hk0)⟩
  obtain ⟨y0, h0⟩ := h0
  obtain ⟨ad, had, _⟩ := hr (i * k + 0) _ (hg 0 _ h0)
  refine ⟨ad, had, fun j y hj => ?_⟩
  obtain ⟨ad', had', hc⟩ := hr (i * k + j) _ (hg j _ hj)
  rw [had] at had'
  injection had' with had'
  subst had'
  rw [Int.toNat_natCast, Deep.add_add]; exact hc
theorem WantM.key_inj {a b : WantM} (e : a.key = b.key) : a = b := by
  obtain ⟨f, q⟩ := a
  obtain ⟨f', q'⟩ := b
  simp only [WantM.key, Prod.mk.injEq] at e
  obtain ⟨rfl, rfl⟩ := e
  rfl
theorem keys_inj : ∀ {l m : List WantM}, l.map WantM.key = m.map WantM.key → l = m
  | [], [], _ => rfl
  | [], _ :: _, h => by simp at h
  | _ :: _, [], h => by simp at h
  | x :: l, y :: m, h => by
    rw [List.map_cons, List.map_cons, List.cons.injEq] at h
    rw [WantM.key_inj h.1, keys_inj h.2]
section
variable {w0 : World} {K : Value → AH → Prop} {h : AH}
theorem f44_spec {a b : Option Addr} {c d : Nat} {l m : List WantM} (ha : Rd w0 h a (l.flatMap WantM.cells)) (hb : Rd w0 h b (m.flatMap WantM.cells)) (hl : l.length ≤ 140737488355328) (e : l = m) (hk : K (.bool true) h) :
    EvC Go.Proofs.Tryd.prog w0 44 #[.slice a l.length c, .slice b m.length d] K h := by
  subst e
  have loop : ∀ (n i : Nat), i + n = l.length → f44_4 w0 K a l.length c b l.length d ((l.length : Nat) : Int) ((i : Nat) : Int) h := fun n => by
    induction n with
    | zero => exact fun i hi => f44_4_in _ _ _ _ _ _ _ _ _ (brB_of (fun z => by have := of_decide_eq_true z; omega) fun _ => hk)
    | succ n ih =>
      intro i hi
      have g1 : l[i]? = some l[i] := List.getElem?_eq_getElem _
      obtain ⟨ad, had, hat⟩ := rowLoad (enc := WantM.cells) (k := 2) (fun _ => rfl) (by decide) ha g1
      obtain ⟨bd, hbd, hbt⟩ := rowLoad (enc := WantM.cells) (k := 2) (fun _ => rfl) (by decide) hb g1
      refine f44_4_in _ _ _ _ _ _ _ _ _ (brB_of (fun _ => ⟨ad, had, by omega, by omega, _, _, ⟨rfl, hat⟩, bd, hbd, by omega, by omega, _, _, ⟨rfl, hbt⟩, brB_of (fun z => by simp at z) fun _ => by rw [wrapS (by omega)]; exact ih (i + 1) (by omega)⟩) fun z => by have := of_decide_eq_false z; omega)
  exact f44_go _ _ _ _ _ _ _ (brB_of (fun z => by simp at z) fun _ => loop l.length 0 (by omega))
/-- Same. -/
theorem f16_spec {x y : PkM} (rx : PkRd w0 h x) (ry : PkRd w0 h y) (e : x.key = y.key) (hk : K (.bool true) h) : EvC Go.Proofs.Tryd.prog w0 16 #[x.agg, y.agg] K h := by
  simp only [PkM.key, Pk.mk.injEq] at e
  obtain ⟨e0, e1, e2, e3, e4, e5, e6, e7, e8, e9, e10, e11, e12, e13, e14, e15⟩ := e
  have ew := keys_inj e14
  have nc := rx.nc
  have hx4 := rx.pay
  have hy4 := ry.pay
  have hxc := rx.codes
  have hyc := ry.codes
  refine f16_go _ _ _ _ _ _ _ _ _ _ _ _ _ _ _ _ _ _ _ _ _ _ _ _ _ _ _ _ _ _ _ _ _ _ _ _ _ _ _ _ _ _ _ _ _ (brB_of (fun z => by rw [e0] at z; simp at z) fun _ => brB_of (fun z => by rw [e1] at z; simp at z) fun _ => brB_of (fun z => by rw [e2] at z; simp at z) fun _ => brB_of (fun z => by rw [e8] at z; simp at z) fun _ => brB_of (fun z => by rw [e9] at z; simp at z) fun _ =>
    brB_of (fun z => by rw [e10] at z; simp at z) fun _ => brB_of (fun z => by rw [e11] at z; simp at z) fun _ => brB_of (fun z => by rw [e12] at z; simp at z) fun _ => brB_of (fun z => by rw [e13] at z; simp at z) fun _ => f44_spec rx.wants ry.wants rx.nw ew ⟨_, rfl, brB_of (fun z => by cases z) fun _ => ?_⟩)
  have en : ((((x.codes.length : Nat) : Int)) != ((y.codes.length : Nat) : Int)) = false := by rw [e15]; simp
  rw [en]
  refine f16_2_in _ _ _ _ _ _ _ _ _ _ _ _ _ _ _ _ _ _ _ _ _ _ _ _ _ _ _ _ _ _ _ _ _ _ _ _ _ _ _ _ _ _ _ _ _ _ (brB_of (fun z => by cases z) fun _ => f16_3_in _ _ _ _ _ _ _ _ _ _ _ _ _ _ _ _ _ _ _ _ _ _ _ _ _ _ _ _ _ _ _ _ _ _ _ _ _ _ _ _ _ _ _ _ _ ?_)
  have loop : ∀ (n i : Nat), i + n = x.codes.length → f16_4 w0 K ((x.codes.length : Nat) : Int) ((i : Nat) : Int) x.kind x.id x.dup x.topic x.pa x.pay.length x.pc x.qos x.ret x.til x.client x.clean x.alive x.will x.present x.code x.wa x.wants.length x.wc x.ca x.codes.length x.cc y.kind y.id y.dup y.topic y.pa y.pay.length y.pc y.qos y.ret y.til y.client y.clean y.alive y.will y.present y.code y.wa y.wants.length y.wc y.ca y.codes.length y.cc h := fun n => by
    induction n with
    | zero =>
      intro i hi
      have core : brB (decide (x.topic = y.topic)) (rowsOf w0 h 1 x.pa x.pay.length fun ys => ∃ s : ByteArray, ys = intsOf s ∧ rowsOf w0 h 1 y.pa y.pay.length fun ys2 => ∃ s2 : ByteArray, ys2 = intsOf s2 ∧ brB (decide (s = s2)) (brB (x.qos == y.qos) (brB (x.ret == y.ret) (K (.bool (x.til == y.til)) h) (K (.bool false) h)) (K (.bool false) h)) (K (.bool false) h)) (K (.bool false) h) :=
        brB_of (fun _ => rows8 hx4 rfl (rows8 hy4 rfl (brB_of (fun _ => brB_of (fun _ => brB_of (fun _ => by rw [e7]; simpa using hk) fun z => by rw [e6] at z; simp at z) fun z => by rw [e5] at z; simp at z) fun z => by rw [e4] at z; simp at z))) fun z => by rw [e3] at z; simp at z
      refine f16_4_in _ _ _ _ _ _ _ _ _ _ _ _ _ _ _ _ _ _ _ _ _ _ _ _ _ _ _ _ _ _ _ _ _ _ _ _ _ _ _ _ _ _ _ _ _ _ _ (brB_of (fun z => by have := of_decide_eq_true z; omega) fun _ => ⟨core, core⟩)
    | succ n ih =>
      intro i hi
      have g1 : x.codes[i]? = some x.codes[i] := List.getElem?_eq_getElem _
      have g2 : y.codes[i]? = some x.codes[i] := by rw [← e15]; exact g1
      obtain ⟨ad, had, hc⟩ := hxc _ _ (ints_get g1)
      obtain ⟨bd, hbd, hc2⟩ := hyc _ _ (ints_get g2)
      have hy : i < y.codes.length := (List.getElem?_eq_some_iff.1 g2).1
      refine f16_4_in _ _ _ _ _ _ _ _ _ _ _ _ _ _ _ _ _ _ _ _ _ _ _ _ _ _ _ _ _ _ _ _ _ _ _ _ _ _ _ _ _ _ _ _ _ _ _ (brB_of (fun _ => ⟨ad, had, by omega, by omega, _, by rw [Int.toNat_natCast, Nat.mul_one]; exact hc, bd, hbd, by omega, by omega, _, by rw [Int.toNat_natCast, Nat.mul_one]; exact hc2, brB_of (fun z => by simp at z) fun _ => by rw [wrapS (by omega)]; exact ih (i + 1) (by omega)⟩) fun z => by have := of_decide_eq_false z; omega)
  exact loop x.codes.length 0 (by omega)
end
end Go.G.YtciepfobnaemmaaDoor
