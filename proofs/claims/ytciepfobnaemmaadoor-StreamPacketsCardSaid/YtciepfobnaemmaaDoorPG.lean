/- packet.Decode. -/
import Derived.Test.YtciepfobnaemmaaDoorPF
import Derived.Test.YtciepfobnaemmaaDoorProg
set_option maxRecDepth 100000
namespace Go.G.YtciepfobnaemmaaDoor
open Go.RowKit
open Value (string slice int bool agg)
def f14_J : Nat → List Nat × Nat := jOf [(11, (1 :: (3 :: (4 :: (rn 61 54 [])))), 1), (10, (1 :: (3 :: (4 :: (rn 32 25 (rn 61 28 []))))), 1), (10000, (0 :: (1 :: (3 :: (4 :: (5 :: (rn 61 54 [])))))), 1)]

def f14_11 (w0 : World) (K : Value → AH → Prop) (a : Option Addr) (b c : Nat) (d e : Int) (g i : Int) (k : Bool) (m : ByteArray) (n : Option Addr) (o p : Nat) (q : Int) (r : Bool) (s : Int) (t : ByteArray) (u : Bool) (x : Int) (y z : Bool) (A : Int) (B : Option Addr) (C D : Nat) (E : Option Addr) (F G : Nat) (h : AH) : Prop :=
  ∀ j : Nat → Value, LPk Proofs.Tryd.prog w0 (EvC Proofs.Tryd.prog w0) f14_J 14 K 11 (.v (.slice a b c) :: (jv j 2 1 (.bp 0 0 :: (jv j 5 2 (.v (.int .i64 d) :: (.v (.int .i64 e) :: (jv j 61 54 []))))))) [some [(.int .i64 g), (.int .i64 i), (.bool k), (.string m), (.slice n o p), (.int .i64 q), (.bool r), (.int .i64 s), (.string t), (.bool u), (.int .i64 x), (.bool y), (.bool z), (.int .i64 A), (.slice B C D), (.slice E F G)]] h

def f14_10 (w0 : World) (K : Value → AH → Prop) (a : Option Addr) (b c : Nat) (d e : Int) (g : Bool) (i k : Int) (m : Bool) (n : ByteArray) (o : Option Addr) (p q : Nat) (r : Int) (s : Bool) (t : Int) (u : ByteArray) (x : Bool) (y : Int) (z A : Bool) (B : Int) (C : Option Addr) (D E : Nat) (F : Option Addr) (G L : Nat) (h : AH) : Prop :=
  ∀ j : Nat → Value, LPk Proofs.Tryd.prog w0 (EvC Proofs.Tryd.prog w0) f14_J 14 K 10 (.v (.slice a b c) :: (jv j 2 1 (.bp 0 0 :: (jv j 5 2 (.v (.int .i64 d) :: (.v (.int .i64 e) :: (jv j 32 25 (.v (.bool g) :: (jv j 61 28 []))))))))) [some [(.int .i64 i), (.int .i64 k), (.bool m), (.string n), (.slice o p q), (.int .i64 r), (.bool s), (.int .i64 t), (.string u), (.bool x), (.int .i64 y), (.bool z), (.bool A), (.int .i64 B), (.slice C D E), (.slice F G L)]] h

def f14_10000 (w0 : World) (K : Value → AH → Prop) (a b c : Int) (d : Bool) (e : ByteArray) (g : Option Addr) (i k : Nat) (m : Int) (n : Bool) (o : Int) (p : ByteArray) (q : Bool) (r : Int) (s t : Bool) (u : Int) (x : Option Addr) (y z : Nat) (A : Option Addr) (B C : Nat) (h : AH) : Prop :=
  ∀ j : Nat → Value, LPk Proofs.Tryd.prog w0 (EvC Proofs.Tryd.prog w0) f14_J 14 K 10000 (jv j 2 2 (.bp 0 0 :: (jv j 6 3 (.v (.int .i64 a) :: (jv j 61 54 []))))) [some [(.int .i64 b), (.int .i64 c), (.bool d), (.string e), (.slice g i k), (.int .i64 m), (.bool n), (.int .i64 o), (.string p), (.bool q), (.int .i64 r), (.bool s), (.bool t), (.int .i64 u), (.slice x y z), (.slice A B C)]] h

theorem f14_11_in {w0 : World} {K : Value → AH → Prop} (c : Option Addr) (b d : Nat) (a e : Int) (g i : Int) (k : Bool) (m : ByteArray) (n : Option Addr) (o p : Nat) (q : Int) (r : Bool) (s : Int) (t : ByteArray) (u : Bool) (v : Int) (x y : Bool) (z : Int) (A : Option Addr) (B C : Nat) (D : Option Addr) (E F : Nat) (h : AH)
  (hv : (brB (e != (0 : Int)) (f14_10000 w0 K e g i k m n o p q r s t u v x y z A B C D E F h) (∃ L : Addr, ((c = (some L)) ∧ (((0 : Int) ≤ (0 : Int)) ∧ (((0 : Int) < ((b : Nat) : Int)) ∧ (((0 : Int) ≤ (IntKind.wrap .i64 ((1 : Int) + a))) ∧ (((IntKind.wrap .i64 ((1 : Int) + a)) ≤ ((b : Nat) : Int)) ∧ (∃ M : Int, (((cellA w0 h (Addr.add L 0)) = (some (int .u8 M))) ∧ (EvC Proofs.Tryd.prog w0 34 #[(int .u8 M), (slice (cutA 1 c d (Int.toNat (IntKind.wrap .i64 ((1 : Int) + a)))) (b - (Int.toNat (IntKind.wrap .i64 ((1 : Int) + a)))) (d - (Int.toNat (IntKind.wrap .i64 ((1 : Int) + a)))))] (fun b5 b6 => (∃ N : Int, (∃ Q : Int, (∃ R : Bool, (∃ T : ByteArray, (∃ U : Option Addr, (∃ V : Nat, (∃ Y : Nat, (∃ Z : Int, (∃ a0 : Bool, (∃ a1 : Int, (∃ a2 : ByteArray, (∃ a3 : Bool, (∃ a4 : Int, (∃ a5 : Bool, (∃ a6 : Bool, (∃ a7 : Int, (∃ a8 : Option Addr, (∃ a9 : Nat, (∃ b0 : Nat, (∃ b1 : Option Addr, (∃ b2 : Nat, (∃ b3 : Nat, (∃ b4 : Int, ((b5 = (Value.tuple #[(agg #[(int .i64 N), (int .i64 Q), (bool R), (string T), (slice U V Y), (int .i64 Z), (bool a0), (int .i64 a1), (string a2), (bool a3), (int .i64 a4), (bool a5), (bool a6), (int .i64 a7), (slice a8 a9 b0), (slice b1 b2 b3)]), (int .i64 b4)])) ∧ (K (Value.tuple #[(agg #[(int .i64 N), (int .i64 Q), (bool R), (string T), (slice U V Y), (int .i64 Z), (bool a0), (int .i64 a1), (string a2), (bool a3), (int .i64 a4), (bool a5), (bool a6), (int .i64 a7), (slice a8 a9 b0), (slice b1 b2 b3)]), (int .i64 b4)]) b6)))))))))))))))))))))))))) h))))))))))) :
  f14_11 w0 K c b d a e g i k m n o p q r s t u v x y z A B C D E F h := fun j => LP_intro (P := Proofs.Tryd.prog) (Eq.mp (by kernel_rfl) hv)

theorem f14_10_in {w0 : World} {K : Value → AH → Prop} (a : Option Addr) (b c : Nat) (d F : Int) (G : Bool) (e g : Int) (i : Bool) (k : ByteArray) (m : Option Addr) (n o : Nat) (p : Int) (q : Bool) (r : Int) (s : ByteArray) (t : Bool) (u : Int) (v x : Bool) (y : Int) (z : Option Addr) (A B : Nat) (C : Option Addr) (D E : Nat) (h : AH)
  (hv : (brB G (f14_11 w0 K a b c d (3 : Int) e g i k m n o p q r s t u v x y z A B C D E h) (f14_11 w0 K a b c d F e g i k m n o p q r s t u v x y z A B C D E h))) :
  f14_10 w0 K a b c d F G e g i k m n o p q r s t u v x y z A B C D E h := fun j => LP_intro (P := Proofs.Tryd.prog) (Eq.mp (by kernel_rfl) hv)

theorem f14_10000_in {w0 : World} {K : Value → AH → Prop} (a b c : Int) (d : Bool) (e : ByteArray) (g : Option Addr) (i k : Nat) (m : Int) (n : Bool) (o : Int) (p : ByteArray) (q : Bool) (r : Int) (s t : Bool) (u : Int) (v : Option Addr) (x y : Nat) (z : Option Addr) (A B : Nat) (h : AH)
  (hv : (K (Value.tuple #[(agg #[(int .i64 (0 : Int)), (int .i64 (0 : Int)), (bool false), (string (ByteArray.mk #[])), (slice none 0 0), (int .i64 (0 : Int)), (bool false), (int .i64 (0 : Int)), (string (ByteArray.mk #[])), (bool false), (int .i64 (0 : Int)), (bool false), (bool false), (int .i64 (0 : Int)), (slice none 0 0), (slice none 0 0)]), (int .i64 a)]) h)) :
  f14_10000 w0 K a b c d e g i k m n o p q r s t u v x y z A B h := fun j => LP_intro (P := Proofs.Tryd.prog) (Eq.mp (by kernel_rfl) hv)

theorem f14_go {w0 : World} {K : Value → AH → Prop} (b : Option Addr) (a c : Nat) (h : AH)
  (hv : (brB (((a : Nat) : Int) == (0 : Int)) (K (Value.tuple #[(agg #[(int .i64 (0 : Int)), (int .i64 (0 : Int)), (bool false), (string (ByteArray.mk #[])), (slice none 0 0), (int .i64 (0 : Int)), (bool false), (int .i64 (0 : Int)), (string (ByteArray.mk #[])), (bool false), (int .i64 (0 : Int)), (bool false), (bool false), (int .i64 (0 : Int)), (slice none 0 0), (slice none 0 0)]), (int .i64 (5 : Int))]) h) (((0 : Int) ≤ (1 : Int)) ∧ (((1 : Int) ≤ ((a : Nat) : Int)) ∧ (EvC Proofs.Tryd.prog w0 32 #[(slice (cutA 1 b c 1) (a - 1) (c - 1))] (fun o e => (∃ i : Int, (∃ d : Int, (∃ g : Int, ((o = (Value.tuple #[(int .i64 i), (int .i64 d), (int .i64 g)])) ∧ (brB (g != (0 : Int)) (f14_11 w0 K b a c d g (0 : Int) (0 : Int) false (ByteArray.mk #[]) none 0 0 (0 : Int) false (0 : Int) (ByteArray.mk #[]) false (0 : Int) false false (0 : Int) none 0 0 none 0 0 e) (brB (decide (((1024 : Int) < i))) (f14_11 w0 K b a c d (2 : Int) (0 : Int) (0 : Int) false (ByteArray.mk #[]) none 0 0 (0 : Int) false (0 : Int) (ByteArray.mk #[]) false (0 : Int) false false (0 : Int) none 0 0 none 0 0 e) (brB (decide (((IntKind.wrap .i64 ((IntKind.wrap .i64 (((a : Nat) : Int) - (1 : Int))) - d)) < i))) (f14_11 w0 K b a c d (5 : Int) (0 : Int) (0 : Int) false (ByteArray.mk #[]) none 0 0 (0 : Int) false (0 : Int) (ByteArray.mk #[]) false (0 : Int) false false (0 : Int) none 0 0 none 0 0 e) (brB (decide ((i < (IntKind.wrap .i64 ((IntKind.wrap .i64 (((a : Nat) : Int) - (1 : Int))) - d))))) (f14_10 w0 K b a c d g true (0 : Int) (0 : Int) false (ByteArray.mk #[]) none 0 0 (0 : Int) false (0 : Int) (ByteArray.mk #[]) false (0 : Int) false false (0 : Int) none 0 0 none 0 0 e) (∃ k : Addr, ((b = (some k)) ∧ (((0 : Int) ≤ (0 : Int)) ∧ (((0 : Int) < ((a : Nat) : Int)) ∧ (∃ m : Int, (((cellA w0 e (Addr.add k 0)) = (some (int .u8 m))) ∧ (EvC Proofs.Tryd.prog w0 33 #[(int .u8 m)] (fun p q => (∃ n : Bool, ((p = (bool n)) ∧ (f14_10 w0 K b a c d g (!n) (0 : Int) (0 : Int) false (ByteArray.mk #[]) none 0 0 (0 : Int) false (0 : Int) (ByteArray.mk #[]) false (0 : Int) false false (0 : Int) none 0 0 none 0 0 q)))) e)))))))))))))))) h))))) :
  EvC Proofs.Tryd.prog w0 14 ([(.slice b a c)]).toArray K h := EvC_intro (P := Proofs.Tryd.prog) f14_J (Eq.mp (by kernel_rfl) hv)
theorem lenF_le : ∀ (f k n : Nat) (l : List UInt8), (lenF f k n l).2.1 ≤ k + l.length
  | 0, _, _, _ => Nat.zero_le _
  | _ + 1, _, _, [] => Nat.zero_le _
  | f + 1, k, n, b :: r => by
    rw [lenF_step]
    split
    · have := lenF_le f (k + 1) (n + b.toNat % 128 * 128 ^ k) r
      rw [List.length_cons]; omega
    · rw [List.length_cons]
      show k + 1 ≤ _
      omega
theorem lenS_le (l : List UInt8) : (lenS l).2.1 ≤ l.length := by
  have := lenF_le 4 0 0 l
  unfold lenS; omega
section
variable {w0 : World} {K : Value → AH → Prop} {h : AH} {R X : List (Nat × AB)} {c : Nat}
/-- Decode. -/
theorem f14_spec {l : List UInt8} {a : Option Addr} (T : TabOk w0) (w : Own w0 h X) (r : Rdr w0 R a c l) (hs : R ⊆ X)
    (hk : ∀ h' m' e, (m'.key, e) = decL l → PkV m' → Own w0 h' (ownP m' ++ X) → K (.tuple #[m'.agg, .int .i64 e]) h') :
    EvC Go.Proofs.Tryd.prog w0 14 #[.slice a l.length c] K h := by
  have zero : ∀ h1 e, Own w0 h1 X → ({}, e) = decL l → K (.tuple #[(pk0 0).agg, .int .i64 e]) h1 := fun h1 e w1 he => hk h1 (pk0 0) e he (pk0_v 0) (by rw [pk0_own]; exact w1)
  refine f14_go _ _ _ _ ?_
  match l, r, hk, zero with
  | [], r, hk, zero => exact brB_of (fun _ => zero h 5 w rfl) fun z => by simp at z
  | x :: t, r, hk, zero =>
    have hl := r.len
    have hcap := r.cap
    rw [List.length_cons] at hl hcap
    have rd1 : ∀ h', Own w0 h' X → Rd w0 h' (cutA 1 a c 1) (u8s t) := fun h' w' => rd8_cut (k := 1) (r.at w' hs) r.cap (by simp)
    refine brB_of (fun z => by simp at z; omega) fun _ => ⟨by omega, by rw [List.length_cons]; omega, ?_⟩
    have el : (x :: t).length - 1 = t.length := by simp
    rw [el]
    have vl := lenS_le t
    have ed : decL (x :: t) = if (lenS t).2.2 ≠ 0 then ({}, (lenS t).2.2) else if 1024 < (lenS t).1 then ({}, 2) else if t.length < (lenS t).2.1 + (lenS t).1 then ({}, 5)
      else if (lenS t).2.1 + (lenS t).1 < t.length ∨ headB x.toNat = false then ({}, 3) else endP (bodyS x.toNat (t.drop (lenS t).2.1)) := rfl
    refine f32_spec (rd1 h w) ⟨_, _, _, rfl, ?_⟩
    generalize lenS t = v at *
    obtain ⟨n, k, e⟩ := v
    dsimp only at ed vl ⊢
    have lab : ∀ e h1, e ≠ 0 → Own w0 h1 X → ({}, e) = decL (x :: t) → f14_11 w0 K a (x :: t).length c ((k : Nat) : Int) e 0 0 false ⟨#[]⟩ none 0 0 0 false 0 ⟨#[]⟩ false 0 false false 0 none 0 0 none 0 0 h1 := fun e h1 ne w1 he =>
      f14_11_in _ _ _ _ _ _ _ _ _ _ _ _ _ _ _ _ _ _ _ _ _ _ _ _ _ _ _ _ (brB_of (fun _ => f14_10000_in _ _ _ _ _ _ _ _ _ _ _ _ _ _ _ _ _ _ _ _ _ _ _ _ (zero h1 e w1 he)) fun z => absurd z (by simpa using ne))
    have e1 : IntKind.i64.wrap (IntKind.i64.wrap ((((x :: t).length : Nat) : Int) - 1) - ((k : Nat) : Int)) = ((t.length - k : Nat) : Int) := by
      rw [List.length_cons, wrap64 (x := _ - 1) (by omega) (by omega), wrap64 (by omega) (by omega)]; omega
    rw [e1]
    refine brB_of (fun z => ?_) fun z => ?_
    · have z' : e ≠ 0 := by simpa using z
      exact lab e h z' w (by rw [ed, if_pos z'])
    have z0 : e = 0 := by simpa using z
    subst z0
    rw [if_neg (by simp)] at ed
    have e2 : decide ((1024 : Int) < ((n : Nat) : Int)) = decide (1024 < n) := by rw [decide_eq_decide]; omega
    have e3 : decide (((t.length - k : Nat) : Int) < ((n : Nat) : Int)) = decide (t.length < k + n) := by rw [decide_eq_decide]; omega
    have e4 : decide (((n : Nat) : Int) < ((t.length - k : Nat) : Int)) = decide (k + n < t.length) := by rw [decide_eq_decide]; omega
    rw [e2, e3, e4]
    refine brB_of (fun z => lab 2 h (by decide) w (by rw [ed, if_pos (of_decide_eq_true z)])) fun z => ?_
    rw [if_neg (of_decide_eq_false z)] at ed
    refine brB_of (fun z => lab 5 h (by decide) w (by rw [ed, if_pos (of_decide_eq_true z)])) fun z => ?_
    rw [if_neg (of_decide_eq_false z)] at ed
    have ten : ∀ t' h1, t' = decide (k + n < t.length ∨ headB x.toNat = false) → Own w0 h1 X → f14_10 w0 K a (x :: t).length c ((k : Nat) : Int) 0 t' 0 0 false ⟨#[]⟩ none 0 0 0 false 0 ⟨#[]⟩ false 0 false false 0 none 0 0 none 0 0 h1 := fun t' h1 ht w1 => by
      refine f14_10_in _ _ _ _ _ _ _ _ _ _ _ _ _ _ _ _ _ _ _ _ _ _ _ _ _ _ _ _ _ (brB_of (fun y => lab 3 h1 (by decide) w1 (by rw [ed, if_pos (of_decide_eq_true (ht.symm.trans y))])) fun y => ?_)
      have ny := of_decide_eq_false (ht.symm.trans y)
      rw [if_neg ny] at ed
      obtain ⟨ad, had, hc⟩ := byte_at (i := 0) (r.at w1 hs) rfl
      have e5 : IntKind.i64.wrap ((1 : Int) + ((k : Nat) : Int)) = ((k + 1 : Nat) : Int) := by rw [wrap64 (by omega) (by omega)]; omega
      refine f14_11_in _ _ _ _ _ _ _ _ _ _ _ _ _ _ _ _ _ _ _ _ _ _ _ _ _ _ _ _ (brB_of (fun z => by simp at z) fun _ => ?_)
      rw [e5, Int.toNat_natCast]
      refine ⟨ad, had, by omega, by rw [List.length_cons]; omega, by omega, by rw [List.length_cons]; omega, _, hc, ?_⟩
      have r2 := r.drop (n := k + 1) (by rw [List.length_cons]; omega)
      rw [List.drop_succ_cons] at r2
      have el2 : (x :: t).length - (k + 1) = (t.drop k).length := by rw [List.length_cons, List.length_drop]; omega
      rw [el2]
      exact f34_spec T w1 r2 hs fun h2 m2 e2 em v2 w2 => ⟨_, _, _, _, _, _, _, _, _, _, _, _, _, _, _, _, _, _, _, _, _, _, _, rfl, hk h2 m2 e2 (by rw [em, ed]) v2 w2⟩
    refine brB_of (fun z => ten _ h ?_ w) fun z => ?_
    · exact (decide_eq_true (.inl (of_decide_eq_true z))).symm
    obtain ⟨ad, had, hc⟩ := byte_at (i := 0) (r.at w hs) rfl
    refine ⟨ad, had, by omega, by rw [List.length_cons]; omega, _, hc, f33_spec ⟨_, rfl, ten _ h ?_ w⟩⟩
    have z' := of_decide_eq_false z
    rw [Bool.eq_iff_iff]
    simp only [Bool.not_eq_true', decide_eq_true_eq]
    exact ⟨fun q => .inr q, fun q => q.resolve_left z'⟩
end
end Go.G.YtciepfobnaemmaaDoor
