/- Names. -/
import Derived.Test.YtpjklfmfgmicaaaDC
import Derived.Lib.Bytealg
import Derived.Test.YtpjklfmfgmicaaaProg
set_option maxRecDepth 100000
namespace Go.G.Ytpjklfmfgmicaaa
open Go.RowKit
def f77_J : Nat → List Nat × Nat := jOf []



theorem f77_go {w0 : World} {K : Value → AH → Prop} (x0 : ByteArray) (x1 : Int) (h : AH)
  (hv : (extR Go.Proofs.Try.prog w0 81 #[(Go.Value.string x0), (Go.Value.int .u8 x1)] h (fun x'0 => (∃ i'1 : Int, ((x'0 = (Go.Value.int .i64 i'1)) ∧ (K (Go.Value.int .i64 i'1) h)))))) :
  EvC Go.Proofs.Try.prog w0 77 ([(.string x0), (.int .u8 x1)]).toArray K h := EvC_intro (P := Go.Proofs.Try.prog) f77_J (Eq.mp (by kernel_rfl) hv)
def f69_J : Nat → List Nat × Nat := jOf []



theorem f69_go {w0 : World} {K : Value → AH → Prop} (x0 : ByteArray) (x1 : Int) (h : AH)
  (hv : (EvC Go.Proofs.Try.prog w0 77 #[(Go.Value.string x0), (Go.Value.int .u8 x1)] (fun x'0 h'1 => (∃ i'2 : Int, ((x'0 = (Go.Value.int .i64 i'2)) ∧ (K (Go.Value.int .i64 i'2) h'1)))) h)) :
  EvC Go.Proofs.Try.prog w0 69 ([(.string x0), (.int .u8 x1)]).toArray K h := EvC_intro (P := Go.Proofs.Try.prog) f69_J (Eq.mp (by kernel_rfl) hv)
def f42_J : Nat → List Nat × Nat := jOf []



theorem f42_go {w0 : World} {K : Value → AH → Prop} (x0 : ByteArray) (h : AH)
  (hv : (brB (decide (((1 : Int) ≤ (((ByteArray.size x0) : Nat) : Int)))) (brB (decide (((((ByteArray.size x0) : Nat) : Int) ≤ (64 : Int)))) (EvC Go.Proofs.Try.prog w0 69 #[(Go.Value.string x0), (Go.Value.int .u8 (47 : Int))] (fun x'0 h'1 => (∃ i'2 : Int, ((x'0 = (Go.Value.int .i64 i'2)) ∧ (brB (decide ((i'2 < (0 : Int)))) (EvC Go.Proofs.Try.prog w0 69 #[(Go.Value.string x0), (Go.Value.int .u8 (0 : Int))] (fun x'3 h'4 => (∃ i'5 : Int, ((x'3 = (Go.Value.int .i64 i'5)) ∧ (K (Go.Value.bool (decide ((i'5 < (0 : Int))))) h'4)))) h'1) (K (Go.Value.bool false) h'1))))) h) (K (Go.Value.bool false) h)) (K (Go.Value.bool false) h))) :
  EvC Go.Proofs.Try.prog w0 42 ([(.string x0)]).toArray K h := EvC_intro (P := Go.Proofs.Try.prog) f42_J (Eq.mp (by kernel_rfl) hv)
def f47_J : Nat → List Nat × Nat := jOf [(2, [1, 2, 3, 4, 7, 8, 9, 10, 11, 12, 13, 14, 15, 16, 17, 18, 19, 20, 21, 22, 23, 24, 25, 26, 27], 0), (5, [1, 2, 3, 4, 7, 8, 9, 10, 11, 12, 13, 14, 15, 16, 17, 19, 20, 21, 22, 23, 24, 25, 26, 27], 0)]

def f47_2 (w0 : World) (K : Value → AH → Prop) (x0 : ByteArray) (x5 : Int) (x6 : Int) (h : AH) : Prop :=
  ∀ j : Nat → Value, LPk Go.Proofs.Try.prog w0 (EvC Go.Proofs.Try.prog w0) f47_J 47 K 2 [.v (.string x0), .v (j 1), .v (j 2), .v (j 3), .v (j 4), .v (.int .i64 x5), .v (.int .i64 x6), .v (j 7), .v (j 8), .v (j 9), .v (j 10), .v (j 11), .v (j 12), .v (j 13), .v (j 14), .v (j 15), .v (j 16), .v (j 17), .v (j 18), .v (j 19), .v (j 20), .v (j 21), .v (j 22), .v (j 23), .v (j 24), .v (j 25), .v (j 26), .v (j 27)] [] h

def f47_5 (w0 : World) (K : Value → AH → Prop) (x0 : ByteArray) (x5 : Int) (x6 : Int) (x18 : Bool) (h : AH) : Prop :=
  ∀ j : Nat → Value, LPk Go.Proofs.Try.prog w0 (EvC Go.Proofs.Try.prog w0) f47_J 47 K 5 [.v (.string x0), .v (j 1), .v (j 2), .v (j 3), .v (j 4), .v (.int .i64 x5), .v (.int .i64 x6), .v (j 7), .v (j 8), .v (j 9), .v (j 10), .v (j 11), .v (j 12), .v (j 13), .v (j 14), .v (j 15), .v (j 16), .v (j 17), .v (.bool x18), .v (j 19), .v (j 20), .v (j 21), .v (j 22), .v (j 23), .v (j 24), .v (j 25), .v (j 26), .v (j 27)] [] h

theorem f47_2_in {w0 : World} {K : Value → AH → Prop} (x0 : ByteArray) (x5 : Int) (x6 : Int) (h : AH)
  (hv : (brB (decide ((x6 < x5))) (((0 : Int) ≤ x6) ∧ ((x6 < (((ByteArray.size x0) : Nat) : Int)) ∧ (brB ((Go.G.byteAt x0 (Int.toNat x6)) == (47 : Int)) (f47_5 w0 K x0 x5 x6 true h) (((0 : Int) ≤ x6) ∧ ((x6 < (((ByteArray.size x0) : Nat) : Int)) ∧ (f47_5 w0 K x0 x5 x6 ((Go.G.byteAt x0 (Int.toNat x6)) == (0 : Int)) h)))))) (brB (decide (((1 : Int) ≤ (((ByteArray.size x0) : Nat) : Int)))) (K (Go.Value.bool (decide (((((ByteArray.size x0) : Nat) : Int) ≤ (64 : Int))))) h) (K (Go.Value.bool false) h)))) :
  f47_2 w0 K x0 x5 x6 h := fun j => LP_intro (P := Go.Proofs.Try.prog) (Eq.mp (by kernel_rfl) hv)

theorem f47_5_in {w0 : World} {K : Value → AH → Prop} (x0 : ByteArray) (x5 : Int) (x6 : Int) (x18 : Bool) (h : AH)
  (hv : (brB x18 (K (Go.Value.bool false) h) (f47_2 w0 K x0 x5 (Go.IntKind.wrap .i64 (x6 + (1 : Int))) h))) :
  f47_5 w0 K x0 x5 x6 x18 h := fun j => LP_intro (P := Go.Proofs.Try.prog) (Eq.mp (by kernel_rfl) hv)

theorem f47_go {w0 : World} {K : Value → AH → Prop} (x0 : ByteArray) (h : AH)
  (hv : (f47_2 w0 K x0 (((ByteArray.size x0) : Nat) : Int) (0 : Int) h)) :
  EvC Go.Proofs.Try.prog w0 47 ([(.string x0)]).toArray K h := EvC_intro (P := Go.Proofs.Try.prog) f47_J (Eq.mp (by kernel_rfl) hv)
theorem indexByte_neg (c : UInt8) : ∀ (l : List UInt8), decide (Lib.indexByte l c < 0) = !(l.any fun b => b == c)
  | [] => by simp [Lib.indexByte]
  | b :: l => by
    have ih := indexByte_neg c l
    have hg := Lib.indexByte_ge l c
    unfold Lib.indexByte
    cases hb : b == c with
    | true => simp [hb]
    | false =>
      simp only [Bool.false_eq_true, if_false, List.any_cons, hb, Bool.false_or, ← ih]
      split
      · rename_i q
        have : Lib.indexByte l c = -1 := by simpa using q
        rw [this]
      · rename_i q
        have : ¬ Lib.indexByte l c = -1 := by simpa using q
        rw [decide_eq_decide]; omega
theorem f81_ext {w0 : World} {h : AH} {K : Value → Prop} {s : ByteArray} {c : Int} (hk : K (.int .i64 (Lib.indexByte s.data.toList c.toNat.toUInt8))) : extR Go.Proofs.Try.prog w0 81 #[.string s, .int .u8 c] h K := by
  refine ⟨_, fun w hw => ?_, hk⟩
  have he : Extern.find Go.Proofs.Try.f81 = some Extern.BytealgIndexByte.indexByte := by kernel_rfl
  rw [run_callFunc_extern Go.Proofs.Try.func81 (by kernel_rfl) (by kernel_rfl) (by kernel_rfl) he, Lib.run_indexByteString]
  rfl
theorem f69_spec {w0 : World} {K : Value → AH → Prop} {h : AH} {s : ByteArray} {c : Int} (hk : K (.int .i64 (Lib.indexByte s.data.toList c.toNat.toUInt8)) h) : EvC Go.Proofs.Try.prog w0 69 #[.string s, .int .u8 c] K h :=
  f69_go _ _ _ (f77_go _ _ _ (f81_ext ⟨_, rfl, _, rfl, hk⟩))

theorem any_or (p q : UInt8 → Bool) : ∀ l : List UInt8, (l.any fun b => p b || q b) = (l.any p || l.any q)
  | [] => rfl
  | b :: l => by
    rw [List.any_cons, List.any_cons, List.any_cons, any_or p q l]
    cases p b <;> cases q b <;> cases l.any p <;> cases l.any q <;> rfl
/-- named. -/
theorem f42_spec {w0 : World} {K : Value → AH → Prop} {h : AH} {s : ByteArray} (hk : K (.bool (nameB s)) h) : EvC Go.Proofs.Try.prog w0 42 #[.string s] K h := by
  refine f42_go _ _ (brB_of (fun q1 => brB_of (fun q2 => f69_spec ⟨_, rfl, brB_of (fun q3 => f69_spec ⟨_, rfl, ?_⟩) fun q3 => ?_⟩) fun q2 => ?_) fun q1 => ?_)
  · rw [indexByte_neg] at q3 ⊢
    have e : nameB s = !(s.data.toList.any fun b => b == (0 : Int).toNat.toUInt8) := by
      have a1 : decide (1 ≤ s.size) = true := by rw [decide_eq_true_eq] at q1 ⊢; omega
      have a2 : decide (s.size ≤ 64) = true := by simp at q2 ⊢; omega
      have a3 : (s.data.toList.any fun b => b == 47) = false := by
        have : (47 : Int).toNat.toUInt8 = (47 : UInt8) := by decide
        rw [this] at q3
        simpa using q3
      unfold nameB
      rw [any_or, a1, a2, a3]
      rfl
    rw [e] at hk; exact hk
  · rw [indexByte_neg] at q3
    have e : nameB s = false := by
      have a3 : (s.data.toList.any fun b => b == 47) = true := by
        have : (47 : Int).toNat.toUInt8 = (47 : UInt8) := by decide
        rw [this] at q3
        simpa using q3
      unfold nameB
      rw [any_or, a3]
      simp
    rw [e] at hk; exact hk
  · have e : nameB s = false := by
      have a2 : decide (s.size ≤ 64) = false := by simp at q2 ⊢; omega
      unfold nameB; rw [a2]; simp
    rw [e] at hk; exact hk
  · have e : nameB s = false := by
      have a1 : decide (1 ≤ s.size) = false := by rw [decide_eq_false_iff_not] at q1 ⊢; omega
      unfold nameB; rw [a1]; simp
    rw [e] at hk; exact hk

theorem slen (s : ByteArray) : s.data.toList.length = s.size := by rw [Array.length_toList]; rfl
/-- MayName. -/
theorem f47_spec {w0 : World} {K : Value → AH → Prop} {h : AH} {s : ByteArray} (hs : s.size ≤ 1000000000000000) (hk : K (.bool (nameB s)) h) : EvC Go.Proofs.Try.prog w0 47 #[.string s] K h := by
  have loop : ∀ (k i : Nat), i + k = s.size → ((s.data.toList.drop i).any fun b => b == 47 || b == 0) = (s.data.toList.any fun b => b == 47 || b == 0) → f47_2 w0 K s ((s.size : Nat) : Int) ((i : Nat) : Int) h := by
    intro k
    induction k with
    | zero =>
      intro i hi he
      refine f47_2_in _ _ _ _ (brB_of (fun q => by simp at q; omega) fun _ => brB_of (fun q => ?_) fun q => ?_)
      · have hd : s.data.toList.drop i = [] := List.drop_eq_nil_of_le (by rw [slen]; omega)
        rw [hd] at he
        have e : nameB s = decide (((s.size : Nat) : Int) ≤ 64) := by
          have a1 : decide (1 ≤ s.size) = true := by rw [decide_eq_true_eq] at q ⊢; omega
          have a2 : decide (s.size ≤ 64) = decide (((s.size : Nat) : Int) ≤ 64) := by rw [decide_eq_decide]; omega
          unfold nameB
          rw [← he, a1, a2]
          simp
        rw [e] at hk; exact hk
      · have e : nameB s = false := by
          have a1 : decide (1 ≤ s.size) = false := by rw [decide_eq_false_iff_not] at q ⊢; omega
          unfold nameB; rw [a1]; simp
        rw [e] at hk; exact hk
    | succ k ih =>
      intro i hi he
      have hil : i < s.data.toList.length := by rw [slen]; omega
      have hget : s.data[i]? = some s.data.toList[i] := by simp
      have hb : byteAt s ((i : Nat) : Int).toNat = ((s.data.toList[i]).toNat : Int) := by
        unfold byteAt
        rw [Int.toNat_natCast, hget]
      rw [List.drop_eq_getElem_cons hil, List.any_cons] at he
      generalize hx : s.data.toList[i] = x at hb he
      have c47 : ((x.toNat : Int) == 47) = (x == 47) := by
        rw [Bool.eq_iff_iff]; simp
        constructor
        · intro e; exact UInt8.toNat_inj.1 (by simpa using (by omega : x.toNat = 47))
        · intro e; subst e; rfl
      have c0 : ((x.toNat : Int) == 0) = (x == 0) := by
        rw [Bool.eq_iff_iff]; simp
        constructor
        · intro e; exact UInt8.toNat_inj.1 (by simpa using (by omega : x.toNat = 0))
        · intro e; subst e; rfl
      have step : ∀ t, t = (x == 47 || x == 0) → f47_5 w0 K s ((s.size : Nat) : Int) ((i : Nat) : Int) t h := fun t ht => by
        refine f47_5_in _ _ _ _ _ (brB_of (fun q => ?_) fun q => ?_)
        · rw [← ht, q, Bool.true_or] at he
          have e : nameB s = false := by unfold nameB; rw [← he]; simp
          rw [e] at hk; exact hk
        · rw [← ht, q, Bool.false_or] at he
          rw [wrapS (by omega)]
          exact ih (i + 1) (by omega) he
      refine f47_2_in _ _ _ _ (brB_of (fun _ => ⟨by omega, by omega, ?_⟩) fun q => by simp at q; omega)
      rw [hb, c47]
      refine brB_of (fun q => step _ (by rw [q]; rfl)) fun q => ⟨by omega, by omega, step _ ?_⟩
      rw [c0, q]; rfl
  exact f47_go _ _ (loop s.size 0 (by omega) rfl)
end Go.G.Ytpjklfmfgmicaaa
