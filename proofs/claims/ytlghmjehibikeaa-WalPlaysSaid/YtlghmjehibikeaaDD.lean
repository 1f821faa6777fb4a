/- Names. -/
import Derived.Test.YtlghmjehibikeaaDC
import Derived.Lib.Bytealg
import Derived.Test.YtlghmjehibikeaaProg
set_option maxRecDepth 100000
namespace Go.G.Ytlghmjehibikeaa
open Go.RowKit
def f83_J : Nat → List Nat × Nat := jOf []



theorem f83_go {w0 : World} {K : Value → AH → Prop} (x0 : ByteArray) (x1 : Int) (h : AH)
  (hv : (extR Go.Proofs.Try.prog w0 96 #[(Go.Value.string x0), (Go.Value.int .u8 x1)] h (fun x'0 => (∃ i'1 : Int, ((x'0 = (Go.Value.int .i64 i'1)) ∧ (K (Go.Value.int .i64 i'1) h)))))) :
  EvC Go.Proofs.Try.prog w0 83 ([(.string x0), (.int .u8 x1)]).toArray K h := EvC_intro (P := Go.Proofs.Try.prog) f83_J (Eq.mp (by kernel_rfl) hv)
def f75_J : Nat → List Nat × Nat := jOf []



theorem f75_go {w0 : World} {K : Value → AH → Prop} (x0 : ByteArray) (x1 : Int) (h : AH)
  (hv : (EvC Go.Proofs.Try.prog w0 83 #[(Go.Value.string x0), (Go.Value.int .u8 x1)] (fun x'0 h'1 => (∃ i'2 : Int, ((x'0 = (Go.Value.int .i64 i'2)) ∧ (K (Go.Value.int .i64 i'2) h'1)))) h)) :
  EvC Go.Proofs.Try.prog w0 75 ([(.string x0), (.int .u8 x1)]).toArray K h := EvC_intro (P := Go.Proofs.Try.prog) f75_J (Eq.mp (by kernel_rfl) hv)
def f52_J : Nat → List Nat × Nat := jOf []



theorem f52_go {w0 : World} {K : Value → AH → Prop} (x0 : ByteArray) (h : AH)
  (hv : (brB (decide (((1 : Int) ≤ (((ByteArray.size x0) : Nat) : Int)))) (brB (decide (((((ByteArray.size x0) : Nat) : Int) ≤ (64 : Int)))) (EvC Go.Proofs.Try.prog w0 75 #[(Go.Value.string x0), (Go.Value.int .u8 (47 : Int))] (fun x'0 h'1 => (∃ i'2 : Int, ((x'0 = (Go.Value.int .i64 i'2)) ∧ (brB (decide ((i'2 < (0 : Int)))) (EvC Go.Proofs.Try.prog w0 75 #[(Go.Value.string x0), (Go.Value.int .u8 (0 : Int))] (fun x'3 h'4 => (∃ i'5 : Int, ((x'3 = (Go.Value.int .i64 i'5)) ∧ (K (Go.Value.bool (decide ((i'5 < (0 : Int))))) h'4)))) h'1) (K (Go.Value.bool false) h'1))))) h) (K (Go.Value.bool false) h)) (K (Go.Value.bool false) h))) :
  EvC Go.Proofs.Try.prog w0 52 ([(.string x0)]).toArray K h := EvC_intro (P := Go.Proofs.Try.prog) f52_J (Eq.mp (by kernel_rfl) hv)
theorem indexByte_neg (c : UInt8) : ∀ (l : List UInt8), decide (Lib.indexByte l c < 0) = !(l.any fun b => b == c)
  | [] => by simp [Lib.indexByte]
  | b :: l => by
    have ih := indexByte_neg c l
    have hg := Lib.indexByte_ge l c
    unfold Lib.indexByte
    cases hb : b == c with
    | true => simp [hb]
    | false =>
      simp only [Bool.false_eq_true, if_false, List.any_cons, hb, Bool.false_or, ← ih]
      split
      · rename_i q
        have : Lib.indexByte l c = -1 := by simpa using q
        rw [this]
      · rename_i q
        have : ¬ Lib.indexByte l c = -1 := by simpa using q
        rw [decide_eq_decide]; omega
theorem f96_ext {w0 : World} {h : AH} {K : Value → Prop} {s : ByteArray} {c : Int} (hk : K (.int .i64 (Lib.indexByte s.data.toList c.toNat.toUInt8))) : extR Go.Proofs.Try.prog w0 96 #[.string s, .int .u8 c] h K := by
  refine ⟨_, fun w hw => ?_, hk⟩
  have he : Extern.find Go.Proofs.Try.f96 = some Extern.BytealgIndexByte.indexByte := by kernel_rfl
  rw [run_callFunc_extern Go.Proofs.Try.func96 (by kernel_rfl) (by kernel_rfl) (by kernel_rfl) he, Lib.run_indexByteString]
  rfl
theorem f75_spec {w0 : World} {K : Value → AH → Prop} {h : AH} {s : ByteArray} {c : Int} (hk : K (.int .i64 (Lib.indexByte s.data.toList c.toNat.toUInt8)) h) : EvC Go.Proofs.Try.prog w0 75 #[.string s, .int .u8 c] K h :=
  f75_go _ _ _ (f83_go _ _ _ (f96_ext ⟨_, rfl, _, rfl, hk⟩))

theorem any_or (p q : UInt8 → Bool) : ∀ l : List UInt8, (l.any fun b => p b || q b) = (l.any p || l.any q)
  | [] => rfl
  | b :: l => by
    rw [List.any_cons, List.any_cons, List.any_cons, any_or p q l]
    cases p b <;> cases q b <;> cases l.any p <;> cases l.any q <;> rfl
/-- named. -/
theorem f52_spec {w0 : World} {K : Value → AH → Prop} {h : AH} {s : ByteArray} (hk : K (.bool (nameB s)) h) : EvC Go.Proofs.Try.prog w0 52 #[.string s] K h := by
  refine f52_go _ _ (brB_of (fun q1 => brB_of (fun q2 => f75_spec ⟨_, rfl, brB_of (fun q3 => f75_spec ⟨_, rfl, ?_⟩) fun q3 => ?_⟩) fun q2 => ?_) fun q1 => ?_)
  · rw [indexByte_neg] at q3 ⊢
    have e : nameB s = !(s.data.toList.any fun b => b == (0 : Int).toNat.toUInt8) := by
      have a1 : decide (1 ≤ s.size) = true := by rw [decide_eq_true_eq] at q1 ⊢; omega
      have a2 : decide (s.size ≤ 64) = true := by simp at q2 ⊢; omega
      have a3 : (s.data.toList.any fun b => b == 47) = false := by
        have : (47 : Int).toNat.toUInt8 = (47 : UInt8) := by decide
        rw [this] at q3
        simpa using q3
      unfold nameB
      rw [any_or, a1, a2, a3]
      rfl
    rw [e] at hk; exact hk
  · rw [indexByte_neg] at q3
    have e : nameB s = false := by
      have a3 : (s.data.toList.any fun b => b == 47) = true := by
        have : (47 : Int).toNat.toUInt8 = (47 : UInt8) := by decide
        rw [this] at q3
        simpa using q3
      unfold nameB
      rw [any_or, a3]
      simp
    rw [e] at hk; exact hk
  · have e : nameB s = false := by
      have a2 : decide (s.size ≤ 64) = false := by simp at q2 ⊢; omega
      unfold nameB; rw [a2]; simp
    rw [e] at hk; exact hk
  · have e : nameB s = false := by
      have a1 : decide (1 ≤ s.size) = false := by rw [decide_eq_false_iff_not] at q1 ⊢; omega
      unfold nameB; rw [a1]; simp
    rw [e] at hk; exact hk

theorem slen (s : ByteArray) : s.data.toList.length = s.size := by rw [Array.length_toList]; rfl
end Go.G.Ytlghmjehibikeaa
