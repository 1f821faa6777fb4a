/- TopicMatches, TopicItself, TopicCovers. -/
import Derived.Test.YtjeneodgjclpiaaDoorTK
import Derived.Test.YtjeneodgjclpiaaDoorProg
set_option maxRecDepth 100000
namespace Go.G.YtjeneodgjclpiaaDoor
open Go.RowKit
def f7_J : Nat → List Nat × Nat := jOf []



theorem f7_go {w0 : World} {K : Value → AH → Prop} (x0 : ByteArray) (x1 : ByteArray) (h : AH)
  (hv : (EvC Go.Proofs.Tryd.prog w0 14 #[(Go.Value.string x0), (Go.Value.string x1)] (fun x'0 h'1 => (∃ t'2 : Bool, ((x'0 = (Go.Value.bool t'2)) ∧ (EvC Go.Proofs.Tryd.prog w0 24 #[(Go.Value.string x0), (Go.Value.string x1)] (fun x'3 h'4 => (∃ t'5 : Bool, ((x'3 = (Go.Value.bool t'5)) ∧ (brB (t'2 == t'5) (EvC Go.Proofs.Tryd.prog w0 25 #[(Go.Value.string x0), (Go.Value.string x1)] (fun x'6 h'7 => (∃ t'8 : Bool, ((x'6 = (Go.Value.bool t'8)) ∧ (EvC Go.Proofs.Tryd.prog w0 26 #[(Go.Value.string x0), (Go.Value.string x1)] (fun x'9 h'10 => (∃ t'11 : Bool, ((x'9 = (Go.Value.bool t'11)) ∧ (brB (t'8 == t'11) (EvC Go.Proofs.Tryd.prog w0 13 #[] (fun x'12 h'13 => (∃ t'14 : Bool, ((x'12 = (Go.Value.bool t'14)) ∧ (K (Go.Value.bool t'14) h'13)))) h'10) (K (Go.Value.bool false) h'10))))) h'7)))) h'4) (K (Go.Value.bool false) h'4))))) h'1)))) h)) :
  EvC Go.Proofs.Tryd.prog w0 7 ([(.string x0), (.string x1)]).toArray K h := EvC_intro (P := Go.Proofs.Tryd.prog) f7_J (Eq.mp (by kernel_rfl) hv)
def f8_J : Nat → List Nat × Nat := jOf [(3, [2, 3, 4, 5, 6, 7, 8, 9, 10, 11, 12, 13, 14, 15, 16, 17, 18, 19, 20, 21, 22, 24, 25, 26, 27, 28, 29, 30, 31, 32, 33, 34, 35, 36, 37, 38, 39, 40, 41, 42, 43, 44, 45, 46, 47, 48, 49, 50], 0), (4, [2, 3, 4, 5, 6, 7, 8, 9, 10, 11, 12, 13, 14, 15, 16, 17, 18, 19, 20, 21, 22, 23, 24, 25, 26, 27, 28, 29, 30, 31, 32, 33, 34, 35, 36, 37, 38, 39, 40, 41, 42, 43, 44, 45, 46, 47, 48, 49, 50], 0), (5, [0, 2, 3, 4, 5, 6, 7, 8, 9, 10, 11, 12, 13, 14, 15, 16, 17, 18, 19, 20, 21, 22, 23, 24, 25, 26, 27, 28, 29, 30, 31, 32, 33, 35, 36, 37, 38, 39, 40, 41, 42, 43, 44, 45, 46, 47, 48, 49, 50], 0)]

def f8_3 (w0 : World) (K : Value → AH → Prop) (x0 : ByteArray) (x1 : ByteArray) (x23 : Bool) (h : AH) : Prop :=
  ∀ j : Nat → Value, LPk Go.Proofs.Tryd.prog w0 (EvC Go.Proofs.Tryd.prog w0) f8_J 8 K 3 [.v (.string x0), .v (.string x1), .v (j 2), .v (j 3), .v (j 4), .v (j 5), .v (j 6), .v (j 7), .v (j 8), .v (j 9), .v (j 10), .v (j 11), .v (j 12), .v (j 13), .v (j 14), .v (j 15), .v (j 16), .v (j 17), .v (j 18), .v (j 19), .v (j 20), .v (j 21), .v (j 22), .v (.bool x23), .v (j 24), .v (j 25), .v (j 26), .v (j 27), .v (j 28), .v (j 29), .v (j 30), .v (j 31), .v (j 32), .v (j 33), .v (j 34), .v (j 35), .v (j 36), .v (j 37), .v (j 38), .v (j 39), .v (j 40), .v (j 41), .v (j 42), .v (j 43), .v (j 44), .v (j 45), .v (j 46), .v (j 47), .v (j 48), .v (j 49), .v (j 50)] [] h

def f8_4 (w0 : World) (K : Value → AH → Prop) (x0 : ByteArray) (x1 : ByteArray) (h : AH) : Prop :=
  ∀ j : Nat → Value, LPk Go.Proofs.Tryd.prog w0 (EvC Go.Proofs.Tryd.prog w0) f8_J 8 K 4 [.v (.string x0), .v (.string x1), .v (j 2), .v (j 3), .v (j 4), .v (j 5), .v (j 6), .v (j 7), .v (j 8), .v (j 9), .v (j 10), .v (j 11), .v (j 12), .v (j 13), .v (j 14), .v (j 15), .v (j 16), .v (j 17), .v (j 18), .v (j 19), .v (j 20), .v (j 21), .v (j 22), .v (j 23), .v (j 24), .v (j 25), .v (j 26), .v (j 27), .v (j 28), .v (j 29), .v (j 30), .v (j 31), .v (j 32), .v (j 33), .v (j 34), .v (j 35), .v (j 36), .v (j 37), .v (j 38), .v (j 39), .v (j 40), .v (j 41), .v (j 42), .v (j 43), .v (j 44), .v (j 45), .v (j 46), .v (j 47), .v (j 48), .v (j 49), .v (j 50)] [] h

def f8_5 (w0 : World) (K : Value → AH → Prop) (x1 : ByteArray) (x34 : Bool) (h : AH) : Prop :=
  ∀ j : Nat → Value, LPk Go.Proofs.Tryd.prog w0 (EvC Go.Proofs.Tryd.prog w0) f8_J 8 K 5 [.v (j 0), .v (.string x1), .v (j 2), .v (j 3), .v (j 4), .v (j 5), .v (j 6), .v (j 7), .v (j 8), .v (j 9), .v (j 10), .v (j 11), .v (j 12), .v (j 13), .v (j 14), .v (j 15), .v (j 16), .v (j 17), .v (j 18), .v (j 19), .v (j 20), .v (j 21), .v (j 22), .v (j 23), .v (j 24), .v (j 25), .v (j 26), .v (j 27), .v (j 28), .v (j 29), .v (j 30), .v (j 31), .v (j 32), .v (j 33), .v (.bool x34), .v (j 35), .v (j 36), .v (j 37), .v (j 38), .v (j 39), .v (j 40), .v (j 41), .v (j 42), .v (j 43), .v (j 44), .v (j 45), .v (j 46), .v (j 47), .v (j 48), .v (j 49), .v (j 50)] [] h

theorem f8_3_in {w0 : World} {K : Value → AH → Prop} (x0 : ByteArray) (x1 : ByteArray) (x23 : Bool) (h : AH)
  (hv : (brB x23 (K (Go.Value.bool false) h) (f8_4 w0 K x0 x1 h))) :
  f8_3 w0 K x0 x1 x23 h := fun j => LP_intro (P := Go.Proofs.Tryd.prog) (Eq.mp (by kernel_rfl) hv)

theorem f8_4_in {w0 : World} {K : Value → AH → Prop} (x0 : ByteArray) (x1 : ByteArray) (h : AH)
  (hv : (EvC Go.Proofs.Tryd.prog w0 18 #[(Go.Value.string x1)] (fun x'27 h'28 => (∃ t'29 : Bool, ((x'27 = (Go.Value.bool t'29)) ∧ (brB t'29 (EvC Go.Proofs.Tryd.prog w0 14 #[(Go.Value.string x0), (Go.Value.string x1)] (fun x'30 h'31 => (∃ t'32 : Bool, ((x'30 = (Go.Value.bool t'32)) ∧ (f8_5 w0 K x1 (t'32 != (decide ((x0 = x1)))) h'31)))) h'28) (f8_5 w0 K x1 false h'28))))) h)) :
  f8_4 w0 K x0 x1 h := fun j => LP_intro (P := Go.Proofs.Tryd.prog) (Eq.mp (by kernel_rfl) hv)

theorem f8_5_in {w0 : World} {K : Value → AH → Prop} (x1 : ByteArray) (x34 : Bool) (h : AH)
  (hv : (brB x34 (K (Go.Value.bool false) h) (EvC Go.Proofs.Tryd.prog w0 11 #[(Go.Value.string x1)] (fun x'33 h'34 => (∃ t'35 : Bool, ((x'33 = (Go.Value.bool t'35)) ∧ (brB (!t'35) (EvC Go.Proofs.Tryd.prog w0 13 #[] (fun x'36 h'37 => (∃ t'38 : Bool, ((x'36 = (Go.Value.bool t'38)) ∧ (K (Go.Value.bool t'38) h'37)))) h'34) (EvC Go.Proofs.Tryd.prog w0 25 #[(Go.Value.string x1), (Go.Value.string x1)] (fun x'39 h'40 => (∃ t'41 : Bool, ((x'39 = (Go.Value.bool t'41)) ∧ (brB t'41 (EvC Go.Proofs.Tryd.prog w0 13 #[] (fun x'42 h'43 => (∃ t'44 : Bool, ((x'42 = (Go.Value.bool t'44)) ∧ (K (Go.Value.bool t'44) h'43)))) h'40) (((0 : Int) ≤ (0 : Int)) ∧ (((0 : Int) < (((ByteArray.size x1) : Nat) : Int)) ∧ (brB ((Go.G.byteAt x1 0) == (36 : Int)) (EvC Go.Proofs.Tryd.prog w0 13 #[] (fun x'45 h'46 => (∃ t'47 : Bool, ((x'45 = (Go.Value.bool t'47)) ∧ (K (Go.Value.bool t'47) h'46)))) h'40) (K (Go.Value.bool false) h'40)))))))) h'34))))) h))) :
  f8_5 w0 K x1 x34 h := fun j => LP_intro (P := Go.Proofs.Tryd.prog) (Eq.mp (by kernel_rfl) hv)

theorem f8_go {w0 : World} {K : Value → AH → Prop} (x0 : ByteArray) (x1 : ByteArray) (h : AH)
  (hv : (EvC Go.Proofs.Tryd.prog w0 18 #[(Go.Value.string x0)] (fun x'0 h'1 => (∃ t'2 : Bool, ((x'0 = (Go.Value.bool t'2)) ∧ (brB t'2 (EvC Go.Proofs.Tryd.prog w0 11 #[(Go.Value.string x0)] (fun x'3 h'4 => (∃ t'5 : Bool, ((x'3 = (Go.Value.bool t'5)) ∧ (brB (!t'5) (f8_3 w0 K x0 x1 true h'4) (EvC Go.Proofs.Tryd.prog w0 14 #[(Go.Value.string x0), (Go.Value.string x0)] (fun x'6 h'7 => (∃ t'8 : Bool, ((x'6 = (Go.Value.bool t'8)) ∧ (brB (!t'8) (f8_3 w0 K x0 x1 true h'7) (((0 : Int) ≤ (0 : Int)) ∧ (((0 : Int) < (((ByteArray.size x0) : Nat) : Int)) ∧ (EvC Go.Proofs.Tryd.prog w0 14 #[(Go.Value.string (ByteArray.mk #[(35 : UInt8)])), (Go.Value.string x0)] (fun x'9 h'10 => (∃ t'11 : Bool, ((x'9 = (Go.Value.bool t'11)) ∧ (f8_3 w0 K x0 x1 (t'11 != ((Go.G.byteAt x0 0) != (36 : Int))) h'10)))) h'7))))))) h'4))))) h'1) (EvC Go.Proofs.Tryd.prog w0 11 #[(Go.Value.string x1)] (fun x'12 h'13 => (∃ t'14 : Bool, ((x'12 = (Go.Value.bool t'14)) ∧ (brB (!t'14) (EvC Go.Proofs.Tryd.prog w0 13 #[] (fun x'15 h'16 => (∃ t'17 : Bool, ((x'15 = (Go.Value.bool t'17)) ∧ (K (Go.Value.bool t'17) h'16)))) h'13) (EvC Go.Proofs.Tryd.prog w0 25 #[(Go.Value.string x1), (Go.Value.string x1)] (fun x'18 h'19 => (∃ t'20 : Bool, ((x'18 = (Go.Value.bool t'20)) ∧ (brB t'20 (EvC Go.Proofs.Tryd.prog w0 13 #[] (fun x'21 h'22 => (∃ t'23 : Bool, ((x'21 = (Go.Value.bool t'23)) ∧ (K (Go.Value.bool t'23) h'22)))) h'19) (((0 : Int) ≤ (0 : Int)) ∧ (((0 : Int) < (((ByteArray.size x1) : Nat) : Int)) ∧ (brB ((Go.G.byteAt x1 0) == (36 : Int)) (EvC Go.Proofs.Tryd.prog w0 13 #[] (fun x'24 h'25 => (∃ t'26 : Bool, ((x'24 = (Go.Value.bool t'26)) ∧ (K (Go.Value.bool t'26) h'25)))) h'19) (K (Go.Value.bool false) h'19)))))))) h'13))))) h'1))))) h)) :
  EvC Go.Proofs.Tryd.prog w0 8 ([(.string x0), (.string x1)]).toArray K h := EvC_intro (P := Go.Proofs.Tryd.prog) f8_J (Eq.mp (by kernel_rfl) hv)
def f9_J : Nat → List Nat × Nat := jOf [(3, [0, 1, 2, 3, 4, 5, 6, 7, 8, 9, 10, 11, 12, 13, 14, 15, 16, 17, 18, 19, 20, 21, 22, 23, 24, 25, 26, 27, 28, 29, 30, 32], 0)]

def f9_3 (w0 : World) (K : Value → AH → Prop) (x31 : Bool) (h : AH) : Prop :=
  ∀ j : Nat → Value, LPk Go.Proofs.Tryd.prog w0 (EvC Go.Proofs.Tryd.prog w0) f9_J 9 K 3 [.v (j 0), .v (j 1), .v (j 2), .v (j 3), .v (j 4), .v (j 5), .v (j 6), .v (j 7), .v (j 8), .v (j 9), .v (j 10), .v (j 11), .v (j 12), .v (j 13), .v (j 14), .v (j 15), .v (j 16), .v (j 17), .v (j 18), .v (j 19), .v (j 20), .v (j 21), .v (j 22), .v (j 23), .v (j 24), .v (j 25), .v (j 26), .v (j 27), .v (j 28), .v (j 29), .v (j 30), .v (.bool x31), .v (j 32)] [] h

theorem f9_3_in {w0 : World} {K : Value → AH → Prop} (x31 : Bool) (h : AH)
  (hv : (brB x31 (K (Go.Value.bool false) h) (EvC Go.Proofs.Tryd.prog w0 13 #[] (fun x'24 h'25 => (∃ t'26 : Bool, ((x'24 = (Go.Value.bool t'26)) ∧ (K (Go.Value.bool t'26) h'25)))) h))) :
  f9_3 w0 K x31 h := fun j => LP_intro (P := Go.Proofs.Tryd.prog) (Eq.mp (by kernel_rfl) hv)

theorem f9_go {w0 : World} {K : Value → AH → Prop} (x0 : ByteArray) (x1 : ByteArray) (x2 : ByteArray) (x3 : ByteArray) (h : AH)
  (hv : (EvC Go.Proofs.Tryd.prog w0 25 #[(Go.Value.string x0), (Go.Value.string x1)] (fun x'0 h'1 => (∃ t'2 : Bool, ((x'0 = (Go.Value.bool t'2)) ∧ (brB t'2 (EvC Go.Proofs.Tryd.prog w0 14 #[(Go.Value.string x1), (Go.Value.string x3)] (fun x'3 h'4 => (∃ t'5 : Bool, ((x'3 = (Go.Value.bool t'5)) ∧ (brB t'5 (EvC Go.Proofs.Tryd.prog w0 14 #[(Go.Value.string x0), (Go.Value.string x3)] (fun x'6 h'7 => (∃ t'8 : Bool, ((x'6 = (Go.Value.bool t'8)) ∧ (brB (!t'8) (f9_3 w0 K true h'7) (EvC Go.Proofs.Tryd.prog w0 25 #[(Go.Value.string x1), (Go.Value.string x2)] (fun x'9 h'10 => (∃ t'11 : Bool, ((x'9 = (Go.Value.bool t'11)) ∧ (brB t'11 (EvC Go.Proofs.Tryd.prog w0 25 #[(Go.Value.string x0), (Go.Value.string x2)] (fun x'12 h'13 => (∃ t'14 : Bool, ((x'12 = (Go.Value.bool t'14)) ∧ (f9_3 w0 K (!t'14) h'13)))) h'10) (f9_3 w0 K false h'10))))) h'7))))) h'4) (EvC Go.Proofs.Tryd.prog w0 25 #[(Go.Value.string x1), (Go.Value.string x2)] (fun x'15 h'16 => (∃ t'17 : Bool, ((x'15 = (Go.Value.bool t'17)) ∧ (brB t'17 (EvC Go.Proofs.Tryd.prog w0 25 #[(Go.Value.string x0), (Go.Value.string x2)] (fun x'18 h'19 => (∃ t'20 : Bool, ((x'18 = (Go.Value.bool t'20)) ∧ (f9_3 w0 K (!t'20) h'19)))) h'16) (f9_3 w0 K false h'16))))) h'4))))) h'1) (EvC Go.Proofs.Tryd.prog w0 13 #[] (fun x'21 h'22 => (∃ t'23 : Bool, ((x'21 = (Go.Value.bool t'23)) ∧ (K (Go.Value.bool t'23) h'22)))) h'1))))) h)) :
  EvC Go.Proofs.Tryd.prog w0 9 ([(.string x0), (.string x1), (.string x2), (.string x3)]).toArray K h := EvC_intro (P := Go.Proofs.Tryd.prog) f9_J (Eq.mp (by kernel_rfl) hv)
theorem modR' {x m : Int} (hm : 0 < m) (hm2 : m ≤ 1000000000) : 0 ≤ Int.tmod (IntKind.i64.wrap (Int.tmod x m + m)) m ∧ Int.tmod (IntKind.i64.wrap (Int.tmod x m + m)) m < m := by
  have h1 := Int.tmod_lt_of_pos x hm
  have h2 := Int.lt_tmod_of_pos x hm
  rw [wrap64 (by omega) (by omega)]
  exact ⟨Int.tmod_nonneg _ (by omega), Int.tmod_lt_of_pos _ hm⟩
theorem awake_true {w0 : World} {K : Value → AH → Prop} {h : AH} {B : List (Nat × AB)} (T : TabOk w0) (w : Own w0 h B) (hk : ∀ h, K (.bool true) h) : EvC Go.Proofs.Tryd.prog w0 13 #[] (fun x'24 h'25 => (∃ t'26 : Bool, ((x'24 = (.bool t'26)) ∧ (K (.bool t'26) h'25)))) h := f13_spec T w fun h' _ => ⟨_, rfl, hk h'⟩
/-- TopicMatches. -/
theorem f7_spec {w0 : World} {K : Value → AH → Prop} {f s : ByteArray} (T : TabOk w0) (hk : ∀ h, K (.bool true) h) : EvC Go.Proofs.Tryd.prog w0 7 #[.string f, .string s] K (fun _ => none) :=
  f7_go _ _ _ (f14_spec T Own.nil fun h1 w1 => ⟨_, rfl, f24_spec w1 fun h2 w2 => ⟨_, rfl, brB_of (fun _ => f25_spec T w2 fun h3 w3 => ⟨_, rfl, f26_spec w3 fun h4 w4 => ⟨_, rfl, brB_of (fun _ => awake_true T w4 hk) fun q => by simp at q⟩⟩) fun q => by simp at q⟩⟩)
/-- TopicItself. -/
theorem f8_spec {w0 : World} {K : Value → AH → Prop} {a b : ByteArray} (T : TabOk w0) (hk : ∀ h, K (.bool true) h) : EvC Go.Proofs.Tryd.prog w0 8 #[.string a, .string b] K (fun _ => none) := by
  have five : ∀ h, Own w0 h [] → f8_5 w0 K b false h := fun h w => f8_5_in _ _ _ (brB_of (fun q => by cases q) fun _ => f11_spec T w fun h1 w1 => ⟨_, rfl, brB_of (fun _ => awake_true T w1 hk) fun q => f25_spec T w1 fun h2 w2 => ⟨_, rfl, by
    have hf : filterB b = true := by simpa using q
    rw [covers_self hf]
    exact brB_of (fun _ => awake_true T w2 hk) fun q => by cases q⟩⟩)
  have four : nameB a = true → ∀ h, Own w0 h [] → f8_4 w0 K a b h := fun ha h w => f8_4_in _ _ _ (f18_spec T w fun h1 w1 => ⟨_, rfl, brB_of (fun q => f14_spec T w1 fun h2 w2 => ⟨_, rfl, by
    rw [match_names ha q]
    have e : (decide (a = b) != decide (a = b)) = false := by simp
    rw [e]
    exact five h2 w2⟩) fun _ => five h1 w1⟩)
  have three : nameB a = true → ∀ h, Own w0 h [] → f8_3 w0 K a b false h := fun ha h w => f8_3_in _ _ _ _ (brB_of (fun q => by cases q) fun _ => four ha h w)
  refine f8_go _ _ _ (f18_spec T Own.nil fun h1 w1 => ⟨_, rfl, brB_of (fun q => ?_) fun q => f11_spec T w1 fun h2 w2 => ⟨_, rfl, brB_of (fun _ => awake_true T w2 hk) fun q => f25_spec T w2 fun h3 w3 => ⟨_, rfl, ?_⟩⟩⟩)
  · refine f11_spec T w1 fun h2 w2 => ⟨_, rfl, ?_⟩
    rw [name_filter q]
    refine brB_of (fun z => by cases z) fun _ => f14_spec T w2 fun h3 w3 => ⟨_, rfl, ?_⟩
    rw [match_self q]
    have hs := (name_one q).1
    refine brB_of (fun z => by cases z) fun _ => ⟨by decide, by omega, f14_spec T w3 fun h4 w4 => ⟨_, rfl, ?_⟩⟩
    have e : (matchB ⟨#[35]⟩ a != (byteAt a 0 != 36)) = false := by
      have e1 : matchB ⟨#[35]⟩ a = !(decide (first a = some 36)) := match_hash q
      rw [e1]
      unfold bne
      rw [first_at (k := 36) (m := 36) hs rfl]
      cases decide (first a = some 36) <;> rfl
    rw [e]
    exact three q h4 w4
  · have hf : filterB b = true := by simpa using q
    rw [covers_self hf]
    exact brB_of (fun _ => awake_true T w3 hk) fun q => by cases q
/-- TopicCovers. -/
theorem f9_spec {w0 : World} {K : Value → AH → Prop} {a b c n : ByteArray} (T : TabOk w0) (hk : ∀ h, K (.bool true) h) : EvC Go.Proofs.Tryd.prog w0 9 #[.string a, .string b, .string c, .string n] K (fun _ => none) := by
  have three : ∀ h, Own w0 h [] → f9_3 w0 K false h := fun h w => f9_3_in _ _ (brB_of (fun q => by cases q) fun _ => awake_true T w hk)
  refine f9_go _ _ _ _ _ (f25_spec T Own.nil fun h1 w1 => ⟨_, rfl, brB_of (fun q1 => f14_spec T w1 fun h2 w2 => ⟨_, rfl, ?_⟩) fun _ => awake_true T w1 hk⟩)
  have tail : ∀ h, Own w0 h [] → EvC Go.Proofs.Tryd.prog w0 25 #[.string b, .string c] (fun x'15 h'16 => ∃ t'17 : Bool, x'15 = .bool t'17 ∧ brB t'17 (EvC Go.Proofs.Tryd.prog w0 25 #[.string a, .string c] (fun x'18 h'19 => ∃ t'20 : Bool, x'18 = .bool t'20 ∧ f9_3 w0 K (!t'20) h'19) h'16) (f9_3 w0 K false h'16)) h := fun h w =>
    f25_spec T w fun h3 w3 => ⟨_, rfl, brB_of (fun q3 => f25_spec T w3 fun h4 w4 => ⟨_, rfl, by rw [covers_trans q1 q3]; exact three h4 w4⟩) fun _ => three h3 w3⟩
  refine brB_of (fun q2 => f14_spec T w2 fun h3 w3 => ⟨_, rfl, ?_⟩) fun _ => tail h2 w2
  rw [covers_match q1 q2]
  exact brB_of (fun z => by cases z) fun _ => tail h3 w3
end Go.G.YtjeneodgjclpiaaDoor
