/- Bytes' index. -/
import Derived.Test.YtnmngjffebbbnaaDoorTE
import Derived.Lib.BytesEntry
import Derived.Test.YtnmngjffebbbnaaDoorProg
set_option maxRecDepth 100000
namespace Go.G.YtnmngjffebbbnaaDoor
open Go.RowKit
open Value (string slice int bool agg)
def f98_J : Nat → List Nat × Nat := jOf []



theorem f98_go {w0 : World} {K : Value → AH → Prop} (a : ByteArray) (b : Int) (h : AH)
  (hv : (extR Proofs.Tryd.prog w0 102 #[(string a), (int .u8 b)] h (fun d => (∃ c : Int, ((d = (int .i64 c)) ∧ (K (int .i64 c) h)))))) :
  EvC Proofs.Tryd.prog w0 98 ([(.string a), (.int .u8 b)]).toArray K h := EvC_intro (P := Proofs.Tryd.prog) f98_J (Eq.mp (by kernel_rfl) hv)
def f84_J : Nat → List Nat × Nat := jOf []



theorem f84_go {w0 : World} {K : Value → AH → Prop} (a : ByteArray) (b : Int) (h : AH)
  (hv : (EvC Proofs.Tryd.prog w0 98 #[(string a), (int .u8 b)] (fun d e => (∃ c : Int, ((d = (int .i64 c)) ∧ (K (int .i64 c) e)))) h)) :
  EvC Proofs.Tryd.prog w0 84 ([(.string a), (.int .u8 b)]).toArray K h := EvC_intro (P := Proofs.Tryd.prog) f84_J (Eq.mp (by kernel_rfl) hv)
def f61_J : Nat → List Nat × Nat := jOf []



theorem f61_go {w0 : World} {K : Value → AH → Prop} (a : Option Addr) (b c : Nat) (d : Int) (h : AH)
  (hv : (extR Proofs.Tryd.prog w0 82 #[(slice a b c), (int .u8 d)] h (fun g => (∃ e : Int, ((g = (int .i64 e)) ∧ (K (int .i64 e) h)))))) :
  EvC Proofs.Tryd.prog w0 61 ([(.slice a b c), (.int .u8 d)]).toArray K h := EvC_intro (P := Proofs.Tryd.prog) f61_J (Eq.mp (by kernel_rfl) hv)
def f68_J : Nat → List Nat × Nat := jOf [(6, (2 :: (3 :: (4 :: (rn 34 28 [])))), 0)]

def f68_6 (w0 : World) (K : Value → AH → Prop) (a b : ByteArray) (c : Int) (h : AH) : Prop :=
  ∀ j : Nat → Value, LPk Proofs.Tryd.prog w0 (EvC Proofs.Tryd.prog w0) f68_J 68 K 6 (.v (.string a) :: (.v (.string b) :: (jv j 5 3 (.v (.int .i64 c) :: (jv j 34 28 []))))) [] h

theorem f68_6_in {w0 : World} {K : Value → AH → Prop} (b a : ByteArray) (d : Int) (h : AH)
  (hv : (EvC Proofs.Tryd.prog w0 69 #[(string b), (string a)] (fun g e => (∃ c : Int, ((g = (int .i64 c)) ∧ (brB (c == (-1 : Int)) (K (int .i64 d) e) (((0 : Int) ≤ (IntKind.wrap .i64 (c + (((ByteArray.size a) : Nat) : Int)))) ∧ (((IntKind.wrap .i64 (c + (((ByteArray.size a) : Nat) : Int))) ≤ (((ByteArray.size b) : Nat) : Int)) ∧ (f68_6 w0 K (ByteArray.extract b (Int.toNat (IntKind.wrap .i64 (c + (((ByteArray.size a) : Nat) : Int)))) (ByteArray.size b)) a (IntKind.wrap .i64 (d + (1 : Int))) e))))))) h)) :
  f68_6 w0 K b a d h := fun j => LP_intro (P := Proofs.Tryd.prog) (Eq.mp (by kernel_rfl) hv)

theorem f68_go {w0 : World} {K : Value → AH → Prop} (b a : ByteArray) (h : AH)
  (hv : (brB ((((ByteArray.size a) : Nat) : Int) == (0 : Int)) (EvC Proofs.Tryd.prog w0 88 #[(string b)] (fun e g => (∃ c : Int, ((e = (int .i64 c)) ∧ (K (int .i64 (IntKind.wrap .i64 (c + (1 : Int)))) g)))) h) (brB ((((ByteArray.size a) : Nat) : Int) == (1 : Int)) (((0 : Int) ≤ (0 : Int)) ∧ (((0 : Int) < (((ByteArray.size a) : Nat) : Int)) ∧ (extR Proofs.Tryd.prog w0 90 #[(string b), (int .u8 (byteAt a 0))] h (fun i => (∃ d : Int, ((i = (int .i64 d)) ∧ (K (int .i64 d) h))))))) (f68_6 w0 K b a (0 : Int) h)))) :
  EvC Proofs.Tryd.prog w0 68 ([(.string b), (.string a)]).toArray K h := EvC_intro (P := Proofs.Tryd.prog) f68_J (Eq.mp (by kernel_rfl) hv)
def f49_J : Nat → List Nat × Nat := jOf []



theorem f49_go {w0 : World} {K : Value → AH → Prop} (a : Option Addr) (b c : Nat) (h : AH)
  (hv : (EvC Proofs.Tryd.prog w0 60 #[(slice a b c)] (fun i d => (∃ e : Bool, ((i = (bool e)) ∧ (brB e (EvC Proofs.Tryd.prog w0 61 #[(slice a b c), (int .u8 (0 : Int))] (fun k m => (∃ g : Int, ((k = (int .i64 g)) ∧ (K (bool (decide ((g < (0 : Int))))) m)))) d) (K (bool false) d))))) h)) :
  EvC Proofs.Tryd.prog w0 49 ([(.slice a b c)]).toArray K h := EvC_intro (P := Proofs.Tryd.prog) f49_J (Eq.mp (by kernel_rfl) hv)
def f36_J : Nat → List Nat × Nat := jOf []



theorem f36_go {w0 : World} {K : Value → AH → Prop} (a : ByteArray) (c : Int) (h : AH)
  (hv : (brB (decide (((1 : Int) ≤ (((ByteArray.size a) : Nat) : Int)))) (brB (decide (((((ByteArray.size a) : Nat) : Int) ≤ c))) (∀ b : Nat, (((ByteArray.size a) ≤ b) → (newB w0 h (AB.cells (intsOf a) b) (fun e g => (EvC Proofs.Tryd.prog w0 49 #[(slice (some (Addr.mk e 0 none)) (ByteArray.size a) b)] (fun i k => (∃ d : Bool, ((i = (bool d)) ∧ (K (bool d) k)))) g))))) (K (bool false) h)) (K (bool false) h))) :
  EvC Proofs.Tryd.prog w0 36 ([(.string a), (.int .i64 c)]).toArray K h := EvC_intro (P := Proofs.Tryd.prog) f36_J (Eq.mp (by kernel_rfl) hv)
theorem loadBytes_run {P : Program} {w : World} : ∀ (l : List UInt8) (ad : Addr) (acc : ByteArray), (∀ j x, (u8s l)[j]? = some x → w.cell? (ad.add j) = some x) →
    (Extern.Bytes.loadBytes ad l.length acc).run P w = .ok ⟨(acc.data.toList ++ l).toArray⟩ w
  | [], ad, acc, _ => by
    obtain ⟨d⟩ := acc
    simp [Extern.Bytes.loadBytes]
  | b :: l, ad, acc, h => by
    have h0 := h 0 (.int .u8 b.toNat) rfl
    have e0 : ad.add 0 = ad := by simp [Addr.add]
    rw [e0] at h0
    have ih := loadBytes_run (P := P) l (ad.add 1) (acc.push b) fun j x hj => by
      rw [Deep.add_add, Nat.add_comm 1 j]
      exact h (j + 1) x (by simpa [u8s] using hj)
    have hb : (b.toNat : Int).toNat.toUInt8 = b := by simp
    simp only [List.length_cons, Extern.Bytes.loadBytes, Sem.run_bind, run_load, h0, Result.andThen_ok, hb]
    rw [ih]
    obtain ⟨d⟩ := acc
    simp [ByteArray.push]
theorem bytesOf_run {P : Program} {w : World} {a : Option Addr} {n c : Nat} {l : List UInt8} (hn : n = l.length) (h : ∀ j x, (u8s l)[j]? = some x → ∃ ad, a = some ad ∧ w.cell? (ad.add j) = some x) :
    (Extern.Bytes.bytesOf (.slice a n c)).run P w = .ok ⟨l.toArray⟩ w := by
  subst hn
  cases a with
  | none =>
    cases l with
    | nil => rfl
    | cons b l =>
      obtain ⟨ad, e, _⟩ := h 0 (.int .u8 b.toNat) rfl
      cases e
  | some ad =>
    have := loadBytes_run (P := P) (w := w) l ad .empty fun j x hj => by
      obtain ⟨ad', e, hc⟩ := h j x hj
      injection e with e
      subst e; exact hc
    simpa [Extern.Bytes.bytesOf] using this
/-- bytes.IndexByte. -/
theorem f61_spec {w0 : World} {K : Value → AH → Prop} {h : AH} {a : Option Addr} {c : Nat} {l : List UInt8} {cv : Int} (hr : Rd w0 h a (u8s l)) (hk : K (.int .i64 (Lib.indexByte l cv.toNat.toUInt8)) h) :
    EvC Go.Proofs.Tryd.prog w0 61 #[.slice a l.length c, .int .u8 cv] K h := by
  refine f61_go _ _ _ _ _ ⟨_, fun w hw => ?_, _, rfl, hk⟩
  have he : Extern.find Go.Proofs.Tryd.f82 = some Extern.BytealgIndexByte.indexByte := by kernel_rfl
  rw [run_callFunc_extern Go.Proofs.Tryd.func82 (by kernel_rfl) (by kernel_rfl) (by kernel_rfl) he]
  have hl := bytesOf_run (P := Go.Proofs.Tryd.prog) (w := w) (c := c) (rfl : l.length = l.length) fun j v hj => by
    obtain ⟨ad, e, hc⟩ := hr j v hj
    exact ⟨ad, e, hw _ _ hc⟩
  have hs := Lib.run_indexByteString (P := Go.Proofs.Tryd.prog) ⟨l.toArray⟩ cv w
  have : (Extern.BytealgIndexByte.indexByte #[.slice a l.length c, .int .u8 cv]).run Go.Proofs.Tryd.prog w = .ok (.int .i64 (Lib.indexByte l cv.toNat.toUInt8)) w := by
    change Sem.run Go.Proofs.Tryd.prog (do
      let b ← Extern.Bytes.bytesOf (.slice a l.length c)
      let c ← Extern.Bytes.asByte (.int .u8 cv)
      match (List.range b.size).find? fun i => b[i]! == c with
      | some i => pure (goInt i)
      | none => pure (goInt (-1))) w = _
    change Sem.run Go.Proofs.Tryd.prog (do
      let b ← Extern.Bytes.bytesOf (.string ⟨l.toArray⟩)
      let c ← Extern.Bytes.asByte (.int .u8 cv)
      match (List.range b.size).find? fun i => b[i]! == c with
      | some i => pure (goInt i)
      | none => pure (goInt (-1))) w = _ at hs
    simp only [Extern.Bytes.bytesOf, Sem.run_bind, Sem.run_pure, Result.andThen_ok] at hs
    simp only [Sem.run_bind, hl, Result.andThen_ok]
    exact hs
  rw [this]; rfl
/-- strings.IndexByte. -/
theorem f84_spec {w0 : World} {K : Value → AH → Prop} {h : AH} {s : ByteArray} {c : Int} (hk : K (.int .i64 (Lib.indexByte s.data.toList c.toNat.toUInt8)) h) : EvC Go.Proofs.Tryd.prog w0 84 #[.string s, .int .u8 c] K h := by
  refine f84_go _ _ _ (f98_go _ _ _ ⟨_, fun w hw => ?_, _, rfl, _, rfl, hk⟩)
  have he : Extern.find Go.Proofs.Tryd.f102 = some Extern.BytealgIndexByte.indexByte := by kernel_rfl
  rw [run_callFunc_extern Go.Proofs.Tryd.func102 (by kernel_rfl) (by kernel_rfl) (by kernel_rfl) he, Lib.run_indexByteString]
  rfl
/-- strings.Count of a stroke. -/
theorem f68_spec {w0 : World} {K : Value → AH → Prop} {h : AH} {s : ByteArray} (hk : K (.int .i64 ((s.data.toList.count 47 : Nat) : Int)) h) : EvC Go.Proofs.Tryd.prog w0 68 #[.string s, .string ⟨#[47]⟩] K h := by
  refine f68_go _ _ _ ⟨by decide, by decide, _, fun w hw => ?_, _, rfl, hk⟩
  have he : Extern.find Go.Proofs.Tryd.f90 = some Extern.BytealgCount.count := by kernel_rfl
  rw [run_callFunc_extern Go.Proofs.Tryd.func90 (by kernel_rfl) (by kernel_rfl) (by kernel_rfl) he]
  rw [show byteAt ⟨#[47]⟩ 0 = 47 from rfl, Lib.run_countString]
  rfl
theorem indexByte_neg (c : UInt8) : ∀ (l : List UInt8), decide (Lib.indexByte l c < 0) = !(l.any fun b => b == c)
  | [] => by simp [Lib.indexByte]
  | b :: l => by
    have ih := indexByte_neg c l
    have hg := Lib.indexByte_ge l c
    unfold Lib.indexByte
    cases hb : b == c with
    | true => simp [hb]
    | false =>
      simp only [Bool.false_eq_true, if_false, List.any_cons, hb, Bool.false_or, ← ih]
      split
      · rename_i q
        have : Lib.indexByte l c = -1 := by simpa using q
        rw [this]
      · rename_i q
        have : ¬ Lib.indexByte l c = -1 := by simpa using q
        rw [decide_eq_decide]; omega
/-- Where the first one stands. -/
theorem indexByte_at {c : UInt8} : ∀ {l : List UInt8}, ¬ Lib.indexByte l c < 0 → ∃ x y, l = x ++ c :: y ∧ (∀ b ∈ x, b ≠ c) ∧ Lib.indexByte l c = (x.length : Nat)
  | [], h => by simp [Lib.indexByte] at h
  | b :: l, h => by
    by_cases hb : b = c
    · subst hb
      exact ⟨[], l, rfl, fun _ h => (by cases h), by simp [Lib.indexByte]⟩
    · have hb' : (b == c) = false := by simpa using hb
      have hg := Lib.indexByte_ge l c
      have e : Lib.indexByte (b :: l) c = if Lib.indexByte l c == -1 then -1 else Lib.indexByte l c + 1 := by
        rw [Lib.indexByte, hb']; rfl
      rw [e] at h ⊢
      by_cases q : Lib.indexByte l c = -1
      · rw [q] at h; exact absurd (by decide) h
      · have q' : (Lib.indexByte l c == -1) = false := by simpa using q
        obtain ⟨x, y, e1, e2, e3⟩ := indexByte_at (l := l) (c := c) (by omega)
        rw [q']
        refine ⟨b :: x, y, by rw [e1]; rfl, fun z hz => ?_, ?_⟩
        · rcases List.mem_cons.1 hz with rfl | hz
          · exact hb
          · exact e2 z hz
        · rw [e3]; simp
theorem indexByte_absent {c : UInt8} {l : List UInt8} (h : Lib.indexByte l c < 0) : ∀ b ∈ l, b ≠ c := by
  have := indexByte_neg c l
  rw [decide_eq_true h] at this
  intro b hb e
  have h2 : (l.any fun b => b == c) = false := by simpa using this.symm
  rw [List.any_eq_false] at h2
  exact h2 b hb (by simpa using e)
/-- topic.Text. -/
theorem f49_spec {w0 : World} {K : Value → AH → Prop} {h : AH} {a : Option Addr} {c : Nat} {l : List UInt8} (T : TabOk w0) (hr : Rd w0 h a (u8s l)) (hc : l.length ≤ c) (hk : K (.bool (textB l)) h) : EvC Go.Proofs.Tryd.prog w0 49 #[.slice a l.length c] K h := by
  unfold textB at hk
  refine f49_go _ _ _ _ (f60_spec T hr hc ⟨_, rfl, brB_of (fun q => f61_spec hr ⟨_, rfl, ?_⟩) fun q => ?_⟩)
  · rw [indexByte_neg]
    rw [q] at hk; exact hk
  · rw [q] at hk; exact hk
theorem lit_rd {w0 : World} {h : AH} {bs : List (Nat × AB)} {b cap : Nat} {s : ByteArray} (w : Own w0 h ((b, .cells (intsOf s) cap) :: bs)) (_ : s.size ≤ cap) : Rd w0 h (some ⟨b, 0, none⟩) (u8s s.data.toList) := by
  have e : intsOf s = u8s s.data.toList := rfl
  rw [e] at w
  intro j x hj
  exact ⟨_, rfl, w.cell0 hj⟩
/-- sized. -/
theorem f36_spec {w0 : World} {K : Value → AH → Prop} {h : AH} {B : List (Nat × AB)} {s : ByteArray} {most : Nat} (T : TabOk w0) (w : Own w0 h B) (hk : ∀ h', Own w0 h' B → K (.bool (sizedB s most)) h') :
    EvC Go.Proofs.Tryd.prog w0 36 #[.string s, .int .i64 (most : Nat)] K h := by
  unfold sizedB at hk
  refine f36_go _ _ _ (brB_of (fun q1 => brB_of (fun q2 cap hcap b hb hn => ?_) fun q2 => ?_) fun q1 => ?_)
  · have w1 := w.new hb hn (o := .cells (intsOf s) cap)
    have rd := lit_rd w1 hcap
    rw [← slen s]
    refine f49_spec T rd (by rw [slen]; exact hcap) ⟨_, rfl, ?_⟩
    have a1 : decide (1 ≤ s.size) = true := by rw [decide_eq_true_eq] at q1 ⊢; omega
    have a2 : decide (s.size ≤ most) = true := by rw [decide_eq_true_eq] at q2 ⊢; omega
    rw [a1, a2] at hk
    exact hk _ w1.tail
  · have a2 : decide (s.size ≤ most) = false := by rw [decide_eq_false_iff_not] at q2 ⊢; omega
    rw [a2] at hk
    have := hk h w
    cases hz : decide (1 ≤ s.size) <;> rw [hz] at this <;> exact this
  · have a1 : decide (1 ≤ s.size) = false := by rw [decide_eq_false_iff_not] at q1 ⊢; omega
    rw [a1] at hk
    exact hk h w
end Go.G.YtnmngjffebbbnaaDoor
