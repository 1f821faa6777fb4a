/- bytes.Compare, level.May's parts. -/
import Derived.Test.YtpnhlgghpciofaaLD
import Derived.Lib.Bytealg
import Derived.Test.YtpnhlgghpciofaaProg
set_option maxRecDepth 100000
namespace Go.G.Ytpnhlgghpciofaa
open Go.RowKit
def f50_J : Nat → List Nat × Nat := jOf []



theorem f50_go {w0 : World} {K : Value → AH → Prop} (a0 : Option Go.Addr) (n0 : Nat) (c0 : Nat) (a1 : Option Go.Addr) (n1 : Nat) (c1 : Nat) (h : AH)
  (hv : (extR Go.Proofs.Try.prog w0 67 #[(Go.Value.slice a0 n0 c0), (Go.Value.slice a1 n1 c1)] h (fun x'0 => (∃ i'1 : Int, ((x'0 = (Go.Value.int .i64 i'1)) ∧ (K (Go.Value.int .i64 i'1) h)))))) :
  EvC Go.Proofs.Try.prog w0 50 ([(.slice a0 n0 c0), (.slice a1 n1 c1)]).toArray K h := EvC_intro (P := Go.Proofs.Try.prog) f50_J (Eq.mp (by kernel_rfl) hv)
theorem cmpL_bytes : ∀ (x y : List UInt8), cmpL x y = Lib.compareBytes x y
  | [], [] => by simp [cmpL, Lib.compareBytes, Op.bytesLess]
  | [], _ :: _ => by simp [cmpL, Lib.compareBytes, Op.bytesLess]
  | _ :: _, [] => by simp [cmpL, Lib.compareBytes, Op.bytesLess]
  | a :: x, b :: y => by
    have ih := cmpL_bytes x y
    unfold cmpL at ih ⊢
    unfold Lib.compareBytes
    rw [Op.bytesLess, Op.bytesLess, ← ih]
    by_cases h1 : a < b
    · simp [h1]
    · by_cases h2 : b < a
      · have : ¬ a = b := fun e => by subst e; exact UInt8.lt_irrefl a h2
        have h3 : (a == b) = false := by simpa using this
        simp [h1, h2, h3]
      · have : a = b := UInt8.le_antisymm (UInt8.not_lt.1 h2) (UInt8.not_lt.1 h1)
        subst this
        simp [h1]

theorem loadBytes_run {P : Program} {w : World} : ∀ (l : List UInt8) (ad : Addr) (acc : ByteArray), (∀ j x, (u8s l)[j]? = some x → w.cell? (ad.add j) = some x) →
    (Extern.Bytes.loadBytes ad l.length acc).run P w = .ok ⟨(acc.data.toList ++ l).toArray⟩ w
  | [], ad, acc, _ => by
    obtain ⟨d⟩ := acc
    simp [Extern.Bytes.loadBytes]
  | b :: l, ad, acc, h => by
    have h0 := h 0 (.int .u8 b.toNat) rfl
    have e0 : ad.add 0 = ad := by simp [Addr.add]
    rw [e0] at h0
    have ih := loadBytes_run (P := P) l (ad.add 1) (acc.push b) fun j x hj => by
      rw [Deep.add_add, Nat.add_comm 1 j]
      exact h (j + 1) x (by simpa [u8s] using hj)
    have hb : (b.toNat : Int).toNat.toUInt8 = b := by simp
    simp only [List.length_cons, Extern.Bytes.loadBytes, Sem.run_bind, run_load, h0, Result.andThen_ok, hb]
    rw [ih]
    obtain ⟨d⟩ := acc
    simp [ByteArray.push]

theorem bytesOf_run {P : Program} {w : World} {a : Option Addr} {n c : Nat} {l : List UInt8} (hn : n = l.length) (h : ∀ j x, (u8s l)[j]? = some x → ∃ ad, a = some ad ∧ w.cell? (ad.add j) = some x) :
    (Extern.Bytes.bytesOf (.slice a n c)).run P w = .ok ⟨l.toArray⟩ w := by
  subst hn
  cases a with
  | none =>
    cases l with
    | nil => rfl
    | cons b l =>
      obtain ⟨ad, e, _⟩ := h 0 (.int .u8 b.toNat) rfl
      cases e
  | some ad =>
    have := loadBytes_run (P := P) (w := w) l ad .empty fun j x hj => by
      obtain ⟨ad', e, hc⟩ := h j x hj
      injection e with e
      subst e; exact hc
    simpa [Extern.Bytes.bytesOf] using this

theorem f67_ext {w0 : World} {h : AH} {K : Value → Prop} {a b : Option Addr} {n m c d : Nat} {x y : List UInt8} (hx : Rd w0 h a (u8s x)) (hy : Rd w0 h b (u8s y)) (hn : n = x.length) (hm : m = y.length) (hk : K (.int .i64 (cmpL x y))) :
    extR Go.Proofs.Try.prog w0 67 #[.slice a n c, .slice b m d] h K := by
  refine ⟨_, fun w hw => ?_, hk⟩
  have he : Extern.find Go.Proofs.Try.f67 = some Extern.BytealgCompare.compare := by kernel_rfl
  rw [run_callFunc_extern Go.Proofs.Try.func67 (by kernel_rfl) (by kernel_rfl) (by kernel_rfl) he]
  have r1 := bytesOf_run (P := Go.Proofs.Try.prog) (w := w) (c := c) hn fun j v hj => by
    obtain ⟨ad, e, hc⟩ := hx j v hj
    exact ⟨ad, e, hw _ _ hc⟩
  have r2 := bytesOf_run (P := Go.Proofs.Try.prog) (w := w) (c := d) hm fun j v hj => by
    obtain ⟨ad, e, hc⟩ := hy j v hj
    exact ⟨ad, e, hw _ _ hc⟩
  have : (Extern.BytealgCompare.compare #[.slice a n c, .slice b m d]).run Go.Proofs.Try.prog w = .ok (.int .i64 (cmpL x y)) w := by
    change Sem.run Go.Proofs.Try.prog (do pure (goInt (Extern.BytealgCompare.cmp (← Extern.Bytes.bytesOf (.slice a n c)) (← Extern.Bytes.bytesOf (.slice b m d))))) w = _
    simp only [Sem.run_bind, r1, r2, Result.andThen_ok, Sem.run_pure]
    rw [Lib.cmp_eq, ← cmpL_bytes]
    rfl
  rw [this]; rfl

/-- bytes.Compare. -/
theorem f50_spec {w0 : World} {K : Value → AH → Prop} {h : AH} {a b : Option Addr} {n m c d : Nat} {x y : List UInt8} (hx : Rd w0 h a (u8s x)) (hy : Rd w0 h b (u8s y)) (hn : n = x.length) (hm : m = y.length)
    (hk : K (.int .i64 (cmpL x y)) h) : EvC Go.Proofs.Try.prog w0 50 #[.slice a n c, .slice b m d] K h :=
  f50_go _ _ _ _ _ _ _ (f67_ext hx hy hn hm ⟨_, rfl, hk⟩)
def f52_J : Nat → List Nat × Nat := jOf [(2, [0, 2, 4, 5, 6, 7, 8, 9, 10, 11, 12, 13, 14, 15, 16, 17, 18, 19, 20, 21, 22, 23, 24, 25, 26, 27, 28, 29, 30, 31, 32, 33, 34, 35, 36, 37, 38, 39, 40, 41, 42, 43, 44, 45, 46, 47, 48, 49, 50, 51, 52, 53, 54, 55, 56, 57, 58, 59, 60], 1), (4, [0, 2, 3, 4, 5, 6, 7, 8, 9, 10, 11, 12, 13, 14, 15, 16, 17, 18, 19, 20, 21, 22, 23, 24, 25, 26, 27, 28, 29, 30, 31, 33, 34, 35, 36, 37, 38, 39, 40, 41, 42, 43, 44, 45, 46, 47, 48, 49, 50, 51, 52, 53, 54, 55, 56, 57, 58, 59, 60], 1)]

def f52_2 (w0 : World) (K : Value → AH → Prop) (x3 : Bool) (xb0_0 : Int) (xb0_1 : Int) (xb0_2 : Int) (ab0_3 : Option Go.Addr) (nb0_3 : Nat) (cb0_3 : Nat) (ab0_4 : Option Go.Addr) (nb0_4 : Nat) (cb0_4 : Nat) (h : AH) : Prop :=
  ∀ j : Nat → Value, LPk Go.Proofs.Try.prog w0 (EvC Go.Proofs.Try.prog w0) f52_J 52 K 2 [.v (j 0), .bp 0 0, .v (j 2), .v (.bool x3), .v (j 4), .v (j 5), .v (j 6), .v (j 7), .v (j 8), .v (j 9), .v (j 10), .v (j 11), .v (j 12), .v (j 13), .v (j 14), .v (j 15), .v (j 16), .v (j 17), .v (j 18), .v (j 19), .v (j 20), .v (j 21), .v (j 22), .v (j 23), .v (j 24), .v (j 25), .v (j 26), .v (j 27), .v (j 28), .v (j 29), .v (j 30), .v (j 31), .v (j 32), .v (j 33), .v (j 34), .v (j 35), .v (j 36), .v (j 37), .v (j 38), .v (j 39), .v (j 40), .v (j 41), .v (j 42), .v (j 43), .v (j 44), .v (j 45), .v (j 46), .v (j 47), .v (j 48), .v (j 49), .v (j 50), .v (j 51), .v (j 52), .v (j 53), .v (j 54), .v (j 55), .v (j 56), .v (j 57), .v (j 58), .v (j 59), .v (j 60)] [some [(.int .i64 xb0_0), (.int .i64 xb0_1), (.int .i64 xb0_2), (.slice ab0_3 nb0_3 cb0_3), (.slice ab0_4 nb0_4 cb0_4)]] h

def f52_4 (w0 : World) (K : Value → AH → Prop) (x32 : Bool) (xb0_0 : Int) (xb0_1 : Int) (xb0_2 : Int) (ab0_3 : Option Go.Addr) (nb0_3 : Nat) (cb0_3 : Nat) (ab0_4 : Option Go.Addr) (nb0_4 : Nat) (cb0_4 : Nat) (h : AH) : Prop :=
  ∀ j : Nat → Value, LPk Go.Proofs.Try.prog w0 (EvC Go.Proofs.Try.prog w0) f52_J 52 K 4 [.v (j 0), .bp 0 0, .v (j 2), .v (j 3), .v (j 4), .v (j 5), .v (j 6), .v (j 7), .v (j 8), .v (j 9), .v (j 10), .v (j 11), .v (j 12), .v (j 13), .v (j 14), .v (j 15), .v (j 16), .v (j 17), .v (j 18), .v (j 19), .v (j 20), .v (j 21), .v (j 22), .v (j 23), .v (j 24), .v (j 25), .v (j 26), .v (j 27), .v (j 28), .v (j 29), .v (j 30), .v (j 31), .v (.bool x32), .v (j 33), .v (j 34), .v (j 35), .v (j 36), .v (j 37), .v (j 38), .v (j 39), .v (j 40), .v (j 41), .v (j 42), .v (j 43), .v (j 44), .v (j 45), .v (j 46), .v (j 47), .v (j 48), .v (j 49), .v (j 50), .v (j 51), .v (j 52), .v (j 53), .v (j 54), .v (j 55), .v (j 56), .v (j 57), .v (j 58), .v (j 59), .v (j 60)] [some [(.int .i64 xb0_0), (.int .i64 xb0_1), (.int .i64 xb0_2), (.slice ab0_3 nb0_3 cb0_3), (.slice ab0_4 nb0_4 cb0_4)]] h

theorem f52_2_in {w0 : World} {K : Value → AH → Prop} (x3 : Bool) (xb0_0 : Int) (xb0_1 : Int) (xb0_2 : Int) (ab0_3 : Option Go.Addr) (nb0_3 : Nat) (cb0_3 : Nat) (ab0_4 : Option Go.Addr) (nb0_4 : Nat) (cb0_4 : Nat) (h : AH)
  (hv : (brB x3 (K (Go.Value.bool false) h) (brB (decide ((((nb0_3 : Nat) : Int) < (1 : Int)))) (f52_4 w0 K true xb0_0 xb0_1 xb0_2 ab0_3 nb0_3 cb0_3 ab0_4 nb0_4 cb0_4 h) (brB (decide (((512 : Int) < ((nb0_3 : Nat) : Int)))) (f52_4 w0 K true xb0_0 xb0_1 xb0_2 ab0_3 nb0_3 cb0_3 ab0_4 nb0_4 cb0_4 h) (brB (decide ((((nb0_4 : Nat) : Int) < (1 : Int)))) (f52_4 w0 K true xb0_0 xb0_1 xb0_2 ab0_3 nb0_3 cb0_3 ab0_4 nb0_4 cb0_4 h) (f52_4 w0 K (decide (((512 : Int) < ((nb0_4 : Nat) : Int)))) xb0_0 xb0_1 xb0_2 ab0_3 nb0_3 cb0_3 ab0_4 nb0_4 cb0_4 h)))))) :
  f52_2 w0 K x3 xb0_0 xb0_1 xb0_2 ab0_3 nb0_3 cb0_3 ab0_4 nb0_4 cb0_4 h := fun j => LP_intro (P := Go.Proofs.Try.prog) (Eq.mp (by kernel_rfl) hv)

theorem f52_4_in {w0 : World} {K : Value → AH → Prop} (x32 : Bool) (xb0_0 : Int) (xb0_1 : Int) (xb0_2 : Int) (ab0_3 : Option Go.Addr) (nb0_3 : Nat) (cb0_3 : Nat) (ab0_4 : Option Go.Addr) (nb0_4 : Nat) (cb0_4 : Nat) (h : AH)
  (hv : (brB x32 (K (Go.Value.bool false) h) (EvC Go.Proofs.Try.prog w0 50 #[(Go.Value.slice ab0_3 nb0_3 cb0_3), (Go.Value.slice ab0_4 nb0_4 cb0_4)] (fun x'0 h'1 => (∃ i'2 : Int, ((x'0 = (Go.Value.int .i64 i'2)) ∧ (K (Go.Value.bool (decide ((i'2 ≤ (0 : Int))))) h'1)))) h))) :
  f52_4 w0 K x32 xb0_0 xb0_1 xb0_2 ab0_3 nb0_3 cb0_3 ab0_4 nb0_4 cb0_4 h := fun j => LP_intro (P := Go.Proofs.Try.prog) (Eq.mp (by kernel_rfl) hv)

theorem f52_go {w0 : World} {K : Value → AH → Prop} (x0_0 : Int) (x0_1 : Int) (x0_2 : Int) (a0_3 : Option Go.Addr) (n0_3 : Nat) (c0_3 : Nat) (a0_4 : Option Go.Addr) (n0_4 : Nat) (c0_4 : Nat) (h : AH)
  (hv : (brB (decide ((x0_0 < (1 : Int)))) (f52_2 w0 K true x0_0 x0_1 x0_2 a0_3 n0_3 c0_3 a0_4 n0_4 c0_4 h) (brB (decide (((1099511627776 : Int) < x0_0))) (f52_2 w0 K true x0_0 x0_1 x0_2 a0_3 n0_3 c0_3 a0_4 n0_4 c0_4 h) (brB (decide ((x0_1 < (0 : Int)))) (f52_2 w0 K true x0_0 x0_1 x0_2 a0_3 n0_3 c0_3 a0_4 n0_4 c0_4 h) (brB (decide (((4 : Int) ≤ x0_1))) (f52_2 w0 K true x0_0 x0_1 x0_2 a0_3 n0_3 c0_3 a0_4 n0_4 c0_4 h) (brB (decide ((x0_2 < (1 : Int)))) (f52_2 w0 K true x0_0 x0_1 x0_2 a0_3 n0_3 c0_3 a0_4 n0_4 c0_4 h) (f52_2 w0 K (decide (((4194304 : Int) < x0_2))) x0_0 x0_1 x0_2 a0_3 n0_3 c0_3 a0_4 n0_4 c0_4 h))))))) :
  EvC Go.Proofs.Try.prog w0 52 ([(.agg #[(.int .i64 x0_0), (.int .i64 x0_1), (.int .i64 x0_2), (.slice a0_3 n0_3 c0_3), (.slice a0_4 n0_4 c0_4)])]).toArray K h := EvC_intro (P := Go.Proofs.Try.prog) f52_J (Eq.mp (by kernel_rfl) hv)
def f53_J : Nat → List Nat × Nat := jOf []



theorem f53_go {w0 : World} {K : Value → AH → Prop} (x0_0 : Int) (x0_1 : Int) (x0_2 : Int) (a0_3 : Option Go.Addr) (n0_3 : Nat) (c0_3 : Nat) (a0_4 : Option Go.Addr) (n0_4 : Nat) (c0_4 : Nat) (x1_0 : Int) (x1_1 : Int) (x1_2 : Int) (a1_3 : Option Go.Addr) (n1_3 : Nat) (c1_3 : Nat) (a1_4 : Option Go.Addr) (n1_4 : Nat) (c1_4 : Nat) (h : AH)
  (hv : (brB (x0_1 != x1_1) (EvC Go.Proofs.Try.prog w0 68 #[(Go.Value.int .i64 x0_1), (Go.Value.int .i64 x1_1)] (fun x'0 h'1 => (∃ i'2 : Int, ((x'0 = (Go.Value.int .i64 i'2)) ∧ (K (Go.Value.int .i64 i'2) h'1)))) h) (brB (x0_1 == (0 : Int)) (EvC Go.Proofs.Try.prog w0 69 #[(Go.Value.int .i64 x1_0), (Go.Value.int .i64 x0_0)] (fun x'3 h'4 => (∃ i'5 : Int, ((x'3 = (Go.Value.int .i64 i'5)) ∧ (K (Go.Value.int .i64 i'5) h'4)))) h) (EvC Go.Proofs.Try.prog w0 50 #[(Go.Value.slice a0_3 n0_3 c0_3), (Go.Value.slice a1_3 n1_3 c1_3)] (fun x'6 h'7 => (∃ i'8 : Int, ((x'6 = (Go.Value.int .i64 i'8)) ∧ (K (Go.Value.int .i64 i'8) h'7)))) h)))) :
  EvC Go.Proofs.Try.prog w0 53 ([(.agg #[(.int .i64 x0_0), (.int .i64 x0_1), (.int .i64 x0_2), (.slice a0_3 n0_3 c0_3), (.slice a0_4 n0_4 c0_4)]), (.agg #[(.int .i64 x1_0), (.int .i64 x1_1), (.int .i64 x1_2), (.slice a1_3 n1_3 c1_3), (.slice a1_4 n1_4 c1_4)])]).toArray K h := EvC_intro (P := Go.Proofs.Try.prog) f53_J (Eq.mp (by kernel_rfl) hv)
def f68_J : Nat → List Nat × Nat := jOf []



theorem f68_go {w0 : World} {K : Value → AH → Prop} (x0 : Int) (x1 : Int) (h : AH)
  (hv : (EvC Go.Proofs.Try.prog w0 78 #[(Go.Value.int .i64 x0)] (fun x'0 h'1 => (∃ t'2 : Bool, ((x'0 = (Go.Value.bool t'2)) ∧ (EvC Go.Proofs.Try.prog w0 78 #[(Go.Value.int .i64 x1)] (fun x'3 h'4 => (∃ t'5 : Bool, ((x'3 = (Go.Value.bool t'5)) ∧ (brB t'2 (brB t'5 (K (Go.Value.int .i64 (0 : Int)) h'4) (K (Go.Value.int .i64 (-1 : Int)) h'4)) (brB t'5 (K (Go.Value.int .i64 (1 : Int)) h'4) (brB (decide ((x0 < x1))) (K (Go.Value.int .i64 (-1 : Int)) h'4) (brB (decide ((x1 < x0))) (K (Go.Value.int .i64 (1 : Int)) h'4) (K (Go.Value.int .i64 (0 : Int)) h'4)))))))) h'1)))) h)) :
  EvC Go.Proofs.Try.prog w0 68 ([(.int .i64 x0), (.int .i64 x1)]).toArray K h := EvC_intro (P := Go.Proofs.Try.prog) f68_J (Eq.mp (by kernel_rfl) hv)
def f69_J : Nat → List Nat × Nat := jOf []



theorem f69_go {w0 : World} {K : Value → AH → Prop} (x0 : Int) (x1 : Int) (h : AH)
  (hv : (EvC Go.Proofs.Try.prog w0 79 #[(Go.Value.int .i64 x0)] (fun x'0 h'1 => (∃ t'2 : Bool, ((x'0 = (Go.Value.bool t'2)) ∧ (EvC Go.Proofs.Try.prog w0 79 #[(Go.Value.int .i64 x1)] (fun x'3 h'4 => (∃ t'5 : Bool, ((x'3 = (Go.Value.bool t'5)) ∧ (brB t'2 (brB t'5 (K (Go.Value.int .i64 (0 : Int)) h'4) (K (Go.Value.int .i64 (-1 : Int)) h'4)) (brB t'5 (K (Go.Value.int .i64 (1 : Int)) h'4) (brB (decide ((x0 < x1))) (K (Go.Value.int .i64 (-1 : Int)) h'4) (brB (decide ((x1 < x0))) (K (Go.Value.int .i64 (1 : Int)) h'4) (K (Go.Value.int .i64 (0 : Int)) h'4)))))))) h'1)))) h)) :
  EvC Go.Proofs.Try.prog w0 69 ([(.int .i64 x0), (.int .i64 x1)]).toArray K h := EvC_intro (P := Go.Proofs.Try.prog) f69_J (Eq.mp (by kernel_rfl) hv)
def f78_J : Nat → List Nat × Nat := jOf []



theorem f78_go {w0 : World} {K : Value → AH → Prop} (x0 : Int) (h : AH)
  (hv : (K (Go.Value.bool (x0 != x0)) h)) :
  EvC Go.Proofs.Try.prog w0 78 ([(.int .i64 x0)]).toArray K h := EvC_intro (P := Go.Proofs.Try.prog) f78_J (Eq.mp (by kernel_rfl) hv)
def f79_J : Nat → List Nat × Nat := jOf []



theorem f79_go {w0 : World} {K : Value → AH → Prop} (x0 : Int) (h : AH)
  (hv : (K (Go.Value.bool (x0 != x0)) h)) :
  EvC Go.Proofs.Try.prog w0 79 ([(.int .i64 x0)]).toArray K h := EvC_intro (P := Go.Proofs.Try.prog) f79_J (Eq.mp (by kernel_rfl) hv)
theorem f78_spec {w0 : World} {K : Value → AH → Prop} {h : AH} {x : Int} (hk : K (.bool false) h) : EvC Go.Proofs.Try.prog w0 78 #[.int .i64 x] K h := f78_go _ _ (by simpa using hk)
theorem f79_spec {w0 : World} {K : Value → AH → Prop} {h : AH} {x : Int} (hk : K (.bool false) h) : EvC Go.Proofs.Try.prog w0 79 #[.int .i64 x] K h := f79_go _ _ (by simpa using hk)
def cmpI (x y : Int) : Int := if x < y then -1 else if y < x then 1 else 0
theorem cmpI_of {K : Value → AH → Prop} {h : AH} {x y : Int} (hk : K (.int .i64 (cmpI x y)) h) : brB (decide (x < y)) (K (.int .i64 (-1)) h) (brB (decide (y < x)) (K (.int .i64 1) h) (K (.int .i64 0) h)) := by
  unfold cmpI at hk
  refine brB_of (fun q => ?_) fun q => brB_of (fun q2 => ?_) fun q2 => ?_
  all_goals simp only [decide_eq_true_eq, decide_eq_false_iff_not] at *
  · rw [if_pos q] at hk; exact hk
  · rw [if_neg q, if_pos q2] at hk; exact hk
  · rw [if_neg q, if_neg q2] at hk; exact hk
theorem f68_spec {w0 : World} {K : Value → AH → Prop} {h : AH} {x y : Int} (hk : K (.int .i64 (cmpI x y)) h) : EvC Go.Proofs.Try.prog w0 68 #[.int .i64 x, .int .i64 y] K h :=
  f68_go _ _ _ (f78_spec ⟨_, rfl, f78_spec ⟨_, rfl, brB_of (fun q => by cases q) fun _ => brB_of (fun q => by cases q) fun _ => cmpI_of hk⟩⟩)
theorem f69_spec {w0 : World} {K : Value → AH → Prop} {h : AH} {x y : Int} (hk : K (.int .i64 (cmpI x y)) h) : EvC Go.Proofs.Try.prog w0 69 #[.int .i64 x, .int .i64 y] K h :=
  f69_go _ _ _ (f79_spec ⟨_, rfl, f79_spec ⟨_, rfl, brB_of (fun q => by cases q) fun _ => brB_of (fun q => by cases q) fun _ => cmpI_of hk⟩⟩)

def ordR (a b : Tab) : Int := if a.lev ≠ b.lev then cmpI a.lev b.lev else if a.lev = 0 then cmpI b.num a.num else cmpL a.lb b.lb
theorem cmpI_neg (x y : Int) : cmpI x y < 0 ↔ x < y := by unfold cmpI; split <;> (try split) <;> omega
theorem aheadR_ord (a b : Tab) : aheadR a b = decide (ordR a b < 0) := by
  unfold aheadR ordR
  split
  · exact decide_eq_decide.2 (cmpI_neg _ _).symm
  · split
    · exact decide_eq_decide.2 (cmpI_neg _ _).symm
    · rfl
theorem cmpL_flip (x y : List UInt8) : cmpL x y = - cmpL y x := by
  rw [cmpL_bytes, cmpL_bytes]
  have : ∀ x y, Lib.compareBytes x y = - Lib.compareBytes y x := by
    intro x
    induction x with
    | nil => intro y; cases y <;> simp [Lib.compareBytes]
    | cons a x ih =>
      intro y
      cases y with
      | nil => simp [Lib.compareBytes]
      | cons b y =>
        simp only [Lib.compareBytes]
        by_cases h1 : a < b
        · have : ¬ b < a := fun h2 => UInt8.lt_irrefl a (UInt8.lt_trans h1 h2)
          simp [h1, this]
        · by_cases h2 : b < a
          · simp [h1, h2]
          · simp [h1, h2, ih]
  exact this x y

/-- level.order. -/
theorem f53_spec {w0 : World} {K : Value → AH → Prop} {h : AH} {t u : Tab} (o : t.Ok w0 h) (p : u.Ok w0 h) (hk : K (.int .i64 (ordR t u)) h) : EvC Go.Proofs.Try.prog w0 53 #[t.agg, u.agg] K h := by
  unfold ordR at hk
  refine f53_go _ _ _ _ _ _ _ _ _ _ _ _ _ _ _ _ _ _ _ (brB_of (fun q => f68_spec ⟨_, rfl, ?_⟩) fun q => brB_of (fun q2 => f69_spec ⟨_, rfl, ?_⟩) fun q2 => f50_spec o.lb.rd p.lb.rd o.ln p.ln ⟨_, rfl, ?_⟩)
  · rw [if_pos (by simpa using q)] at hk; exact hk
  · rw [if_neg (by simpa using q), if_pos (by simpa using q2)] at hk; exact hk
  · rw [if_neg (by simpa using q), if_neg (by simpa using q2)] at hk; exact hk

/-- edit.MayTable. -/
theorem f52_spec {w0 : World} {K : Value → AH → Prop} {h : AH} {t : Tab} (o : t.Ok w0 h) (hk : K (.bool (mayT t)) h) : EvC Go.Proofs.Try.prog w0 52 #[t.agg] K h := by
  have hln := o.ln
  have hmn := o.mn
  have no : (¬ (1 ≤ t.num ∧ t.num ≤ 1099511627776 ∧ 0 ≤ t.lev ∧ t.lev < 4 ∧ 1 ≤ t.siz ∧ t.siz ≤ 4194304 ∧ 1 ≤ t.ln ∧ t.ln ≤ 512 ∧ 1 ≤ t.mn ∧ t.mn ≤ 512)) → K (.bool false) h := fun q => by
    have : mayT t = false := by
      rw [Bool.eq_false_iff]
      simp only [mayT, ne_eq, Bool.and_eq_true, decide_eq_true_eq]
      omega
    rw [this] at hk; exact hk
  have s4 : ∀ b : Bool, (b = true → ¬ (1 ≤ t.ln ∧ t.ln ≤ 512 ∧ 1 ≤ t.mn ∧ t.mn ≤ 512)) → (b = false → 1 ≤ t.ln ∧ t.ln ≤ 512 ∧ 1 ≤ t.mn ∧ t.mn ≤ 512) → (1 ≤ t.num ∧ t.num ≤ 1099511627776 ∧ 0 ≤ t.lev ∧ t.lev < 4 ∧ 1 ≤ t.siz ∧ t.siz ≤ 4194304) →
      f52_4 w0 K b t.num t.lev t.siz t.lp t.ln t.lc t.mp t.mn t.mc h := fun b h1 h0 g => by
    refine f52_4_in _ _ _ _ _ _ _ _ _ _ _ (brB_of (fun e => no fun q => h1 e (by omega)) fun e => f50_spec o.lb.rd o.mb.rd hln hmn ⟨_, rfl, ?_⟩)
    have g2 := h0 e
    have : mayT t = decide (cmpL t.lb t.mb ≤ 0) := by
      simp only [mayT]
      rw [decide_eq_true (p := 1 ≤ t.num) (by omega), decide_eq_true (p := t.num ≤ 1099511627776) (by omega), decide_eq_true (p := 0 ≤ t.lev) (by omega), decide_eq_true (p := t.lev < 4) (by omega), decide_eq_true (p := 1 ≤ t.siz) (by omega),
        decide_eq_true (p := t.siz ≤ 4194304) (by omega), decide_eq_true (p := 1 ≤ t.lb.length) (by omega), decide_eq_true (p := t.lb.length ≤ 512) (by omega), decide_eq_true (p := 1 ≤ t.mb.length) (by omega), decide_eq_true (p := t.mb.length ≤ 512) (by omega)]
      simp
    rw [this] at hk
    exact hk
  have s2 : ∀ b : Bool, (b = true → ¬ (1 ≤ t.num ∧ t.num ≤ 1099511627776 ∧ 0 ≤ t.lev ∧ t.lev < 4 ∧ 1 ≤ t.siz ∧ t.siz ≤ 4194304)) → (b = false → (1 ≤ t.num ∧ t.num ≤ 1099511627776 ∧ 0 ≤ t.lev ∧ t.lev < 4 ∧ 1 ≤ t.siz ∧ t.siz ≤ 4194304)) →
      f52_2 w0 K b t.num t.lev t.siz t.lp t.ln t.lc t.mp t.mn t.mc h := fun b h1 h0 => by
    refine f52_2_in _ _ _ _ _ _ _ _ _ _ _ (brB_of (fun e => no fun q => h1 e (by omega)) fun e => ?_)
    have g := h0 e
    refine brB_of (fun q => s4 _ (fun _ => ?_) (fun e => by cases e) g) fun q => brB_of (fun q2 => s4 _ (fun _ => ?_) (fun e => by cases e) g) fun q2 => brB_of (fun q3 => s4 _ (fun _ => ?_) (fun e => by cases e) g) fun q3 => s4 _ (fun q4 => ?_) (fun q4 => ?_) g
    all_goals simp only [decide_eq_true_eq, decide_eq_false_iff_not] at *
    all_goals omega
  refine f52_go _ _ _ _ _ _ _ _ _ _ ?_
  refine brB_of (fun q => s2 _ (fun _ => ?_) (fun e => by cases e)) fun q => brB_of (fun q2 => s2 _ (fun _ => ?_) (fun e => by cases e)) fun q2 => brB_of (fun q3 => s2 _ (fun _ => ?_) (fun e => by cases e)) fun q3 =>
    brB_of (fun q4 => s2 _ (fun _ => ?_) (fun e => by cases e)) fun q4 => brB_of (fun q5 => s2 _ (fun _ => ?_) (fun e => by cases e)) fun q5 => s2 _ (fun q6 => ?_) (fun q6 => ?_)
  all_goals simp only [decide_eq_true_eq, decide_eq_false_iff_not] at *
  all_goals omega

/-- A set of numbers, as a map holds it. -/
def setM (l : List Int) : List (Value × Value) := l.map fun n => (.int .i64 n, .bool true)
theorem eqK_int (x y : Int) : eqK (.int .i64 x) (.int .i64 y) = (y == x) := by
  rw [Bool.eq_iff_iff]
  simp [eqK]
  exact eq_comm
theorem getM_set {x : Int} : ∀ {l : List Int}, Option.getD (getM (.int .i64 x) (setM l)) (.bool false) = .bool (l.any fun y => y == x)
  | [] => rfl
  | y :: l => by
    have ih := getM_set (x := x) (l := l)
    simp only [setM, List.map_cons, getM, eqK_int, List.any_cons] at ih ⊢
    cases hq : (y == x)
    · simpa using ih
    · rfl
theorem putM_set {x : Int} : ∀ {l : List Int}, (l.any fun y => y == x) = false → putM (.int .i64 x) (.bool true) (setM l) = setM (l ++ [x])
  | [], _ => rfl
  | y :: l, h => by
    simp only [List.any_cons, Bool.or_eq_false_iff] at h
    have ih := putM_set (x := x) (l := l) h.2
    simp only [setM, List.map_cons, putM, eqK_int, List.cons_append] at ih ⊢
    rw [h.1]
    simpa using ih
theorem keys_set {l : List Int} : keysOk Go.Proofs.Try.prog 77 (setM l) := fun e he => by
  simp only [setM, List.mem_map] at he
  obtain ⟨n, _, rfl⟩ := he
  kernel_rfl
theorem plain_int {n : Int} : plainKey Go.Proofs.Try.prog 77 (.int .i64 n) = true := by kernel_rfl
theorem mapAt_set {w0 : World} {h : AH} {b : Nat} {l : List Int} {K : List (Value × Value) → Prop} (hb : w0.heap.size ≤ b) (hm : h b = some (.map (setM l))) (hk : K (setM l)) : mapAt Go.Proofs.Try.prog w0 h (some b) 77 K := by
  have ht : isMapT Go.Proofs.Try.prog 77 = true := by kernel_rfl
  unfold mapAt
  rw [ht]
  exact ⟨setM l, (fun e => by cases e), (fun r hr => by injection hr with hr; subst hr; exact ⟨hb, hm⟩), keys_set, hk⟩
end Go.G.Ytpnhlgghpciofaa
