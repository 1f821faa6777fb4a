/- What the document's answers compute of tables and edits: small functions. -/
import Derived.Test.YtpnhlgghpciofaaGTab
import Derived.Test.YtpnhlgghpciofaaProg
set_option maxRecDepth 100000
namespace Go.G.Ytpnhlgghpciofaa
open Go.RowKit
/-! ### what the document's answers say of tables and versions -/
def mayT (t : Tab) : Bool := decide (1 ≤ t.num) && decide (t.num ≤ 1099511627776) && decide (0 ≤ t.lev) && decide (t.lev < 4) && decide (1 ≤ t.siz) && decide (t.siz ≤ 4194304) &&
  decide (1 ≤ t.lb.length) && decide (t.lb.length ≤ 512) && decide (1 ≤ t.mb.length) && decide (t.mb.length ≤ 512) && decide (cmpL t.lb t.mb ≤ 0)
def aheadR (a b : Tab) : Bool := if a.lev ≠ b.lev then decide (a.lev < b.lev) else if a.lev = 0 then decide (b.num < a.num) else decide (cmpL a.lb b.lb < 0)
def lightL : Nat → List Tab → Bool
  | _, [] => true
  | i, t :: r => !(decide (210 ≤ i)) && !(decide (600 < t.lb.length)) && !(decide (600 < t.mb.length)) && lightL (i + 1) r
def in62 (x : Int) : Bool := decide (0 ≤ x) && decide (x ≤ 4611686018427387904)
def putR (t : Tab) : List Tab → List Tab
  | [] => [t]
  | u :: r => if aheadR u t then u :: putR t r else t :: u :: r
def uniqT : List Tab → List Tab → Bool
  | _, [] => true
  | pre, t :: r => mayT t && !(pre.any fun u => u.num == t.num) && uniqT (pre ++ [t]) r
def uniqN : List Int → List Int → Bool
  | _, [] => true
  | pre, n :: r => decide (1 ≤ n) && decide (n ≤ 1099511627776) && !(pre.any fun m => m == n) && uniqN (pre ++ [n]) r
def mayE (lo nx sq : Int) (add : List Tab) (rem : List Int) : Bool :=
  in62 lo && in62 nx && in62 sq && decide (add.length ≤ 200) && decide (rem.length ≤ 200) && uniqT [] add && uniqN [] rem
def nextTo : Option Tab → Tab → Bool
  | none, _ => true
  | some p, t => aheadR p t && !(p.lev == t.lev && decide (0 < t.lev) && decide (0 ≤ cmpL p.mb t.lb))
def mayL (nx : Int) : List Tab → List Tab → Bool
  | _, [] => true
  | pre, t :: r => mayT t && decide (t.num < nx) && !(pre.any fun u => u.num == t.num) && nextTo pre.getLast? t && mayL nx (pre ++ [t]) r
def mayV (lo nx sq : Int) (ts : List Tab) : Bool := in62 lo && in62 nx && in62 sq && decide (ts.length ≤ 200) && mayL nx [] ts

structure Ver where
  lo : Int
  nx : Int
  sq : Int
  ts : List Tab

/-- An edit of a version. -/
def applyR (v : Ver) (lo nx sq : Int) (add : List Tab) (rem : List Int) : Ver × Int :=
  if !(mayV v.lo v.nx v.sq v.ts && mayE lo nx sq add rem) then (⟨0, 0, 0, []⟩, 1)
  else if rem.any fun n => !(v.ts.any fun t => t.num == n) then (⟨0, 0, 0, []⟩, 7)
  else if add.any fun t => (v.ts.any fun u => u.num == t.num) && !(rem.any fun m => m == t.num) then (⟨0, 0, 0, []⟩, 6)
  else if lo < v.lo ∨ nx < v.nx ∨ sq < v.sq then (⟨0, 0, 0, []⟩, 11)
  else if 200 < (v.ts.length : Int) - rem.length + add.length then (⟨0, 0, 0, []⟩, 13)
  else
    let out := add.foldl (fun l t => putR t l) (v.ts.filter fun t => !(rem.any fun m => m == t.num))
    if mayV lo nx sq out then (⟨lo, nx, sq, out⟩, 0) else (⟨0, 0, 0, []⟩, 1)
def f45_J : Nat → List Nat × Nat := jOf []



theorem f45_go {w0 : World} {K : Value → AH → Prop} (a0 : Option Go.Addr) (n0 : Nat) (c0 : Nat) (a1 : Option Go.Addr) (n1 : Nat) (c1 : Nat) (h : AH)
  (hv : ((rowsOf w0 h 1 a0 n0 (fun ys'0 => (∃ s'1 : ByteArray, ((ys'0 = (Go.G.intsOf s'1)) ∧ (rowsOf w0 h 1 a1 n1 (fun ys'2 => (∃ s'3 : ByteArray, ((ys'2 = (Go.G.intsOf s'3)) ∧ (brB (Go.Op.bytesLess (ByteArray.toList s'1) (ByteArray.toList s'3)) (K (Go.Value.int .i64 (-1 : Int)) h) (brB (Go.Op.bytesLess (ByteArray.toList s'3) (ByteArray.toList s'1)) (K (Go.Value.int .i64 (1 : Int)) h) (K (Go.Value.int .i64 (0 : Int)) h))))))))))) ∧ (rowsOf w0 h 1 a1 n1 (fun ys'4 => (∃ s'5 : ByteArray, ((ys'4 = (Go.G.intsOf s'5)) ∧ (rowsOf w0 h 1 a0 n0 (fun ys'6 => (∃ s'7 : ByteArray, ((ys'6 = (Go.G.intsOf s'7)) ∧ (brB (Go.Op.bytesLess (ByteArray.toList s'7) (ByteArray.toList s'5)) (K (Go.Value.int .i64 (-1 : Int)) h) (brB (Go.Op.bytesLess (ByteArray.toList s'5) (ByteArray.toList s'7)) (K (Go.Value.int .i64 (1 : Int)) h) (K (Go.Value.int .i64 (0 : Int)) h))))))))))))) :
  EvC Go.Proofs.Try.prog w0 45 ([(.slice a0 n0 c0), (.slice a1 n1 c1)]).toArray K h := EvC_intro (P := Go.Proofs.Try.prog) f45_J (Eq.mp (by kernel_rfl) hv)
/-- ref Compare. -/
theorem f45_spec {w0 : World} {K : Value → AH → Prop} {h : AH} {a b : Option Addr} {n m c d : Nat} {x y : List UInt8} (hx : Rd w0 h a (u8s x)) (hy : Rd w0 h b (u8s y)) (hn : n = x.length) (hm : m = y.length)
    (hk : K (.int .i64 (cmpL x y)) h) : EvC Go.Proofs.Try.prog w0 45 #[.slice a n c, .slice b m d] K h := by
  have key : brB (Op.bytesLess (ByteArray.toList ⟨x.toArray⟩) (ByteArray.toList ⟨y.toArray⟩)) (K (.int .i64 (-1)) h) (brB (Op.bytesLess (ByteArray.toList ⟨y.toArray⟩) (ByteArray.toList ⟨x.toArray⟩)) (K (.int .i64 1) h) (K (.int .i64 0) h)) := by
    rw [bytesOf, bytesOf]
    unfold cmpL at hk
    refine brB_of (fun t => ?_) fun t => brB_of (fun t2 => ?_) fun t2 => ?_
    · simpa [t] using hk
    · simpa [t, t2] using hk
    · simpa [t, t2] using hk
  exact f45_go _ _ _ _ _ _ _ ⟨rows8 hx hn (rows8 hy hm key), rows8 hy hm (rows8 hx hn key)⟩

def f54_J : Nat → List Nat × Nat := jOf []



theorem f54_go {w0 : World} {K : Value → AH → Prop} (x0_0 : Int) (x0_1 : Int) (x0_2 : Int) (a0_3 : Option Go.Addr) (n0_3 : Nat) (c0_3 : Nat) (a0_4 : Option Go.Addr) (n0_4 : Nat) (c0_4 : Nat) (h : AH)
  (hv : (brB (decide (((1 : Int) ≤ x0_0))) (brB (decide ((x0_0 ≤ (1099511627776 : Int)))) (brB (decide (((0 : Int) ≤ x0_1))) (brB (decide ((x0_1 < (4 : Int)))) (brB (decide (((1 : Int) ≤ x0_2))) (brB (decide ((x0_2 ≤ (4194304 : Int)))) (brB (decide (((1 : Int) ≤ ((n0_3 : Nat) : Int)))) (brB (decide ((((n0_3 : Nat) : Int) ≤ (512 : Int)))) (brB (decide (((1 : Int) ≤ ((n0_4 : Nat) : Int)))) (brB (decide ((((n0_4 : Nat) : Int) ≤ (512 : Int)))) (EvC Go.Proofs.Try.prog w0 45 #[(Go.Value.slice a0_3 n0_3 c0_3), (Go.Value.slice a0_4 n0_4 c0_4)] (fun x'0 h'1 => (∃ i'2 : Int, ((x'0 = (Go.Value.int .i64 i'2)) ∧ (K (Go.Value.bool (decide ((i'2 ≤ (0 : Int))))) h'1)))) h) (K (Go.Value.bool false) h)) (K (Go.Value.bool false) h)) (K (Go.Value.bool false) h)) (K (Go.Value.bool false) h)) (K (Go.Value.bool false) h)) (K (Go.Value.bool false) h)) (K (Go.Value.bool false) h)) (K (Go.Value.bool false) h)) (K (Go.Value.bool false) h)) (K (Go.Value.bool false) h))) :
  EvC Go.Proofs.Try.prog w0 54 ([(.agg #[(.int .i64 x0_0), (.int .i64 x0_1), (.int .i64 x0_2), (.slice a0_3 n0_3 c0_3), (.slice a0_4 n0_4 c0_4)])]).toArray K h := EvC_intro (P := Go.Proofs.Try.prog) f54_J (Eq.mp (by kernel_rfl) hv)
def f55_J : Nat → List Nat × Nat := jOf []



theorem f55_go {w0 : World} {K : Value → AH → Prop} (x0_0 : Int) (x0_1 : Int) (x0_2 : Int) (a0_3 : Option Go.Addr) (n0_3 : Nat) (c0_3 : Nat) (a0_4 : Option Go.Addr) (n0_4 : Nat) (c0_4 : Nat) (x1_0 : Int) (x1_1 : Int) (x1_2 : Int) (a1_3 : Option Go.Addr) (n1_3 : Nat) (c1_3 : Nat) (a1_4 : Option Go.Addr) (n1_4 : Nat) (c1_4 : Nat) (h : AH)
  (hv : (brB (x0_1 != x1_1) (K (Go.Value.bool (decide ((x0_1 < x1_1)))) h) (brB (x0_1 == (0 : Int)) (K (Go.Value.bool (decide ((x1_0 < x0_0)))) h) (EvC Go.Proofs.Try.prog w0 45 #[(Go.Value.slice a0_3 n0_3 c0_3), (Go.Value.slice a1_3 n1_3 c1_3)] (fun x'0 h'1 => (∃ i'2 : Int, ((x'0 = (Go.Value.int .i64 i'2)) ∧ (K (Go.Value.bool (decide ((i'2 < (0 : Int))))) h'1)))) h)))) :
  EvC Go.Proofs.Try.prog w0 55 ([(.agg #[(.int .i64 x0_0), (.int .i64 x0_1), (.int .i64 x0_2), (.slice a0_3 n0_3 c0_3), (.slice a0_4 n0_4 c0_4)]), (.agg #[(.int .i64 x1_0), (.int .i64 x1_1), (.int .i64 x1_2), (.slice a1_3 n1_3 c1_3), (.slice a1_4 n1_4 c1_4)])]).toArray K h := EvC_intro (P := Go.Proofs.Try.prog) f55_J (Eq.mp (by kernel_rfl) hv)
/-- ref MayTable. -/
theorem f54_spec {w0 : World} {K : Value → AH → Prop} {h : AH} {t : Tab} (o : t.Ok w0 h) (hk : K (.bool (mayT t)) h) : EvC Go.Proofs.Try.prog w0 54 #[t.agg] K h := by
  have hln := o.ln
  have hmn := o.mn
  have no : (¬ (1 ≤ t.num ∧ t.num ≤ 1099511627776 ∧ 0 ≤ t.lev ∧ t.lev < 4 ∧ 1 ≤ t.siz ∧ t.siz ≤ 4194304 ∧ 1 ≤ t.ln ∧ t.ln ≤ 512 ∧ 1 ≤ t.mn ∧ t.mn ≤ 512)) → K (.bool false) h := fun q => by
    have : mayT t = false := by
      rw [Bool.eq_false_iff]
      simp only [mayT, ne_eq, Bool.and_eq_true, decide_eq_true_eq]
      omega
    rw [this] at hk; exact hk
  refine f54_go _ _ _ _ _ _ _ _ _ _ ?_
  refine brB_of (fun q1 => brB_of (fun q2 => brB_of (fun q3 => brB_of (fun q4 => brB_of (fun q5 => brB_of (fun q6 => brB_of (fun q7 => brB_of (fun q8 => brB_of (fun q9 => brB_of (fun q10 => ?_) ?_) ?_) ?_) ?_) ?_) ?_) ?_) ?_) ?_) ?_
  · simp only [decide_eq_true_eq] at q1 q2 q3 q4 q5 q6 q7 q8 q9 q10
    refine f45_spec o.lb.rd o.mb.rd hln hmn ⟨_, rfl, ?_⟩
    have : mayT t = decide (cmpL t.lb t.mb ≤ 0) := by
      simp only [mayT]
      rw [decide_eq_true (p := 1 ≤ t.num) (by omega), decide_eq_true (p := t.num ≤ 1099511627776) (by omega), decide_eq_true (p := 0 ≤ t.lev) (by omega), decide_eq_true (p := t.lev < 4) (by omega), decide_eq_true (p := 1 ≤ t.siz) (by omega),
        decide_eq_true (p := t.siz ≤ 4194304) (by omega), decide_eq_true (p := 1 ≤ t.lb.length) (by omega), decide_eq_true (p := t.lb.length ≤ 512) (by omega), decide_eq_true (p := 1 ≤ t.mb.length) (by omega), decide_eq_true (p := t.mb.length ≤ 512) (by omega)]
      simp
    rw [this] at hk
    exact hk
  all_goals (intro q; refine no fun hq => ?_; simp only [decide_eq_false_iff_not] at q; omega)

/-- ref ahead. -/
theorem f55_spec {w0 : World} {K : Value → AH → Prop} {h : AH} {t u : Tab} (o : t.Ok w0 h) (p : u.Ok w0 h) (hk : K (.bool (aheadR t u)) h) : EvC Go.Proofs.Try.prog w0 55 #[t.agg, u.agg] K h := by
  unfold aheadR at hk
  refine f55_go _ _ _ _ _ _ _ _ _ _ _ _ _ _ _ _ _ _ _ (brB_of (fun q => ?_) fun q => brB_of (fun q2 => ?_) fun q2 => ?_)
  · rw [if_pos (by simpa using q)] at hk; exact hk
  · rw [if_neg (by simpa using q), if_pos (by simpa using q2)] at hk; exact hk
  · rw [if_neg (by simpa using q), if_neg (by simpa using q2)] at hk
    exact f45_spec o.lb.rd p.lb.rd o.ln p.ln ⟨_, rfl, hk⟩
def f24_J : Nat → List Nat × Nat := jOf [(2, [0, 1, 2, 3, 4, 8, 9, 10, 11, 12, 13, 14, 15, 16, 17, 18, 19, 20, 21, 22, 23, 24, 25, 26], 0), (5, [0, 1, 2, 3, 4, 8, 9, 10, 11, 12, 13, 14, 15, 16, 17, 18, 19, 20, 21, 22, 23, 24, 26], 0)]

def f24_2 (w0 : World) (K : Value → AH → Prop) (a5 : Option Go.Addr) (n5 : Nat) (c5 : Nat) (x6 : Int) (x7 : Int) (h : AH) : Prop :=
  ∀ j : Nat → Value, LPk Go.Proofs.Try.prog w0 (EvC Go.Proofs.Try.prog w0) f24_J 24 K 2 [.v (j 0), .v (j 1), .v (j 2), .v (j 3), .v (j 4), .v (.slice a5 n5 c5), .v (.int .i64 x6), .v (.int .i64 x7), .v (j 8), .v (j 9), .v (j 10), .v (j 11), .v (j 12), .v (j 13), .v (j 14), .v (j 15), .v (j 16), .v (j 17), .v (j 18), .v (j 19), .v (j 20), .v (j 21), .v (j 22), .v (j 23), .v (j 24), .v (j 25), .v (j 26)] [] h

def f24_5 (w0 : World) (K : Value → AH → Prop) (a5 : Option Go.Addr) (n5 : Nat) (c5 : Nat) (x6 : Int) (x7 : Int) (x25 : Bool) (h : AH) : Prop :=
  ∀ j : Nat → Value, LPk Go.Proofs.Try.prog w0 (EvC Go.Proofs.Try.prog w0) f24_J 24 K 5 [.v (j 0), .v (j 1), .v (j 2), .v (j 3), .v (j 4), .v (.slice a5 n5 c5), .v (.int .i64 x6), .v (.int .i64 x7), .v (j 8), .v (j 9), .v (j 10), .v (j 11), .v (j 12), .v (j 13), .v (j 14), .v (j 15), .v (j 16), .v (j 17), .v (j 18), .v (j 19), .v (j 20), .v (j 21), .v (j 22), .v (j 23), .v (j 24), .v (.bool x25), .v (j 26)] [] h

theorem f24_2_in {w0 : World} {K : Value → AH → Prop} (a5 : Option Go.Addr) (n5 : Nat) (c5 : Nat) (x6 : Int) (x7 : Int) (h : AH)
  (hv : (brB (decide ((x7 < x6))) (∃ a'0 : Go.Addr, ((a5 = (some a'0)) ∧ (((0 : Int) ≤ x7) ∧ ((x7 < ((n5 : Nat) : Int)) ∧ (∃ i'1 : Int, (∃ i'2 : Int, (∃ i'3 : Int, (∃ p'4 : Option Go.Addr, (∃ n'5 : Nat, (∃ n'6 : Nat, (∃ p'7 : Option Go.Addr, (∃ n'8 : Nat, (∃ n'9 : Nat, ((((Array.size #[(Go.Value.int .i64 i'1), (Go.Value.int .i64 i'2), (Go.Value.int .i64 i'3), (Go.Value.slice p'4 n'5 n'6), (Go.Value.slice p'7 n'8 n'9)]) = 5) ∧ (At w0 h (Go.Addr.add a'0 ((Int.toNat x7) * 5)) [(Go.Value.int .i64 i'1), (Go.Value.int .i64 i'2), (Go.Value.int .i64 i'3), (Go.Value.slice p'4 n'5 n'6), (Go.Value.slice p'7 n'8 n'9)])) ∧ (brB (decide (((210 : Int) ≤ x7))) (f24_5 w0 K a5 n5 c5 x6 x7 true h) (brB (decide (((600 : Int) < ((n'5 : Nat) : Int)))) (f24_5 w0 K a5 n5 c5 x6 x7 true h) (f24_5 w0 K a5 n5 c5 x6 x7 (decide (((600 : Int) < ((n'8 : Nat) : Int)))) h))))))))))))))))) (K (Go.Value.bool true) h))) :
  f24_2 w0 K a5 n5 c5 x6 x7 h := fun j => LP_intro (P := Go.Proofs.Try.prog) (Eq.mp (by kernel_rfl) hv)

theorem f24_5_in {w0 : World} {K : Value → AH → Prop} (a5 : Option Go.Addr) (n5 : Nat) (c5 : Nat) (x6 : Int) (x7 : Int) (x25 : Bool) (h : AH)
  (hv : (brB x25 (K (Go.Value.bool false) h) (f24_2 w0 K a5 n5 c5 x6 (Go.IntKind.wrap .i64 (x7 + (1 : Int))) h))) :
  f24_5 w0 K a5 n5 c5 x6 x7 x25 h := fun j => LP_intro (P := Go.Proofs.Try.prog) (Eq.mp (by kernel_rfl) hv)

theorem f24_go {w0 : World} {K : Value → AH → Prop} (a0 : Option Go.Addr) (n0 : Nat) (c0 : Nat) (h : AH)
  (hv : (f24_2 w0 K a0 n0 c0 ((n0 : Nat) : Int) (0 : Int) h)) :
  EvC Go.Proofs.Try.prog w0 24 ([(.slice a0 n0 c0)]).toArray K h := EvC_intro (P := Go.Proofs.Try.prog) f24_J (Eq.mp (by kernel_rfl) hv)
theorem f24_loop {w0 : World} {K : Value → AH → Prop} {h : AH} {a : Option Addr} {n c : Nat} {ts : List Tab} (s : TS w0 h a n c ts) :
    ∀ (rest : List Tab) (i : Nat), ts.drop i = rest → i ≤ n → K (.bool (lightL i rest)) h → f24_2 w0 K a n c ((n : Nat) : Int) ((i : Nat) : Int) h := by
  intro rest
  induction rest with
  | nil =>
    intro i hd hi hk
    have := drop_done hd
    have := s.len
    exact f24_2_in _ _ _ _ _ _ (brB_of (fun q => by simp at q; omega) fun _ => hk)
  | cons t r ih =>
    intro i hd hi hk
    obtain ⟨hget, hd', hlt⟩ := drop_step hd
    have hsl := s.len
    have hsm := s.sm
    have o := s.ok t (List.mem_of_getElem? hget)
    have step : ∀ b : Bool, (b = true → lightL i (t :: r) = false) → (b = false → lightL i (t :: r) = lightL (i + 1) r) → f24_5 w0 K a n c ((n : Nat) : Int) ((i : Nat) : Int) b h := fun b h1 h0 => by
      refine f24_5_in _ _ _ _ _ _ _ (brB_of (fun q => ?_) fun q => ?_)
      · rw [h1 q] at hk; exact hk
      · rw [wrapS (by omega)]
        rw [h0 q] at hk
        exact ih (i + 1) hd' (by omega) hk
    refine f24_2_in _ _ _ _ _ _ (brB_of (fun _ => tabLoad s.rs.rd s.len hget ?_) fun q => by simp at q; omega)
    have hln := o.ln
    have hmn := o.mn
    refine brB_of (fun q => step _ (fun _ => ?_) (fun e => by cases e)) fun q => brB_of (fun q2 => step _ (fun _ => ?_) (fun e => by cases e)) fun q2 => step _ (fun q3 => ?_) fun q3 => ?_
    all_goals simp only [decide_eq_true_eq, decide_eq_false_iff_not] at *
    · have : 210 ≤ i := by omega
      simp [lightL, this]
    · have : 600 < t.lb.length := by omega
      simp [lightL, this]
    · have : 600 < t.mb.length := by omega
      simp [lightL, this]
    · have h1 : ¬ 210 ≤ i := by omega
      have h2 : ¬ 600 < t.lb.length := by omega
      have h3 : ¬ 600 < t.mb.length := by omega
      simp [lightL, h1, h2, h3]

theorem f24_spec {w0 : World} {K : Value → AH → Prop} {h : AH} {a : Option Addr} {n c : Nat} {ts : List Tab} (s : TS w0 h a n c ts) (hk : K (.bool (lightL 0 ts)) h) : EvC Go.Proofs.Try.prog w0 24 #[.slice a n c] K h :=
  f24_go _ _ _ _ (f24_loop s ts 0 rfl (by omega) hk)
def f61_J : Nat → List Nat × Nat := jOf [(2, [0, 2, 3, 5, 6, 7, 11, 12, 13, 14, 15, 16, 17, 18, 19, 20], 1)]

def f61_2 (w0 : World) (K : Value → AH → Prop) (x1 : Int) (a8 : Option Go.Addr) (n8 : Nat) (c8 : Nat) (x9 : Int) (x10 : Int) (xb0_0 : Int) (xb0_1 : Int) (xb0_2 : Int) (ab0_3 : Option Go.Addr) (nb0_3 : Nat) (cb0_3 : Nat) (ab0_4 : Option Go.Addr) (nb0_4 : Nat) (cb0_4 : Nat) (h : AH) : Prop :=
  ∀ j : Nat → Value, LPk Go.Proofs.Try.prog w0 (EvC Go.Proofs.Try.prog w0) f61_J 61 K 2 [.v (j 0), .v (.int .i64 x1), .v (j 2), .v (j 3), .bp 0 0, .v (j 5), .v (j 6), .v (j 7), .v (.slice a8 n8 c8), .v (.int .i64 x9), .v (.int .i64 x10), .v (j 11), .v (j 12), .v (j 13), .v (j 14), .v (j 15), .v (j 16), .v (j 17), .v (j 18), .v (j 19), .v (j 20)] [some [(.int .i64 xb0_0), (.int .i64 xb0_1), (.int .i64 xb0_2), (.slice ab0_3 nb0_3 cb0_3), (.slice ab0_4 nb0_4 cb0_4)]] h

theorem f61_2_in {w0 : World} {K : Value → AH → Prop} (x1 : Int) (a8 : Option Go.Addr) (n8 : Nat) (c8 : Nat) (x9 : Int) (x10 : Int) (xb0_0 : Int) (xb0_1 : Int) (xb0_2 : Int) (ab0_3 : Option Go.Addr) (nb0_3 : Nat) (cb0_3 : Nat) (ab0_4 : Option Go.Addr) (nb0_4 : Nat) (cb0_4 : Nat) (h : AH)
  (hv : (brB (decide ((x10 < x9))) (∃ a'0 : Go.Addr, ((a8 = (some a'0)) ∧ (((0 : Int) ≤ x10) ∧ ((x10 < ((n8 : Nat) : Int)) ∧ (∃ i'1 : Int, (∃ i'2 : Int, (∃ i'3 : Int, (∃ p'4 : Option Go.Addr, (∃ n'5 : Nat, (∃ n'6 : Nat, (∃ p'7 : Option Go.Addr, (∃ n'8 : Nat, (∃ n'9 : Nat, ((((Array.size #[(Go.Value.int .i64 i'1), (Go.Value.int .i64 i'2), (Go.Value.int .i64 i'3), (Go.Value.slice p'4 n'5 n'6), (Go.Value.slice p'7 n'8 n'9)]) = 5) ∧ (At w0 h (Go.Addr.add a'0 ((Int.toNat x10) * 5)) [(Go.Value.int .i64 i'1), (Go.Value.int .i64 i'2), (Go.Value.int .i64 i'3), (Go.Value.slice p'4 n'5 n'6), (Go.Value.slice p'7 n'8 n'9)])) ∧ (brB (i'1 == x1) (K (Go.Value.tuple #[(Go.Value.agg #[(Go.Value.int .i64 i'1), (Go.Value.int .i64 i'2), (Go.Value.int .i64 i'3), (Go.Value.slice p'4 n'5 n'6), (Go.Value.slice p'7 n'8 n'9)]), (Go.Value.bool true)]) h) (f61_2 w0 K x1 a8 n8 c8 x9 (Go.IntKind.wrap .i64 (x10 + (1 : Int))) xb0_0 xb0_1 xb0_2 ab0_3 nb0_3 cb0_3 ab0_4 nb0_4 cb0_4 h)))))))))))))))) (K (Go.Value.tuple #[(Go.Value.agg #[(Go.Value.int .i64 (0 : Int)), (Go.Value.int .i64 (0 : Int)), (Go.Value.int .i64 (0 : Int)), (Go.Value.slice none 0 0), (Go.Value.slice none 0 0)]), (Go.Value.bool false)]) h))) :
  f61_2 w0 K x1 a8 n8 c8 x9 x10 xb0_0 xb0_1 xb0_2 ab0_3 nb0_3 cb0_3 ab0_4 nb0_4 cb0_4 h := fun j => LP_intro (P := Go.Proofs.Try.prog) (Eq.mp (by kernel_rfl) hv)

theorem f61_go {w0 : World} {K : Value → AH → Prop} (a0 : Option Go.Addr) (n0 : Nat) (c0 : Nat) (x1 : Int) (h : AH)
  (hv : (f61_2 w0 K x1 a0 n0 c0 ((n0 : Nat) : Int) (0 : Int) (0 : Int) (0 : Int) (0 : Int) none 0 0 none 0 0 h)) :
  EvC Go.Proofs.Try.prog w0 61 ([(.slice a0 n0 c0), (.int .i64 x1)]).toArray K h := EvC_intro (P := Go.Proofs.Try.prog) f61_J (Eq.mp (by kernel_rfl) hv)
def f62_J : Nat → List Nat × Nat := jOf [(2, [0, 2, 3, 4, 5, 6, 10, 11, 12, 13, 14, 15, 16], 0)]

def f62_2 (w0 : World) (K : Value → AH → Prop) (x1 : Int) (a7 : Option Go.Addr) (n7 : Nat) (c7 : Nat) (x8 : Int) (x9 : Int) (h : AH) : Prop :=
  ∀ j : Nat → Value, LPk Go.Proofs.Try.prog w0 (EvC Go.Proofs.Try.prog w0) f62_J 62 K 2 [.v (j 0), .v (.int .i64 x1), .v (j 2), .v (j 3), .v (j 4), .v (j 5), .v (j 6), .v (.slice a7 n7 c7), .v (.int .i64 x8), .v (.int .i64 x9), .v (j 10), .v (j 11), .v (j 12), .v (j 13), .v (j 14), .v (j 15), .v (j 16)] [] h

theorem f62_2_in {w0 : World} {K : Value → AH → Prop} (x1 : Int) (a7 : Option Go.Addr) (n7 : Nat) (c7 : Nat) (x8 : Int) (x9 : Int) (h : AH)
  (hv : (brB (decide ((x9 < x8))) (∃ a'0 : Go.Addr, ((a7 = (some a'0)) ∧ (((0 : Int) ≤ x9) ∧ ((x9 < ((n7 : Nat) : Int)) ∧ (∃ i'1 : Int, (((Go.G.cellA w0 h (Go.Addr.add a'0 ((Int.toNat x9) * 1))) = (some (Go.Value.int .i64 i'1))) ∧ (brB (i'1 == x1) (K (Go.Value.bool true) h) (f62_2 w0 K x1 a7 n7 c7 x8 (Go.IntKind.wrap .i64 (x9 + (1 : Int))) h)))))))) (K (Go.Value.bool false) h))) :
  f62_2 w0 K x1 a7 n7 c7 x8 x9 h := fun j => LP_intro (P := Go.Proofs.Try.prog) (Eq.mp (by kernel_rfl) hv)

theorem f62_go {w0 : World} {K : Value → AH → Prop} (a0 : Option Go.Addr) (n0 : Nat) (c0 : Nat) (x1 : Int) (h : AH)
  (hv : (f62_2 w0 K x1 a0 n0 c0 ((n0 : Nat) : Int) (0 : Int) h)) :
  EvC Go.Proofs.Try.prog w0 62 ([(.slice a0 n0 c0), (.int .i64 x1)]).toArray K h := EvC_intro (P := Go.Proofs.Try.prog) f62_J (Eq.mp (by kernel_rfl) hv)
theorem f61_loop {w0 : World} {K : Value → AH → Prop} {h : AH} {a : Option Addr} {n c : Nat} {ts : List Tab} {x : Int} {y0 y1 y2 : Int} {z0 z3 : Option Addr} {z1 z2 z4 z5 : Nat} (s : TS w0 h a n c ts) :
    ∀ (rest : List Tab) (i : Nat), ts.drop i = rest → i ≤ n → (∀ t, rest.find? (fun t => t.num == x) = some t → K (.tuple #[t.agg, .bool true]) h) →
      (rest.find? (fun t => t.num == x) = none → K (.tuple #[.agg #[.int .i64 0, .int .i64 0, .int .i64 0, .slice none 0 0, .slice none 0 0], .bool false]) h) →
      f61_2 w0 K x a n c ((n : Nat) : Int) ((i : Nat) : Int) y0 y1 y2 z0 z1 z2 z3 z4 z5 h := by
  intro rest
  induction rest with
  | nil =>
    intro i hd hi hk hk0
    have := drop_done hd
    have := s.len
    exact f61_2_in _ _ _ _ _ _ _ _ _ _ _ _ _ _ _ _ (brB_of (fun q => by simp at q; omega) fun _ => hk0 rfl)
  | cons t r ih =>
    intro i hd hi hk hk0
    obtain ⟨hget, hd', hlt⟩ := drop_step hd
    have hsl := s.len
    have hsm := s.sm
    refine f61_2_in _ _ _ _ _ _ _ _ _ _ _ _ _ _ _ _ (brB_of (fun _ => tabLoad s.rs.rd s.len hget ?_) fun q => by simp at q; omega)
    refine brB_of (fun q => hk t (by rw [List.find?_cons, q])) fun q => ?_
    rw [wrapS (by omega)]
    exact ih (i + 1) hd' (by omega) (fun u hu => hk u (by rw [List.find?_cons, q]; exact hu)) fun hn => hk0 (by rw [List.find?_cons, q]; exact hn)

/-- ref table. -/
theorem f61_spec {w0 : World} {K : Value → AH → Prop} {h : AH} {a : Option Addr} {n c : Nat} {ts : List Tab} {x : Int} (s : TS w0 h a n c ts) (hk : ∀ t, ts.find? (fun t => t.num == x) = some t → K (.tuple #[t.agg, .bool true]) h)
    (hk0 : ts.find? (fun t => t.num == x) = none → K (.tuple #[.agg #[.int .i64 0, .int .i64 0, .int .i64 0, .slice none 0 0, .slice none 0 0], .bool false]) h) : EvC Go.Proofs.Try.prog w0 61 #[.slice a n c, .int .i64 x] K h :=
  f61_go _ _ _ _ _ (f61_loop s ts 0 rfl (by omega) hk hk0)

theorem f62_loop {w0 : World} {K : Value → AH → Prop} {h : AH} {a : Option Addr} {n c : Nat} {xs : List Int} {x : Int} (s : IS w0 h a n c xs) :
    ∀ (rest : List Int) (i : Nat), xs.drop i = rest → i ≤ n → K (.bool (rest.any fun y => y == x)) h → f62_2 w0 K x a n c ((n : Nat) : Int) ((i : Nat) : Int) h := by
  intro rest
  induction rest with
  | nil =>
    intro i hd hi hk
    have := drop_done hd
    have := s.len
    exact f62_2_in _ _ _ _ _ _ _ (brB_of (fun q => by simp at q; omega) fun _ => hk)
  | cons y r ih =>
    intro i hd hi hk
    obtain ⟨hget, hd', hlt⟩ := drop_step hd
    have hsl := s.len
    have hsm := s.sm
    refine f62_2_in _ _ _ _ _ _ _ (brB_of (fun _ => intLoad s.rs.rd s.len hget ?_) fun q => by simp at q; omega)
    refine brB_of (fun q => by rw [List.any_cons, q] at hk; exact hk) fun q => ?_
    rw [wrapS (by omega)]
    exact ih (i + 1) hd' (by omega) (by rw [List.any_cons, q] at hk; exact hk)

/-- ref has. -/
theorem f62_spec {w0 : World} {K : Value → AH → Prop} {h : AH} {a : Option Addr} {n c : Nat} {xs : List Int} {x : Int} (s : IS w0 h a n c xs) (hk : K (.bool (xs.any fun y => y == x)) h) : EvC Go.Proofs.Try.prog w0 62 #[.slice a n c, .int .i64 x] K h :=
  f62_go _ _ _ _ _ (f62_loop s xs 0 rfl (by omega) hk)
def f63_J : Nat → List Nat × Nat := jOf [(2, [1, 2, 4, 6, 7, 8, 9, 10, 11, 12, 13, 14, 15, 16, 17, 18, 19, 20, 21, 22, 23, 24, 25, 26, 27, 28, 29, 30], 1)]

def f63_2 (w0 : World) (K : Value → AH → Prop) (a0 : Option Go.Addr) (n0 : Nat) (c0 : Nat) (x5 : Int) (xb0_0 : Int) (xb0_1 : Int) (xb0_2 : Int) (ab0_3 : Option Go.Addr) (nb0_3 : Nat) (cb0_3 : Nat) (ab0_4 : Option Go.Addr) (nb0_4 : Nat) (cb0_4 : Nat) (h : AH) : Prop :=
  ∀ j : Nat → Value, LPk Go.Proofs.Try.prog w0 (EvC Go.Proofs.Try.prog w0) f63_J 63 K 2 [.v (.slice a0 n0 c0), .v (j 1), .v (j 2), .bp 0 0, .v (j 4), .v (.int .i64 x5), .v (j 6), .v (j 7), .v (j 8), .v (j 9), .v (j 10), .v (j 11), .v (j 12), .v (j 13), .v (j 14), .v (j 15), .v (j 16), .v (j 17), .v (j 18), .v (j 19), .v (j 20), .v (j 21), .v (j 22), .v (j 23), .v (j 24), .v (j 25), .v (j 26), .v (j 27), .v (j 28), .v (j 29), .v (j 30)] [some [(.int .i64 xb0_0), (.int .i64 xb0_1), (.int .i64 xb0_2), (.slice ab0_3 nb0_3 cb0_3), (.slice ab0_4 nb0_4 cb0_4)]] h

theorem f63_2_in {w0 : World} {K : Value → AH → Prop} (a0 : Option Go.Addr) (n0 : Nat) (c0 : Nat) (x5 : Int) (xb0_0 : Int) (xb0_1 : Int) (xb0_2 : Int) (ab0_3 : Option Go.Addr) (nb0_3 : Nat) (cb0_3 : Nat) (ab0_4 : Option Go.Addr) (nb0_4 : Nat) (cb0_4 : Nat) (h : AH)
  (hv : (brB (decide ((x5 < ((n0 : Nat) : Int)))) (∃ a'0 : Go.Addr, ((a0 = (some a'0)) ∧ (((0 : Int) ≤ x5) ∧ ((x5 < ((n0 : Nat) : Int)) ∧ (∃ i'1 : Int, (∃ i'2 : Int, (∃ i'3 : Int, (∃ p'4 : Option Go.Addr, (∃ n'5 : Nat, (∃ n'6 : Nat, (∃ p'7 : Option Go.Addr, (∃ n'8 : Nat, (∃ n'9 : Nat, ((((Array.size #[(Go.Value.int .i64 i'1), (Go.Value.int .i64 i'2), (Go.Value.int .i64 i'3), (Go.Value.slice p'4 n'5 n'6), (Go.Value.slice p'7 n'8 n'9)]) = 5) ∧ (At w0 h (Go.Addr.add a'0 ((Int.toNat x5) * 5)) [(Go.Value.int .i64 i'1), (Go.Value.int .i64 i'2), (Go.Value.int .i64 i'3), (Go.Value.slice p'4 n'5 n'6), (Go.Value.slice p'7 n'8 n'9)])) ∧ (EvC Go.Proofs.Try.prog w0 55 #[(Go.Value.agg #[(Go.Value.int .i64 i'1), (Go.Value.int .i64 i'2), (Go.Value.int .i64 i'3), (Go.Value.slice p'4 n'5 n'6), (Go.Value.slice p'7 n'8 n'9)]), (Go.Value.agg #[(Go.Value.int .i64 xb0_0), (Go.Value.int .i64 xb0_1), (Go.Value.int .i64 xb0_2), (Go.Value.slice ab0_3 nb0_3 cb0_3), (Go.Value.slice ab0_4 nb0_4 cb0_4)])] (fun x'10 h'11 => (∃ t'12 : Bool, ((x'10 = (Go.Value.bool t'12)) ∧ (brB t'12 (f63_2 w0 K a0 n0 c0 (Go.IntKind.wrap .i64 (x5 + (1 : Int))) xb0_0 xb0_1 xb0_2 ab0_3 nb0_3 cb0_3 ab0_4 nb0_4 cb0_4 h'11) (((0 : Int) ≤ x5) ∧ ((x5 ≤ ((c0 : Nat) : Int)) ∧ (((0 : Int) ≤ x5) ∧ ((x5 ≤ ((n0 : Nat) : Int)) ∧ ((rowsOf w0 h'11 5 a0 (Int.toNat x5) (fun ys'13 => (App w0 h'11 5 72 none 0 0 (Int.toNat x5) ys'13 (fun a'14 c'15 h'16 => (App w0 h'16 5 72 a'14 (0 + (Int.toNat x5)) c'15 1 [(Go.Value.int .i64 xb0_0), (Go.Value.int .i64 xb0_1), (Go.Value.int .i64 xb0_2), (Go.Value.slice ab0_3 nb0_3 cb0_3), (Go.Value.slice ab0_4 nb0_4 cb0_4)] (fun a'17 c'18 h'19 => (rowsOf w0 h'19 5 (Go.G.cutA 5 a0 c0 (Int.toNat x5)) (n0 - (Int.toNat x5)) (fun ys'20 => (App w0 h'19 5 72 a'17 ((0 + (Int.toNat x5)) + 1) c'18 (n0 - (Int.toNat x5)) ys'20 (fun a'21 c'22 h'23 => (K (Go.Value.slice a'21 (((0 + (Int.toNat x5)) + 1) + (n0 - (Int.toNat x5))) c'22) h'23))))))))))) ∧ (rowsOf w0 h'11 5 a0 (Int.toNat x5) (fun ys'24 => (App w0 h'11 5 72 none 0 0 (Int.toNat x5) ys'24 (fun a'25 c'26 h'27 => (App w0 h'27 5 72 a'25 (0 + (Int.toNat x5)) c'26 1 [(Go.Value.int .i64 xb0_0), (Go.Value.int .i64 xb0_1), (Go.Value.int .i64 xb0_2), (Go.Value.slice ab0_3 nb0_3 cb0_3), (Go.Value.slice ab0_4 nb0_4 cb0_4)] (fun a'28 c'29 h'30 => (rowsOf w0 h'30 5 (Go.G.cutA 5 a0 c0 (Int.toNat x5)) (n0 - (Int.toNat x5)) (fun ys'31 => (App w0 h'30 5 72 a'28 ((0 + (Int.toNat x5)) + 1) c'29 (n0 - (Int.toNat x5)) ys'31 (fun a'32 c'33 h'34 => (K (Go.Value.slice a'32 (((0 + (Int.toNat x5)) + 1) + (n0 - (Int.toNat x5))) c'33) h'34)))))))))))))))))))) h))))))))))))))) (((0 : Int) ≤ x5) ∧ ((x5 ≤ ((c0 : Nat) : Int)) ∧ (((0 : Int) ≤ x5) ∧ ((x5 ≤ ((n0 : Nat) : Int)) ∧ ((rowsOf w0 h 5 a0 (Int.toNat x5) (fun ys'35 => (App w0 h 5 72 none 0 0 (Int.toNat x5) ys'35 (fun a'36 c'37 h'38 => (App w0 h'38 5 72 a'36 (0 + (Int.toNat x5)) c'37 1 [(Go.Value.int .i64 xb0_0), (Go.Value.int .i64 xb0_1), (Go.Value.int .i64 xb0_2), (Go.Value.slice ab0_3 nb0_3 cb0_3), (Go.Value.slice ab0_4 nb0_4 cb0_4)] (fun a'39 c'40 h'41 => (rowsOf w0 h'41 5 (Go.G.cutA 5 a0 c0 (Int.toNat x5)) (n0 - (Int.toNat x5)) (fun ys'42 => (App w0 h'41 5 72 a'39 ((0 + (Int.toNat x5)) + 1) c'40 (n0 - (Int.toNat x5)) ys'42 (fun a'43 c'44 h'45 => (K (Go.Value.slice a'43 (((0 + (Int.toNat x5)) + 1) + (n0 - (Int.toNat x5))) c'44) h'45))))))))))) ∧ (rowsOf w0 h 5 a0 (Int.toNat x5) (fun ys'46 => (App w0 h 5 72 none 0 0 (Int.toNat x5) ys'46 (fun a'47 c'48 h'49 => (App w0 h'49 5 72 a'47 (0 + (Int.toNat x5)) c'48 1 [(Go.Value.int .i64 xb0_0), (Go.Value.int .i64 xb0_1), (Go.Value.int .i64 xb0_2), (Go.Value.slice ab0_3 nb0_3 cb0_3), (Go.Value.slice ab0_4 nb0_4 cb0_4)] (fun a'50 c'51 h'52 => (rowsOf w0 h'52 5 (Go.G.cutA 5 a0 c0 (Int.toNat x5)) (n0 - (Int.toNat x5)) (fun ys'53 => (App w0 h'52 5 72 a'50 ((0 + (Int.toNat x5)) + 1) c'51 (n0 - (Int.toNat x5)) ys'53 (fun a'54 c'55 h'56 => (K (Go.Value.slice a'54 (((0 + (Int.toNat x5)) + 1) + (n0 - (Int.toNat x5))) c'55) h'56)))))))))))))))))) :
  f63_2 w0 K a0 n0 c0 x5 xb0_0 xb0_1 xb0_2 ab0_3 nb0_3 cb0_3 ab0_4 nb0_4 cb0_4 h := fun j => LP_intro (P := Go.Proofs.Try.prog) (Eq.mp (by kernel_rfl) hv)

theorem f63_go {w0 : World} {K : Value → AH → Prop} (a0 : Option Go.Addr) (n0 : Nat) (c0 : Nat) (x1_0 : Int) (x1_1 : Int) (x1_2 : Int) (a1_3 : Option Go.Addr) (n1_3 : Nat) (c1_3 : Nat) (a1_4 : Option Go.Addr) (n1_4 : Nat) (c1_4 : Nat) (h : AH)
  (hv : (f63_2 w0 K a0 n0 c0 (0 : Int) x1_0 x1_1 x1_2 a1_3 n1_3 c1_3 a1_4 n1_4 c1_4 h)) :
  EvC Go.Proofs.Try.prog w0 63 ([(.slice a0 n0 c0), (.agg #[(.int .i64 x1_0), (.int .i64 x1_1), (.int .i64 x1_2), (.slice a1_3 n1_3 c1_3), (.slice a1_4 n1_4 c1_4)])]).toArray K h := EvC_intro (P := Go.Proofs.Try.prog) f63_J (Eq.mp (by kernel_rfl) hv)
theorem f63_tail {w0 : World} {h : AH} {a : Option Addr} {n c i : Nat} {ts : List Tab} {t : Tab} (s : TS w0 h a n c ts) (hn : n ≤ 1000000) (hi : i ≤ n) {K : Option Addr → Nat → AH → Prop}
    (hk : ∀ a' c' h', Sl w0 h' 5 a' (0 + i + 1 + (n - i)) c' (tabs (ts.take i ++ t :: ts.drop i)) → Ext h h' none → New h a' → K a' c' h') :
    rowsOf w0 h 5 a i fun ys => App w0 h 5 72 none 0 0 i ys fun a1 c1 h1 => App w0 h1 5 72 a1 (0 + i) c1 1 [.int .i64 t.num, .int .i64 t.lev, .int .i64 t.siz, .slice t.lp t.ln t.lc, .slice t.mp t.mn t.mc] fun a2 c2 h2 =>
      rowsOf w0 h2 5 (cutA 5 a c i) (n - i) fun ys => App w0 h2 5 72 a2 (0 + i + 1) c2 (n - i) ys fun a3 c3 h3 => K a3 c3 h3 := by
  have h1 := s.take hi
  have h2 := s.drop hi
  refine h1.rows ?_
  refine App_own Sl.nil (by omega) (by omega) (by rw [tabs_length, ← h1.len]) (tabs_cell _) fun a1 c1 h1' s1 x1 f1 => ?_
  have e1 : Ext h h1' none := (Ext.refl _ _).past New.none x1
  have w1 : New h a1 := New.none.grown (Ext.refl _ _) f1
  refine App_own s1 (by omega) (by omega) rfl (tabs_cell [t]) fun a2 c2 h2' s2 x2 f2 => ?_
  have e2 : Ext h h2' none := e1.past w1 x2
  have w2 : New h a2 := w1.grown e1 f2
  refine (h2.ext e2).rows ?_
  refine App_own s2 (by omega) (by omega) (by rw [tabs_length, ← h2.len]) (tabs_cell _) fun a3 c3 h3' s3 x3 f3 => ?_
  refine hk a3 c3 h3' ?_ (e2.past w2 x3) (w2.grown e2 f3)
  have : tabs (ts.take i ++ t :: ts.drop i) = [] ++ tabs (ts.take i) ++ [.int .i64 t.num, .int .i64 t.lev, .int .i64 t.siz, .slice t.lp t.ln t.lc, .slice t.mp t.mn t.mc] ++ tabs (ts.drop i) := by
    simp [tabs, Tab.cells]
  rw [this]
  exact s3

theorem f63_loop {w0 : World} {K : Value → AH → Prop} {h : AH} {a : Option Addr} {n c : Nat} {ts : List Tab} {t : Tab} (s : TS w0 h a n c ts) (hn : n ≤ 1000000) (o : t.Ok w0 h)
    (hk : ∀ a' n' c' h', Sl w0 h' 5 a' n' c' (tabs (putR t ts)) → Ext h h' none → New h a' → K (.slice a' n' c') h') :
    ∀ (rest : List Tab) (i : Nat), ts.drop i = rest → i ≤ n → putR t ts = ts.take i ++ putR t rest → f63_2 w0 K a n c ((i : Nat) : Int) t.num t.lev t.siz t.lp t.ln t.lc t.mp t.mn t.mc h := by
  have hcap := s.cap
  have hsl := s.len
  have tail : ∀ i : Nat, i ≤ n → putR t ts = ts.take i ++ t :: ts.drop i → ∀ a' c' h', Sl w0 h' 5 a' (0 + i + 1 + (n - i)) c' (tabs (ts.take i ++ t :: ts.drop i)) → Ext h h' none → New h a' → K (.slice a' (0 + i + 1 + (n - i)) c') h' :=
    fun i _ he a' c' h' s' x' w' => hk _ _ _ _ (by rw [he]; exact s') x' w'
  intro rest
  induction rest with
  | nil =>
    intro i hd hi he
    have := drop_done hd
    have he' : putR t ts = ts.take i ++ t :: ts.drop i := by rw [he, hd]; rfl
    refine f63_2_in _ _ _ _ _ _ _ _ _ _ _ _ _ _ (brB_of (fun q => by simp at q; omega) fun _ => ?_)
    simp only [Int.toNat_natCast]
    exact ⟨by omega, by omega, by omega, by omega, dup (f63_tail s hn hi (tail i hi he'))⟩
  | cons u r ih =>
    intro i hd hi he
    obtain ⟨hget, hd', hlt⟩ := drop_step hd
    refine f63_2_in _ _ _ _ _ _ _ _ _ _ _ _ _ _ (brB_of (fun _ => tabLoad s.rs.rd s.len hget ?_) fun q => by simp at q; omega)
    refine f55_spec (t := u) (s.ok u (List.mem_of_getElem? hget)) o ⟨_, rfl, brB_of (fun q => ?_) fun q => ?_⟩
    · rw [wrapS (by omega)]
      refine ih (i + 1) hd' (by omega) ?_
      rw [he, List.take_add_one, hget]
      simp [putR, q]
    · have he' : putR t ts = ts.take i ++ t :: ts.drop i := by rw [he, hd]; simp [putR, q]
      simp only [Int.toNat_natCast]
      exact ⟨by omega, by omega, by omega, by omega, dup (f63_tail s hn hi (tail i hi he'))⟩

/-- ref put. -/
theorem f63_spec {w0 : World} {K : Value → AH → Prop} {h : AH} {a : Option Addr} {n c : Nat} {ts : List Tab} {t : Tab} (s : TS w0 h a n c ts) (hn : n ≤ 1000000) (o : t.Ok w0 h)
    (hk : ∀ a' n' c' h', Sl w0 h' 5 a' n' c' (tabs (putR t ts)) → Ext h h' none → New h a' → K (.slice a' n' c') h') : EvC Go.Proofs.Try.prog w0 63 #[.slice a n c, t.agg] K h :=
  f63_go _ _ _ _ _ _ _ _ _ _ _ _ _ (f63_loop s hn o hk ts 0 rfl (by omega) rfl)
def f60_J : Nat → List Nat × Nat := jOf [(2, [0, 2, 3, 4, 5, 6, 7, 8, 9, 10, 11, 12, 13, 14, 15, 16, 17, 18, 21, 22, 23, 24, 25, 26, 27, 28, 29, 30, 31, 32, 33, 34, 35, 36, 37, 38, 39, 40, 41, 42, 43, 44, 45, 46, 47, 48, 49, 50, 51, 52, 53, 54, 55, 56, 57, 58, 59, 60, 61, 62, 63, 64, 65, 66, 67, 68, 69, 70, 71, 72, 73, 74, 75, 76, 77, 78, 79, 80, 81, 82, 83, 84, 85, 86, 87, 88, 89, 90, 91, 92, 93, 94], 1), (5, [0, 2, 3, 4, 5, 6, 7, 8, 9, 10, 11, 12, 13, 14, 15, 16, 17, 18, 21, 22, 23, 24, 25, 26, 27, 29, 30, 31, 32, 33, 34, 35, 36, 37, 38, 39, 40, 41, 42, 43, 44, 45, 46, 47, 48, 49, 50, 51, 52, 53, 54, 55, 56, 57, 58, 59, 60, 61, 62, 63, 64, 65, 66, 67, 68, 69, 70, 71, 72, 73, 74, 75, 76, 77, 78, 79, 80, 81, 82, 83, 84, 85, 86, 87, 88, 89, 90, 91, 92, 93, 94], 1), (8, [0, 2, 3, 4, 5, 6, 7, 8, 9, 10, 11, 12, 13, 14, 15, 16, 17, 18, 19, 20, 21, 22, 23, 24, 25, 26, 27, 28, 29, 30, 31, 32, 33, 34, 35, 36, 37, 38, 40, 41, 42, 43, 44, 45, 46, 47, 48, 49, 50, 51, 52, 53, 54, 55, 56, 57, 58, 59, 60, 61, 62, 63, 64, 65, 66, 67, 68, 69, 70, 71, 72, 73, 74, 75, 76, 77, 78, 79, 80, 81, 82, 83, 84, 85, 86, 87, 88, 89, 90, 91, 92, 93, 94], 1), (9, [0, 2, 3, 4, 5, 6, 7, 8, 9, 10, 11, 12, 13, 14, 15, 16, 17, 18, 19, 20, 21, 22, 23, 24, 25, 26, 27, 28, 29, 30, 31, 32, 33, 34, 35, 36, 37, 38, 39, 40, 41, 42, 43, 44, 45, 46, 47, 48, 49, 50, 51, 52, 53, 54, 55, 56, 57, 58, 59, 60, 61, 62, 63, 64, 65, 66, 67, 68, 69, 70, 71, 72, 73, 74, 75, 76, 77, 78, 79, 80, 81, 82, 83, 84, 85, 86, 87, 88, 89, 90, 91, 92, 93, 94], 1), (10, [0, 2, 3, 4, 5, 6, 7, 8, 9, 10, 11, 12, 13, 14, 15, 16, 17, 18, 19, 20, 21, 22, 23, 24, 25, 26, 27, 28, 29, 30, 31, 32, 33, 34, 35, 36, 37, 38, 39, 40, 44, 45, 46, 47, 48, 49, 50, 51, 52, 53, 54, 55, 56, 57, 58, 59, 60, 61, 62, 63, 64, 65, 66, 67, 68, 69, 70, 71, 72, 73, 74, 75, 76, 77, 78, 79, 80, 81, 82, 83, 84, 85, 86, 87, 88, 89, 90, 91, 92, 93, 94], 1), (15, [0, 2, 3, 4, 5, 7, 8, 9, 10, 11, 12, 13, 14, 15, 16, 17, 18, 19, 20, 21, 22, 23, 24, 25, 26, 27, 28, 29, 30, 31, 32, 33, 34, 35, 36, 37, 38, 39, 40, 44, 45, 46, 47, 48, 49, 50, 51, 52, 53, 57, 58, 59, 60, 61, 62, 63, 64, 65, 66, 67, 68, 69, 70, 71, 72, 73, 74, 75, 76, 77, 78, 79, 80, 81, 82, 83, 84, 85, 86, 87, 88, 89, 90, 91, 92, 93, 94], 2), (22, [0, 2, 3, 4, 5, 6, 7, 8, 9, 10, 11, 12, 13, 14, 15, 16, 17, 18, 19, 20, 21, 22, 23, 24, 25, 26, 27, 28, 29, 30, 31, 32, 33, 34, 35, 36, 37, 38, 39, 40, 41, 42, 43, 44, 45, 46, 47, 48, 49, 50, 51, 52, 53, 54, 55, 56, 57, 58, 59, 60, 61, 62, 63, 64, 65, 66, 67, 71, 72, 73, 74, 75, 76, 77, 78, 79, 80, 81, 82, 83, 84, 85, 86, 87, 88, 89, 90, 91, 92, 93, 94], 1), (25, [0, 2, 3, 4, 5, 6, 7, 8, 11, 12, 13, 14, 15, 16, 17, 18, 19, 20, 21, 22, 23, 24, 25, 26, 27, 28, 29, 30, 31, 32, 33, 34, 35, 36, 37, 38, 39, 40, 41, 42, 43, 44, 45, 46, 47, 48, 49, 50, 51, 52, 53, 54, 55, 56, 57, 58, 59, 60, 61, 62, 63, 64, 65, 66, 67, 71, 72, 73, 74, 75, 76, 77, 78, 79, 81, 82, 83, 84, 85, 86, 87, 88, 89, 90, 91, 92, 93, 94], 1), (26, [0, 2, 3, 4, 5, 6, 7, 8, 11, 12, 13, 14, 15, 16, 17, 18, 19, 20, 21, 22, 23, 24, 25, 26, 27, 28, 29, 30, 31, 32, 33, 34, 35, 36, 37, 38, 39, 40, 41, 42, 43, 44, 45, 46, 47, 48, 49, 50, 51, 52, 53, 54, 55, 56, 57, 58, 59, 60, 61, 62, 63, 64, 65, 66, 67, 71, 72, 73, 74, 75, 76, 77, 78, 79, 80, 81, 82, 83, 84, 85, 86, 87, 88, 89, 90, 91, 92, 93, 94], 1), (27, [0, 2, 3, 4, 5, 6, 7, 8, 9, 11, 12, 13, 14, 15, 16, 17, 18, 19, 20, 21, 22, 23, 24, 25, 26, 27, 28, 29, 30, 31, 32, 33, 34, 35, 36, 37, 38, 39, 40, 41, 42, 43, 44, 45, 46, 47, 48, 49, 50, 51, 52, 53, 54, 55, 56, 57, 58, 59, 60, 61, 62, 63, 64, 65, 66, 67, 71, 72, 73, 74, 75, 76, 77, 78, 79, 80, 81, 82, 83, 87, 88, 89, 90, 91, 92, 93, 94], 1)]

def f60_2 (w0 : World) (K : Value → AH → Prop) (x19_0 : Int) (x19_1 : Int) (x19_2 : Int) (x20 : Int) (xb0_0 : Int) (xb0_1 : Int) (xb0_2 : Int) (ab0_3 : Option Go.Addr) (nb0_3 : Nat) (cb0_3 : Nat) (ab0_4 : Option Go.Addr) (nb0_4 : Nat) (cb0_4 : Nat) (h : AH) : Prop :=
  ∀ j : Nat → Value, LPk Go.Proofs.Try.prog w0 (EvC Go.Proofs.Try.prog w0) f60_J 60 K 2 [.v (j 0), .bp 0 0, .v (j 2), .v (j 3), .v (j 4), .v (j 5), .v (j 6), .v (j 7), .v (j 8), .v (j 9), .v (j 10), .v (j 11), .v (j 12), .v (j 13), .v (j 14), .v (j 15), .v (j 16), .v (j 17), .v (j 18), .v (.agg #[(.int .i64 x19_0), (.int .i64 x19_1), (.int .i64 x19_2)]), .v (.int .i64 x20), .v (j 21), .v (j 22), .v (j 23), .v (j 24), .v (j 25), .v (j 26), .v (j 27), .v (j 28), .v (j 29), .v (j 30), .v (j 31), .v (j 32), .v (j 33), .v (j 34), .v (j 35), .v (j 36), .v (j 37), .v (j 38), .v (j 39), .v (j 40), .v (j 41), .v (j 42), .v (j 43), .v (j 44), .v (j 45), .v (j 46), .v (j 47), .v (j 48), .v (j 49), .v (j 50), .v (j 51), .v (j 52), .v (j 53), .v (j 54), .v (j 55), .v (j 56), .v (j 57), .v (j 58), .v (j 59), .v (j 60), .v (j 61), .v (j 62), .v (j 63), .v (j 64), .v (j 65), .v (j 66), .v (j 67), .v (j 68), .v (j 69), .v (j 70), .v (j 71), .v (j 72), .v (j 73), .v (j 74), .v (j 75), .v (j 76), .v (j 77), .v (j 78), .v (j 79), .v (j 80), .v (j 81), .v (j 82), .v (j 83), .v (j 84), .v (j 85), .v (j 86), .v (j 87), .v (j 88), .v (j 89), .v (j 90), .v (j 91), .v (j 92), .v (j 93), .v (j 94)] [some [(.int .i64 xb0_0), (.int .i64 xb0_1), (.int .i64 xb0_2), (.slice ab0_3 nb0_3 cb0_3), (.slice ab0_4 nb0_4 cb0_4)]] h

def f60_5 (w0 : World) (K : Value → AH → Prop) (x19_0 : Int) (x19_1 : Int) (x19_2 : Int) (x20 : Int) (x28 : Bool) (xb0_0 : Int) (xb0_1 : Int) (xb0_2 : Int) (ab0_3 : Option Go.Addr) (nb0_3 : Nat) (cb0_3 : Nat) (ab0_4 : Option Go.Addr) (nb0_4 : Nat) (cb0_4 : Nat) (h : AH) : Prop :=
  ∀ j : Nat → Value, LPk Go.Proofs.Try.prog w0 (EvC Go.Proofs.Try.prog w0) f60_J 60 K 5 [.v (j 0), .bp 0 0, .v (j 2), .v (j 3), .v (j 4), .v (j 5), .v (j 6), .v (j 7), .v (j 8), .v (j 9), .v (j 10), .v (j 11), .v (j 12), .v (j 13), .v (j 14), .v (j 15), .v (j 16), .v (j 17), .v (j 18), .v (.agg #[(.int .i64 x19_0), (.int .i64 x19_1), (.int .i64 x19_2)]), .v (.int .i64 x20), .v (j 21), .v (j 22), .v (j 23), .v (j 24), .v (j 25), .v (j 26), .v (j 27), .v (.bool x28), .v (j 29), .v (j 30), .v (j 31), .v (j 32), .v (j 33), .v (j 34), .v (j 35), .v (j 36), .v (j 37), .v (j 38), .v (j 39), .v (j 40), .v (j 41), .v (j 42), .v (j 43), .v (j 44), .v (j 45), .v (j 46), .v (j 47), .v (j 48), .v (j 49), .v (j 50), .v (j 51), .v (j 52), .v (j 53), .v (j 54), .v (j 55), .v (j 56), .v (j 57), .v (j 58), .v (j 59), .v (j 60), .v (j 61), .v (j 62), .v (j 63), .v (j 64), .v (j 65), .v (j 66), .v (j 67), .v (j 68), .v (j 69), .v (j 70), .v (j 71), .v (j 72), .v (j 73), .v (j 74), .v (j 75), .v (j 76), .v (j 77), .v (j 78), .v (j 79), .v (j 80), .v (j 81), .v (j 82), .v (j 83), .v (j 84), .v (j 85), .v (j 86), .v (j 87), .v (j 88), .v (j 89), .v (j 90), .v (j 91), .v (j 92), .v (j 93), .v (j 94)] [some [(.int .i64 xb0_0), (.int .i64 xb0_1), (.int .i64 xb0_2), (.slice ab0_3 nb0_3 cb0_3), (.slice ab0_4 nb0_4 cb0_4)]] h

def f60_8 (w0 : World) (K : Value → AH → Prop) (x39 : Bool) (xb0_0 : Int) (xb0_1 : Int) (xb0_2 : Int) (ab0_3 : Option Go.Addr) (nb0_3 : Nat) (cb0_3 : Nat) (ab0_4 : Option Go.Addr) (nb0_4 : Nat) (cb0_4 : Nat) (h : AH) : Prop :=
  ∀ j : Nat → Value, LPk Go.Proofs.Try.prog w0 (EvC Go.Proofs.Try.prog w0) f60_J 60 K 8 [.v (j 0), .bp 0 0, .v (j 2), .v (j 3), .v (j 4), .v (j 5), .v (j 6), .v (j 7), .v (j 8), .v (j 9), .v (j 10), .v (j 11), .v (j 12), .v (j 13), .v (j 14), .v (j 15), .v (j 16), .v (j 17), .v (j 18), .v (j 19), .v (j 20), .v (j 21), .v (j 22), .v (j 23), .v (j 24), .v (j 25), .v (j 26), .v (j 27), .v (j 28), .v (j 29), .v (j 30), .v (j 31), .v (j 32), .v (j 33), .v (j 34), .v (j 35), .v (j 36), .v (j 37), .v (j 38), .v (.bool x39), .v (j 40), .v (j 41), .v (j 42), .v (j 43), .v (j 44), .v (j 45), .v (j 46), .v (j 47), .v (j 48), .v (j 49), .v (j 50), .v (j 51), .v (j 52), .v (j 53), .v (j 54), .v (j 55), .v (j 56), .v (j 57), .v (j 58), .v (j 59), .v (j 60), .v (j 61), .v (j 62), .v (j 63), .v (j 64), .v (j 65), .v (j 66), .v (j 67), .v (j 68), .v (j 69), .v (j 70), .v (j 71), .v (j 72), .v (j 73), .v (j 74), .v (j 75), .v (j 76), .v (j 77), .v (j 78), .v (j 79), .v (j 80), .v (j 81), .v (j 82), .v (j 83), .v (j 84), .v (j 85), .v (j 86), .v (j 87), .v (j 88), .v (j 89), .v (j 90), .v (j 91), .v (j 92), .v (j 93), .v (j 94)] [some [(.int .i64 xb0_0), (.int .i64 xb0_1), (.int .i64 xb0_2), (.slice ab0_3 nb0_3 cb0_3), (.slice ab0_4 nb0_4 cb0_4)]] h

def f60_9 (w0 : World) (K : Value → AH → Prop) (xb0_0 : Int) (xb0_1 : Int) (xb0_2 : Int) (ab0_3 : Option Go.Addr) (nb0_3 : Nat) (cb0_3 : Nat) (ab0_4 : Option Go.Addr) (nb0_4 : Nat) (cb0_4 : Nat) (h : AH) : Prop :=
  ∀ j : Nat → Value, LPk Go.Proofs.Try.prog w0 (EvC Go.Proofs.Try.prog w0) f60_J 60 K 9 [.v (j 0), .bp 0 0, .v (j 2), .v (j 3), .v (j 4), .v (j 5), .v (j 6), .v (j 7), .v (j 8), .v (j 9), .v (j 10), .v (j 11), .v (j 12), .v (j 13), .v (j 14), .v (j 15), .v (j 16), .v (j 17), .v (j 18), .v (j 19), .v (j 20), .v (j 21), .v (j 22), .v (j 23), .v (j 24), .v (j 25), .v (j 26), .v (j 27), .v (j 28), .v (j 29), .v (j 30), .v (j 31), .v (j 32), .v (j 33), .v (j 34), .v (j 35), .v (j 36), .v (j 37), .v (j 38), .v (j 39), .v (j 40), .v (j 41), .v (j 42), .v (j 43), .v (j 44), .v (j 45), .v (j 46), .v (j 47), .v (j 48), .v (j 49), .v (j 50), .v (j 51), .v (j 52), .v (j 53), .v (j 54), .v (j 55), .v (j 56), .v (j 57), .v (j 58), .v (j 59), .v (j 60), .v (j 61), .v (j 62), .v (j 63), .v (j 64), .v (j 65), .v (j 66), .v (j 67), .v (j 68), .v (j 69), .v (j 70), .v (j 71), .v (j 72), .v (j 73), .v (j 74), .v (j 75), .v (j 76), .v (j 77), .v (j 78), .v (j 79), .v (j 80), .v (j 81), .v (j 82), .v (j 83), .v (j 84), .v (j 85), .v (j 86), .v (j 87), .v (j 88), .v (j 89), .v (j 90), .v (j 91), .v (j 92), .v (j 93), .v (j 94)] [some [(.int .i64 xb0_0), (.int .i64 xb0_1), (.int .i64 xb0_2), (.slice ab0_3 nb0_3 cb0_3), (.slice ab0_4 nb0_4 cb0_4)]] h

def f60_10 (w0 : World) (K : Value → AH → Prop) (a41 : Option Go.Addr) (n41 : Nat) (c41 : Nat) (x42 : Int) (x43 : Int) (xb0_0 : Int) (xb0_1 : Int) (xb0_2 : Int) (ab0_3 : Option Go.Addr) (nb0_3 : Nat) (cb0_3 : Nat) (ab0_4 : Option Go.Addr) (nb0_4 : Nat) (cb0_4 : Nat) (h : AH) : Prop :=
  ∀ j : Nat → Value, LPk Go.Proofs.Try.prog w0 (EvC Go.Proofs.Try.prog w0) f60_J 60 K 10 [.v (j 0), .bp 0 0, .v (j 2), .v (j 3), .v (j 4), .v (j 5), .v (j 6), .v (j 7), .v (j 8), .v (j 9), .v (j 10), .v (j 11), .v (j 12), .v (j 13), .v (j 14), .v (j 15), .v (j 16), .v (j 17), .v (j 18), .v (j 19), .v (j 20), .v (j 21), .v (j 22), .v (j 23), .v (j 24), .v (j 25), .v (j 26), .v (j 27), .v (j 28), .v (j 29), .v (j 30), .v (j 31), .v (j 32), .v (j 33), .v (j 34), .v (j 35), .v (j 36), .v (j 37), .v (j 38), .v (j 39), .v (j 40), .v (.slice a41 n41 c41), .v (.int .i64 x42), .v (.int .i64 x43), .v (j 44), .v (j 45), .v (j 46), .v (j 47), .v (j 48), .v (j 49), .v (j 50), .v (j 51), .v (j 52), .v (j 53), .v (j 54), .v (j 55), .v (j 56), .v (j 57), .v (j 58), .v (j 59), .v (j 60), .v (j 61), .v (j 62), .v (j 63), .v (j 64), .v (j 65), .v (j 66), .v (j 67), .v (j 68), .v (j 69), .v (j 70), .v (j 71), .v (j 72), .v (j 73), .v (j 74), .v (j 75), .v (j 76), .v (j 77), .v (j 78), .v (j 79), .v (j 80), .v (j 81), .v (j 82), .v (j 83), .v (j 84), .v (j 85), .v (j 86), .v (j 87), .v (j 88), .v (j 89), .v (j 90), .v (j 91), .v (j 92), .v (j 93), .v (j 94)] [some [(.int .i64 xb0_0), (.int .i64 xb0_1), (.int .i64 xb0_2), (.slice ab0_3 nb0_3 cb0_3), (.slice ab0_4 nb0_4 cb0_4)]] h

def f60_15 (w0 : World) (K : Value → AH → Prop) (a41 : Option Go.Addr) (n41 : Nat) (c41 : Nat) (x42 : Int) (x43 : Int) (a54 : Option Go.Addr) (n54 : Nat) (c54 : Nat) (x55 : Int) (x56 : Int) (xb0_0 : Int) (xb0_1 : Int) (xb0_2 : Int) (ab0_3 : Option Go.Addr) (nb0_3 : Nat) (cb0_3 : Nat) (ab0_4 : Option Go.Addr) (nb0_4 : Nat) (cb0_4 : Nat) (xb1_0 : Int) (xb1_1 : Int) (xb1_2 : Int) (ab1_3 : Option Go.Addr) (nb1_3 : Nat) (cb1_3 : Nat) (ab1_4 : Option Go.Addr) (nb1_4 : Nat) (cb1_4 : Nat) (h : AH) : Prop :=
  ∀ j : Nat → Value, LPk Go.Proofs.Try.prog w0 (EvC Go.Proofs.Try.prog w0) f60_J 60 K 15 [.v (j 0), .bp 0 0, .v (j 2), .v (j 3), .v (j 4), .v (j 5), .bp 1 0, .v (j 7), .v (j 8), .v (j 9), .v (j 10), .v (j 11), .v (j 12), .v (j 13), .v (j 14), .v (j 15), .v (j 16), .v (j 17), .v (j 18), .v (j 19), .v (j 20), .v (j 21), .v (j 22), .v (j 23), .v (j 24), .v (j 25), .v (j 26), .v (j 27), .v (j 28), .v (j 29), .v (j 30), .v (j 31), .v (j 32), .v (j 33), .v (j 34), .v (j 35), .v (j 36), .v (j 37), .v (j 38), .v (j 39), .v (j 40), .v (.slice a41 n41 c41), .v (.int .i64 x42), .v (.int .i64 x43), .v (j 44), .v (j 45), .v (j 46), .v (j 47), .v (j 48), .v (j 49), .v (j 50), .v (j 51), .v (j 52), .v (j 53), .v (.slice a54 n54 c54), .v (.int .i64 x55), .v (.int .i64 x56), .v (j 57), .v (j 58), .v (j 59), .v (j 60), .v (j 61), .v (j 62), .v (j 63), .v (j 64), .v (j 65), .v (j 66), .v (j 67), .v (j 68), .v (j 69), .v (j 70), .v (j 71), .v (j 72), .v (j 73), .v (j 74), .v (j 75), .v (j 76), .v (j 77), .v (j 78), .v (j 79), .v (j 80), .v (j 81), .v (j 82), .v (j 83), .v (j 84), .v (j 85), .v (j 86), .v (j 87), .v (j 88), .v (j 89), .v (j 90), .v (j 91), .v (j 92), .v (j 93), .v (j 94)] [some [(.int .i64 xb0_0), (.int .i64 xb0_1), (.int .i64 xb0_2), (.slice ab0_3 nb0_3 cb0_3), (.slice ab0_4 nb0_4 cb0_4)], some [(.int .i64 xb1_0), (.int .i64 xb1_1), (.int .i64 xb1_2), (.slice ab1_3 nb1_3 cb1_3), (.slice ab1_4 nb1_4 cb1_4)]] h

def f60_22 (w0 : World) (K : Value → AH → Prop) (a68 : Option Go.Addr) (n68 : Nat) (c68 : Nat) (x69 : Int) (x70 : Int) (xb0_0 : Int) (xb0_1 : Int) (xb0_2 : Int) (ab0_3 : Option Go.Addr) (nb0_3 : Nat) (cb0_3 : Nat) (ab0_4 : Option Go.Addr) (nb0_4 : Nat) (cb0_4 : Nat) (h : AH) : Prop :=
  ∀ j : Nat → Value, LPk Go.Proofs.Try.prog w0 (EvC Go.Proofs.Try.prog w0) f60_J 60 K 22 [.v (j 0), .bp 0 0, .v (j 2), .v (j 3), .v (j 4), .v (j 5), .v (j 6), .v (j 7), .v (j 8), .v (j 9), .v (j 10), .v (j 11), .v (j 12), .v (j 13), .v (j 14), .v (j 15), .v (j 16), .v (j 17), .v (j 18), .v (j 19), .v (j 20), .v (j 21), .v (j 22), .v (j 23), .v (j 24), .v (j 25), .v (j 26), .v (j 27), .v (j 28), .v (j 29), .v (j 30), .v (j 31), .v (j 32), .v (j 33), .v (j 34), .v (j 35), .v (j 36), .v (j 37), .v (j 38), .v (j 39), .v (j 40), .v (j 41), .v (j 42), .v (j 43), .v (j 44), .v (j 45), .v (j 46), .v (j 47), .v (j 48), .v (j 49), .v (j 50), .v (j 51), .v (j 52), .v (j 53), .v (j 54), .v (j 55), .v (j 56), .v (j 57), .v (j 58), .v (j 59), .v (j 60), .v (j 61), .v (j 62), .v (j 63), .v (j 64), .v (j 65), .v (j 66), .v (j 67), .v (.slice a68 n68 c68), .v (.int .i64 x69), .v (.int .i64 x70), .v (j 71), .v (j 72), .v (j 73), .v (j 74), .v (j 75), .v (j 76), .v (j 77), .v (j 78), .v (j 79), .v (j 80), .v (j 81), .v (j 82), .v (j 83), .v (j 84), .v (j 85), .v (j 86), .v (j 87), .v (j 88), .v (j 89), .v (j 90), .v (j 91), .v (j 92), .v (j 93), .v (j 94)] [some [(.int .i64 xb0_0), (.int .i64 xb0_1), (.int .i64 xb0_2), (.slice ab0_3 nb0_3 cb0_3), (.slice ab0_4 nb0_4 cb0_4)]] h

def f60_25 (w0 : World) (K : Value → AH → Prop) (x9 : Int) (x10 : Int) (a68 : Option Go.Addr) (n68 : Nat) (c68 : Nat) (x69 : Int) (x70 : Int) (x80 : Bool) (xb0_0 : Int) (xb0_1 : Int) (xb0_2 : Int) (ab0_3 : Option Go.Addr) (nb0_3 : Nat) (cb0_3 : Nat) (ab0_4 : Option Go.Addr) (nb0_4 : Nat) (cb0_4 : Nat) (h : AH) : Prop :=
  ∀ j : Nat → Value, LPk Go.Proofs.Try.prog w0 (EvC Go.Proofs.Try.prog w0) f60_J 60 K 25 [.v (j 0), .bp 0 0, .v (j 2), .v (j 3), .v (j 4), .v (j 5), .v (j 6), .v (j 7), .v (j 8), .v (.int .i64 x9), .v (.int .i64 x10), .v (j 11), .v (j 12), .v (j 13), .v (j 14), .v (j 15), .v (j 16), .v (j 17), .v (j 18), .v (j 19), .v (j 20), .v (j 21), .v (j 22), .v (j 23), .v (j 24), .v (j 25), .v (j 26), .v (j 27), .v (j 28), .v (j 29), .v (j 30), .v (j 31), .v (j 32), .v (j 33), .v (j 34), .v (j 35), .v (j 36), .v (j 37), .v (j 38), .v (j 39), .v (j 40), .v (j 41), .v (j 42), .v (j 43), .v (j 44), .v (j 45), .v (j 46), .v (j 47), .v (j 48), .v (j 49), .v (j 50), .v (j 51), .v (j 52), .v (j 53), .v (j 54), .v (j 55), .v (j 56), .v (j 57), .v (j 58), .v (j 59), .v (j 60), .v (j 61), .v (j 62), .v (j 63), .v (j 64), .v (j 65), .v (j 66), .v (j 67), .v (.slice a68 n68 c68), .v (.int .i64 x69), .v (.int .i64 x70), .v (j 71), .v (j 72), .v (j 73), .v (j 74), .v (j 75), .v (j 76), .v (j 77), .v (j 78), .v (j 79), .v (.bool x80), .v (j 81), .v (j 82), .v (j 83), .v (j 84), .v (j 85), .v (j 86), .v (j 87), .v (j 88), .v (j 89), .v (j 90), .v (j 91), .v (j 92), .v (j 93), .v (j 94)] [some [(.int .i64 xb0_0), (.int .i64 xb0_1), (.int .i64 xb0_2), (.slice ab0_3 nb0_3 cb0_3), (.slice ab0_4 nb0_4 cb0_4)]] h

def f60_26 (w0 : World) (K : Value → AH → Prop) (x9 : Int) (x10 : Int) (a68 : Option Go.Addr) (n68 : Nat) (c68 : Nat) (x69 : Int) (x70 : Int) (xb0_0 : Int) (xb0_1 : Int) (xb0_2 : Int) (ab0_3 : Option Go.Addr) (nb0_3 : Nat) (cb0_3 : Nat) (ab0_4 : Option Go.Addr) (nb0_4 : Nat) (cb0_4 : Nat) (h : AH) : Prop :=
  ∀ j : Nat → Value, LPk Go.Proofs.Try.prog w0 (EvC Go.Proofs.Try.prog w0) f60_J 60 K 26 [.v (j 0), .bp 0 0, .v (j 2), .v (j 3), .v (j 4), .v (j 5), .v (j 6), .v (j 7), .v (j 8), .v (.int .i64 x9), .v (.int .i64 x10), .v (j 11), .v (j 12), .v (j 13), .v (j 14), .v (j 15), .v (j 16), .v (j 17), .v (j 18), .v (j 19), .v (j 20), .v (j 21), .v (j 22), .v (j 23), .v (j 24), .v (j 25), .v (j 26), .v (j 27), .v (j 28), .v (j 29), .v (j 30), .v (j 31), .v (j 32), .v (j 33), .v (j 34), .v (j 35), .v (j 36), .v (j 37), .v (j 38), .v (j 39), .v (j 40), .v (j 41), .v (j 42), .v (j 43), .v (j 44), .v (j 45), .v (j 46), .v (j 47), .v (j 48), .v (j 49), .v (j 50), .v (j 51), .v (j 52), .v (j 53), .v (j 54), .v (j 55), .v (j 56), .v (j 57), .v (j 58), .v (j 59), .v (j 60), .v (j 61), .v (j 62), .v (j 63), .v (j 64), .v (j 65), .v (j 66), .v (j 67), .v (.slice a68 n68 c68), .v (.int .i64 x69), .v (.int .i64 x70), .v (j 71), .v (j 72), .v (j 73), .v (j 74), .v (j 75), .v (j 76), .v (j 77), .v (j 78), .v (j 79), .v (j 80), .v (j 81), .v (j 82), .v (j 83), .v (j 84), .v (j 85), .v (j 86), .v (j 87), .v (j 88), .v (j 89), .v (j 90), .v (j 91), .v (j 92), .v (j 93), .v (j 94)] [some [(.int .i64 xb0_0), (.int .i64 xb0_1), (.int .i64 xb0_2), (.slice ab0_3 nb0_3 cb0_3), (.slice ab0_4 nb0_4 cb0_4)]] h

def f60_27 (w0 : World) (K : Value → AH → Prop) (x10 : Int) (a68 : Option Go.Addr) (n68 : Nat) (c68 : Nat) (x69 : Int) (x70 : Int) (a84 : Option Go.Addr) (n84 : Nat) (c84 : Nat) (x85 : Int) (x86 : Int) (xb0_0 : Int) (xb0_1 : Int) (xb0_2 : Int) (ab0_3 : Option Go.Addr) (nb0_3 : Nat) (cb0_3 : Nat) (ab0_4 : Option Go.Addr) (nb0_4 : Nat) (cb0_4 : Nat) (h : AH) : Prop :=
  ∀ j : Nat → Value, LPk Go.Proofs.Try.prog w0 (EvC Go.Proofs.Try.prog w0) f60_J 60 K 27 [.v (j 0), .bp 0 0, .v (j 2), .v (j 3), .v (j 4), .v (j 5), .v (j 6), .v (j 7), .v (j 8), .v (j 9), .v (.int .i64 x10), .v (j 11), .v (j 12), .v (j 13), .v (j 14), .v (j 15), .v (j 16), .v (j 17), .v (j 18), .v (j 19), .v (j 20), .v (j 21), .v (j 22), .v (j 23), .v (j 24), .v (j 25), .v (j 26), .v (j 27), .v (j 28), .v (j 29), .v (j 30), .v (j 31), .v (j 32), .v (j 33), .v (j 34), .v (j 35), .v (j 36), .v (j 37), .v (j 38), .v (j 39), .v (j 40), .v (j 41), .v (j 42), .v (j 43), .v (j 44), .v (j 45), .v (j 46), .v (j 47), .v (j 48), .v (j 49), .v (j 50), .v (j 51), .v (j 52), .v (j 53), .v (j 54), .v (j 55), .v (j 56), .v (j 57), .v (j 58), .v (j 59), .v (j 60), .v (j 61), .v (j 62), .v (j 63), .v (j 64), .v (j 65), .v (j 66), .v (j 67), .v (.slice a68 n68 c68), .v (.int .i64 x69), .v (.int .i64 x70), .v (j 71), .v (j 72), .v (j 73), .v (j 74), .v (j 75), .v (j 76), .v (j 77), .v (j 78), .v (j 79), .v (j 80), .v (j 81), .v (j 82), .v (j 83), .v (.slice a84 n84 c84), .v (.int .i64 x85), .v (.int .i64 x86), .v (j 87), .v (j 88), .v (j 89), .v (j 90), .v (j 91), .v (j 92), .v (j 93), .v (j 94)] [some [(.int .i64 xb0_0), (.int .i64 xb0_1), (.int .i64 xb0_2), (.slice ab0_3 nb0_3 cb0_3), (.slice ab0_4 nb0_4 cb0_4)]] h

theorem f60_2_in {w0 : World} {K : Value → AH → Prop} (x19_0 : Int) (x19_1 : Int) (x19_2 : Int) (x20 : Int) (xb0_0 : Int) (xb0_1 : Int) (xb0_2 : Int) (ab0_3 : Option Go.Addr) (nb0_3 : Nat) (cb0_3 : Nat) (ab0_4 : Option Go.Addr) (nb0_4 : Nat) (cb0_4 : Nat) (h : AH)
  (hv : (brB (decide ((x20 < (3 : Int)))) (((0 : Int) ≤ x20) ∧ ((x20 < (3 : Int)) ∧ (∃ i'0 : Int, ((Go.G.elemIs Go.Proofs.Try.prog 2 [(Go.Value.int .i64 x19_0), (Go.Value.int .i64 x19_1), (Go.Value.int .i64 x19_2)] (Int.toNat x20) (Go.Value.int .i64 i'0)) ∧ (brB (decide ((i'0 < (0 : Int)))) (f60_5 w0 K x19_0 x19_1 x19_2 x20 true xb0_0 xb0_1 xb0_2 ab0_3 nb0_3 cb0_3 ab0_4 nb0_4 cb0_4 h) (f60_5 w0 K x19_0 x19_1 x19_2 x20 (decide (((4611686018427387904 : Int) < i'0))) xb0_0 xb0_1 xb0_2 ab0_3 nb0_3 cb0_3 ab0_4 nb0_4 cb0_4 h)))))) (brB (decide (((200 : Int) < ((nb0_3 : Nat) : Int)))) (f60_8 w0 K true xb0_0 xb0_1 xb0_2 ab0_3 nb0_3 cb0_3 ab0_4 nb0_4 cb0_4 h) (f60_8 w0 K (decide (((200 : Int) < ((nb0_4 : Nat) : Int)))) xb0_0 xb0_1 xb0_2 ab0_3 nb0_3 cb0_3 ab0_4 nb0_4 cb0_4 h)))) :
  f60_2 w0 K x19_0 x19_1 x19_2 x20 xb0_0 xb0_1 xb0_2 ab0_3 nb0_3 cb0_3 ab0_4 nb0_4 cb0_4 h := fun j => LP_intro (P := Go.Proofs.Try.prog) (Eq.mp (by kernel_rfl) hv)

theorem f60_5_in {w0 : World} {K : Value → AH → Prop} (x19_0 : Int) (x19_1 : Int) (x19_2 : Int) (x20 : Int) (x28 : Bool) (xb0_0 : Int) (xb0_1 : Int) (xb0_2 : Int) (ab0_3 : Option Go.Addr) (nb0_3 : Nat) (cb0_3 : Nat) (ab0_4 : Option Go.Addr) (nb0_4 : Nat) (cb0_4 : Nat) (h : AH)
  (hv : (brB x28 (K (Go.Value.bool false) h) (f60_2 w0 K x19_0 x19_1 x19_2 (Go.IntKind.wrap .i64 (x20 + (1 : Int))) xb0_0 xb0_1 xb0_2 ab0_3 nb0_3 cb0_3 ab0_4 nb0_4 cb0_4 h))) :
  f60_5 w0 K x19_0 x19_1 x19_2 x20 x28 xb0_0 xb0_1 xb0_2 ab0_3 nb0_3 cb0_3 ab0_4 nb0_4 cb0_4 h := fun j => LP_intro (P := Go.Proofs.Try.prog) (Eq.mp (by kernel_rfl) hv)

theorem f60_8_in {w0 : World} {K : Value → AH → Prop} (x39 : Bool) (xb0_0 : Int) (xb0_1 : Int) (xb0_2 : Int) (ab0_3 : Option Go.Addr) (nb0_3 : Nat) (cb0_3 : Nat) (ab0_4 : Option Go.Addr) (nb0_4 : Nat) (cb0_4 : Nat) (h : AH)
  (hv : (brB x39 (K (Go.Value.bool false) h) (f60_9 w0 K xb0_0 xb0_1 xb0_2 ab0_3 nb0_3 cb0_3 ab0_4 nb0_4 cb0_4 h))) :
  f60_8 w0 K x39 xb0_0 xb0_1 xb0_2 ab0_3 nb0_3 cb0_3 ab0_4 nb0_4 cb0_4 h := fun j => LP_intro (P := Go.Proofs.Try.prog) (Eq.mp (by kernel_rfl) hv)

theorem f60_9_in {w0 : World} {K : Value → AH → Prop} (xb0_0 : Int) (xb0_1 : Int) (xb0_2 : Int) (ab0_3 : Option Go.Addr) (nb0_3 : Nat) (cb0_3 : Nat) (ab0_4 : Option Go.Addr) (nb0_4 : Nat) (cb0_4 : Nat) (h : AH)
  (hv : (f60_10 w0 K ab0_3 nb0_3 cb0_3 ((nb0_3 : Nat) : Int) (0 : Int) xb0_0 xb0_1 xb0_2 ab0_3 nb0_3 cb0_3 ab0_4 nb0_4 cb0_4 h)) :
  f60_9 w0 K xb0_0 xb0_1 xb0_2 ab0_3 nb0_3 cb0_3 ab0_4 nb0_4 cb0_4 h := fun j => LP_intro (P := Go.Proofs.Try.prog) (Eq.mp (by kernel_rfl) hv)

theorem f60_10_in {w0 : World} {K : Value → AH → Prop} (a41 : Option Go.Addr) (n41 : Nat) (c41 : Nat) (x42 : Int) (x43 : Int) (xb0_0 : Int) (xb0_1 : Int) (xb0_2 : Int) (ab0_3 : Option Go.Addr) (nb0_3 : Nat) (cb0_3 : Nat) (ab0_4 : Option Go.Addr) (nb0_4 : Nat) (cb0_4 : Nat) (h : AH)
  (hv : (brB (decide ((x43 < x42))) (∃ a'1 : Go.Addr, ((a41 = (some a'1)) ∧ (((0 : Int) ≤ x43) ∧ ((x43 < ((n41 : Nat) : Int)) ∧ (∃ i'2 : Int, (∃ i'3 : Int, (∃ i'4 : Int, (∃ p'5 : Option Go.Addr, (∃ n'6 : Nat, (∃ n'7 : Nat, (∃ p'8 : Option Go.Addr, (∃ n'9 : Nat, (∃ n'10 : Nat, ((((Array.size #[(Go.Value.int .i64 i'2), (Go.Value.int .i64 i'3), (Go.Value.int .i64 i'4), (Go.Value.slice p'5 n'6 n'7), (Go.Value.slice p'8 n'9 n'10)]) = 5) ∧ (At w0 h (Go.Addr.add a'1 ((Int.toNat x43) * 5)) [(Go.Value.int .i64 i'2), (Go.Value.int .i64 i'3), (Go.Value.int .i64 i'4), (Go.Value.slice p'5 n'6 n'7), (Go.Value.slice p'8 n'9 n'10)])) ∧ (EvC Go.Proofs.Try.prog w0 54 #[(Go.Value.agg #[(Go.Value.int .i64 i'2), (Go.Value.int .i64 i'3), (Go.Value.int .i64 i'4), (Go.Value.slice p'5 n'6 n'7), (Go.Value.slice p'8 n'9 n'10)])] (fun x'11 h'12 => (∃ t'13 : Bool, ((x'11 = (Go.Value.bool t'13)) ∧ (brB (!t'13) (K (Go.Value.bool false) h'12) (((0 : Int) ≤ x43) ∧ ((x43 ≤ ((cb0_3 : Nat) : Int)) ∧ (f60_15 w0 K a41 n41 c41 x42 x43 ab0_3 (Int.toNat x43) cb0_3 (((Int.toNat x43) : Nat) : Int) (0 : Int) xb0_0 xb0_1 xb0_2 ab0_3 nb0_3 cb0_3 ab0_4 nb0_4 cb0_4 i'2 i'3 i'4 p'5 n'6 n'7 p'8 n'9 n'10 h'12))))))) h))))))))))))))) (f60_22 w0 K ab0_4 nb0_4 cb0_4 ((nb0_4 : Nat) : Int) (0 : Int) xb0_0 xb0_1 xb0_2 ab0_3 nb0_3 cb0_3 ab0_4 nb0_4 cb0_4 h))) :
  f60_10 w0 K a41 n41 c41 x42 x43 xb0_0 xb0_1 xb0_2 ab0_3 nb0_3 cb0_3 ab0_4 nb0_4 cb0_4 h := fun j => LP_intro (P := Go.Proofs.Try.prog) (Eq.mp (by kernel_rfl) hv)

theorem f60_15_in {w0 : World} {K : Value → AH → Prop} (a41 : Option Go.Addr) (n41 : Nat) (c41 : Nat) (x42 : Int) (x43 : Int) (a54 : Option Go.Addr) (n54 : Nat) (c54 : Nat) (x55 : Int) (x56 : Int) (xb0_0 : Int) (xb0_1 : Int) (xb0_2 : Int) (ab0_3 : Option Go.Addr) (nb0_3 : Nat) (cb0_3 : Nat) (ab0_4 : Option Go.Addr) (nb0_4 : Nat) (cb0_4 : Nat) (xb1_0 : Int) (xb1_1 : Int) (xb1_2 : Int) (ab1_3 : Option Go.Addr) (nb1_3 : Nat) (cb1_3 : Nat) (ab1_4 : Option Go.Addr) (nb1_4 : Nat) (cb1_4 : Nat) (h : AH)
  (hv : (brB (decide ((x56 < x55))) (∃ a'14 : Go.Addr, ((a54 = (some a'14)) ∧ (((0 : Int) ≤ x56) ∧ ((x56 < ((n54 : Nat) : Int)) ∧ (∃ i'15 : Int, (∃ i'16 : Int, (∃ i'17 : Int, (∃ p'18 : Option Go.Addr, (∃ n'19 : Nat, (∃ n'20 : Nat, (∃ p'21 : Option Go.Addr, (∃ n'22 : Nat, (∃ n'23 : Nat, ((((Array.size #[(Go.Value.int .i64 i'15), (Go.Value.int .i64 i'16), (Go.Value.int .i64 i'17), (Go.Value.slice p'18 n'19 n'20), (Go.Value.slice p'21 n'22 n'23)]) = 5) ∧ (At w0 h (Go.Addr.add a'14 ((Int.toNat x56) * 5)) [(Go.Value.int .i64 i'15), (Go.Value.int .i64 i'16), (Go.Value.int .i64 i'17), (Go.Value.slice p'18 n'19 n'20), (Go.Value.slice p'21 n'22 n'23)])) ∧ (brB (i'15 == xb1_0) (K (Go.Value.bool false) h) (f60_15 w0 K a41 n41 c41 x42 x43 a54 n54 c54 x55 (Go.IntKind.wrap .i64 (x56 + (1 : Int))) xb0_0 xb0_1 xb0_2 ab0_3 nb0_3 cb0_3 ab0_4 nb0_4 cb0_4 xb1_0 xb1_1 xb1_2 ab1_3 nb1_3 cb1_3 ab1_4 nb1_4 cb1_4 h)))))))))))))))) (f60_10 w0 K a41 n41 c41 x42 (Go.IntKind.wrap .i64 (x43 + (1 : Int))) xb0_0 xb0_1 xb0_2 ab0_3 nb0_3 cb0_3 ab0_4 nb0_4 cb0_4 h))) :
  f60_15 w0 K a41 n41 c41 x42 x43 a54 n54 c54 x55 x56 xb0_0 xb0_1 xb0_2 ab0_3 nb0_3 cb0_3 ab0_4 nb0_4 cb0_4 xb1_0 xb1_1 xb1_2 ab1_3 nb1_3 cb1_3 ab1_4 nb1_4 cb1_4 h := fun j => LP_intro (P := Go.Proofs.Try.prog) (Eq.mp (by kernel_rfl) hv)

theorem f60_22_in {w0 : World} {K : Value → AH → Prop} (a68 : Option Go.Addr) (n68 : Nat) (c68 : Nat) (x69 : Int) (x70 : Int) (xb0_0 : Int) (xb0_1 : Int) (xb0_2 : Int) (ab0_3 : Option Go.Addr) (nb0_3 : Nat) (cb0_3 : Nat) (ab0_4 : Option Go.Addr) (nb0_4 : Nat) (cb0_4 : Nat) (h : AH)
  (hv : (brB (decide ((x70 < x69))) (∃ a'24 : Go.Addr, ((a68 = (some a'24)) ∧ (((0 : Int) ≤ x70) ∧ ((x70 < ((n68 : Nat) : Int)) ∧ (∃ i'25 : Int, (((Go.G.cellA w0 h (Go.Addr.add a'24 ((Int.toNat x70) * 1))) = (some (Go.Value.int .i64 i'25))) ∧ (brB (decide ((i'25 < (1 : Int)))) (f60_25 w0 K x70 i'25 a68 n68 c68 x69 x70 true xb0_0 xb0_1 xb0_2 ab0_3 nb0_3 cb0_3 ab0_4 nb0_4 cb0_4 h) (f60_25 w0 K x70 i'25 a68 n68 c68 x69 x70 (decide (((1099511627776 : Int) < i'25))) xb0_0 xb0_1 xb0_2 ab0_3 nb0_3 cb0_3 ab0_4 nb0_4 cb0_4 h)))))))) (K (Go.Value.bool true) h))) :
  f60_22 w0 K a68 n68 c68 x69 x70 xb0_0 xb0_1 xb0_2 ab0_3 nb0_3 cb0_3 ab0_4 nb0_4 cb0_4 h := fun j => LP_intro (P := Go.Proofs.Try.prog) (Eq.mp (by kernel_rfl) hv)

theorem f60_25_in {w0 : World} {K : Value → AH → Prop} (x9 : Int) (x10 : Int) (a68 : Option Go.Addr) (n68 : Nat) (c68 : Nat) (x69 : Int) (x70 : Int) (x80 : Bool) (xb0_0 : Int) (xb0_1 : Int) (xb0_2 : Int) (ab0_3 : Option Go.Addr) (nb0_3 : Nat) (cb0_3 : Nat) (ab0_4 : Option Go.Addr) (nb0_4 : Nat) (cb0_4 : Nat) (h : AH)
  (hv : (brB x80 (K (Go.Value.bool false) h) (f60_26 w0 K x9 x10 a68 n68 c68 x69 x70 xb0_0 xb0_1 xb0_2 ab0_3 nb0_3 cb0_3 ab0_4 nb0_4 cb0_4 h))) :
  f60_25 w0 K x9 x10 a68 n68 c68 x69 x70 x80 xb0_0 xb0_1 xb0_2 ab0_3 nb0_3 cb0_3 ab0_4 nb0_4 cb0_4 h := fun j => LP_intro (P := Go.Proofs.Try.prog) (Eq.mp (by kernel_rfl) hv)

theorem f60_26_in {w0 : World} {K : Value → AH → Prop} (x9 : Int) (x10 : Int) (a68 : Option Go.Addr) (n68 : Nat) (c68 : Nat) (x69 : Int) (x70 : Int) (xb0_0 : Int) (xb0_1 : Int) (xb0_2 : Int) (ab0_3 : Option Go.Addr) (nb0_3 : Nat) (cb0_3 : Nat) (ab0_4 : Option Go.Addr) (nb0_4 : Nat) (cb0_4 : Nat) (h : AH)
  (hv : (((0 : Int) ≤ x9) ∧ ((x9 ≤ ((cb0_4 : Nat) : Int)) ∧ (f60_27 w0 K x10 a68 n68 c68 x69 x70 ab0_4 (Int.toNat x9) cb0_4 (((Int.toNat x9) : Nat) : Int) (0 : Int) xb0_0 xb0_1 xb0_2 ab0_3 nb0_3 cb0_3 ab0_4 nb0_4 cb0_4 h)))) :
  f60_26 w0 K x9 x10 a68 n68 c68 x69 x70 xb0_0 xb0_1 xb0_2 ab0_3 nb0_3 cb0_3 ab0_4 nb0_4 cb0_4 h := fun j => LP_intro (P := Go.Proofs.Try.prog) (Eq.mp (by kernel_rfl) hv)

theorem f60_27_in {w0 : World} {K : Value → AH → Prop} (x10 : Int) (a68 : Option Go.Addr) (n68 : Nat) (c68 : Nat) (x69 : Int) (x70 : Int) (a84 : Option Go.Addr) (n84 : Nat) (c84 : Nat) (x85 : Int) (x86 : Int) (xb0_0 : Int) (xb0_1 : Int) (xb0_2 : Int) (ab0_3 : Option Go.Addr) (nb0_3 : Nat) (cb0_3 : Nat) (ab0_4 : Option Go.Addr) (nb0_4 : Nat) (cb0_4 : Nat) (h : AH)
  (hv : (brB (decide ((x86 < x85))) (∃ a'26 : Go.Addr, ((a84 = (some a'26)) ∧ (((0 : Int) ≤ x86) ∧ ((x86 < ((n84 : Nat) : Int)) ∧ (∃ i'27 : Int, (((Go.G.cellA w0 h (Go.Addr.add a'26 ((Int.toNat x86) * 1))) = (some (Go.Value.int .i64 i'27))) ∧ (brB (i'27 == x10) (K (Go.Value.bool false) h) (f60_27 w0 K x10 a68 n68 c68 x69 x70 a84 n84 c84 x85 (Go.IntKind.wrap .i64 (x86 + (1 : Int))) xb0_0 xb0_1 xb0_2 ab0_3 nb0_3 cb0_3 ab0_4 nb0_4 cb0_4 h)))))))) (f60_22 w0 K a68 n68 c68 x69 (Go.IntKind.wrap .i64 (x70 + (1 : Int))) xb0_0 xb0_1 xb0_2 ab0_3 nb0_3 cb0_3 ab0_4 nb0_4 cb0_4 h))) :
  f60_27 w0 K x10 a68 n68 c68 x69 x70 a84 n84 c84 x85 x86 xb0_0 xb0_1 xb0_2 ab0_3 nb0_3 cb0_3 ab0_4 nb0_4 cb0_4 h := fun j => LP_intro (P := Go.Proofs.Try.prog) (Eq.mp (by kernel_rfl) hv)

theorem f60_go {w0 : World} {K : Value → AH → Prop} (x0_0 : Int) (x0_1 : Int) (x0_2 : Int) (a0_3 : Option Go.Addr) (n0_3 : Nat) (c0_3 : Nat) (a0_4 : Option Go.Addr) (n0_4 : Nat) (c0_4 : Nat) (h : AH)
  (hv : (f60_2 w0 K x0_0 x0_1 x0_2 (0 : Int) x0_0 x0_1 x0_2 a0_3 n0_3 c0_3 a0_4 n0_4 c0_4 h)) :
  EvC Go.Proofs.Try.prog w0 60 ([(.agg #[(.int .i64 x0_0), (.int .i64 x0_1), (.int .i64 x0_2), (.slice a0_3 n0_3 c0_3), (.slice a0_4 n0_4 c0_4)])]).toArray K h := EvC_intro (P := Go.Proofs.Try.prog) f60_J (Eq.mp (by kernel_rfl) hv)
theorem elem3 {x0 x1 x2 : Int} {B : Int → Prop} {i : Nat} (h0 : i = 0 → B x0) (h1 : i = 1 → B x1) (h2 : i = 2 → B x2) (hi : i < 3) :
    ((0 : Int) ≤ ((i : Nat) : Int)) ∧ ((((i : Nat) : Int) < (3 : Int)) ∧ ∃ v : Int, elemIs Go.Proofs.Try.prog 2 [Value.int .i64 x0, Value.int .i64 x1, Value.int .i64 x2] (Int.toNat ((i : Nat) : Int)) (Value.int .i64 v) ∧ B v) := by
  match i, hi with
  | 0, _ => exact ⟨by omega, by omega, x0, Eq.mp (by kernel_rfl) (Eq.refl (some (Value.int .i64 x0))), h0 rfl⟩
  | 1, _ => exact ⟨by omega, by omega, x1, Eq.mp (by kernel_rfl) (Eq.refl (some (Value.int .i64 x1))), h1 rfl⟩
  | 2, _ => exact ⟨by omega, by omega, x2, Eq.mp (by kernel_rfl) (Eq.refl (some (Value.int .i64 x2))), h2 rfl⟩

section
variable {w0 : World} {K : Value → AH → Prop} {h : AH} {lo nx sq : Int} {a b : Option Addr} {n c m d : Nat} {add : List Tab} {rem : List Int}

theorem f60_27_ok (r : IS w0 h b m d rem) {x : Int} {y : Option Addr} {y1 y2 : Nat} {y3 y4 : Int} {i : Nat} (hi : i ≤ m)
    (hk1 : ((rem.take i).any fun z => z == x) = true → K (.bool false) h)
    (hk0 : ((rem.take i).any fun z => z == x) = false → f60_22 w0 K y y1 y2 y3 (IntKind.i64.wrap (y4 + 1)) lo nx sq a n c b m d h) :
    ∀ (rest : List Int) (j : Nat), (rem.take i).drop j = rest → j ≤ i → (((rem.take i).any fun z => z == x) = rest.any fun z => z == x) → f60_27 w0 K x y y1 y2 y3 y4 b i d ((i : Nat) : Int) ((j : Nat) : Int) lo nx sq a n c b m d h := by
  have s := r.take hi
  intro rest
  induction rest with
  | nil =>
    intro j hd hj he
    have := drop_done hd
    have := s.len
    exact f60_27_in _ _ _ _ _ _ _ _ _ _ _ _ _ _ _ _ _ _ _ _ _ (brB_of (fun q => by simp at q; omega) fun _ => hk0 he)
  | cons z rs ih =>
    intro j hd hj he
    obtain ⟨hget, hd', hlt⟩ := drop_step hd
    have hsl := s.len
    have hsm := s.sm
    refine f60_27_in _ _ _ _ _ _ _ _ _ _ _ _ _ _ _ _ _ _ _ _ _ (brB_of (fun _ => intLoad s.rs.rd s.len hget ?_) fun q => by simp at q; omega)
    refine brB_of (fun q => hk1 (by rw [he, List.any_cons, q]; rfl)) fun q => ?_
    rw [wrapS (by omega)]
    exact ih (j + 1) hd' (by omega) (by rw [he, List.any_cons, q]; rfl)

theorem f60_22_ok (r : IS w0 h b m d rem) :
    ∀ (rest : List Int) (i : Nat), rem.drop i = rest → i ≤ m → K (.bool (uniqN (rem.take i) rest)) h → f60_22 w0 K b m d ((m : Nat) : Int) ((i : Nat) : Int) lo nx sq a n c b m d h := by
  intro rest
  induction rest with
  | nil =>
    intro i hd hi hk
    have := drop_done hd
    have := r.len
    exact f60_22_in _ _ _ _ _ _ _ _ _ _ _ _ _ _ _ (brB_of (fun q => by simp at q; omega) fun _ => hk)
  | cons x rs ih =>
    intro i hd hi hk
    obtain ⟨hget, hd', hlt⟩ := drop_step hd
    have hsl := r.len
    have hsm := r.sm
    have hcap := r.cap
    have htake : rem.take (i + 1) = rem.take i ++ [x] := by rw [List.take_add_one, hget]; rfl
    have step : ∀ q : Bool, (q = true → uniqN (rem.take i) (x :: rs) = false) → (q = false → 1 ≤ x ∧ x ≤ 1099511627776) → f60_25 w0 K ((i : Nat) : Int) x b m d ((m : Nat) : Int) ((i : Nat) : Int) q lo nx sq a n c b m d h := fun q h1 h0 => by
      refine f60_25_in _ _ _ _ _ _ _ _ _ _ _ _ _ _ _ _ _ _ (brB_of (fun e => ?_) fun e => ?_)
      · rw [h1 e] at hk; exact hk
      · obtain ⟨g1, g2⟩ := h0 e
        refine f60_26_in _ _ _ _ _ _ _ _ _ _ _ _ _ _ _ _ _ ⟨by omega, by omega, ?_⟩
        refine f60_27_ok r hi (fun q1 => ?_) (fun q0 => ?_) _ 0 rfl (by omega) rfl
        · have : uniqN (rem.take i) (x :: rs) = false := by
            simp only [uniqN]; rw [q1]; simp
          rw [this] at hk; exact hk
        · rw [wrapS (by omega)]
          refine ih (i + 1) hd' (by omega) ?_
          have : uniqN (rem.take i) (x :: rs) = uniqN (rem.take (i + 1)) rs := by
            simp only [uniqN]; rw [q0, htake]; simp [g1, g2]
          rw [← this]; exact hk
    refine f60_22_in _ _ _ _ _ _ _ _ _ _ _ _ _ _ _ (brB_of (fun _ => intLoad r.rs.rd r.len hget ?_) fun q => by simp at q; omega)
    refine brB_of (fun q => step _ (fun _ => ?_) (fun e => by cases e)) fun q => step _ (fun q2 => ?_) fun q2 => ?_
    all_goals simp only [decide_eq_true_eq, decide_eq_false_iff_not] at *
    · have : ¬ 1 ≤ x := by omega
      simp [uniqN, this]
    · have : ¬ x ≤ 1099511627776 := by omega
      simp [uniqN, this]
    · omega

theorem f60_15_ok (s : TS w0 h a n c add) {t : Tab} {y : Option Addr} {y1 y2 : Nat} {y3 y4 : Int} {i : Nat} (hi : i ≤ n)
    (hk1 : ((add.take i).any fun z => z.num == t.num) = true → K (.bool false) h)
    (hk0 : ((add.take i).any fun z => z.num == t.num) = false → f60_10 w0 K y y1 y2 y3 (IntKind.i64.wrap (y4 + 1)) lo nx sq a n c b m d h) :
    ∀ (rest : List Tab) (j : Nat), (add.take i).drop j = rest → j ≤ i → (((add.take i).any fun z => z.num == t.num) = rest.any fun z => z.num == t.num) →
      f60_15 w0 K y y1 y2 y3 y4 a i c ((i : Nat) : Int) ((j : Nat) : Int) lo nx sq a n c b m d t.num t.lev t.siz t.lp t.ln t.lc t.mp t.mn t.mc h := by
  have s := s.take hi
  intro rest
  induction rest with
  | nil =>
    intro j hd hj he
    have := drop_done hd
    have := s.len
    exact f60_15_in _ _ _ _ _ _ _ _ _ _ _ _ _ _ _ _ _ _ _ _ _ _ _ _ _ _ _ _ _ (brB_of (fun q => by simp at q; omega) fun _ => hk0 he)
  | cons z rs ih =>
    intro j hd hj he
    obtain ⟨hget, hd', hlt⟩ := drop_step hd
    have hsl := s.len
    have hsm := s.sm
    refine f60_15_in _ _ _ _ _ _ _ _ _ _ _ _ _ _ _ _ _ _ _ _ _ _ _ _ _ _ _ _ _ (brB_of (fun _ => tabLoad s.rs.rd s.len hget ?_) fun q => by simp at q; omega)
    refine brB_of (fun q => hk1 (by rw [he, List.any_cons, q]; rfl)) fun q => ?_
    rw [wrapS (by omega)]
    exact ih (j + 1) hd' (by omega) (by rw [he, List.any_cons, q]; rfl)

theorem f60_10_ok (s : TS w0 h a n c add) (hk0 : uniqT [] add = false → K (.bool false) h) (hk1 : uniqT [] add = true → f60_22 w0 K b m d ((m : Nat) : Int) (0 : Int) lo nx sq a n c b m d h) :
    ∀ (rest : List Tab) (i : Nat), add.drop i = rest → i ≤ n → uniqT [] add = uniqT (add.take i) rest → f60_10 w0 K a n c ((n : Nat) : Int) ((i : Nat) : Int) lo nx sq a n c b m d h := by
  intro rest
  induction rest with
  | nil =>
    intro i hd hi he
    have := drop_done hd
    have := s.len
    exact f60_10_in _ _ _ _ _ _ _ _ _ _ _ _ _ _ _ (brB_of (fun q => by simp at q; omega) fun _ => hk1 he)
  | cons t rs ih =>
    intro i hd hi he
    obtain ⟨hget, hd', hlt⟩ := drop_step hd
    have hsl := s.len
    have hsm := s.sm
    have hcap := s.cap
    have htake : add.take (i + 1) = add.take i ++ [t] := by rw [List.take_add_one, hget]; rfl
    refine f60_10_in _ _ _ _ _ _ _ _ _ _ _ _ _ _ _ (brB_of (fun _ => tabLoad s.rs.rd s.len hget ?_) fun q => by simp at q; omega)
    refine f54_spec (t := t) (s.ok t (List.mem_of_getElem? hget)) ⟨_, rfl, brB_of (fun q => ?_) fun q => ⟨by omega, by omega, ?_⟩⟩
    · refine hk0 ?_
      have : mayT t = false := by simpa using q
      rw [he]; simp [uniqT, this]
    have hm : mayT t = true := by simpa using q
    rw [Int.toNat_natCast]
    refine f60_15_ok s hi (fun q1 => hk0 ?_) (fun q0 => ?_) _ 0 rfl (by omega) rfl
    · rw [he]; simp only [uniqT]; rw [q1]; simp
    · rw [wrapS (by omega)]
      refine ih (i + 1) hd' (by omega) ?_
      rw [he, htake]; simp only [uniqT]; rw [q0]; simp [hm]

theorem f60_2_ok (s : TS w0 h a n c add) (r : IS w0 h b m d rem) (hk : K (.bool (mayE lo nx sq add rem)) h) :
    ∀ k i : Nat, i + k = 3 → (0 < i → in62 lo = true) → (1 < i → in62 nx = true) → (2 < i → in62 sq = true) → f60_2 w0 K lo nx sq ((i : Nat) : Int) lo nx sq a n c b m d h := by
  intro k
  induction k with
  | zero =>
    intro i hi g0 g1 g2
    have hadd := s.len
    have hrem := r.len
    have step : ∀ q : Bool, (q = true → mayE lo nx sq add rem = false) → (q = false → add.length ≤ 200 ∧ rem.length ≤ 200) → f60_8 w0 K q lo nx sq a n c b m d h := fun q h1 h0 => by
      refine f60_8_in _ _ _ _ _ _ _ _ _ _ _ (brB_of (fun e => ?_) fun e => ?_)
      · rw [h1 e] at hk; exact hk
      · obtain ⟨e1, e2⟩ := h0 e
        refine f60_9_in _ _ _ _ _ _ _ _ _ _ (f60_10_ok s (fun u0 => ?_) (fun u1 => f60_22_ok r _ 0 rfl (by omega) ?_) _ 0 rfl (by omega) rfl)
        · have : mayE lo nx sq add rem = false := by simp [mayE, u0]
          rw [this] at hk; exact hk
        · have : mayE lo nx sq add rem = uniqN (rem.take 0) (rem.drop 0) := by simp [mayE, u1, e1, e2, g0 (by omega), g1 (by omega), g2 (by omega)]
          rw [← this]; exact hk
    refine f60_2_in _ _ _ _ _ _ _ _ _ _ _ _ _ _ (brB_of (fun q => by simp at q; omega) fun _ => brB_of (fun q => step _ (fun _ => ?_) (fun e => by cases e)) fun q => step _ (fun q2 => ?_) fun q2 => ?_)
    all_goals simp only [decide_eq_true_eq, decide_eq_false_iff_not] at *
    · have : ¬ add.length ≤ 200 := by omega
      simp [mayE, this]
    · have : ¬ rem.length ≤ 200 := by omega
      simp [mayE, this]
    · omega
  | succ k ih =>
    intro i hi g0 g1 g2
    have step : ∀ v : Int, (in62 v = false → mayE lo nx sq add rem = false) → (in62 v = true → f60_2 w0 K lo nx sq ((i + 1 : Nat) : Int) lo nx sq a n c b m d h) →
        brB (decide (v < (0 : Int))) (f60_5 w0 K lo nx sq ((i : Nat) : Int) true lo nx sq a n c b m d h) (f60_5 w0 K lo nx sq ((i : Nat) : Int) (decide ((4611686018427387904 : Int) < v)) lo nx sq a n c b m d h) := fun v h0 h1 => by
      have fin : ∀ q : Bool, (q = true → in62 v = false) → (q = false → in62 v = true) → f60_5 w0 K lo nx sq ((i : Nat) : Int) q lo nx sq a n c b m d h := fun q e1 e0 => by
        refine f60_5_in _ _ _ _ _ _ _ _ _ _ _ _ _ _ _ (brB_of (fun e => ?_) fun e => ?_)
        · rw [h0 (e1 e)] at hk; exact hk
        · rw [wrapS (by omega)]; exact h1 (e0 e)
      refine brB_of (fun q => fin _ (fun _ => ?_) (fun e => by cases e)) fun q => fin _ (fun q2 => ?_) fun q2 => ?_
      all_goals simp only [decide_eq_true_eq, decide_eq_false_iff_not] at *
      · have : ¬ 0 ≤ v := by omega
        simp [in62, this]
      · have : ¬ v ≤ 4611686018427387904 := by omega
        simp [in62, this]
      · simp [in62]; omega
    refine f60_2_in _ _ _ _ _ _ _ _ _ _ _ _ _ _ (brB_of (fun _ => elem3 (fun e => step _ (fun q => ?_) fun q => ?_) (fun e => step _ (fun q => ?_) fun q => ?_) (fun e => step _ (fun q => ?_) fun q => ?_) (by omega)) fun q => by simp at q; omega)
    · simp [mayE, q]
    · exact ih (i + 1) (by omega) (fun _ => q) (fun z => by omega) fun z => by omega
    · simp [mayE, q]
    · exact ih (i + 1) (by omega) (fun _ => g0 (by omega)) (fun _ => q) fun z => by omega
    · simp [mayE, q]
    · exact ih (i + 1) (by omega) (fun _ => g0 (by omega)) (fun _ => g1 (by omega)) fun _ => q

/-- ref MayEdit. -/
theorem f60_spec (s : TS w0 h a n c add) (r : IS w0 h b m d rem) (hk : K (.bool (mayE lo nx sq add rem)) h) :
    EvC Go.Proofs.Try.prog w0 60 #[.agg #[.int .i64 lo, .int .i64 nx, .int .i64 sq, .slice a n c, .slice b m d]] K h :=
  f60_go _ _ _ _ _ _ _ _ _ _ (f60_2_ok s r hk 3 0 rfl (fun e => by omega) (fun e => by omega) fun e => by omega)
end
end Go.G.Ytpnhlgghpciofaa
