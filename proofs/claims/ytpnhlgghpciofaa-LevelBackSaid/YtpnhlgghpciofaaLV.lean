/- Where a key may be. -/
import Derived.Test.YtpnhlgghpciofaaLS1
import Derived.Test.YtpnhlgghpciofaaLU
import Derived.Test.YtpnhlgghpciofaaLJ
import Derived.Test.YtpnhlgghpciofaaLL
import Derived.Test.YtpnhlgghpciofaaLO
import Derived.Test.YtpnhlgghpciofaaProg
set_option maxRecDepth 100000
namespace Go.G.Ytpnhlgghpciofaa
open Go.RowKit
theorem Own8.old {w0 : World} {h h1 h0 : AH} {x p : Option Addr} {n c : Nat} {l : List UInt8} (o : Own8 w0 h h1 x p n c l) (e : Ext h0 h1 none) : Own8 w0 h h0 x p n c l :=
  ⟨o.sl, (fun ad ha => by
    cases hq : h0 ad.block with
    | none => rfl
    | some b => have := e _ _ hq (fun _ e => by cases e); rw [o.new ad ha] at this; cases this), o.ne⟩
theorem TOwn.old {w0 : World} {h h1 h0 : AH} {x : Option Addr} {t : Tab} (o : TOwn w0 h h1 x t) (e : Ext h0 h1 none) : TOwn w0 h h0 x t := ⟨o.num, o.lev, o.siz, o.lb.old e, o.mb.old e, o.lsm, o.msm⟩
theorem f38x_loop {w0 : World} {K : Value → AH → Prop} {h0 : AH} {a : Option Addr} {n c : Nat} {ts : List Tab} {x : Int} (s : TS w0 h0 a n c ts) (hn : n ≤ 1000000)
    (hk : ∀ a' n' c' h' ts', Sl w0 h' 5 a' n' c' (tabs ts') → ts'.map Tab.dat = (ts.filter fun t => t.lev == x).map Tab.dat → (∀ t ∈ ts', TOwn w0 h' h0 a' t) → Ext h0 h' none → New h0 a' → K (.slice a' n' c') h') :
    ∀ (rest : List Tab) (i : Nat) (a3 : Option Addr) (n3 c3 : Nat) (h : AH), ts.drop i = rest → i ≤ n → Ext h0 h none → New h0 a3 → Sl w0 h 5 a3 n3 c3 (tabs ((ts.take i).filter fun t => t.lev == x)) →
      f38_3 w0 K x a3 n3 c3 a n c ((n : Nat) : Int) ((i : Nat) : Int) h := by
  intro rest
  induction rest with
  | nil =>
    intro i a3 n3 c3 h hd hi hx hnew so
    have := drop_done hd
    have hl := s.len
    have hl5 := so.len5
    rw [List.take_of_length_le (by omega)] at so hl5
    have := List.length_filter_le (fun t : Tab => t.lev == x) ts
    refine f38_3_in _ _ _ _ _ _ _ _ _ _ (brB_of (fun q => by simp at q; omega) fun _ => f58x_spec (so.ts (by omega) fun t ht => (s.ext hx).ok t (List.mem_filter.1 ht).1) (by omega) fun a' n' c' h' ts' s' hdat hok x' hnew' => ?_)
    exact ⟨_, _, _, rfl, hk _ _ _ _ _ s' hdat (fun t ht => (hok t ht).old hx) (hx.trans x') (hnew'.old hx)⟩
  | cons t r ih =>
    intro i a3 n3 c3 h hd hi hx hnew so
    obtain ⟨hget, hd', hlt⟩ := drop_step hd
    have hl := s.len
    have hl5 := so.len5
    have := List.length_filter_le (fun t : Tab => t.lev == x) (ts.take i)
    have : (ts.take i).length ≤ i := by simp; omega
    have htake : ts.take (i + 1) = ts.take i ++ [t] := by rw [List.take_add_one, hget]; rfl
    refine f38_3_in _ _ _ _ _ _ _ _ _ _ (brB_of (fun _ => tabLoad (s.ext hx).rs.rd s.len hget (brB_of (fun q => ?_) fun q => ?_)) fun q => by simp at q; omega)
    · refine App_own so (by omega) (by omega) rfl (tabs_cell [t]) fun a' c' h' s' x' f' => ?_
      rw [wrapS (by omega)]
      refine ih (i + 1) a' (n3 + 1) c' h' hd' (by omega) (hx.past hnew x') (hnew.grown hx f') ?_
      rw [htake, List.filter_append, tabs_append, List.filter_cons, if_pos q]
      exact s'
    · rw [wrapS (by omega)]
      refine ih (i + 1) a3 n3 c3 h hd' (by omega) hx hnew ?_
      rw [htake, List.filter_append, List.filter_cons, if_neg (by rw [q]; simp)]
      simpa using so

/-- level.At, and where the copies lie. -/
theorem f38x_spec {w0 : World} {K : Value → AH → Prop} {h0 : AH} {a : Option Addr} {n c : Nat} {ts : List Tab} {x lo nx sq : Int} (s : TS w0 h0 a n c ts) (hn : n ≤ 1000000)
    (hk : ∀ a' n' c' h' ts', Sl w0 h' 5 a' n' c' (tabs ts') → ts'.map Tab.dat = (ts.filter fun t => t.lev == x).map Tab.dat → (∀ t ∈ ts', TOwn w0 h' h0 a' t) → Ext h0 h' none → New h0 a' → K (.slice a' n' c') h') :
    EvC Go.Proofs.Try.prog w0 38 #[.agg #[.int .i64 lo, .int .i64 nx, .int .i64 sq, .slice a n c], .int .i64 x] K h0 :=
  f38_go _ _ _ _ _ _ _ _ (f38x_loop s hn hk ts 0 none 0 0 h0 rfl (by omega) (Ext.refl _ _) New.none Sl.nil)
/-- level.Overlap, and where the copies lie. -/
theorem f23x_spec {w0 : World} {K : Value → AH → Prop} {h0 : AH} {a b d : Option Addr} {n c nb cb nd cd : Nat} {ts : List Tab} {x l n' sq : Int} {lo mo : List UInt8} (s : TS w0 h0 a n c ts) (hn : n ≤ 1000000)
    (hlo : Rs w0 h0 b (u8s lo)) (hmo : Rs w0 h0 d (u8s mo)) (hnb : nb = lo.length) (hnd : nd = mo.length)
    (hk : ∀ a' n' c' h' ts', Sl w0 h' 5 a' n' c' (tabs ts') → ts'.map Tab.dat = overD (ts.map Tab.dat) x lo mo → (∀ t ∈ ts', ∃ y, TOwn w0 h' h0 y t) → Ext h0 h' none → New h0 a' → K (.slice a' n' c') h') :
    EvC Go.Proofs.Try.prog w0 23 #[.agg #[.int .i64 l, .int .i64 n', .int .i64 sq, .slice a n c], .int .i64 x, .slice b nb cb, .slice d nd cd] K h0 := by
  refine f23_go _ _ _ _ _ _ _ _ _ _ _ _ _ _ (f38x_spec s hn fun a1 n1 c1 h1 us s1 hdat hok x1 new1 => ⟨_, _, _, rfl, ?_⟩)
  have hl5 := s1.len5
  have hlen := congrArg List.length hdat
  simp only [List.length_map] at hlen
  have := List.length_filter_le (fun t : Tab => t.lev == x) ts
  have := s.len
  refine f23_loop (s1.ts (by omega) fun t ht => (hok t ht).ok) (by omega) (hlo.ext x1) (hmo.ext x1) hnb hnd (fun a2 n2 c2 h2 s2 x2 new2 => hk _ _ _ _ _ s2 ?_ (fun t ht => ⟨_, (hok t (List.mem_filter.1 ht).1).ext x2⟩) (x1.trans x2) (new2.old x1)) _ 0 none 0 0 h1 rfl (by omega) (Ext.refl _ _) New.none Sl.nil
  rw [filter_dat, hdat, at_dat]; rfl
theorem f39x_spec {w0 : World} {K : Value → AH → Prop} {h0 : AH} {a : Option Addr} {n c : Nat} {ts : List Tab} {x lo nx sq : Int} (s : TS w0 h0 a n c ts) (hn : n ≤ 1000000)
    (hk : ∀ a' n' c' h' ts', Sl w0 h' 5 a' n' c' (tabs ts') → ts'.map Tab.dat = (ts.filter fun t => t.lev == x).map Tab.dat → (∀ t ∈ ts', t ∈ ts) → Ext h0 h' none → New h0 a' → K (.slice a' n' c') h') :
    EvC Go.Proofs.Try.prog w0 39 #[.agg #[.int .i64 lo, .int .i64 nx, .int .i64 sq, .slice a n c], .int .i64 x] K h0 :=
  f39_spec s hn fun a' n' c' h' s' x' w' => hk a' n' c' h' _ s' rfl (fun t ht => (List.mem_filter.1 ht).1) x' w'
/-- ref Overlap, and of which tables. -/
theorem f42x_spec {w0 : World} {K : Value → AH → Prop} {h0 : AH} {a b d : Option Addr} {n c nb cb nd cd : Nat} {ts : List Tab} {x l n' sq : Int} {lo mo : List UInt8} (s : TS w0 h0 a n c ts) (hn : n ≤ 1000000)
    (hlo : Rs w0 h0 b (u8s lo)) (hmo : Rs w0 h0 d (u8s mo)) (hnb : nb = lo.length) (hnd : nd = mo.length)
    (hk : ∀ a' n' c' h' ts', Sl w0 h' 5 a' n' c' (tabs ts') → ts'.map Tab.dat = overD (ts.map Tab.dat) x lo mo → (∀ t ∈ ts', t ∈ ts) → Ext h0 h' none → New h0 a' → K (.slice a' n' c') h') :
    EvC Go.Proofs.Try.prog w0 42 #[.agg #[.int .i64 l, .int .i64 n', .int .i64 sq, .slice a n c], .int .i64 x, .slice b nb cb, .slice d nd cd] K h0 := by
  refine f42_go _ _ _ _ _ _ _ _ _ _ _ _ _ _ (f39x_spec s hn fun a1 n1 c1 h1 us s1 hdat hok x1 new1 => ⟨_, _, _, rfl, ?_⟩)
  have hl5 := s1.len5
  have hlen := congrArg List.length hdat
  simp only [List.length_map] at hlen
  have := List.length_filter_le (fun t : Tab => t.lev == x) ts
  have := s.len
  refine f42_loop (s1.ts (by omega) fun t ht => (s.ext x1).ok t (hok t ht)) (by omega) (hlo.ext x1) (hmo.ext x1) hnb hnd (fun a2 n2 c2 h2 s2 x2 new2 => hk _ _ _ _ _ s2 ?_ (fun t ht => hok t (List.mem_filter.1 ht).1) (x1.trans x2) (new2.old x1)) _ 0 none 0 0 h1 rfl (by omega) (Ext.refl _ _) New.none Sl.nil
  rw [filter_dat, hdat, at_dat]; rfl
/-! ### where a key may be -/
def findD (ds : List Dat) (key : List UInt8) : List Dat := overD ds 0 key key ++ (overD ds 1 key key ++ (overD ds 2 key key ++ overD ds 3 key key))
/-- The order, of what tables say. -/
def ordD (a b : Dat) : Int := if Dat.lev a ≠ Dat.lev b then cmpI (Dat.lev a) (Dat.lev b) else if Dat.lev a = 0 then cmpI (Dat.num b) (Dat.num a) else cmpL (Dat.lb a) (Dat.lb b)
theorem ordR_dat (t u : Tab) : ordR t u = ordD t.dat u.dat := rfl
theorem cmpL_lt_trans {a b c : List UInt8} (h1 : cmpL a b < 0) (h2 : cmpL b c < 0) : cmpL a c < 0 := by
  have h3 : cmpL a c ≤ 0 := cmpL_le_trans (b := b) (by omega) (by omega)
  by_cases h : cmpL a c = 0
  · have h4 := cmpL_flip a c
    have : cmpL b a ≤ 0 := cmpL_le_trans (b := c) (by omega) (by omega)
    have := cmpL_flip a b
    omega
  · omega
theorem cmpL_lt_le {a b c : List UInt8} (h1 : cmpL a b < 0) (h2 : cmpL b c ≤ 0) : cmpL a c < 0 := by
  have h3 : cmpL a c ≤ 0 := cmpL_le_trans (by omega) h2
  by_cases h : cmpL a c = 0
  · have h4 := cmpL_flip a c
    have : cmpL b a ≤ 0 := cmpL_le_trans h2 (by omega)
    have := cmpL_flip a b
    omega
  · omega
theorem ordD_trans {a b c : Dat} (h1 : ordD a b < 0) (h2 : ordD b c < 0) : ordD a c < 0 := by
  unfold ordD at *
  by_cases e1 : Dat.lev a = Dat.lev b
  · by_cases e2 : Dat.lev b = Dat.lev c
    · have e3 : Dat.lev a = Dat.lev c := e1.trans e2
      rw [if_neg (by simpa using e1)] at h1
      rw [if_neg (by simpa using e2)] at h2
      rw [if_neg (by simpa using e3)]
      by_cases z : Dat.lev a = 0
      · rw [if_pos z] at h1 ⊢
        rw [if_pos (by omega)] at h2
        rw [cmpI_neg] at *
        omega
      · rw [if_neg z] at h1 ⊢
        rw [if_neg (by omega)] at h2
        exact cmpL_lt_trans h1 h2
    · rw [if_pos (by simpa using e2), cmpI_neg] at h2
      rw [if_pos (by simpa [e1] using e2), cmpI_neg]
      omega
  · rw [if_pos (by simpa using e1), cmpI_neg] at h1
    by_cases e2 : Dat.lev b = Dat.lev c
    · rw [if_pos (by rw [← e2]; simpa using e1), cmpI_neg]
      omega
    · rw [if_pos (by simpa using e2), cmpI_neg] at h2
      rw [if_pos (by omega), cmpI_neg]
      omega
theorem ordD_lev {a b : Dat} (h : ordD a b < 0) : Dat.lev a ≤ Dat.lev b := by
  unfold ordD at h
  split at h
  · rw [cmpI_neg] at h; omega
  · rename_i e; simp at e; omega

/-- a is ahead of b; if they are of one level but 0, it ends before b begins. -/
def Before (a b : Dat) : Prop := ordD a b < 0 ∧ (Dat.lev a = Dat.lev b → 0 < Dat.lev b → cmpL (Dat.mb a) (Dat.lb b) < 0)
theorem Before.trans {a b c : Dat} (hb : cmpL (Dat.lb b) (Dat.mb b) ≤ 0) (h1 : Before a b) (h2 : Before b c) : Before a c := by
  refine ⟨ordD_trans h1.1 h2.1, fun e hp => ?_⟩
  have l1 := ordD_lev h1.1
  have l2 := ordD_lev h2.1
  exact cmpL_lt_trans (cmpL_lt_le (h1.2 (by omega) (by omega)) hb) (h2.2 (by omega) hp)

theorem nextTo_before {p t : Tab} (h : nextTo (some p) t = true) : Before p.dat t.dat := by
  simp only [nextTo, Bool.and_eq_true, aheadR_ord, decide_eq_true_eq, Bool.not_eq_true'] at h
  refine ⟨h.1, fun e hp => ?_⟩
  have e' : p.lev = t.lev := e
  have hp' : 0 < t.lev := hp
  have h2 := h.2
  rw [e'] at h2
  simp only [beq_self_eq_true, decide_eq_true hp', Bool.true_and, decide_eq_false_iff_not] at h2
  show cmpL p.mb t.lb < 0
  omega
theorem mayT_lm {t : Tab} (h : mayT t = true) : cmpL t.lb t.mb ≤ 0 := by
  simp only [mayT, Bool.and_eq_true, decide_eq_true_eq] at h; exact h.2
theorem mayT_lev {t : Tab} (h : mayT t = true) : 0 ≤ t.lev ∧ t.lev < 4 := by
  simp only [mayT, Bool.and_eq_true, decide_eq_true_eq] at h; omega
theorem mayL_before {nx : Int} : ∀ {pre r : List Tab}, mayL nx pre r = true → (∀ p, pre.getLast? = some p → ∀ t ∈ r, Before p.dat t.dat) ∧ (r.map Tab.dat).Pairwise Before
  | _, [], _ => ⟨fun _ _ t ht => (by cases ht), by simp⟩
  | pre, t :: r, h => by
    simp only [mayL, Bool.and_eq_true] at h
    obtain ⟨i1, i2⟩ := mayL_before h.2
    have it := i1 t (by simp)
    have hm := mayT_lm h.1.1.1.1
    refine ⟨fun p hp u hu => ?_, ?_⟩
    · have hn := h.1.2
      rw [hp] at hn
      have b1 := nextTo_before hn
      rcases List.mem_cons.1 hu with rfl | hu
      · exact b1
      · exact Before.trans (b := t.dat) hm b1 (it u hu)
    · rw [List.map_cons, List.pairwise_cons]
      refine ⟨fun d hd => ?_, i2⟩
      obtain ⟨u, hu, rfl⟩ := List.mem_map.1 hd
      exact it u hu

theorem overD_sub {ds : List Dat} {x : Int} {lo mo : List UInt8} : (overD ds x lo mo).Sublist ds := List.filter_sublist.trans List.filter_sublist
theorem strict_of {us : List Tab} (h : (us.map Tab.dat).Pairwise Before) : Strict us := fun i j t u hij ht hu => by
  have h1 := (List.getElem?_eq_some_iff.1 ht)
  have h2 := (List.getElem?_eq_some_iff.1 hu)
  obtain ⟨l1, e1⟩ := h1
  obtain ⟨l2, e2⟩ := h2
  have := List.pairwise_iff_getElem.1 h i j (by simpa using l1) (by simpa using l2) hij
  simp only [List.getElem_map, e1, e2] at this
  exact this.1
def f44_J : Nat → List Nat × Nat := jOf [(3, [0, 3, 4, 6, 8, 9, 10, 11, 12, 13, 14, 15, 16, 17, 18], 1)]

def f44_3 (w0 : World) (K : Value → AH → Prop) (a1 : Option Go.Addr) (n1 : Nat) (c1 : Nat) (a5 : Option Go.Addr) (n5 : Nat) (c5 : Nat) (x7 : Int) (xb0_0 : Int) (xb0_1 : Int) (xb0_2 : Int) (ab0_3 : Option Go.Addr) (nb0_3 : Nat) (cb0_3 : Nat) (h : AH) : Prop :=
  ∀ j : Nat → Value, LPk Go.Proofs.Try.prog w0 (EvC Go.Proofs.Try.prog w0) f44_J 44 K 3 [.v (j 0), .v (.slice a1 n1 c1), .bp 0 0, .v (j 3), .v (j 4), .v (.slice a5 n5 c5), .v (j 6), .v (.int .i64 x7), .v (j 8), .v (j 9), .v (j 10), .v (j 11), .v (j 12), .v (j 13), .v (j 14), .v (j 15), .v (j 16), .v (j 17), .v (j 18)] [some [(.int .i64 xb0_0), (.int .i64 xb0_1), (.int .i64 xb0_2), (.slice ab0_3 nb0_3 cb0_3)]] h

theorem f44_3_in {w0 : World} {K : Value → AH → Prop} (a1 : Option Go.Addr) (n1 : Nat) (c1 : Nat) (a5 : Option Go.Addr) (n5 : Nat) (c5 : Nat) (x7 : Int) (xb0_0 : Int) (xb0_1 : Int) (xb0_2 : Int) (ab0_3 : Option Go.Addr) (nb0_3 : Nat) (cb0_3 : Nat) (h : AH)
  (hv : (brB (decide ((x7 < (4 : Int)))) (EvC Go.Proofs.Try.prog w0 42 #[(Go.Value.agg #[(Go.Value.int .i64 xb0_0), (Go.Value.int .i64 xb0_1), (Go.Value.int .i64 xb0_2), (Go.Value.slice ab0_3 nb0_3 cb0_3)]), (Go.Value.int .i64 x7), (Go.Value.slice a1 n1 c1), (Go.Value.slice a1 n1 c1)] (fun x'0 h'1 => (∃ p'2 : Option Go.Addr, (∃ n'3 : Nat, (∃ n'4 : Nat, ((x'0 = (Go.Value.slice p'2 n'3 n'4)) ∧ (rowsOf w0 h'1 5 p'2 n'3 (fun ys'5 => (App w0 h'1 5 72 a5 n5 c5 n'3 ys'5 (fun a'6 c'7 h'8 => (f44_3 w0 K a1 n1 c1 a'6 (n5 + n'3) c'7 (Go.IntKind.wrap .i64 (x7 + (1 : Int))) xb0_0 xb0_1 xb0_2 ab0_3 nb0_3 cb0_3 h'8)))))))))) h) (K (Go.Value.slice a5 n5 c5) h))) :
  f44_3 w0 K a1 n1 c1 a5 n5 c5 x7 xb0_0 xb0_1 xb0_2 ab0_3 nb0_3 cb0_3 h := fun j => LP_intro (P := Go.Proofs.Try.prog) (Eq.mp (by kernel_rfl) hv)

theorem f44_go {w0 : World} {K : Value → AH → Prop} (x0_0 : Int) (x0_1 : Int) (x0_2 : Int) (a0_3 : Option Go.Addr) (n0_3 : Nat) (c0_3 : Nat) (a1 : Option Go.Addr) (n1 : Nat) (c1 : Nat) (h : AH)
  (hv : (f44_3 w0 K a1 n1 c1 none 0 0 (0 : Int) x0_0 x0_1 x0_2 a0_3 n0_3 c0_3 h)) :
  EvC Go.Proofs.Try.prog w0 44 ([(.agg #[(.int .i64 x0_0), (.int .i64 x0_1), (.int .i64 x0_2), (.slice a0_3 n0_3 c0_3)]), (.slice a1 n1 c1)]).toArray K h := EvC_intro (P := Go.Proofs.Try.prog) f44_J (Eq.mp (by kernel_rfl) hv)
def f43_J : Nat → List Nat × Nat := jOf [(6, [0, 3, 4, 8, 9, 10, 11, 12, 13, 14, 15, 16, 17, 18, 19, 20, 21, 22, 23, 24], 1), (10000, [0, 3, 4, 7, 8, 9, 10, 11, 12, 13, 14, 15, 16, 17, 18, 19, 20, 21, 22, 23, 24], 1)]

def f43_6 (w0 : World) (K : Value → AH → Prop) (a1 : Option Go.Addr) (n1 : Nat) (c1 : Nat) (a5 : Option Go.Addr) (n5 : Nat) (c5 : Nat) (x6 : Int) (a7 : Option Go.Addr) (n7 : Nat) (c7 : Nat) (xb0_0 : Int) (xb0_1 : Int) (xb0_2 : Int) (ab0_3 : Option Go.Addr) (nb0_3 : Nat) (cb0_3 : Nat) (h : AH) : Prop :=
  ∀ j : Nat → Value, LPk Go.Proofs.Try.prog w0 (EvC Go.Proofs.Try.prog w0) f43_J 43 K 6 [.v (j 0), .v (.slice a1 n1 c1), .bp 0 0, .v (j 3), .v (j 4), .v (.slice a5 n5 c5), .v (.int .i64 x6), .v (.slice a7 n7 c7), .v (j 8), .v (j 9), .v (j 10), .v (j 11), .v (j 12), .v (j 13), .v (j 14), .v (j 15), .v (j 16), .v (j 17), .v (j 18), .v (j 19), .v (j 20), .v (j 21), .v (j 22), .v (j 23), .v (j 24)] [some [(.int .i64 xb0_0), (.int .i64 xb0_1), (.int .i64 xb0_2), (.slice ab0_3 nb0_3 cb0_3)]] h

def f43_10000 (w0 : World) (K : Value → AH → Prop) (a1 : Option Go.Addr) (n1 : Nat) (c1 : Nat) (a5 : Option Go.Addr) (n5 : Nat) (c5 : Nat) (x6 : Int) (xb0_0 : Int) (xb0_1 : Int) (xb0_2 : Int) (ab0_3 : Option Go.Addr) (nb0_3 : Nat) (cb0_3 : Nat) (h : AH) : Prop :=
  ∀ j : Nat → Value, LPk Go.Proofs.Try.prog w0 (EvC Go.Proofs.Try.prog w0) f43_J 43 K 10000 [.v (j 0), .v (.slice a1 n1 c1), .bp 0 0, .v (j 3), .v (j 4), .v (.slice a5 n5 c5), .v (.int .i64 x6), .v (j 7), .v (j 8), .v (j 9), .v (j 10), .v (j 11), .v (j 12), .v (j 13), .v (j 14), .v (j 15), .v (j 16), .v (j 17), .v (j 18), .v (j 19), .v (j 20), .v (j 21), .v (j 22), .v (j 23), .v (j 24)] [some [(.int .i64 xb0_0), (.int .i64 xb0_1), (.int .i64 xb0_2), (.slice ab0_3 nb0_3 cb0_3)]] h

theorem f43_6_in {w0 : World} {K : Value → AH → Prop} (a1 : Option Go.Addr) (n1 : Nat) (c1 : Nat) (a5 : Option Go.Addr) (n5 : Nat) (c5 : Nat) (x6 : Int) (a7 : Option Go.Addr) (n7 : Nat) (c7 : Nat) (xb0_0 : Int) (xb0_1 : Int) (xb0_2 : Int) (ab0_3 : Option Go.Addr) (nb0_3 : Nat) (cb0_3 : Nat) (h : AH)
  (hv : (rowsOf w0 h 5 a7 n7 (fun ys'7 => (App w0 h 5 72 a5 n5 c5 n7 ys'7 (fun a'8 c'9 h'10 => (brB (decide (((Go.IntKind.wrap .i64 (x6 + (1 : Int))) < (4 : Int)))) (f43_10000 w0 K a1 n1 c1 a'8 (n5 + n7) c'9 (Go.IntKind.wrap .i64 (x6 + (1 : Int))) xb0_0 xb0_1 xb0_2 ab0_3 nb0_3 cb0_3 h'10) (K (Go.Value.slice a'8 (n5 + n7) c'9) h'10))))))) :
  f43_6 w0 K a1 n1 c1 a5 n5 c5 x6 a7 n7 c7 xb0_0 xb0_1 xb0_2 ab0_3 nb0_3 cb0_3 h := fun j => LP_intro (P := Go.Proofs.Try.prog) (Eq.mp (by kernel_rfl) hv)

theorem f43_10000_in {w0 : World} {K : Value → AH → Prop} (a1 : Option Go.Addr) (n1 : Nat) (c1 : Nat) (a5 : Option Go.Addr) (n5 : Nat) (c5 : Nat) (x6 : Int) (xb0_0 : Int) (xb0_1 : Int) (xb0_2 : Int) (ab0_3 : Option Go.Addr) (nb0_3 : Nat) (cb0_3 : Nat) (h : AH)
  (hv : (EvC Go.Proofs.Try.prog w0 23 #[(Go.Value.agg #[(Go.Value.int .i64 xb0_0), (Go.Value.int .i64 xb0_1), (Go.Value.int .i64 xb0_2), (Go.Value.slice ab0_3 nb0_3 cb0_3)]), (Go.Value.int .i64 x6), (Go.Value.slice a1 n1 c1), (Go.Value.slice a1 n1 c1)] (fun x'11 h'12 => (∃ p'13 : Option Go.Addr, (∃ n'14 : Nat, (∃ n'15 : Nat, ((x'11 = (Go.Value.slice p'13 n'14 n'15)) ∧ (brB (x6 == (0 : Int)) (EvC Go.Proofs.Try.prog w0 59 #[(Go.Value.slice p'13 n'14 n'15), (Go.Value.func (Go.Fn.func 53) #[] #[])] (fun x'16 h'17 => ((x'16 = (Go.Value.tuple #[])) ∧ (f43_6 w0 K a1 n1 c1 a5 n5 c5 x6 p'13 n'14 n'15 xb0_0 xb0_1 xb0_2 ab0_3 nb0_3 cb0_3 h'17))) h'12) (f43_6 w0 K a1 n1 c1 a5 n5 c5 x6 p'13 n'14 n'15 xb0_0 xb0_1 xb0_2 ab0_3 nb0_3 cb0_3 h'12))))))) h)) :
  f43_10000 w0 K a1 n1 c1 a5 n5 c5 x6 xb0_0 xb0_1 xb0_2 ab0_3 nb0_3 cb0_3 h := fun j => LP_intro (P := Go.Proofs.Try.prog) (Eq.mp (by kernel_rfl) hv)

theorem f43_go {w0 : World} {K : Value → AH → Prop} (x0_0 : Int) (x0_1 : Int) (x0_2 : Int) (a0_3 : Option Go.Addr) (n0_3 : Nat) (c0_3 : Nat) (a1 : Option Go.Addr) (n1 : Nat) (c1 : Nat) (h : AH)
  (hv : (EvC Go.Proofs.Try.prog w0 23 #[(Go.Value.agg #[(Go.Value.int .i64 x0_0), (Go.Value.int .i64 x0_1), (Go.Value.int .i64 x0_2), (Go.Value.slice a0_3 n0_3 c0_3)]), (Go.Value.int .i64 (0 : Int)), (Go.Value.slice a1 n1 c1), (Go.Value.slice a1 n1 c1)] (fun x'0 h'1 => (∃ p'2 : Option Go.Addr, (∃ n'3 : Nat, (∃ n'4 : Nat, ((x'0 = (Go.Value.slice p'2 n'3 n'4)) ∧ (EvC Go.Proofs.Try.prog w0 59 #[(Go.Value.slice p'2 n'3 n'4), (Go.Value.func (Go.Fn.func 53) #[] #[])] (fun x'5 h'6 => ((x'5 = (Go.Value.tuple #[])) ∧ (f43_6 w0 K a1 n1 c1 none 0 0 (0 : Int) p'2 n'3 n'4 x0_0 x0_1 x0_2 a0_3 n0_3 c0_3 h'6))) h'1)))))) h)) :
  EvC Go.Proofs.Try.prog w0 43 ([(.agg #[(.int .i64 x0_0), (.int .i64 x0_1), (.int .i64 x0_2), (.slice a0_3 n0_3 c0_3)]), (.slice a1 n1 c1)]).toArray K h := EvC_intro (P := Go.Proofs.Try.prog) f43_J (Eq.mp (by kernel_rfl) hv)
def tlD (ds : List Dat) (key : List UInt8) : Nat → List Dat
  | 0 => overD ds 1 key key ++ (overD ds 2 key key ++ overD ds 3 key key)
  | 1 => overD ds 2 key key ++ overD ds 3 key key
  | 2 => overD ds 3 key key
  | _ => []
theorem tlD_step {ds : List Dat} {key : List UInt8} : ∀ {i : Nat}, i < 3 → tlD ds key i = overD ds ((i + 1 : Nat) : Int) key key ++ tlD ds key (i + 1)
  | 0, _ => rfl
  | 1, _ => rfl
  | 2, _ => by simp [tlD]

section
variable {w0 : World} {K : Value → AH → Prop} {h0 : AH} {a b : Option Addr} {n c nb cb : Nat} {ts : List Tab} {lo nx sq : Int} {key : List UInt8}
variable (s : TS w0 h0 a n c ts) (hn : n ≤ 200) (hkey : Rs w0 h0 b (u8s key)) (hnb : nb = key.length)
  (hk : ∀ a' n' c' h' us, Sl w0 h' 5 a' n' c' (tabs us) → us.map Tab.dat = findD (ts.map Tab.dat) key → (∀ t ∈ us, t.Ok w0 h') → Ext h0 h' none → K (.slice a' n' c') h')
include s hn hkey hnb hk

theorem f43_6_ok : ∀ (k i : Nat), i + k = 3 → ∀ (a5 a7 : Option Addr) (n5 c5 n7 c7 : Nat) (out ls : List Tab) (hc h : AH), Ext h0 h none → Ext hc h none → New h0 a5 → Sl w0 h 5 a5 n5 c5 (tabs out) → (∀ bd, a5 = some bd → ∃ o, hc bd.block = some o) →
    (∀ t ∈ out, ∃ g, TOwn w0 h g a5 t) → Sl w0 h 5 a7 n7 c7 (tabs ls) → (∀ t ∈ ls, ∃ y, TOwn w0 h hc y t) → n7 ≤ 200 → n5 ≤ 200 * i → findD (ts.map Tab.dat) key = (out ++ ls).map Tab.dat ++ tlD (ts.map Tab.dat) key i →
    f43_6 w0 K b nb cb a5 n5 c5 ((i : Nat) : Int) a7 n7 c7 lo nx sq a n c h := by
  intro k
  induction k with
  | zero =>
    intro i hi a5 a7 n5 c5 n7 c7 out ls hc h hx hcx hnew so hkn own sl lown h7 h5 he
    have hi3 : i = 3 := by omega
    subst hi3
    have l7 := sl.len5
    refine f43_6_in _ _ _ _ _ _ _ _ _ _ _ _ _ _ _ _ _ (rowsOf_of sl.rd (by rw [tabs_length, l7]) (App_own so (by omega) (by omega) (by rw [tabs_length, l7]) (tabs_cell _) fun a' c' h' s' x' f' => brB_of (fun q => by simp [wrap64] at q) fun _ => ?_))
    refine hk a' _ c' h' (out ++ ls) (by rw [tabs_append]; exact s') (by rw [he]; simp [tlD]) (fun t ht => ?_) (hx.past hnew x')
    rcases List.mem_append.1 ht with ht | ht
    · obtain ⟨g, o⟩ := own t ht
      exact (o.grow x' f').ok
    · obtain ⟨y, o⟩ := lown t ht
      exact (o.past x' hkn f').ok
  | succ k ih =>
    intro i hi a5 a7 n5 c5 n7 c7 out ls hc h hx hcx hnew so hkn own sl lown h7 h5 he
    have l7 := sl.len5
    have hl := s.len
    refine f43_6_in _ _ _ _ _ _ _ _ _ _ _ _ _ _ _ _ _ (rowsOf_of sl.rd (by rw [tabs_length, l7]) (App_own so (by omega) (by omega) (by rw [tabs_length, l7]) (tabs_cell _) fun a' c' h' s' x' f' => ?_))
    have hx' := hx.past hnew x'
    rw [wrapS (by omega)]
    refine brB_of (fun _ => ?_) fun q => by simp at q; omega
    have hk' := (s.ext hx')
    refine f43_10000_in _ _ _ _ _ _ _ _ _ _ _ _ _ _ (f23x_spec hk' (by omega) (hkey.ext hx') (hkey.ext hx') hnb hnb fun a2 n2 c2 h2 us s2 d2 o2 x2 _ => ⟨_, _, _, rfl, brB_of (fun q => by simp at q; omega) fun _ => ?_⟩)
    have hnew' : New h0 a' := hnew.grown hx f'
    have l2 := s2.len5
    have e2 := congrArg List.length d2
    have := overD_le (ds := ts.map Tab.dat) (x := ((i + 1 : Nat) : Int)) (lo := key) (mo := key)
    simp only [List.length_map] at e2 this
    refine ih (i + 1) (by omega) a' a2 (n5 + n7) c' n2 c2 (out ++ ls) us h' h2 (hx'.trans x2) x2 hnew' (by rw [tabs_append]; exact s'.ext x2) (fun bd hb => ?_) (fun t ht => ?_) s2 o2 (by omega) (by omega) ?_
    · subst hb
      exact ⟨_, s'.2.2.2.2.2⟩
    · rcases List.mem_append.1 ht with ht | ht
      · obtain ⟨g, o⟩ := own t ht
        exact ⟨g, (o.grow x' f').ext x2⟩
      · obtain ⟨y, o⟩ := lown t ht
        exact ⟨hc, (o.past x' hkn f').ext x2⟩
    · rw [he, tlD_step (by omega)]
      simp only [List.map_append, d2, List.append_assoc]

/-- level.Find, of what is in order. -/
theorem f43_spec (hp : (ts.map Tab.dat).Pairwise Before) : EvC Go.Proofs.Try.prog w0 43 #[.agg #[.int .i64 lo, .int .i64 nx, .int .i64 sq, .slice a n c], .slice b nb cb] K h0 := by
  have hl := s.len
  refine f43_go _ _ _ _ _ _ _ _ _ _ (f23x_spec s (by omega) hkey hkey hnb hnb fun a2 n2 c2 h2 us s2 d2 o2 x2 w2 => ⟨_, _, _, rfl, ?_⟩)
  have l2 := s2.len5
  have e2 := congrArg List.length d2
  have := overD_le (ds := ts.map Tab.dat) (x := 0) (lo := key) (mo := key)
  simp only [List.length_map] at e2 this
  have hst : Strict us := strict_of (by rw [d2]; exact hp.sublist overD_sub)
  have tus : TS w0 h2 a2 n2 c2 us := s2.ts (by omega) fun t ht => by
    obtain ⟨y, o⟩ := o2 t ht
    exact o.ok
  refine f59_sorted tus hst (by omega) ⟨rfl, ?_⟩
  refine f43_6_ok s hn hkey hnb hk 3 0 rfl none a2 0 0 n2 c2 [] us h0 h2 x2 x2 New.none Sl.nil (fun bd e => by cases e) (fun _ ht => by cases ht) s2 o2 (by omega) (by omega) ?_
  rw [List.nil_append, d2]; rfl

omit hk in
theorem f44_3_ok (hk : ∀ a' n' c' h' us, Sl w0 h' 5 a' n' c' (tabs us) → us.map Tab.dat = findD (ts.map Tab.dat) key → (∀ t ∈ us, t.Ok w0 h') → Ext h0 h' none → K (.slice a' n' c') h') : ∀ (k i : Nat), i + k = 4 → ∀ (a5 : Option Addr) (n5 c5 : Nat) (out : List Tab) (h : AH), Ext h0 h none → New h0 a5 → Sl w0 h 5 a5 n5 c5 (tabs out) → (∀ t ∈ out, t ∈ ts) → n5 ≤ 200 * i →
    findD (ts.map Tab.dat) key = out.map Tab.dat ++ (match i with | 0 => findD (ts.map Tab.dat) key | i + 1 => tlD (ts.map Tab.dat) key i) →
    f44_3 w0 K b nb cb a5 n5 c5 ((i : Nat) : Int) lo nx sq a n c h := by
  intro k
  induction k with
  | zero =>
    intro i hi a5 n5 c5 out h hx hnew so hsub h5 he
    have hi4 : i = 4 := by omega
    subst hi4
    exact f44_3_in _ _ _ _ _ _ _ _ _ _ _ _ _ _ (brB_of (fun q => by simp at q) fun _ => hk a5 n5 c5 h out so (by rw [he]; simp [tlD]) (fun t ht => (s.ext hx).ok t (hsub t ht)) hx)
  | succ k ih =>
    intro i hi a5 n5 c5 out h hx hnew so hsub h5 he
    have hl := s.len
    refine f44_3_in _ _ _ _ _ _ _ _ _ _ _ _ _ _ (brB_of (fun _ => f42x_spec (s.ext hx) (by omega) (hkey.ext hx) (hkey.ext hx) hnb hnb fun a2 n2 c2 h2 us s2 d2 o2 x2 w2 => ⟨_, _, _, rfl, ?_⟩) fun q => by simp at q; omega)
    have l2 := s2.len5
    have e2 := congrArg List.length d2
    have := overD_le (ds := ts.map Tab.dat) (x := ((i : Nat) : Int)) (lo := key) (mo := key)
    simp only [List.length_map] at e2 this
    refine rowsOf_of s2.rd (by rw [tabs_length, l2]) (App_own (so.ext x2) (by omega) (by omega) (by rw [tabs_length, l2]) (tabs_cell _) fun a' c' h' s' x' f' => ?_)
    rw [wrapS (by omega)]
    refine ih (i + 1) (by omega) a' (n5 + n2) c' (out ++ us) h' ((hx.trans x2).past hnew x') (hnew.grown (hx.trans x2) f') (by rw [tabs_append]; exact s') (fun t ht => ?_) (by omega) ?_
    · rcases List.mem_append.1 ht with ht | ht
      · exact hsub t ht
      · exact o2 t ht
    · rw [he, List.map_append, d2, List.append_assoc]
      congr 1
      match i, hi with
      | 0, _ => rfl
      | 1, _ => exact tlD_step (i := 0) (by omega)
      | 2, _ => exact tlD_step (i := 1) (by omega)
      | 3, _ => exact tlD_step (i := 2) (by omega)

/-- ref Find. -/
theorem f44_spec : EvC Go.Proofs.Try.prog w0 44 #[.agg #[.int .i64 lo, .int .i64 nx, .int .i64 sq, .slice a n c], .slice b nb cb] K h0 :=
  f44_go _ _ _ _ _ _ _ _ _ _ (f44_3_ok s hn hkey hnb hk 4 0 rfl none 0 0 [] h0 (Ext.refl _ _) New.none Sl.nil (fun _ ht => by cases ht) (by omega) rfl)
end
end Go.G.Ytpnhlgghpciofaa
