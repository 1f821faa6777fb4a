/- A level's tables, their bytes; is it full; the versions that are laid. -/
import Derived.Test.YtpnhlgghpciofaaLD
import Derived.Test.YtpnhlgghpciofaaProg
set_option maxRecDepth 100000
namespace Go.G.Ytpnhlgghpciofaa
open Go.RowKit
def f58_J : Nat → List Nat × Nat := jOf [(3, [0, 1, 2, 4, 5, 9, 10, 11, 12, 13, 14, 15, 16, 17, 18, 19, 20, 21, 22, 23, 24, 25], 0)]

def f58_3 (w0 : World) (K : Value → AH → Prop) (a3 : Option Go.Addr) (n3 : Nat) (c3 : Nat) (a6 : Option Go.Addr) (n6 : Nat) (c6 : Nat) (x7 : Int) (x8 : Int) (h : AH) : Prop :=
  ∀ j : Nat → Value, LPk Go.Proofs.Try.prog w0 (EvC Go.Proofs.Try.prog w0) f58_J 58 K 3 [.v (j 0), .v (j 1), .v (j 2), .v (.slice a3 n3 c3), .v (j 4), .v (j 5), .v (.slice a6 n6 c6), .v (.int .i64 x7), .v (.int .i64 x8), .v (j 9), .v (j 10), .v (j 11), .v (j 12), .v (j 13), .v (j 14), .v (j 15), .v (j 16), .v (j 17), .v (j 18), .v (j 19), .v (j 20), .v (j 21), .v (j 22), .v (j 23), .v (j 24), .v (j 25)] [] h

theorem f58_3_in {w0 : World} {K : Value → AH → Prop} (a3 : Option Go.Addr) (n3 : Nat) (c3 : Nat) (a6 : Option Go.Addr) (n6 : Nat) (c6 : Nat) (x7 : Int) (x8 : Int) (h : AH)
  (hv : (brB (decide ((x8 < x7))) (∃ a'0 : Go.Addr, ((a6 = (some a'0)) ∧ (((0 : Int) ≤ x8) ∧ ((x8 < ((n6 : Nat) : Int)) ∧ (∃ i'1 : Int, (∃ i'2 : Int, (∃ i'3 : Int, (∃ p'4 : Option Go.Addr, (∃ n'5 : Nat, (∃ n'6 : Nat, (∃ p'7 : Option Go.Addr, (∃ n'8 : Nat, (∃ n'9 : Nat, ((((Array.size #[(Go.Value.int .i64 i'1), (Go.Value.int .i64 i'2), (Go.Value.int .i64 i'3), (Go.Value.slice p'4 n'5 n'6), (Go.Value.slice p'7 n'8 n'9)]) = 5) ∧ (At w0 h (Go.Addr.add a'0 ((Int.toNat x8) * 5)) [(Go.Value.int .i64 i'1), (Go.Value.int .i64 i'2), (Go.Value.int .i64 i'3), (Go.Value.slice p'4 n'5 n'6), (Go.Value.slice p'7 n'8 n'9)])) ∧ (rowsOf w0 h 1 p'4 n'5 (fun ys'10 => (App w0 h 1 1 none 0 0 n'5 ys'10 (fun a'11 c'12 h'13 => (rowsOf w0 h'13 1 p'7 n'8 (fun ys'14 => (App w0 h'13 1 1 none 0 0 n'8 ys'14 (fun a'15 c'16 h'17 => (App w0 h'17 5 72 a3 n3 c3 1 [(Go.Value.int .i64 i'1), (Go.Value.int .i64 i'2), (Go.Value.int .i64 i'3), (Go.Value.slice a'11 (0 + n'5) c'12), (Go.Value.slice a'15 (0 + n'8) c'16)] (fun a'18 c'19 h'20 => (f58_3 w0 K a'18 (n3 + 1) c'19 a6 n6 c6 x7 (Go.IntKind.wrap .i64 (x8 + (1 : Int))) h'20))))))))))))))))))))))))) (K (Go.Value.slice a3 n3 c3) h))) :
  f58_3 w0 K a3 n3 c3 a6 n6 c6 x7 x8 h := fun j => LP_intro (P := Go.Proofs.Try.prog) (Eq.mp (by kernel_rfl) hv)

theorem f58_go {w0 : World} {K : Value → AH → Prop} (a0 : Option Go.Addr) (n0 : Nat) (c0 : Nat) (h : AH)
  (hv : (f58_3 w0 K none 0 0 a0 n0 c0 ((n0 : Nat) : Int) (0 : Int) h)) :
  EvC Go.Proofs.Try.prog w0 58 ([(.slice a0 n0 c0)]).toArray K h := EvC_intro (P := Go.Proofs.Try.prog) f58_J (Eq.mp (by kernel_rfl) hv)
theorem dat_ok {t u : Tab} (h : u.dat = t.dat) : u.num = t.num ∧ u.lev = t.lev ∧ u.siz = t.siz ∧ u.lb = t.lb ∧ u.mb = t.mb := by
  simp only [Tab.dat, Prod.mk.injEq] at h; exact h

theorem f58_loop {w0 : World} {K : Value → AH → Prop} {h0 : AH} {a : Option Addr} {n c : Nat} {ts : List Tab} (s : TS w0 h0 a n c ts) (hn : n ≤ 1000000)
    (hk : ∀ a' n' c' h' ts', Sl w0 h' 5 a' n' c' (tabs ts') → ts'.map Tab.dat = ts.map Tab.dat → (∀ t ∈ ts', t.Ok w0 h') → Ext h0 h' none → New h0 a' → K (.slice a' n' c') h') :
    ∀ (rest : List Tab) (i : Nat) (a3 : Option Addr) (n3 c3 : Nat) (h : AH) (out : List Tab), ts.drop i = rest → i ≤ n → Ext h0 h none → New h0 a3 → Sl w0 h 5 a3 n3 c3 (tabs out) → out.map Tab.dat = (ts.take i).map Tab.dat → (∀ t ∈ out, t.OkX w0 h a3) →
      f58_3 w0 K a3 n3 c3 a n c ((n : Nat) : Int) ((i : Nat) : Int) h := by
  intro rest
  induction rest with
  | nil =>
    intro i a3 n3 c3 h out hd hi hx hnew so hdat hok
    have := drop_done hd
    have hl := s.len
    rw [List.take_of_length_le (by omega)] at hdat
    exact f58_3_in _ _ _ _ _ _ _ _ _ (brB_of (fun q => by simp at q; omega) fun _ => hk _ _ _ _ _ so hdat (fun t ht => (hok t ht).ok) hx hnew)
  | cons t r ih =>
    intro i a3 n3 c3 h out hd hi hx hnew so hdat hok
    obtain ⟨hget, hd', hlt⟩ := drop_step hd
    have hl := s.len
    have hlo := congrArg List.length hdat
    simp at hlo
    have hl5 := so.len5
    have o := (s.ext hx).ok t (List.mem_of_getElem? hget)
    have hlsm := o.lsm
    have hmsm := o.msm
    refine f58_3_in _ _ _ _ _ _ _ _ _ (brB_of (fun _ => tabLoad (s.ext hx).rs.rd s.len hget ?_) fun q => by simp at q; omega)
    refine rowsOf_of o.lb.rd (by rw [u8s_length, o.ln]; omega) ?_
    refine App_own Sl.nil (by omega) (by omega) (by rw [u8s_length, o.ln]; omega) (u8s_cell _) fun a1 c1 h1 s1 x1 f1 => ?_
    have e1 : Ext h h1 none := (Ext.refl _ _).past New.none x1
    refine rowsOf_of (o.ext e1).mb.rd (by rw [u8s_length, o.mn]; omega) ?_
    refine App_own Sl.nil (by omega) (by omega) (by rw [u8s_length, o.mn]; omega) (u8s_cell _) fun a2 c2 h2 s2 x2 f2 => ?_
    have e2 : Ext h1 h2 none := (Ext.refl _ _).past New.none x2
    have e12 := e1.trans e2
    refine App_own (so.ext e12) (by omega) (by omega) rfl ?_ fun a3' c3' h3 s3 x3 f3 => ?_
    · intro y hy
      simp at hy
      rcases hy with rfl | rfl | rfl | rfl | rfl <;> rfl
    rw [wrapS (by omega)]
    have hx2 := hx.trans e12
    have htake : ts.take (i + 1) = ts.take i ++ [t] := by rw [List.take_add_one, hget]; rfl
    refine ih (i + 1) a3' (n3 + 1) c3' h3 (out ++ [{ t with lp := a1, ln := 0 + t.ln, lc := c1, mp := a2, mn := 0 + t.mn, mc := c2 }]) hd' (by omega) (hx2.past hnew x3) (hnew.grown hx2 f3) ?_ ?_ ?_
    · rw [tabs_append]; exact s3
    · rw [htake, List.map_append, List.map_append, hdat]; rfl
    · intro u hu
      rcases List.mem_append.1 hu with hu | hu
      · exact (hok u hu).grow e12 x3 f3
      · obtain rfl := List.mem_singleton.1 hu
        intro h' z
        have b1 := so.beside s1 f1 e2 x3 f3 z
        have b2 := (so.ext e1).beside s2 f2 (Ext.refl _ _) x3 f3 z
        refine ⟨o.num, o.lev, o.siz, b1.rs, b2.rs, ?_, ?_, by simpa using hlsm, by simpa using hmsm⟩
        · simpa using o.ln
        · simpa using o.mn

/-- level.own. -/
theorem f58_spec {w0 : World} {K : Value → AH → Prop} {h0 : AH} {a : Option Addr} {n c : Nat} {ts : List Tab} (s : TS w0 h0 a n c ts) (hn : n ≤ 1000000)
    (hk : ∀ a' n' c' h' ts', Sl w0 h' 5 a' n' c' (tabs ts') → ts'.map Tab.dat = ts.map Tab.dat → (∀ t ∈ ts', t.Ok w0 h') → Ext h0 h' none → New h0 a' → K (.slice a' n' c') h') : EvC Go.Proofs.Try.prog w0 58 #[.slice a n c] K h0 :=
  f58_go _ _ _ _ (f58_loop s hn hk ts 0 none 0 0 h0 [] rfl (by omega) (Ext.refl _ _) New.none Sl.nil rfl fun _ ht => by cases ht)
def f38_J : Nat → List Nat × Nat := jOf [(3, [0, 2, 3, 4, 6, 7, 8, 12, 13, 14, 15, 16, 17, 18, 19, 20, 21, 22, 23, 24, 25], 0)]

def f38_3 (w0 : World) (K : Value → AH → Prop) (x1 : Int) (a5 : Option Go.Addr) (n5 : Nat) (c5 : Nat) (a9 : Option Go.Addr) (n9 : Nat) (c9 : Nat) (x10 : Int) (x11 : Int) (h : AH) : Prop :=
  ∀ j : Nat → Value, LPk Go.Proofs.Try.prog w0 (EvC Go.Proofs.Try.prog w0) f38_J 38 K 3 [.v (j 0), .v (.int .i64 x1), .v (j 2), .v (j 3), .v (j 4), .v (.slice a5 n5 c5), .v (j 6), .v (j 7), .v (j 8), .v (.slice a9 n9 c9), .v (.int .i64 x10), .v (.int .i64 x11), .v (j 12), .v (j 13), .v (j 14), .v (j 15), .v (j 16), .v (j 17), .v (j 18), .v (j 19), .v (j 20), .v (j 21), .v (j 22), .v (j 23), .v (j 24), .v (j 25)] [] h

theorem f38_3_in {w0 : World} {K : Value → AH → Prop} (x1 : Int) (a5 : Option Go.Addr) (n5 : Nat) (c5 : Nat) (a9 : Option Go.Addr) (n9 : Nat) (c9 : Nat) (x10 : Int) (x11 : Int) (h : AH)
  (hv : (brB (decide ((x11 < x10))) (∃ a'0 : Go.Addr, ((a9 = (some a'0)) ∧ (((0 : Int) ≤ x11) ∧ ((x11 < ((n9 : Nat) : Int)) ∧ (∃ i'1 : Int, (∃ i'2 : Int, (∃ i'3 : Int, (∃ p'4 : Option Go.Addr, (∃ n'5 : Nat, (∃ n'6 : Nat, (∃ p'7 : Option Go.Addr, (∃ n'8 : Nat, (∃ n'9 : Nat, ((((Array.size #[(Go.Value.int .i64 i'1), (Go.Value.int .i64 i'2), (Go.Value.int .i64 i'3), (Go.Value.slice p'4 n'5 n'6), (Go.Value.slice p'7 n'8 n'9)]) = 5) ∧ (At w0 h (Go.Addr.add a'0 ((Int.toNat x11) * 5)) [(Go.Value.int .i64 i'1), (Go.Value.int .i64 i'2), (Go.Value.int .i64 i'3), (Go.Value.slice p'4 n'5 n'6), (Go.Value.slice p'7 n'8 n'9)])) ∧ (brB (i'2 == x1) (App w0 h 5 72 a5 n5 c5 1 [(Go.Value.int .i64 i'1), (Go.Value.int .i64 i'2), (Go.Value.int .i64 i'3), (Go.Value.slice p'4 n'5 n'6), (Go.Value.slice p'7 n'8 n'9)] (fun a'10 c'11 h'12 => (f38_3 w0 K x1 a'10 (n5 + 1) c'11 a9 n9 c9 x10 (Go.IntKind.wrap .i64 (x11 + (1 : Int))) h'12))) (f38_3 w0 K x1 a5 n5 c5 a9 n9 c9 x10 (Go.IntKind.wrap .i64 (x11 + (1 : Int))) h)))))))))))))))) (EvC Go.Proofs.Try.prog w0 58 #[(Go.Value.slice a5 n5 c5)] (fun x'13 h'14 => (∃ p'15 : Option Go.Addr, (∃ n'16 : Nat, (∃ n'17 : Nat, ((x'13 = (Go.Value.slice p'15 n'16 n'17)) ∧ (K (Go.Value.slice p'15 n'16 n'17) h'14)))))) h))) :
  f38_3 w0 K x1 a5 n5 c5 a9 n9 c9 x10 x11 h := fun j => LP_intro (P := Go.Proofs.Try.prog) (Eq.mp (by kernel_rfl) hv)

theorem f38_go {w0 : World} {K : Value → AH → Prop} (x0_0 : Int) (x0_1 : Int) (x0_2 : Int) (a0_3 : Option Go.Addr) (n0_3 : Nat) (c0_3 : Nat) (x1 : Int) (h : AH)
  (hv : (f38_3 w0 K x1 none 0 0 a0_3 n0_3 c0_3 ((n0_3 : Nat) : Int) (0 : Int) h)) :
  EvC Go.Proofs.Try.prog w0 38 ([(.agg #[(.int .i64 x0_0), (.int .i64 x0_1), (.int .i64 x0_2), (.slice a0_3 n0_3 c0_3)]), (.int .i64 x1)]).toArray K h := EvC_intro (P := Go.Proofs.Try.prog) f38_J (Eq.mp (by kernel_rfl) hv)
theorem f38_loop {w0 : World} {K : Value → AH → Prop} {h0 : AH} {a : Option Addr} {n c : Nat} {ts : List Tab} {x : Int} (s : TS w0 h0 a n c ts) (hn : n ≤ 1000000)
    (hk : ∀ a' n' c' h' ts', Sl w0 h' 5 a' n' c' (tabs ts') → ts'.map Tab.dat = (ts.filter fun t => t.lev == x).map Tab.dat → (∀ t ∈ ts', t.Ok w0 h') → Ext h0 h' none → New h0 a' → K (.slice a' n' c') h') :
    ∀ (rest : List Tab) (i : Nat) (a3 : Option Addr) (n3 c3 : Nat) (h : AH), ts.drop i = rest → i ≤ n → Ext h0 h none → New h0 a3 → Sl w0 h 5 a3 n3 c3 (tabs ((ts.take i).filter fun t => t.lev == x)) →
      f38_3 w0 K x a3 n3 c3 a n c ((n : Nat) : Int) ((i : Nat) : Int) h := by
  intro rest
  induction rest with
  | nil =>
    intro i a3 n3 c3 h hd hi hx hnew so
    have := drop_done hd
    have hl := s.len
    have hl5 := so.len5
    rw [List.take_of_length_le (by omega)] at so hl5
    have := List.length_filter_le (fun t : Tab => t.lev == x) ts
    refine f38_3_in _ _ _ _ _ _ _ _ _ _ (brB_of (fun q => by simp at q; omega) fun _ => f58_spec (so.ts (by omega) fun t ht => (s.ext hx).ok t (List.mem_filter.1 ht).1) (by omega) fun a' n' c' h' ts' s' hdat hok x' hnew' => ?_)
    exact ⟨_, _, _, rfl, hk _ _ _ _ _ s' hdat hok (hx.trans x') (hnew'.old hx)⟩
  | cons t r ih =>
    intro i a3 n3 c3 h hd hi hx hnew so
    obtain ⟨hget, hd', hlt⟩ := drop_step hd
    have hl := s.len
    have hl5 := so.len5
    have := List.length_filter_le (fun t : Tab => t.lev == x) (ts.take i)
    have : (ts.take i).length ≤ i := by simp; omega
    have htake : ts.take (i + 1) = ts.take i ++ [t] := by rw [List.take_add_one, hget]; rfl
    refine f38_3_in _ _ _ _ _ _ _ _ _ _ (brB_of (fun _ => tabLoad (s.ext hx).rs.rd s.len hget (brB_of (fun q => ?_) fun q => ?_)) fun q => by simp at q; omega)
    · refine App_own so (by omega) (by omega) rfl (tabs_cell [t]) fun a' c' h' s' x' f' => ?_
      rw [wrapS (by omega)]
      refine ih (i + 1) a' (n3 + 1) c' h' hd' (by omega) (hx.past hnew x') (hnew.grown hx f') ?_
      rw [htake, List.filter_append, tabs_append, List.filter_cons, if_pos q]
      exact s'
    · rw [wrapS (by omega)]
      refine ih (i + 1) a3 n3 c3 h hd' (by omega) hx hnew ?_
      rw [htake, List.filter_append, List.filter_cons, if_neg (by rw [q]; simp)]
      simpa using so

/-- level.At. -/
theorem f38_spec {w0 : World} {K : Value → AH → Prop} {h0 : AH} {a : Option Addr} {n c : Nat} {ts : List Tab} {x lo nx sq : Int} (s : TS w0 h0 a n c ts) (hn : n ≤ 1000000)
    (hk : ∀ a' n' c' h' ts', Sl w0 h' 5 a' n' c' (tabs ts') → ts'.map Tab.dat = (ts.filter fun t => t.lev == x).map Tab.dat → (∀ t ∈ ts', t.Ok w0 h') → Ext h0 h' none → New h0 a' → K (.slice a' n' c') h') :
    EvC Go.Proofs.Try.prog w0 38 #[.agg #[.int .i64 lo, .int .i64 nx, .int .i64 sq, .slice a n c], .int .i64 x] K h0 :=
  f38_go _ _ _ _ _ _ _ _ (f38_loop s hn hk ts 0 none 0 0 h0 rfl (by omega) (Ext.refl _ _) New.none Sl.nil)
def f39_J : Nat → List Nat × Nat := jOf [(3, [0, 2, 3, 4, 6, 7, 8, 12, 13, 14, 15, 16, 17, 18, 19, 20, 21, 22, 23, 24], 0)]

def f39_3 (w0 : World) (K : Value → AH → Prop) (x1 : Int) (a5 : Option Go.Addr) (n5 : Nat) (c5 : Nat) (a9 : Option Go.Addr) (n9 : Nat) (c9 : Nat) (x10 : Int) (x11 : Int) (h : AH) : Prop :=
  ∀ j : Nat → Value, LPk Go.Proofs.Try.prog w0 (EvC Go.Proofs.Try.prog w0) f39_J 39 K 3 [.v (j 0), .v (.int .i64 x1), .v (j 2), .v (j 3), .v (j 4), .v (.slice a5 n5 c5), .v (j 6), .v (j 7), .v (j 8), .v (.slice a9 n9 c9), .v (.int .i64 x10), .v (.int .i64 x11), .v (j 12), .v (j 13), .v (j 14), .v (j 15), .v (j 16), .v (j 17), .v (j 18), .v (j 19), .v (j 20), .v (j 21), .v (j 22), .v (j 23), .v (j 24)] [] h

theorem f39_3_in {w0 : World} {K : Value → AH → Prop} (x1 : Int) (a5 : Option Go.Addr) (n5 : Nat) (c5 : Nat) (a9 : Option Go.Addr) (n9 : Nat) (c9 : Nat) (x10 : Int) (x11 : Int) (h : AH)
  (hv : (brB (decide ((x11 < x10))) (∃ a'0 : Go.Addr, ((a9 = (some a'0)) ∧ (((0 : Int) ≤ x11) ∧ ((x11 < ((n9 : Nat) : Int)) ∧ (∃ i'1 : Int, (∃ i'2 : Int, (∃ i'3 : Int, (∃ p'4 : Option Go.Addr, (∃ n'5 : Nat, (∃ n'6 : Nat, (∃ p'7 : Option Go.Addr, (∃ n'8 : Nat, (∃ n'9 : Nat, ((((Array.size #[(Go.Value.int .i64 i'1), (Go.Value.int .i64 i'2), (Go.Value.int .i64 i'3), (Go.Value.slice p'4 n'5 n'6), (Go.Value.slice p'7 n'8 n'9)]) = 5) ∧ (At w0 h (Go.Addr.add a'0 ((Int.toNat x11) * 5)) [(Go.Value.int .i64 i'1), (Go.Value.int .i64 i'2), (Go.Value.int .i64 i'3), (Go.Value.slice p'4 n'5 n'6), (Go.Value.slice p'7 n'8 n'9)])) ∧ (brB (i'2 == x1) (App w0 h 5 72 a5 n5 c5 1 [(Go.Value.int .i64 i'1), (Go.Value.int .i64 i'2), (Go.Value.int .i64 i'3), (Go.Value.slice p'4 n'5 n'6), (Go.Value.slice p'7 n'8 n'9)] (fun a'10 c'11 h'12 => (f39_3 w0 K x1 a'10 (n5 + 1) c'11 a9 n9 c9 x10 (Go.IntKind.wrap .i64 (x11 + (1 : Int))) h'12))) (f39_3 w0 K x1 a5 n5 c5 a9 n9 c9 x10 (Go.IntKind.wrap .i64 (x11 + (1 : Int))) h)))))))))))))))) (K (Go.Value.slice a5 n5 c5) h))) :
  f39_3 w0 K x1 a5 n5 c5 a9 n9 c9 x10 x11 h := fun j => LP_intro (P := Go.Proofs.Try.prog) (Eq.mp (by kernel_rfl) hv)

theorem f39_go {w0 : World} {K : Value → AH → Prop} (x0_0 : Int) (x0_1 : Int) (x0_2 : Int) (a0_3 : Option Go.Addr) (n0_3 : Nat) (c0_3 : Nat) (x1 : Int) (h : AH)
  (hv : (f39_3 w0 K x1 none 0 0 a0_3 n0_3 c0_3 ((n0_3 : Nat) : Int) (0 : Int) h)) :
  EvC Go.Proofs.Try.prog w0 39 ([(.agg #[(.int .i64 x0_0), (.int .i64 x0_1), (.int .i64 x0_2), (.slice a0_3 n0_3 c0_3)]), (.int .i64 x1)]).toArray K h := EvC_intro (P := Go.Proofs.Try.prog) f39_J (Eq.mp (by kernel_rfl) hv)
theorem f39_loop {w0 : World} {K : Value → AH → Prop} {h0 : AH} {a : Option Addr} {n c : Nat} {ts : List Tab} {x : Int} (s : TS w0 h0 a n c ts) (hn : n ≤ 1000000)
    (hk : ∀ a' n' c' h', Sl w0 h' 5 a' n' c' (tabs (ts.filter fun t => t.lev == x)) → Ext h0 h' none → New h0 a' → K (.slice a' n' c') h') :
    ∀ (rest : List Tab) (i : Nat) (a3 : Option Addr) (n3 c3 : Nat) (h : AH), ts.drop i = rest → i ≤ n → Ext h0 h none → New h0 a3 → Sl w0 h 5 a3 n3 c3 (tabs ((ts.take i).filter fun t => t.lev == x)) →
      f39_3 w0 K x a3 n3 c3 a n c ((n : Nat) : Int) ((i : Nat) : Int) h := by
  intro rest
  induction rest with
  | nil =>
    intro i a3 n3 c3 h hd hi hx hnew so
    have := drop_done hd
    have hl := s.len
    rw [List.take_of_length_le (by omega)] at so
    exact f39_3_in _ _ _ _ _ _ _ _ _ _ (brB_of (fun q => by simp at q; omega) fun _ => hk _ _ _ _ so hx hnew)
  | cons t r ih =>
    intro i a3 n3 c3 h hd hi hx hnew so
    obtain ⟨hget, hd', hlt⟩ := drop_step hd
    have hl := s.len
    have hl5 := so.len5
    have := List.length_filter_le (fun t : Tab => t.lev == x) (ts.take i)
    have : (ts.take i).length ≤ i := by simp; omega
    have htake : ts.take (i + 1) = ts.take i ++ [t] := by rw [List.take_add_one, hget]; rfl
    refine f39_3_in _ _ _ _ _ _ _ _ _ _ (brB_of (fun _ => tabLoad (s.ext hx).rs.rd s.len hget (brB_of (fun q => ?_) fun q => ?_)) fun q => by simp at q; omega)
    · refine App_own so (by omega) (by omega) rfl (tabs_cell [t]) fun a' c' h' s' x' f' => ?_
      rw [wrapS (by omega)]
      refine ih (i + 1) a' (n3 + 1) c' h' hd' (by omega) (hx.past hnew x') (hnew.grown hx f') ?_
      rw [htake, List.filter_append, tabs_append, List.filter_cons, if_pos q]
      exact s'
    · rw [wrapS (by omega)]
      refine ih (i + 1) a3 n3 c3 h hd' (by omega) hx hnew ?_
      rw [htake, List.filter_append, List.filter_cons, if_neg (by rw [q]; simp)]
      simpa using so

/-- ref At. -/
theorem f39_spec {w0 : World} {K : Value → AH → Prop} {h0 : AH} {a : Option Addr} {n c : Nat} {ts : List Tab} {x lo nx sq : Int} (s : TS w0 h0 a n c ts) (hn : n ≤ 1000000)
    (hk : ∀ a' n' c' h', Sl w0 h' 5 a' n' c' (tabs (ts.filter fun t => t.lev == x)) → Ext h0 h' none → New h0 a' → K (.slice a' n' c') h') :
    EvC Go.Proofs.Try.prog w0 39 #[.agg #[.int .i64 lo, .int .i64 nx, .int .i64 sq, .slice a n c], .int .i64 x] K h0 :=
  f39_go _ _ _ _ _ _ _ _ (f39_loop s hn hk ts 0 none 0 0 h0 rfl (by omega) (Ext.refl _ _) New.none Sl.nil)
def f41_J : Nat → List Nat × Nat := jOf [(3, [0, 1, 2, 3, 4, 6, 7, 8, 9, 13, 14, 15, 16, 17, 18, 19, 20, 21], 0)]

def f41_3 (w0 : World) (K : Value → AH → Prop) (x5 : Int) (a10 : Option Go.Addr) (n10 : Nat) (c10 : Nat) (x11 : Int) (x12 : Int) (h : AH) : Prop :=
  ∀ j : Nat → Value, LPk Go.Proofs.Try.prog w0 (EvC Go.Proofs.Try.prog w0) f41_J 41 K 3 [.v (j 0), .v (j 1), .v (j 2), .v (j 3), .v (j 4), .v (.int .i64 x5), .v (j 6), .v (j 7), .v (j 8), .v (j 9), .v (.slice a10 n10 c10), .v (.int .i64 x11), .v (.int .i64 x12), .v (j 13), .v (j 14), .v (j 15), .v (j 16), .v (j 17), .v (j 18), .v (j 19), .v (j 20), .v (j 21)] [] h

theorem f41_3_in {w0 : World} {K : Value → AH → Prop} (x5 : Int) (a10 : Option Go.Addr) (n10 : Nat) (c10 : Nat) (x11 : Int) (x12 : Int) (h : AH)
  (hv : (brB (decide ((x12 < x11))) (∃ a'5 : Go.Addr, ((a10 = (some a'5)) ∧ (((0 : Int) ≤ x12) ∧ ((x12 < ((n10 : Nat) : Int)) ∧ (∃ i'6 : Int, (∃ i'7 : Int, (∃ i'8 : Int, (∃ p'9 : Option Go.Addr, (∃ n'10 : Nat, (∃ n'11 : Nat, (∃ p'12 : Option Go.Addr, (∃ n'13 : Nat, (∃ n'14 : Nat, ((((Array.size #[(Go.Value.int .i64 i'6), (Go.Value.int .i64 i'7), (Go.Value.int .i64 i'8), (Go.Value.slice p'9 n'10 n'11), (Go.Value.slice p'12 n'13 n'14)]) = 5) ∧ (At w0 h (Go.Addr.add a'5 ((Int.toNat x12) * 5)) [(Go.Value.int .i64 i'6), (Go.Value.int .i64 i'7), (Go.Value.int .i64 i'8), (Go.Value.slice p'9 n'10 n'11), (Go.Value.slice p'12 n'13 n'14)])) ∧ (f41_3 w0 K (Go.IntKind.wrap .i64 (x5 + i'8)) a10 n10 c10 x11 (Go.IntKind.wrap .i64 (x12 + (1 : Int))) h))))))))))))))) (K (Go.Value.int .i64 x5) h))) :
  f41_3 w0 K x5 a10 n10 c10 x11 x12 h := fun j => LP_intro (P := Go.Proofs.Try.prog) (Eq.mp (by kernel_rfl) hv)

theorem f41_go {w0 : World} {K : Value → AH → Prop} (x0_0 : Int) (x0_1 : Int) (x0_2 : Int) (a0_3 : Option Go.Addr) (n0_3 : Nat) (c0_3 : Nat) (x1 : Int) (h : AH)
  (hv : (EvC Go.Proofs.Try.prog w0 39 #[(Go.Value.agg #[(Go.Value.int .i64 x0_0), (Go.Value.int .i64 x0_1), (Go.Value.int .i64 x0_2), (Go.Value.slice a0_3 n0_3 c0_3)]), (Go.Value.int .i64 x1)] (fun x'0 h'1 => (∃ p'2 : Option Go.Addr, (∃ n'3 : Nat, (∃ n'4 : Nat, ((x'0 = (Go.Value.slice p'2 n'3 n'4)) ∧ (f41_3 w0 K (0 : Int) p'2 n'3 n'4 ((n'3 : Nat) : Int) (0 : Int) h'1)))))) h)) :
  EvC Go.Proofs.Try.prog w0 41 ([(.agg #[(.int .i64 x0_0), (.int .i64 x0_1), (.int .i64 x0_2), (.slice a0_3 n0_3 c0_3)]), (.int .i64 x1)]).toArray K h := EvC_intro (P := Go.Proofs.Try.prog) f41_J (Eq.mp (by kernel_rfl) hv)
def f40_J : Nat → List Nat × Nat := jOf [(3, [0, 1, 2, 3, 4, 6, 7, 8, 9, 13, 14, 15, 16, 17, 18, 19, 20, 21, 22, 23, 24, 25], 0)]

def f40_3 (w0 : World) (K : Value → AH → Prop) (x5 : Int) (a10 : Option Go.Addr) (n10 : Nat) (c10 : Nat) (x11 : Int) (x12 : Int) (h : AH) : Prop :=
  ∀ j : Nat → Value, LPk Go.Proofs.Try.prog w0 (EvC Go.Proofs.Try.prog w0) f40_J 40 K 3 [.v (j 0), .v (j 1), .v (j 2), .v (j 3), .v (j 4), .v (.int .i64 x5), .v (j 6), .v (j 7), .v (j 8), .v (j 9), .v (.slice a10 n10 c10), .v (.int .i64 x11), .v (.int .i64 x12), .v (j 13), .v (j 14), .v (j 15), .v (j 16), .v (j 17), .v (j 18), .v (j 19), .v (j 20), .v (j 21), .v (j 22), .v (j 23), .v (j 24), .v (j 25)] [] h

theorem f40_3_in {w0 : World} {K : Value → AH → Prop} (x5 : Int) (a10 : Option Go.Addr) (n10 : Nat) (c10 : Nat) (x11 : Int) (x12 : Int) (h : AH)
  (hv : (brB (decide ((x12 < x11))) (∃ a'5 : Go.Addr, ((a10 = (some a'5)) ∧ (((0 : Int) ≤ x12) ∧ ((x12 < ((n10 : Nat) : Int)) ∧ (∃ i'6 : Int, (∃ i'7 : Int, (∃ i'8 : Int, (∃ p'9 : Option Go.Addr, (∃ n'10 : Nat, (∃ n'11 : Nat, (∃ p'12 : Option Go.Addr, (∃ n'13 : Nat, (∃ n'14 : Nat, ((((Array.size #[(Go.Value.int .i64 i'6), (Go.Value.int .i64 i'7), (Go.Value.int .i64 i'8), (Go.Value.slice p'9 n'10 n'11), (Go.Value.slice p'12 n'13 n'14)]) = 5) ∧ (At w0 h (Go.Addr.add a'5 ((Int.toNat x12) * 5)) [(Go.Value.int .i64 i'6), (Go.Value.int .i64 i'7), (Go.Value.int .i64 i'8), (Go.Value.slice p'9 n'10 n'11), (Go.Value.slice p'12 n'13 n'14)])) ∧ (f40_3 w0 K (Go.IntKind.wrap .i64 (x5 + (if ((Go.IntKind.wrap .i64 ((4611686018427387904 : Int) - x5)) < (if ((0 : Int) < i'8) then i'8 else (0 : Int))) then (Go.IntKind.wrap .i64 ((4611686018427387904 : Int) - x5)) else (if ((0 : Int) < i'8) then i'8 else (0 : Int))))) a10 n10 c10 x11 (Go.IntKind.wrap .i64 (x12 + (1 : Int))) h))))))))))))))) (K (Go.Value.int .i64 x5) h))) :
  f40_3 w0 K x5 a10 n10 c10 x11 x12 h := fun j => LP_intro (P := Go.Proofs.Try.prog) (Eq.mp (by kernel_rfl) hv)

theorem f40_go {w0 : World} {K : Value → AH → Prop} (x0_0 : Int) (x0_1 : Int) (x0_2 : Int) (a0_3 : Option Go.Addr) (n0_3 : Nat) (c0_3 : Nat) (x1 : Int) (h : AH)
  (hv : (EvC Go.Proofs.Try.prog w0 38 #[(Go.Value.agg #[(Go.Value.int .i64 x0_0), (Go.Value.int .i64 x0_1), (Go.Value.int .i64 x0_2), (Go.Value.slice a0_3 n0_3 c0_3)]), (Go.Value.int .i64 x1)] (fun x'0 h'1 => (∃ p'2 : Option Go.Addr, (∃ n'3 : Nat, (∃ n'4 : Nat, ((x'0 = (Go.Value.slice p'2 n'3 n'4)) ∧ (f40_3 w0 K (0 : Int) p'2 n'3 n'4 ((n'3 : Nat) : Int) (0 : Int) h'1)))))) h)) :
  EvC Go.Proofs.Try.prog w0 40 ([(.agg #[(.int .i64 x0_0), (.int .i64 x0_1), (.int .i64 x0_2), (.slice a0_3 n0_3 c0_3)]), (.int .i64 x1)]).toArray K h := EvC_intro (P := Go.Proofs.Try.prog) f40_J (Eq.mp (by kernel_rfl) hv)
/-- The bytes of tables. -/
def sizes (ts : List Tab) : Int := (ts.map Tab.siz).sum
theorem sizes_dat {ts us : List Tab} (h : us.map Tab.dat = ts.map Tab.dat) : us.map Tab.siz = ts.map Tab.siz := by
  have := congrArg (List.map fun x : Int × Int × Int × List UInt8 × List UInt8 => x.2.2.1) h
  simpa [Tab.dat, Function.comp_def] using this

theorem f41_loop {w0 : World} {K : Value → AH → Prop} {h : AH} {a : Option Addr} {n c : Nat} {ts : List Tab} (s : TS w0 h a n c ts) (hn : n ≤ 1000000) (hsz : ∀ t ∈ ts, 1 ≤ t.siz ∧ t.siz ≤ 4194304) (hk : K (.int .i64 (sizes ts)) h) :
    ∀ (rest : List Tab) (i : Nat) (x : Int), ts.drop i = rest → i ≤ n → 0 ≤ x → x ≤ i * 4194304 → sizes ts = x + sizes rest → f41_3 w0 K x a n c ((n : Nat) : Int) ((i : Nat) : Int) h := by
  intro rest
  induction rest with
  | nil =>
    intro i x hd hi h0 h1 he
    have := drop_done hd
    have hl := s.len
    have : sizes ts = x := by rw [he]; simp [sizes]
    rw [this] at hk
    exact f41_3_in _ _ _ _ _ _ _ (brB_of (fun q => by simp at q; omega) fun _ => hk)
  | cons t r ih =>
    intro i x hd hi h0 h1 he
    obtain ⟨hget, hd', hlt⟩ := drop_step hd
    have hl := s.len
    have hb := hsz t (List.mem_of_getElem? hget)
    refine f41_3_in _ _ _ _ _ _ _ (brB_of (fun _ => tabLoad s.rs.rd s.len hget ?_) fun q => by simp at q; omega)
    rw [wrapS (by omega), wrap64 (x := x + t.siz) (by omega) (by omega)]
    exact ih (i + 1) _ hd' (by omega) (by omega) (by omega) (by rw [he]; simp [sizes]; omega)

/-- ref Size. -/
theorem f41_spec {w0 : World} {K : Value → AH → Prop} {h0 : AH} {a : Option Addr} {n c : Nat} {ts : List Tab} {x lo nx sq : Int} (s : TS w0 h0 a n c ts) (hn : n ≤ 1000000) (hsz : ∀ t ∈ ts, 1 ≤ t.siz ∧ t.siz ≤ 4194304)
    (hk : ∀ h', Ext h0 h' none → K (.int .i64 (sizes (ts.filter fun t => t.lev == x))) h') :
    EvC Go.Proofs.Try.prog w0 41 #[.agg #[.int .i64 lo, .int .i64 nx, .int .i64 sq, .slice a n c], .int .i64 x] K h0 := by
  refine f41_go _ _ _ _ _ _ _ _ (f39_spec s hn fun a' n' c' h' s' x' _ => ⟨_, _, _, rfl, ?_⟩)
  have := s'.len5
  have := List.length_filter_le (fun t : Tab => t.lev == x) ts
  have := s.len
  exact f41_loop (s'.ts (by omega) fun t ht => (s.ext x').ok t (List.mem_filter.1 ht).1) (by omega) (fun t ht => hsz t (List.mem_filter.1 ht).1) (hk h' x') _ 0 0 rfl (by omega) (by omega) (by omega) (by simp)

theorem f40_loop {w0 : World} {K : Value → AH → Prop} {h : AH} {a : Option Addr} {n c : Nat} {ts : List Tab} (s : TS w0 h a n c ts) (hn : n ≤ 1000000) (hsz : ∀ t ∈ ts, 1 ≤ t.siz ∧ t.siz ≤ 4194304) (hk : K (.int .i64 (sizes ts)) h) :
    ∀ (rest : List Tab) (i : Nat) (x : Int), ts.drop i = rest → i ≤ n → 0 ≤ x → x ≤ i * 4194304 → sizes ts = x + sizes rest → f40_3 w0 K x a n c ((n : Nat) : Int) ((i : Nat) : Int) h := by
  intro rest
  induction rest with
  | nil =>
    intro i x hd hi h0 h1 he
    have := drop_done hd
    have hl := s.len
    have : sizes ts = x := by rw [he]; simp [sizes]
    rw [this] at hk
    exact f40_3_in _ _ _ _ _ _ _ (brB_of (fun q => by simp at q; omega) fun _ => hk)
  | cons t r ih =>
    intro i x hd hi h0 h1 he
    obtain ⟨hget, hd', hlt⟩ := drop_step hd
    have hl := s.len
    have hb := hsz t (List.mem_of_getElem? hget)
    refine f40_3_in _ _ _ _ _ _ _ (brB_of (fun _ => tabLoad s.rs.rd s.len hget ?_) fun q => by simp at q; omega)
    rw [wrapS (by omega), wrap64 (x := 4611686018427387904 - x) (by omega) (by omega), if_pos (show (0 : Int) < t.siz by omega), if_neg (show ¬ (4611686018427387904 - x < t.siz) by omega), wrap64 (x := x + t.siz) (by omega) (by omega)]
    exact ih (i + 1) _ hd' (by omega) (by omega) (by omega) (by rw [he]; simp [sizes]; omega)

/-- level.Size. -/
theorem f40_spec {w0 : World} {K : Value → AH → Prop} {h0 : AH} {a : Option Addr} {n c : Nat} {ts : List Tab} {x lo nx sq : Int} (s : TS w0 h0 a n c ts) (hn : n ≤ 1000000) (hsz : ∀ t ∈ ts, 1 ≤ t.siz ∧ t.siz ≤ 4194304)
    (hk : ∀ h', Ext h0 h' none → K (.int .i64 (sizes (ts.filter fun t => t.lev == x))) h') :
    EvC Go.Proofs.Try.prog w0 40 #[.agg #[.int .i64 lo, .int .i64 nx, .int .i64 sq, .slice a n c], .int .i64 x] K h0 := by
  refine f40_go _ _ _ _ _ _ _ _ (f38_spec s hn fun a' n' c' h' ts' s' hdat hok x' _ => ⟨_, _, _, rfl, ?_⟩)
  have hl5 := s'.len5
  have hlen := congrArg List.length hdat
  simp only [List.length_map] at hlen
  have := List.length_filter_le (fun t : Tab => t.lev == x) ts
  have := s.len
  have hsiz := sizes_dat hdat
  have hk' := hk h' x'
  have he : sizes (ts.filter fun t => t.lev == x) = sizes ts' := by simp only [sizes]; rw [hsiz]
  rw [he] at hk'
  refine f40_loop (s'.ts (by omega) hok) (by omega) (fun t ht => ?_) hk' _ 0 0 rfl (by omega) (by omega) (by omega) (by simp)
  have hm : t.siz ∈ ts'.map Tab.siz := List.mem_map_of_mem ht
  rw [hsiz] at hm
  obtain ⟨u, hu, hus⟩ := List.mem_map.1 hm
  rw [← hus]
  exact hsz u (List.mem_filter.1 hu).1
def f20_J : Nat → List Nat × Nat := jOf []



theorem f20_go {w0 : World} {K : Value → AH → Prop} (x0_0 : Int) (x0_1 : Int) (x0_2 : Int) (a0_3 : Option Go.Addr) (n0_3 : Nat) (c0_3 : Nat) (x1 : Int) (h : AH)
  (hv : (brB (x1 == (0 : Int)) (EvC Go.Proofs.Try.prog w0 39 #[(Go.Value.agg #[(Go.Value.int .i64 x0_0), (Go.Value.int .i64 x0_1), (Go.Value.int .i64 x0_2), (Go.Value.slice a0_3 n0_3 c0_3)]), (Go.Value.int .i64 (0 : Int))] (fun x'0 h'1 => (∃ p'2 : Option Go.Addr, (∃ n'3 : Nat, (∃ n'4 : Nat, ((x'0 = (Go.Value.slice p'2 n'3 n'4)) ∧ (K (Go.Value.bool (decide (((4 : Int) ≤ ((n'3 : Nat) : Int))))) h'1)))))) h) (brB (x1 == (1 : Int)) (EvC Go.Proofs.Try.prog w0 41 #[(Go.Value.agg #[(Go.Value.int .i64 x0_0), (Go.Value.int .i64 x0_1), (Go.Value.int .i64 x0_2), (Go.Value.slice a0_3 n0_3 c0_3)]), (Go.Value.int .i64 (1 : Int))] (fun x'5 h'6 => (∃ i'7 : Int, ((x'5 = (Go.Value.int .i64 i'7)) ∧ (K (Go.Value.bool (decide (((4096 : Int) < i'7)))) h'6)))) h) (brB (x1 == (2 : Int)) (EvC Go.Proofs.Try.prog w0 41 #[(Go.Value.agg #[(Go.Value.int .i64 x0_0), (Go.Value.int .i64 x0_1), (Go.Value.int .i64 x0_2), (Go.Value.slice a0_3 n0_3 c0_3)]), (Go.Value.int .i64 (2 : Int))] (fun x'8 h'9 => (∃ i'10 : Int, ((x'8 = (Go.Value.int .i64 i'10)) ∧ (K (Go.Value.bool (decide (((16384 : Int) < i'10)))) h'9)))) h) (K (Go.Value.bool false) h))))) :
  EvC Go.Proofs.Try.prog w0 20 ([(.agg #[(.int .i64 x0_0), (.int .i64 x0_1), (.int .i64 x0_2), (.slice a0_3 n0_3 c0_3)]), (.int .i64 x1)]).toArray K h := EvC_intro (P := Go.Proofs.Try.prog) f20_J (Eq.mp (by kernel_rfl) hv)
def f19_J : Nat → List Nat × Nat := jOf []



theorem f19_go {w0 : World} {K : Value → AH → Prop} (x0_0 : Int) (x0_1 : Int) (x0_2 : Int) (a0_3 : Option Go.Addr) (n0_3 : Nat) (c0_3 : Nat) (x1 : Int) (h : AH)
  (hv : (brB (x1 == (0 : Int)) (EvC Go.Proofs.Try.prog w0 38 #[(Go.Value.agg #[(Go.Value.int .i64 x0_0), (Go.Value.int .i64 x0_1), (Go.Value.int .i64 x0_2), (Go.Value.slice a0_3 n0_3 c0_3)]), (Go.Value.int .i64 (0 : Int))] (fun x'0 h'1 => (∃ p'2 : Option Go.Addr, (∃ n'3 : Nat, (∃ n'4 : Nat, ((x'0 = (Go.Value.slice p'2 n'3 n'4)) ∧ (K (Go.Value.bool (decide (((4 : Int) ≤ ((n'3 : Nat) : Int))))) h'1)))))) h) (brB (x1 == (1 : Int)) (EvC Go.Proofs.Try.prog w0 40 #[(Go.Value.agg #[(Go.Value.int .i64 x0_0), (Go.Value.int .i64 x0_1), (Go.Value.int .i64 x0_2), (Go.Value.slice a0_3 n0_3 c0_3)]), (Go.Value.int .i64 (1 : Int))] (fun x'5 h'6 => (∃ i'7 : Int, ((x'5 = (Go.Value.int .i64 i'7)) ∧ (K (Go.Value.bool (decide (((4096 : Int) < i'7)))) h'6)))) h) (brB (x1 == (2 : Int)) (EvC Go.Proofs.Try.prog w0 40 #[(Go.Value.agg #[(Go.Value.int .i64 x0_0), (Go.Value.int .i64 x0_1), (Go.Value.int .i64 x0_2), (Go.Value.slice a0_3 n0_3 c0_3)]), (Go.Value.int .i64 (2 : Int))] (fun x'8 h'9 => (∃ i'10 : Int, ((x'8 = (Go.Value.int .i64 i'10)) ∧ (K (Go.Value.bool (decide (((16384 : Int) < i'10)))) h'9)))) h) (K (Go.Value.bool false) h))))) :
  EvC Go.Proofs.Try.prog w0 19 ([(.agg #[(.int .i64 x0_0), (.int .i64 x0_1), (.int .i64 x0_2), (.slice a0_3 n0_3 c0_3)]), (.int .i64 x1)]).toArray K h := EvC_intro (P := Go.Proofs.Try.prog) f19_J (Eq.mp (by kernel_rfl) hv)
/-- Is a level full? -/
def fullR (ts : List Tab) (x : Int) : Bool :=
  if x = 0 then decide (4 ≤ (ts.filter fun t => t.lev == 0).length) else if x = 1 then decide (4096 < sizes (ts.filter fun t => t.lev == 1)) else if x = 2 then decide (16384 < sizes (ts.filter fun t => t.lev == 2)) else false

/-- pick.Full. -/
theorem f19_spec {w0 : World} {K : Value → AH → Prop} {h0 : AH} {a : Option Addr} {n c : Nat} {ts : List Tab} {x lo nx sq : Int} (s : TS w0 h0 a n c ts) (hn : n ≤ 1000000) (hsz : ∀ t ∈ ts, 1 ≤ t.siz ∧ t.siz ≤ 4194304)
    (hk : ∀ h', Ext h0 h' none → K (.bool (fullR ts x)) h') :
    EvC Go.Proofs.Try.prog w0 19 #[.agg #[.int .i64 lo, .int .i64 nx, .int .i64 sq, .slice a n c], .int .i64 x] K h0 := by
  refine f19_go _ _ _ _ _ _ _ _ (brB_of (fun q => f38_spec s hn fun a' n' c' h' ts' s' hdat hok x' _ => ⟨_, _, _, rfl, ?_⟩) fun q => brB_of (fun q1 => f40_spec s hn hsz fun h' x' => ⟨_, rfl, ?_⟩) fun q1 => brB_of (fun q2 => f40_spec s hn hsz fun h' x' => ⟨_, rfl, ?_⟩) fun q2 => ?_)
  all_goals simp only [beq_iff_eq, beq_eq_false_iff_ne, ne_eq] at *
  · have hk' := hk h' x'
    have hl := congrArg List.length hdat
    simp only [List.length_map] at hl
    simp only [fullR, q, if_true, ← hl, ← s'.len5] at hk'
    rw [show decide ((4 : Int) ≤ ((n' : Nat) : Int)) = decide (4 ≤ n') from decide_eq_decide.2 (by omega)]
    exact hk'
  · have hk' := hk h' x'
    simp only [fullR, if_neg q, if_pos q1] at hk'
    exact hk'
  · have hk' := hk h' x'
    simp only [fullR, if_neg q, if_neg q1, if_pos q2] at hk'
    exact hk'
  · have hk' := hk h0 (Ext.refl _ _)
    simp only [fullR, if_neg q, if_neg q1, if_neg q2] at hk'
    exact hk'

/-- ref Full. -/
theorem f20_spec {w0 : World} {K : Value → AH → Prop} {h0 : AH} {a : Option Addr} {n c : Nat} {ts : List Tab} {x lo nx sq : Int} (s : TS w0 h0 a n c ts) (hn : n ≤ 1000000) (hsz : ∀ t ∈ ts, 1 ≤ t.siz ∧ t.siz ≤ 4194304)
    (hk : ∀ h', Ext h0 h' none → K (.bool (fullR ts x)) h') :
    EvC Go.Proofs.Try.prog w0 20 #[.agg #[.int .i64 lo, .int .i64 nx, .int .i64 sq, .slice a n c], .int .i64 x] K h0 := by
  refine f20_go _ _ _ _ _ _ _ _ (brB_of (fun q => f39_spec s hn fun a' n' c' h' s' x' _ => ⟨_, _, _, rfl, ?_⟩) fun q => brB_of (fun q1 => f41_spec s hn hsz fun h' x' => ⟨_, rfl, ?_⟩) fun q1 => brB_of (fun q2 => f41_spec s hn hsz fun h' x' => ⟨_, rfl, ?_⟩) fun q2 => ?_)
  all_goals simp only [beq_iff_eq, beq_eq_false_iff_ne, ne_eq] at *
  · have hk' := hk h' x'
    simp only [fullR, q, if_true, ← s'.len5] at hk'
    rw [show decide ((4 : Int) ≤ ((n' : Nat) : Int)) = decide (4 ≤ n') from decide_eq_decide.2 (by omega)]
    exact hk'
  · have hk' := hk h' x'
    simp only [fullR, if_neg q, if_pos q1] at hk'
    exact hk'
  · have hk' := hk h' x'
    simp only [fullR, if_neg q, if_neg q1, if_pos q2] at hk'
    exact hk'
  · have hk' := hk h0 (Ext.refl _ _)
    simp only [fullR, if_neg q, if_neg q1, if_neg q2] at hk'
    exact hk'
def f18_J : Nat → List Nat × Nat := jOf [(3, [1, 5, 6, 7, 8, 9, 10, 11, 12, 13, 14, 15, 16, 17, 18, 19, 20, 21, 22, 23, 24, 25, 26, 27, 28, 29, 30, 31, 32, 33, 34, 35, 36, 37, 38, 39, 40, 41], 2), (5, [1, 5, 6, 7, 8, 9, 10, 11, 12, 13, 14, 15, 16, 17, 18, 19, 20, 21, 22, 23, 24, 25, 26, 27, 28, 29, 30, 31, 32, 33, 34, 35, 36, 37, 38, 39, 40, 41], 2)]

def f18_3 (w0 : World) (K : Value → AH → Prop) (a0 : Option Go.Addr) (n0 : Nat) (c0 : Nat) (x4 : Int) (xb0_0 : Int) (xb0_1 : Int) (xb0_2 : Int) (ab0_3 : Option Go.Addr) (nb0_3 : Nat) (cb0_3 : Nat) (xb1_0 : Int) (xb1_1 : Int) (xb1_2 : Int) (ab1_3 : Option Go.Addr) (nb1_3 : Nat) (cb1_3 : Nat) (h : AH) : Prop :=
  ∀ j : Nat → Value, LPk Go.Proofs.Try.prog w0 (EvC Go.Proofs.Try.prog w0) f18_J 18 K 3 [.v (.slice a0 n0 c0), .v (j 1), .bp 0 0, .bp 1 0, .v (.int .i64 x4), .v (j 5), .v (j 6), .v (j 7), .v (j 8), .v (j 9), .v (j 10), .v (j 11), .v (j 12), .v (j 13), .v (j 14), .v (j 15), .v (j 16), .v (j 17), .v (j 18), .v (j 19), .v (j 20), .v (j 21), .v (j 22), .v (j 23), .v (j 24), .v (j 25), .v (j 26), .v (j 27), .v (j 28), .v (j 29), .v (j 30), .v (j 31), .v (j 32), .v (j 33), .v (j 34), .v (j 35), .v (j 36), .v (j 37), .v (j 38), .v (j 39), .v (j 40), .v (j 41)] [some [(.int .i64 xb0_0), (.int .i64 xb0_1), (.int .i64 xb0_2), (.slice ab0_3 nb0_3 cb0_3)], some [(.int .i64 xb1_0), (.int .i64 xb1_1), (.int .i64 xb1_2), (.slice ab1_3 nb1_3 cb1_3)]] h

def f18_5 (w0 : World) (K : Value → AH → Prop) (a0 : Option Go.Addr) (n0 : Nat) (c0 : Nat) (x4 : Int) (xb0_0 : Int) (xb0_1 : Int) (xb0_2 : Int) (ab0_3 : Option Go.Addr) (nb0_3 : Nat) (cb0_3 : Nat) (xb1_0 : Int) (xb1_1 : Int) (xb1_2 : Int) (ab1_3 : Option Go.Addr) (nb1_3 : Nat) (cb1_3 : Nat) (h : AH) : Prop :=
  ∀ j : Nat → Value, LPk Go.Proofs.Try.prog w0 (EvC Go.Proofs.Try.prog w0) f18_J 18 K 5 [.v (.slice a0 n0 c0), .v (j 1), .bp 0 0, .bp 1 0, .v (.int .i64 x4), .v (j 5), .v (j 6), .v (j 7), .v (j 8), .v (j 9), .v (j 10), .v (j 11), .v (j 12), .v (j 13), .v (j 14), .v (j 15), .v (j 16), .v (j 17), .v (j 18), .v (j 19), .v (j 20), .v (j 21), .v (j 22), .v (j 23), .v (j 24), .v (j 25), .v (j 26), .v (j 27), .v (j 28), .v (j 29), .v (j 30), .v (j 31), .v (j 32), .v (j 33), .v (j 34), .v (j 35), .v (j 36), .v (j 37), .v (j 38), .v (j 39), .v (j 40), .v (j 41)] [some [(.int .i64 xb0_0), (.int .i64 xb0_1), (.int .i64 xb0_2), (.slice ab0_3 nb0_3 cb0_3)], some [(.int .i64 xb1_0), (.int .i64 xb1_1), (.int .i64 xb1_2), (.slice ab1_3 nb1_3 cb1_3)]] h

theorem f18_3_in {w0 : World} {K : Value → AH → Prop} (a0 : Option Go.Addr) (n0 : Nat) (c0 : Nat) (x4 : Int) (xb0_0 : Int) (xb0_1 : Int) (xb0_2 : Int) (ab0_3 : Option Go.Addr) (nb0_3 : Nat) (cb0_3 : Nat) (xb1_0 : Int) (xb1_1 : Int) (xb1_2 : Int) (ab1_3 : Option Go.Addr) (nb1_3 : Nat) (cb1_3 : Nat) (h : AH)
  (hv : (brB (decide ((x4 < ((n0 : Nat) : Int)))) (brB (decide ((x4 < (30 : Int)))) (f18_5 w0 K a0 n0 c0 x4 xb0_0 xb0_1 xb0_2 ab0_3 nb0_3 cb0_3 xb1_0 xb1_1 xb1_2 ab1_3 nb1_3 cb1_3 h) (K (Go.Value.agg #[(Go.Value.int .i64 xb1_0), (Go.Value.int .i64 xb1_1), (Go.Value.int .i64 xb1_2), (Go.Value.slice ab1_3 nb1_3 cb1_3)]) h)) (K (Go.Value.agg #[(Go.Value.int .i64 xb1_0), (Go.Value.int .i64 xb1_1), (Go.Value.int .i64 xb1_2), (Go.Value.slice ab1_3 nb1_3 cb1_3)]) h))) :
  f18_3 w0 K a0 n0 c0 x4 xb0_0 xb0_1 xb0_2 ab0_3 nb0_3 cb0_3 xb1_0 xb1_1 xb1_2 ab1_3 nb1_3 cb1_3 h := fun j => LP_intro (P := Go.Proofs.Try.prog) (Eq.mp (by kernel_rfl) hv)

theorem f18_5_in {w0 : World} {K : Value → AH → Prop} (a0 : Option Go.Addr) (n0 : Nat) (c0 : Nat) (x4 : Int) (xb0_0 : Int) (xb0_1 : Int) (xb0_2 : Int) (ab0_3 : Option Go.Addr) (nb0_3 : Nat) (cb0_3 : Nat) (xb1_0 : Int) (xb1_1 : Int) (xb1_2 : Int) (ab1_3 : Option Go.Addr) (nb1_3 : Nat) (cb1_3 : Nat) (h : AH)
  (hv : (((0 : Int) ≤ x4) ∧ ((x4 ≤ (Go.IntKind.wrap .i64 (x4 + (1 : Int)))) ∧ (((Go.IntKind.wrap .i64 (x4 + (1 : Int))) ≤ ((c0 : Nat) : Int)) ∧ (EvC Go.Proofs.Try.prog w0 24 #[(Go.Value.slice (Go.G.cutA 5 a0 c0 (Int.toNat x4)) ((Int.toNat (Go.IntKind.wrap .i64 (x4 + (1 : Int)))) - (Int.toNat x4)) (c0 - (Int.toNat x4)))] (fun x'0 h'1 => (∃ t'2 : Bool, ((x'0 = (Go.Value.bool t'2)) ∧ (brB (!t'2) (f18_3 w0 K a0 n0 c0 (Go.IntKind.wrap .i64 (x4 + (1 : Int))) xb0_0 xb0_1 xb0_2 ab0_3 nb0_3 cb0_3 xb1_0 xb1_1 xb1_2 ab1_3 nb1_3 cb1_3 h'1) (((0 : Int) ≤ x4) ∧ ((x4 ≤ (Go.IntKind.wrap .i64 (x4 + (1 : Int)))) ∧ (((Go.IntKind.wrap .i64 (x4 + (1 : Int))) ≤ ((c0 : Nat) : Int)) ∧ ((EvC Go.Proofs.Try.prog w0 34 #[(Go.Value.agg #[(Go.Value.int .i64 xb1_0), (Go.Value.int .i64 xb1_1), (Go.Value.int .i64 xb1_2), (Go.Value.slice ab1_3 nb1_3 cb1_3)]), (Go.Value.agg #[(Go.Value.int .i64 (0 : Int)), (Go.Value.int .i64 xb1_1), (Go.Value.int .i64 (0 : Int)), (Go.Value.slice (Go.G.cutA 5 a0 c0 (Int.toNat x4)) ((Int.toNat (Go.IntKind.wrap .i64 (x4 + (1 : Int)))) - (Int.toNat x4)) (c0 - (Int.toNat x4))), (Go.Value.slice none 0 0)])] (fun x'3 h'4 => (∃ i'5 : Int, (∃ i'6 : Int, (∃ i'7 : Int, (∃ p'8 : Option Go.Addr, (∃ n'9 : Nat, (∃ n'10 : Nat, (∃ i'11 : Int, ((x'3 = (Go.Value.tuple #[(Go.Value.agg #[(Go.Value.int .i64 i'5), (Go.Value.int .i64 i'6), (Go.Value.int .i64 i'7), (Go.Value.slice p'8 n'9 n'10)]), (Go.Value.int .i64 i'11)])) ∧ (brB (i'11 == (0 : Int)) (f18_3 w0 K a0 n0 c0 (Go.IntKind.wrap .i64 (x4 + (1 : Int))) xb0_0 xb0_1 xb0_2 ab0_3 nb0_3 cb0_3 i'5 i'6 i'7 p'8 n'9 n'10 h'4) (f18_3 w0 K a0 n0 c0 (Go.IntKind.wrap .i64 (x4 + (1 : Int))) xb0_0 xb0_1 xb0_2 ab0_3 nb0_3 cb0_3 xb1_0 xb1_1 xb1_2 ab1_3 nb1_3 cb1_3 h'4))))))))))) h'1) ∧ (EvC Go.Proofs.Try.prog w0 34 #[(Go.Value.agg #[(Go.Value.int .i64 xb1_0), (Go.Value.int .i64 xb1_1), (Go.Value.int .i64 xb1_2), (Go.Value.slice ab1_3 nb1_3 cb1_3)]), (Go.Value.agg #[(Go.Value.int .i64 (0 : Int)), (Go.Value.int .i64 xb1_1), (Go.Value.int .i64 (0 : Int)), (Go.Value.slice (Go.G.cutA 5 a0 c0 (Int.toNat x4)) ((Int.toNat (Go.IntKind.wrap .i64 (x4 + (1 : Int)))) - (Int.toNat x4)) (c0 - (Int.toNat x4))), (Go.Value.slice none 0 0)])] (fun x'12 h'13 => (∃ i'14 : Int, (∃ i'15 : Int, (∃ i'16 : Int, (∃ p'17 : Option Go.Addr, (∃ n'18 : Nat, (∃ n'19 : Nat, (∃ i'20 : Int, ((x'12 = (Go.Value.tuple #[(Go.Value.agg #[(Go.Value.int .i64 i'14), (Go.Value.int .i64 i'15), (Go.Value.int .i64 i'16), (Go.Value.slice p'17 n'18 n'19)]), (Go.Value.int .i64 i'20)])) ∧ (brB (i'20 == (0 : Int)) (f18_3 w0 K a0 n0 c0 (Go.IntKind.wrap .i64 (x4 + (1 : Int))) xb0_0 xb0_1 xb0_2 ab0_3 nb0_3 cb0_3 i'14 i'15 i'16 p'17 n'18 n'19 h'13) (f18_3 w0 K a0 n0 c0 (Go.IntKind.wrap .i64 (x4 + (1 : Int))) xb0_0 xb0_1 xb0_2 ab0_3 nb0_3 cb0_3 xb1_0 xb1_1 xb1_2 ab1_3 nb1_3 cb1_3 h'13))))))))))) h'1))))))))) h))))) :
  f18_5 w0 K a0 n0 c0 x4 xb0_0 xb0_1 xb0_2 ab0_3 nb0_3 cb0_3 xb1_0 xb1_1 xb1_2 ab1_3 nb1_3 cb1_3 h := fun j => LP_intro (P := Go.Proofs.Try.prog) (Eq.mp (by kernel_rfl) hv)

theorem f18_go {w0 : World} {K : Value → AH → Prop} (a0 : Option Go.Addr) (n0 : Nat) (c0 : Nat) (h : AH)
  (hv : (f18_3 w0 K a0 n0 c0 (0 : Int) (0 : Int) (0 : Int) (0 : Int) none 0 0 (0 : Int) (2199023255552 : Int) (0 : Int) none 0 0 h)) :
  EvC Go.Proofs.Try.prog w0 18 ([(.slice a0 n0 c0)]).toArray K h := EvC_intro (P := Go.Proofs.Try.prog) f18_J (Eq.mp (by kernel_rfl) hv)
/-- A version of tables, as far as they are taken. -/
def laidStep (v : Ver) (t : Tab) : Ver := if lightL 0 [t] then (if (applyR v 0 v.nx 0 [t] []).2 = 0 then (applyR v 0 v.nx 0 [t] []).1 else v) else v
def laidR (ts : List Tab) : Ver := (ts.take 30).foldl laidStep ⟨0, 2199023255552, 0, []⟩

theorem applyR_may {v : Ver} {lo nx sq : Int} {add : List Tab} {rem : List Int} (h : (applyR v lo nx sq add rem).2 = 0) : mayV (applyR v lo nx sq add rem).1.lo (applyR v lo nx sq add rem).1.nx (applyR v lo nx sq add rem).1.sq (applyR v lo nx sq add rem).1.ts = true := by
  unfold applyR at h ⊢
  split
  · rename_i q; rw [if_pos q] at h; simp at h
  rename_i q; rw [if_neg q] at h
  split
  · rename_i q; rw [if_pos q] at h; simp at h
  rename_i q; rw [if_neg q] at h
  split
  · rename_i q; rw [if_pos q] at h; simp at h
  rename_i q; rw [if_neg q] at h
  split
  · rename_i q; rw [if_pos q] at h; simp at h
  rename_i q; rw [if_neg q] at h
  split
  · rename_i q; rw [if_pos q] at h; simp at h
  rename_i q; rw [if_neg q] at h
  dsimp only at h ⊢
  split
  · assumption
  · rename_i q; rw [if_neg q] at h; simp at h

theorem laidStep_may {v : Ver} {t : Tab} (h : mayV v.lo v.nx v.sq v.ts = true) : mayV (laidStep v t).lo (laidStep v t).nx (laidStep v t).sq (laidStep v t).ts = true := by
  unfold laidStep
  split
  · split
    · rename_i q; exact applyR_may q
    · exact h
  · exact h
theorem laid_fold_may : ∀ (l : List Tab) (v : Ver), mayV v.lo v.nx v.sq v.ts = true → mayV (l.foldl laidStep v).lo (l.foldl laidStep v).nx (l.foldl laidStep v).sq (l.foldl laidStep v).ts = true
  | [], _, h => h
  | _ :: l, _, h => laid_fold_may l _ (laidStep_may h)
theorem laidR_may (ts : List Tab) : mayV (laidR ts).lo (laidR ts).nx (laidR ts).sq (laidR ts).ts = true := laid_fold_may _ _ (by decide)

theorem mayL_all {nx : Int} : ∀ {pre l : List Tab}, mayL nx pre l = true → ∀ t ∈ l, mayT t = true
  | _, [], _, t, ht => by cases ht
  | pre, u :: r, h, t, ht => by
    simp only [mayL, Bool.and_eq_true] at h
    rcases List.mem_cons.1 ht with rfl | ht
    · exact h.1.1.1.1
    · exact mayL_all h.2 t ht
theorem mayV_all {lo nx sq : Int} {ts : List Tab} (h : mayV lo nx sq ts = true) : ∀ t ∈ ts, mayT t = true := by
  simp only [mayV, Bool.and_eq_true] at h; exact mayL_all h.2
theorem mayT_siz {t : Tab} (h : mayT t = true) : 1 ≤ t.siz ∧ t.siz ≤ 4194304 := by
  simp only [mayT, Bool.and_eq_true, decide_eq_true_eq] at h; omega

theorem f18_loop {w0 : World} {K : Value → AH → Prop} {h0 : AH} {a : Option Addr} {n c : Nat} {ts : List Tab} (s : TS w0 h0 a n c ts)
    (hk : ∀ a' n' c' h', TS w0 h' a' n' c' (laidR ts).ts → Ext h0 h' none → K (.agg #[.int .i64 (laidR ts).lo, .int .i64 (laidR ts).nx, .int .i64 (laidR ts).sq, .slice a' n' c']) h') :
    ∀ (k i : Nat) (v : Ver) (a3 : Option Addr) (n3 c3 : Nat) (h : AH) (y0 y1 y2 : Int) (b : Option Addr) (y3 y4 : Nat), i + k = min n 30 → Ext h0 h none → TS w0 h a3 n3 c3 v.ts → laidR ts = ((ts.take 30).drop i).foldl laidStep v →
      f18_3 w0 K a n c ((i : Nat) : Int) y0 y1 y2 b y3 y4 v.lo v.nx v.sq a3 n3 c3 h := by
  have hl := s.len
  have hsm := s.sm
  have hcap := s.cap
  intro k
  induction k with
  | zero =>
    intro i v a3 n3 c3 h y0 y1 y2 b y3 y4 hi hx so he
    have hv : laidR ts = v := by rw [he, List.drop_eq_nil_of_le (by simp; omega)]; rfl
    have hk' := hk a3 n3 c3 h (by rw [hv]; exact so) hx
    rw [hv] at hk'
    exact f18_3_in _ _ _ _ _ _ _ _ _ _ _ _ _ _ _ _ _ (brB_of (fun q => brB_of (fun q2 => by simp at q q2; omega) fun _ => hk') fun _ => hk')
  | succ k ih =>
    intro i v a3 n3 c3 h y0 y1 y2 b y3 y4 hi hx so he
    have hget : ts[i]? = some ts[i] := List.getElem?_eq_getElem (by omega)
    generalize htd : ts[i] = t at hget
    have hdrop : (ts.take 30).drop i = t :: (ts.take 30).drop (i + 1) := by
      rw [List.drop_eq_getElem_cons (by simp; omega)]
      simp [htd]
    rw [hdrop, List.foldl_cons] at he
    have one := s.one hget
    refine f18_3_in _ _ _ _ _ _ _ _ _ _ _ _ _ _ _ _ _ (brB_of (fun _ => brB_of (fun _ => ?_) fun q => by simp at q; omega) fun q => by simp at q; omega)
    refine f18_5_in _ _ _ _ _ _ _ _ _ _ _ _ _ _ _ _ _ ?_
    rw [wrapS (by omega), Int.toNat_natCast, Int.toNat_natCast, show i + 1 - i = 1 by omega]
    refine ⟨by omega, by omega, by omega, f24_spec (one.ext hx) ⟨_, rfl, brB_of (fun q => ?_) fun q => ⟨by omega, by omega, by omega, dup ?_⟩⟩⟩
    · have q' : lightL 0 [t] = false := by simpa using q
      refine ih (i + 1) v a3 n3 c3 h _ _ _ _ _ _ (by omega) hx so ?_
      rw [he]; simp only [laidStep]; rw [q']; rfl
    · have q' : lightL 0 [t] = true := by simpa using q
      refine f34_spec (v := v) (add := [t]) (rem := []) (fun a' n' c' h' s' x' => ⟨_, _, _, _, _, _, _, rfl, brB_of (fun e => ?_) fun e => ?_⟩) so (one.ext hx) IS.none0
      · have e' : (applyR v 0 v.nx 0 [t] []).2 = 0 := by simpa using e
        refine ih (i + 1) _ a' n' c' h' _ _ _ _ _ _ (by omega) (hx.trans x') s' ?_
        rw [he]; simp only [laidStep]; rw [if_pos q', if_pos e']
      · have e' : ¬ (applyR v 0 v.nx 0 [t] []).2 = 0 := by simpa using e
        refine ih (i + 1) v a3 n3 c3 h' _ _ _ _ _ _ (by omega) (hx.trans x') (so.ext x') ?_
        rw [he]; simp only [laidStep]; rw [if_pos q', if_neg e']

/-- laid. -/
theorem f18_spec {w0 : World} {K : Value → AH → Prop} {h0 : AH} {a : Option Addr} {n c : Nat} {ts : List Tab} (s : TS w0 h0 a n c ts)
    (hk : ∀ a' n' c' h', TS w0 h' a' n' c' (laidR ts).ts → Ext h0 h' none → K (.agg #[.int .i64 (laidR ts).lo, .int .i64 (laidR ts).nx, .int .i64 (laidR ts).sq, .slice a' n' c']) h') : EvC Go.Proofs.Try.prog w0 18 #[.slice a n c] K h0 :=
  f18_go _ _ _ _ (f18_loop s hk (min n 30) 0 ⟨0, 2199023255552, 0, []⟩ none 0 0 h0 _ _ _ _ _ _ (by omega) (Ext.refl _ _) TS.none0 rfl)
end Go.G.Ytpnhlgghpciofaa
