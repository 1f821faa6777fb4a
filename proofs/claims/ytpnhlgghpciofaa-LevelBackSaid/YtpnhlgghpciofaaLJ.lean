/- The document's next job. -/
import Derived.Test.YtpnhlgghpciofaaLI
import Derived.Test.YtpnhlgghpciofaaProg
set_option maxRecDepth 100000
namespace Go.G.Ytpnhlgghpciofaa
open Go.RowKit
def f42_J : Nat → List Nat × Nat := jOf [(3, [0, 1, 4, 5, 6, 7, 8, 10, 11, 12, 13, 17, 18, 19, 20, 21, 22, 23, 24, 25, 26, 27, 28, 29, 30, 31, 32, 33, 34, 35, 36, 37], 0), (6, [0, 1, 4, 5, 6, 7, 8, 10, 12, 13, 17, 18, 19, 20, 21, 22, 23, 24, 25, 26, 27, 28, 29, 30, 32, 33, 34, 35, 36, 37], 1)]

def f42_3 (w0 : World) (K : Value → AH → Prop) (a2 : Option Go.Addr) (n2 : Nat) (c2 : Nat) (a3 : Option Go.Addr) (n3 : Nat) (c3 : Nat) (a9 : Option Go.Addr) (n9 : Nat) (c9 : Nat) (a14 : Option Go.Addr) (n14 : Nat) (c14 : Nat) (x15 : Int) (x16 : Int) (h : AH) : Prop :=
  ∀ j : Nat → Value, LPk Go.Proofs.Try.prog w0 (EvC Go.Proofs.Try.prog w0) f42_J 42 K 3 [.v (j 0), .v (j 1), .v (.slice a2 n2 c2), .v (.slice a3 n3 c3), .v (j 4), .v (j 5), .v (j 6), .v (j 7), .v (j 8), .v (.slice a9 n9 c9), .v (j 10), .v (j 11), .v (j 12), .v (j 13), .v (.slice a14 n14 c14), .v (.int .i64 x15), .v (.int .i64 x16), .v (j 17), .v (j 18), .v (j 19), .v (j 20), .v (j 21), .v (j 22), .v (j 23), .v (j 24), .v (j 25), .v (j 26), .v (j 27), .v (j 28), .v (j 29), .v (j 30), .v (j 31), .v (j 32), .v (j 33), .v (j 34), .v (j 35), .v (j 36), .v (j 37)] [] h

def f42_6 (w0 : World) (K : Value → AH → Prop) (a2 : Option Go.Addr) (n2 : Nat) (c2 : Nat) (a3 : Option Go.Addr) (n3 : Nat) (c3 : Nat) (a9 : Option Go.Addr) (n9 : Nat) (c9 : Nat) (a14 : Option Go.Addr) (n14 : Nat) (c14 : Nat) (x15 : Int) (x16 : Int) (x31 : Bool) (xb0_0 : Int) (xb0_1 : Int) (xb0_2 : Int) (ab0_3 : Option Go.Addr) (nb0_3 : Nat) (cb0_3 : Nat) (ab0_4 : Option Go.Addr) (nb0_4 : Nat) (cb0_4 : Nat) (h : AH) : Prop :=
  ∀ j : Nat → Value, LPk Go.Proofs.Try.prog w0 (EvC Go.Proofs.Try.prog w0) f42_J 42 K 6 [.v (j 0), .v (j 1), .v (.slice a2 n2 c2), .v (.slice a3 n3 c3), .v (j 4), .v (j 5), .v (j 6), .v (j 7), .v (j 8), .v (.slice a9 n9 c9), .v (j 10), .bp 0 0, .v (j 12), .v (j 13), .v (.slice a14 n14 c14), .v (.int .i64 x15), .v (.int .i64 x16), .v (j 17), .v (j 18), .v (j 19), .v (j 20), .v (j 21), .v (j 22), .v (j 23), .v (j 24), .v (j 25), .v (j 26), .v (j 27), .v (j 28), .v (j 29), .v (j 30), .v (.bool x31), .v (j 32), .v (j 33), .v (j 34), .v (j 35), .v (j 36), .v (j 37)] [some [(.int .i64 xb0_0), (.int .i64 xb0_1), (.int .i64 xb0_2), (.slice ab0_3 nb0_3 cb0_3), (.slice ab0_4 nb0_4 cb0_4)]] h

theorem f42_3_in {w0 : World} {K : Value → AH → Prop} (a2 : Option Go.Addr) (n2 : Nat) (c2 : Nat) (a3 : Option Go.Addr) (n3 : Nat) (c3 : Nat) (a9 : Option Go.Addr) (n9 : Nat) (c9 : Nat) (a14 : Option Go.Addr) (n14 : Nat) (c14 : Nat) (x15 : Int) (x16 : Int) (h : AH)
  (hv : (brB (decide ((x16 < x15))) (∃ a'5 : Go.Addr, ((a14 = (some a'5)) ∧ (((0 : Int) ≤ x16) ∧ ((x16 < ((n14 : Nat) : Int)) ∧ (∃ i'6 : Int, (∃ i'7 : Int, (∃ i'8 : Int, (∃ p'9 : Option Go.Addr, (∃ n'10 : Nat, (∃ n'11 : Nat, (∃ p'12 : Option Go.Addr, (∃ n'13 : Nat, (∃ n'14 : Nat, ((((Array.size #[(Go.Value.int .i64 i'6), (Go.Value.int .i64 i'7), (Go.Value.int .i64 i'8), (Go.Value.slice p'9 n'10 n'11), (Go.Value.slice p'12 n'13 n'14)]) = 5) ∧ (At w0 h (Go.Addr.add a'5 ((Int.toNat x16) * 5)) [(Go.Value.int .i64 i'6), (Go.Value.int .i64 i'7), (Go.Value.int .i64 i'8), (Go.Value.slice p'9 n'10 n'11), (Go.Value.slice p'12 n'13 n'14)])) ∧ (EvC Go.Proofs.Try.prog w0 45 #[(Go.Value.slice p'12 n'13 n'14), (Go.Value.slice a2 n2 c2)] (fun x'15 h'16 => (∃ i'17 : Int, ((x'15 = (Go.Value.int .i64 i'17)) ∧ (brB (decide (((0 : Int) ≤ i'17))) (EvC Go.Proofs.Try.prog w0 45 #[(Go.Value.slice p'9 n'10 n'11), (Go.Value.slice a3 n3 c3)] (fun x'18 h'19 => (∃ i'20 : Int, ((x'18 = (Go.Value.int .i64 i'20)) ∧ (f42_6 w0 K a2 n2 c2 a3 n3 c3 a9 n9 c9 a14 n14 c14 x15 x16 (decide ((i'20 ≤ (0 : Int)))) i'6 i'7 i'8 p'9 n'10 n'11 p'12 n'13 n'14 h'19)))) h'16) (f42_6 w0 K a2 n2 c2 a3 n3 c3 a9 n9 c9 a14 n14 c14 x15 x16 false i'6 i'7 i'8 p'9 n'10 n'11 p'12 n'13 n'14 h'16))))) h))))))))))))))) (K (Go.Value.slice a9 n9 c9) h))) :
  f42_3 w0 K a2 n2 c2 a3 n3 c3 a9 n9 c9 a14 n14 c14 x15 x16 h := fun j => LP_intro (P := Go.Proofs.Try.prog) (Eq.mp (by kernel_rfl) hv)

theorem f42_6_in {w0 : World} {K : Value → AH → Prop} (a2 : Option Go.Addr) (n2 : Nat) (c2 : Nat) (a3 : Option Go.Addr) (n3 : Nat) (c3 : Nat) (a9 : Option Go.Addr) (n9 : Nat) (c9 : Nat) (a14 : Option Go.Addr) (n14 : Nat) (c14 : Nat) (x15 : Int) (x16 : Int) (x31 : Bool) (xb0_0 : Int) (xb0_1 : Int) (xb0_2 : Int) (ab0_3 : Option Go.Addr) (nb0_3 : Nat) (cb0_3 : Nat) (ab0_4 : Option Go.Addr) (nb0_4 : Nat) (cb0_4 : Nat) (h : AH)
  (hv : (brB x31 (App w0 h 5 72 a9 n9 c9 1 [(Go.Value.int .i64 xb0_0), (Go.Value.int .i64 xb0_1), (Go.Value.int .i64 xb0_2), (Go.Value.slice ab0_3 nb0_3 cb0_3), (Go.Value.slice ab0_4 nb0_4 cb0_4)] (fun a'21 c'22 h'23 => (f42_3 w0 K a2 n2 c2 a3 n3 c3 a'21 (n9 + 1) c'22 a14 n14 c14 x15 (Go.IntKind.wrap .i64 (x16 + (1 : Int))) h'23))) (f42_3 w0 K a2 n2 c2 a3 n3 c3 a9 n9 c9 a14 n14 c14 x15 (Go.IntKind.wrap .i64 (x16 + (1 : Int))) h))) :
  f42_6 w0 K a2 n2 c2 a3 n3 c3 a9 n9 c9 a14 n14 c14 x15 x16 x31 xb0_0 xb0_1 xb0_2 ab0_3 nb0_3 cb0_3 ab0_4 nb0_4 cb0_4 h := fun j => LP_intro (P := Go.Proofs.Try.prog) (Eq.mp (by kernel_rfl) hv)

theorem f42_go {w0 : World} {K : Value → AH → Prop} (x0_0 : Int) (x0_1 : Int) (x0_2 : Int) (a0_3 : Option Go.Addr) (n0_3 : Nat) (c0_3 : Nat) (x1 : Int) (a2 : Option Go.Addr) (n2 : Nat) (c2 : Nat) (a3 : Option Go.Addr) (n3 : Nat) (c3 : Nat) (h : AH)
  (hv : (EvC Go.Proofs.Try.prog w0 39 #[(Go.Value.agg #[(Go.Value.int .i64 x0_0), (Go.Value.int .i64 x0_1), (Go.Value.int .i64 x0_2), (Go.Value.slice a0_3 n0_3 c0_3)]), (Go.Value.int .i64 x1)] (fun x'0 h'1 => (∃ p'2 : Option Go.Addr, (∃ n'3 : Nat, (∃ n'4 : Nat, ((x'0 = (Go.Value.slice p'2 n'3 n'4)) ∧ (f42_3 w0 K a2 n2 c2 a3 n3 c3 none 0 0 p'2 n'3 n'4 ((n'3 : Nat) : Int) (0 : Int) h'1)))))) h)) :
  EvC Go.Proofs.Try.prog w0 42 ([(.agg #[(.int .i64 x0_0), (.int .i64 x0_1), (.int .i64 x0_2), (.slice a0_3 n0_3 c0_3)]), (.int .i64 x1), (.slice a2 n2 c2), (.slice a3 n3 c3)]).toArray K h := EvC_intro (P := Go.Proofs.Try.prog) f42_J (Eq.mp (by kernel_rfl) hv)
theorem f39d_spec {w0 : World} {K : Value → AH → Prop} {h0 : AH} {a : Option Addr} {n c : Nat} {ts : List Tab} {x lo nx sq : Int} (s : TS w0 h0 a n c ts) (hn : n ≤ 1000000)
    (hk : ∀ a' n' c' h' ts', Sl w0 h' 5 a' n' c' (tabs ts') → ts'.map Tab.dat = (ts.filter fun t => t.lev == x).map Tab.dat → (∀ t ∈ ts', t.Ok w0 h') → Ext h0 h' none → New h0 a' → K (.slice a' n' c') h') :
    EvC Go.Proofs.Try.prog w0 39 #[.agg #[.int .i64 lo, .int .i64 nx, .int .i64 sq, .slice a n c], .int .i64 x] K h0 :=
  f39_spec s hn fun a' n' c' h' s' x' w' => hk a' n' c' h' _ s' rfl (fun t ht => (s.ext x').ok t (List.mem_filter.1 ht).1) x' w'
theorem f42_loop {w0 : World} {K : Value → AH → Prop} {h0 : AH} {a b d : Option Addr} {n c nb cb nd cd : Nat} {us : List Tab} {lo mo : List UInt8} (s : TS w0 h0 a n c us) (hn : n ≤ 1000000)
    (hlo : Rs w0 h0 b (u8s lo)) (hmo : Rs w0 h0 d (u8s mo)) (hnb : nb = lo.length) (hnd : nd = mo.length)
    (hk : ∀ a' n' c' h', Sl w0 h' 5 a' n' c' (tabs (us.filter fun t => ovD lo mo t.dat)) → Ext h0 h' none → New h0 a' → K (.slice a' n' c') h') :
    ∀ (rest : List Tab) (i : Nat) (a3 : Option Addr) (n3 c3 : Nat) (h : AH), us.drop i = rest → i ≤ n → Ext h0 h none → New h0 a3 → Sl w0 h 5 a3 n3 c3 (tabs ((us.take i).filter fun t => ovD lo mo t.dat)) →
      f42_3 w0 K b nb cb d nd cd a3 n3 c3 a n c ((n : Nat) : Int) ((i : Nat) : Int) h := by
  intro rest
  induction rest with
  | nil =>
    intro i a3 n3 c3 h hd hi hx hnew so
    have := drop_done hd
    have hl := s.len
    rw [List.take_of_length_le (by omega)] at so
    exact f42_3_in _ _ _ _ _ _ _ _ _ _ _ _ _ _ _ (brB_of (fun q => by simp at q; omega) fun _ => hk _ _ _ _ so hx hnew)
  | cons t r ih =>
    intro i a3 n3 c3 h hd hi hx hnew so
    obtain ⟨hget, hd', hlt⟩ := drop_step hd
    have hl := s.len
    have hl5 := so.len5
    have := List.length_filter_le (fun t : Tab => ovD lo mo t.dat) (us.take i)
    have : (us.take i).length ≤ i := by simp; omega
    have htake : us.take (i + 1) = us.take i ++ [t] := by rw [List.take_add_one, hget]; rfl
    have o := (s.ext hx).ok t (List.mem_of_getElem? hget)
    have fin : ∀ q : Bool, q = ovD lo mo t.dat → f42_6 w0 K b nb cb d nd cd a3 n3 c3 a n c ((n : Nat) : Int) ((i : Nat) : Int) q t.num t.lev t.siz t.lp t.ln t.lc t.mp t.mn t.mc h := fun q hq => by
      refine f42_6_in _ _ _ _ _ _ _ _ _ _ _ _ _ _ _ _ _ _ _ _ _ _ _ _ _ (brB_of (fun e => ?_) fun e => ?_)
      · refine App_own so (by omega) (by omega) rfl (tabs_cell [t]) fun a' c' h' s' x' f' => ?_
        rw [wrapS (by omega)]
        refine ih (i + 1) a' (n3 + 1) c' h' hd' (by omega) (hx.past hnew x') (hnew.grown hx f') ?_
        rw [htake, List.filter_append, tabs_append, List.filter_cons, if_pos (by rw [← hq, e])]
        exact s'
      · rw [wrapS (by omega)]
        refine ih (i + 1) a3 n3 c3 h hd' (by omega) hx hnew ?_
        rw [htake, List.filter_append, List.filter_cons, if_neg (by rw [← hq, e]; simp)]
        simpa using so
    refine f42_3_in _ _ _ _ _ _ _ _ _ _ _ _ _ _ _ (brB_of (fun _ => tabLoad (s.ext hx).rs.rd s.len hget ?_) fun q => by simp at q; omega)
    refine f45_spec o.mb.rd (hlo.ext hx).rd o.mn hnb ⟨_, rfl, brB_of (fun q => f45_spec o.lb.rd (hmo.ext hx).rd o.ln hnd ⟨_, rfl, fin _ ?_⟩) fun q => fin _ ?_⟩
    · rw [ovD_dat, q, Bool.true_and]
    · rw [ovD_dat, q, Bool.false_and]

/-- ref Overlap. -/
theorem f42_spec {w0 : World} {K : Value → AH → Prop} {h0 : AH} {a b d : Option Addr} {n c nb cb nd cd : Nat} {ts : List Tab} {x l n' sq : Int} {lo mo : List UInt8} (s : TS w0 h0 a n c ts) (hn : n ≤ 1000000)
    (hlo : Rs w0 h0 b (u8s lo)) (hmo : Rs w0 h0 d (u8s mo)) (hnb : nb = lo.length) (hnd : nd = mo.length)
    (hk : ∀ a' n' c' h' ts', Sl w0 h' 5 a' n' c' (tabs ts') → ts'.map Tab.dat = overD (ts.map Tab.dat) x lo mo → (∀ t ∈ ts', t.Ok w0 h') → Ext h0 h' none → New h0 a' → K (.slice a' n' c') h') :
    EvC Go.Proofs.Try.prog w0 42 #[.agg #[.int .i64 l, .int .i64 n', .int .i64 sq, .slice a n c], .int .i64 x, .slice b nb cb, .slice d nd cd] K h0 := by
  refine f42_go _ _ _ _ _ _ _ _ _ _ _ _ _ _ (f39d_spec s hn fun a1 n1 c1 h1 us s1 hdat hok x1 new1 => ⟨_, _, _, rfl, ?_⟩)
  have hl5 := s1.len5
  have hlen := congrArg List.length hdat
  simp only [List.length_map] at hlen
  have := List.length_filter_le (fun t : Tab => t.lev == x) ts
  have := s.len
  refine f42_loop (s1.ts (by omega) hok) (by omega) (hlo.ext x1) (hmo.ext x1) hnb hnd (fun a2 n2 c2 h2 s2 x2 new2 => hk _ _ _ _ _ s2 ?_ (fun t ht => (hok t (List.mem_filter.1 ht).1).ext x2) (x1.trans x2) (new2.old x1)) _ 0 none 0 0 h1 rfl (by omega) (Ext.refl _ _) New.none Sl.nil
  rw [filter_dat, hdat, at_dat]; rfl
def f25_J : Nat → List Nat × Nat := jOf [(4, [0, 3, 4, 5, 6, 7, 8, 9, 10, 11, 12, 13, 14, 15, 16, 17, 18, 19, 21, 22, 23, 24, 25, 26, 27, 28, 29, 30, 31, 32, 33, 34, 35, 36, 37, 38, 39, 40, 41, 42, 43, 44, 45, 46, 47, 48, 49, 50, 51, 52, 53, 54, 55, 56, 57, 58, 59, 60, 61, 62, 63, 64, 65, 66, 67, 68, 69, 70, 71, 72, 73, 74, 75, 76, 77, 78, 79, 80, 81, 82, 83, 84, 85, 86, 87, 88, 89, 90, 91, 92, 93, 94, 95, 96, 97, 98, 99, 100, 101, 102, 103, 104, 105, 106, 107, 108, 109, 110, 111], 2), (11, [0, 3, 5, 7, 8, 9, 10, 11, 12, 13, 14, 15, 16, 17, 18, 19, 20, 21, 22, 23, 24, 25, 26, 27, 28, 29, 30, 31, 32, 33, 34, 38, 39, 40, 41, 42, 43, 44, 45, 46, 47, 48, 49, 50, 51, 52, 53, 54, 55, 56, 57, 58, 59, 60, 61, 62, 63, 64, 65, 66, 67, 68, 69, 70, 71, 72, 73, 74, 75, 76, 77, 78, 79, 80, 81, 82, 83, 84, 85, 86, 87, 88, 89, 90, 91, 92, 93, 94, 95, 96, 97, 98, 99, 100, 101, 102, 103, 104, 105, 106, 107, 108, 109, 110, 111], 3), (17, [0, 3, 6, 7, 8, 9, 10, 11, 12, 13, 14, 15, 16, 17, 18, 19, 20, 21, 22, 23, 24, 25, 26, 27, 28, 29, 30, 31, 32, 33, 34, 35, 36, 37, 38, 39, 40, 41, 42, 43, 44, 45, 46, 47, 48, 49, 50, 51, 52, 53, 54, 55, 56, 57, 58, 59, 60, 61, 62, 63, 64, 65, 66, 67, 68, 69, 70, 71, 72, 73, 74, 75, 76, 77, 78, 79, 80, 81, 82, 83, 84, 85, 86, 87, 88, 89, 90, 91, 92, 93, 94, 95, 96, 97, 98, 99, 100, 101, 102, 103, 104, 105, 106, 107, 108, 109, 110, 111], 2), (20, [0, 3, 5, 6, 7, 8, 12, 13, 14, 15, 16, 17, 18, 19, 20, 21, 22, 23, 24, 25, 26, 27, 28, 29, 30, 31, 32, 33, 34, 35, 36, 37, 38, 39, 40, 41, 42, 43, 44, 45, 46, 47, 48, 49, 50, 51, 52, 53, 54, 55, 56, 57, 58, 59, 60, 61, 65, 66, 67, 68, 69, 70, 71, 72, 73, 74, 75, 76, 77, 78, 79, 80, 81, 82, 83, 84, 85, 86, 87, 88, 89, 90, 91, 92, 93, 94, 95, 96, 97, 98, 99, 100, 101, 102, 103, 104, 105, 106, 107, 108, 109, 110, 111], 3), (24, [0, 3, 5, 6, 7, 8, 12, 14, 15, 16, 17, 18, 19, 20, 21, 22, 23, 24, 25, 26, 27, 28, 29, 30, 31, 32, 33, 34, 35, 36, 37, 38, 39, 40, 41, 42, 43, 44, 45, 46, 47, 48, 49, 50, 51, 52, 53, 54, 55, 56, 57, 58, 59, 60, 61, 65, 66, 67, 68, 69, 70, 71, 72, 73, 74, 75, 76, 77, 78, 79, 80, 81, 82, 83, 84, 85, 86, 87, 88, 89, 90, 91, 92, 93, 94, 95, 96, 97, 98, 99, 100, 101, 102, 103, 104, 105, 106, 107, 108, 109, 110, 111], 4), (29, [0, 1, 3, 4, 5, 6, 7, 8, 9, 10, 12, 13, 14, 15, 16, 17, 18, 19, 20, 21, 22, 23, 24, 25, 26, 27, 28, 29, 30, 31, 32, 33, 34, 35, 36, 37, 38, 39, 40, 41, 42, 43, 44, 45, 46, 47, 48, 49, 50, 51, 52, 53, 54, 55, 56, 57, 58, 59, 60, 61, 62, 63, 64, 65, 66, 67, 68, 69, 70, 71, 72, 73, 74, 75, 76, 77, 78, 79, 80, 81, 82, 83, 84, 85, 86, 87, 88, 89, 90, 91, 92, 93, 94, 98, 99, 100, 101, 102, 103, 104, 105, 106, 107, 108, 109, 110, 111], 3)]

def f25_4 (w0 : World) (K : Value → AH → Prop) (x20 : Int) (xb0_0 : Int) (xb0_1 : Int) (xb0_2 : Int) (ab0_3 : Option Go.Addr) (nb0_3 : Nat) (cb0_3 : Nat) (xb1_0 : Int) (xb1_1 : Int) (ab1_2 : Option Go.Addr) (nb1_2 : Nat) (cb1_2 : Nat) (h : AH) : Prop :=
  ∀ j : Nat → Value, LPk Go.Proofs.Try.prog w0 (EvC Go.Proofs.Try.prog w0) f25_J 25 K 4 [.v (j 0), .bp 0 0, .bp 1 0, .v (j 3), .v (j 4), .v (j 5), .v (j 6), .v (j 7), .v (j 8), .v (j 9), .v (j 10), .v (j 11), .v (j 12), .v (j 13), .v (j 14), .v (j 15), .v (j 16), .v (j 17), .v (j 18), .v (j 19), .v (.int .i64 x20), .v (j 21), .v (j 22), .v (j 23), .v (j 24), .v (j 25), .v (j 26), .v (j 27), .v (j 28), .v (j 29), .v (j 30), .v (j 31), .v (j 32), .v (j 33), .v (j 34), .v (j 35), .v (j 36), .v (j 37), .v (j 38), .v (j 39), .v (j 40), .v (j 41), .v (j 42), .v (j 43), .v (j 44), .v (j 45), .v (j 46), .v (j 47), .v (j 48), .v (j 49), .v (j 50), .v (j 51), .v (j 52), .v (j 53), .v (j 54), .v (j 55), .v (j 56), .v (j 57), .v (j 58), .v (j 59), .v (j 60), .v (j 61), .v (j 62), .v (j 63), .v (j 64), .v (j 65), .v (j 66), .v (j 67), .v (j 68), .v (j 69), .v (j 70), .v (j 71), .v (j 72), .v (j 73), .v (j 74), .v (j 75), .v (j 76), .v (j 77), .v (j 78), .v (j 79), .v (j 80), .v (j 81), .v (j 82), .v (j 83), .v (j 84), .v (j 85), .v (j 86), .v (j 87), .v (j 88), .v (j 89), .v (j 90), .v (j 91), .v (j 92), .v (j 93), .v (j 94), .v (j 95), .v (j 96), .v (j 97), .v (j 98), .v (j 99), .v (j 100), .v (j 101), .v (j 102), .v (j 103), .v (j 104), .v (j 105), .v (j 106), .v (j 107), .v (j 108), .v (j 109), .v (j 110), .v (j 111)] [some [(.int .i64 xb0_0), (.int .i64 xb0_1), (.int .i64 xb0_2), (.slice ab0_3 nb0_3 cb0_3)], some [(.int .i64 xb1_0), (.int .i64 xb1_1), (.slice ab1_2 nb1_2 cb1_2)]] h

def f25_11 (w0 : World) (K : Value → AH → Prop) (x4 : Int) (a35 : Option Go.Addr) (n35 : Nat) (c35 : Nat) (x36 : Int) (x37 : Int) (xb0_0 : Int) (xb0_1 : Int) (xb0_2 : Int) (ab0_3 : Option Go.Addr) (nb0_3 : Nat) (cb0_3 : Nat) (xb1_0 : Int) (xb1_1 : Int) (ab1_2 : Option Go.Addr) (nb1_2 : Nat) (cb1_2 : Nat) (xb2_0 : Int) (xb2_1 : Int) (xb2_2 : Int) (ab2_3 : Option Go.Addr) (nb2_3 : Nat) (cb2_3 : Nat) (ab2_4 : Option Go.Addr) (nb2_4 : Nat) (cb2_4 : Nat) (h : AH) : Prop :=
  ∀ j : Nat → Value, LPk Go.Proofs.Try.prog w0 (EvC Go.Proofs.Try.prog w0) f25_J 25 K 11 [.v (j 0), .bp 0 0, .bp 1 0, .v (j 3), .v (.int .i64 x4), .v (j 5), .bp 2 0, .v (j 7), .v (j 8), .v (j 9), .v (j 10), .v (j 11), .v (j 12), .v (j 13), .v (j 14), .v (j 15), .v (j 16), .v (j 17), .v (j 18), .v (j 19), .v (j 20), .v (j 21), .v (j 22), .v (j 23), .v (j 24), .v (j 25), .v (j 26), .v (j 27), .v (j 28), .v (j 29), .v (j 30), .v (j 31), .v (j 32), .v (j 33), .v (j 34), .v (.slice a35 n35 c35), .v (.int .i64 x36), .v (.int .i64 x37), .v (j 38), .v (j 39), .v (j 40), .v (j 41), .v (j 42), .v (j 43), .v (j 44), .v (j 45), .v (j 46), .v (j 47), .v (j 48), .v (j 49), .v (j 50), .v (j 51), .v (j 52), .v (j 53), .v (j 54), .v (j 55), .v (j 56), .v (j 57), .v (j 58), .v (j 59), .v (j 60), .v (j 61), .v (j 62), .v (j 63), .v (j 64), .v (j 65), .v (j 66), .v (j 67), .v (j 68), .v (j 69), .v (j 70), .v (j 71), .v (j 72), .v (j 73), .v (j 74), .v (j 75), .v (j 76), .v (j 77), .v (j 78), .v (j 79), .v (j 80), .v (j 81), .v (j 82), .v (j 83), .v (j 84), .v (j 85), .v (j 86), .v (j 87), .v (j 88), .v (j 89), .v (j 90), .v (j 91), .v (j 92), .v (j 93), .v (j 94), .v (j 95), .v (j 96), .v (j 97), .v (j 98), .v (j 99), .v (j 100), .v (j 101), .v (j 102), .v (j 103), .v (j 104), .v (j 105), .v (j 106), .v (j 107), .v (j 108), .v (j 109), .v (j 110), .v (j 111)] [some [(.int .i64 xb0_0), (.int .i64 xb0_1), (.int .i64 xb0_2), (.slice ab0_3 nb0_3 cb0_3)], some [(.int .i64 xb1_0), (.int .i64 xb1_1), (.slice ab1_2 nb1_2 cb1_2)], some [(.int .i64 xb2_0), (.int .i64 xb2_1), (.int .i64 xb2_2), (.slice ab2_3 nb2_3 cb2_3), (.slice ab2_4 nb2_4 cb2_4)]] h

def f25_17 (w0 : World) (K : Value → AH → Prop) (x4 : Int) (a5 : Option Go.Addr) (n5 : Nat) (c5 : Nat) (xb0_0 : Int) (xb0_1 : Int) (xb0_2 : Int) (ab0_3 : Option Go.Addr) (nb0_3 : Nat) (cb0_3 : Nat) (xb1_0 : Int) (xb1_1 : Int) (ab1_2 : Option Go.Addr) (nb1_2 : Nat) (cb1_2 : Nat) (h : AH) : Prop :=
  ∀ j : Nat → Value, LPk Go.Proofs.Try.prog w0 (EvC Go.Proofs.Try.prog w0) f25_J 25 K 17 [.v (j 0), .bp 0 0, .bp 1 0, .v (j 3), .v (.int .i64 x4), .v (.slice a5 n5 c5), .v (j 6), .v (j 7), .v (j 8), .v (j 9), .v (j 10), .v (j 11), .v (j 12), .v (j 13), .v (j 14), .v (j 15), .v (j 16), .v (j 17), .v (j 18), .v (j 19), .v (j 20), .v (j 21), .v (j 22), .v (j 23), .v (j 24), .v (j 25), .v (j 26), .v (j 27), .v (j 28), .v (j 29), .v (j 30), .v (j 31), .v (j 32), .v (j 33), .v (j 34), .v (j 35), .v (j 36), .v (j 37), .v (j 38), .v (j 39), .v (j 40), .v (j 41), .v (j 42), .v (j 43), .v (j 44), .v (j 45), .v (j 46), .v (j 47), .v (j 48), .v (j 49), .v (j 50), .v (j 51), .v (j 52), .v (j 53), .v (j 54), .v (j 55), .v (j 56), .v (j 57), .v (j 58), .v (j 59), .v (j 60), .v (j 61), .v (j 62), .v (j 63), .v (j 64), .v (j 65), .v (j 66), .v (j 67), .v (j 68), .v (j 69), .v (j 70), .v (j 71), .v (j 72), .v (j 73), .v (j 74), .v (j 75), .v (j 76), .v (j 77), .v (j 78), .v (j 79), .v (j 80), .v (j 81), .v (j 82), .v (j 83), .v (j 84), .v (j 85), .v (j 86), .v (j 87), .v (j 88), .v (j 89), .v (j 90), .v (j 91), .v (j 92), .v (j 93), .v (j 94), .v (j 95), .v (j 96), .v (j 97), .v (j 98), .v (j 99), .v (j 100), .v (j 101), .v (j 102), .v (j 103), .v (j 104), .v (j 105), .v (j 106), .v (j 107), .v (j 108), .v (j 109), .v (j 110), .v (j 111)] [some [(.int .i64 xb0_0), (.int .i64 xb0_1), (.int .i64 xb0_2), (.slice ab0_3 nb0_3 cb0_3)], some [(.int .i64 xb1_0), (.int .i64 xb1_1), (.slice ab1_2 nb1_2 cb1_2)]] h

def f25_20 (w0 : World) (K : Value → AH → Prop) (x4 : Int) (a9 : Option Go.Addr) (n9 : Nat) (c9 : Nat) (a10 : Option Go.Addr) (n10 : Nat) (c10 : Nat) (a62 : Option Go.Addr) (n62 : Nat) (c62 : Nat) (x63 : Int) (x64 : Int) (xb0_0 : Int) (xb0_1 : Int) (xb0_2 : Int) (ab0_3 : Option Go.Addr) (nb0_3 : Nat) (cb0_3 : Nat) (xb1_0 : Int) (xb1_1 : Int) (ab1_2 : Option Go.Addr) (nb1_2 : Nat) (cb1_2 : Nat) (xb2_0 : Int) (xb2_1 : Int) (ab2_2 : Option Go.Addr) (nb2_2 : Nat) (cb2_2 : Nat) (h : AH) : Prop :=
  ∀ j : Nat → Value, LPk Go.Proofs.Try.prog w0 (EvC Go.Proofs.Try.prog w0) f25_J 25 K 20 [.v (j 0), .bp 0 0, .bp 1 0, .v (j 3), .v (.int .i64 x4), .v (j 5), .v (j 6), .v (j 7), .v (j 8), .v (.slice a9 n9 c9), .v (.slice a10 n10 c10), .bp 2 0, .v (j 12), .v (j 13), .v (j 14), .v (j 15), .v (j 16), .v (j 17), .v (j 18), .v (j 19), .v (j 20), .v (j 21), .v (j 22), .v (j 23), .v (j 24), .v (j 25), .v (j 26), .v (j 27), .v (j 28), .v (j 29), .v (j 30), .v (j 31), .v (j 32), .v (j 33), .v (j 34), .v (j 35), .v (j 36), .v (j 37), .v (j 38), .v (j 39), .v (j 40), .v (j 41), .v (j 42), .v (j 43), .v (j 44), .v (j 45), .v (j 46), .v (j 47), .v (j 48), .v (j 49), .v (j 50), .v (j 51), .v (j 52), .v (j 53), .v (j 54), .v (j 55), .v (j 56), .v (j 57), .v (j 58), .v (j 59), .v (j 60), .v (j 61), .v (.slice a62 n62 c62), .v (.int .i64 x63), .v (.int .i64 x64), .v (j 65), .v (j 66), .v (j 67), .v (j 68), .v (j 69), .v (j 70), .v (j 71), .v (j 72), .v (j 73), .v (j 74), .v (j 75), .v (j 76), .v (j 77), .v (j 78), .v (j 79), .v (j 80), .v (j 81), .v (j 82), .v (j 83), .v (j 84), .v (j 85), .v (j 86), .v (j 87), .v (j 88), .v (j 89), .v (j 90), .v (j 91), .v (j 92), .v (j 93), .v (j 94), .v (j 95), .v (j 96), .v (j 97), .v (j 98), .v (j 99), .v (j 100), .v (j 101), .v (j 102), .v (j 103), .v (j 104), .v (j 105), .v (j 106), .v (j 107), .v (j 108), .v (j 109), .v (j 110), .v (j 111)] [some [(.int .i64 xb0_0), (.int .i64 xb0_1), (.int .i64 xb0_2), (.slice ab0_3 nb0_3 cb0_3)], some [(.int .i64 xb1_0), (.int .i64 xb1_1), (.slice ab1_2 nb1_2 cb1_2)], some [(.int .i64 xb2_0), (.int .i64 xb2_1), (.slice ab2_2 nb2_2 cb2_2)]] h

def f25_24 (w0 : World) (K : Value → AH → Prop) (x4 : Int) (a9 : Option Go.Addr) (n9 : Nat) (c9 : Nat) (a10 : Option Go.Addr) (n10 : Nat) (c10 : Nat) (a62 : Option Go.Addr) (n62 : Nat) (c62 : Nat) (x63 : Int) (x64 : Int) (xb0_0 : Int) (xb0_1 : Int) (xb0_2 : Int) (ab0_3 : Option Go.Addr) (nb0_3 : Nat) (cb0_3 : Nat) (xb1_0 : Int) (xb1_1 : Int) (ab1_2 : Option Go.Addr) (nb1_2 : Nat) (cb1_2 : Nat) (xb2_0 : Int) (xb2_1 : Int) (ab2_2 : Option Go.Addr) (nb2_2 : Nat) (cb2_2 : Nat) (xb3_0 : Int) (xb3_1 : Int) (xb3_2 : Int) (ab3_3 : Option Go.Addr) (nb3_3 : Nat) (cb3_3 : Nat) (ab3_4 : Option Go.Addr) (nb3_4 : Nat) (cb3_4 : Nat) (h : AH) : Prop :=
  ∀ j : Nat → Value, LPk Go.Proofs.Try.prog w0 (EvC Go.Proofs.Try.prog w0) f25_J 25 K 24 [.v (j 0), .bp 0 0, .bp 1 0, .v (j 3), .v (.int .i64 x4), .v (j 5), .v (j 6), .v (j 7), .v (j 8), .v (.slice a9 n9 c9), .v (.slice a10 n10 c10), .bp 2 0, .v (j 12), .bp 3 0, .v (j 14), .v (j 15), .v (j 16), .v (j 17), .v (j 18), .v (j 19), .v (j 20), .v (j 21), .v (j 22), .v (j 23), .v (j 24), .v (j 25), .v (j 26), .v (j 27), .v (j 28), .v (j 29), .v (j 30), .v (j 31), .v (j 32), .v (j 33), .v (j 34), .v (j 35), .v (j 36), .v (j 37), .v (j 38), .v (j 39), .v (j 40), .v (j 41), .v (j 42), .v (j 43), .v (j 44), .v (j 45), .v (j 46), .v (j 47), .v (j 48), .v (j 49), .v (j 50), .v (j 51), .v (j 52), .v (j 53), .v (j 54), .v (j 55), .v (j 56), .v (j 57), .v (j 58), .v (j 59), .v (j 60), .v (j 61), .v (.slice a62 n62 c62), .v (.int .i64 x63), .v (.int .i64 x64), .v (j 65), .v (j 66), .v (j 67), .v (j 68), .v (j 69), .v (j 70), .v (j 71), .v (j 72), .v (j 73), .v (j 74), .v (j 75), .v (j 76), .v (j 77), .v (j 78), .v (j 79), .v (j 80), .v (j 81), .v (j 82), .v (j 83), .v (j 84), .v (j 85), .v (j 86), .v (j 87), .v (j 88), .v (j 89), .v (j 90), .v (j 91), .v (j 92), .v (j 93), .v (j 94), .v (j 95), .v (j 96), .v (j 97), .v (j 98), .v (j 99), .v (j 100), .v (j 101), .v (j 102), .v (j 103), .v (j 104), .v (j 105), .v (j 106), .v (j 107), .v (j 108), .v (j 109), .v (j 110), .v (j 111)] [some [(.int .i64 xb0_0), (.int .i64 xb0_1), (.int .i64 xb0_2), (.slice ab0_3 nb0_3 cb0_3)], some [(.int .i64 xb1_0), (.int .i64 xb1_1), (.slice ab1_2 nb1_2 cb1_2)], some [(.int .i64 xb2_0), (.int .i64 xb2_1), (.slice ab2_2 nb2_2 cb2_2)], some [(.int .i64 xb3_0), (.int .i64 xb3_1), (.int .i64 xb3_2), (.slice ab3_3 nb3_3 cb3_3), (.slice ab3_4 nb3_4 cb3_4)]] h

def f25_29 (w0 : World) (K : Value → AH → Prop) (a95 : Option Go.Addr) (n95 : Nat) (c95 : Nat) (x96 : Int) (x97 : Int) (xb0_0 : Int) (xb0_1 : Int) (xb0_2 : Int) (ab0_3 : Option Go.Addr) (nb0_3 : Nat) (cb0_3 : Nat) (xb1_0 : Int) (xb1_1 : Int) (ab1_2 : Option Go.Addr) (nb1_2 : Nat) (cb1_2 : Nat) (xb2_0 : Int) (xb2_1 : Int) (ab2_2 : Option Go.Addr) (nb2_2 : Nat) (cb2_2 : Nat) (h : AH) : Prop :=
  ∀ j : Nat → Value, LPk Go.Proofs.Try.prog w0 (EvC Go.Proofs.Try.prog w0) f25_J 25 K 29 [.v (j 0), .v (j 1), .bp 1 0, .v (j 3), .v (j 4), .v (j 5), .v (j 6), .v (j 7), .v (j 8), .v (j 9), .v (j 10), .bp 2 0, .v (j 12), .v (j 13), .v (j 14), .v (j 15), .v (j 16), .v (j 17), .v (j 18), .v (j 19), .v (j 20), .v (j 21), .v (j 22), .v (j 23), .v (j 24), .v (j 25), .v (j 26), .v (j 27), .v (j 28), .v (j 29), .v (j 30), .v (j 31), .v (j 32), .v (j 33), .v (j 34), .v (j 35), .v (j 36), .v (j 37), .v (j 38), .v (j 39), .v (j 40), .v (j 41), .v (j 42), .v (j 43), .v (j 44), .v (j 45), .v (j 46), .v (j 47), .v (j 48), .v (j 49), .v (j 50), .v (j 51), .v (j 52), .v (j 53), .v (j 54), .v (j 55), .v (j 56), .v (j 57), .v (j 58), .v (j 59), .v (j 60), .v (j 61), .v (j 62), .v (j 63), .v (j 64), .v (j 65), .v (j 66), .v (j 67), .v (j 68), .v (j 69), .v (j 70), .v (j 71), .v (j 72), .v (j 73), .v (j 74), .v (j 75), .v (j 76), .v (j 77), .v (j 78), .v (j 79), .v (j 80), .v (j 81), .v (j 82), .v (j 83), .v (j 84), .v (j 85), .v (j 86), .v (j 87), .v (j 88), .v (j 89), .v (j 90), .v (j 91), .v (j 92), .v (j 93), .v (j 94), .v (.slice a95 n95 c95), .v (.int .i64 x96), .v (.int .i64 x97), .v (j 98), .v (j 99), .v (j 100), .v (j 101), .v (j 102), .v (j 103), .v (j 104), .v (j 105), .v (j 106), .v (j 107), .v (j 108), .v (j 109), .v (j 110), .v (j 111)] [some [(.int .i64 xb0_0), (.int .i64 xb0_1), (.int .i64 xb0_2), (.slice ab0_3 nb0_3 cb0_3)], some [(.int .i64 xb1_0), (.int .i64 xb1_1), (.slice ab1_2 nb1_2 cb1_2)], some [(.int .i64 xb2_0), (.int .i64 xb2_1), (.slice ab2_2 nb2_2 cb2_2)]] h

theorem f25_4_in {w0 : World} {K : Value → AH → Prop} (x20 : Int) (xb0_0 : Int) (xb0_1 : Int) (xb0_2 : Int) (ab0_3 : Option Go.Addr) (nb0_3 : Nat) (cb0_3 : Nat) (xb1_0 : Int) (xb1_1 : Int) (ab1_2 : Option Go.Addr) (nb1_2 : Nat) (cb1_2 : Nat) (h : AH)
  (hv : (brB (decide ((x20 < (3 : Int)))) (EvC Go.Proofs.Try.prog w0 20 #[(Go.Value.agg #[(Go.Value.int .i64 xb0_0), (Go.Value.int .i64 xb0_1), (Go.Value.int .i64 xb0_2), (Go.Value.slice ab0_3 nb0_3 cb0_3)]), (Go.Value.int .i64 x20)] (fun x'3 h'4 => (∃ t'5 : Bool, ((x'3 = (Go.Value.bool t'5)) ∧ (brB (!t'5) (f25_4 w0 K (Go.IntKind.wrap .i64 (x20 + (1 : Int))) xb0_0 xb0_1 xb0_2 ab0_3 nb0_3 cb0_3 xb1_0 xb1_1 ab1_2 nb1_2 cb1_2 h'4) (EvC Go.Proofs.Try.prog w0 39 #[(Go.Value.agg #[(Go.Value.int .i64 xb0_0), (Go.Value.int .i64 xb0_1), (Go.Value.int .i64 xb0_2), (Go.Value.slice ab0_3 nb0_3 cb0_3)]), (Go.Value.int .i64 x20)] (fun x'6 h'7 => (∃ p'8 : Option Go.Addr, (∃ n'9 : Nat, (∃ n'10 : Nat, ((x'6 = (Go.Value.slice p'8 n'9 n'10)) ∧ (brB (decide (((0 : Int) < x20))) (∃ a'11 : Go.Addr, ((p'8 = (some a'11)) ∧ (((0 : Int) ≤ (0 : Int)) ∧ (((0 : Int) < ((n'9 : Nat) : Int)) ∧ (∃ i'12 : Int, (∃ i'13 : Int, (∃ i'14 : Int, (∃ p'15 : Option Go.Addr, (∃ n'16 : Nat, (∃ n'17 : Nat, (∃ p'18 : Option Go.Addr, (∃ n'19 : Nat, (∃ n'20 : Nat, ((((Array.size #[(Go.Value.int .i64 i'12), (Go.Value.int .i64 i'13), (Go.Value.int .i64 i'14), (Go.Value.slice p'15 n'16 n'17), (Go.Value.slice p'18 n'19 n'20)]) = 5) ∧ (At w0 h'7 (Go.Addr.add a'11 0) [(Go.Value.int .i64 i'12), (Go.Value.int .i64 i'13), (Go.Value.int .i64 i'14), (Go.Value.slice p'15 n'16 n'17), (Go.Value.slice p'18 n'19 n'20)])) ∧ (f25_11 w0 K x20 p'8 n'9 n'10 ((n'9 : Nat) : Int) (0 : Int) xb0_0 xb0_1 xb0_2 ab0_3 nb0_3 cb0_3 xb1_0 xb1_1 ab1_2 nb1_2 cb1_2 i'12 i'13 i'14 p'15 n'16 n'17 p'18 n'19 n'20 h'7))))))))))))))) (f25_17 w0 K x20 p'8 n'9 n'10 xb0_0 xb0_1 xb0_2 ab0_3 nb0_3 cb0_3 xb1_0 xb1_1 ab1_2 nb1_2 cb1_2 h'7))))))) h'4))))) h) (K (Go.Value.tuple #[(Go.Value.agg #[(Go.Value.int .i64 (0 : Int)), (Go.Value.int .i64 (0 : Int)), (Go.Value.slice none 0 0)]), (Go.Value.bool false)]) h))) :
  f25_4 w0 K x20 xb0_0 xb0_1 xb0_2 ab0_3 nb0_3 cb0_3 xb1_0 xb1_1 ab1_2 nb1_2 cb1_2 h := fun j => LP_intro (P := Go.Proofs.Try.prog) (Eq.mp (by kernel_rfl) hv)

theorem f25_11_in {w0 : World} {K : Value → AH → Prop} (x4 : Int) (a35 : Option Go.Addr) (n35 : Nat) (c35 : Nat) (x36 : Int) (x37 : Int) (xb0_0 : Int) (xb0_1 : Int) (xb0_2 : Int) (ab0_3 : Option Go.Addr) (nb0_3 : Nat) (cb0_3 : Nat) (xb1_0 : Int) (xb1_1 : Int) (ab1_2 : Option Go.Addr) (nb1_2 : Nat) (cb1_2 : Nat) (xb2_0 : Int) (xb2_1 : Int) (xb2_2 : Int) (ab2_3 : Option Go.Addr) (nb2_3 : Nat) (cb2_3 : Nat) (ab2_4 : Option Go.Addr) (nb2_4 : Nat) (cb2_4 : Nat) (h : AH)
  (hv : (brB (decide ((x37 < x36))) (∃ a'21 : Go.Addr, ((a35 = (some a'21)) ∧ (((0 : Int) ≤ x37) ∧ ((x37 < ((n35 : Nat) : Int)) ∧ (∃ i'22 : Int, (∃ i'23 : Int, (∃ i'24 : Int, (∃ p'25 : Option Go.Addr, (∃ n'26 : Nat, (∃ n'27 : Nat, (∃ p'28 : Option Go.Addr, (∃ n'29 : Nat, (∃ n'30 : Nat, ((((Array.size #[(Go.Value.int .i64 i'22), (Go.Value.int .i64 i'23), (Go.Value.int .i64 i'24), (Go.Value.slice p'25 n'26 n'27), (Go.Value.slice p'28 n'29 n'30)]) = 5) ∧ (At w0 h (Go.Addr.add a'21 ((Int.toNat x37) * 5)) [(Go.Value.int .i64 i'22), (Go.Value.int .i64 i'23), (Go.Value.int .i64 i'24), (Go.Value.slice p'25 n'26 n'27), (Go.Value.slice p'28 n'29 n'30)])) ∧ (brB (decide ((i'22 < xb2_0))) (f25_11 w0 K x4 a35 n35 c35 x36 (Go.IntKind.wrap .i64 (x37 + (1 : Int))) xb0_0 xb0_1 xb0_2 ab0_3 nb0_3 cb0_3 xb1_0 xb1_1 ab1_2 nb1_2 cb1_2 i'22 i'23 i'24 p'25 n'26 n'27 p'28 n'29 n'30 h) (f25_11 w0 K x4 a35 n35 c35 x36 (Go.IntKind.wrap .i64 (x37 + (1 : Int))) xb0_0 xb0_1 xb0_2 ab0_3 nb0_3 cb0_3 xb1_0 xb1_1 ab1_2 nb1_2 cb1_2 xb2_0 xb2_1 xb2_2 ab2_3 nb2_3 cb2_3 ab2_4 nb2_4 cb2_4 h)))))))))))))))) (newB w0 h (Go.G.AB.cells [(Go.Value.int .i64 xb2_0), (Go.Value.int .i64 xb2_1), (Go.Value.int .i64 xb2_2), (Go.Value.slice ab2_3 nb2_3 cb2_3), (Go.Value.slice ab2_4 nb2_4 cb2_4)] (List.length [(Go.Value.int .i64 xb2_0), (Go.Value.int .i64 xb2_1), (Go.Value.int .i64 xb2_2), (Go.Value.slice ab2_3 nb2_3 cb2_3), (Go.Value.slice ab2_4 nb2_4 cb2_4)])) (fun b'31 h'32 => (f25_17 w0 K x4 (some (Go.Addr.mk b'31 0 none)) 1 1 xb0_0 xb0_1 xb0_2 ab0_3 nb0_3 cb0_3 xb1_0 xb1_1 ab1_2 nb1_2 cb1_2 h'32))))) :
  f25_11 w0 K x4 a35 n35 c35 x36 x37 xb0_0 xb0_1 xb0_2 ab0_3 nb0_3 cb0_3 xb1_0 xb1_1 ab1_2 nb1_2 cb1_2 xb2_0 xb2_1 xb2_2 ab2_3 nb2_3 cb2_3 ab2_4 nb2_4 cb2_4 h := fun j => LP_intro (P := Go.Proofs.Try.prog) (Eq.mp (by kernel_rfl) hv)

theorem f25_17_in {w0 : World} {K : Value → AH → Prop} (x4 : Int) (a5 : Option Go.Addr) (n5 : Nat) (c5 : Nat) (xb0_0 : Int) (xb0_1 : Int) (xb0_2 : Int) (ab0_3 : Option Go.Addr) (nb0_3 : Nat) (cb0_3 : Nat) (xb1_0 : Int) (xb1_1 : Int) (ab1_2 : Option Go.Addr) (nb1_2 : Nat) (cb1_2 : Nat) (h : AH)
  (hv : (∃ a'33 : Go.Addr, ((a5 = (some a'33)) ∧ (((0 : Int) ≤ (0 : Int)) ∧ (((0 : Int) < ((n5 : Nat) : Int)) ∧ (∃ p'34 : Option Go.Addr, (∃ n'35 : Nat, (∃ n'36 : Nat, (((Go.G.cellA w0 h (Go.Addr.add (Go.Addr.add a'33 0) 3)) = (some (Go.Value.slice p'34 n'35 n'36))) ∧ (∃ a'37 : Go.Addr, ((a5 = (some a'37)) ∧ (((0 : Int) ≤ (0 : Int)) ∧ (((0 : Int) < ((n5 : Nat) : Int)) ∧ (∃ p'38 : Option Go.Addr, (∃ n'39 : Nat, (∃ n'40 : Nat, (((Go.G.cellA w0 h (Go.Addr.add (Go.Addr.add a'37 0) 4)) = (some (Go.Value.slice p'38 n'39 n'40))) ∧ (f25_20 w0 K x4 p'34 n'35 n'36 p'38 n'39 n'40 a5 n5 c5 ((n5 : Nat) : Int) (0 : Int) xb0_0 xb0_1 xb0_2 ab0_3 nb0_3 cb0_3 xb1_0 xb1_1 ab1_2 nb1_2 cb1_2 x4 (Go.IntKind.wrap .i64 (x4 + (1 : Int))) none 0 0 h)))))))))))))))))) :
  f25_17 w0 K x4 a5 n5 c5 xb0_0 xb0_1 xb0_2 ab0_3 nb0_3 cb0_3 xb1_0 xb1_1 ab1_2 nb1_2 cb1_2 h := fun j => LP_intro (P := Go.Proofs.Try.prog) (Eq.mp (by kernel_rfl) hv)

theorem f25_20_in {w0 : World} {K : Value → AH → Prop} (x4 : Int) (a9 : Option Go.Addr) (n9 : Nat) (c9 : Nat) (a10 : Option Go.Addr) (n10 : Nat) (c10 : Nat) (a62 : Option Go.Addr) (n62 : Nat) (c62 : Nat) (x63 : Int) (x64 : Int) (xb0_0 : Int) (xb0_1 : Int) (xb0_2 : Int) (ab0_3 : Option Go.Addr) (nb0_3 : Nat) (cb0_3 : Nat) (xb1_0 : Int) (xb1_1 : Int) (ab1_2 : Option Go.Addr) (nb1_2 : Nat) (cb1_2 : Nat) (xb2_0 : Int) (xb2_1 : Int) (ab2_2 : Option Go.Addr) (nb2_2 : Nat) (cb2_2 : Nat) (h : AH)
  (hv : (brB (decide ((x64 < x63))) (∃ a'41 : Go.Addr, ((a62 = (some a'41)) ∧ (((0 : Int) ≤ x64) ∧ ((x64 < ((n62 : Nat) : Int)) ∧ (∃ i'42 : Int, (∃ i'43 : Int, (∃ i'44 : Int, (∃ p'45 : Option Go.Addr, (∃ n'46 : Nat, (∃ n'47 : Nat, (∃ p'48 : Option Go.Addr, (∃ n'49 : Nat, (∃ n'50 : Nat, ((((Array.size #[(Go.Value.int .i64 i'42), (Go.Value.int .i64 i'43), (Go.Value.int .i64 i'44), (Go.Value.slice p'45 n'46 n'47), (Go.Value.slice p'48 n'49 n'50)]) = 5) ∧ (At w0 h (Go.Addr.add a'41 ((Int.toNat x64) * 5)) [(Go.Value.int .i64 i'42), (Go.Value.int .i64 i'43), (Go.Value.int .i64 i'44), (Go.Value.slice p'45 n'46 n'47), (Go.Value.slice p'48 n'49 n'50)])) ∧ (EvC Go.Proofs.Try.prog w0 45 #[(Go.Value.slice p'45 n'46 n'47), (Go.Value.slice a9 n9 c9)] (fun x'51 h'52 => (∃ i'53 : Int, ((x'51 = (Go.Value.int .i64 i'53)) ∧ (brB (decide ((i'53 < (0 : Int)))) (f25_24 w0 K x4 p'45 n'46 n'47 a10 n10 c10 a62 n62 c62 x63 x64 xb0_0 xb0_1 xb0_2 ab0_3 nb0_3 cb0_3 xb1_0 xb1_1 ab1_2 nb1_2 cb1_2 xb2_0 xb2_1 ab2_2 nb2_2 cb2_2 i'42 i'43 i'44 p'45 n'46 n'47 p'48 n'49 n'50 h'52) (f25_24 w0 K x4 a9 n9 c9 a10 n10 c10 a62 n62 c62 x63 x64 xb0_0 xb0_1 xb0_2 ab0_3 nb0_3 cb0_3 xb1_0 xb1_1 ab1_2 nb1_2 cb1_2 xb2_0 xb2_1 ab2_2 nb2_2 cb2_2 i'42 i'43 i'44 p'45 n'46 n'47 p'48 n'49 n'50 h'52))))) h))))))))))))))) (EvC Go.Proofs.Try.prog w0 42 #[(Go.Value.agg #[(Go.Value.int .i64 xb0_0), (Go.Value.int .i64 xb0_1), (Go.Value.int .i64 xb0_2), (Go.Value.slice ab0_3 nb0_3 cb0_3)]), (Go.Value.int .i64 (Go.IntKind.wrap .i64 (x4 + (1 : Int)))), (Go.Value.slice a9 n9 c9), (Go.Value.slice a10 n10 c10)] (fun x'54 h'55 => (∃ p'56 : Option Go.Addr, (∃ n'57 : Nat, (∃ n'58 : Nat, ((x'54 = (Go.Value.slice p'56 n'57 n'58)) ∧ (f25_29 w0 K p'56 n'57 n'58 ((n'57 : Nat) : Int) (0 : Int) xb0_0 xb0_1 xb0_2 ab0_3 nb0_3 cb0_3 xb1_0 xb1_1 ab1_2 nb1_2 cb1_2 xb2_0 xb2_1 ab2_2 nb2_2 cb2_2 h'55)))))) h))) :
  f25_20 w0 K x4 a9 n9 c9 a10 n10 c10 a62 n62 c62 x63 x64 xb0_0 xb0_1 xb0_2 ab0_3 nb0_3 cb0_3 xb1_0 xb1_1 ab1_2 nb1_2 cb1_2 xb2_0 xb2_1 ab2_2 nb2_2 cb2_2 h := fun j => LP_intro (P := Go.Proofs.Try.prog) (Eq.mp (by kernel_rfl) hv)

theorem f25_24_in {w0 : World} {K : Value → AH → Prop} (x4 : Int) (a9 : Option Go.Addr) (n9 : Nat) (c9 : Nat) (a10 : Option Go.Addr) (n10 : Nat) (c10 : Nat) (a62 : Option Go.Addr) (n62 : Nat) (c62 : Nat) (x63 : Int) (x64 : Int) (xb0_0 : Int) (xb0_1 : Int) (xb0_2 : Int) (ab0_3 : Option Go.Addr) (nb0_3 : Nat) (cb0_3 : Nat) (xb1_0 : Int) (xb1_1 : Int) (ab1_2 : Option Go.Addr) (nb1_2 : Nat) (cb1_2 : Nat) (xb2_0 : Int) (xb2_1 : Int) (ab2_2 : Option Go.Addr) (nb2_2 : Nat) (cb2_2 : Nat) (xb3_0 : Int) (xb3_1 : Int) (xb3_2 : Int) (ab3_3 : Option Go.Addr) (nb3_3 : Nat) (cb3_3 : Nat) (ab3_4 : Option Go.Addr) (nb3_4 : Nat) (cb3_4 : Nat) (h : AH)
  (hv : (EvC Go.Proofs.Try.prog w0 45 #[(Go.Value.slice ab3_4 nb3_4 cb3_4), (Go.Value.slice a10 n10 c10)] (fun x'59 h'60 => (∃ i'61 : Int, ((x'59 = (Go.Value.int .i64 i'61)) ∧ (brB (decide (((0 : Int) < i'61))) (App w0 h'60 1 8 ab2_2 nb2_2 cb2_2 1 [(Go.Value.int .i64 xb3_0)] (fun a'62 c'63 h'64 => (f25_20 w0 K x4 a9 n9 c9 ab3_4 nb3_4 cb3_4 a62 n62 c62 x63 (Go.IntKind.wrap .i64 (x64 + (1 : Int))) xb0_0 xb0_1 xb0_2 ab0_3 nb0_3 cb0_3 xb1_0 xb1_1 ab1_2 nb1_2 cb1_2 xb2_0 xb2_1 a'62 (nb2_2 + 1) c'63 h'64))) (App w0 h'60 1 8 ab2_2 nb2_2 cb2_2 1 [(Go.Value.int .i64 xb3_0)] (fun a'65 c'66 h'67 => (f25_20 w0 K x4 a9 n9 c9 a10 n10 c10 a62 n62 c62 x63 (Go.IntKind.wrap .i64 (x64 + (1 : Int))) xb0_0 xb0_1 xb0_2 ab0_3 nb0_3 cb0_3 xb1_0 xb1_1 ab1_2 nb1_2 cb1_2 xb2_0 xb2_1 a'65 (nb2_2 + 1) c'66 h'67))))))) h)) :
  f25_24 w0 K x4 a9 n9 c9 a10 n10 c10 a62 n62 c62 x63 x64 xb0_0 xb0_1 xb0_2 ab0_3 nb0_3 cb0_3 xb1_0 xb1_1 ab1_2 nb1_2 cb1_2 xb2_0 xb2_1 ab2_2 nb2_2 cb2_2 xb3_0 xb3_1 xb3_2 ab3_3 nb3_3 cb3_3 ab3_4 nb3_4 cb3_4 h := fun j => LP_intro (P := Go.Proofs.Try.prog) (Eq.mp (by kernel_rfl) hv)

theorem f25_29_in {w0 : World} {K : Value → AH → Prop} (a95 : Option Go.Addr) (n95 : Nat) (c95 : Nat) (x96 : Int) (x97 : Int) (xb0_0 : Int) (xb0_1 : Int) (xb0_2 : Int) (ab0_3 : Option Go.Addr) (nb0_3 : Nat) (cb0_3 : Nat) (xb1_0 : Int) (xb1_1 : Int) (ab1_2 : Option Go.Addr) (nb1_2 : Nat) (cb1_2 : Nat) (xb2_0 : Int) (xb2_1 : Int) (ab2_2 : Option Go.Addr) (nb2_2 : Nat) (cb2_2 : Nat) (h : AH)
  (hv : (brB (decide ((x97 < x96))) (∃ a'68 : Go.Addr, ((a95 = (some a'68)) ∧ (((0 : Int) ≤ x97) ∧ ((x97 < ((n95 : Nat) : Int)) ∧ (∃ i'69 : Int, (∃ i'70 : Int, (∃ i'71 : Int, (∃ p'72 : Option Go.Addr, (∃ n'73 : Nat, (∃ n'74 : Nat, (∃ p'75 : Option Go.Addr, (∃ n'76 : Nat, (∃ n'77 : Nat, ((((Array.size #[(Go.Value.int .i64 i'69), (Go.Value.int .i64 i'70), (Go.Value.int .i64 i'71), (Go.Value.slice p'72 n'73 n'74), (Go.Value.slice p'75 n'76 n'77)]) = 5) ∧ (At w0 h (Go.Addr.add a'68 ((Int.toNat x97) * 5)) [(Go.Value.int .i64 i'69), (Go.Value.int .i64 i'70), (Go.Value.int .i64 i'71), (Go.Value.slice p'72 n'73 n'74), (Go.Value.slice p'75 n'76 n'77)])) ∧ (App w0 h 1 8 ab2_2 nb2_2 cb2_2 1 [(Go.Value.int .i64 i'69)] (fun a'78 c'79 h'80 => (f25_29 w0 K a95 n95 c95 x96 (Go.IntKind.wrap .i64 (x97 + (1 : Int))) xb0_0 xb0_1 xb0_2 ab0_3 nb0_3 cb0_3 xb1_0 xb1_1 ab1_2 nb1_2 cb1_2 xb2_0 xb2_1 a'78 (nb2_2 + 1) c'79 h'80))))))))))))))))) (K (Go.Value.tuple #[(Go.Value.agg #[(Go.Value.int .i64 xb2_0), (Go.Value.int .i64 xb2_1), (Go.Value.slice ab2_2 nb2_2 cb2_2)]), (Go.Value.bool true)]) h))) :
  f25_29 w0 K a95 n95 c95 x96 x97 xb0_0 xb0_1 xb0_2 ab0_3 nb0_3 cb0_3 xb1_0 xb1_1 ab1_2 nb1_2 cb1_2 xb2_0 xb2_1 ab2_2 nb2_2 cb2_2 h := fun j => LP_intro (P := Go.Proofs.Try.prog) (Eq.mp (by kernel_rfl) hv)

theorem f25_go {w0 : World} {K : Value → AH → Prop} (x0_0 : Int) (x0_1 : Int) (x0_2 : Int) (a0_3 : Option Go.Addr) (n0_3 : Nat) (c0_3 : Nat) (h : AH)
  (hv : (EvC Go.Proofs.Try.prog w0 32 #[(Go.Value.agg #[(Go.Value.int .i64 x0_0), (Go.Value.int .i64 x0_1), (Go.Value.int .i64 x0_2), (Go.Value.slice a0_3 n0_3 c0_3)])] (fun x'0 h'1 => (∃ t'2 : Bool, ((x'0 = (Go.Value.bool t'2)) ∧ (brB (!t'2) (K (Go.Value.tuple #[(Go.Value.agg #[(Go.Value.int .i64 (0 : Int)), (Go.Value.int .i64 (0 : Int)), (Go.Value.slice none 0 0)]), (Go.Value.bool false)]) h'1) (f25_4 w0 K (0 : Int) x0_0 x0_1 x0_2 a0_3 n0_3 c0_3 (0 : Int) (0 : Int) none 0 0 h'1))))) h)) :
  EvC Go.Proofs.Try.prog w0 25 ([(.agg #[(.int .i64 x0_0), (.int .i64 x0_1), (.int .i64 x0_2), (.slice a0_3 n0_3 c0_3)])]).toArray K h := EvC_intro (P := Go.Proofs.Try.prog) f25_J (Eq.mp (by kernel_rfl) hv)
section
variable {w0 : World} {K : Value → AH → Prop} {h1 : AH} {av a5 : Option Addr} {nv cv n5 c5 : Nat} {ts us : List Tab} {lo nx sq x x' : Int} {nums : List Int}

theorem f25_29_ok (hx' : x' = x + 1) (hk : ∀ a n c h', Sl w0 h' 1 a n c (ints nums) → Ext h1 h' none → K (.tuple #[.agg #[.int .i64 x, .int .i64 x', .slice a n c], .bool true]) h') {a6 : Option Addr} {n6 c6 : Nat} {us2 : List Tab} (hn6 : n6 ≤ 1000000) {y0 y1 : Int} {y2 : Option Addr} {y3 y4 : Nat} {pre : List Int}
    (hpre : pre.length ≤ 1000000) (hnums : nums = pre ++ us2.map Tab.num) :
    ∀ (rest : List Tab) (i : Nat) (a2 : Option Addr) (n2 c2 : Nat) (h : AH), us2.drop i = rest → i ≤ n6 → n6 = us2.length → Ext h1 h none → New h1 a2 → Sl w0 h 1 a2 n2 c2 (ints (pre ++ (us2.take i).map Tab.num)) → Stay (fun h => Sl w0 h 5 a6 n6 c6 (tabs us2)) h a2 →
      f25_29 w0 K a6 n6 c6 ((n6 : Nat) : Int) ((i : Nat) : Int) lo nx sq av nv cv y0 y1 y2 y3 y4 x x' a2 n2 c2 h := by
  intro rest
  induction rest with
  | nil =>
    intro i a2 n2 c2 h hd hi hl hx hnew so st
    have := drop_done hd
    rw [List.take_of_length_le (by omega), ← hnums] at so
    exact f25_29_in _ _ _ _ _ _ _ _ _ _ _ _ _ _ _ _ _ _ _ _ _ _ (brB_of (fun q => by simp at q; omega) fun _ => hk _ _ _ _ so hx)
  | cons t r ih =>
    intro i a2 n2 c2 h hd hi hl hx hnew so st
    obtain ⟨hget, hd', hlt⟩ := drop_step hd
    have hn2 : n2 = pre.length + i := by have := so.1; simp [ints] at this; omega
    have htake : us2.take (i + 1) = us2.take i ++ [t] := by rw [List.take_add_one, hget]; rfl
    refine f25_29_in _ _ _ _ _ _ _ _ _ _ _ _ _ _ _ _ _ _ _ _ _ _ (brB_of (fun _ => tabLoad st.now.rd hl hget ?_) fun q => by simp at q; omega)
    refine App_own so (by omega) (by omega) rfl (ints_cell [t.num]) fun a' c' h' s' x1 f' => ?_
    rw [wrapS (by omega)]
    refine ih (i + 1) a' (n2 + 1) c' h' hd' (by omega) hl (hx.past hnew x1) (hnew.grown hx f') ?_ (st.grow (Ext.refl _ _) x1 f')
    have : ints (pre ++ (us2.take (i + 1)).map Tab.num) = ints (pre ++ (us2.take i).map Tab.num) ++ [.int .i64 t.num] := by rw [htake]; simp [ints]
    rw [this]; exact s'

theorem f25_20_ok (hx' : x' = x + 1) (hr : 0 ≤ x ∧ x ≤ 4) (hk : ∀ a n c h', Sl w0 h' 1 a n c (ints nums) → Ext h1 h' none → K (.tuple #[.agg #[.int .i64 x, .int .i64 x', .slice a n c], .bool true]) h')
    (s : TS w0 h1 a5 n5 c5 us) (hn5 : n5 ≤ 1000000) (sv : TS w0 h1 av nv cv ts) (hnv : nv ≤ 1000000) {y0 y1 : Int} {y2 : Option Addr} {y3 y4 : Nat} {LO HI : List UInt8}
    (hnums : nums = us.map Tab.num ++ (overD (ts.map Tab.dat) (x + 1) LO HI).map Dat.num) :
    ∀ (rest : List Tab) (i : Nat) (a2 : Option Addr) (n2 c2 : Nat) (h : AH) (a6 a7 : Option Addr) (n6 c6 n7 c7 : Nat) (l6 l7 : List UInt8), us.drop i = rest → i ≤ n5 → Ext h1 h none → New h1 a2 → Sl w0 h 1 a2 n2 c2 (ints ((us.take i).map Tab.num)) →
      Rs w0 h1 a6 (u8s l6) → n6 = l6.length → Rs w0 h1 a7 (u8s l7) → n7 = l7.length → LO = lowD l6 (rest.map Tab.dat) → HI = highD l7 (rest.map Tab.dat) →
      f25_20 w0 K x a6 n6 c6 a7 n7 c7 a5 n5 c5 ((n5 : Nat) : Int) ((i : Nat) : Int) lo nx sq av nv cv y0 y1 y2 y3 y4 x x' a2 n2 c2 h := by
  have hl := s.len
  intro rest
  induction rest with
  | nil =>
    intro i a2 n2 c2 h a6 a7 n6 c6 n7 c7 l6 l7 hd hi hx hnew so r6 e6 r7 e7 hlo hhi
    have := drop_done hd
    have hlo' : LO = l6 := hlo
    have hhi' : HI = l7 := hhi
    subst hlo'
    subst hhi'
    rw [List.take_of_length_le (by omega)] at so
    refine f25_20_in _ _ _ _ _ _ _ _ _ _ _ _ _ _ _ _ _ _ _ _ _ _ _ _ _ _ _ _ _ (brB_of (fun q => by simp at q; omega) fun _ => ?_)
    rw [wrap64 (x := x + 1) (by omega) (by omega)]
    refine f42_spec (sv.ext hx) hnv (r6.ext hx) (r7.ext hx) e6 e7 fun a' n' c' h' us2 s2 hdat hok x2 new2 => ⟨_, _, _, rfl, ?_⟩
    have hl2 := s2.len5
    have hlen := congrArg List.length hdat
    simp only [List.length_map] at hlen
    have h3 : (overD (ts.map Tab.dat) (x + 1) LO HI).length ≤ ts.length := by
      refine Nat.le_trans (List.length_filter_le _ _) (Nat.le_trans (List.length_filter_le _ _) ?_)
      simp
    have := sv.len
    have hnm : us2.map Tab.num = (overD (ts.map Tab.dat) (x + 1) LO HI).map Dat.num := by
      rw [← hdat, List.map_map]; rfl
    refine f25_29_ok hx' hk (by omega) (pre := us.map Tab.num) (by simp; omega) (by rw [hnums, hnm]) _ 0 a2 n2 c2 h' rfl (by omega) hl2 (hx.trans x2) hnew ?_ fun h2 z => s2.extX z fun ad bd ha hb q => ?_
    · have := so.ext x2
      simpa [ints] using this
    · subst ha
      subst hb
      have h5 := so.2.2.2.2.2
      have h6 := new2 ad rfl
      rw [q, h5] at h6; cases h6
  | cons t r ih =>
    intro i a2 n2 c2 h a6 a7 n6 c6 n7 c7 l6 l7 hd hi hx hnew so r6 e6 r7 e7 hlo hhi
    obtain ⟨hget, hd', hlt⟩ := drop_step hd
    have hn2 : n2 = i := by have := so.1; simp [ints] at this; omega
    have htake : us.take (i + 1) = us.take i ++ [t] := by rw [List.take_add_one, hget]; rfl
    have o1 := s.ok t (List.mem_of_getElem? hget)
    have o := o1.ext hx
    have go : ∀ (a' : Option Addr) (c' : Nat) (h' : AH), Sl w0 h' 1 a' (n2 + 1) c' (ints ((us.take i).map Tab.num) ++ [.int .i64 t.num]) → Sl w0 h' 1 a' (n2 + 1) c' (ints ((us.take (i + 1)).map Tab.num)) := fun a' c' h' s' => by
      have : ints ((us.take (i + 1)).map Tab.num) = ints ((us.take i).map Tab.num) ++ [.int .i64 t.num] := by rw [htake]; simp [ints]
      rw [this]; exact s'
    have step : ∀ (b6 : Option Addr) (m6 d6 : Nat) (k6 : List UInt8), Rs w0 h1 b6 (u8s k6) → m6 = k6.length → LO = lowD k6 (r.map Tab.dat) →
        f25_24 w0 K x b6 m6 d6 a7 n7 c7 a5 n5 c5 ((n5 : Nat) : Int) ((i : Nat) : Int) lo nx sq av nv cv y0 y1 y2 y3 y4 x x' a2 n2 c2 t.num t.lev t.siz t.lp t.ln t.lc t.mp t.mn t.mc h := fun b6 m6 d6 k6 g6 f6 hlo2 => by
      refine f25_24_in _ _ _ _ _ _ _ _ _ _ _ _ _ _ _ _ _ _ _ _ _ _ _ _ _ _ _ _ _ _ _ _ _ _ _ _ _ _ (f45_spec o.mb.rd (r7.ext hx).rd o.mn e7 ⟨_, rfl, brB_of (fun q => ?_) fun q => ?_⟩)
      all_goals
        refine App_own so (by omega) (by omega) rfl (ints_cell [t.num]) fun a' c' h' s' x1 f' => ?_
        rw [wrapS (by omega)]
      · refine ih (i + 1) a' (n2 + 1) c' h' b6 _ m6 d6 _ _ k6 t.mb hd' (by omega) (hx.past hnew x1) (hnew.grown hx f') (go _ _ _ s') g6 f6 o1.mb o.mn hlo2 ?_
        rw [hhi, List.map_cons, highD, if_pos (by simpa [Dat.mb, Tab.dat] using q)]
        rfl
      · refine ih (i + 1) a' (n2 + 1) c' h' b6 _ m6 d6 _ _ k6 l7 hd' (by omega) (hx.past hnew x1) (hnew.grown hx f') (go _ _ _ s') g6 f6 r7 e7 hlo2 ?_
        rw [hhi, List.map_cons, highD, if_neg (by simpa [Dat.mb, Tab.dat] using q)]
    refine f25_20_in _ _ _ _ _ _ _ _ _ _ _ _ _ _ _ _ _ _ _ _ _ _ _ _ _ _ _ _ _ (brB_of (fun _ => tabLoad (s.ext hx).rs.rd hl hget ?_) fun q => by simp at q; omega)
    refine f45_spec o.lb.rd (r6.ext hx).rd o.ln e6 ⟨_, rfl, brB_of (fun q => step _ _ _ t.lb o1.lb o.ln ?_) fun q => step _ _ _ l6 r6 e6 ?_⟩
    · rw [hlo, List.map_cons, lowD, if_pos (by simpa [Dat.lb, Tab.dat] using q)]
      rfl
    · rw [hlo, List.map_cons, lowD, if_neg (by simpa [Dat.lb, Tab.dat] using q)]

theorem f25_17_ok (hr : 0 ≤ x ∧ x ≤ 4) (hk : ∀ a n c h', Sl w0 h' 1 a n c (ints nums) → Ext h1 h' none → K (.tuple #[.agg #[.int .i64 x, .int .i64 (x + 1), .slice a n c], .bool true]) h')
    (s : TS w0 h1 a5 n5 c5 us) (hn5 : n5 ≤ 1000000) (sv : TS w0 h1 av nv cv ts) (hnv : nv ≤ 1000000) {y0 y1 : Int} {y2 : Option Addr} {y3 y4 : Nat} {u : Tab} {r : List Tab} (hu : us = u :: r)
    (hnums : nums = us.map Tab.num ++ (overD (ts.map Tab.dat) (x + 1) (lowD u.lb (us.map Tab.dat)) (highD u.mb (us.map Tab.dat))).map Dat.num) :
    f25_17 w0 K x a5 n5 c5 lo nx sq av nv cv y0 y1 y2 y3 y4 h1 := by
  have h0 : us[0]? = some u := by rw [hu]; rfl
  have o := s.ok u (List.mem_of_getElem? h0)
  refine f25_17_in _ _ _ _ _ _ _ _ _ _ _ _ _ _ _ _ (lbLoad s.rs.rd s.len h0 (by simp) rfl (mbLoad s.rs.rd s.len h0 (by simp) rfl ?_))
  rw [wrap64 (x := x + 1) (by omega) (by omega)]
  exact f25_20_ok rfl hr hk s hn5 sv hnv hnums us 0 none 0 0 h1 _ _ _ _ _ _ u.lb u.mb rfl (by omega) (Ext.refl _ _) New.none Sl.nil o.lb o.ln o.mb o.mn rfl rfl
end

section
variable {w0 : World} {K : Value → AH → Prop} {h1 : AH} {av a5 : Option Addr} {nv cv n5 c5 : Nat} {ts us : List Tab} {lo nx sq x : Int}

theorem f25_11_ok (s : TS w0 h1 a5 n5 c5 us) {y0 y1 : Int} {y2 : Option Addr} {y3 y4 : Nat} {d : Dat}
    (hk : ∀ b h' t, t.dat = d → TS w0 h' (some ⟨b, 0, none⟩) 1 1 [t] → Ext h1 h' none → f25_17 w0 K x (some ⟨b, 0, none⟩) 1 1 lo nx sq av nv cv y0 y1 y2 y3 y4 h') :
    ∀ (rest : List Tab) (i : Nat) (t : Tab), us.drop i = rest → i ≤ n5 → t.Ok w0 h1 → d = leastD t.dat (rest.map Tab.dat) →
      f25_11 w0 K x a5 n5 c5 ((n5 : Nat) : Int) ((i : Nat) : Int) lo nx sq av nv cv y0 y1 y2 y3 y4 t.num t.lev t.siz t.lp t.ln t.lc t.mp t.mn t.mc h1 := by
  have hl := s.len
  have hsm := s.sm
  intro rest
  induction rest with
  | nil =>
    intro i t hd hi o he
    have := drop_done hd
    refine f25_11_in _ _ _ _ _ _ _ _ _ _ _ _ _ _ _ _ _ _ _ _ _ _ _ _ _ _ _ (brB_of (fun q => by simp at q; omega) fun _ b hb hbn => ?_)
    have hs : Sl w0 (h1.put b (.cells t.cells 5)) 5 (some ⟨b, 0, none⟩) 1 1 (tabs [t]) := Sl.lit (n := 1) (e := 5) hb rfl
    exact hk b _ t he.symm (hs.ts (by omega) fun u hu => by obtain rfl := List.mem_singleton.1 hu; exact o.ext (Ext_put hbn)) (Ext_put hbn)
  | cons u r ih =>
    intro i t hd hi o he
    obtain ⟨hget, hd', hlt⟩ := drop_step hd
    have ou := s.ok u (List.mem_of_getElem? hget)
    refine f25_11_in _ _ _ _ _ _ _ _ _ _ _ _ _ _ _ _ _ _ _ _ _ _ _ _ _ _ _ (brB_of (fun _ => tabLoad s.rs.rd hl hget (brB_of (fun q => ?_) fun q => ?_)) fun q => by simp at q; omega)
    all_goals rw [wrapS (by omega)]
    · refine ih (i + 1) u hd' (by omega) ou ?_
      rw [he, List.map_cons, leastD, if_pos (by simpa [Dat.num, Tab.dat] using q)]
    · refine ih (i + 1) t hd' (by omega) o ?_
      rw [he, List.map_cons, leastD, if_neg (by simpa [Dat.num, Tab.dat] using q)]

/-- ref Next's job. -/
theorem f25_job {h0 : AH} {a : Option Addr} {n c : Nat} (s : TS w0 h0 a n c ts) (hn : n ≤ 1000000) (hr : 0 ≤ x ∧ x ≤ 4) (hne : atD (ts.map Tab.dat) x ≠ []) {y0 y1 : Int} {y2 : Option Addr} {y3 y4 : Nat}
    (hk : ∀ a' n' c' h', Sl w0 h' 1 a' n' c' (ints (jobD (ts.map Tab.dat) x)) → Ext h0 h' none → K (.tuple #[.agg #[.int .i64 x, .int .i64 (x + 1), .slice a' n' c'], .bool true]) h') :
    EvC Go.Proofs.Try.prog w0 39 #[.agg #[.int .i64 lo, .int .i64 nx, .int .i64 sq, .slice a n c], .int .i64 x] (fun v h' => ∃ p : Option Addr, ∃ m d : Nat, v = .slice p m d ∧
      brB (decide ((0 : Int) < x)) (∃ a' : Addr, (p = some a' ∧ ((0 : Int) ≤ (0 : Int) ∧ ((0 : Int) < ((m : Nat) : Int) ∧ ∃ i1 i2 i3 : Int, ∃ p4 : Option Addr, ∃ n5 n6 : Nat, ∃ p7 : Option Addr, ∃ n8 n9 : Nat,
        ((Array.size #[Value.int .i64 i1, Value.int .i64 i2, Value.int .i64 i3, Value.slice p4 n5 n6, Value.slice p7 n8 n9] = 5 ∧
          At w0 h' (a'.add 0) [Value.int .i64 i1, Value.int .i64 i2, Value.int .i64 i3, Value.slice p4 n5 n6, Value.slice p7 n8 n9]) ∧
        f25_11 w0 K x p m d ((m : Nat) : Int) (0 : Int) lo nx sq a n c y0 y1 y2 y3 y4 i1 i2 i3 p4 n5 n6 p7 n8 n9 h'))))) (f25_17 w0 K x p m d lo nx sq a n c y0 y1 y2 y3 y4 h')) h0 := by
  refine f39d_spec s hn fun a1 n1 c1 h1 us s1 hdat hok x1 new1 => ⟨_, _, _, rfl, ?_⟩
  have hl5 := s1.len5
  have hlen := congrArg List.length hdat
  simp only [List.length_map] at hlen
  have := List.length_filter_le (fun t : Tab => t.lev == x) ts
  have := s.len
  have hat : us.map Tab.dat = atD (ts.map Tab.dat) x := by rw [hdat, at_dat]
  have s1' : TS w0 h1 a1 n1 c1 us := s1.ts (by omega) hok
  cases hus : us with
  | nil => rw [hus] at hat; exact absurd hat.symm hne
  | cons u r =>
    have hat2 : atD (ts.map Tab.dat) x = u.dat :: r.map Tab.dat := by rw [← hat, hus]; rfl
    have hk1 : ∀ h2, Ext h1 h2 none → ∀ a' n' c' h', Sl w0 h' 1 a' n' c' (ints (jobD (ts.map Tab.dat) x)) → Ext h2 h' none → K (.tuple #[.agg #[.int .i64 x, .int .i64 (x + 1), .slice a' n' c'], .bool true]) h' := fun h2 x2 a' n' c' h' q y => hk a' n' c' h' q ((x1.trans x2).trans y)
    have h0u : us[0]? = some u := by rw [hus]; rfl
    refine brB_of (fun q => ?_) fun q => ?_
    · have q' : 0 < x := by simpa using q
      obtain ⟨ad, had, hat0⟩ := tab_at s1'.rs.rd h0u
      have hpos : 0 < n1 := by rw [hl5, hus]; simp
      refine ⟨ad, had, by omega, by omega, _, _, _, _, _, _, _, _, _, ⟨rfl, by simpa [Tab.cells] using hat0⟩, ?_⟩
      refine f25_11_ok s1' (d := leastD u.dat (us.map Tab.dat)) (fun b h2 t hd st x2 => ?_) us 0 u rfl (by omega) (hok u (List.mem_of_getElem? h0u)) rfl
      refine f25_17_ok (u := t) (r := []) hr (hk1 h2 x2) st (by omega) (s.ext (x1.trans x2)) hn rfl ?_
      have hin : inD (ts.map Tab.dat) x = [t.dat] := by
        unfold inD; rw [hat2]; simp only [if_pos q']; rw [hd, hus]; rfl
      unfold jobD; rw [hin]; rfl
    · have q' : ¬ 0 < x := by simpa using q
      refine f25_17_ok (u := u) (r := r) hr (hk1 h1 (Ext.refl _ _)) s1' (by omega) (s.ext x1) hn hus ?_
      have hin : inD (ts.map Tab.dat) x = u.dat :: r.map Tab.dat := by
        unfold inD; rw [hat2]; simp only [if_neg q']
      unfold jobD; rw [hin, hus]
      simp only [List.map_cons, List.map_map]
      rfl

/-- ref Next. -/
theorem f25_spec {h0 : AH} {a : Option Addr} {n c : Nat} (s : TS w0 h0 a n c ts) (hk0 : ∀ h', nextR lo nx sq ts = none → Ext h0 h' none → K (.tuple #[.agg #[.int .i64 0, .int .i64 0, .slice none 0 0], .bool false]) h')
    (hk1 : ∀ x a' n' c' h', nextR lo nx sq ts = some x → Sl w0 h' 1 a' n' c' (ints (jobD (ts.map Tab.dat) x)) → Ext h0 h' none → K (.tuple #[.agg #[.int .i64 x, .int .i64 (x + 1), .slice a' n' c'], .bool true]) h') :
    EvC Go.Proofs.Try.prog w0 25 #[.agg #[.int .i64 lo, .int .i64 nx, .int .i64 sq, .slice a n c]] K h0 := by
  refine f25_go _ _ _ _ _ _ _ (f32_spec s ⟨_, rfl, brB_of (fun q => hk0 h0 ?_ (Ext.refl _ _)) fun q => ?_⟩)
  · have : mayV lo nx sq ts = false := by simpa using q
    unfold nextR; rw [this]; rfl
  have hm : mayV lo nx sq ts = true := by simpa using q
  have hsz : ∀ t ∈ ts, 1 ≤ t.siz ∧ t.siz ≤ 4194304 := fun t ht => mayT_siz (mayV_all hm t ht)
  have hn : n ≤ 1000000 := by have := mayV_len hm; have := s.len; omega
  refine f25_4_in _ _ _ _ _ _ _ _ _ _ _ _ _ (brB_of (fun _ => f20_spec s hn hsz fun h2 x2 => ⟨_, rfl, brB_of (fun q0 => ?_) fun q0 => ?_⟩) fun q => by simp at q)
  · have q0' : fullR ts 0 = false := by simpa using q0
    have e1 : IntKind.i64.wrap ((0 : Int) + 1) = 1 := wrap64 (by omega) (by omega)
    rw [e1]
    refine f25_4_in _ _ _ _ _ _ _ _ _ _ _ _ _ (brB_of (fun _ => f20_spec (s.ext x2) hn hsz fun h3 x3 => ⟨_, rfl, brB_of (fun q1 => ?_) fun q1 => ?_⟩) fun q => by simp at q)
    · have q1' : fullR ts 1 = false := by simpa using q1
      have e2 : IntKind.i64.wrap ((1 : Int) + 1) = 2 := wrap64 (by omega) (by omega)
      rw [e2]
      refine f25_4_in _ _ _ _ _ _ _ _ _ _ _ _ _ (brB_of (fun _ => f20_spec (s.ext (x2.trans x3)) hn hsz fun h4 x4 => ⟨_, rfl, brB_of (fun q2 => ?_) fun q2 => ?_⟩) fun q => by simp at q)
      · have q2' : fullR ts 2 = false := by simpa using q2
        have e3 : IntKind.i64.wrap ((2 : Int) + 1) = 3 := wrap64 (by omega) (by omega)
        rw [e3]
        refine f25_4_in _ _ _ _ _ _ _ _ _ _ _ _ _ (brB_of (fun q => by simp at q) fun _ => hk0 h4 ?_ ((x2.trans x3).trans x4))
        unfold nextR; rw [hm, q0', q1', q2']; rfl
      · have q2' : fullR ts 2 = true := by simpa using q2
        exact f25_job (s.ext ((x2.trans x3).trans x4)) hn (by omega) (fullR_ne q2') fun a' n' c' h' s' x' => hk1 2 a' n' c' h' (by unfold nextR; rw [hm, q0', q1', q2']; rfl) s' (((x2.trans x3).trans x4).trans x')
    · have q1' : fullR ts 1 = true := by simpa using q1
      exact f25_job (s.ext (x2.trans x3)) hn (by omega) (fullR_ne q1') fun a' n' c' h' s' x' => hk1 1 a' n' c' h' (by unfold nextR; rw [hm, q0', q1']; rfl) s' ((x2.trans x3).trans x')
  · have q0' : fullR ts 0 = true := by simpa using q0
    exact f25_job (s.ext x2) hn (by omega) (fullR_ne q0') fun a' n' c' h' s' x' => hk1 0 a' n' c' h' (by unfold nextR; rw [hm, q0']; rfl) s' (x2.trans x')
end
end Go.G.Ytpnhlgghpciofaa
