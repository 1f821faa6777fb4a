/- Overlaps, jobs: the level's and pick's. -/
import Derived.Test.YtpnhlgghpciofaaLG
import Derived.Test.YtpnhlgghpciofaaLE
import Derived.Test.YtpnhlgghpciofaaProg
set_option maxRecDepth 100000
namespace Go.G.Ytpnhlgghpciofaa
open Go.RowKit
/-! ### what tables say, wherever they lie -/
abbrev Dat := Int × Int × Int × List UInt8 × List UInt8
def Dat.num (d : Dat) : Int := d.1
def Dat.lev (d : Dat) : Int := d.2.1
def Dat.lb (d : Dat) : List UInt8 := d.2.2.2.1
def Dat.mb (d : Dat) : List UInt8 := d.2.2.2.2
theorem filter_dat {p : Dat → Bool} {l : List Tab} : (l.filter fun t => p t.dat).map Tab.dat = (l.map Tab.dat).filter p := by rw [List.filter_map]; rfl
def atD (ds : List Dat) (x : Int) : List Dat := ds.filter fun d => Dat.lev d == x
def ovD (lo mo : List UInt8) (d : Dat) : Bool := decide (0 ≤ cmpL (Dat.mb d) lo) && decide (cmpL (Dat.lb d) mo ≤ 0)
def overD (ds : List Dat) (x : Int) (lo mo : List UInt8) : List Dat := (atD ds x).filter (ovD lo mo)
def leastD : Dat → List Dat → Dat
  | b, [] => b
  | b, d :: r => leastD (if Dat.num d < Dat.num b then d else b) r
def lowD : List UInt8 → List Dat → List UInt8
  | b, [] => b
  | b, d :: r => lowD (if cmpL (Dat.lb d) b < 0 then Dat.lb d else b) r
def highD : List UInt8 → List Dat → List UInt8
  | b, [] => b
  | b, d :: r => highD (if 0 < cmpL (Dat.mb d) b then Dat.mb d else b) r
/-- The tables that a job of a level begins with. -/
def inD (ds : List Dat) (x : Int) : List Dat := match atD ds x with
  | [] => []
  | d :: r => if 0 < x then [leastD d (d :: r)] else d :: r
/-- A job's numbers. -/
def jobD (ds : List Dat) (x : Int) : List Int := match inD ds x with
  | [] => []
  | d :: r => (d :: r).map Dat.num ++ (overD ds (x + 1) (lowD (Dat.lb d) (d :: r)) (highD (Dat.mb d) (d :: r))).map Dat.num

/-! ### what stays while x's row grows -/
def Stay (Q : AH → Prop) (h : AH) (x : Option Addr) : Prop := ∀ h', Ext h h' x → Q h'
theorem Stay.now {Q : AH → Prop} {h : AH} {x : Option Addr} (s : Stay Q h x) : Q h := s h (Ext.refl _ _)
theorem Stay.grow {Q : AH → Prop} {h h2 h3 : AH} {a a' : Option Addr} (s : Stay Q h a) (x : Ext h h2 none) (y : Ext h2 h3 a) (g : a' = a ∨ ∃ ad, a' = some ad ∧ h2 ad.block = none) : Stay Q h3 a' := fun _ z => s _ (x.grow y g z)

theorem numLoad {w0 : World} {h : AH} {a : Option Addr} {n i k : Nat} {x : Int} {ts : List Tab} {t : Tab} {B : Int → Prop} (hr : Rd w0 h a (tabs ts)) (hn : n = ts.length) (hi : ts[i]? = some t) (hk : k = i * 5) (hx : x = ((i : Nat) : Int)) (hb : B t.num) :
    ∃ a' : Addr, (a = some a' ∧ ((0 : Int) ≤ x ∧ (x < ((n : Nat) : Int) ∧ ∃ v : Int, (cellA w0 h ((a'.add k).add 0) = some (Value.int .i64 v) ∧ B v)))) := by
  obtain ⟨ad, had, hat⟩ := tab_at hr hi
  have := (List.getElem?_eq_some_iff.1 hi).1
  subst hk hx
  exact ⟨ad, had, by omega, by omega, _, hat 0 _ rfl, hb⟩
theorem lbLoad {w0 : World} {h : AH} {a : Option Addr} {n i k : Nat} {x : Int} {ts : List Tab} {t : Tab} {B : Option Addr → Nat → Nat → Prop} (hr : Rd w0 h a (tabs ts)) (hn : n = ts.length) (hi : ts[i]? = some t) (hk : k = i * 5) (hx : x = ((i : Nat) : Int)) (hb : B t.lp t.ln t.lc) :
    ∃ a' : Addr, (a = some a' ∧ ((0 : Int) ≤ x ∧ (x < ((n : Nat) : Int) ∧ ∃ p : Option Addr, ∃ m c : Nat, (cellA w0 h ((a'.add k).add 3) = some (Value.slice p m c) ∧ B p m c)))) := by
  obtain ⟨ad, had, hat⟩ := tab_at hr hi
  have := (List.getElem?_eq_some_iff.1 hi).1
  subst hk hx
  exact ⟨ad, had, by omega, by omega, _, _, _, hat 3 _ rfl, hb⟩
theorem mbLoad {w0 : World} {h : AH} {a : Option Addr} {n i k : Nat} {x : Int} {ts : List Tab} {t : Tab} {B : Option Addr → Nat → Nat → Prop} (hr : Rd w0 h a (tabs ts)) (hn : n = ts.length) (hi : ts[i]? = some t) (hk : k = i * 5) (hx : x = ((i : Nat) : Int)) (hb : B t.mp t.mn t.mc) :
    ∃ a' : Addr, (a = some a' ∧ ((0 : Int) ≤ x ∧ (x < ((n : Nat) : Int) ∧ ∃ p : Option Addr, ∃ m c : Nat, (cellA w0 h ((a'.add k).add 4) = some (Value.slice p m c) ∧ B p m c)))) := by
  obtain ⟨ad, had, hat⟩ := tab_at hr hi
  have := (List.getElem?_eq_some_iff.1 hi).1
  subst hk hx
  exact ⟨ad, had, by omega, by omega, _, _, _, hat 4 _ rfl, hb⟩
def f23_J : Nat → List Nat × Nat := jOf [(3, [0, 1, 4, 5, 6, 7, 8, 10, 11, 12, 13, 17, 18, 19, 20, 21, 22, 23, 24, 25, 26, 27, 28, 29, 30, 31, 32, 33, 34, 35, 36, 37], 0), (6, [0, 1, 4, 5, 6, 7, 8, 10, 12, 13, 17, 18, 19, 20, 21, 22, 23, 24, 25, 26, 27, 28, 29, 30, 32, 33, 34, 35, 36, 37], 1)]

def f23_3 (w0 : World) (K : Value → AH → Prop) (a2 : Option Go.Addr) (n2 : Nat) (c2 : Nat) (a3 : Option Go.Addr) (n3 : Nat) (c3 : Nat) (a9 : Option Go.Addr) (n9 : Nat) (c9 : Nat) (a14 : Option Go.Addr) (n14 : Nat) (c14 : Nat) (x15 : Int) (x16 : Int) (h : AH) : Prop :=
  ∀ j : Nat → Value, LPk Go.Proofs.Try.prog w0 (EvC Go.Proofs.Try.prog w0) f23_J 23 K 3 [.v (j 0), .v (j 1), .v (.slice a2 n2 c2), .v (.slice a3 n3 c3), .v (j 4), .v (j 5), .v (j 6), .v (j 7), .v (j 8), .v (.slice a9 n9 c9), .v (j 10), .v (j 11), .v (j 12), .v (j 13), .v (.slice a14 n14 c14), .v (.int .i64 x15), .v (.int .i64 x16), .v (j 17), .v (j 18), .v (j 19), .v (j 20), .v (j 21), .v (j 22), .v (j 23), .v (j 24), .v (j 25), .v (j 26), .v (j 27), .v (j 28), .v (j 29), .v (j 30), .v (j 31), .v (j 32), .v (j 33), .v (j 34), .v (j 35), .v (j 36), .v (j 37)] [] h

def f23_6 (w0 : World) (K : Value → AH → Prop) (a2 : Option Go.Addr) (n2 : Nat) (c2 : Nat) (a3 : Option Go.Addr) (n3 : Nat) (c3 : Nat) (a9 : Option Go.Addr) (n9 : Nat) (c9 : Nat) (a14 : Option Go.Addr) (n14 : Nat) (c14 : Nat) (x15 : Int) (x16 : Int) (x31 : Bool) (xb0_0 : Int) (xb0_1 : Int) (xb0_2 : Int) (ab0_3 : Option Go.Addr) (nb0_3 : Nat) (cb0_3 : Nat) (ab0_4 : Option Go.Addr) (nb0_4 : Nat) (cb0_4 : Nat) (h : AH) : Prop :=
  ∀ j : Nat → Value, LPk Go.Proofs.Try.prog w0 (EvC Go.Proofs.Try.prog w0) f23_J 23 K 6 [.v (j 0), .v (j 1), .v (.slice a2 n2 c2), .v (.slice a3 n3 c3), .v (j 4), .v (j 5), .v (j 6), .v (j 7), .v (j 8), .v (.slice a9 n9 c9), .v (j 10), .bp 0 0, .v (j 12), .v (j 13), .v (.slice a14 n14 c14), .v (.int .i64 x15), .v (.int .i64 x16), .v (j 17), .v (j 18), .v (j 19), .v (j 20), .v (j 21), .v (j 22), .v (j 23), .v (j 24), .v (j 25), .v (j 26), .v (j 27), .v (j 28), .v (j 29), .v (j 30), .v (.bool x31), .v (j 32), .v (j 33), .v (j 34), .v (j 35), .v (j 36), .v (j 37)] [some [(.int .i64 xb0_0), (.int .i64 xb0_1), (.int .i64 xb0_2), (.slice ab0_3 nb0_3 cb0_3), (.slice ab0_4 nb0_4 cb0_4)]] h

theorem f23_3_in {w0 : World} {K : Value → AH → Prop} (a2 : Option Go.Addr) (n2 : Nat) (c2 : Nat) (a3 : Option Go.Addr) (n3 : Nat) (c3 : Nat) (a9 : Option Go.Addr) (n9 : Nat) (c9 : Nat) (a14 : Option Go.Addr) (n14 : Nat) (c14 : Nat) (x15 : Int) (x16 : Int) (h : AH)
  (hv : (brB (decide ((x16 < x15))) (∃ a'5 : Go.Addr, ((a14 = (some a'5)) ∧ (((0 : Int) ≤ x16) ∧ ((x16 < ((n14 : Nat) : Int)) ∧ (∃ i'6 : Int, (∃ i'7 : Int, (∃ i'8 : Int, (∃ p'9 : Option Go.Addr, (∃ n'10 : Nat, (∃ n'11 : Nat, (∃ p'12 : Option Go.Addr, (∃ n'13 : Nat, (∃ n'14 : Nat, ((((Array.size #[(Go.Value.int .i64 i'6), (Go.Value.int .i64 i'7), (Go.Value.int .i64 i'8), (Go.Value.slice p'9 n'10 n'11), (Go.Value.slice p'12 n'13 n'14)]) = 5) ∧ (At w0 h (Go.Addr.add a'5 ((Int.toNat x16) * 5)) [(Go.Value.int .i64 i'6), (Go.Value.int .i64 i'7), (Go.Value.int .i64 i'8), (Go.Value.slice p'9 n'10 n'11), (Go.Value.slice p'12 n'13 n'14)])) ∧ (EvC Go.Proofs.Try.prog w0 50 #[(Go.Value.slice p'12 n'13 n'14), (Go.Value.slice a2 n2 c2)] (fun x'15 h'16 => (∃ i'17 : Int, ((x'15 = (Go.Value.int .i64 i'17)) ∧ (brB (decide (((0 : Int) ≤ i'17))) (EvC Go.Proofs.Try.prog w0 50 #[(Go.Value.slice p'9 n'10 n'11), (Go.Value.slice a3 n3 c3)] (fun x'18 h'19 => (∃ i'20 : Int, ((x'18 = (Go.Value.int .i64 i'20)) ∧ (f23_6 w0 K a2 n2 c2 a3 n3 c3 a9 n9 c9 a14 n14 c14 x15 x16 (decide ((i'20 ≤ (0 : Int)))) i'6 i'7 i'8 p'9 n'10 n'11 p'12 n'13 n'14 h'19)))) h'16) (f23_6 w0 K a2 n2 c2 a3 n3 c3 a9 n9 c9 a14 n14 c14 x15 x16 false i'6 i'7 i'8 p'9 n'10 n'11 p'12 n'13 n'14 h'16))))) h))))))))))))))) (K (Go.Value.slice a9 n9 c9) h))) :
  f23_3 w0 K a2 n2 c2 a3 n3 c3 a9 n9 c9 a14 n14 c14 x15 x16 h := fun j => LP_intro (P := Go.Proofs.Try.prog) (Eq.mp (by kernel_rfl) hv)

theorem f23_6_in {w0 : World} {K : Value → AH → Prop} (a2 : Option Go.Addr) (n2 : Nat) (c2 : Nat) (a3 : Option Go.Addr) (n3 : Nat) (c3 : Nat) (a9 : Option Go.Addr) (n9 : Nat) (c9 : Nat) (a14 : Option Go.Addr) (n14 : Nat) (c14 : Nat) (x15 : Int) (x16 : Int) (x31 : Bool) (xb0_0 : Int) (xb0_1 : Int) (xb0_2 : Int) (ab0_3 : Option Go.Addr) (nb0_3 : Nat) (cb0_3 : Nat) (ab0_4 : Option Go.Addr) (nb0_4 : Nat) (cb0_4 : Nat) (h : AH)
  (hv : (brB x31 (App w0 h 5 72 a9 n9 c9 1 [(Go.Value.int .i64 xb0_0), (Go.Value.int .i64 xb0_1), (Go.Value.int .i64 xb0_2), (Go.Value.slice ab0_3 nb0_3 cb0_3), (Go.Value.slice ab0_4 nb0_4 cb0_4)] (fun a'21 c'22 h'23 => (f23_3 w0 K a2 n2 c2 a3 n3 c3 a'21 (n9 + 1) c'22 a14 n14 c14 x15 (Go.IntKind.wrap .i64 (x16 + (1 : Int))) h'23))) (f23_3 w0 K a2 n2 c2 a3 n3 c3 a9 n9 c9 a14 n14 c14 x15 (Go.IntKind.wrap .i64 (x16 + (1 : Int))) h))) :
  f23_6 w0 K a2 n2 c2 a3 n3 c3 a9 n9 c9 a14 n14 c14 x15 x16 x31 xb0_0 xb0_1 xb0_2 ab0_3 nb0_3 cb0_3 ab0_4 nb0_4 cb0_4 h := fun j => LP_intro (P := Go.Proofs.Try.prog) (Eq.mp (by kernel_rfl) hv)

theorem f23_go {w0 : World} {K : Value → AH → Prop} (x0_0 : Int) (x0_1 : Int) (x0_2 : Int) (a0_3 : Option Go.Addr) (n0_3 : Nat) (c0_3 : Nat) (x1 : Int) (a2 : Option Go.Addr) (n2 : Nat) (c2 : Nat) (a3 : Option Go.Addr) (n3 : Nat) (c3 : Nat) (h : AH)
  (hv : (EvC Go.Proofs.Try.prog w0 38 #[(Go.Value.agg #[(Go.Value.int .i64 x0_0), (Go.Value.int .i64 x0_1), (Go.Value.int .i64 x0_2), (Go.Value.slice a0_3 n0_3 c0_3)]), (Go.Value.int .i64 x1)] (fun x'0 h'1 => (∃ p'2 : Option Go.Addr, (∃ n'3 : Nat, (∃ n'4 : Nat, ((x'0 = (Go.Value.slice p'2 n'3 n'4)) ∧ (f23_3 w0 K a2 n2 c2 a3 n3 c3 none 0 0 p'2 n'3 n'4 ((n'3 : Nat) : Int) (0 : Int) h'1)))))) h)) :
  EvC Go.Proofs.Try.prog w0 23 ([(.agg #[(.int .i64 x0_0), (.int .i64 x0_1), (.int .i64 x0_2), (.slice a0_3 n0_3 c0_3)]), (.int .i64 x1), (.slice a2 n2 c2), (.slice a3 n3 c3)]).toArray K h := EvC_intro (P := Go.Proofs.Try.prog) f23_J (Eq.mp (by kernel_rfl) hv)
theorem at_dat {ts : List Tab} {x : Int} : (ts.filter fun t => t.lev == x).map Tab.dat = atD (ts.map Tab.dat) x := by rw [atD, List.filter_map]; rfl
theorem ovD_dat {lo mo : List UInt8} {t : Tab} : ovD lo mo t.dat = (decide (0 ≤ cmpL t.mb lo) && decide (cmpL t.lb mo ≤ 0)) := rfl
theorem f23_loop {w0 : World} {K : Value → AH → Prop} {h0 : AH} {a b d : Option Addr} {n c nb cb nd cd : Nat} {us : List Tab} {lo mo : List UInt8} (s : TS w0 h0 a n c us) (hn : n ≤ 1000000)
    (hlo : Rs w0 h0 b (u8s lo)) (hmo : Rs w0 h0 d (u8s mo)) (hnb : nb = lo.length) (hnd : nd = mo.length)
    (hk : ∀ a' n' c' h', Sl w0 h' 5 a' n' c' (tabs (us.filter fun t => ovD lo mo t.dat)) → Ext h0 h' none → New h0 a' → K (.slice a' n' c') h') :
    ∀ (rest : List Tab) (i : Nat) (a3 : Option Addr) (n3 c3 : Nat) (h : AH), us.drop i = rest → i ≤ n → Ext h0 h none → New h0 a3 → Sl w0 h 5 a3 n3 c3 (tabs ((us.take i).filter fun t => ovD lo mo t.dat)) →
      f23_3 w0 K b nb cb d nd cd a3 n3 c3 a n c ((n : Nat) : Int) ((i : Nat) : Int) h := by
  intro rest
  induction rest with
  | nil =>
    intro i a3 n3 c3 h hd hi hx hnew so
    have := drop_done hd
    have hl := s.len
    rw [List.take_of_length_le (by omega)] at so
    exact f23_3_in _ _ _ _ _ _ _ _ _ _ _ _ _ _ _ (brB_of (fun q => by simp at q; omega) fun _ => hk _ _ _ _ so hx hnew)
  | cons t r ih =>
    intro i a3 n3 c3 h hd hi hx hnew so
    obtain ⟨hget, hd', hlt⟩ := drop_step hd
    have hl := s.len
    have hl5 := so.len5
    have := List.length_filter_le (fun t : Tab => ovD lo mo t.dat) (us.take i)
    have : (us.take i).length ≤ i := by simp; omega
    have htake : us.take (i + 1) = us.take i ++ [t] := by rw [List.take_add_one, hget]; rfl
    have o := (s.ext hx).ok t (List.mem_of_getElem? hget)
    have fin : ∀ q : Bool, q = ovD lo mo t.dat → f23_6 w0 K b nb cb d nd cd a3 n3 c3 a n c ((n : Nat) : Int) ((i : Nat) : Int) q t.num t.lev t.siz t.lp t.ln t.lc t.mp t.mn t.mc h := fun q hq => by
      refine f23_6_in _ _ _ _ _ _ _ _ _ _ _ _ _ _ _ _ _ _ _ _ _ _ _ _ _ (brB_of (fun e => ?_) fun e => ?_)
      · refine App_own so (by omega) (by omega) rfl (tabs_cell [t]) fun a' c' h' s' x' f' => ?_
        rw [wrapS (by omega)]
        refine ih (i + 1) a' (n3 + 1) c' h' hd' (by omega) (hx.past hnew x') (hnew.grown hx f') ?_
        rw [htake, List.filter_append, tabs_append, List.filter_cons, if_pos (by rw [← hq, e])]
        exact s'
      · rw [wrapS (by omega)]
        refine ih (i + 1) a3 n3 c3 h hd' (by omega) hx hnew ?_
        rw [htake, List.filter_append, List.filter_cons, if_neg (by rw [← hq, e]; simp)]
        simpa using so
    refine f23_3_in _ _ _ _ _ _ _ _ _ _ _ _ _ _ _ (brB_of (fun _ => tabLoad (s.ext hx).rs.rd s.len hget ?_) fun q => by simp at q; omega)
    refine f50_spec o.mb.rd (hlo.ext hx).rd o.mn hnb ⟨_, rfl, brB_of (fun q => f50_spec o.lb.rd (hmo.ext hx).rd o.ln hnd ⟨_, rfl, fin _ ?_⟩) fun q => fin _ ?_⟩
    · rw [ovD_dat, q, Bool.true_and]
    · rw [ovD_dat, q, Bool.false_and]

/-- level.Overlap. -/
theorem f23_spec {w0 : World} {K : Value → AH → Prop} {h0 : AH} {a b d : Option Addr} {n c nb cb nd cd : Nat} {ts : List Tab} {x l n' sq : Int} {lo mo : List UInt8} (s : TS w0 h0 a n c ts) (hn : n ≤ 1000000)
    (hlo : Rs w0 h0 b (u8s lo)) (hmo : Rs w0 h0 d (u8s mo)) (hnb : nb = lo.length) (hnd : nd = mo.length)
    (hk : ∀ a' n' c' h' ts', Sl w0 h' 5 a' n' c' (tabs ts') → ts'.map Tab.dat = overD (ts.map Tab.dat) x lo mo → (∀ t ∈ ts', t.Ok w0 h') → Ext h0 h' none → New h0 a' → K (.slice a' n' c') h') :
    EvC Go.Proofs.Try.prog w0 23 #[.agg #[.int .i64 l, .int .i64 n', .int .i64 sq, .slice a n c], .int .i64 x, .slice b nb cb, .slice d nd cd] K h0 := by
  refine f23_go _ _ _ _ _ _ _ _ _ _ _ _ _ _ (f38_spec s hn fun a1 n1 c1 h1 us s1 hdat hok x1 new1 => ⟨_, _, _, rfl, ?_⟩)
  have hl5 := s1.len5
  have hlen := congrArg List.length hdat
  simp only [List.length_map] at hlen
  have := List.length_filter_le (fun t : Tab => t.lev == x) ts
  have := s.len
  refine f23_loop (s1.ts (by omega) hok) (by omega) (hlo.ext x1) (hmo.ext x1) hnb hnd (fun a2 n2 c2 h2 s2 x2 new2 => hk _ _ _ _ _ s2 ?_ (fun t ht => (hok t (List.mem_filter.1 ht).1).ext x2) (x1.trans x2) (new2.old x1)) _ 0 none 0 0 h1 rfl (by omega) (Ext.refl _ _) New.none Sl.nil
  rw [filter_dat, hdat, at_dat]; rfl
def f66_J : Nat → List Nat × Nat := jOf [(3, [1, 2, 4, 5, 8, 9, 10, 11, 12, 13, 14, 15, 16, 17, 18, 19, 20, 21, 22, 23, 24, 25, 26, 27], 0)]

def f66_3 (w0 : World) (K : Value → AH → Prop) (a0 : Option Go.Addr) (n0 : Nat) (c0 : Nat) (x3 : Int) (x6 : Int) (x7 : Int) (h : AH) : Prop :=
  ∀ j : Nat → Value, LPk Go.Proofs.Try.prog w0 (EvC Go.Proofs.Try.prog w0) f66_J 66 K 3 [.v (.slice a0 n0 c0), .v (j 1), .v (j 2), .v (.int .i64 x3), .v (j 4), .v (j 5), .v (.int .i64 x6), .v (.int .i64 x7), .v (j 8), .v (j 9), .v (j 10), .v (j 11), .v (j 12), .v (j 13), .v (j 14), .v (j 15), .v (j 16), .v (j 17), .v (j 18), .v (j 19), .v (j 20), .v (j 21), .v (j 22), .v (j 23), .v (j 24), .v (j 25), .v (j 26), .v (j 27)] [] h

theorem f66_3_in {w0 : World} {K : Value → AH → Prop} (a0 : Option Go.Addr) (n0 : Nat) (c0 : Nat) (x3 : Int) (x6 : Int) (x7 : Int) (h : AH)
  (hv : (brB (decide ((x7 < x6))) (∃ a'0 : Go.Addr, ((a0 = (some a'0)) ∧ (((0 : Int) ≤ x7) ∧ ((x7 < ((n0 : Nat) : Int)) ∧ (∃ i'1 : Int, (((Go.G.cellA w0 h (Go.Addr.add (Go.Addr.add a'0 ((Int.toNat x7) * 5)) 0)) = (some (Go.Value.int .i64 i'1))) ∧ (∃ a'2 : Go.Addr, ((a0 = (some a'2)) ∧ (((0 : Int) ≤ x3) ∧ ((x3 < ((n0 : Nat) : Int)) ∧ (∃ i'3 : Int, (((Go.G.cellA w0 h (Go.Addr.add (Go.Addr.add a'2 ((Int.toNat x3) * 5)) 0)) = (some (Go.Value.int .i64 i'3))) ∧ (brB (decide ((i'1 < i'3))) (f66_3 w0 K a0 n0 c0 x7 x6 (Go.IntKind.wrap .i64 (x7 + (1 : Int))) h) (f66_3 w0 K a0 n0 c0 x3 x6 (Go.IntKind.wrap .i64 (x7 + (1 : Int))) h)))))))))))))) (((0 : Int) ≤ x3) ∧ ((x3 ≤ (Go.IntKind.wrap .i64 (x3 + (1 : Int)))) ∧ (((Go.IntKind.wrap .i64 (x3 + (1 : Int))) ≤ ((c0 : Nat) : Int)) ∧ (K (Go.Value.slice (Go.G.cutA 5 a0 c0 (Int.toNat x3)) ((Int.toNat (Go.IntKind.wrap .i64 (x3 + (1 : Int)))) - (Int.toNat x3)) (c0 - (Int.toNat x3))) h)))))) :
  f66_3 w0 K a0 n0 c0 x3 x6 x7 h := fun j => LP_intro (P := Go.Proofs.Try.prog) (Eq.mp (by kernel_rfl) hv)

theorem f66_go {w0 : World} {K : Value → AH → Prop} (a0 : Option Go.Addr) (n0 : Nat) (c0 : Nat) (h : AH)
  (hv : (f66_3 w0 K a0 n0 c0 (0 : Int) ((n0 : Nat) : Int) (0 : Int) h)) :
  EvC Go.Proofs.Try.prog w0 66 ([(.slice a0 n0 c0)]).toArray K h := EvC_intro (P := Go.Proofs.Try.prog) f66_J (Eq.mp (by kernel_rfl) hv)
theorem f66_loop {w0 : World} {K : Value → AH → Prop} {h : AH} {a : Option Addr} {n c : Nat} {us : List Tab} (s : TS w0 h a n c us) {d : Dat}
    (hk : ∀ i t, us[i]? = some t → t.dat = d → K (.slice (cutA 5 a c i) 1 (c - i)) h) :
    ∀ (rest : List Tab) (i b : Nat) (t : Tab), us.drop i = rest → i ≤ n → us[b]? = some t → d = leastD t.dat (rest.map Tab.dat) → f66_3 w0 K a n c ((b : Nat) : Int) ((n : Nat) : Int) ((i : Nat) : Int) h := by
  have hl := s.len
  have hsm := s.sm
  have hcap := s.cap
  intro rest
  induction rest with
  | nil =>
    intro i b t hd hi hb he
    have := drop_done hd
    have hbl := (List.getElem?_eq_some_iff.1 hb).1
    refine f66_3_in _ _ _ _ _ _ _ (brB_of (fun q => by simp at q; omega) fun _ => ?_)
    rw [wrapS (by omega), Int.toNat_natCast, Int.toNat_natCast, show b + 1 - b = 1 by omega]
    exact ⟨by omega, by omega, by omega, hk b t hb he.symm⟩
  | cons u r ih =>
    intro i b t hd hi hb he
    obtain ⟨hget, hd', hlt⟩ := drop_step hd
    refine f66_3_in _ _ _ _ _ _ _ (brB_of (fun _ => numLoad s.rs.rd hl hget (by simp) rfl (numLoad s.rs.rd hl hb (by simp) rfl (brB_of (fun q => ?_) fun q => ?_))) fun q => by simp at q; omega)
    all_goals rw [wrapS (by omega)]
    · refine ih (i + 1) i u hd' (by omega) hget ?_
      rw [he, List.map_cons, leastD, if_pos (by simpa [Dat.num, Tab.dat] using q)]
    · refine ih (i + 1) b t hd' (by omega) hb ?_
      rw [he, List.map_cons, leastD, if_neg (by simpa [Dat.num, Tab.dat] using q)]

/-- pick.first. -/
theorem f66_spec {w0 : World} {K : Value → AH → Prop} {h : AH} {a : Option Addr} {n c : Nat} {us : List Tab} {u0 : Tab} (s : TS w0 h a n c us) (h0 : us[0]? = some u0)
    (hk : ∀ i t, us[i]? = some t → t.dat = leastD u0.dat (us.map Tab.dat) → K (.slice (cutA 5 a c i) 1 (c - i)) h) : EvC Go.Proofs.Try.prog w0 66 #[.slice a n c] K h :=
  f66_go _ _ _ _ (f66_loop s hk us 0 0 u0 rfl (by omega) h0 rfl)
def f49_J : Nat → List Nat × Nat := jOf [(4, [0, 3, 6, 7, 8, 9, 10, 11, 12, 13, 14, 15, 16, 17, 18, 19, 20, 21, 22, 23, 24, 25, 26, 27, 28, 29, 30, 31, 32, 33, 34, 35, 36, 37, 38, 39, 40, 41, 42, 43, 44, 45, 46, 47, 48, 49, 50, 51, 52, 53, 54, 55, 56, 57, 58, 59, 60, 61, 62, 63, 64, 65, 66, 67, 68, 69, 70, 71, 72, 73, 74, 75, 76, 77, 78, 79], 2), (7, [0, 3, 5, 9, 10, 11, 12, 13, 14, 15, 16, 17, 18, 19, 20, 21, 22, 23, 24, 25, 26, 27, 28, 29, 30, 31, 35, 36, 37, 38, 39, 40, 41, 42, 43, 44, 45, 46, 47, 48, 49, 50, 51, 52, 53, 54, 55, 56, 57, 58, 59, 60, 61, 62, 63, 64, 65, 66, 67, 68, 69, 70, 71, 72, 73, 74, 75, 76, 77, 78, 79], 3), (11, [0, 3, 5, 9, 11, 12, 13, 14, 15, 16, 17, 18, 19, 20, 21, 22, 23, 24, 25, 26, 27, 28, 29, 30, 31, 35, 36, 37, 38, 39, 40, 41, 42, 43, 44, 45, 46, 47, 48, 49, 50, 51, 52, 53, 54, 55, 56, 57, 58, 59, 60, 61, 62, 63, 64, 65, 66, 67, 68, 69, 70, 71, 72, 73, 74, 75, 76, 77, 78, 79], 4), (16, [0, 1, 2, 3, 5, 6, 7, 9, 10, 11, 12, 13, 14, 15, 16, 17, 18, 19, 20, 21, 22, 23, 24, 25, 26, 27, 28, 29, 30, 31, 32, 33, 34, 35, 36, 37, 38, 39, 40, 41, 42, 43, 44, 45, 46, 47, 48, 49, 50, 51, 52, 53, 54, 55, 56, 57, 58, 59, 60, 61, 62, 63, 64, 68, 69, 70, 71, 72, 73, 74, 75, 76, 77, 78, 79], 3)]

def f49_4 (w0 : World) (K : Value → AH → Prop) (x1 : Int) (a5 : Option Go.Addr) (n5 : Nat) (c5 : Nat) (xb0_0 : Int) (xb0_1 : Int) (xb0_2 : Int) (ab0_3 : Option Go.Addr) (nb0_3 : Nat) (cb0_3 : Nat) (xb1_0 : Int) (xb1_1 : Int) (ab1_2 : Option Go.Addr) (nb1_2 : Nat) (cb1_2 : Nat) (h : AH) : Prop :=
  ∀ j : Nat → Value, LPk Go.Proofs.Try.prog w0 (EvC Go.Proofs.Try.prog w0) f49_J 49 K 4 [.v (j 0), .v (.int .i64 x1), .bp 0 0, .v (j 3), .bp 1 0, .v (.slice a5 n5 c5), .v (j 6), .v (j 7), .v (j 8), .v (j 9), .v (j 10), .v (j 11), .v (j 12), .v (j 13), .v (j 14), .v (j 15), .v (j 16), .v (j 17), .v (j 18), .v (j 19), .v (j 20), .v (j 21), .v (j 22), .v (j 23), .v (j 24), .v (j 25), .v (j 26), .v (j 27), .v (j 28), .v (j 29), .v (j 30), .v (j 31), .v (j 32), .v (j 33), .v (j 34), .v (j 35), .v (j 36), .v (j 37), .v (j 38), .v (j 39), .v (j 40), .v (j 41), .v (j 42), .v (j 43), .v (j 44), .v (j 45), .v (j 46), .v (j 47), .v (j 48), .v (j 49), .v (j 50), .v (j 51), .v (j 52), .v (j 53), .v (j 54), .v (j 55), .v (j 56), .v (j 57), .v (j 58), .v (j 59), .v (j 60), .v (j 61), .v (j 62), .v (j 63), .v (j 64), .v (j 65), .v (j 66), .v (j 67), .v (j 68), .v (j 69), .v (j 70), .v (j 71), .v (j 72), .v (j 73), .v (j 74), .v (j 75), .v (j 76), .v (j 77), .v (j 78), .v (j 79)] [some [(.int .i64 xb0_0), (.int .i64 xb0_1), (.int .i64 xb0_2), (.slice ab0_3 nb0_3 cb0_3)], some [(.int .i64 xb1_0), (.int .i64 xb1_1), (.slice ab1_2 nb1_2 cb1_2)]] h

def f49_7 (w0 : World) (K : Value → AH → Prop) (x1 : Int) (a6 : Option Go.Addr) (n6 : Nat) (c6 : Nat) (a7 : Option Go.Addr) (n7 : Nat) (c7 : Nat) (a32 : Option Go.Addr) (n32 : Nat) (c32 : Nat) (x33 : Int) (x34 : Int) (xb0_0 : Int) (xb0_1 : Int) (xb0_2 : Int) (ab0_3 : Option Go.Addr) (nb0_3 : Nat) (cb0_3 : Nat) (xb1_0 : Int) (xb1_1 : Int) (ab1_2 : Option Go.Addr) (nb1_2 : Nat) (cb1_2 : Nat) (xb2_0 : Int) (xb2_1 : Int) (ab2_2 : Option Go.Addr) (nb2_2 : Nat) (cb2_2 : Nat) (h : AH) : Prop :=
  ∀ j : Nat → Value, LPk Go.Proofs.Try.prog w0 (EvC Go.Proofs.Try.prog w0) f49_J 49 K 7 [.v (j 0), .v (.int .i64 x1), .bp 0 0, .v (j 3), .bp 1 0, .v (j 5), .v (.slice a6 n6 c6), .v (.slice a7 n7 c7), .bp 2 0, .v (j 9), .v (j 10), .v (j 11), .v (j 12), .v (j 13), .v (j 14), .v (j 15), .v (j 16), .v (j 17), .v (j 18), .v (j 19), .v (j 20), .v (j 21), .v (j 22), .v (j 23), .v (j 24), .v (j 25), .v (j 26), .v (j 27), .v (j 28), .v (j 29), .v (j 30), .v (j 31), .v (.slice a32 n32 c32), .v (.int .i64 x33), .v (.int .i64 x34), .v (j 35), .v (j 36), .v (j 37), .v (j 38), .v (j 39), .v (j 40), .v (j 41), .v (j 42), .v (j 43), .v (j 44), .v (j 45), .v (j 46), .v (j 47), .v (j 48), .v (j 49), .v (j 50), .v (j 51), .v (j 52), .v (j 53), .v (j 54), .v (j 55), .v (j 56), .v (j 57), .v (j 58), .v (j 59), .v (j 60), .v (j 61), .v (j 62), .v (j 63), .v (j 64), .v (j 65), .v (j 66), .v (j 67), .v (j 68), .v (j 69), .v (j 70), .v (j 71), .v (j 72), .v (j 73), .v (j 74), .v (j 75), .v (j 76), .v (j 77), .v (j 78), .v (j 79)] [some [(.int .i64 xb0_0), (.int .i64 xb0_1), (.int .i64 xb0_2), (.slice ab0_3 nb0_3 cb0_3)], some [(.int .i64 xb1_0), (.int .i64 xb1_1), (.slice ab1_2 nb1_2 cb1_2)], some [(.int .i64 xb2_0), (.int .i64 xb2_1), (.slice ab2_2 nb2_2 cb2_2)]] h

def f49_11 (w0 : World) (K : Value → AH → Prop) (x1 : Int) (a6 : Option Go.Addr) (n6 : Nat) (c6 : Nat) (a7 : Option Go.Addr) (n7 : Nat) (c7 : Nat) (a32 : Option Go.Addr) (n32 : Nat) (c32 : Nat) (x33 : Int) (x34 : Int) (xb0_0 : Int) (xb0_1 : Int) (xb0_2 : Int) (ab0_3 : Option Go.Addr) (nb0_3 : Nat) (cb0_3 : Nat) (xb1_0 : Int) (xb1_1 : Int) (ab1_2 : Option Go.Addr) (nb1_2 : Nat) (cb1_2 : Nat) (xb2_0 : Int) (xb2_1 : Int) (ab2_2 : Option Go.Addr) (nb2_2 : Nat) (cb2_2 : Nat) (xb3_0 : Int) (xb3_1 : Int) (xb3_2 : Int) (ab3_3 : Option Go.Addr) (nb3_3 : Nat) (cb3_3 : Nat) (ab3_4 : Option Go.Addr) (nb3_4 : Nat) (cb3_4 : Nat) (h : AH) : Prop :=
  ∀ j : Nat → Value, LPk Go.Proofs.Try.prog w0 (EvC Go.Proofs.Try.prog w0) f49_J 49 K 11 [.v (j 0), .v (.int .i64 x1), .bp 0 0, .v (j 3), .bp 1 0, .v (j 5), .v (.slice a6 n6 c6), .v (.slice a7 n7 c7), .bp 2 0, .v (j 9), .bp 3 0, .v (j 11), .v (j 12), .v (j 13), .v (j 14), .v (j 15), .v (j 16), .v (j 17), .v (j 18), .v (j 19), .v (j 20), .v (j 21), .v (j 22), .v (j 23), .v (j 24), .v (j 25), .v (j 26), .v (j 27), .v (j 28), .v (j 29), .v (j 30), .v (j 31), .v (.slice a32 n32 c32), .v (.int .i64 x33), .v (.int .i64 x34), .v (j 35), .v (j 36), .v (j 37), .v (j 38), .v (j 39), .v (j 40), .v (j 41), .v (j 42), .v (j 43), .v (j 44), .v (j 45), .v (j 46), .v (j 47), .v (j 48), .v (j 49), .v (j 50), .v (j 51), .v (j 52), .v (j 53), .v (j 54), .v (j 55), .v (j 56), .v (j 57), .v (j 58), .v (j 59), .v (j 60), .v (j 61), .v (j 62), .v (j 63), .v (j 64), .v (j 65), .v (j 66), .v (j 67), .v (j 68), .v (j 69), .v (j 70), .v (j 71), .v (j 72), .v (j 73), .v (j 74), .v (j 75), .v (j 76), .v (j 77), .v (j 78), .v (j 79)] [some [(.int .i64 xb0_0), (.int .i64 xb0_1), (.int .i64 xb0_2), (.slice ab0_3 nb0_3 cb0_3)], some [(.int .i64 xb1_0), (.int .i64 xb1_1), (.slice ab1_2 nb1_2 cb1_2)], some [(.int .i64 xb2_0), (.int .i64 xb2_1), (.slice ab2_2 nb2_2 cb2_2)], some [(.int .i64 xb3_0), (.int .i64 xb3_1), (.int .i64 xb3_2), (.slice ab3_3 nb3_3 cb3_3), (.slice ab3_4 nb3_4 cb3_4)]] h

def f49_16 (w0 : World) (K : Value → AH → Prop) (a65 : Option Go.Addr) (n65 : Nat) (c65 : Nat) (x66 : Int) (x67 : Int) (xb0_0 : Int) (xb0_1 : Int) (xb0_2 : Int) (ab0_3 : Option Go.Addr) (nb0_3 : Nat) (cb0_3 : Nat) (xb1_0 : Int) (xb1_1 : Int) (ab1_2 : Option Go.Addr) (nb1_2 : Nat) (cb1_2 : Nat) (xb2_0 : Int) (xb2_1 : Int) (ab2_2 : Option Go.Addr) (nb2_2 : Nat) (cb2_2 : Nat) (h : AH) : Prop :=
  ∀ j : Nat → Value, LPk Go.Proofs.Try.prog w0 (EvC Go.Proofs.Try.prog w0) f49_J 49 K 16 [.v (j 0), .v (j 1), .v (j 2), .v (j 3), .bp 1 0, .v (j 5), .v (j 6), .v (j 7), .bp 2 0, .v (j 9), .v (j 10), .v (j 11), .v (j 12), .v (j 13), .v (j 14), .v (j 15), .v (j 16), .v (j 17), .v (j 18), .v (j 19), .v (j 20), .v (j 21), .v (j 22), .v (j 23), .v (j 24), .v (j 25), .v (j 26), .v (j 27), .v (j 28), .v (j 29), .v (j 30), .v (j 31), .v (j 32), .v (j 33), .v (j 34), .v (j 35), .v (j 36), .v (j 37), .v (j 38), .v (j 39), .v (j 40), .v (j 41), .v (j 42), .v (j 43), .v (j 44), .v (j 45), .v (j 46), .v (j 47), .v (j 48), .v (j 49), .v (j 50), .v (j 51), .v (j 52), .v (j 53), .v (j 54), .v (j 55), .v (j 56), .v (j 57), .v (j 58), .v (j 59), .v (j 60), .v (j 61), .v (j 62), .v (j 63), .v (j 64), .v (.slice a65 n65 c65), .v (.int .i64 x66), .v (.int .i64 x67), .v (j 68), .v (j 69), .v (j 70), .v (j 71), .v (j 72), .v (j 73), .v (j 74), .v (j 75), .v (j 76), .v (j 77), .v (j 78), .v (j 79)] [some [(.int .i64 xb0_0), (.int .i64 xb0_1), (.int .i64 xb0_2), (.slice ab0_3 nb0_3 cb0_3)], some [(.int .i64 xb1_0), (.int .i64 xb1_1), (.slice ab1_2 nb1_2 cb1_2)], some [(.int .i64 xb2_0), (.int .i64 xb2_1), (.slice ab2_2 nb2_2 cb2_2)]] h

theorem f49_4_in {w0 : World} {K : Value → AH → Prop} (x1 : Int) (a5 : Option Go.Addr) (n5 : Nat) (c5 : Nat) (xb0_0 : Int) (xb0_1 : Int) (xb0_2 : Int) (ab0_3 : Option Go.Addr) (nb0_3 : Nat) (cb0_3 : Nat) (xb1_0 : Int) (xb1_1 : Int) (ab1_2 : Option Go.Addr) (nb1_2 : Nat) (cb1_2 : Nat) (h : AH)
  (hv : (∃ a'10 : Go.Addr, ((a5 = (some a'10)) ∧ (((0 : Int) ≤ (0 : Int)) ∧ (((0 : Int) < ((n5 : Nat) : Int)) ∧ (∃ p'11 : Option Go.Addr, (∃ n'12 : Nat, (∃ n'13 : Nat, (((Go.G.cellA w0 h (Go.Addr.add (Go.Addr.add a'10 0) 3)) = (some (Go.Value.slice p'11 n'12 n'13))) ∧ (∃ a'14 : Go.Addr, ((a5 = (some a'14)) ∧ (((0 : Int) ≤ (0 : Int)) ∧ (((0 : Int) < ((n5 : Nat) : Int)) ∧ (∃ p'15 : Option Go.Addr, (∃ n'16 : Nat, (∃ n'17 : Nat, (((Go.G.cellA w0 h (Go.Addr.add (Go.Addr.add a'14 0) 4)) = (some (Go.Value.slice p'15 n'16 n'17))) ∧ (f49_7 w0 K x1 p'11 n'12 n'13 p'15 n'16 n'17 a5 n5 c5 ((n5 : Nat) : Int) (0 : Int) xb0_0 xb0_1 xb0_2 ab0_3 nb0_3 cb0_3 xb1_0 xb1_1 ab1_2 nb1_2 cb1_2 x1 (Go.IntKind.wrap .i64 (x1 + (1 : Int))) none 0 0 h)))))))))))))))))) :
  f49_4 w0 K x1 a5 n5 c5 xb0_0 xb0_1 xb0_2 ab0_3 nb0_3 cb0_3 xb1_0 xb1_1 ab1_2 nb1_2 cb1_2 h := fun j => LP_intro (P := Go.Proofs.Try.prog) (Eq.mp (by kernel_rfl) hv)

theorem f49_7_in {w0 : World} {K : Value → AH → Prop} (x1 : Int) (a6 : Option Go.Addr) (n6 : Nat) (c6 : Nat) (a7 : Option Go.Addr) (n7 : Nat) (c7 : Nat) (a32 : Option Go.Addr) (n32 : Nat) (c32 : Nat) (x33 : Int) (x34 : Int) (xb0_0 : Int) (xb0_1 : Int) (xb0_2 : Int) (ab0_3 : Option Go.Addr) (nb0_3 : Nat) (cb0_3 : Nat) (xb1_0 : Int) (xb1_1 : Int) (ab1_2 : Option Go.Addr) (nb1_2 : Nat) (cb1_2 : Nat) (xb2_0 : Int) (xb2_1 : Int) (ab2_2 : Option Go.Addr) (nb2_2 : Nat) (cb2_2 : Nat) (h : AH)
  (hv : (brB (decide ((x34 < x33))) (∃ a'18 : Go.Addr, ((a32 = (some a'18)) ∧ (((0 : Int) ≤ x34) ∧ ((x34 < ((n32 : Nat) : Int)) ∧ (∃ i'19 : Int, (∃ i'20 : Int, (∃ i'21 : Int, (∃ p'22 : Option Go.Addr, (∃ n'23 : Nat, (∃ n'24 : Nat, (∃ p'25 : Option Go.Addr, (∃ n'26 : Nat, (∃ n'27 : Nat, ((((Array.size #[(Go.Value.int .i64 i'19), (Go.Value.int .i64 i'20), (Go.Value.int .i64 i'21), (Go.Value.slice p'22 n'23 n'24), (Go.Value.slice p'25 n'26 n'27)]) = 5) ∧ (At w0 h (Go.Addr.add a'18 ((Int.toNat x34) * 5)) [(Go.Value.int .i64 i'19), (Go.Value.int .i64 i'20), (Go.Value.int .i64 i'21), (Go.Value.slice p'22 n'23 n'24), (Go.Value.slice p'25 n'26 n'27)])) ∧ (EvC Go.Proofs.Try.prog w0 50 #[(Go.Value.slice p'22 n'23 n'24), (Go.Value.slice a6 n6 c6)] (fun x'28 h'29 => (∃ i'30 : Int, ((x'28 = (Go.Value.int .i64 i'30)) ∧ (brB (decide ((i'30 < (0 : Int)))) (f49_11 w0 K x1 p'22 n'23 n'24 a7 n7 c7 a32 n32 c32 x33 x34 xb0_0 xb0_1 xb0_2 ab0_3 nb0_3 cb0_3 xb1_0 xb1_1 ab1_2 nb1_2 cb1_2 xb2_0 xb2_1 ab2_2 nb2_2 cb2_2 i'19 i'20 i'21 p'22 n'23 n'24 p'25 n'26 n'27 h'29) (f49_11 w0 K x1 a6 n6 c6 a7 n7 c7 a32 n32 c32 x33 x34 xb0_0 xb0_1 xb0_2 ab0_3 nb0_3 cb0_3 xb1_0 xb1_1 ab1_2 nb1_2 cb1_2 xb2_0 xb2_1 ab2_2 nb2_2 cb2_2 i'19 i'20 i'21 p'22 n'23 n'24 p'25 n'26 n'27 h'29))))) h))))))))))))))) (EvC Go.Proofs.Try.prog w0 23 #[(Go.Value.agg #[(Go.Value.int .i64 xb0_0), (Go.Value.int .i64 xb0_1), (Go.Value.int .i64 xb0_2), (Go.Value.slice ab0_3 nb0_3 cb0_3)]), (Go.Value.int .i64 (Go.IntKind.wrap .i64 (x1 + (1 : Int)))), (Go.Value.slice a6 n6 c6), (Go.Value.slice a7 n7 c7)] (fun x'31 h'32 => (∃ p'33 : Option Go.Addr, (∃ n'34 : Nat, (∃ n'35 : Nat, ((x'31 = (Go.Value.slice p'33 n'34 n'35)) ∧ (f49_16 w0 K p'33 n'34 n'35 ((n'34 : Nat) : Int) (0 : Int) xb0_0 xb0_1 xb0_2 ab0_3 nb0_3 cb0_3 xb1_0 xb1_1 ab1_2 nb1_2 cb1_2 xb2_0 xb2_1 ab2_2 nb2_2 cb2_2 h'32)))))) h))) :
  f49_7 w0 K x1 a6 n6 c6 a7 n7 c7 a32 n32 c32 x33 x34 xb0_0 xb0_1 xb0_2 ab0_3 nb0_3 cb0_3 xb1_0 xb1_1 ab1_2 nb1_2 cb1_2 xb2_0 xb2_1 ab2_2 nb2_2 cb2_2 h := fun j => LP_intro (P := Go.Proofs.Try.prog) (Eq.mp (by kernel_rfl) hv)

theorem f49_11_in {w0 : World} {K : Value → AH → Prop} (x1 : Int) (a6 : Option Go.Addr) (n6 : Nat) (c6 : Nat) (a7 : Option Go.Addr) (n7 : Nat) (c7 : Nat) (a32 : Option Go.Addr) (n32 : Nat) (c32 : Nat) (x33 : Int) (x34 : Int) (xb0_0 : Int) (xb0_1 : Int) (xb0_2 : Int) (ab0_3 : Option Go.Addr) (nb0_3 : Nat) (cb0_3 : Nat) (xb1_0 : Int) (xb1_1 : Int) (ab1_2 : Option Go.Addr) (nb1_2 : Nat) (cb1_2 : Nat) (xb2_0 : Int) (xb2_1 : Int) (ab2_2 : Option Go.Addr) (nb2_2 : Nat) (cb2_2 : Nat) (xb3_0 : Int) (xb3_1 : Int) (xb3_2 : Int) (ab3_3 : Option Go.Addr) (nb3_3 : Nat) (cb3_3 : Nat) (ab3_4 : Option Go.Addr) (nb3_4 : Nat) (cb3_4 : Nat) (h : AH)
  (hv : (EvC Go.Proofs.Try.prog w0 50 #[(Go.Value.slice ab3_4 nb3_4 cb3_4), (Go.Value.slice a7 n7 c7)] (fun x'36 h'37 => (∃ i'38 : Int, ((x'36 = (Go.Value.int .i64 i'38)) ∧ (brB (decide (((0 : Int) < i'38))) (App w0 h'37 1 8 ab2_2 nb2_2 cb2_2 1 [(Go.Value.int .i64 xb3_0)] (fun a'39 c'40 h'41 => (f49_7 w0 K x1 a6 n6 c6 ab3_4 nb3_4 cb3_4 a32 n32 c32 x33 (Go.IntKind.wrap .i64 (x34 + (1 : Int))) xb0_0 xb0_1 xb0_2 ab0_3 nb0_3 cb0_3 xb1_0 xb1_1 ab1_2 nb1_2 cb1_2 xb2_0 xb2_1 a'39 (nb2_2 + 1) c'40 h'41))) (App w0 h'37 1 8 ab2_2 nb2_2 cb2_2 1 [(Go.Value.int .i64 xb3_0)] (fun a'42 c'43 h'44 => (f49_7 w0 K x1 a6 n6 c6 a7 n7 c7 a32 n32 c32 x33 (Go.IntKind.wrap .i64 (x34 + (1 : Int))) xb0_0 xb0_1 xb0_2 ab0_3 nb0_3 cb0_3 xb1_0 xb1_1 ab1_2 nb1_2 cb1_2 xb2_0 xb2_1 a'42 (nb2_2 + 1) c'43 h'44))))))) h)) :
  f49_11 w0 K x1 a6 n6 c6 a7 n7 c7 a32 n32 c32 x33 x34 xb0_0 xb0_1 xb0_2 ab0_3 nb0_3 cb0_3 xb1_0 xb1_1 ab1_2 nb1_2 cb1_2 xb2_0 xb2_1 ab2_2 nb2_2 cb2_2 xb3_0 xb3_1 xb3_2 ab3_3 nb3_3 cb3_3 ab3_4 nb3_4 cb3_4 h := fun j => LP_intro (P := Go.Proofs.Try.prog) (Eq.mp (by kernel_rfl) hv)

theorem f49_16_in {w0 : World} {K : Value → AH → Prop} (a65 : Option Go.Addr) (n65 : Nat) (c65 : Nat) (x66 : Int) (x67 : Int) (xb0_0 : Int) (xb0_1 : Int) (xb0_2 : Int) (ab0_3 : Option Go.Addr) (nb0_3 : Nat) (cb0_3 : Nat) (xb1_0 : Int) (xb1_1 : Int) (ab1_2 : Option Go.Addr) (nb1_2 : Nat) (cb1_2 : Nat) (xb2_0 : Int) (xb2_1 : Int) (ab2_2 : Option Go.Addr) (nb2_2 : Nat) (cb2_2 : Nat) (h : AH)
  (hv : (brB (decide ((x67 < x66))) (∃ a'45 : Go.Addr, ((a65 = (some a'45)) ∧ (((0 : Int) ≤ x67) ∧ ((x67 < ((n65 : Nat) : Int)) ∧ (∃ i'46 : Int, (∃ i'47 : Int, (∃ i'48 : Int, (∃ p'49 : Option Go.Addr, (∃ n'50 : Nat, (∃ n'51 : Nat, (∃ p'52 : Option Go.Addr, (∃ n'53 : Nat, (∃ n'54 : Nat, ((((Array.size #[(Go.Value.int .i64 i'46), (Go.Value.int .i64 i'47), (Go.Value.int .i64 i'48), (Go.Value.slice p'49 n'50 n'51), (Go.Value.slice p'52 n'53 n'54)]) = 5) ∧ (At w0 h (Go.Addr.add a'45 ((Int.toNat x67) * 5)) [(Go.Value.int .i64 i'46), (Go.Value.int .i64 i'47), (Go.Value.int .i64 i'48), (Go.Value.slice p'49 n'50 n'51), (Go.Value.slice p'52 n'53 n'54)])) ∧ (App w0 h 1 8 ab2_2 nb2_2 cb2_2 1 [(Go.Value.int .i64 i'46)] (fun a'55 c'56 h'57 => (f49_16 w0 K a65 n65 c65 x66 (Go.IntKind.wrap .i64 (x67 + (1 : Int))) xb0_0 xb0_1 xb0_2 ab0_3 nb0_3 cb0_3 xb1_0 xb1_1 ab1_2 nb1_2 cb1_2 xb2_0 xb2_1 a'55 (nb2_2 + 1) c'56 h'57))))))))))))))))) (K (Go.Value.agg #[(Go.Value.int .i64 xb2_0), (Go.Value.int .i64 xb2_1), (Go.Value.slice ab2_2 nb2_2 cb2_2)]) h))) :
  f49_16 w0 K a65 n65 c65 x66 x67 xb0_0 xb0_1 xb0_2 ab0_3 nb0_3 cb0_3 xb1_0 xb1_1 ab1_2 nb1_2 cb1_2 xb2_0 xb2_1 ab2_2 nb2_2 cb2_2 h := fun j => LP_intro (P := Go.Proofs.Try.prog) (Eq.mp (by kernel_rfl) hv)

theorem f49_go {w0 : World} {K : Value → AH → Prop} (x0_0 : Int) (x0_1 : Int) (x0_2 : Int) (a0_3 : Option Go.Addr) (n0_3 : Nat) (c0_3 : Nat) (x1 : Int) (h : AH)
  (hv : (EvC Go.Proofs.Try.prog w0 38 #[(Go.Value.agg #[(Go.Value.int .i64 x0_0), (Go.Value.int .i64 x0_1), (Go.Value.int .i64 x0_2), (Go.Value.slice a0_3 n0_3 c0_3)]), (Go.Value.int .i64 x1)] (fun x'0 h'1 => (∃ p'2 : Option Go.Addr, (∃ n'3 : Nat, (∃ n'4 : Nat, ((x'0 = (Go.Value.slice p'2 n'3 n'4)) ∧ (brB (decide (((0 : Int) < x1))) (EvC Go.Proofs.Try.prog w0 66 #[(Go.Value.slice p'2 n'3 n'4)] (fun x'5 h'6 => (∃ p'7 : Option Go.Addr, (∃ n'8 : Nat, (∃ n'9 : Nat, ((x'5 = (Go.Value.slice p'7 n'8 n'9)) ∧ (f49_4 w0 K x1 p'7 n'8 n'9 x0_0 x0_1 x0_2 a0_3 n0_3 c0_3 (0 : Int) (0 : Int) none 0 0 h'6)))))) h'1) (f49_4 w0 K x1 p'2 n'3 n'4 x0_0 x0_1 x0_2 a0_3 n0_3 c0_3 (0 : Int) (0 : Int) none 0 0 h'1))))))) h)) :
  EvC Go.Proofs.Try.prog w0 49 ([(.agg #[(.int .i64 x0_0), (.int .i64 x0_1), (.int .i64 x0_2), (.slice a0_3 n0_3 c0_3)]), (.int .i64 x1)]).toArray K h := EvC_intro (P := Go.Proofs.Try.prog) f49_J (Eq.mp (by kernel_rfl) hv)
section
variable {w0 : World} {K : Value → AH → Prop} {h1 : AH} {av a5 : Option Addr} {nv cv n5 c5 : Nat} {ts us : List Tab} {lo nx sq x x' : Int} {nums : List Int}

theorem f49_16_ok (hx' : x' = x + 1) (hk : ∀ a n c h', Sl w0 h' 1 a n c (ints nums) → Ext h1 h' none → K (.agg #[.int .i64 x, .int .i64 x', .slice a n c]) h') {a6 : Option Addr} {n6 c6 : Nat} {us2 : List Tab} (hn6 : n6 ≤ 1000000) {y0 y1 : Int} {y2 : Option Addr} {y3 y4 : Nat} {pre : List Int}
    (hpre : pre.length ≤ 1000000) (hnums : nums = pre ++ us2.map Tab.num) :
    ∀ (rest : List Tab) (i : Nat) (a2 : Option Addr) (n2 c2 : Nat) (h : AH), us2.drop i = rest → i ≤ n6 → n6 = us2.length → Ext h1 h none → New h1 a2 → Sl w0 h 1 a2 n2 c2 (ints (pre ++ (us2.take i).map Tab.num)) → Stay (fun h => Sl w0 h 5 a6 n6 c6 (tabs us2)) h a2 →
      f49_16 w0 K a6 n6 c6 ((n6 : Nat) : Int) ((i : Nat) : Int) lo nx sq av nv cv y0 y1 y2 y3 y4 x x' a2 n2 c2 h := by
  intro rest
  induction rest with
  | nil =>
    intro i a2 n2 c2 h hd hi hl hx hnew so st
    have := drop_done hd
    rw [List.take_of_length_le (by omega), ← hnums] at so
    exact f49_16_in _ _ _ _ _ _ _ _ _ _ _ _ _ _ _ _ _ _ _ _ _ _ (brB_of (fun q => by simp at q; omega) fun _ => hk _ _ _ _ so hx)
  | cons t r ih =>
    intro i a2 n2 c2 h hd hi hl hx hnew so st
    obtain ⟨hget, hd', hlt⟩ := drop_step hd
    have hn2 : n2 = pre.length + i := by have := so.1; simp [ints] at this; omega
    have htake : us2.take (i + 1) = us2.take i ++ [t] := by rw [List.take_add_one, hget]; rfl
    refine f49_16_in _ _ _ _ _ _ _ _ _ _ _ _ _ _ _ _ _ _ _ _ _ _ (brB_of (fun _ => tabLoad st.now.rd hl hget ?_) fun q => by simp at q; omega)
    refine App_own so (by omega) (by omega) rfl (ints_cell [t.num]) fun a' c' h' s' x1 f' => ?_
    rw [wrapS (by omega)]
    refine ih (i + 1) a' (n2 + 1) c' h' hd' (by omega) hl (hx.past hnew x1) (hnew.grown hx f') ?_ (st.grow (Ext.refl _ _) x1 f')
    have : ints (pre ++ (us2.take (i + 1)).map Tab.num) = ints (pre ++ (us2.take i).map Tab.num) ++ [.int .i64 t.num] := by rw [htake]; simp [ints]
    rw [this]; exact s'

theorem f49_7_ok (hx' : x' = x + 1) (hr : 0 ≤ x ∧ x ≤ 4) (hk : ∀ a n c h', Sl w0 h' 1 a n c (ints nums) → Ext h1 h' none → K (.agg #[.int .i64 x, .int .i64 x', .slice a n c]) h')
    (s : TS w0 h1 a5 n5 c5 us) (hn5 : n5 ≤ 1000000) (sv : TS w0 h1 av nv cv ts) (hnv : nv ≤ 1000000) {y0 y1 : Int} {y2 : Option Addr} {y3 y4 : Nat} {LO HI : List UInt8}
    (hnums : nums = us.map Tab.num ++ (overD (ts.map Tab.dat) (x + 1) LO HI).map Dat.num) :
    ∀ (rest : List Tab) (i : Nat) (a2 : Option Addr) (n2 c2 : Nat) (h : AH) (a6 a7 : Option Addr) (n6 c6 n7 c7 : Nat) (l6 l7 : List UInt8), us.drop i = rest → i ≤ n5 → Ext h1 h none → New h1 a2 → Sl w0 h 1 a2 n2 c2 (ints ((us.take i).map Tab.num)) →
      Rs w0 h1 a6 (u8s l6) → n6 = l6.length → Rs w0 h1 a7 (u8s l7) → n7 = l7.length → LO = lowD l6 (rest.map Tab.dat) → HI = highD l7 (rest.map Tab.dat) →
      f49_7 w0 K x a6 n6 c6 a7 n7 c7 a5 n5 c5 ((n5 : Nat) : Int) ((i : Nat) : Int) lo nx sq av nv cv y0 y1 y2 y3 y4 x x' a2 n2 c2 h := by
  have hl := s.len
  intro rest
  induction rest with
  | nil =>
    intro i a2 n2 c2 h a6 a7 n6 c6 n7 c7 l6 l7 hd hi hx hnew so r6 e6 r7 e7 hlo hhi
    have := drop_done hd
    have hlo' : LO = l6 := hlo
    have hhi' : HI = l7 := hhi
    subst hlo'
    subst hhi'
    rw [List.take_of_length_le (by omega)] at so
    refine f49_7_in _ _ _ _ _ _ _ _ _ _ _ _ _ _ _ _ _ _ _ _ _ _ _ _ _ _ _ _ _ (brB_of (fun q => by simp at q; omega) fun _ => ?_)
    rw [wrap64 (x := x + 1) (by omega) (by omega)]
    refine f23_spec (sv.ext hx) hnv (r6.ext hx) (r7.ext hx) e6 e7 fun a' n' c' h' us2 s2 hdat hok x2 new2 => ⟨_, _, _, rfl, ?_⟩
    have hl2 := s2.len5
    have hlen := congrArg List.length hdat
    simp only [List.length_map] at hlen
    have h3 : (overD (ts.map Tab.dat) (x + 1) LO HI).length ≤ ts.length := by
      refine Nat.le_trans (List.length_filter_le _ _) (Nat.le_trans (List.length_filter_le _ _) ?_)
      simp
    have := sv.len
    have hnm : us2.map Tab.num = (overD (ts.map Tab.dat) (x + 1) LO HI).map Dat.num := by
      rw [← hdat, List.map_map]; rfl
    refine f49_16_ok hx' hk (by omega) (pre := us.map Tab.num) (by simp; omega) (by rw [hnums, hnm]) _ 0 a2 n2 c2 h' rfl (by omega) hl2 (hx.trans x2) hnew ?_ fun h2 z => s2.extX z fun ad bd ha hb q => ?_
    · have := so.ext x2
      simpa [ints] using this
    · subst ha
      subst hb
      have h5 := so.2.2.2.2.2
      exact new2 ad rfl _ (by rw [q]; exact h5) rfl
  | cons t r ih =>
    intro i a2 n2 c2 h a6 a7 n6 c6 n7 c7 l6 l7 hd hi hx hnew so r6 e6 r7 e7 hlo hhi
    obtain ⟨hget, hd', hlt⟩ := drop_step hd
    have hn2 : n2 = i := by have := so.1; simp [ints] at this; omega
    have htake : us.take (i + 1) = us.take i ++ [t] := by rw [List.take_add_one, hget]; rfl
    have o1 := s.ok t (List.mem_of_getElem? hget)
    have o := o1.ext hx
    have go : ∀ (a' : Option Addr) (c' : Nat) (h' : AH), Sl w0 h' 1 a' (n2 + 1) c' (ints ((us.take i).map Tab.num) ++ [.int .i64 t.num]) → Sl w0 h' 1 a' (n2 + 1) c' (ints ((us.take (i + 1)).map Tab.num)) := fun a' c' h' s' => by
      have : ints ((us.take (i + 1)).map Tab.num) = ints ((us.take i).map Tab.num) ++ [.int .i64 t.num] := by rw [htake]; simp [ints]
      rw [this]; exact s'
    have step : ∀ (b6 : Option Addr) (m6 d6 : Nat) (k6 : List UInt8), Rs w0 h1 b6 (u8s k6) → m6 = k6.length → LO = lowD k6 (r.map Tab.dat) →
        f49_11 w0 K x b6 m6 d6 a7 n7 c7 a5 n5 c5 ((n5 : Nat) : Int) ((i : Nat) : Int) lo nx sq av nv cv y0 y1 y2 y3 y4 x x' a2 n2 c2 t.num t.lev t.siz t.lp t.ln t.lc t.mp t.mn t.mc h := fun b6 m6 d6 k6 g6 f6 hlo2 => by
      refine f49_11_in _ _ _ _ _ _ _ _ _ _ _ _ _ _ _ _ _ _ _ _ _ _ _ _ _ _ _ _ _ _ _ _ _ _ _ _ _ _ (f50_spec o.mb.rd (r7.ext hx).rd o.mn e7 ⟨_, rfl, brB_of (fun q => ?_) fun q => ?_⟩)
      all_goals
        refine App_own so (by omega) (by omega) rfl (ints_cell [t.num]) fun a' c' h' s' x1 f' => ?_
        rw [wrapS (by omega)]
      · refine ih (i + 1) a' (n2 + 1) c' h' b6 _ m6 d6 _ _ k6 t.mb hd' (by omega) (hx.past hnew x1) (hnew.grown hx f') (go _ _ _ s') g6 f6 o1.mb o.mn hlo2 ?_
        rw [hhi, List.map_cons, highD, if_pos (by simpa [Dat.mb, Tab.dat] using q)]
        rfl
      · refine ih (i + 1) a' (n2 + 1) c' h' b6 _ m6 d6 _ _ k6 l7 hd' (by omega) (hx.past hnew x1) (hnew.grown hx f') (go _ _ _ s') g6 f6 r7 e7 hlo2 ?_
        rw [hhi, List.map_cons, highD, if_neg (by simpa [Dat.mb, Tab.dat] using q)]
    refine f49_7_in _ _ _ _ _ _ _ _ _ _ _ _ _ _ _ _ _ _ _ _ _ _ _ _ _ _ _ _ _ (brB_of (fun _ => tabLoad (s.ext hx).rs.rd hl hget ?_) fun q => by simp at q; omega)
    refine f50_spec o.lb.rd (r6.ext hx).rd o.ln e6 ⟨_, rfl, brB_of (fun q => step _ _ _ t.lb o1.lb o.ln ?_) fun q => step _ _ _ l6 r6 e6 ?_⟩
    · rw [hlo, List.map_cons, lowD, if_pos (by simpa [Dat.lb, Tab.dat] using q)]
      rfl
    · rw [hlo, List.map_cons, lowD, if_neg (by simpa [Dat.lb, Tab.dat] using q)]

theorem f49_4_ok (hr : 0 ≤ x ∧ x ≤ 4) (hk : ∀ a n c h', Sl w0 h' 1 a n c (ints nums) → Ext h1 h' none → K (.agg #[.int .i64 x, .int .i64 (x + 1), .slice a n c]) h')
    (s : TS w0 h1 a5 n5 c5 us) (hn5 : n5 ≤ 1000000) (sv : TS w0 h1 av nv cv ts) (hnv : nv ≤ 1000000) {y0 y1 : Int} {y2 : Option Addr} {y3 y4 : Nat} {u : Tab} {r : List Tab} (hu : us = u :: r)
    (hnums : nums = us.map Tab.num ++ (overD (ts.map Tab.dat) (x + 1) (lowD u.lb (us.map Tab.dat)) (highD u.mb (us.map Tab.dat))).map Dat.num) :
    f49_4 w0 K x a5 n5 c5 lo nx sq av nv cv y0 y1 y2 y3 y4 h1 := by
  have h0 : us[0]? = some u := by rw [hu]; rfl
  have o := s.ok u (List.mem_of_getElem? h0)
  refine f49_4_in _ _ _ _ _ _ _ _ _ _ _ _ _ _ _ _ (lbLoad s.rs.rd s.len h0 (by simp) rfl (mbLoad s.rs.rd s.len h0 (by simp) rfl ?_))
  rw [wrap64 (x := x + 1) (by omega) (by omega)]
  exact f49_7_ok rfl hr hk s hn5 sv hnv hnums us 0 none 0 0 h1 _ _ _ _ _ _ u.lb u.mb rfl (by omega) (Ext.refl _ _) New.none Sl.nil o.lb o.ln o.mb o.mn rfl rfl
end

/-- pick.job. -/
theorem f49_spec {w0 : World} {K : Value → AH → Prop} {h0 : AH} {a : Option Addr} {n c : Nat} {ts : List Tab} {x lo nx sq : Int} (s : TS w0 h0 a n c ts) (hn : n ≤ 1000000) (hr : 0 ≤ x ∧ x ≤ 4) (hne : atD (ts.map Tab.dat) x ≠ [])
    (hk : ∀ a' n' c' h', Sl w0 h' 1 a' n' c' (ints (jobD (ts.map Tab.dat) x)) → Ext h0 h' none → K (.agg #[.int .i64 x, .int .i64 (x + 1), .slice a' n' c']) h') :
    EvC Go.Proofs.Try.prog w0 49 #[.agg #[.int .i64 lo, .int .i64 nx, .int .i64 sq, .slice a n c], .int .i64 x] K h0 := by
  refine f49_go _ _ _ _ _ _ _ _ (f38_spec s hn fun a1 n1 c1 h1 us s1 hdat hok x1 new1 => ⟨_, _, _, rfl, ?_⟩)
  have hl5 := s1.len5
  have hlen := congrArg List.length hdat
  simp only [List.length_map] at hlen
  have := List.length_filter_le (fun t : Tab => t.lev == x) ts
  have := s.len
  have hat : us.map Tab.dat = atD (ts.map Tab.dat) x := by rw [hdat, atD, List.filter_map]; rfl
  have s1' : TS w0 h1 a1 n1 c1 us := s1.ts (by omega) hok
  cases hus : us with
  | nil => rw [hus] at hat; exact absurd hat.symm hne
  | cons u r =>
    have hat2 : atD (ts.map Tab.dat) x = u.dat :: r.map Tab.dat := by rw [← hat, hus]; rfl
    have hk1 : ∀ a' n' c' h', Sl w0 h' 1 a' n' c' (ints (jobD (ts.map Tab.dat) x)) → Ext h1 h' none → K (.agg #[.int .i64 x, .int .i64 (x + 1), .slice a' n' c']) h' := fun a' n' c' h' q y => hk a' n' c' h' q (x1.trans y)
    refine brB_of (fun q => ?_) fun q => ?_
    · have q' : 0 < x := by simpa using q
      refine f66_spec s1' (u0 := u) (by rw [hus]; rfl) fun i t hi hd => ⟨_, _, _, rfl, ?_⟩
      refine f49_4_ok (u := t) (r := []) hr hk1 (s1'.one hi) (by omega) (s.ext x1) hn rfl ?_
      have hin : inD (ts.map Tab.dat) x = [t.dat] := by
        unfold inD; rw [hat2]; simp only [if_pos q']; rw [hd, hus]; rfl
      unfold jobD; rw [hin]; rfl
    · have q' : ¬ 0 < x := by simpa using q
      refine f49_4_ok (u := u) (r := r) hr hk1 s1' (by omega) (s.ext x1) hn hus ?_
      have hin : inD (ts.map Tab.dat) x = u.dat :: r.map Tab.dat := by
        unfold inD; rw [hat2]; simp only [if_neg q']
      unfold jobD; rw [hin, hus]
      simp only [List.map_cons, List.map_map]
      rfl
end Go.G.Ytpnhlgghpciofaa
