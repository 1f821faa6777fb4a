/- level.Apply. -/
import Derived.Test.YtpnhlgghpciofaaLQ
import Derived.Test.YtpnhlgghpciofaaLO
import Derived.Test.YtpnhlgghpciofaaLL
import Derived.Test.YtpnhlgghpciofaaProg
set_option maxRecDepth 100000
namespace Go.G.Ytpnhlgghpciofaa
open Go.RowKit
/-- What the sort is to do for Apply. -/
def SortsTo (w0 : World) (L : List Dat) : Prop := ∀ (K : Value → AH → Prop) (h : AH) (a : Option Addr) (n c : Nat) (us : List Tab), Sl w0 h 5 a n c (tabs us) → (∀ t ∈ us, t.OkX w0 h a) → us.length ≤ 200 → us.map Tab.dat = L →
  (∀ us' h', us'.Perm us → Sorted us' → Sl w0 h' 5 a n c (tabs us') → Ext h h' a → (∀ t ∈ us', t.Ok w0 h') → K (.tuple #[]) h') → EvC Go.Proofs.Try.prog w0 59 #[.slice a n c, .func (.func 53) #[] #[]] K h

theorem mayT_dat {t u : Tab} (h : t.dat = u.dat) : mayT t = mayT u := by
  obtain ⟨h1, h2, h3, h4, h5⟩ := dat_ok h
  unfold mayT; rw [h1, h2, h3, h4, h5]
theorem any_dat {x : Int} : ∀ {l m : List Tab}, l.map Tab.dat = m.map Tab.dat → (l.any fun u => u.num == x) = m.any fun u => u.num == x
  | [], [], _ => rfl
  | [], _ :: _, h => by cases h
  | _ :: _, [], h => by cases h
  | t :: l, u :: m, h => by
    simp only [List.map_cons, List.cons.injEq] at h
    rw [List.any_cons, List.any_cons, any_dat h.2, (dat_ok h.1).1]
theorem nextTo_dat {p q : Option Tab} {t u : Tab} (h : t.dat = u.dat) (hp : p.map Tab.dat = q.map Tab.dat) : nextTo p t = nextTo q u := by
  cases p <;> cases q
  · rfl
  · cases hp
  · cases hp
  · rename_i p q
    simp only [Option.map_some, Option.some.injEq] at hp
    obtain ⟨h1, h2, h3, h4, h5⟩ := dat_ok h
    obtain ⟨g1, g2, g3, g4, g5⟩ := dat_ok hp
    show (aheadR p t && !(p.lev == t.lev && decide (0 < t.lev) && decide (0 ≤ cmpL p.mb t.lb))) = (aheadR q u && !(q.lev == u.lev && decide (0 < u.lev) && decide (0 ≤ cmpL q.mb u.lb)))
    unfold aheadR
    rw [h1, h2, h4, g1, g2, g4, g5]
theorem mayL_dat {nx : Int} : ∀ {r r' pre pre' : List Tab}, pre.map Tab.dat = pre'.map Tab.dat → r.map Tab.dat = r'.map Tab.dat → mayL nx pre r = mayL nx pre' r'
  | [], [], _, _, _, _ => rfl
  | [], _ :: _, _, _, _, h => by cases h
  | _ :: _, [], _, _, _, h => by cases h
  | t :: r, u :: r', pre, pre', hp, h => by
    simp only [List.map_cons, List.cons.injEq] at h
    have ih := mayL_dat (nx := nx) (pre := pre ++ [t]) (pre' := pre' ++ [u]) (by rw [List.map_append, List.map_append, hp]; simp [h.1]) h.2
    have hgl : (pre.getLast?).map Tab.dat = (pre'.getLast?).map Tab.dat := by rw [← List.getLast?_map, ← List.getLast?_map, hp]
    unfold mayL
    rw [ih, mayT_dat h.1, (dat_ok h.1).1, any_dat hp, nextTo_dat h.1 hgl]
theorem mayV_dat {lo nx sq : Int} {r r' : List Tab} (h : r.map Tab.dat = r'.map Tab.dat) : mayV lo nx sq r = mayV lo nx sq r' := by
  have hl := congrArg List.length h
  simp only [List.length_map] at hl
  unfold mayV
  rw [mayL_dat rfl h, hl]

theorem uniqN_nodup : ∀ {pre r : List Int}, uniqN pre r = true → r.Nodup ∧ ∀ x ∈ r, ∀ y ∈ pre, y ≠ x
  | _, [], _ => ⟨by simp, fun x hx => by cases hx⟩
  | pre, x :: r, h => by
    simp only [uniqN, Bool.and_eq_true, Bool.not_eq_true'] at h
    obtain ⟨i1, i2⟩ := uniqN_nodup h.2
    have hno := h.1.2
    refine ⟨List.nodup_cons.2 ⟨fun hm => i2 x hm x (by simp) rfl, i1⟩, fun y hy z hz => ?_⟩
    rcases List.mem_cons.1 hy with rfl | hy
    · intro e
      rw [List.any_eq_false] at hno
      exact hno z hz (by simpa using e)
    · exact i2 y hy z (by simp [hz])
theorem nodup_take {l : List Tab} {i : Nat} {t : Tab} (h : (l.map Tab.num).Nodup) (hi : l[i]? = some t) : ((l.take i).any fun u => u.num == t.num) = false := by
  have hlt := (List.getElem?_eq_some_iff.1 hi).1
  have e : l = l.take i ++ t :: l.drop (i + 1) := by
    have : l[i] = t := by rw [List.getElem?_eq_getElem hlt] at hi; injection hi
    rw [← this, ← List.drop_eq_getElem_cons hlt, List.take_append_drop]
  rw [List.any_eq_false]
  intro u hu q
  rw [e, List.map_append, List.nodup_append] at h
  exact h.2.2 u.num (List.mem_map_of_mem hu) t.num (by simp) (by simpa using q)
theorem kept_len {ts : List Tab} {rem : List Int} (hnd : (ts.map Tab.num).Nodup) (hr : rem.Nodup) (hs : (rem.any fun n => !(ts.any fun t => t.num == n)) = false) :
    (ts.filter fun t => !(rem.any fun m => m == t.num)).length + rem.length = ts.length := by
  have hsub : ∀ n ∈ rem, n ∈ ts.map Tab.num := fun n hn => by
    rw [List.any_eq_false] at hs
    have := hs n hn
    simp only [Bool.not_eq_true', Bool.not_eq_false] at this
    rw [List.any_eq_true] at this
    obtain ⟨t, ht, q⟩ := this
    exact List.mem_map.2 ⟨t, ht, by simpa using q⟩
  have hc := cnt_sub hnd hr hsub
  rw [List.countP_map] at hc
  rw [← hc, ← List.countP_eq_length_filter]
  have hflip : (List.countP ((fun y => decide (y ∈ rem)) ∘ Tab.num) ts) = ts.countP fun t => rem.any fun m => m == t.num := by
    congr 1
    funext t
    rw [Bool.eq_iff_iff]
    simp
  rw [hflip]
  have key : ∀ l : List Tab, (l.countP fun t => !(rem.any fun m => m == t.num)) + (l.countP fun t => rem.any fun m => m == t.num) = l.length := by
    intro l
    induction l with
    | nil => rfl
    | cons t l ih =>
      rw [List.countP_cons, List.countP_cons, List.length_cons]
      cases (rem.any fun m => m == t.num) <;> simp <;> omega
  exact key ts
section
variable {w0 : World} {K : Value → AH → Prop} {h0 : AH} {v : Ver} {lo nx sq : Int} {a b e : Option Addr} {n c m d p g : Nat} {add : List Tab} {rem : List Int}
variable (hk : ∀ a' n' c' h' ts', TS w0 h' a' n' c' ts' → ts'.map Tab.dat = (applyR v lo nx sq add rem).1.ts.map Tab.dat → Ext h0 h' none →
  K (.tuple #[.agg #[.int .i64 (applyR v lo nx sq add rem).1.lo, .int .i64 (applyR v lo nx sq add rem).1.nx, .int .i64 (applyR v lo nx sq add rem).1.sq, .slice a' n' c'], .int .i64 (applyR v lo nx sq add rem).2]) h')
include hk

theorem f33_fail {z : Int} {h : AH} (hx : Ext h0 h none) (hr : applyR v lo nx sq add rem = (⟨0, 0, 0, []⟩, z)) : K (.tuple #[.agg #[.int .i64 0, .int .i64 0, .int .i64 0, .slice none 0 0], .int .i64 z]) h := by
  have := hk none 0 0 h [] TS.none0 (by rw [hr]) hx
  rw [hr] at this; exact this

variable (sv : TS w0 h0 a n c v.ts) (sa : TS w0 h0 b m d add) (sr : IS w0 h0 e p g rem) (hn : n ≤ 200) (hm : m ≤ 200)
  (h1 : (mayV v.lo v.nx v.sq v.ts && mayE lo nx sq add rem) = true)
  (hsort : SortsTo w0 ((v.ts.filter (fun t => !(rem.any fun m => m == t.num)) ++ add).map Tab.dat))
  (hplain : ∀ us S : List Tab, us.map Tab.dat = (v.ts.filter (fun t => !(rem.any fun m => m == t.num)) ++ add).map Tab.dat → S.Perm us → Sorted S →
    mayV lo nx sq S = mayV lo nx sq (add.foldl (fun l t => putR t l) (v.ts.filter fun t => !(rem.any fun m => m == t.num))) ∧
    (mayV lo nx sq S = true → S.map Tab.dat = (add.foldl (fun l t => putR t l) (v.ts.filter fun t => !(rem.any fun m => m == t.num))).map Tab.dat))
include sv sa sr hn hm h1 hsort hplain

omit sv sa sr hm hn in
theorem f33_26_ok (h2 : (rem.any fun n => !(v.ts.any fun t => t.num == n)) = false) (h3 : (add.any fun t => (v.ts.any fun u => u.num == t.num) && !(rem.any fun m => m == t.num)) = false)
    (hcnt : ((v.ts.filter fun t => !(rem.any fun m => m == t.num)).length : Int) + add.length = (v.ts.length : Int) - rem.length + add.length)
    {h : AH} (hx : Ext h0 h none) {a3 : Option Addr} {n3 c3 : Nat} {us : List Tab} (so : Sl w0 h 5 a3 n3 c3 (tabs us)) (hnew : New h0 a3) (hok : ∀ t ∈ us, t.OkX w0 h a3) (hdat : us.map Tab.dat = (v.ts.filter (fun t => !(rem.any fun m => m == t.num)) ++ add).map Tab.dat)
    {q : Bool} (q1 : q = true → lo < v.lo ∨ nx < v.nx ∨ sq < v.sq) (q0 : q = false → ¬ (lo < v.lo ∨ nx < v.nx ∨ sq < v.sq)) :
    f33_26 w0 K q v.lo v.nx v.sq a n c lo nx sq b m d e p g 0 0 0 none 0 0 lo nx sq a3 n3 c3 h := by
  have hl5 := so.len5
  have hlen := congrArg List.length hdat
  simp only [List.length_map, List.length_append] at hlen
  refine f33_26_in _ _ _ _ _ _ _ _ _ _ _ _ _ _ _ _ _ _ _ _ _ _ _ _ _ _ _ _ _ (brB_of (fun e1 => f33_fail hk hx ?_) fun e1 => brB_of (fun e2 => f33_fail hk hx ?_) fun e2 => f33_29_in _ _ _ _ _ _ _ _ _ _ _ _ _ _ _ _ _ _ _ _ _ _ _ _ _ _ _ _ ?_)
  · unfold applyR
    rw [h1, h2, h3]
    simp only [Bool.not_true, Bool.false_eq_true, if_false]
    rw [if_pos (q1 e1)]
  · unfold applyR
    rw [h1, h2, h3]
    simp only [Bool.not_true, Bool.false_eq_true, if_false]
    rw [if_neg (q0 e1), if_pos (by simp at e2; omega)]
  · have h200 : us.length ≤ 200 := by simp at e2; omega
    refine hsort _ h a3 n3 c3 us so hok h200 hdat fun S h' hperm hsorted s' x' hok' => ⟨rfl, ?_⟩
    have hx' : Ext h0 h' none := hx.past hnew x'
    have hSl := s'.len5
    obtain ⟨p1, p2⟩ := hplain us S hdat hperm hsorted
    have hr : applyR v lo nx sq add rem = if mayV lo nx sq (add.foldl (fun l t => putR t l) (v.ts.filter fun t => !(rem.any fun m => m == t.num))) then (⟨lo, nx, sq, add.foldl (fun l t => putR t l) (v.ts.filter fun t => !(rem.any fun m => m == t.num))⟩, 0) else (⟨0, 0, 0, []⟩, 1) := by
      unfold applyR
      rw [h1, h2, h3]
      simp only [Bool.not_true, Bool.false_eq_true, if_false]
      rw [if_neg (q0 e1), if_neg (by simp at e2; omega)]
    have tS : TS w0 h' a3 n3 c3 S := s'.ts (by omega) hok'
    refine f31_spec tS fun h2' x2 => ⟨_, rfl, brB_of (fun e3 => f33_fail hk (hx'.trans x2) ?_) fun e3 => ?_⟩
    · have e3' : mayV lo nx sq S = false := by simpa using e3
      rw [hr, ← p1, e3']; rfl
    · have e3' : mayV lo nx sq S = true := by simpa using e3
      rw [← p1, e3'] at hr
      simp only [if_true] at hr
      have := hk a3 n3 c3 h2' S (tS.ext x2) (by rw [hr]; exact p2 e3') (hx'.trans x2)
      rw [hr] at this; exact this

theorem f33_19_ok (h2 : (rem.any fun n => !(v.ts.any fun t => t.num == n)) = false) {q : Nat} (hq : w0.heap.size ≤ q)
    (hcnt : ((v.ts.filter fun t => !(rem.any fun m => m == t.num)).length : Int) + add.length = (v.ts.length : Int) - rem.length + add.length)
    {h : AH} (hx : Ext h0 h none) (hm2 : h q = some (.map (setM (v.ts.map Tab.num)))) {a6 : Option Addr} {n6 c6 : Nat} (so : Sl w0 h 5 a6 n6 c6 (tabs (v.ts.filter fun t => !(rem.any fun m => m == t.num)))) :
    ∀ (rest : List Tab) (i : Nat), add.drop i = rest → i ≤ m → (add.any fun t => (v.ts.any fun u => u.num == t.num) && !(rem.any fun m => m == t.num)) = rest.any (fun t => (v.ts.any fun u => u.num == t.num) && !(rem.any fun m => m == t.num)) →
      f33_19 w0 K a6 n6 c6 (some q) b m d ((m : Nat) : Int) ((i : Nat) : Int) v.lo v.nx v.sq a n c lo nx sq b m d e p g 0 0 0 none 0 0 h := by
  have hla := sa.len
  have hlv := sv.len
  have hl6 := so.len5
  have hfl := List.length_filter_le (fun t : Tab => !(rem.any fun m => m == t.num)) v.ts
  intro rest
  induction rest with
  | nil =>
    intro i hd hi he
    have h3 : (add.any fun t => (v.ts.any fun u => u.num == t.num) && !(rem.any fun m => m == t.num)) = false := he
    have hdone := drop_done hd
    have skept : TS w0 h a6 n6 c6 (v.ts.filter fun t => !(rem.any fun m => m == t.num)) := so.ts (by omega) fun t ht => (sv.ext hx).ok t (List.mem_filter.1 ht).1
    -- the copies, and what is made of them
    have fin : ∀ (h4 : AH) (a4 : Option Addr) (n4 c4 : Nat) (us : List Tab), Ext h h4 none → Sl w0 h4 5 a4 n4 c4 (tabs us) → us.map Tab.dat = (v.ts.filter fun t => !(rem.any fun m => m == t.num)).map Tab.dat → (∀ t ∈ us, TOwn w0 h4 h a4 t) → New h a4 →
        ∀ (h5 : AH) (a5 : Option Addr) (n5 c5 : Nat) (ws : List Tab), Ext h4 h5 none → Sl w0 h5 5 a5 n5 c5 (tabs ws) → ws.map Tab.dat = add.map Tab.dat → (∀ t ∈ ws, TOwn w0 h5 h4 a5 t) → New h4 a5 →
        rowsOf w0 h5 5 a5 n5 fun ys => App w0 h5 5 72 a4 n4 c4 n5 ys fun a' c' h' => brB (decide (lo < v.lo)) (f33_26 w0 K true v.lo v.nx v.sq a n c lo nx sq b m d e p g 0 0 0 none 0 0 lo nx sq a' (n4 + n5) c' h')
          (brB (decide (nx < v.nx)) (f33_26 w0 K true v.lo v.nx v.sq a n c lo nx sq b m d e p g 0 0 0 none 0 0 lo nx sq a' (n4 + n5) c' h') (f33_26 w0 K (decide (sq < v.sq)) v.lo v.nx v.sq a n c lo nx sq b m d e p g 0 0 0 none 0 0 lo nx sq a' (n4 + n5) c' h')) := by
      intro h4 a4 n4 c4 us x4 s4 d4 o4 w4 h5 a5 n5 c5 ws x5 s5 d5 o5 w5
      have l4 := s4.len5
      have l5 := s5.len5
      have e4 := congrArg List.length d4
      have e5 := congrArg List.length d5
      simp only [List.length_map] at e4 e5
      refine rowsOf_of s5.rd (by rw [tabs_length, l5]) ?_
      refine App_own (s4.ext x5) (by omega) (by omega) (by rw [tabs_length, l5]) (tabs_cell _) fun a' c' h' s' x' f' => ?_
      have hdat : (us ++ ws).map Tab.dat = (v.ts.filter (fun t => !(rem.any fun m => m == t.num)) ++ add).map Tab.dat := by rw [List.map_append, List.map_append, d4, d5]
      have hok : ∀ t ∈ us ++ ws, t.OkX w0 h' a' := fun t ht => by
        rcases List.mem_append.1 ht with ht | ht
        · exact (((o4 t ht).ext x5).grow x' f').okX
        · refine ((o5 t ht).past x' (fun bd hb => ?_) f').okX
          subst hb
          exact ⟨_, s4.2.2.2.2.2, rfl⟩
      have hx5 : Ext h0 h5 none := (hx.trans x4).trans x5
      have w40 : New h0 a4 := w4.old hx
      have step : ∀ t : Bool, (t = true → lo < v.lo ∨ nx < v.nx ∨ sq < v.sq) → (t = false → ¬ (lo < v.lo ∨ nx < v.nx ∨ sq < v.sq)) → f33_26 w0 K t v.lo v.nx v.sq a n c lo nx sq b m d e p g 0 0 0 none 0 0 lo nx sq a' (n4 + n5) c' h' := fun t t1 t0 =>
        f33_26_ok hk h1 hsort hplain h2 h3 hcnt (hx5.past w40 x') (us := us ++ ws) (by rw [tabs_append]; exact s') (w40.grown hx5 f') hok hdat t1 t0
      refine brB_of (fun q => step _ (fun _ => ?_) (fun z => by cases z)) fun q => brB_of (fun q2 => step _ (fun _ => ?_) (fun z => by cases z)) fun q2 => step _ (fun q3 => ?_) fun q3 => ?_
      all_goals simp only [decide_eq_true_eq, decide_eq_false_iff_not] at *
      all_goals omega
    refine f33_19_in _ _ _ _ _ _ _ _ _ _ _ _ _ _ _ _ _ _ _ _ _ _ _ _ _ _ _ _ _ _ _ (brB_of (fun q => by simp at q; omega) fun _ => ?_)
    have second : ∀ (h4 : AH) (a4 : Option Addr) (n4 c4 : Nat) (us : List Tab), Ext h h4 none → Sl w0 h4 5 a4 n4 c4 (tabs us) → us.map Tab.dat = (v.ts.filter fun t => !(rem.any fun m => m == t.num)).map Tab.dat → (∀ t ∈ us, TOwn w0 h4 h a4 t) → New h a4 →
        EvC Go.Proofs.Try.prog w0 58 #[.slice b m d] (fun x h5 => ∃ p5 : Option Addr, ∃ n5 c5 : Nat, x = .slice p5 n5 c5 ∧ rowsOf w0 h5 5 p5 n5 fun ys => App w0 h5 5 72 a4 n4 c4 n5 ys fun a' c' h' => brB (decide (lo < v.lo)) (f33_26 w0 K true v.lo v.nx v.sq a n c lo nx sq b m d e p g 0 0 0 none 0 0 lo nx sq a' (n4 + n5) c' h')
          (brB (decide (nx < v.nx)) (f33_26 w0 K true v.lo v.nx v.sq a n c lo nx sq b m d e p g 0 0 0 none 0 0 lo nx sq a' (n4 + n5) c' h') (f33_26 w0 K (decide (sq < v.sq)) v.lo v.nx v.sq a n c lo nx sq b m d e p g 0 0 0 none 0 0 lo nx sq a' (n4 + n5) c' h'))) h4 := fun h4 a4 n4 c4 us x4 s4 d4 o4 w4 =>
      f58x_spec ((sa.ext hx).ext x4) (by omega) fun a5 n5 c5 h5 ws s5 d5 o5 x5 w5 => ⟨_, _, _, rfl, fin h4 a4 n4 c4 us x4 s4 d4 o4 w4 h5 a5 n5 c5 ws x5 s5 d5 o5 w5⟩
    refine ⟨f58x_spec skept (by omega) fun a4 n4 c4 h4 us s4 d4 o4 x4 w4 => ⟨_, _, _, rfl, f58x_spec ((sa.ext hx).ext x4) (by omega) fun a5 n5 c5 h5 ws s5 d5 o5 x5 w5 => ⟨_, _, _, rfl, dup (fin h4 a4 n4 c4 us x4 s4 d4 o4 w4 h5 a5 n5 c5 ws x5 s5 d5 o5 w5)⟩, second h4 a4 n4 c4 us x4 s4 d4 o4 w4⟩,
      f58x_spec skept (by omega) fun a4 n4 c4 h4 us s4 d4 o4 x4 w4 => ⟨_, _, _, rfl, second h4 a4 n4 c4 us x4 s4 d4 o4 w4⟩⟩
  | cons t r ih =>
    intro i hd hi he
    obtain ⟨hget, hd', hlt⟩ := drop_step hd
    have step : ∀ z : Bool, (z = ((v.ts.any fun u => u.num == t.num) && !(rem.any fun m => m == t.num))) → f33_22 w0 K a6 n6 c6 (some q) b m d ((m : Nat) : Int) ((i : Nat) : Int) z v.lo v.nx v.sq a n c lo nx sq b m d e p g 0 0 0 none 0 0 h := fun z hz => by
      refine f33_22_in _ _ _ _ _ _ _ _ _ _ _ _ _ _ _ _ _ _ _ _ _ _ _ _ _ _ _ _ _ _ _ _ (brB_of (fun e1 => f33_fail hk hx ?_) fun e1 => ?_)
      · unfold applyR
        rw [h1, h2, he]
        simp only [Bool.not_true, Bool.false_eq_true, if_false]
        rw [List.any_cons, ← hz, e1]
        rfl
      · rw [wrapS (by omega)]
        exact ih (i + 1) hd' (by omega) (by rw [he, List.any_cons, ← hz, e1]; rfl)
    refine f33_19_in _ _ _ _ _ _ _ _ _ _ _ _ _ _ _ _ _ _ _ _ _ _ _ _ _ _ _ _ _ _ _ (brB_of (fun _ => tabLoad (sa.ext hx).rs.rd hla hget ⟨plain_int, mapAt_set hq hm2 ⟨_, getM_set.symm, brB_of (fun z => ?_) fun z => ?_⟩⟩) fun q => by simp at q; omega)
    · rw [any_nums] at z
      refine f57_spec (sr.ext hx) ⟨_, rfl, step _ ?_⟩
      rw [z]; rfl
    · rw [any_nums] at z
      exact step _ (by rw [z]; rfl)

theorem f33_13_ok {q : Nat} (hq : w0.heap.size ≤ q)
    (hcnt : (rem.any fun n => !(v.ts.any fun t => t.num == n)) = false → ((v.ts.filter fun t => !(rem.any fun m => m == t.num)).length : Int) + add.length = (v.ts.length : Int) - rem.length + add.length)
    {h : AH} (hx : Ext h0 h none) (hm2 : h q = some (.map (setM (v.ts.map Tab.num)))) {a6 : Option Addr} {n6 c6 : Nat} (so : Sl w0 h 5 a6 n6 c6 (tabs (v.ts.filter fun t => !(rem.any fun m => m == t.num)))) :
    ∀ (rest : List Int) (i : Nat), rem.drop i = rest → i ≤ p → (rem.any fun n => !(v.ts.any fun t => t.num == n)) = rest.any (fun n => !(v.ts.any fun t => t.num == n)) →
      f33_13 w0 K a6 n6 c6 (some q) e p g ((p : Nat) : Int) ((i : Nat) : Int) v.lo v.nx v.sq a n c lo nx sq b m d e p g 0 0 0 none 0 0 h := by
  have hlr := sr.len
  have hsm := sr.sm
  intro rest
  induction rest with
  | nil =>
    intro i hd hi he
    have hdone := drop_done hd
    exact f33_13_in _ _ _ _ _ _ _ _ _ _ _ _ _ _ _ _ _ _ _ _ _ _ _ _ _ _ _ _ _ _ _ (brB_of (fun z => by simp at z; omega) fun _ => f33_19_ok hk sv sa sr hn hm h1 hsort hplain he hq (hcnt he) hx hm2 so _ 0 rfl (by omega) rfl)
  | cons x r ih =>
    intro i hd hi he
    obtain ⟨hget, hd', hlt⟩ := drop_step hd
    refine f33_13_in _ _ _ _ _ _ _ _ _ _ _ _ _ _ _ _ _ _ _ _ _ _ _ _ _ _ _ _ _ _ _ (brB_of (fun _ => intLoad (sr.ext hx).rs.rd hlr hget ⟨plain_int, mapAt_set hq hm2 ⟨_, getM_set.symm, brB_of (fun z => f33_fail hk hx ?_) fun z => ?_⟩⟩) fun z => by simp at z; omega)
    · rw [any_nums] at z
      unfold applyR
      rw [h1, he, List.any_cons, z]
      rfl
    · rw [any_nums] at z
      rw [wrapS (by omega)]
      exact ih (i + 1) hd' (by omega) (by rw [he, List.any_cons, z]; rfl)

theorem f33_6_ok (hnd : (v.ts.map Tab.num).Nodup) {q : Nat} (hq : w0.heap.size ≤ q) (hqn : h0 q = none)
    (hcnt : (rem.any fun n => !(v.ts.any fun t => t.num == n)) = false → ((v.ts.filter fun t => !(rem.any fun m => m == t.num)).length : Int) + add.length = (v.ts.length : Int) - rem.length + add.length) :
    ∀ (rest : List Tab) (i : Nat) (a6 : Option Addr) (n6 c6 : Nat) (h : AH), v.ts.drop i = rest → i ≤ n → Ext h0 h none → h q = some (.map (setM ((v.ts.take i).map Tab.num))) → New h0 a6 → Sl w0 h 5 a6 n6 c6 (tabs ((v.ts.take i).filter fun t => !(rem.any fun m => m == t.num))) →
      f33_6 w0 K a6 n6 c6 (some q) a n c ((n : Nat) : Int) ((i : Nat) : Int) v.lo v.nx v.sq a n c lo nx sq b m d e p g 0 0 0 none 0 0 h := by
  have hl := sv.len
  intro rest
  induction rest with
  | nil =>
    intro i a6 n6 c6 h hd hi hx hm2 hnew so
    have hdone := drop_done hd
    rw [List.take_of_length_le (by omega)] at so hm2
    exact f33_6_in _ _ _ _ _ _ _ _ _ _ _ _ _ _ _ _ _ _ _ _ _ _ _ _ _ _ _ _ _ _ _ (brB_of (fun z => by simp at z; omega) fun _ => f33_13_ok hk sv sa sr hn hm h1 hsort hplain hq hcnt hx hm2 so _ 0 rfl (by omega) rfl)
  | cons t r ih =>
    intro i a6 n6 c6 h hd hi hx hm2 hnew so
    obtain ⟨hget, hd', hlt⟩ := drop_step hd
    have htake : v.ts.take (i + 1) = v.ts.take i ++ [t] := by rw [List.take_add_one, hget]; rfl
    have hl5 := so.len5
    have := List.length_filter_le (fun t : Tab => !(rem.any fun m => m == t.num)) (v.ts.take i)
    have : (v.ts.take i).length ≤ i := by simp; omega
    have hput : putM (.int .i64 t.num) (.bool true) (setM ((v.ts.take i).map Tab.num)) = setM ((v.ts.take (i + 1)).map Tab.num) := by
      rw [putM_set (by rw [any_nums]; exact nodup_take hnd hget), htake]; simp
    have hne : ∀ ad, a6 = some ad → ad.block ≠ q := fun ad e z => by
      subst e
      have h5 := so.2.2.2.2.2
      rw [z, hm2] at h5; cases h5
    have hx2 : Ext h0 (h.putm q (setM ((v.ts.take (i + 1)).map Tab.num))) none := fun k o hko _ pl => by
      have : k ≠ q := fun e => by subst e; rw [hqn] at hko; cases hko
      exact putm_old (hx k o hko (fun _ e => by cases e) pl) this pl
    have so2 : Sl w0 (h.putm q (setM ((v.ts.take (i + 1)).map Tab.num))) 5 a6 n6 c6 (tabs ((v.ts.take i).filter fun t => !(rem.any fun m => m == t.num))) :=
      so.extX (x := some ⟨q, 0, none⟩) (fun k o hko hne' pl => putm_old hko (hne' _ rfl) pl) fun ad bd ha hb z => by
        injection hb with hb
        subst hb
        exact hne ad ha z
    refine f33_6_in _ _ _ _ _ _ _ _ _ _ _ _ _ _ _ _ _ _ _ _ _ _ _ _ _ _ _ _ _ _ _ (brB_of (fun _ => tabLoad (sv.ext hx).rs.rd hl hget ⟨plain_int, q, rfl, mapAt_set hq hm2 ?_⟩) fun z => by simp at z; omega)
    rw [hput]
    refine f57_spec (sr.ext hx2) ⟨_, rfl, brB_of (fun z => ?_) fun z => ?_⟩
    · refine App_own so2 (by omega) (by omega) rfl (tabs_cell [t]) fun a' c' h' s' x' f' => ?_
      rw [wrapS (by omega)]
      refine ih (i + 1) a' (n6 + 1) c' h' hd' (by omega) (hx2.past hnew x') ?_ (hnew.grown hx2 f') ?_
      · exact x' q _ (put_same _ _ _) (fun ad e z => hne ad e z.symm) rfl
      · rw [htake, List.filter_append, tabs_append, List.filter_cons, if_pos z]
        exact s'
    · rw [wrapS (by omega)]
      refine ih (i + 1) a6 n6 c6 _ hd' (by omega) hx2 (put_same _ _ _) hnew ?_
      have e9 : (v.ts.take (i + 1)).filter (fun t => !(rem.any fun m => m == t.num)) = (v.ts.take i).filter (fun t => !(rem.any fun m => m == t.num)) := by
        rw [htake, List.filter_append, List.filter_cons, if_neg (by rw [z]; simp)]
        simp
      rw [e9]; exact so2
end

/-- level.Apply, with a sort that sorts. -/
theorem f33_spec {w0 : World} {K : Value → AH → Prop} {h0 : AH} {v : Ver} {lo nx sq : Int} {a b e : Option Addr} {n c m d p g : Nat} {add : List Tab} {rem : List Int}
    (hk : ∀ a' n' c' h' ts', TS w0 h' a' n' c' ts' → ts'.map Tab.dat = (applyR v lo nx sq add rem).1.ts.map Tab.dat → Ext h0 h' none →
      K (.tuple #[.agg #[.int .i64 (applyR v lo nx sq add rem).1.lo, .int .i64 (applyR v lo nx sq add rem).1.nx, .int .i64 (applyR v lo nx sq add rem).1.sq, .slice a' n' c'], .int .i64 (applyR v lo nx sq add rem).2]) h')
    (sv : TS w0 h0 a n c v.ts) (sa : TS w0 h0 b m d add) (sr : IS w0 h0 e p g rem)
    (hsort : (mayV v.lo v.nx v.sq v.ts && mayE lo nx sq add rem) = true → SortsTo w0 ((v.ts.filter (fun t => !(rem.any fun m => m == t.num)) ++ add).map Tab.dat))
    (hplain : (mayV v.lo v.nx v.sq v.ts && mayE lo nx sq add rem) = true → ∀ us S : List Tab, us.map Tab.dat = (v.ts.filter (fun t => !(rem.any fun m => m == t.num)) ++ add).map Tab.dat → S.Perm us → Sorted S →
      mayV lo nx sq S = mayV lo nx sq (add.foldl (fun l t => putR t l) (v.ts.filter fun t => !(rem.any fun m => m == t.num))) ∧
      (mayV lo nx sq S = true → S.map Tab.dat = (add.foldl (fun l t => putR t l) (v.ts.filter fun t => !(rem.any fun m => m == t.num))).map Tab.dat)) :
    EvC Go.Proofs.Try.prog w0 33 #[.agg #[.int .i64 v.lo, .int .i64 v.nx, .int .i64 v.sq, .slice a n c], .agg #[.int .i64 lo, .int .i64 nx, .int .i64 sq, .slice b m d, .slice e p g]] K h0 := by
  have step : ∀ (h : AH) (z : Bool), Ext h0 h none → (z = true → (mayV v.lo v.nx v.sq v.ts && mayE lo nx sq add rem) = false) → (z = false → (mayV v.lo v.nx v.sq v.ts && mayE lo nx sq add rem) = true) →
      f33_2 w0 K z v.lo v.nx v.sq a n c lo nx sq b m d e p g 0 0 0 none 0 0 h := fun h z hx g1 g0 => by
    refine f33_2_in _ _ _ _ _ _ _ _ _ _ _ _ _ _ _ _ _ _ _ _ _ _ _ (brB_of (fun e1 => f33_fail hk hx ?_) fun e1 => f33_3_in _ _ _ _ _ _ _ _ _ _ _ _ _ _ _ _ _ _ _ _ _ _ fun q hq hqn => ?_)
    · unfold applyR
      rw [g1 e1]; rfl
    · have h1 := g0 e1
      have h1' := h1
      rw [Bool.and_eq_true] at h1'
      have l1 := mayV_len h1'.1
      have l2 := mayE_len h1'.2
      have e1 := sv.len
      have e2 := sa.len
      have e3 := sr.len
      have hm1 := h1'.1
      simp only [mayV, Bool.and_eq_true] at hm1
      have hm2 := h1'.2
      simp only [mayE, Bool.and_eq_true] at hm2
      have hnd := (mayL_nodup hm1.2).1
      refine f33_6_ok (fun a' n' c' h' ts' s' d' x' => hk a' n' c' h' ts' s' d' (hx.trans x')) (sv.ext hx) (sa.ext hx) (sr.ext hx) (by omega) (by omega) h1 (hsort h1) (hplain h1) hnd hq hqn (fun h2 => ?_) _ 0 none 0 0 _ rfl (by omega) (Ext_put hqn) (put_same _ _ _) New.none Sl.nil
      have := kept_len hnd (uniqN_nodup hm2.2).1 h2
      omega
  refine f33_go _ _ _ _ _ _ _ _ _ _ _ _ _ _ _ _ (f31_spec sv fun h1 x1 => ⟨_, rfl, brB_of (fun q => step h1 _ x1 (fun _ => ?_) (fun z => by cases z)) fun q => f56_spec (sa.ext x1) (sr.ext x1) fun h2 x2 => ⟨_, rfl, step h2 _ (x1.trans x2) (fun q2 => ?_) fun q2 => ?_⟩⟩)
  · have : mayV v.lo v.nx v.sq v.ts = false := by simpa using q
    rw [this]; rfl
  · have : mayE lo nx sq add rem = false := by simpa using q2
    rw [this]; simp
  · have h1 : mayV v.lo v.nx v.sq v.ts = true := by simpa using q
    have h2 : mayE lo nx sq add rem = true := by simpa using q2
    rw [h1, h2]; rfl
end Go.G.Ytpnhlgghpciofaa
