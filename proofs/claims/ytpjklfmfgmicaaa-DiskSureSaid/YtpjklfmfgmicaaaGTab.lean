/- Bytes, numbers and tables as they lie in memory. -/
import Derived.Test.YtpjklfmfgmicaaaGRead
namespace Go.G
open Go.RowKit

def ints (l : List Int) : List Value := l.map (.int .i64)
theorem ints_get {l : List Int} {j : Nat} {x : Int} (h : l[j]? = some x) : (ints l)[j]? = some (.int .i64 x) := by simp [ints, h]

/-! ### bytes in memory, and their order -/
def u8s (l : List UInt8) : List Value := l.map fun b => .int .u8 b.toNat
theorem u8s_length (l : List UInt8) : (u8s l).length = l.length := by simp [u8s]

/-- Which of two texts is ahead: -1, 0, 1. -/
def cmpL (x y : List UInt8) : Int := if Op.bytesLess x y then -1 else if Op.bytesLess y x then 1 else 0

theorem rowsOf_of {w0 : World} {h : AH} {e n : Nat} {a : Option Addr} {ys : List Value} {K : List Value → Prop} (hr : Rd w0 h a ys) (hl : ys.length = n * e) (hk : K ys) : rowsOf w0 h e a n K := by
  refine ⟨ys, hl, fun ad had j x hj => ?_, fun ha => ?_, hk⟩
  · obtain ⟨ad', had', hc⟩ := hr j x hj
    rw [had] at had'
    injection had' with had'
    subst had'
    exact hc
  · cases ys with
    | nil => rfl
    | cons y ys =>
      obtain ⟨ad, had, _⟩ := hr 0 y rfl
      rw [ha] at had; cases had

theorem rows8 {w0 : World} {h : AH} {a : Option Addr} {l : List UInt8} {n : Nat} {K : ByteArray → Prop} (hr : Rd w0 h a (u8s l)) (hn : n = l.length) (hk : K ⟨l.toArray⟩) :
    rowsOf w0 h 1 a n fun ys => ∃ s : ByteArray, ys = intsOf s ∧ K s :=
  rowsOf_of hr (by rw [u8s_length]; omega) ⟨⟨l.toArray⟩, by simp [u8s, intsOf], hk⟩

theorem bytesOf (l : List UInt8) : ByteArray.toList ⟨l.toArray⟩ = l := ByteArray.toList_mk l

/-! ### api.Table as it lies in memory: five cells -/
structure Tab where
  num : Int
  lev : Int
  siz : Int
  lp : Option Addr
  ln : Nat
  lc : Nat
  mp : Option Addr
  mn : Nat
  mc : Nat
  lb : List UInt8
  mb : List UInt8

def Tab.cells (t : Tab) : List Value := [.int .i64 t.num, .int .i64 t.lev, .int .i64 t.siz, .slice t.lp t.ln t.lc, .slice t.mp t.mn t.mc]
def tabs (l : List Tab) : List Value := l.flatMap Tab.cells

/-- The numbers are numbers; the keys' bytes are readable. -/
structure Tab.Ok (w0 : World) (h : AH) (t : Tab) : Prop where
  num : -9223372036854775808 ≤ t.num ∧ t.num ≤ 9223372036854775807
  lev : -9223372036854775808 ≤ t.lev ∧ t.lev ≤ 9223372036854775807
  siz : -9223372036854775808 ≤ t.siz ∧ t.siz ≤ 9223372036854775807
  lb : Rs w0 h t.lp (u8s t.lb)
  mb : Rs w0 h t.mp (u8s t.mb)
  ln : t.ln = t.lb.length
  mn : t.mn = t.mb.length
  lsm : t.ln ≤ 140737488355328
  msm : t.mn ≤ 140737488355328

theorem Tab.Ok.ext {w0 : World} {h h' : AH} {t : Tab} (o : t.Ok w0 h) (hx : Ext h h' none) : t.Ok w0 h' :=
  ⟨o.num, o.lev, o.siz, o.lb.ext hx, o.mb.ext hx, o.ln, o.mn, o.lsm, o.msm⟩

theorem tabs_length (l : List Tab) : (tabs l).length = l.length * 5 := by
  induction l with
  | nil => rfl
  | cons t l ih =>
    simp only [tabs, List.flatMap_cons, List.length_append, List.length_cons] at ih ⊢
    rw [ih]
    simp [Tab.cells]
    omega

theorem tabs_append (l m : List Tab) : tabs (l ++ m) = tabs l ++ tabs m := by simp [tabs]

theorem tabs_get : ∀ {l : List Tab} {i : Nat} {t : Tab} {j : Nat} {x : Value}, l[i]? = some t → t.cells[j]? = some x → (tabs l)[i * 5 + j]? = some x
  | [], i, t, j, x, h, _ => by simp at h
  | u :: l, 0, t, j, x, h, hj => by
    simp at h
    subst h
    have := (List.getElem?_eq_some_iff.1 hj).1
    simp only [tabs, List.flatMap_cons, Nat.zero_mul, Nat.zero_add]
    rw [List.getElem?_append_left this]
    exact hj
  | u :: l, i + 1, t, j, x, h, hj => by
    have ih := tabs_get (l := l) (i := i) (by simpa using h) hj
    have hu : u.cells.length = 5 := rfl
    simp only [tabs, List.flatMap_cons]
    rw [List.getElem?_append_right (by omega), hu, show (i + 1) * 5 + j - 5 = i * 5 + j by omega]
    exact ih

/-- The i-th table of a row of tables, as the evaluator asks for it. -/
theorem tab_at {w0 : World} {h : AH} {a : Option Addr} {l : List Tab} {i : Nat} {t : Tab} (hr : Rd w0 h a (tabs l)) (hi : l[i]? = some t) :
    ∃ ad, a = some ad ∧ At w0 h (ad.add (i * 5)) t.cells := by
  obtain ⟨ad, ha, _⟩ := hr (i * 5 + 0) _ (tabs_get hi (j := 0) rfl)
  refine ⟨ad, ha, fun j x hj => ?_⟩
  obtain ⟨ad', ha', hc⟩ := hr _ _ (tabs_get hi hj)
  rw [ha] at ha'
  injection ha' with ha'
  subst ha'
  rw [Deep.add_add]
  exact hc

@[reducible] def Tab.agg (t : Tab) : Value := .agg #[.int .i64 t.num, .int .i64 t.lev, .int .i64 t.siz, .slice t.lp t.ln t.lc, .slice t.mp t.mn t.mc]

/-- A slice of tables. -/
structure TS (w0 : World) (h : AH) (a : Option Addr) (n c : Nat) (ts : List Tab) : Prop where
  rs : Rs w0 h a (tabs ts)
  len : n = ts.length
  cap : n ≤ c
  sm : n ≤ 1000000000000000
  ok : ∀ t ∈ ts, t.Ok w0 h

theorem TS.ext {w0 : World} {h h' : AH} {a : Option Addr} {n c : Nat} {ts : List Tab} (s : TS w0 h a n c ts) (hx : Ext h h' none) : TS w0 h' a n c ts :=
  ⟨s.rs.ext hx, s.len, s.cap, s.sm, fun t ht => (s.ok t ht).ext hx⟩

/-- A slice of numbers. -/
structure IS (w0 : World) (h : AH) (a : Option Addr) (n c : Nat) (xs : List Int) : Prop where
  rs : Rs w0 h a (ints xs)
  len : n = xs.length
  cap : n ≤ c
  sm : n ≤ 1000000000000000
  ok : ∀ x ∈ xs, -9223372036854775808 ≤ x ∧ x ≤ 9223372036854775807

theorem IS.ext {w0 : World} {h h' : AH} {a : Option Addr} {n c : Nat} {xs : List Int} (s : IS w0 h a n c xs) (hx : Ext h h' none) : IS w0 h' a n c xs :=
  ⟨s.rs.ext hx, s.len, s.cap, s.sm, s.ok⟩

theorem tabLoad {w0 : World} {h : AH} {a : Option Addr} {n i : Nat} {ts : List Tab} {t : Tab} {B : Int → Int → Int → Option Addr → Nat → Nat → Option Addr → Nat → Nat → Prop}
    (hr : Rd w0 h a (tabs ts)) (hn : n = ts.length) (hi : ts[i]? = some t) (hb : B t.num t.lev t.siz t.lp t.ln t.lc t.mp t.mn t.mc) :
    ∃ a' : Addr, (a = some a' ∧ ((0 : Int) ≤ ((i : Nat) : Int) ∧ (((i : Nat) : Int) < ((n : Nat) : Int) ∧ ∃ i1 i2 i3 : Int, ∃ p4 : Option Addr, ∃ n5 n6 : Nat, ∃ p7 : Option Addr, ∃ n8 n9 : Nat,
      ((Array.size #[Value.int .i64 i1, Value.int .i64 i2, Value.int .i64 i3, Value.slice p4 n5 n6, Value.slice p7 n8 n9] = 5 ∧
        At w0 h (a'.add (Int.toNat ((i : Nat) : Int) * 5)) [Value.int .i64 i1, Value.int .i64 i2, Value.int .i64 i3, Value.slice p4 n5 n6, Value.slice p7 n8 n9]) ∧ B i1 i2 i3 p4 n5 n6 p7 n8 n9)))) := by
  obtain ⟨ad, had, hat⟩ := tab_at hr hi
  have := (List.getElem?_eq_some_iff.1 hi).1
  exact ⟨ad, had, by omega, by omega, _, _, _, _, _, _, _, _, _, ⟨rfl, by simpa [Tab.cells] using hat⟩, hb⟩

theorem intLoad {w0 : World} {h : AH} {a : Option Addr} {n i : Nat} {xs : List Int} {x : Int} {B : Int → Prop} (hr : Rd w0 h a (ints xs)) (hn : n = xs.length) (hi : xs[i]? = some x) (hb : B x) :
    ∃ a' : Addr, (a = some a' ∧ ((0 : Int) ≤ ((i : Nat) : Int) ∧ (((i : Nat) : Int) < ((n : Nat) : Int) ∧ ∃ i1 : Int, (cellA w0 h (a'.add (Int.toNat ((i : Nat) : Int) * 1)) = some (Value.int .i64 i1) ∧ B i1)))) := by
  obtain ⟨ad, had, hc⟩ := hr _ _ (ints_get hi)
  have := (List.getElem?_eq_some_iff.1 hi).1
  exact ⟨ad, had, by omega, by omega, _, by simpa using hc, hb⟩

theorem drop_step {α : Type} {l : List α} {i : Nat} {x : α} {r : List α} (h : l.drop i = x :: r) : l[i]? = some x ∧ l.drop (i + 1) = r ∧ i < l.length := by
  have hlt : i < l.length := by
    by_cases q : i < l.length
    · exact q
    · rw [List.drop_eq_nil_of_le (by omega)] at h; cases h
  rw [List.drop_eq_getElem_cons hlt] at h
  injection h with h1 h2
  exact ⟨by rw [List.getElem?_eq_getElem hlt, h1], h2, hlt⟩
theorem drop_done {α : Type} {l : List α} {i : Nat} (h : l.drop i = []) : l.length ≤ i := by
  have := congrArg List.length h
  simp at this; omega
theorem wrapS {i : Nat} (h : i ≤ 1000000000000000) : IntKind.i64.wrap (((i : Nat) : Int) + 1) = ((i + 1 : Nat) : Int) := by
  rw [wrap64 (by omega) (by omega)]; simp
theorem dup {A : Prop} (h : A) : A ∧ A := ⟨h, h⟩

theorem Rd.front {w0 : World} {h : AH} {a : Option Addr} {xs ys : List Value} (hr : Rd w0 h a (xs ++ ys)) : Rd w0 h a xs := fun j x hj => hr j x (by
  rw [List.getElem?_append_left (List.getElem?_eq_some_iff.1 hj).1]; exact hj)
theorem Rs.front {w0 : World} {h : AH} {a : Option Addr} {xs ys : List Value} (hr : Rs w0 h a (xs ++ ys)) : Rs w0 h a xs := fun h' hx => (hr h' hx).front
theorem Rd.nil {w0 : World} {h : AH} {a : Option Addr} : Rd w0 h a [] := fun j x hj => by simp at hj
theorem add_mul (ad : Addr) (k j : Nat) : (ad.add k).add j = ad.add (k + j) := Deep.add_add ad k j
theorem Rd.cut {w0 : World} {h : AH} {a : Option Addr} {e c k : Nat} {xs ys : List Value} (hr : Rd w0 h a (xs ++ ys)) (hk : xs.length = k * e) (hc : ys ≠ [] → c ≠ k) : Rd w0 h (cutA e a c k) ys := fun j x hj => by
  have hne : ys ≠ [] := fun q => by subst q; simp at hj
  obtain ⟨ad, had, hcell⟩ := hr (xs.length + j) x (by rw [List.getElem?_append_right (by omega)]; simpa using hj)
  subst had
  refine ⟨ad.add (k * e), by simp [cutA, hc hne], ?_⟩
  rw [add_mul, ← hk]; exact hcell
theorem Rs.cut {w0 : World} {h : AH} {a : Option Addr} {e c k : Nat} {xs ys : List Value} (hr : Rs w0 h a (xs ++ ys)) (hk : xs.length = k * e) (hc : ys ≠ [] → c ≠ k) : Rs w0 h (cutA e a c k) ys := fun h' hx => (hr h' hx).cut hk hc

theorem TS.take {w0 : World} {h : AH} {a : Option Addr} {n c i : Nat} {ts : List Tab} (s : TS w0 h a n c ts) (hi : i ≤ n) : TS w0 h a i c (ts.take i) := by
  refine ⟨?_, by simp; have := s.len; omega, by have := s.cap; omega, by have := s.sm; omega, fun t ht => s.ok t (List.mem_of_mem_take ht)⟩
  have := s.rs
  rw [← List.take_append_drop i ts, tabs_append] at this
  exact this.front
theorem TS.drop {w0 : World} {h : AH} {a : Option Addr} {n c i : Nat} {ts : List Tab} (s : TS w0 h a n c ts) (hi : i ≤ n) : TS w0 h (cutA 5 a c i) (n - i) (c - i) (ts.drop i) := by
  refine ⟨?_, by simp; have := s.len; omega, by have := s.cap; omega, by have := s.sm; omega, fun t ht => s.ok t (List.mem_of_mem_drop ht)⟩
  have := s.rs
  rw [← List.take_append_drop i ts, tabs_append] at this
  refine this.cut (by rw [tabs_length]; have := s.len; simp; omega) fun hne => ?_
  have : ts.drop i ≠ [] := fun q => hne (by rw [q]; rfl)
  have h1 : i < ts.length := by
    by_cases q : i < ts.length
    · exact q
    · exact absurd (List.drop_eq_nil_of_le (by omega)) this
  have := s.cap
  have := s.len
  omega
theorem IS.take {w0 : World} {h : AH} {a : Option Addr} {n c i : Nat} {ts : List Int} (s : IS w0 h a n c ts) (hi : i ≤ n) : IS w0 h a i c (ts.take i) := by
  refine ⟨?_, by simp; have := s.len; omega, by have := s.cap; omega, by have := s.sm; omega, fun t ht => s.ok t (List.mem_of_mem_take ht)⟩
  have := s.rs
  rw [← List.take_append_drop i ts, ints, List.map_append] at this
  exact this.front
theorem TS.rows {w0 : World} {h : AH} {a : Option Addr} {n c : Nat} {ts : List Tab} (s : TS w0 h a n c ts) {K : List Value → Prop} (hk : K (tabs ts)) : rowsOf w0 h 5 a n K :=
  rowsOf_of s.rs.rd (by rw [tabs_length, s.len]) hk
theorem tabs_cell (l : List Tab) : ∀ y ∈ tabs l, y.oneCell' = true := fun y hy => by
  simp only [tabs, List.mem_flatMap, Tab.cells] at hy
  obtain ⟨t, _, ht⟩ := hy
  simp at ht
  rcases ht with rfl | rfl | rfl | rfl | rfl <;> rfl
theorem u8s_cell (l : List UInt8) : ∀ y ∈ u8s l, y.oneCell' = true := fun y hy => by
  simp only [u8s, List.mem_map] at hy
  obtain ⟨t, _, rfl⟩ := hy
  rfl
theorem ints_cell (l : List Int) : ∀ y ∈ ints l, y.oneCell' = true := fun y hy => by
  simp only [ints, List.mem_map] at hy
  obtain ⟨t, _, rfl⟩ := hy
  rfl
/-- A slice of the law's own, of tables. -/
theorem Sl.ts {w0 : World} {h : AH} {a : Option Addr} {n c : Nat} {ts : List Tab} (s : Sl w0 h 5 a n c (tabs ts)) (hsm : n ≤ 1000000000000000) (hok : ∀ t ∈ ts, t.Ok w0 h) : TS w0 h a n c ts :=
  ⟨s.rs, by have := s.1; rw [tabs_length] at this; omega, s.2.1, hsm, hok⟩
theorem Sl.len5 {w0 : World} {h : AH} {a : Option Addr} {n c : Nat} {ts : List Tab} (s : Sl w0 h 5 a n c (tabs ts)) : n = ts.length := by have := s.1; rw [tabs_length] at this; omega

/-- What a table says, wherever its keys lie. -/
def Tab.dat (t : Tab) : Int × Int × Int × List UInt8 × List UInt8 := (t.num, t.lev, t.siz, t.lb, t.mb)
theorem TS.one {w0 : World} {h : AH} {a : Option Addr} {n c i : Nat} {ts : List Tab} {t : Tab} (s : TS w0 h a n c ts) (hi : ts[i]? = some t) : TS w0 h (cutA 5 a c i) 1 (c - i) [t] := by
  have hlt := (List.getElem?_eq_some_iff.1 hi).1
  have hl := s.len
  have := (s.drop (i := i) (by omega)).take (i := 1) (by omega)
  rw [List.drop_eq_getElem_cons hlt] at this
  have e : ts[i] = t := by rw [List.getElem?_eq_getElem hlt] at hi; injection hi
  rw [e] at this
  simpa using this
theorem TS.none0 {w0 : World} {h : AH} : TS w0 h none 0 0 [] := ⟨fun _ _ => Rd.nil, rfl, Nat.le_refl _, by omega, fun _ ht => by cases ht⟩
theorem IS.none0 {w0 : World} {h : AH} : IS w0 h none 0 0 [] := ⟨fun _ _ => Rd.nil, rfl, Nat.le_refl _, by omega, fun _ ht => by cases ht⟩

/-! ### what stays readable while a slice of the law's own grows -/
theorem Sl.extX {w0 : World} {h h' : AH} {e : Nat} {a x : Option Addr} {n c : Nat} {xs : List Value} (s : Sl w0 h e a n c xs) (hx : Ext h h' x) (hne : ∀ ad bd, a = some ad → x = some bd → ad.block ≠ bd.block) : Sl w0 h' e a n c xs := by
  obtain ⟨h1, h2, h3⟩ := s
  refine ⟨h1, h2, ?_⟩
  cases a with
  | none => exact h3
  | some ad =>
    obtain ⟨g1, g2, g3, g4⟩ := h3
    exact ⟨g1, g2, g3, hx _ _ g4 (fun bd e => hne ad bd rfl e) rfl⟩
theorem Ext.grow {h h2 h3 h' : AH} {a a' : Option Addr} (x : Ext h h2 none) (y : Ext h2 h3 a) (g : a' = a ∨ ∃ ad, a' = some ad ∧ h2 ad.block = none) (z : Ext h3 h' a') : Ext h h' a := fun i o hi hne p => by
  have h2i := x i o hi (fun _ e => by cases e) p
  refine z i o (y i o h2i hne p) (fun ad e q => ?_) p
  rcases g with rfl | ⟨ad', rfl, hb⟩
  · exact hne ad e q
  · injection e with e
    subst e
    rw [← q, h2i] at hb; cases hb
/-- The table is readable in all to come, whatever becomes of x's row. -/
def Tab.OkX (w0 : World) (h : AH) (x : Option Addr) (t : Tab) : Prop := ∀ h', Ext h h' x → t.Ok w0 h'
theorem Tab.OkX.ok {w0 : World} {h : AH} {x : Option Addr} {t : Tab} (o : t.OkX w0 h x) : t.Ok w0 h := o h (Ext.refl _ _)
theorem Tab.OkX.grow {w0 : World} {h h2 h3 : AH} {a a' : Option Addr} {t : Tab} (o : t.OkX w0 h a) (x : Ext h h2 none) (y : Ext h2 h3 a) (g : a' = a ∨ ∃ ad, a' = some ad ∧ h2 ad.block = none) : t.OkX w0 h3 a' := fun _ z => o _ (x.grow y g z)
/-- A new row beside a slice that grows: its cells stay. -/
theorem Sl.beside {w0 : World} {h h1 h2 h3 h' : AH} {e e' : Nat} {a a' b : Option Addr} {n c m d : Nat} {xs ys : List Value} (so : Sl w0 h e' a m d ys) (sb : Sl w0 h1 e b n c xs) (hb : b = none ∨ ∃ ad, b = some ad ∧ h ad.block = none)
    (x : Ext h1 h2 none) (y : Ext h2 h3 a) (g : a' = a ∨ ∃ ad, a' = some ad ∧ h2 ad.block = none) (z : Ext h3 h' a') : Sl w0 h' e b n c xs := by
  have s2 := sb.ext x
  have hne : ∀ ad bd, b = some ad → a = some bd → ad.block ≠ bd.block := fun ad bd hb' ha q => by
    subst ha
    rcases hb with rfl | ⟨ad', hq, hbn⟩
    · cases hb'
    · rw [hq] at hb'
      injection hb' with hb'
      subst hb'
      have := so.2.2.2.2.2
      rw [← q, hbn] at this; cases this
  refine (s2.extX y hne).extX z fun ad bd hb' ha q => ?_
  rcases g with rfl | ⟨ad', rfl, hn⟩
  · exact hne ad bd hb' ha q
  · injection ha with ha
    subst ha
    subst hb'
    have := s2.2.2.2.2.2
    rw [q, hn] at this; cases this
end Go.G
