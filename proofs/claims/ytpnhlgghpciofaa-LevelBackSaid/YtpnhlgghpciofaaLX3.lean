/- symMerge's loops. -/
import Derived.Test.YtpnhlgghpciofaaLX2
import Derived.Test.YtpnhlgghpciofaaProg
set_option maxRecDepth 100000
namespace Go.G.Ytpnhlgghpciofaa
open Go.RowKit
theorem crossLe {X Y : List Tab} (hx : X.Pairwise LeT) (hy : Y.Pairwise LeT) (h : X = [] ∨ Y = [] ∨ ∃ X' l f Y', X = X' ++ [l] ∧ Y = f :: Y' ∧ LeT l f) : ∀ x ∈ X, ∀ y ∈ Y, LeT x y := by
  rcases h with rfl | rfl | ⟨X', l, f, Y', rfl, rfl, hlf⟩
  · intro x hx; cases hx
  · intro x _ y hy; cases hy
  · intro x hx' y hy'
    have h1 : LeT x f := by
      rcases List.mem_append.1 hx' with q | q
      · exact LeT.trans ((List.pairwise_append.1 hx).2.2 x q l (by simp)) hlf
      · rw [List.mem_singleton.1 q]; exact hlf
    rcases List.mem_cons.1 hy' with rfl | q
    · exact h1
    · exact LeT.trans h1 ((List.pairwise_cons.1 hy).1 y q)
theorem lastOf {X : List Tab} (h : 0 < X.length) : ∃ X' l, X = X' ++ [l] := by
  rcases List.eq_nil_or_concat X with e | ⟨X', b, e⟩
  · rw [e] at h; simp at h
  · exact ⟨X', b, by simpa using e⟩
theorem headOf {X : List Tab} (h : 0 < X.length) : ∃ f X', X = f :: X' := by
  cases X with
  | nil => simp at h
  | cons f X' => exact ⟨f, X', rfl⟩

section
variable {w0 : World} {K : Value → AH → Prop} {h0 : AH} {ad : Addr} {n c : Nat} {us0 : List Tab}
variable (hok : ∀ t ∈ us0, t.OkX w0 h0 (some ad)) (hn : n ≤ 1000000)
include hok hn

omit hn in
/-- The comparison of two places. -/
theorem cmpAt {h : AH} {us : List Tab} (s : SS w0 h0 ad n c us0 h us) {i j : Nat} (hi : i < n) (hj : j < n) : ∃ t u, us[i]? = some t ∧ us[j]? = some u ∧ t.Ok w0 h ∧ u.Ok w0 h ∧
    At w0 h (ad.add (Int.toNat ((i : Nat) : Int) * 5)) t.cells ∧ At w0 h (ad.add (Int.toNat ((j : Nat) : Int) * 5)) u.cells := by
  have hl := s.len
  have ht : us[i]? = some us[i] := List.getElem?_eq_getElem (by omega)
  have hu : us[j]? = some us[j] := List.getElem?_eq_getElem (by omega)
  exact ⟨_, _, ht, hu, s.ok hok (List.mem_of_getElem? ht), s.ok hok (List.mem_of_getElem? hu), by rw [Int.toNat_natCast]; exact s.at ht, by rw [Int.toNat_natCast]; exact s.at hu⟩

omit hok in
theorem f81_9_ok {P B1 R : List Tab} {x : Tab} (hk : ∀ h', SS w0 h0 ad n c us0 h' (P ++ B1 ++ x :: R) → K (.tuple #[]) h') {i : Nat} (hi : i = P.length + B1.length + 1) :
    ∀ (C2 C1 : List Tab) (h : AH), B1 = C1 ++ C2 → SS w0 h0 ad n c us0 h (P ++ C1 ++ x :: (C2 ++ R)) → f81_9 w0 K (some ad) n c ((i : Nat) : Int) ((P.length + C1.length : Nat) : Int) h := by
  intro C2
  induction C2 with
  | nil =>
    intro C1 h e s
    have hl := s.len
    have e' : C1 = B1 := by rw [e]; simp
    subst e'
    simp only [List.length_append, List.length_cons, List.length_nil] at hl
    refine f81_9_in _ _ _ _ _ _ (brB_of (fun q => ?_) fun _ => hk h (by simpa using s))
    rw [predS (by omega) (by omega)] at q
    simp at q; omega
  | cons y C2 ih =>
    intro C1 h e s
    have hl := s.len
    have eB : B1.length = C1.length + (C2.length + 1) := by rw [e]; simp
    have eU : P ++ C1 ++ x :: (y :: C2 ++ R) = (P ++ C1) ++ x :: y :: (C2 ++ R) := by simp
    have gx : (P ++ C1 ++ x :: (y :: C2 ++ R))[(P ++ C1).length]? = some x := by rw [eU]; exact getMid
    have gy : (P ++ C1 ++ x :: (y :: C2 ++ R))[(P ++ C1).length + 1]? = some y := by rw [eU]; exact getMid1
    have hPC : (P ++ C1).length = P.length + C1.length := by simp
    have hlen : (P ++ C1 ++ x :: (y :: C2 ++ R)).length = n := s.len.symm
    simp only [List.length_append, List.length_cons] at hl
    have ax : At w0 h (ad.add (Int.toNat ((P.length + C1.length : Nat) : Int) * 5)) x.cells := by rw [Int.toNat_natCast, ← hPC]; exact s.at gx
    have ay : At w0 h (ad.add (Int.toNat ((P.length + C1.length + 1 : Nat) : Int) * 5)) y.cells := by rw [Int.toNat_natCast, ← hPC]; exact s.at gy
    have tail := swapTail (C := fun h => f81_9 w0 K (some ad) n c ((i : Nat) : Int) ((P.length + C1.length + 1 : Nat) : Int) h) (X := ((P.length + C1.length : Nat) : Int)) (Y := ((P.length + C1.length + 1 : Nat) : Int)) (t := y) (u := x) (i := (P ++ C1).length) (j := (P ++ C1).length + 1)
      s.so (by rw [hPC]) (by rw [hPC]) (by omega) (by omega) fun h' so' hx' => by
        have s' := s.swap gx gy so' hx'
        rw [eU, swapAdj'] at s'
        have := ih (C1 ++ [y]) h' (by rw [e]; simp) (by simpa using s')
        rw [show P.length + C1.length + 1 = P.length + (C1 ++ [y]).length by simp; omega]
        exact this
    refine f81_9_in _ _ _ _ _ _ (brB_of (fun _ => ?_) fun q => ?_)
    · rw [wrapS (by omega)]
      exact ⟨ad, rfl, by omega, by omega, ad, rfl, by omega, by omega, aggAt (t := y) ay (aggAt (t := x) ax tail), aggAt (t := x) ax (aggAt (t := y) ay tail)⟩
    · rw [predS (by omega) (by omega)] at q
      simp at q; omega

omit hok in
theorem f81_21_ok {P A2 R : List Tab} {x : Tab} (hk : ∀ h', SS w0 h0 ad n c us0 h' (P ++ x :: (A2 ++ R)) → K (.tuple #[]) h') {i : Nat} (hi : i = P.length) :
    ∀ (k : Nat) (C1 C2 : List Tab) (h : AH), C1.length = k → A2 = C1 ++ C2 → SS w0 h0 ad n c us0 h (P ++ C1 ++ x :: (C2 ++ R)) → f81_21 w0 K (some ad) n c ((i : Nat) : Int) ((P.length + C1.length : Nat) : Int) h := by
  intro k
  induction k with
  | zero =>
    intro C1 C2 h hk' e s
    have hC : C1 = [] := List.eq_nil_of_length_eq_zero hk'
    subst hC
    have e' : A2 = C2 := by rw [e]; simp
    subst e'
    exact f81_21_in _ _ _ _ _ _ (brB_of (fun q => by simp at q; omega) fun _ => hk h (by simpa using s))
  | succ k ih =>
    intro C1 C2 h hk' e s
    obtain ⟨D, y, rfl⟩ := lastOf (X := C1) (by omega)
    have hl := s.len
    have eU : P ++ (D ++ [y]) ++ x :: (C2 ++ R) = (P ++ D) ++ y :: x :: (C2 ++ R) := by simp
    have eJ : P.length + (D ++ [y]).length = P.length + D.length + 1 := by simp; omega
    have gy : (P ++ (D ++ [y]) ++ x :: (C2 ++ R))[(P ++ D).length]? = some y := by rw [eU]; exact getMid
    have gx : (P ++ (D ++ [y]) ++ x :: (C2 ++ R))[(P ++ D).length + 1]? = some x := by rw [eU]; exact getMid1
    have hPD : (P ++ D).length = P.length + D.length := by simp
    have hlen : (P ++ (D ++ [y]) ++ x :: (C2 ++ R)).length = n := s.len.symm
    simp only [List.length_append, List.length_cons, List.length_nil] at hl
    have ay : At w0 h (ad.add (Int.toNat ((P.length + D.length : Nat) : Int) * 5)) y.cells := by rw [Int.toNat_natCast, ← hPD]; exact s.at gy
    have ax : At w0 h (ad.add (Int.toNat ((P.length + D.length + 1 : Nat) : Int) * 5)) x.cells := by rw [Int.toNat_natCast, ← hPD]; exact s.at gx
    have tail := swapTail (C := fun h => f81_21 w0 K (some ad) n c ((i : Nat) : Int) ((P.length + D.length : Nat) : Int) h) (X := ((P.length + D.length + 1 : Nat) : Int)) (Y := ((P.length + D.length : Nat) : Int)) (t := y) (u := x) (i := (P ++ D).length + 1) (j := (P ++ D).length)
      s.so (by rw [hPD]) (by rw [hPD]) (by omega) (by omega) fun h' so' hx' => by
        have s' := s.swap gx gy so' hx'
        rw [eU, swapAdj] at s'
        simp only [List.length_append, List.length_cons, List.length_nil] at hk'
        exact ih D (y :: C2) h' (by omega) (by rw [e]; simp) (by simpa using s')
    rw [eJ]
    refine f81_21_in _ _ _ _ _ _ (brB_of (fun _ => ?_) fun q => by simp at q; omega)
    rw [predS (by omega) (by omega), show P.length + D.length + 1 - 1 = P.length + D.length by omega]
    exact ⟨ad, rfl, by omega, by omega, ad, rfl, by omega, by omega, aggAt (t := y) ay (aggAt (t := x) ax tail), aggAt (t := x) ax (aggAt (t := y) ay tail)⟩
end
/-- What a search knows of its edges. -/
def E1 (us : List Tab) (x : Tab) (m i : Nat) : Prop := i = m ∨ ∃ t, us[i - 1]? = some t ∧ ordR t x < 0
def E2 (us : List Tab) (x : Tab) (b j : Nat) : Prop := j = b ∨ ∃ t, us[j]? = some t ∧ ¬ ordR t x < 0
def E3 (us : List Tab) (x : Tab) (a i : Nat) : Prop := i = a ∨ ∃ t, us[i - 1]? = some t ∧ ¬ ordR x t < 0
def E4 (us : List Tab) (x : Tab) (m j : Nat) : Prop := j = m ∨ ∃ t, us[j]? = some t ∧ ordR x t < 0
def E5 (us : List Tab) (p lo st : Nat) : Prop := st = lo ∨ ∃ t u, us[p - (st - 1)]? = some t ∧ us[st - 1]? = some u ∧ ¬ ordR t u < 0
def E6 (us : List Tab) (p hi st : Nat) : Prop := st = hi ∨ ∃ t u, us[p - st]? = some t ∧ us[st]? = some u ∧ ordR t u < 0
section
variable {w0 : World} {K : Value → AH → Prop} {h0 : AH} {ad : Addr} {n c : Nat} {us0 : List Tab}
variable (hok : ∀ t ∈ us0, t.OkX w0 h0 (some ad)) (hn : n ≤ 1000000)
include hok hn

/-- The search of the first one's place: what stands before it is less, what stands behind it is not. -/
theorem f81_3_ok {us : List Tab} {h : AH} (s : SS w0 h0 ad n c us0 h us) {a m b : Nat} {x : Tab} (ha : us[a]? = some x) (han : a < n) (hb : b ≤ n)
    (hk : ∀ i, m ≤ i → i ≤ b → E1 us x m i → E2 us x b i → f81_9 w0 K (some ad) n c ((i : Nat) : Int) ((a : Nat) : Int) h) :
    ∀ (d i j : Nat), j - i ≤ d → m ≤ i → i ≤ j → j ≤ b → E1 us x m i → E2 us x b j →
      f81_3 w0 K (some ad) n c ((a : Nat) : Int) ((i : Nat) : Int) ((j : Nat) : Int) h := by
  intro d
  induction d with
  | zero =>
    intro i j hd hmi hij hjb hi hj
    have : i = j := by omega
    subst this
    exact f81_3_in _ _ _ _ _ _ _ (brB_of (fun z => by simp at z) fun _ => hk i hmi hjb hi hj)
  | succ d ih =>
    intro i j hd hmi hij hjb hi hj
    refine f81_3_in _ _ _ _ _ _ _ (brB_of (fun z => ?_) fun z => ?_)
    · have hlt : i < j := by simp at z; omega
      rw [midS (by omega)]
      obtain ⟨u, x', hu, hx', ou, ox, au, ax⟩ := cmpAt hok s (i := (i + j) / 2) (j := a) (by omega) han
      have : x' = x := by rw [ha] at hx'; injection hx' with e; exact e.symm
      subst this
      have yes : ordR u x' < 0 → f81_3 w0 K (some ad) n c ((a : Nat) : Int) (IntKind.i64.wrap ((((i + j) / 2 : Nat) : Int) + 1)) ((j : Nat) : Int) h := fun hy => by
        rw [wrapS (by omega)]
        exact ih _ _ (by omega) (by omega) (by omega) hjb (Or.inr ⟨u, by simpa using hu, hy⟩) hj
      have no : ¬ ordR u x' < 0 → f81_3 w0 K (some ad) n c ((a : Nat) : Int) ((i : Nat) : Int) (((i + j) / 2 : Nat) : Int) h := fun hy =>
        ih _ _ (by omega) hmi (by omega) (by omega) hi (Or.inr ⟨u, hu, hy⟩)
      exact ⟨by omega, ad, rfl, by omega, by omega, ad, rfl, by omega, by omega,
        aggAt (t := u) au (aggAt (t := x') ax (f53_spec (t := u) (u := x') ou ox ⟨_, rfl, brB_of (fun q => yes (by simpa using q)) fun q => no (by simpa using q)⟩)),
        aggAt (t := x') ax (aggAt (t := u) au (f53_spec (t := u) (u := x') ou ox ⟨_, rfl, brB_of (fun q => yes (by simpa using q)) fun q => no (by simpa using q)⟩))⟩
    · have : i = j := by simp at z; omega
      subst this
      exact hk i hmi hjb hi hj

theorem f81_15_ok {us : List Tab} {h : AH} (s : SS w0 h0 ad n c us0 h us) {a m : Nat} {x : Tab} (hm : us[m]? = some x) (hmn : m < n)
    (hk : ∀ i, a ≤ i → i ≤ m → E3 us x a i → E4 us x m i → f81_21 w0 K (some ad) n c ((i : Nat) : Int) ((m : Nat) : Int) h) :
    ∀ (d i j : Nat), j - i ≤ d → a ≤ i → i ≤ j → j ≤ m → E3 us x a i → E4 us x m j →
      f81_15 w0 K (some ad) n c ((m : Nat) : Int) ((i : Nat) : Int) ((j : Nat) : Int) h := by
  intro d
  induction d with
  | zero =>
    intro i j hd hmi hij hjb hi hj
    have : i = j := by omega
    subst this
    exact f81_15_in _ _ _ _ _ _ _ (brB_of (fun z => by simp at z) fun _ => hk i hmi hjb hi hj)
  | succ d ih =>
    intro i j hd hmi hij hjb hi hj
    refine f81_15_in _ _ _ _ _ _ _ (brB_of (fun z => ?_) fun z => ?_)
    · have hlt : i < j := by simp at z; omega
      rw [midS (by omega)]
      obtain ⟨x', u, hx', hu, ox, ou, ax, au⟩ := cmpAt hok s (i := m) (j := (i + j) / 2) hmn (by omega)
      have : x' = x := by rw [hm] at hx'; injection hx' with e; exact e.symm
      subst this
      have yes : ¬ ordR x' u < 0 → f81_15 w0 K (some ad) n c ((m : Nat) : Int) (IntKind.i64.wrap ((((i + j) / 2 : Nat) : Int) + 1)) ((j : Nat) : Int) h := fun hy => by
        rw [wrapS (by omega)]
        exact ih _ _ (by omega) (by omega) (by omega) hjb (Or.inr ⟨u, by simpa using hu, hy⟩) hj
      have no : ordR x' u < 0 → f81_15 w0 K (some ad) n c ((m : Nat) : Int) ((i : Nat) : Int) (((i + j) / 2 : Nat) : Int) h := fun hy =>
        ih _ _ (by omega) hmi (by omega) (by omega) hi (Or.inr ⟨u, hu, hy⟩)
      exact ⟨by omega, ad, rfl, by omega, by omega, ad, rfl, by omega, by omega,
        aggAt (t := x') ax (aggAt (t := u) au (f53_spec (t := x') (u := u) ox ou ⟨_, rfl, brB_of (fun q => yes (by simpa using q)) fun q => no (by simpa using q)⟩)),
        aggAt (t := u) au (aggAt (t := x') ax (f53_spec (t := x') (u := u) ox ou ⟨_, rfl, brB_of (fun q => yes (by simpa using q)) fun q => no (by simpa using q)⟩))⟩
    · have : i = j := by simp at z; omega
      subst this
      exact hk i hmi hjb hi hj

theorem f81_33_ok {us : List Tab} {h : AH} (s : SS w0 h0 ad n c us0 h us) {a m b mid nn lo hi p : Nat} (hp : p + 1 = nn) (hhi : hi ≤ n) (hpn : ∀ cc, lo ≤ cc → cc < hi → cc ≤ p ∧ p - cc < n) (hnn : nn ≤ 3000000)
    (hk : ∀ st, lo ≤ st → st ≤ hi → E5 us p lo st → E6 us p hi st →
      brB (decide (((st : Nat) : Int) < ((m : Nat) : Int))) (f81_40 w0 K (some ad) n c ((a : Nat) : Int) ((m : Nat) : Int) ((b : Nat) : Int) ((mid : Nat) : Int) ((st : Nat) : Int) (IntKind.i64.wrap (((nn : Nat) : Int) - ((st : Nat) : Int))) (decide (((m : Nat) : Int) < (IntKind.i64.wrap (((nn : Nat) : Int) - ((st : Nat) : Int))))) h)
        (f81_40 w0 K (some ad) n c ((a : Nat) : Int) ((m : Nat) : Int) ((b : Nat) : Int) ((mid : Nat) : Int) ((st : Nat) : Int) (IntKind.i64.wrap (((nn : Nat) : Int) - ((st : Nat) : Int))) false h)) :
    ∀ (d i j : Nat), j - i ≤ d → lo ≤ i → i ≤ j → j ≤ hi → E5 us p lo i → E6 us p hi j →
      f81_33 w0 K (some ad) n c ((a : Nat) : Int) ((m : Nat) : Int) ((b : Nat) : Int) ((mid : Nat) : Int) ((nn : Nat) : Int) ((i : Nat) : Int) ((j : Nat) : Int) ((p : Nat) : Int) h := by
  intro d
  induction d with
  | zero =>
    intro i j hd hmi hij hjb hi' hj
    have : i = j := by omega
    subst this
    exact f81_33_in _ _ _ _ _ _ _ _ _ _ _ _ (brB_of (fun z => by simp at z) fun _ => hk i hmi hjb hi' hj)
  | succ d ih =>
    intro i j hd hmi hij hjb hi' hj
    refine f81_33_in _ _ _ _ _ _ _ _ _ _ _ _ (brB_of (fun z => ?_) fun z => ?_)
    · have hlt : i < j := by simp at z; omega
      obtain ⟨g1, g2⟩ := hpn ((i + j) / 2) (by omega) (by omega)
      rw [midS (by omega), subS (by omega) g1]
      obtain ⟨t, u, ht, hu, ot, ou, at', au⟩ := cmpAt hok s (i := p - (i + j) / 2) (j := (i + j) / 2) g2 (by omega)
      have yes : ¬ ordR t u < 0 → f81_33 w0 K (some ad) n c ((a : Nat) : Int) ((m : Nat) : Int) ((b : Nat) : Int) ((mid : Nat) : Int) ((nn : Nat) : Int) (IntKind.i64.wrap ((((i + j) / 2 : Nat) : Int) + 1)) ((j : Nat) : Int) ((p : Nat) : Int) h := fun hy => by
        rw [wrapS (by omega)]
        exact ih _ _ (by omega) (by omega) (by omega) hjb (Or.inr ⟨t, u, by simpa using ht, by simpa using hu, hy⟩) hj
      have no : ordR t u < 0 → f81_33 w0 K (some ad) n c ((a : Nat) : Int) ((m : Nat) : Int) ((b : Nat) : Int) ((mid : Nat) : Int) ((nn : Nat) : Int) ((i : Nat) : Int) (((i + j) / 2 : Nat) : Int) ((p : Nat) : Int) h := fun hy =>
        ih _ _ (by omega) hmi (by omega) (by omega) hi' (Or.inr ⟨t, u, ht, hu, hy⟩)
      exact ⟨by omega, ad, rfl, by omega, by omega, ad, rfl, by omega, by omega,
        aggAt (t := t) at' (aggAt (t := u) au (f53_spec (t := t) (u := u) ot ou ⟨_, rfl, brB_of (fun q => yes (by simpa using q)) fun q => no (by simpa using q)⟩)),
        aggAt (t := u) au (aggAt (t := t) at' (f53_spec (t := t) (u := u) ot ou ⟨_, rfl, brB_of (fun q => yes (by simpa using q)) fun q => no (by simpa using q)⟩))⟩
    · have : i = j := by simp at z; omega
      subst this
      exact hk i hmi hjb hi' hj
end
end Go.G.Ytpnhlgghpciofaa
