/- Swaps, and what is made of them. -/
import Derived.Test.YtpnhlgghpciofaaLS
import Derived.Test.YtpnhlgghpciofaaProg
set_option maxRecDepth 100000
namespace Go.G.Ytpnhlgghpciofaa
open Go.RowKit
/-! ### two tables of a row change places -/
theorem setCells_eq : ∀ (xs pre ys post : List Value), xs.length = ys.length → setCells (pre ++ ys ++ post) pre.length xs = pre ++ xs ++ post
  | [], pre, [], post, _ => by simp [setCells]
  | x :: xs, pre, y :: ys, post, h => by
    have ih := setCells_eq xs (pre ++ [x]) ys post (by simpa using h)
    have e : ((pre ++ y :: ys ++ post).set pre.length x) = (pre ++ [x]) ++ ys ++ post := by simp
    simp only [setCells]
    rw [e, show pre.length + 1 = (pre ++ [x]).length by simp, ih]
    simp
  | [], _, _ :: _, _, h => by simp at h
  | _ :: _, _, [], _, h => by simp at h
theorem split_at {us : List Tab} {i : Nat} (hi : i < us.length) : ∃ l1 x l2, us = l1 ++ x :: l2 ∧ i = l1.length :=
  ⟨us.take i, us[i], us.drop (i + 1), by rw [← List.drop_eq_getElem_cons hi, List.take_append_drop], by simp; omega⟩
theorem tabs_set {us : List Tab} {i : Nat} {t : Tab} (hi : i < us.length) : setCells (tabs us) (i * 5) t.cells = tabs (us.set i t) := by
  obtain ⟨l1, x, l2, rfl, rfl⟩ := split_at hi
  have h1 : tabs (l1 ++ x :: l2) = tabs l1 ++ x.cells ++ tabs l2 := by simp [tabs]
  have h2 : (l1 ++ x :: l2).set l1.length t = l1 ++ t :: l2 := by simp
  have h3 : (tabs l1).length = l1.length * 5 := tabs_length l1
  rw [h1, ← h3, setCells_eq t.cells (tabs l1) x.cells (tabs l2) rfl, h2]
  simp [tabs]

theorem storeSl {w0 : World} {h : AH} {ad : Addr} {n c i : Nat} {us : List Tab} {t : Tab} (so : Sl w0 h 5 (some ad) n c (tabs us)) (hi : i < us.length) :
    w0.heap.size ≤ (ad.add (i * 5)).block ∧ (ad.add (i * 5)).spot = none ∧ h (ad.add (i * 5)).block = some (.cells (tabs us) (c * 5)) ∧ (ad.add (i * 5)).off + 5 ≤ (tabs us).length ∧
    Sl w0 (h.put (ad.add (i * 5)).block (.cells (setCells (tabs us) (ad.add (i * 5)).off t.cells) (c * 5))) 5 (some ad) n c (tabs (us.set i t)) ∧
    Ext h (h.put (ad.add (i * 5)).block (.cells (setCells (tabs us) (ad.add (i * 5)).off t.cells) (c * 5))) (some ad) := by
  obtain ⟨h1, h2, h3, h4, h5, h6⟩ := so
  have had : ad = ⟨ad.block, 0, none⟩ := by cases ad; simp_all
  have e : ad.add (i * 5) = ⟨ad.block, i * 5, none⟩ := by
    conv => lhs; rw [had]
    rw [add_plain]; simp
  rw [e]
  refine ⟨h5, rfl, h6, ?_, ⟨?_, h2, h3, h4, h5, ?_⟩, fun k o hk hne => ?_⟩
  · rw [tabs_length]; show i * 5 + 5 ≤ us.length * 5; omega
  · rw [tabs_length, List.length_set, ← tabs_length]; exact h1
  · rw [← tabs_set hi]; exact put_same _ _ _
  · rw [put_other _ _ (hne ad rfl)]; exact hk

/-- The stores of a swap. -/
theorem swapTail {w0 : World} {h : AH} {ad : Addr} {n c i j : Nat} {us : List Tab} {X Y : Int} {t u : Tab} {C : AH → Prop} (so : Sl w0 h 5 (some ad) n c (tabs us)) (hX : X = ((i : Nat) : Int)) (hY : Y = ((j : Nat) : Int)) (hi : i < us.length) (hj : j < us.length)
    (hC : ∀ h', Sl w0 h' 5 (some ad) n c (tabs ((us.set i t).set j u)) → Ext h h' (some ad) → C h') :
    ∃ a1 : Addr, some ad = some a1 ∧ (0 : Int) ≤ X ∧ X < ((n : Nat) : Int) ∧ ∃ l : List Value, ∃ m : Nat, w0.heap.size ≤ (a1.add (Int.toNat X * 5)).block ∧ (a1.add (Int.toNat X * 5)).spot = none ∧ h (a1.add (Int.toNat X * 5)).block = some (.cells l m) ∧
      (a1.add (Int.toNat X * 5)).off + Array.size #[Value.int .i64 t.num, Value.int .i64 t.lev, Value.int .i64 t.siz, Value.slice t.lp t.ln t.lc, Value.slice t.mp t.mn t.mc] ≤ l.length ∧
      ∃ a2 : Addr, some ad = some a2 ∧ (0 : Int) ≤ Y ∧ Y < ((n : Nat) : Int) ∧ ∃ l2 : List Value, ∃ m2 : Nat, w0.heap.size ≤ (a2.add (Int.toNat Y * 5)).block ∧ (a2.add (Int.toNat Y * 5)).spot = none ∧
        (AH.put h (a1.add (Int.toNat X * 5)).block (.cells (setCells l (a1.add (Int.toNat X * 5)).off [Value.int .i64 t.num, Value.int .i64 t.lev, Value.int .i64 t.siz, Value.slice t.lp t.ln t.lc, Value.slice t.mp t.mn t.mc]) m)) (a2.add (Int.toNat Y * 5)).block = some (.cells l2 m2) ∧
        (a2.add (Int.toNat Y * 5)).off + Array.size #[Value.int .i64 u.num, Value.int .i64 u.lev, Value.int .i64 u.siz, Value.slice u.lp u.ln u.lc, Value.slice u.mp u.mn u.mc] ≤ l2.length ∧
        C (AH.put (AH.put h (a1.add (Int.toNat X * 5)).block (.cells (setCells l (a1.add (Int.toNat X * 5)).off [Value.int .i64 t.num, Value.int .i64 t.lev, Value.int .i64 t.siz, Value.slice t.lp t.ln t.lc, Value.slice t.mp t.mn t.mc]) m)) (a2.add (Int.toNat Y * 5)).block
          (.cells (setCells l2 (a2.add (Int.toNat Y * 5)).off [Value.int .i64 u.num, Value.int .i64 u.lev, Value.int .i64 u.siz, Value.slice u.lp u.ln u.lc, Value.slice u.mp u.mn u.mc]) m2)) := by
  subst hX hY
  have hl := so.len5
  rw [Int.toNat_natCast, Int.toNat_natCast]
  obtain ⟨p1, p2, p3, p4, p5, p6⟩ := storeSl (t := t) so hi
  obtain ⟨q1, q2, q3, q4, q5, q6⟩ := storeSl (t := u) p5 (i := j) (by rw [List.length_set]; exact hj)
  exact ⟨ad, rfl, by omega, by omega, tabs us, c * 5, p1, p2, p3, p4, ad, rfl, by omega, by omega, tabs (us.set i t), c * 5, q1, q2, q3, q4, hC _ q5 (p6.trans q6)⟩

/-- What a sort sees: its row, some permutation of what it was. -/
structure SS (w0 : World) (h0 : AH) (ad : Addr) (n c : Nat) (us0 : List Tab) (h : AH) (us : List Tab) : Prop where
  so : Sl w0 h 5 (some ad) n c (tabs us)
  hx : Ext h0 h (some ad)
  hp : us.Perm us0
theorem SS.len {w0 : World} {h0 h : AH} {ad : Addr} {n c : Nat} {us0 us : List Tab} (s : SS w0 h0 ad n c us0 h us) : n = us.length := s.so.len5
theorem SS.ok {w0 : World} {h0 h : AH} {ad : Addr} {n c : Nat} {us0 us : List Tab} (s : SS w0 h0 ad n c us0 h us) (hok : ∀ t ∈ us0, t.OkX w0 h0 (some ad)) {t : Tab} (ht : t ∈ us) : t.Ok w0 h := hok t (s.hp.mem_iff.1 ht) h s.hx
theorem SS.at {w0 : World} {h0 h : AH} {ad : Addr} {n c i : Nat} {us0 us : List Tab} (s : SS w0 h0 ad n c us0 h us) {t : Tab} (hi : us[i]? = some t) : At w0 h (ad.add (i * 5)) t.cells := by
  obtain ⟨ad', e, hat⟩ := tab_at s.so.rd hi
  injection e with e
  subst e; exact hat
theorem swap_perm {us : List Tab} {i j : Nat} {t u : Tab} (hi : us[i]? = some t) (hj : us[j]? = some u) : ((us.set i u).set j t).Perm us := by
  obtain ⟨li, ei⟩ := List.getElem?_eq_some_iff.1 hi
  obtain ⟨lj, ej⟩ := List.getElem?_eq_some_iff.1 hj
  have := List.set_set_perm li lj
  rw [ei, ej] at this
  exact this
theorem SS.swap {w0 : World} {h0 h h' : AH} {ad : Addr} {n c i j : Nat} {us0 us : List Tab} {t u : Tab} (s : SS w0 h0 ad n c us0 h us) (hi : us[i]? = some t) (hj : us[j]? = some u) (so : Sl w0 h' 5 (some ad) n c (tabs ((us.set i u).set j t))) (hx : Ext h h' (some ad)) :
    SS w0 h0 ad n c us0 h' ((us.set i u).set j t) := ⟨so, s.hx.trans hx, (swap_perm hi hj).trans s.hp⟩

theorem getMid {l1 l2 : List Tab} {x : Tab} : (l1 ++ x :: l2)[l1.length]? = some x := by simp
theorem setMid {l1 l2 : List Tab} {x y : Tab} : (l1 ++ x :: l2).set l1.length y = l1 ++ y :: l2 := by simp
/-- Two places of a list, changed. -/
theorem swapMid {l1 l2 l3 : List Tab} {x y : Tab} : (((l1 ++ x :: (l2 ++ y :: l3)).set l1.length y).set (l1.length + (l2.length + 1)) x) = l1 ++ y :: (l2 ++ x :: l3) := by
  rw [setMid]
  have e1 : l1 ++ y :: (l2 ++ y :: l3) = (l1 ++ y :: l2) ++ y :: l3 := by simp
  have e2 : l1.length + (l2.length + 1) = (l1 ++ y :: l2).length := by simp
  rw [e1, e2, setMid]
  simp
theorem getMid2 {l1 l2 l3 : List Tab} {x y : Tab} : (l1 ++ x :: (l2 ++ y :: l3))[l1.length + (l2.length + 1)]? = some y := by
  have e1 : l1 ++ x :: (l2 ++ y :: l3) = (l1 ++ x :: l2) ++ y :: l3 := by simp
  have e2 : l1.length + (l2.length + 1) = (l1 ++ x :: l2).length := by simp
  rw [e1, e2, getMid]
def f101_J : Nat → List Nat × Nat := jOf [(1, [4, 5, 6, 7, 8, 9, 11, 12, 13, 14, 15, 16, 17, 18, 19, 20, 21, 22, 23, 24, 25, 26, 27, 28, 29, 30, 31, 32, 33, 34, 35, 36, 37], 0)]

def f101_1 (w0 : World) (K : Value → AH → Prop) (a0 : Option Go.Addr) (n0 : Nat) (c0 : Nat) (x1 : Int) (x2 : Int) (x3 : Int) (x10 : Int) (h : AH) : Prop :=
  ∀ j : Nat → Value, LPk Go.Proofs.Try.prog w0 (EvC Go.Proofs.Try.prog w0) f101_J 101 K 1 [.v (.slice a0 n0 c0), .v (.int .i64 x1), .v (.int .i64 x2), .v (.int .i64 x3), .v (j 4), .v (j 5), .v (j 6), .v (j 7), .v (j 8), .v (j 9), .v (.int .i64 x10), .v (j 11), .v (j 12), .v (j 13), .v (j 14), .v (j 15), .v (j 16), .v (j 17), .v (j 18), .v (j 19), .v (j 20), .v (j 21), .v (j 22), .v (j 23), .v (j 24), .v (j 25), .v (j 26), .v (j 27), .v (j 28), .v (j 29), .v (j 30), .v (j 31), .v (j 32), .v (j 33), .v (j 34), .v (j 35), .v (j 36), .v (j 37)] [] h

theorem f101_1_in {w0 : World} {K : Value → AH → Prop} (a0 : Option Go.Addr) (n0 : Nat) (c0 : Nat) (x1 : Int) (x2 : Int) (x3 : Int) (x10 : Int) (h : AH)
  (hv : (brB (decide ((x10 < x3))) (∃ a'0 : Go.Addr, ((a0 = (some a'0)) ∧ (((0 : Int) ≤ (Go.IntKind.wrap .i64 (x2 + x10))) ∧ (((Go.IntKind.wrap .i64 (x2 + x10)) < ((n0 : Nat) : Int)) ∧ (∃ a'1 : Go.Addr, ((a0 = (some a'1)) ∧ (((0 : Int) ≤ (Go.IntKind.wrap .i64 (x1 + x10))) ∧ (((Go.IntKind.wrap .i64 (x1 + x10)) < ((n0 : Nat) : Int)) ∧ ((∃ i'2 : Int, (∃ i'3 : Int, (∃ i'4 : Int, (∃ p'5 : Option Go.Addr, (∃ n'6 : Nat, (∃ n'7 : Nat, (∃ p'8 : Option Go.Addr, (∃ n'9 : Nat, (∃ n'10 : Nat, ((((Array.size #[(Go.Value.int .i64 i'2), (Go.Value.int .i64 i'3), (Go.Value.int .i64 i'4), (Go.Value.slice p'5 n'6 n'7), (Go.Value.slice p'8 n'9 n'10)]) = 5) ∧ (At w0 h (Go.Addr.add a'0 ((Int.toNat (Go.IntKind.wrap .i64 (x2 + x10))) * 5)) [(Go.Value.int .i64 i'2), (Go.Value.int .i64 i'3), (Go.Value.int .i64 i'4), (Go.Value.slice p'5 n'6 n'7), (Go.Value.slice p'8 n'9 n'10)])) ∧ (∃ i'11 : Int, (∃ i'12 : Int, (∃ i'13 : Int, (∃ p'14 : Option Go.Addr, (∃ n'15 : Nat, (∃ n'16 : Nat, (∃ p'17 : Option Go.Addr, (∃ n'18 : Nat, (∃ n'19 : Nat, ((((Array.size #[(Go.Value.int .i64 i'11), (Go.Value.int .i64 i'12), (Go.Value.int .i64 i'13), (Go.Value.slice p'14 n'15 n'16), (Go.Value.slice p'17 n'18 n'19)]) = 5) ∧ (At w0 h (Go.Addr.add a'1 ((Int.toNat (Go.IntKind.wrap .i64 (x1 + x10))) * 5)) [(Go.Value.int .i64 i'11), (Go.Value.int .i64 i'12), (Go.Value.int .i64 i'13), (Go.Value.slice p'14 n'15 n'16), (Go.Value.slice p'17 n'18 n'19)])) ∧ (∃ a'20 : Go.Addr, ((a0 = (some a'20)) ∧ (((0 : Int) ≤ (Go.IntKind.wrap .i64 (x1 + x10))) ∧ (((Go.IntKind.wrap .i64 (x1 + x10)) < ((n0 : Nat) : Int)) ∧ (∃ l'21 : List Go.Value, (∃ n'22 : Nat, (((Array.size (Go.World.heap w0)) ≤ (Go.Addr.block (Go.Addr.add a'20 ((Int.toNat (Go.IntKind.wrap .i64 (x1 + x10))) * 5)))) ∧ (((Go.Addr.spot (Go.Addr.add a'20 ((Int.toNat (Go.IntKind.wrap .i64 (x1 + x10))) * 5))) = none) ∧ (((h (Go.Addr.block (Go.Addr.add a'20 ((Int.toNat (Go.IntKind.wrap .i64 (x1 + x10))) * 5)))) = (some (Go.G.AB.cells l'21 n'22))) ∧ ((((Go.Addr.off (Go.Addr.add a'20 ((Int.toNat (Go.IntKind.wrap .i64 (x1 + x10))) * 5))) + (Array.size #[(Go.Value.int .i64 i'2), (Go.Value.int .i64 i'3), (Go.Value.int .i64 i'4), (Go.Value.slice p'5 n'6 n'7), (Go.Value.slice p'8 n'9 n'10)])) ≤ (List.length l'21)) ∧ (∃ a'23 : Go.Addr, ((a0 = (some a'23)) ∧ (((0 : Int) ≤ (Go.IntKind.wrap .i64 (x2 + x10))) ∧ (((Go.IntKind.wrap .i64 (x2 + x10)) < ((n0 : Nat) : Int)) ∧ (∃ l'24 : List Go.Value, (∃ n'25 : Nat, (((Array.size (Go.World.heap w0)) ≤ (Go.Addr.block (Go.Addr.add a'23 ((Int.toNat (Go.IntKind.wrap .i64 (x2 + x10))) * 5)))) ∧ (((Go.Addr.spot (Go.Addr.add a'23 ((Int.toNat (Go.IntKind.wrap .i64 (x2 + x10))) * 5))) = none) ∧ (((Go.G.AH.put h (Go.Addr.block (Go.Addr.add a'20 ((Int.toNat (Go.IntKind.wrap .i64 (x1 + x10))) * 5))) (Go.G.AB.cells (Go.G.setCells l'21 (Go.Addr.off (Go.Addr.add a'20 ((Int.toNat (Go.IntKind.wrap .i64 (x1 + x10))) * 5))) [(Go.Value.int .i64 i'2), (Go.Value.int .i64 i'3), (Go.Value.int .i64 i'4), (Go.Value.slice p'5 n'6 n'7), (Go.Value.slice p'8 n'9 n'10)]) n'22) (Go.Addr.block (Go.Addr.add a'23 ((Int.toNat (Go.IntKind.wrap .i64 (x2 + x10))) * 5)))) = (some (Go.G.AB.cells l'24 n'25))) ∧ ((((Go.Addr.off (Go.Addr.add a'23 ((Int.toNat (Go.IntKind.wrap .i64 (x2 + x10))) * 5))) + (Array.size #[(Go.Value.int .i64 i'11), (Go.Value.int .i64 i'12), (Go.Value.int .i64 i'13), (Go.Value.slice p'14 n'15 n'16), (Go.Value.slice p'17 n'18 n'19)])) ≤ (List.length l'24)) ∧ (f101_1 w0 K a0 n0 c0 x1 x2 x3 (Go.IntKind.wrap .i64 (x10 + (1 : Int))) (Go.G.AH.put (Go.G.AH.put h (Go.Addr.block (Go.Addr.add a'20 ((Int.toNat (Go.IntKind.wrap .i64 (x1 + x10))) * 5))) (Go.G.AB.cells (Go.G.setCells l'21 (Go.Addr.off (Go.Addr.add a'20 ((Int.toNat (Go.IntKind.wrap .i64 (x1 + x10))) * 5))) [(Go.Value.int .i64 i'2), (Go.Value.int .i64 i'3), (Go.Value.int .i64 i'4), (Go.Value.slice p'5 n'6 n'7), (Go.Value.slice p'8 n'9 n'10)]) n'22)) (Go.Addr.block (Go.Addr.add a'23 ((Int.toNat (Go.IntKind.wrap .i64 (x2 + x10))) * 5))) (Go.G.AB.cells (Go.G.setCells l'24 (Go.Addr.off (Go.Addr.add a'23 ((Int.toNat (Go.IntKind.wrap .i64 (x2 + x10))) * 5))) [(Go.Value.int .i64 i'11), (Go.Value.int .i64 i'12), (Go.Value.int .i64 i'13), (Go.Value.slice p'14 n'15 n'16), (Go.Value.slice p'17 n'18 n'19)]) n'25))))))))))))))))))))))))))))))))))))))))))) ∧ (∃ i'26 : Int, (∃ i'27 : Int, (∃ i'28 : Int, (∃ p'29 : Option Go.Addr, (∃ n'30 : Nat, (∃ n'31 : Nat, (∃ p'32 : Option Go.Addr, (∃ n'33 : Nat, (∃ n'34 : Nat, ((((Array.size #[(Go.Value.int .i64 i'26), (Go.Value.int .i64 i'27), (Go.Value.int .i64 i'28), (Go.Value.slice p'29 n'30 n'31), (Go.Value.slice p'32 n'33 n'34)]) = 5) ∧ (At w0 h (Go.Addr.add a'1 ((Int.toNat (Go.IntKind.wrap .i64 (x1 + x10))) * 5)) [(Go.Value.int .i64 i'26), (Go.Value.int .i64 i'27), (Go.Value.int .i64 i'28), (Go.Value.slice p'29 n'30 n'31), (Go.Value.slice p'32 n'33 n'34)])) ∧ (∃ i'35 : Int, (∃ i'36 : Int, (∃ i'37 : Int, (∃ p'38 : Option Go.Addr, (∃ n'39 : Nat, (∃ n'40 : Nat, (∃ p'41 : Option Go.Addr, (∃ n'42 : Nat, (∃ n'43 : Nat, ((((Array.size #[(Go.Value.int .i64 i'35), (Go.Value.int .i64 i'36), (Go.Value.int .i64 i'37), (Go.Value.slice p'38 n'39 n'40), (Go.Value.slice p'41 n'42 n'43)]) = 5) ∧ (At w0 h (Go.Addr.add a'0 ((Int.toNat (Go.IntKind.wrap .i64 (x2 + x10))) * 5)) [(Go.Value.int .i64 i'35), (Go.Value.int .i64 i'36), (Go.Value.int .i64 i'37), (Go.Value.slice p'38 n'39 n'40), (Go.Value.slice p'41 n'42 n'43)])) ∧ (∃ a'44 : Go.Addr, ((a0 = (some a'44)) ∧ (((0 : Int) ≤ (Go.IntKind.wrap .i64 (x1 + x10))) ∧ (((Go.IntKind.wrap .i64 (x1 + x10)) < ((n0 : Nat) : Int)) ∧ (∃ l'45 : List Go.Value, (∃ n'46 : Nat, (((Array.size (Go.World.heap w0)) ≤ (Go.Addr.block (Go.Addr.add a'44 ((Int.toNat (Go.IntKind.wrap .i64 (x1 + x10))) * 5)))) ∧ (((Go.Addr.spot (Go.Addr.add a'44 ((Int.toNat (Go.IntKind.wrap .i64 (x1 + x10))) * 5))) = none) ∧ (((h (Go.Addr.block (Go.Addr.add a'44 ((Int.toNat (Go.IntKind.wrap .i64 (x1 + x10))) * 5)))) = (some (Go.G.AB.cells l'45 n'46))) ∧ ((((Go.Addr.off (Go.Addr.add a'44 ((Int.toNat (Go.IntKind.wrap .i64 (x1 + x10))) * 5))) + (Array.size #[(Go.Value.int .i64 i'35), (Go.Value.int .i64 i'36), (Go.Value.int .i64 i'37), (Go.Value.slice p'38 n'39 n'40), (Go.Value.slice p'41 n'42 n'43)])) ≤ (List.length l'45)) ∧ (∃ a'47 : Go.Addr, ((a0 = (some a'47)) ∧ (((0 : Int) ≤ (Go.IntKind.wrap .i64 (x2 + x10))) ∧ (((Go.IntKind.wrap .i64 (x2 + x10)) < ((n0 : Nat) : Int)) ∧ (∃ l'48 : List Go.Value, (∃ n'49 : Nat, (((Array.size (Go.World.heap w0)) ≤ (Go.Addr.block (Go.Addr.add a'47 ((Int.toNat (Go.IntKind.wrap .i64 (x2 + x10))) * 5)))) ∧ (((Go.Addr.spot (Go.Addr.add a'47 ((Int.toNat (Go.IntKind.wrap .i64 (x2 + x10))) * 5))) = none) ∧ (((Go.G.AH.put h (Go.Addr.block (Go.Addr.add a'44 ((Int.toNat (Go.IntKind.wrap .i64 (x1 + x10))) * 5))) (Go.G.AB.cells (Go.G.setCells l'45 (Go.Addr.off (Go.Addr.add a'44 ((Int.toNat (Go.IntKind.wrap .i64 (x1 + x10))) * 5))) [(Go.Value.int .i64 i'35), (Go.Value.int .i64 i'36), (Go.Value.int .i64 i'37), (Go.Value.slice p'38 n'39 n'40), (Go.Value.slice p'41 n'42 n'43)]) n'46) (Go.Addr.block (Go.Addr.add a'47 ((Int.toNat (Go.IntKind.wrap .i64 (x2 + x10))) * 5)))) = (some (Go.G.AB.cells l'48 n'49))) ∧ ((((Go.Addr.off (Go.Addr.add a'47 ((Int.toNat (Go.IntKind.wrap .i64 (x2 + x10))) * 5))) + (Array.size #[(Go.Value.int .i64 i'26), (Go.Value.int .i64 i'27), (Go.Value.int .i64 i'28), (Go.Value.slice p'29 n'30 n'31), (Go.Value.slice p'32 n'33 n'34)])) ≤ (List.length l'48)) ∧ (f101_1 w0 K a0 n0 c0 x1 x2 x3 (Go.IntKind.wrap .i64 (x10 + (1 : Int))) (Go.G.AH.put (Go.G.AH.put h (Go.Addr.block (Go.Addr.add a'44 ((Int.toNat (Go.IntKind.wrap .i64 (x1 + x10))) * 5))) (Go.G.AB.cells (Go.G.setCells l'45 (Go.Addr.off (Go.Addr.add a'44 ((Int.toNat (Go.IntKind.wrap .i64 (x1 + x10))) * 5))) [(Go.Value.int .i64 i'35), (Go.Value.int .i64 i'36), (Go.Value.int .i64 i'37), (Go.Value.slice p'38 n'39 n'40), (Go.Value.slice p'41 n'42 n'43)]) n'46)) (Go.Addr.block (Go.Addr.add a'47 ((Int.toNat (Go.IntKind.wrap .i64 (x2 + x10))) * 5))) (Go.G.AB.cells (Go.G.setCells l'48 (Go.Addr.off (Go.Addr.add a'47 ((Int.toNat (Go.IntKind.wrap .i64 (x2 + x10))) * 5))) [(Go.Value.int .i64 i'26), (Go.Value.int .i64 i'27), (Go.Value.int .i64 i'28), (Go.Value.slice p'29 n'30 n'31), (Go.Value.slice p'32 n'33 n'34)]) n'49)))))))))))))))))))))))))))))))))))))))))))))))))))) (K (Go.Value.tuple #[]) h))) :
  f101_1 w0 K a0 n0 c0 x1 x2 x3 x10 h := fun j => LP_intro (P := Go.Proofs.Try.prog) (Eq.mp (by kernel_rfl) hv)

theorem f101_go {w0 : World} {K : Value → AH → Prop} (a0 : Option Go.Addr) (n0 : Nat) (c0 : Nat) (x1 : Int) (x2 : Int) (x3 : Int) (x4 : Go.Value) (h : AH)
  (hv : (f101_1 w0 K a0 n0 c0 x1 x2 x3 (0 : Int) h)) :
  EvC Go.Proofs.Try.prog w0 101 ([(.slice a0 n0 c0), (.int .i64 x1), (.int .i64 x2), (.int .i64 x3), x4]).toArray K h := EvC_intro (P := Go.Proofs.Try.prog) f101_J (Eq.mp (by kernel_rfl) hv)
section
variable {w0 : World} {K : Value → AH → Prop} {h0 : AH} {ad : Addr} {n c : Nat} {us0 : List Tab} {cb : Value}

theorem f101_loop {P Q Z : List Tab} {L : Nat} (hn : n ≤ 1000000) {F : List Tab} (hk : ∀ h', SS w0 h0 ad n c us0 h' F → K (.tuple #[]) h') :
    ∀ (X2 Y2 X1 Y1 : List Tab) (h : AH), X1.length = Y1.length → X2.length = Y2.length → L = X1.length + X2.length → F = P ++ (Y1 ++ Y2) ++ Q ++ (X1 ++ X2) ++ Z → SS w0 h0 ad n c us0 h (P ++ (Y1 ++ X2) ++ Q ++ (X1 ++ Y2) ++ Z) →
      f101_1 w0 K (some ad) n c ((P.length : Nat) : Int) ((P.length + L + Q.length : Nat) : Int) ((L : Nat) : Int) ((X1.length : Nat) : Int) h := by
  intro X2
  induction X2 with
  | nil =>
    intro Y2 X1 Y1 h e1 e2 eL eF s
    have hY : Y2 = [] := List.eq_nil_of_length_eq_zero (by simpa using e2.symm)
    subst hY
    refine f101_1_in _ _ _ _ _ _ _ _ (brB_of (fun q => by simp at q eL; omega) fun _ => hk h ?_)
    rw [eF]
    simpa using s
  | cons x X2 ih =>
    intro Y2 X1 Y1 h e1 e2 eL eF s
    match Y2, e2 with
    | y :: Y2, e2 =>
    have hl := s.len
    simp only [List.length_append, List.length_cons] at hl eL e2
    have eU : P ++ (Y1 ++ x :: X2) ++ Q ++ (X1 ++ y :: Y2) ++ Z = (P ++ Y1) ++ x :: ((X2 ++ Q ++ X1) ++ y :: (Y2 ++ Z)) := by simp
    have i1 : (P ++ Y1).length = P.length + X1.length := by simp [e1]
    have i2 : (P ++ Y1).length + ((X2 ++ Q ++ X1).length + 1) = P.length + L + Q.length + X1.length := by simp; omega
    have gx : (P ++ (Y1 ++ x :: X2) ++ Q ++ (X1 ++ y :: Y2) ++ Z)[P.length + X1.length]? = some x := by rw [eU, ← i1]; exact getMid
    have gy : (P ++ (Y1 ++ x :: X2) ++ Q ++ (X1 ++ y :: Y2) ++ Z)[P.length + L + Q.length + X1.length]? = some y := by rw [eU, ← i2]; exact getMid2
    have w1 : IntKind.i64.wrap (((P.length : Nat) : Int) + ((X1.length : Nat) : Int)) = ((P.length + X1.length : Nat) : Int) := addS (by omega)
    have w2 : IntKind.i64.wrap (((P.length + L + Q.length : Nat) : Int) + ((X1.length : Nat) : Int)) = ((P.length + L + Q.length + X1.length : Nat) : Int) := addS (by omega)
    have ax := s.at gx
    have ay := s.at gy
    have hlen : (P ++ (Y1 ++ x :: X2) ++ Q ++ (X1 ++ y :: Y2) ++ Z).length = n := s.len.symm
    have tail := swapTail (C := fun h => f101_1 w0 K (some ad) n c ((P.length : Nat) : Int) ((P.length + L + Q.length : Nat) : Int) ((L : Nat) : Int) (IntKind.i64.wrap (((X1.length : Nat) : Int) + 1)) h) (t := y) (u := x)
      s.so w1 w2 (by omega) (by omega) fun h' so' hx' => by
        have s' := s.swap gx gy so' hx'
        have e3 : (((P ++ (Y1 ++ x :: X2) ++ Q ++ (X1 ++ y :: Y2) ++ Z).set (P.length + X1.length) y).set (P.length + L + Q.length + X1.length) x) = P ++ ((Y1 ++ [y]) ++ X2) ++ Q ++ ((X1 ++ [x]) ++ Y2) ++ Z := by
          rw [eU, ← i1, ← i2, swapMid]
          simp
        rw [e3] at s'
        have := ih Y2 (X1 ++ [x]) (Y1 ++ [y]) h' (by simp [e1]) (by omega) (by simp; omega) (by rw [eF]; simp) s'
        rw [wrapS (by omega)]
        simpa using this
    refine f101_1_in _ _ _ _ _ _ _ _ (brB_of (fun _ => ?_) fun q => by simp at q; omega)
    rw [w1, w2] at *
    have ax' : At w0 h (ad.add (Int.toNat ((P.length + X1.length : Nat) : Int) * 5)) x.cells := by rw [Int.toNat_natCast]; exact ax
    have ay' : At w0 h (ad.add (Int.toNat ((P.length + L + Q.length + X1.length : Nat) : Int) * 5)) y.cells := by rw [Int.toNat_natCast]; exact ay
    exact ⟨ad, rfl, by omega, by omega, ad, rfl, by omega, by omega, aggAt (t := y) ay' (aggAt (t := x) ax' tail), aggAt (t := x) ax' (aggAt (t := y) ay' tail)⟩

/-- slices.swapRangeCmpFunc: two stretches of one length change places. -/
theorem f101_spec {P X Q Y Z : List Tab} {h : AH} (hn : n ≤ 1000000) (hxy : X.length = Y.length) (s : SS w0 h0 ad n c us0 h (P ++ X ++ Q ++ Y ++ Z)) (hk : ∀ h', SS w0 h0 ad n c us0 h' (P ++ Y ++ Q ++ X ++ Z) → K (.tuple #[]) h') {p q l : Nat}
    (hp : p = P.length) (hq : q = P.length + X.length + Q.length) (hl : l = X.length) :
    EvC Go.Proofs.Try.prog w0 101 #[.slice (some ad) n c, .int .i64 ((p : Nat) : Int), .int .i64 ((q : Nat) : Int), .int .i64 ((l : Nat) : Int), cb] K h := by
  subst hp hq hl
  exact f101_go _ _ _ _ _ _ _ _ (f101_loop (P := P) (Q := Q) (Z := Z) (L := X.length) (F := P ++ Y ++ Q ++ X ++ Z) hn hk X Y [] [] h rfl hxy (by simp) (by simp) (by simpa using s))
end
end Go.G.Ytpnhlgghpciofaa
