/- put, changed. -/
import Derived.Test.YtpjklfmfgmicaaaDE
import Derived.Test.YtpjklfmfgmicaaaProg
set_option maxRecDepth 100000
namespace Go.G.Ytpjklfmfgmicaaa
open Go.RowKit
def f50_J : Nat → List Nat × Nat := jOf [(3, [3, 4, 5, 8, 9, 10, 11, 12, 16, 17, 18, 19, 20, 21, 22, 23, 24, 25, 26, 27, 28, 29, 30, 31, 32, 33, 34, 35, 36, 37, 38, 39, 40, 41, 42, 43, 44, 45, 46, 47, 48, 49, 50, 51, 52, 53], 0), (6, [3, 4, 5, 8, 10, 11, 12, 16, 17, 18, 19, 20, 21, 22, 23, 24, 25, 27, 28, 29, 30, 31, 32, 33, 34, 35, 36, 37, 38, 39, 40, 41, 42, 43, 44, 45, 46, 47, 48, 49, 50, 51, 52, 53], 1), (8, [3, 4, 5, 8, 10, 11, 12, 16, 17, 18, 19, 20, 21, 22, 23, 24, 25, 26, 27, 28, 29, 30, 31, 32, 33, 34, 35, 36, 37, 38, 39, 40, 41, 42, 43, 44, 45, 46, 47, 48, 49, 50, 51, 52, 53], 1)]

def f50_3 (w0 : World) (K : Value → AH → Prop) (x0 : Option Go.Addr) (x1 : ByteArray) (x2 : Option Go.Addr) (a6 : Option Go.Addr) (n6 : Nat) (c6 : Nat) (x7 : Bool) (a13 : Option Go.Addr) (n13 : Nat) (c13 : Nat) (x14 : Int) (x15 : Int) (h : AH) : Prop :=
  ∀ j : Nat → Value, LPk Go.Proofs.Try.prog w0 (EvC Go.Proofs.Try.prog w0) f50_J 50 K 3 [.v (.pointer x0), .v (.string x1), .v (.pointer x2), .v (j 3), .v (j 4), .v (j 5), .v (.slice a6 n6 c6), .v (.bool x7), .v (j 8), .v (j 9), .v (j 10), .v (j 11), .v (j 12), .v (.slice a13 n13 c13), .v (.int .i64 x14), .v (.int .i64 x15), .v (j 16), .v (j 17), .v (j 18), .v (j 19), .v (j 20), .v (j 21), .v (j 22), .v (j 23), .v (j 24), .v (j 25), .v (j 26), .v (j 27), .v (j 28), .v (j 29), .v (j 30), .v (j 31), .v (j 32), .v (j 33), .v (j 34), .v (j 35), .v (j 36), .v (j 37), .v (j 38), .v (j 39), .v (j 40), .v (j 41), .v (j 42), .v (j 43), .v (j 44), .v (j 45), .v (j 46), .v (j 47), .v (j 48), .v (j 49), .v (j 50), .v (j 51), .v (j 52), .v (j 53)] [] h

def f50_6 (w0 : World) (K : Value → AH → Prop) (x0 : Option Go.Addr) (x1 : ByteArray) (x2 : Option Go.Addr) (a6 : Option Go.Addr) (n6 : Nat) (c6 : Nat) (x7 : Bool) (a13 : Option Go.Addr) (n13 : Nat) (c13 : Nat) (x14 : Int) (x15 : Int) (x26 : Bool) (xb0_0 : ByteArray) (xb0_1 : Option Go.Addr) (h : AH) : Prop :=
  ∀ j : Nat → Value, LPk Go.Proofs.Try.prog w0 (EvC Go.Proofs.Try.prog w0) f50_J 50 K 6 [.v (.pointer x0), .v (.string x1), .v (.pointer x2), .v (j 3), .v (j 4), .v (j 5), .v (.slice a6 n6 c6), .v (.bool x7), .v (j 8), .bp 0 0, .v (j 10), .v (j 11), .v (j 12), .v (.slice a13 n13 c13), .v (.int .i64 x14), .v (.int .i64 x15), .v (j 16), .v (j 17), .v (j 18), .v (j 19), .v (j 20), .v (j 21), .v (j 22), .v (j 23), .v (j 24), .v (j 25), .v (.bool x26), .v (j 27), .v (j 28), .v (j 29), .v (j 30), .v (j 31), .v (j 32), .v (j 33), .v (j 34), .v (j 35), .v (j 36), .v (j 37), .v (j 38), .v (j 39), .v (j 40), .v (j 41), .v (j 42), .v (j 43), .v (j 44), .v (j 45), .v (j 46), .v (j 47), .v (j 48), .v (j 49), .v (j 50), .v (j 51), .v (j 52), .v (j 53)] [some [(.string xb0_0), (.pointer xb0_1)]] h

def f50_8 (w0 : World) (K : Value → AH → Prop) (x0 : Option Go.Addr) (x1 : ByteArray) (x2 : Option Go.Addr) (a6 : Option Go.Addr) (n6 : Nat) (c6 : Nat) (x7 : Bool) (a13 : Option Go.Addr) (n13 : Nat) (c13 : Nat) (x14 : Int) (x15 : Int) (xb0_0 : ByteArray) (xb0_1 : Option Go.Addr) (h : AH) : Prop :=
  ∀ j : Nat → Value, LPk Go.Proofs.Try.prog w0 (EvC Go.Proofs.Try.prog w0) f50_J 50 K 8 [.v (.pointer x0), .v (.string x1), .v (.pointer x2), .v (j 3), .v (j 4), .v (j 5), .v (.slice a6 n6 c6), .v (.bool x7), .v (j 8), .bp 0 0, .v (j 10), .v (j 11), .v (j 12), .v (.slice a13 n13 c13), .v (.int .i64 x14), .v (.int .i64 x15), .v (j 16), .v (j 17), .v (j 18), .v (j 19), .v (j 20), .v (j 21), .v (j 22), .v (j 23), .v (j 24), .v (j 25), .v (j 26), .v (j 27), .v (j 28), .v (j 29), .v (j 30), .v (j 31), .v (j 32), .v (j 33), .v (j 34), .v (j 35), .v (j 36), .v (j 37), .v (j 38), .v (j 39), .v (j 40), .v (j 41), .v (j 42), .v (j 43), .v (j 44), .v (j 45), .v (j 46), .v (j 47), .v (j 48), .v (j 49), .v (j 50), .v (j 51), .v (j 52), .v (j 53)] [some [(.string xb0_0), (.pointer xb0_1)]] h

theorem f50_3_in {w0 : World} {K : Value → AH → Prop} (x0 : Option Go.Addr) (x1 : ByteArray) (x2 : Option Go.Addr) (a6 : Option Go.Addr) (n6 : Nat) (c6 : Nat) (x7 : Bool) (a13 : Option Go.Addr) (n13 : Nat) (c13 : Nat) (x14 : Int) (x15 : Int) (h : AH)
  (hv : (brB (decide ((x15 < x14))) (∃ a'4 : Go.Addr, ((a13 = (some a'4)) ∧ (((0 : Int) ≤ x15) ∧ ((x15 < ((n13 : Nat) : Int)) ∧ (∃ s'5 : ByteArray, (∃ p'6 : Option Go.Addr, ((((Array.size #[(Go.Value.string s'5), (Go.Value.pointer p'6)]) = 2) ∧ (At w0 h (Go.Addr.add a'4 ((Int.toNat x15) * 2)) [(Go.Value.string s'5), (Go.Value.pointer p'6)])) ∧ (brB (!x7) (f50_6 w0 K x0 x1 x2 a6 n6 c6 x7 a13 n13 c13 x14 x15 (!(Go.Op.bytesLess (ByteArray.toList s'5) (ByteArray.toList x1))) s'5 p'6 h) (f50_6 w0 K x0 x1 x2 a6 n6 c6 x7 a13 n13 c13 x14 x15 false s'5 p'6 h))))))))) (brB (!x7) (App w0 h 2 24 a6 n6 c6 1 [(Go.Value.string x1), (Go.Value.pointer x2)] (fun a'7 c'8 h'9 => (∃ a'10 : Go.Addr, ((x0 = (some a'10)) ∧ (∃ l'11 : List Go.Value, (∃ n'12 : Nat, (((Array.size (Go.World.heap w0)) ≤ (Go.Addr.block (Go.Addr.add a'10 1))) ∧ (((none : Option Nat) = none) ∧ (((h'9 (Go.Addr.block (Go.Addr.add a'10 1))) = (some (Go.G.AB.cells l'11 n'12))) ∧ ((((Go.Addr.off (Go.Addr.add a'10 1)) + (Array.size #[(Go.Value.slice a'7 (n6 + 1) c'8)])) ≤ (List.length l'11)) ∧ (K (Go.Value.tuple #[]) (Go.G.AH.put h'9 (Go.Addr.block (Go.Addr.add a'10 1)) (Go.G.AB.cells (Go.G.setCells l'11 (Go.Addr.off (Go.Addr.add a'10 1)) [(Go.Value.slice a'7 (n6 + 1) c'8)]) n'12))))))))))))) (∃ a'13 : Go.Addr, ((x0 = (some a'13)) ∧ (∃ l'14 : List Go.Value, (∃ n'15 : Nat, (((Array.size (Go.World.heap w0)) ≤ (Go.Addr.block (Go.Addr.add a'13 1))) ∧ (((none : Option Nat) = none) ∧ (((h (Go.Addr.block (Go.Addr.add a'13 1))) = (some (Go.G.AB.cells l'14 n'15))) ∧ ((((Go.Addr.off (Go.Addr.add a'13 1)) + (Array.size #[(Go.Value.slice a6 n6 c6)])) ≤ (List.length l'14)) ∧ (K (Go.Value.tuple #[]) (Go.G.AH.put h (Go.Addr.block (Go.Addr.add a'13 1)) (Go.G.AB.cells (Go.G.setCells l'14 (Go.Addr.off (Go.Addr.add a'13 1)) [(Go.Value.slice a6 n6 c6)]) n'15)))))))))))))) :
  f50_3 w0 K x0 x1 x2 a6 n6 c6 x7 a13 n13 c13 x14 x15 h := fun j => LP_intro (P := Go.Proofs.Try.prog) (Eq.mp (by kernel_rfl) hv)

theorem f50_6_in {w0 : World} {K : Value → AH → Prop} (x0 : Option Go.Addr) (x1 : ByteArray) (x2 : Option Go.Addr) (a6 : Option Go.Addr) (n6 : Nat) (c6 : Nat) (x7 : Bool) (a13 : Option Go.Addr) (n13 : Nat) (c13 : Nat) (x14 : Int) (x15 : Int) (x26 : Bool) (xb0_0 : ByteArray) (xb0_1 : Option Go.Addr) (h : AH)
  (hv : (brB x26 (App w0 h 2 24 a6 n6 c6 1 [(Go.Value.string x1), (Go.Value.pointer x2)] (fun a'16 c'17 h'18 => (f50_8 w0 K x0 x1 x2 a'16 (n6 + 1) c'17 true a13 n13 c13 x14 x15 xb0_0 xb0_1 h'18))) (f50_8 w0 K x0 x1 x2 a6 n6 c6 x7 a13 n13 c13 x14 x15 xb0_0 xb0_1 h))) :
  f50_6 w0 K x0 x1 x2 a6 n6 c6 x7 a13 n13 c13 x14 x15 x26 xb0_0 xb0_1 h := fun j => LP_intro (P := Go.Proofs.Try.prog) (Eq.mp (by kernel_rfl) hv)

theorem f50_8_in {w0 : World} {K : Value → AH → Prop} (x0 : Option Go.Addr) (x1 : ByteArray) (x2 : Option Go.Addr) (a6 : Option Go.Addr) (n6 : Nat) (c6 : Nat) (x7 : Bool) (a13 : Option Go.Addr) (n13 : Nat) (c13 : Nat) (x14 : Int) (x15 : Int) (xb0_0 : ByteArray) (xb0_1 : Option Go.Addr) (h : AH)
  (hv : (brB (!(decide ((xb0_0 = x1)))) (App w0 h 2 24 a6 n6 c6 1 [(Go.Value.string xb0_0), (Go.Value.pointer xb0_1)] (fun a'19 c'20 h'21 => (f50_3 w0 K x0 x1 x2 a'19 (n6 + 1) c'20 x7 a13 n13 c13 x14 (Go.IntKind.wrap .i64 (x15 + (1 : Int))) h'21))) (f50_3 w0 K x0 x1 x2 a6 n6 c6 x7 a13 n13 c13 x14 (Go.IntKind.wrap .i64 (x15 + (1 : Int))) h))) :
  f50_8 w0 K x0 x1 x2 a6 n6 c6 x7 a13 n13 c13 x14 x15 xb0_0 xb0_1 h := fun j => LP_intro (P := Go.Proofs.Try.prog) (Eq.mp (by kernel_rfl) hv)

theorem f50_go {w0 : World} {K : Value → AH → Prop} (x0 : Option Go.Addr) (x1 : ByteArray) (x2 : Option Go.Addr) (h : AH)
  (hv : (∃ a'0 : Go.Addr, ((x0 = (some a'0)) ∧ (∃ p'1 : Option Go.Addr, (∃ n'2 : Nat, (∃ n'3 : Nat, (((Go.G.cellA w0 h (Go.Addr.add a'0 1)) = (some (Go.Value.slice p'1 n'2 n'3))) ∧ (f50_3 w0 K x0 x1 x2 none 0 0 false p'1 n'2 n'3 ((n'2 : Nat) : Int) (0 : Int) h)))))))) :
  EvC Go.Proofs.Try.prog w0 50 ([(.pointer x0), (.string x1), (.pointer x2)]).toArray K h := EvC_intro (P := Go.Proofs.Try.prog) f50_J (Eq.mp (by kernel_rfl) hv)
theorem ent_cell (F : List FO) (d : Dir) : ∀ y ∈ entC F d, y.oneCell' = true := fun y hy => by
  obtain ⟨e, _, hy⟩ := List.mem_flatMap.1 hy
  simp at hy
  rcases hy with rfl | rfl <;> rfl
theorem two_cell {n : ByteArray} {p : Option Addr} : ∀ y ∈ [Value.string n, .pointer p], y.oneCell' = true := by intro y hy; simp at hy; rcases hy with rfl | rfl <;> rfl

/-- An entry is put behind a row of entries. -/
theorem App_ent {w0 : World} {h : AH} {A B : List (Nat × AB)} {F : List FO} {out : Dir} {a : Option Addr} {c : Nat} {e : ByteArray × Nat} {K : Option Addr → Nat → AH → Prop} (v : SlV 2 a out.length c (entC F out))
    (w : Own w0 h (A ++ (slB a (entC F out) (c * 2) ++ B))) (ho : out.length ≤ 1000000000000)
    (hk : ∀ a' c' h', SlV 2 a' (out ++ [e]).length c' (entC F (out ++ [e])) → Own w0 h' (A ++ (slB a' (entC F (out ++ [e])) (c' * 2) ++ B)) → K a' c' h') : App w0 h 2 24 a out.length c 1 [.string e.1, .pointer (ptrF F e.2)] K := by
  refine App_mid v w (by omega) (by omega) rfl two_cell fun a' c' h' v' w' => hk a' c' h' ?_ ?_
  · rw [entC_append, List.length_append]; exact v'
  · rw [entC_append]; exact w'

/-- put. Its new row; the old one is forgotten. -/
theorem f50_spec {w0 : World} {K : Value → AH → Prop} {h : AH} {B : List (Nat × AB)} {s : Ds} {R : RD} {n : ByteArray} {F : List FO} {p : Nat}
    (w : Own w0 h ((R.bd, .cells (rcells s R) 8) :: (slB R.la (entC F s.dir) (R.lc * 2) ++ B)))
    (lv : SlV 2 R.la s.dir.length R.lc (entC F s.dir)) (hs : s.dir.length ≤ 1000000000)
    (hk : ∀ h' a' c', SlV 2 a' (putD n p false s.dir).length c' (entC F (putD n p false s.dir)) →
      Own w0 h' ((R.bd, .cells (rcl s.room a' (putD n p false s.dir).length c' R.wa s.was.length R.wc s.calls s.fuse s.wait s.fails s.off) 8) :: (slB a' (entC F (putD n p false s.dir)) (c' * 2) ++ B)) → K (.tuple #[]) h') :
    EvC Go.Proofs.Try.prog w0 50 #[.pointer (some ⟨R.bd, 0, none⟩), .string n, .pointer (ptrF F p)] K h := by
  have fin : ∀ (out : Dir) (a : Option Addr) (c : Nat) (h' : AH), putD n p false s.dir = out → SlV 2 a out.length c (entC F out) →
      Own w0 h' ((R.bd, .cells (rcells s R) 8) :: (slB a (entC F out) (c * 2) ++ (slB R.la (entC F s.dir) (R.lc * 2) ++ B))) →
      K (.tuple #[]) (h'.put R.bd (.cells (rcl s.room a out.length c R.wa s.was.length R.wc s.calls s.fuse s.wait s.fails s.off) 8)) := fun out a c h' e v w' => by
    subst e
    refine hk _ a c v ?_
    have w3 := (Own.put (o' := .cells (rcl s.room a (putD n p false s.dir).length c R.wa s.was.length R.wc s.calls s.fuse s.wait s.fails s.off) 8) w')
    exact Own.cut (cs := _ :: slB a (entC F (putD n p false s.dir)) (c * 2)) w3
  -- what is told already, what is to come
  have loop : ∀ (k i : Nat) (out : Dir) (done : Bool) (a : Option Addr) (c : Nat) (h' : AH), i + k = s.dir.length → out.length ≤ 2 * i → putD n p false s.dir = out ++ putD n p done (s.dir.drop i) →
      SlV 2 a out.length c (entC F out) → Own w0 h' ((R.bd, .cells (rcells s R) 8) :: (slB a (entC F out) (c * 2) ++ (slB R.la (entC F s.dir) (R.lc * 2) ++ B))) →
      f50_3 w0 K (some ⟨R.bd, 0, none⟩) n (ptrF F p) a out.length c done R.la s.dir.length R.lc ((s.dir.length : Nat) : Int) ((i : Nat) : Int) h' := by
    intro k
    induction k with
    | zero =>
      intro i out done a c h' hi ho he v w'
      rw [List.drop_eq_nil_of_le (by omega)] at he
      refine f50_3_in _ _ _ _ _ _ _ _ _ _ _ _ _ (brB_of (fun q => by simp at q; omega) fun _ => brB_of (fun q => ?_) fun q => ?_)
      · have hd : done = false := by simpa using q
        subst hd
        simp only [putD, Bool.false_eq_true, if_false] at he
        refine App_ent (A := [_]) (e := (n, p)) v w' (by omega) fun a' c' h2 v2 w2 => ?_
        refine ⟨_, rfl, _, 8, Own.ge w2, rfl, Own.hd w2, by simp [rcells, rcl, Addr.add], ?_⟩
        have := fin _ a' c' h2 he v2 w2
        rw [show (out ++ [(n, p)]).length = out.length + 1 by simp] at this
        exact this
      · have hd : done = true := by simpa using q
        subst hd
        simp only [putD, if_true, List.append_nil] at he
        refine ⟨_, rfl, _, 8, Own.ge w', rfl, Own.hd w', by simp [rcells, rcl, Addr.add], fin _ a c h' he v w'⟩
    | succ k ih =>
      intro i out done a c h' hi ho he v w'
      have hil : i < s.dir.length := by omega
      have hget : s.dir[i]? = some s.dir[i] := List.getElem?_eq_getElem hil
      rw [List.drop_eq_getElem_cons hil] at he
      generalize s.dir[i] = e at hget he
      have eight : ∀ (out : Dir) (done : Bool) (a : Option Addr) (c : Nat) (h' : AH), out.length ≤ 2 * i + 1 → putD n p false s.dir = out ++ ((if e.1 = n then [] else [e]) ++ putD n p done (s.dir.drop (i + 1))) →
          SlV 2 a out.length c (entC F out) → Own w0 h' ((R.bd, .cells (rcells s R) 8) :: (slB a (entC F out) (c * 2) ++ (slB R.la (entC F s.dir) (R.lc * 2) ++ B))) →
          f50_8 w0 K (some ⟨R.bd, 0, none⟩) n (ptrF F p) a out.length c done R.la s.dir.length R.lc ((s.dir.length : Nat) : Int) ((i : Nat) : Int) e.1 (ptrF F e.2) h' := fun out done a c h' ho he v w' => by
        refine f50_8_in _ _ _ _ _ _ _ _ _ _ _ _ _ _ _ (brB_of (fun q => ?_) fun q => ?_)
        · have q' : ¬ e.1 = n := by simpa using q
          rw [if_neg q'] at he
          refine App_ent (A := [_]) (e := e) v w' (by omega) fun a' c' h2 v2 w2 => ?_
          rw [wrapS (by omega)]
          have := ih (i + 1) (out ++ [e]) done a' c' h2 (by omega) (by simp; omega) (by rw [he]; simp) v2 w2
          rw [show (out ++ [e]).length = out.length + 1 by simp] at this
          exact this
        · have q' : e.1 = n := by simpa using q
          rw [if_pos q'] at he
          rw [wrapS (by omega)]
          exact ih (i + 1) out done a c h' (by omega) (by omega) (by rw [he]; simp) v w'
      have six : ∀ x, x = (!done && !(Op.bytesLess e.1.toList n.toList)) → f50_6 w0 K (some ⟨R.bd, 0, none⟩) n (ptrF F p) a out.length c done R.la s.dir.length R.lc ((s.dir.length : Nat) : Int) ((i : Nat) : Int) x e.1 (ptrF F e.2) h' := fun x hx => by
        simp only [putD] at he
        rw [← hx] at he
        refine f50_6_in _ _ _ _ _ _ _ _ _ _ _ _ _ _ _ _ (brB_of (fun q => ?_) fun q => ?_)
        · rw [q] at he
          refine App_ent (A := [_]) (e := (n, p)) v w' (by omega) fun a' c' h2 v2 w2 => ?_
          have := eight (out ++ [(n, p)]) true a' c' h2 (by simp; omega) (by rw [he]; simp) v2 w2
          rw [show (out ++ [(n, p)]).length = out.length + 1 by simp] at this
          exact this
        · rw [q] at he
          exact eight out done a c h' (by omega) (by rw [he]; simp) v w'
      have rd : Rd w0 h' R.la (entC F s.dir) := lv.rd (cs := _ :: slB a (entC F out) (c * 2)) w'
      refine f50_3_in _ _ _ _ _ _ _ _ _ _ _ _ _ (brB_of (fun _ => entLoad rd hget rfl fun ad => brB_of (fun q => six _ ?_) fun q => six _ ?_) fun q => by simp at q; omega)
      · rw [q]; simp
      · rw [q]; simp
  exact f50_go _ _ _ _ ⟨_, rfl, _, _, _, w.cell0 rfl, loop s.dir.length 0 [] false none 0 h (by omega) (by simp) (by simp) SlV.nil w⟩
def f70_J : Nat → List Nat × Nat := jOf []



theorem f70_go {w0 : World} {K : Value → AH → Prop} (a0 : Option Go.Addr) (n0 : Nat) (c0 : Nat) (h : AH)
  (hv : (rowsOf w0 h 2 a0 n0 (fun ys'0 => (App w0 h 2 24 none 0 0 n0 ys'0 (fun a'1 c'2 h'3 => (K (Go.Value.slice a'1 (0 + n0) c'2) h'3)))))) :
  EvC Go.Proofs.Try.prog w0 70 ([(.slice a0 n0 c0)]).toArray K h := EvC_intro (P := Go.Proofs.Try.prog) f70_J (Eq.mp (by kernel_rfl) hv)
def f51_J : Nat → List Nat × Nat := jOf []



theorem f51_go {w0 : World} {K : Value → AH → Prop} (x0 : Option Go.Addr) (h : AH)
  (hv : (∃ a'0 : Go.Addr, ((x0 = (some a'0)) ∧ (∃ a'1 : Go.Addr, ((x0 = (some a'1)) ∧ ((∃ p'2 : Option Go.Addr, (∃ n'3 : Nat, (∃ n'4 : Nat, (((Go.G.cellA w0 h (Go.Addr.add a'0 2)) = (some (Go.Value.slice p'2 n'3 n'4))) ∧ (∃ p'5 : Option Go.Addr, (∃ n'6 : Nat, (∃ n'7 : Nat, (((Go.G.cellA w0 h (Go.Addr.add a'1 1)) = (some (Go.Value.slice p'5 n'6 n'7))) ∧ (EvC Go.Proofs.Try.prog w0 70 #[(Go.Value.slice p'5 n'6 n'7)] (fun x'8 h'9 => (∃ p'10 : Option Go.Addr, (∃ n'11 : Nat, (∃ n'12 : Nat, ((x'8 = (Go.Value.slice p'10 n'11 n'12)) ∧ (App w0 h'9 1 24 p'2 n'3 n'4 1 [(Go.Value.slice p'10 n'11 n'12)] (fun a'13 c'14 h'15 => (∃ a'16 : Go.Addr, ((x0 = (some a'16)) ∧ (∃ l'17 : List Go.Value, (∃ n'18 : Nat, (((Array.size (Go.World.heap w0)) ≤ (Go.Addr.block (Go.Addr.add a'16 2))) ∧ (((none : Option Nat) = none) ∧ (((h'15 (Go.Addr.block (Go.Addr.add a'16 2))) = (some (Go.G.AB.cells l'17 n'18))) ∧ ((((Go.Addr.off (Go.Addr.add a'16 2)) + (Array.size #[(Go.Value.slice a'13 (n'3 + 1) c'14)])) ≤ (List.length l'17)) ∧ (K (Go.Value.tuple #[]) (Go.G.AH.put h'15 (Go.Addr.block (Go.Addr.add a'16 2)) (Go.G.AB.cells (Go.G.setCells l'17 (Go.Addr.off (Go.Addr.add a'16 2)) [(Go.Value.slice a'13 (n'3 + 1) c'14)]) n'18)))))))))))))))))) h))))))))) ∧ (∃ p'19 : Option Go.Addr, (∃ n'20 : Nat, (∃ n'21 : Nat, (((Go.G.cellA w0 h (Go.Addr.add a'1 1)) = (some (Go.Value.slice p'19 n'20 n'21))) ∧ ((∃ p'22 : Option Go.Addr, (∃ n'23 : Nat, (∃ n'24 : Nat, (((Go.G.cellA w0 h (Go.Addr.add a'0 2)) = (some (Go.Value.slice p'22 n'23 n'24))) ∧ (EvC Go.Proofs.Try.prog w0 70 #[(Go.Value.slice p'19 n'20 n'21)] (fun x'25 h'26 => (∃ p'27 : Option Go.Addr, (∃ n'28 : Nat, (∃ n'29 : Nat, ((x'25 = (Go.Value.slice p'27 n'28 n'29)) ∧ (App w0 h'26 1 24 p'22 n'23 n'24 1 [(Go.Value.slice p'27 n'28 n'29)] (fun a'30 c'31 h'32 => (∃ a'33 : Go.Addr, ((x0 = (some a'33)) ∧ (∃ l'34 : List Go.Value, (∃ n'35 : Nat, (((Array.size (Go.World.heap w0)) ≤ (Go.Addr.block (Go.Addr.add a'33 2))) ∧ (((none : Option Nat) = none) ∧ (((h'32 (Go.Addr.block (Go.Addr.add a'33 2))) = (some (Go.G.AB.cells l'34 n'35))) ∧ ((((Go.Addr.off (Go.Addr.add a'33 2)) + (Array.size #[(Go.Value.slice a'30 (n'23 + 1) c'31)])) ≤ (List.length l'34)) ∧ (K (Go.Value.tuple #[]) (Go.G.AH.put h'32 (Go.Addr.block (Go.Addr.add a'33 2)) (Go.G.AB.cells (Go.G.setCells l'34 (Go.Addr.off (Go.Addr.add a'33 2)) [(Go.Value.slice a'30 (n'23 + 1) c'31)]) n'35)))))))))))))))))) h))))) ∧ (EvC Go.Proofs.Try.prog w0 70 #[(Go.Value.slice p'19 n'20 n'21)] (fun x'36 h'37 => (∃ p'38 : Option Go.Addr, (∃ n'39 : Nat, (∃ n'40 : Nat, ((x'36 = (Go.Value.slice p'38 n'39 n'40)) ∧ ((∃ p'41 : Option Go.Addr, (∃ n'42 : Nat, (∃ n'43 : Nat, (((Go.G.cellA w0 h'37 (Go.Addr.add a'0 2)) = (some (Go.Value.slice p'41 n'42 n'43))) ∧ (App w0 h'37 1 24 p'41 n'42 n'43 1 [(Go.Value.slice p'38 n'39 n'40)] (fun a'44 c'45 h'46 => (∃ a'47 : Go.Addr, ((x0 = (some a'47)) ∧ (∃ l'48 : List Go.Value, (∃ n'49 : Nat, (((Array.size (Go.World.heap w0)) ≤ (Go.Addr.block (Go.Addr.add a'47 2))) ∧ (((none : Option Nat) = none) ∧ (((h'46 (Go.Addr.block (Go.Addr.add a'47 2))) = (some (Go.G.AB.cells l'48 n'49))) ∧ ((((Go.Addr.off (Go.Addr.add a'47 2)) + (Array.size #[(Go.Value.slice a'44 (n'42 + 1) c'45)])) ≤ (List.length l'48)) ∧ (K (Go.Value.tuple #[]) (Go.G.AH.put h'46 (Go.Addr.block (Go.Addr.add a'47 2)) (Go.G.AB.cells (Go.G.setCells l'48 (Go.Addr.off (Go.Addr.add a'47 2)) [(Go.Value.slice a'44 (n'42 + 1) c'45)]) n'49))))))))))))))))) ∧ (∃ p'50 : Option Go.Addr, (∃ n'51 : Nat, (∃ n'52 : Nat, (((Go.G.cellA w0 h'37 (Go.Addr.add a'0 2)) = (some (Go.Value.slice p'50 n'51 n'52))) ∧ (App w0 h'37 1 24 p'50 n'51 n'52 1 [(Go.Value.slice p'38 n'39 n'40)] (fun a'53 c'54 h'55 => (∃ a'56 : Go.Addr, ((x0 = (some a'56)) ∧ (∃ l'57 : List Go.Value, (∃ n'58 : Nat, (((Array.size (Go.World.heap w0)) ≤ (Go.Addr.block (Go.Addr.add a'56 2))) ∧ (((none : Option Nat) = none) ∧ (((h'55 (Go.Addr.block (Go.Addr.add a'56 2))) = (some (Go.G.AB.cells l'57 n'58))) ∧ ((((Go.Addr.off (Go.Addr.add a'56 2)) + (Array.size #[(Go.Value.slice a'53 (n'51 + 1) c'54)])) ≤ (List.length l'57)) ∧ (K (Go.Value.tuple #[]) (Go.G.AH.put h'55 (Go.Addr.block (Go.Addr.add a'56 2)) (Go.G.AB.cells (Go.G.setCells l'57 (Go.Addr.off (Go.Addr.add a'56 2)) [(Go.Value.slice a'53 (n'51 + 1) c'54)]) n'58))))))))))))))))))))))) h)))))))))))) :
  EvC Go.Proofs.Try.prog w0 51 ([(.pointer x0)]).toArray K h := EvC_intro (P := Go.Proofs.Try.prog) f51_J (Eq.mp (by kernel_rfl) hv)
/-- copied. -/
theorem f70_spec {w0 : World} {K : Value → AH → Prop} {h : AH} {B : List (Nat × AB)} {F : List FO} {d : Dir} {a : Option Addr} {c : Nat} (w : Own w0 h B) (hr : Rd w0 h a (entC F d)) (hs : d.length ≤ 1000000000000)
    (hk : ∀ a' c' h', SlV 2 a' d.length c' (entC F d) → Own w0 h' (slB a' (entC F d) (c' * 2) ++ B) → K (.slice a' d.length c') h') : EvC Go.Proofs.Try.prog w0 70 #[.slice a d.length c] K h := by
  refine f70_go _ _ _ _ (rowsOf_of hr (entC_length F d) (App_new w (by omega) (by omega) (entC_length F d) (ent_cell F d) fun a' c' h' v w' => ?_))
  rw [Nat.zero_add]
  exact hk a' c' h' v w'

theorem slice_cell {a : Option Addr} {n c : Nat} : ∀ y ∈ [Value.slice a n c], y.oneCell' = true := by intro y hy; simp at hy; subst hy; rfl
/-- changed. -/
theorem f51_spec {w0 : World} {K : Value → AH → Prop} {h : AH} {B : List (Nat × AB)} {s : Ds} {R : RD} {F : List FO}
    (w : Own w0 h ((R.bd, .cells (rcells s R) 8) :: (slB R.la (entC F s.dir) (R.lc * 2) ++ (slB R.wa (wasC s.was R.W) (R.wc * 1) ++ B))))
    (lv : SlV 2 R.la s.dir.length R.lc (entC F s.dir)) (wv : SlV 1 R.wa s.was.length R.wc (wasC s.was R.W)) (hs : s.dir.length ≤ 1000000000000) (hw : s.was.length ≤ 1000000000000)
    (hk : ∀ h' wa' wc' (p : Option Addr × Nat), SlV 2 p.1 s.dir.length p.2 (entC F s.dir) → SlV 1 wa' (s.was.length + 1) wc' (wasC s.was R.W ++ [.slice p.1 s.dir.length p.2]) →
      Own w0 h' ((R.bd, .cells (rcl s.room R.la s.dir.length R.lc wa' (s.was.length + 1) wc' s.calls s.fuse s.wait s.fails s.off) 8) :: (slB R.la (entC F s.dir) (R.lc * 2) ++ (slB wa' (wasC s.was R.W ++ [.slice p.1 s.dir.length p.2]) (wc' * 1) ++ (slB p.1 (entC F s.dir) (p.2 * 2) ++ B)))) → K (.tuple #[]) h') :
    EvC Go.Proofs.Try.prog w0 51 #[.pointer (some ⟨R.bd, 0, none⟩)] K h := by
  have rd : Rd w0 h R.la (entC F s.dir) := lv.rd (cs := [_]) w
  have core : ∀ (a' : Option Addr) (c' : Nat) (h' : AH), SlV 2 a' s.dir.length c' (entC F s.dir) →
      Own w0 h' (slB a' (entC F s.dir) (c' * 2) ++ ((R.bd, .cells (rcells s R) 8) :: (slB R.la (entC F s.dir) (R.lc * 2) ++ (slB R.wa (wasC s.was R.W) (R.wc * 1) ++ B)))) →
      Own w0 h' ((R.bd, .cells (rcells s R) 8) :: (slB R.la (entC F s.dir) (R.lc * 2) ++ (slB R.wa (wasC s.was R.W) (R.wc * 1) ++ (slB a' (entC F s.dir) (c' * 2) ++ B)))) ∧
      App w0 h' 1 24 R.wa s.was.length R.wc 1 [.slice a' s.dir.length c'] (fun a'13 c'14 h'15 => ∃ a'16 : Addr, (some ⟨R.bd, 0, none⟩ : Option Addr) = some a'16 ∧ ∃ l'17 : List Value, ∃ n'18 : Nat, (w0.heap.size ≤ (a'16.add 2).block ∧ ((none : Option Nat) = none ∧ (h'15 (a'16.add 2).block = some (AB.cells l'17 n'18) ∧ ((a'16.add 2).off + (#[Value.slice a'13 (s.was.length + 1) c'14]).size ≤ l'17.length ∧
        K (.tuple #[]) (h'15.put (a'16.add 2).block (AB.cells (setCells l'17 (a'16.add 2).off [Value.slice a'13 (s.was.length + 1) c'14]) n'18))))))) := fun a' c' h' v w' => by
    have w2 : Own w0 h' (slB a' (entC F s.dir) (c' * 2) ++ (((R.bd, .cells (rcells s R) 8) :: (slB R.la (entC F s.dir) (R.lc * 2) ++ slB R.wa (wasC s.was R.W) (R.wc * 1))) ++ B)) := by
      simpa only [List.cons_append, List.append_assoc] using w'
    have w3 := w2.front
    have w4 : Own w0 h' ((R.bd, .cells (rcells s R) 8) :: (slB R.la (entC F s.dir) (R.lc * 2) ++ (slB R.wa (wasC s.was R.W) (R.wc * 1) ++ (slB a' (entC F s.dir) (c' * 2) ++ B)))) := by
      simpa only [List.cons_append, List.append_assoc] using w3
    refine ⟨w4, App_mid (cs := _ :: slB R.la (entC F s.dir) (R.lc * 2)) wv w4 (by omega) (by omega) rfl slice_cell fun a2 c2 h2 v2 w5 => ?_⟩
    refine ⟨_, rfl, _, 8, Own.ge w5, rfl, Own.hd w5, by simp [rcells, rcl, Addr.add], hk _ a2 c2 (a', c') v v2 ?_⟩
    exact Own.put (o' := .cells (rcl s.room R.la s.dir.length R.lc a2 (s.was.length + 1) c2 s.calls s.fuse s.wait s.fails s.off) 8) w5
  refine f51_go _ _ ⟨_, rfl, _, rfl, ⟨_, _, _, w.cell0 rfl, _, _, _, w.cell0 rfl, f70_spec w rd hs fun a' c' h' v w' => ⟨_, _, _, rfl, (core a' c' h' v w').2⟩⟩,
    ⟨_, _, _, w.cell0 rfl, ?_⟩⟩
  refine ⟨⟨_, _, _, w.cell0 rfl, f70_spec w rd hs fun a' c' h' v w' => ⟨_, _, _, rfl, (core a' c' h' v w').2⟩⟩, f70_spec w rd hs fun a' c' h' v w' => ⟨_, _, _, rfl, ?_⟩⟩
  obtain ⟨w2, ap⟩ := core a' c' h' v w'
  exact dup ⟨_, _, _, w2.cell0 rfl, ap⟩
end Go.G.Ytpjklfmfgmicaaa
