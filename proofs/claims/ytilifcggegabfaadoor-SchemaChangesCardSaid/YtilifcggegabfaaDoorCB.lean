/- Changes, plainly; keys rise; schema.Changes. -/
import Derived.Test.YtilifcggegabfaaDoorEC
import Derived.Test.YtilifcggegabfaaDoorLA
import Derived.Test.YtilifcggegabfaaDoorProg
set_option maxRecDepth 100000
namespace Go.G.YtilifcggegabfaaDoor
open Go.RowKit
open Value (string slice int bool agg)
def f60_J : Nat → List Nat × Nat := jOf []



theorem f60_go {w0 : World} {K : Value → AH → Prop} (a : Option Addr) (b : Nat) (c : Nat) (d : Option Addr) (e : Nat) (g : Nat) (h : AH)
  (hv : (extR Proofs.Tryd.prog w0 79 #[(slice a b c), (slice d e g)] h (fun k => (∃ i : Int, ((k = (int .i64 i)) ∧ (K (int .i64 i) h)))))) :
  EvC Proofs.Tryd.prog w0 60 ([(.slice a b c), (.slice d e g)]).toArray K h := EvC_intro (P := Proofs.Tryd.prog) f60_J (Eq.mp (by kernel_rfl) hv)
def f38_J : Nat → List Nat × Nat := jOf []



theorem f38_go {w0 : World} {K : Value → AH → Prop} (a : Option Addr) (b : Nat) (c : Nat) (d : Option Addr) (e : Nat) (g : Nat) (h : AH)
  (hv : (EvC Proofs.Tryd.prog w0 60 #[(slice a b c), (slice d e g)] (fun k m => (∃ i : Int, ((k = (int .i64 i)) ∧ (K (int .i64 i) m)))) h)) :
  EvC Proofs.Tryd.prog w0 38 ([(.slice a b c), (.slice d e g)]).toArray K h := EvC_intro (P := Proofs.Tryd.prog) f38_J (Eq.mp (by kernel_rfl) hv)
def f14_J : Nat → List Nat × Nat := jOf []



theorem f14_go {w0 : World} {K : Value → AH → Prop} (a : Option Addr) (b : Nat) (m : Nat) (c : Option Addr) (d : Nat) (n : Nat) (h : AH)
  (hv : ((rowsOf w0 h 1 a b (fun o => (∃ e : ByteArray, ((o = (intsOf e)) ∧ (rowsOf w0 h 1 c d (fun p => (∃ g : ByteArray, ((p = (intsOf g)) ∧ (brB (Op.bytesLess (ByteArray.toList e) (ByteArray.toList g)) (K (int .i64 (-1 : Int)) h) (brB (Op.bytesLess (ByteArray.toList g) (ByteArray.toList e)) (K (int .i64 (1 : Int)) h) (K (int .i64 (0 : Int)) h))))))))))) ∧ (rowsOf w0 h 1 c d (fun q => (∃ i : ByteArray, ((q = (intsOf i)) ∧ (rowsOf w0 h 1 a b (fun r => (∃ k : ByteArray, ((r = (intsOf k)) ∧ (brB (Op.bytesLess (ByteArray.toList k) (ByteArray.toList i)) (K (int .i64 (-1 : Int)) h) (brB (Op.bytesLess (ByteArray.toList i) (ByteArray.toList k)) (K (int .i64 (1 : Int)) h) (K (int .i64 (0 : Int)) h))))))))))))) :
  EvC Proofs.Tryd.prog w0 14 ([(.slice a b m), (.slice c d n)]).toArray K h := EvC_intro (P := Proofs.Tryd.prog) f14_J (Eq.mp (by kernel_rfl) hv)
def f39_J : Nat → List Nat × Nat := jOf []



theorem f39_go {w0 : World} {K : Value → AH → Prop} (a : Option Addr) (b : Nat) (i : Nat) (c : Option Addr) (d : Nat) (k : Nat) (h : AH)
  (hv : (rowsOf w0 h 1 a b (fun m => (∃ e : ByteArray, ((m = (intsOf e)) ∧ (rowsOf w0 h 1 c d (fun n => (∃ g : ByteArray, ((n = (intsOf g)) ∧ (K (bool (decide ((e = g)))) h)))))))))) :
  EvC Proofs.Tryd.prog w0 39 ([(.slice a b i), (.slice c d k)]).toArray K h := EvC_intro (P := Proofs.Tryd.prog) f39_J (Eq.mp (by kernel_rfl) hv)
/-! ### changes, plainly -/
abbrev ODat := List UInt8 × Bool × Int × List UInt8
def chg : List EDat → List EDat → List ODat
  | [], m => m.map fun e => (e.1, false, e.2.1, e.2.2)
  | x :: l, [] => (x :: l).map fun e => (e.1, true, 0, [])
  | x :: l, y :: m => if cmpL x.1 y.1 < 0 then (x.1, true, 0, []) :: chg l (y :: m) else if 0 < cmpL x.1 y.1 then (y.1, false, y.2.1, y.2.2) :: chg (x :: l) m else
      (if x.2.1 = y.2.1 ∧ x.2.2 = y.2.2 then [] else [(y.1, false, y.2.1, y.2.2)]) ++ chg l m
termination_by l m => l.length + m.length
structure OpM where
  ka : Option Addr
  kc : Nat
  key : List UInt8
  gone : Bool
  til : Int
  va : Option Addr
  vc : Nat
  val : List UInt8
@[reducible] def OpM.cells (e : OpM) : List Value := [.slice e.ka e.key.length e.kc, .bool e.gone, .int .i64 e.til, .slice e.va e.val.length e.vc]
def OpM.dat (e : OpM) : ODat := (e.key, e.gone, e.til, e.val)
theorem op_cell (e : OpM) : ∀ y ∈ e.cells, y.oneCell' = true := by
  intro y hy
  simp at hy
  rcases hy with rfl | rfl | rfl | rfl <;> rfl
theorem chg_nil {y : EntM} {m' : List EntM} : chg (([] : List EntM).map EntM.dat) ((y :: m').map EntM.dat) = (y.key, false, y.til, y.val) :: chg (([] : List EntM).map EntM.dat) (m'.map EntM.dat) := by
  simp [chg, EntM.dat]
theorem chg_nil_r : ∀ l : List EDat, chg l [] = l.map fun e => (e.1, true, 0, [])
  | [] => by simp [chg]
  | x :: l => by rw [chg]
theorem chg_nil' {x : EntM} {l' : List EntM} : chg ((x :: l').map EntM.dat) (([] : List EntM).map EntM.dat) = (x.key, true, 0, []) :: chg (l'.map EntM.dat) (([] : List EntM).map EntM.dat) := by
  rw [List.map_nil, chg_nil_r, chg_nil_r]; rfl
theorem chg_lt {x y : EntM} {l' m' : List EntM} (h : cmpL x.key y.key < 0) : chg ((x :: l').map EntM.dat) ((y :: m').map EntM.dat) = (x.key, true, 0, []) :: chg (l'.map EntM.dat) ((y :: m').map EntM.dat) := by
  rw [List.map_cons, List.map_cons, chg, if_pos (show cmpL (EntM.dat x).1 (EntM.dat y).1 < 0 from h)]; rfl
theorem chg_gt {x y : EntM} {l' m' : List EntM} (h : 0 < cmpL x.key y.key) : chg ((x :: l').map EntM.dat) ((y :: m').map EntM.dat) = (y.key, false, y.til, y.val) :: chg ((x :: l').map EntM.dat) (m'.map EntM.dat) := by
  rw [List.map_cons, List.map_cons, chg, if_neg (show ¬ cmpL (EntM.dat x).1 (EntM.dat y).1 < 0 from by show ¬ cmpL x.key y.key < 0; omega), if_pos (show 0 < cmpL (EntM.dat x).1 (EntM.dat y).1 from h)]; rfl
theorem chg_eq {x y : EntM} {l' m' : List EntM} (h : cmpL x.key y.key = 0) : chg ((x :: l').map EntM.dat) ((y :: m').map EntM.dat) = (if x.til = y.til ∧ x.val = y.val then [] else [(y.key, false, y.til, y.val)]) ++ chg (l'.map EntM.dat) (m'.map EntM.dat) := by
  rw [List.map_cons, List.map_cons, chg, if_neg (show ¬ cmpL (EntM.dat x).1 (EntM.dat y).1 < 0 from by show ¬ cmpL x.key y.key < 0; omega), if_neg (show ¬ 0 < cmpL (EntM.dat x).1 (EntM.dat y).1 from by show ¬ 0 < cmpL x.key y.key; omega)]; rfl
theorem chg_len : ∀ (l m : List EDat), (chg l m).length ≤ l.length + m.length
  | [], m => by simp [chg]
  | x :: l, [] => by rw [chg_nil_r]; simp
  | x :: l, y :: m => by
    have h1 := chg_len l (y :: m)
    have h2 := chg_len (x :: l) m
    have h3 := chg_len l m
    rw [chg]
    simp only [List.length_cons] at *
    split
    · simp only [List.length_cons]; omega
    · split
      · simp only [List.length_cons]; omega
      · rw [List.length_append]
        split <;> simp <;> omega
termination_by l m => l.length + m.length
/-- Entries that lie there, whatever is done. -/
structure EntsRd (w0 : World) (C : List (Nat × AB)) (a : Option Addr) (c : Nat) (l : List EntM) : Prop where
  rd : ∀ h' D, Own w0 h' (D ++ C) → Rd w0 h' a (l.flatMap EntM.cells)
  cap : l.length ≤ c
  each : ∀ y ∈ l, ∀ h' D, Own w0 h' (D ++ C) → Rd w0 h' y.ka (u8s y.key) ∧ Rd w0 h' y.va (u8s y.val)
/-- A change's bytes lie there, whatever is done. -/
def OpRd (w0 : World) (C : List (Nat × AB)) (o : OpM) : Prop := ∀ h' D, Own w0 h' (D ++ C) → Rd w0 h' o.ka (u8s o.key) ∧ Rd w0 h' o.va (u8s o.val)
theorem EntsRd.op {w0 : World} {C : List (Nat × AB)} {a : Option Addr} {c : Nat} {l : List EntM} (r : EntsRd w0 C a c l) {y : EntM} (hy : y ∈ l) : ∀ h' D, Own w0 h' (D ++ C) → Rd w0 h' y.ka (u8s y.key) ∧ Rd w0 h' y.va (u8s y.val) := r.each y hy
theorem EntsRd.cut {w0 : World} {C : List (Nat × AB)} {a : Option Addr} {c : Nat} {x : EntM} {l : List EntM} (r : EntsRd w0 C a c (x :: l)) : EntsRd w0 C (cutA 5 a c 1) (c - 1) l := by
  have hc := r.cap
  rw [List.length_cons] at hc
  refine ⟨fun h' D w => ?_, by omega, fun y hy => r.each y (List.mem_cons_of_mem _ hy)⟩
  have hr := r.rd h' D w
  rw [List.flatMap_cons] at hr
  refine hr.cut rfl fun hne e => ?_
  have : l = [] := List.eq_nil_of_length_eq_zero (by omega)
  subst this; exact hne rfl
theorem EntsRd.head {w0 : World} {h : AH} {C D : List (Nat × AB)} {a : Option Addr} {c : Nat} {x : EntM} {l : List EntM} (r : EntsRd w0 C a c (x :: l)) (w : Own w0 h (D ++ C)) :
    ∃ ad, a = some ad ∧ cellA w0 h (Addr.add (Addr.add ad 0) 0) = some (.slice x.ka x.key.length x.kc) ∧ cellA w0 h (Addr.add (Addr.add ad 0) 3) = some (.int .i64 x.til) ∧ cellA w0 h (Addr.add (Addr.add ad 0) 4) = some (.slice x.va x.val.length x.vc) := by
  have hr := r.rd h D w
  obtain ⟨ad, had, c0⟩ := hr 0 _ rfl
  obtain ⟨ad3, had3, c3⟩ := hr 3 _ rfl
  obtain ⟨ad4, had4, c4⟩ := hr 4 _ rfl
  rw [had] at had3 had4
  injection had3 with had3
  injection had4 with had4
  subst had3 had4
  exact ⟨ad, had, by rw [Deep.add_add]; exact c0, by rw [Deep.add_add]; exact c3, by rw [Deep.add_add]; exact c4⟩
/-! ### the order of bytes -/
theorem cmpL_bytes : ∀ (x y : List UInt8), cmpL x y = Lib.compareBytes x y
  | [], [] => by simp [cmpL, Lib.compareBytes, Op.bytesLess]
  | [], _ :: _ => by simp [cmpL, Lib.compareBytes, Op.bytesLess]
  | _ :: _, [] => by simp [cmpL, Lib.compareBytes, Op.bytesLess]
  | a :: x, b :: y => by
    have ih := cmpL_bytes x y
    unfold cmpL at ih ⊢
    unfold Lib.compareBytes
    rw [Op.bytesLess, Op.bytesLess, ← ih]
    by_cases h1 : a < b
    · simp [h1]
    · by_cases h2 : b < a
      · have : ¬ a = b := fun e => by subst e; exact UInt8.lt_irrefl a h2
        have h3 : (a == b) = false := by simpa using this
        simp [h1, h2, h3]
      · have : a = b := UInt8.le_antisymm (UInt8.not_lt.1 h2) (UInt8.not_lt.1 h1)
        subst this
        simp [h1]

theorem f79_ext {w0 : World} {h : AH} {K : Value → Prop} {a b : Option Addr} {n m c d : Nat} {x y : List UInt8} (hx : Rd w0 h a (u8s x)) (hy : Rd w0 h b (u8s y)) (hn : n = x.length) (hm : m = y.length) (hk : K (.int .i64 (cmpL x y))) :
    extR Go.Proofs.Tryd.prog w0 79 #[.slice a n c, .slice b m d] h K := by
  refine ⟨_, fun w hw => ?_, hk⟩
  have he : Extern.find Go.Proofs.Tryd.f79 = some Extern.BytealgCompare.compare := by kernel_rfl
  rw [run_callFunc_extern Go.Proofs.Tryd.func79 (by kernel_rfl) (by kernel_rfl) (by kernel_rfl) he]
  have r1 := bytesOf_run (P := Go.Proofs.Tryd.prog) (w := w) (c := c) hn fun j v hj => by
    obtain ⟨ad, e, hc⟩ := hx j v hj
    exact ⟨ad, e, hw _ _ hc⟩
  have r2 := bytesOf_run (P := Go.Proofs.Tryd.prog) (w := w) (c := d) hm fun j v hj => by
    obtain ⟨ad, e, hc⟩ := hy j v hj
    exact ⟨ad, e, hw _ _ hc⟩
  have : (Extern.BytealgCompare.compare #[.slice a n c, .slice b m d]).run Go.Proofs.Tryd.prog w = .ok (.int .i64 (cmpL x y)) w := by
    change Sem.run Go.Proofs.Tryd.prog (do pure (goInt (Extern.BytealgCompare.cmp (← Extern.Bytes.bytesOf (.slice a n c)) (← Extern.Bytes.bytesOf (.slice b m d))))) w = _
    simp only [Sem.run_bind, r1, r2, Result.andThen_ok, Sem.run_pure]
    rw [Lib.cmp_eq, ← cmpL_bytes]
    rfl
  rw [this]; rfl

/-- bytes.Compare. -/
theorem f60_spec {w0 : World} {K : Value → AH → Prop} {h : AH} {a b : Option Addr} {n m c d : Nat} {x y : List UInt8} (hx : Rd w0 h a (u8s x)) (hy : Rd w0 h b (u8s y)) (hn : n = x.length) (hm : m = y.length)
    (hk : K (.int .i64 (cmpL x y)) h) : EvC Go.Proofs.Tryd.prog w0 60 #[.slice a n c, .slice b m d] K h :=
  f60_go _ _ _ _ _ _ _ (f79_ext hx hy hn hm ⟨_, rfl, hk⟩)
/-- ref Compare. -/
theorem f14_spec {w0 : World} {K : Value → AH → Prop} {h : AH} {a b : Option Addr} {n m c d : Nat} {x y : List UInt8} (hx : Rd w0 h a (u8s x)) (hy : Rd w0 h b (u8s y)) (hn : n = x.length) (hm : m = y.length)
    (hk : K (.int .i64 (cmpL x y)) h) : EvC Go.Proofs.Tryd.prog w0 14 #[.slice a n c, .slice b m d] K h := by
  have key : brB (Op.bytesLess (ByteArray.toList ⟨x.toArray⟩) (ByteArray.toList ⟨y.toArray⟩)) (K (.int .i64 (-1)) h) (brB (Op.bytesLess (ByteArray.toList ⟨y.toArray⟩) (ByteArray.toList ⟨x.toArray⟩)) (K (.int .i64 1) h) (K (.int .i64 0) h)) := by
    rw [bytesOf, bytesOf]
    unfold cmpL at hk
    refine brB_of (fun t => ?_) fun t => brB_of (fun t2 => ?_) fun t2 => ?_
    · simpa [t] using hk
    · simpa [t, t2] using hk
    · simpa [t, t2] using hk
  exact f14_go _ _ _ _ _ _ _ ⟨rows8 hx hn (rows8 hy hm key), rows8 hy hm (rows8 hx hn key)⟩

theorem f38_spec {w0 : World} {K : Value → AH → Prop} {h : AH} {a b : Option Addr} {n m c d : Nat} {x y : List UInt8} (hx : Rd w0 h a (u8s x)) (hy : Rd w0 h b (u8s y)) (hn : n = x.length) (hm : m = y.length)
    (hk : K (.int .i64 (cmpL x y)) h) : EvC Go.Proofs.Tryd.prog w0 38 #[.slice a n c, .slice b m d] K h :=
  f38_go _ _ _ _ _ _ _ (f60_spec hx hy hn hm ⟨_, rfl, hk⟩)
/-! ### the entries' keys rise -/
theorem lt_cons {a b : UInt8} {x y : List UInt8} (h : a < b) : a :: x < b :: y := List.cons_lt_cons_iff.2 (.inl h)
theorem lt_same {a : UInt8} {x y : List UInt8} (h : x < y) : a :: x < a :: y := List.cons_lt_cons_iff.2 (.inr ⟨rfl, h⟩)
theorem lt_app {x y : List UInt8} : ∀ (l : List UInt8), x < y → l ++ x < l ++ y
  | [], h => h
  | _ :: l, h => lt_same (lt_app l h)
theorem lt_app_iff {x y : List UInt8} : ∀ (l : List UInt8), l ++ x < l ++ y ↔ x < y
  | [] => Iff.rfl
  | a :: l => by
    rw [List.cons_append, List.cons_append, List.cons_lt_cons_iff, lt_app_iff l]
    constructor
    · rintro (h | h)
      · exact absurd h (UInt8.lt_irrefl a)
      · exact h.2
    · exact fun h => .inr ⟨rfl, h⟩
theorem cmpL_neg {x y : List UInt8} : cmpL x y < 0 ↔ x < y := by
  unfold cmpL
  rw [Go.Proofs.bytesLess_eq, Go.Proofs.bytesLess_eq]
  by_cases h : x < y
  · simp [h]
  · by_cases h2 : y < x <;> simp [h, h2]
theorem cmpL_pos {x y : List UInt8} : 0 < cmpL x y ↔ y < x := by
  unfold cmpL
  rw [Go.Proofs.bytesLess_eq, Go.Proofs.bytesLess_eq]
  by_cases h : x < y
  · have : ¬ y < x := fun h2 => List.lt_irrefl x (List.lt_trans h h2)
    simp [h, this]
  · by_cases h2 : y < x <;> simp [h, h2]
theorem cmpL_same (x : List UInt8) : cmpL x x = 0 := by
  have h1 : ¬ cmpL x x < 0 := fun h => List.lt_irrefl x (cmpL_neg.1 h)
  have h2 : ¬ 0 < cmpL x x := fun h => List.lt_irrefl x (cmpL_pos.1 h)
  omega
theorem cmpL_zero {x y : List UInt8} (h : cmpL x y = 0) : x = y := by
  have h1 : ¬ x < y := fun h => by have := cmpL_neg.2 h; omega
  have h2 : ¬ y < x := fun h => by have := cmpL_pos.2 h; omega
  exact List.le_antisymm (List.not_lt.1 h2) (List.not_lt.1 h1)
theorem u8_pos {b : UInt8} (h : ¬ b = 0) : 0 < b := by
  rcases UInt8.lt_or_lt_of_ne h with h | h
  · exact absurd h (UInt8.not_lt_zero (a := b))
  · exact h
/-- Parts keep the order. -/
theorem part_lt : ∀ {a b : List UInt8}, a < b → ∀ x y : List UInt8, partE a ++ x < partE b ++ y
  | [], [], h, _, _ => absurd h (List.lt_irrefl _)
  | [], b :: bs, _, x, y => by
    by_cases e : b = 0
    · subst e
      show (0 : UInt8) :: 1 :: x < 0 :: 255 :: (partL bs ++ [0, 1] ++ y)
      exact lt_same (lt_cons (by decide))
    · simp only [partE, partL, e, if_false, List.nil_append, List.cons_append, List.append_assoc]
      exact lt_cons (u8_pos e)
  | _ :: _, [], h, _, _ => absurd h (List.not_lt_nil _)
  | a :: u, b :: bs, h, x, y => by
    rcases List.cons_lt_cons_iff.1 h with h2 | ⟨rfl, h2⟩
    · have hb : ¬ b = 0 := fun e => by subst e; exact UInt8.not_lt_zero h2
      by_cases e : a = 0
      · simp only [partE, partL, e, hb, if_true, if_false, List.nil_append, List.cons_append, List.append_assoc]
        exact lt_cons (u8_pos hb)
      · simp only [partE, partL, e, hb, if_false, List.nil_append, List.cons_append, List.append_assoc]
        exact lt_cons h2
    · have ih := part_lt h2 x y
      have e1 : partE (a :: u) ++ x = (if a = 0 then [0, 255] else [a]) ++ (partE u ++ x) := by simp [partE, partL]
      have e2 : partE (a :: bs) ++ y = (if a = 0 then [0, 255] else [a]) ++ (partE bs ++ y) := by simp [partE, partL]
      rw [e1, e2]
      exact lt_app _ ih
theorem ofNat_lt {d e : Nat} (h : d < e) (he : e < 256) : UInt8.ofNat d < UInt8.ofNat e := by
  rw [UInt8.lt_iff_toNat_lt, UInt8.toNat_ofNat', UInt8.toNat_ofNat', Nat.mod_eq_of_lt (by omega), Nat.mod_eq_of_lt (by omega)]
  exact h
theorem fixed_lt {n m : Nat} : ∀ (k : Nat), n % 256 ^ k < m % 256 ^ k → fixedV n k < fixedV m k
  | 0, h => by simp [Nat.mod_one] at h
  | k + 1, h => by
    have en : n % 256 ^ (k + 1) = n % 256 ^ k + 256 ^ k * (n / 256 ^ k % 256) := by rw [Nat.pow_succ, Nat.mod_mul]
    have em : m % 256 ^ (k + 1) = m % 256 ^ k + 256 ^ k * (m / 256 ^ k % 256) := by rw [Nat.pow_succ, Nat.mod_mul]
    have hp : 0 < 256 ^ k := Nat.pow_pos (by decide)
    have ln := Nat.mod_lt n hp
    have lm := Nat.mod_lt m hp
    have he : m / 256 ^ k % 256 < 256 := Nat.mod_lt _ (by decide)
    rw [en, em] at h
    rcases Nat.lt_trichotomy (n / 256 ^ k % 256) (m / 256 ^ k % 256) with q | q | q
    · exact lt_cons (ofNat_lt q he)
    · simp only [fixedV]
      rw [q] at h ⊢
      exact lt_same (fixed_lt k (by omega))
    · have h2 := Nat.mul_le_mul_left (256 ^ k) (Nat.succ_le_of_lt q)
      rw [Nat.mul_succ] at h2
      omega
theorem xor63 {n : Nat} (h : n < 2 ^ 63) : n ^^^ 2 ^ 63 = n + 2 ^ 63 := by
  have e : 2 ^ 63 + n = 2 ^ 63 ||| n := by
    have := Nat.two_pow_add_eq_or_of_lt h 1
    simpa using this
  rw [Nat.add_comm, e]
  refine Nat.eq_of_testBit_eq fun i => ?_
  rw [Nat.testBit_xor, Nat.testBit_or, Nat.testBit_two_pow]
  by_cases q : 63 = i
  · subst q
    have : n.testBit 63 = false := Nat.testBit_lt_two_pow h
    simp [this]
  · simp [q]
theorem numU_eq {x : Int} (h0 : 0 ≤ x) (h1 : x < 9223372036854775808) : numU x = x.toNat + 9223372036854775808 := by
  unfold numU
  obtain ⟨n, rfl⟩ := Int.eq_ofNat_of_zero_le h0
  have e : IntKind.u64.wrap ((n : Nat) : Int) = ((n : Nat) : Int) := wrap64u (by omega) (by omega)
  rw [BitVec.toNat_xor, e, ofInt_nat, BitVec.toNat_ofNat, Nat.mod_eq_of_lt (by omega), show (BitVec.ofInt 64 (9223372036854775808 : Int)).toNat = 2 ^ 63 by decide, xor63 (by omega)]
  simp
/-- Numbers keep the order. -/
theorem num_lt {x y : Int} (h0 : 0 ≤ x) (h : x < y) (h1 : y < 9223372036854775808) : numL x < numL y := by
  refine fixed_lt 8 ?_
  rw [numU_eq h0 (by omega), numU_eq (by omega) h1, Nat.mod_eq_of_lt (by omega), Nat.mod_eq_of_lt (by omega)]
  omega
theorem key_lt {k : UInt8} {a b : ByteArray} (h : sLt a b) (x y : List UInt8) : keyL k a ++ x < keyL k b ++ y := by
  unfold sLt at h
  rw [Go.Proofs.bytesLess_eq, Lib.toList_data, Lib.toList_data, decide_eq_true_eq] at h
  exact lt_same (part_lt h x y)
theorem key_kind {k l : UInt8} {a b : ByteArray} (h : k < l) (x y : List UInt8) : keyL k a ++ x < keyL l b ++ y := lt_cons h
def KLt (e f : EDat) : Prop := e.1 < f.1
theorem Rise.pair {α : Type} {lt : α → α → Prop} (tr : ∀ a b c, lt a b → lt b c → lt a c) {l : List α} (h : Rise lt l) : l.Pairwise lt := h.pairwise tr
theorem queE_mem {x : SesM} {e : EDat} : ∀ {l : List MsgM} {j : Nat}, e ∈ queE x j l → ∃ k m, j ≤ k ∧ k < j + l.length ∧ m ∈ l ∧ e = (keyL 5 x.client ++ numL (x.head + (k : Nat)), m.til, msgL m)
  | [], _, h => by cases h
  | m :: l, j, h => by
    rcases List.mem_cons.1 h with rfl | h
    · exact ⟨j, m, Nat.le_refl _, by simp, List.mem_cons_self .., rfl⟩
    · obtain ⟨k, m', h1, h2, h3, h4⟩ := queE_mem h
      exact ⟨k, m', by omega, by simp; omega, List.mem_cons_of_mem _ h3, h4⟩
theorem queE_rise {x : SesM} (h0 : 0 ≤ x.head) (h1 : x.head ≤ 1152921504606846976) : ∀ (l : List MsgM) (j : Nat), j + l.length ≤ 1000 → (queE x j l).Pairwise KLt
  | [], _, _ => .nil
  | m :: l, j, h => by
    rw [List.length_cons] at h
    refine .cons (fun e he => ?_) (queE_rise h0 h1 l (j + 1) (by omega))
    obtain ⟨k, m', a1, a2, _, rfl⟩ := queE_mem he
    exact lt_app _ (num_lt (by omega) (by omega) (by omega))
theorem kind_of (s : StM) :
    (∀ e ∈ clockE s, e.1 = [1]) ∧ (∀ e ∈ s.ret.map retE, ∃ r, e.1 = 2 :: r) ∧ (∀ e ∈ s.ses.map sesE, ∃ r, e.1 = 3 :: r) ∧ (∀ e ∈ subsD s.ses, ∃ r, e.1 = 4 :: r) ∧ (∀ e ∈ quesD s.ses, ∃ r, e.1 = 5 :: r) ∧ (∀ e ∈ flsD s.ses, ∃ r, e.1 = 6 :: r) ∧ (∀ e ∈ idsD s.ses, ∃ r, e.1 = 7 :: r) := by
  refine ⟨fun e he => ?_, fun e he => ?_, fun e he => ?_, fun e he => ?_, fun e he => ?_, fun e he => ?_, fun e he => ?_⟩
  · unfold clockE at he
    split at he
    · rw [List.mem_singleton] at he; subst he; rfl
    · cases he
  · obtain ⟨m, _, rfl⟩ := List.mem_map.1 he; exact ⟨_, rfl⟩
  · obtain ⟨m, _, rfl⟩ := List.mem_map.1 he; exact ⟨_, rfl⟩
  · obtain ⟨x, _, hx⟩ := List.mem_flatMap.1 he
    obtain ⟨m, _, rfl⟩ := List.mem_map.1 hx; exact ⟨_, rfl⟩
  · obtain ⟨x, _, hx⟩ := List.mem_flatMap.1 he
    obtain ⟨k, m, _, _, _, rfl⟩ := queE_mem hx; exact ⟨_, rfl⟩
  · obtain ⟨x, _, hx⟩ := List.mem_flatMap.1 he
    obtain ⟨m, _, rfl⟩ := List.mem_map.1 hx; exact ⟨_, rfl⟩
  · obtain ⟨x, _, hx⟩ := List.mem_flatMap.1 he
    obtain ⟨m, _, rfl⟩ := List.mem_map.1 hx; exact ⟨_, rfl⟩
theorem pair_map {α : Type} {lt : α → α → Prop} {f : α → EDat} (hf : ∀ a b, lt a b → KLt (f a) (f b)) {l : List α} (h : l.Pairwise lt) : (l.map f).Pairwise KLt := List.pairwise_map.2 (h.imp fun h => hf _ _ h)
theorem sub_pair {c : Int} {x : SesM} (h : MaySes c x) : (x.subs.map (subE x)).Pairwise KLt := pair_map (lt := fun a b : WantM => sLt a.filter b.filter) (fun a b hab => by
  show keyL 4 x.client ++ partE a.filter.data.toList < keyL 4 x.client ++ partE b.filter.data.toList
  unfold sLt at hab
  rw [Go.Proofs.bytesLess_eq, Lib.toList_data, Lib.toList_data, decide_eq_true_eq] at hab
  have := part_lt hab [] []
  rw [List.append_nil, List.append_nil] at this
  exact lt_app _ this) (Rise.pair (lt := fun a b : WantM => sLt a.filter b.filter) (fun _ _ _ => sLt_trans) h.rise)
theorem fl_pair {c : Int} {x : SesM} (h : MaySes c x) : (x.fl.map (flE x)).Pairwise KLt := by
  have hp : x.fl.Pairwise (fun a b : FlM => a.order < b.order) := Rise.pair (lt := fun a b : FlM => a.order < b.order) (fun _ _ _ => Int.lt_trans) h.flr
  rw [List.pairwise_map]
  refine hp.imp_of_mem fun {a b} ha hb hab => ?_
  have h1 := (h.fl a ha).order0
  have h2 := (h.fl b hb).order
  have h3 := h.sent
  exact lt_app _ (num_lt h1 hab (by omega))
theorem id_pair {c : Int} {x : SesM} (h : MaySes c x) : (x.ids.map (idE x)).Pairwise KLt := by
  have hp : x.ids.Pairwise (fun a b : Int => a < b) := Rise.pair (lt := fun a b : Int => a < b) (fun _ _ _ => Int.lt_trans) h.idr
  rw [List.pairwise_map]
  refine hp.imp_of_mem fun {a b} ha hb hab => ?_
  have h1 := (h.ids a ha).1
  have h2 := (h.ids b hb).2
  exact lt_app _ (num_lt (by omega) hab (by omega))
theorem ses_pair {s : StM} (hm : MaySt s) {f : SesM → List EDat} {k : UInt8} (hf : ∀ x, ∀ e ∈ f x, ∃ r, e.1 = keyL k x.client ++ r) (hx : ∀ x ∈ s.ses, (f x).Pairwise KLt) : (s.ses.flatMap f).Pairwise KLt := by
  rw [List.pairwise_flatMap]
  refine ⟨hx, (Rise.pair (lt := fun a b : SesM => sLt a.client b.client) (fun _ _ _ => sLt_trans) hm.sesr).imp fun {a b} hab e he e' he' => ?_⟩
  obtain ⟨r, hr⟩ := hf a e he
  obtain ⟨r', hr'⟩ := hf b e' he'
  show e.1 < e'.1
  rw [hr, hr']
  exact key_lt hab r r'
theorem kinds_lt {k l : UInt8} (h : k < l) {A B : List EDat} (ha : ∀ e ∈ A, ∃ r, e.1 = k :: r) (hb : ∀ e ∈ B, ∃ r, e.1 = l :: r) : ∀ e ∈ A, ∀ f ∈ B, KLt e f := fun e he f hf => by
  obtain ⟨r, hr⟩ := ha e he
  obtain ⟨r', hr'⟩ := hb f hf
  show e.1 < f.1
  rw [hr, hr']; exact lt_cons h
/-- The entries of a state that may be rise by key. -/
theorem ents_rise {s : StM} (hm : MaySt s) : (entsD s).Pairwise KLt := by
  obtain ⟨h1, h2, h3, h4, h5, h6, h7⟩ := kind_of s
  have h1' : ∀ e ∈ clockE s, ∃ r, e.1 = 1 :: r := fun e he => ⟨[], h1 e he⟩
  have p1 : (clockE s).Pairwise KLt := by unfold clockE; split <;> simp
  have p2 : (s.ret.map retE).Pairwise KLt := pair_map (lt := fun a b : MsgM => sLt a.topic b.topic) (fun a b hab => by
    have := key_lt (k := 2) hab [] []
    rw [List.append_nil, List.append_nil] at this
    exact this) (Rise.pair (lt := fun a b : MsgM => sLt a.topic b.topic) (fun _ _ _ => sLt_trans) hm.retr)
  have p3 : (s.ses.map sesE).Pairwise KLt := pair_map (lt := fun a b : SesM => sLt a.client b.client) (fun a b hab => by
    have := key_lt (k := 3) hab [] []
    rw [List.append_nil, List.append_nil] at this
    exact this) (Rise.pair (lt := fun a b : SesM => sLt a.client b.client) (fun _ _ _ => sLt_trans) hm.sesr)
  have p4 : (subsD s.ses).Pairwise KLt := ses_pair hm (k := 4) (fun x e he => by obtain ⟨m, _, rfl⟩ := List.mem_map.1 he; exact ⟨_, rfl⟩) fun x hx => sub_pair (hm.ses x hx)
  have p5 : (quesD s.ses).Pairwise KLt := ses_pair hm (k := 5) (fun x e he => by obtain ⟨k, m, _, _, _, rfl⟩ := queE_mem he; exact ⟨_, rfl⟩) fun x hx => queE_rise (hm.ses x hx).head0 (hm.ses x hx).head x.queue 0 (by have := (hm.ses x hx).ql; omega)
  have p6 : (flsD s.ses).Pairwise KLt := ses_pair hm (k := 6) (fun x e he => by obtain ⟨m, _, rfl⟩ := List.mem_map.1 he; exact ⟨_, rfl⟩) fun x hx => fl_pair (hm.ses x hx)
  have p7 : (idsD s.ses).Pairwise KLt := ses_pair hm (k := 7) (fun x e he => by obtain ⟨m, _, rfl⟩ := List.mem_map.1 he; exact ⟨_, rfl⟩) fun x hx => id_pair (hm.ses x hx)
  unfold entsD
  refine List.pairwise_append.2 ⟨p1, List.pairwise_append.2 ⟨p2, List.pairwise_append.2 ⟨p3, List.pairwise_append.2 ⟨p4, List.pairwise_append.2 ⟨p5, List.pairwise_append.2 ⟨p6, p7, kinds_lt (by decide) h6 h7⟩, ?_⟩, ?_⟩, ?_⟩, ?_⟩, ?_⟩
  all_goals
    intro e he f hf
    simp only [List.mem_append] at hf
  · rcases hf with hf | hf
    · exact kinds_lt (by decide) h5 h6 e he f hf
    · exact kinds_lt (by decide) h5 h7 e he f hf
  · rcases hf with hf | hf | hf
    · exact kinds_lt (by decide) h4 h5 e he f hf
    · exact kinds_lt (by decide) h4 h6 e he f hf
    · exact kinds_lt (by decide) h4 h7 e he f hf
  · rcases hf with hf | hf | hf | hf
    · exact kinds_lt (by decide) h3 h4 e he f hf
    · exact kinds_lt (by decide) h3 h5 e he f hf
    · exact kinds_lt (by decide) h3 h6 e he f hf
    · exact kinds_lt (by decide) h3 h7 e he f hf
  · rcases hf with hf | hf | hf | hf | hf
    · exact kinds_lt (by decide) h2 h3 e he f hf
    · exact kinds_lt (by decide) h2 h4 e he f hf
    · exact kinds_lt (by decide) h2 h5 e he f hf
    · exact kinds_lt (by decide) h2 h6 e he f hf
    · exact kinds_lt (by decide) h2 h7 e he f hf
  · rcases hf with hf | hf | hf | hf | hf | hf
    · exact kinds_lt (by decide) h1' h2 e he f hf
    · exact kinds_lt (by decide) h1' h3 e he f hf
    · exact kinds_lt (by decide) h1' h4 e he f hf
    · exact kinds_lt (by decide) h1' h5 e he f hf
    · exact kinds_lt (by decide) h1' h6 e he f hf
    · exact kinds_lt (by decide) h1' h7 e he f hf
def f19_J : Nat → List Nat × Nat := jOf [(2, [0, 1, 4, 5, 6, 7, 8, 9, 10, 11, 12, 13, 14, 15, 16, 18, 19, 20, 21, 22, 23, 24, 25, 26, 27, 28, 29, 30, 31, 32, 33, 34, 35, 36, 37, 38, 39, 40, 41, 42, 43, 44, 45, 46, 47, 48, 49, 50, 51, 52, 53, 54, 55, 56, 57, 58, 59, 60, 61, 62, 63, 64, 65, 66, 67, 68, 69, 70, 71, 72, 73, 74, 75, 76, 77, 78, 79, 80, 81, 82, 83, 84, 85, 86, 87, 88, 89, 90, 91, 92, 93, 94, 95, 96, 97, 98, 99, 100, 101, 102, 103, 104, 105, 106, 107, 108, 109], 2), (3, [0, 1, 4, 5, 6, 7, 8, 9, 10, 11, 12, 13, 14, 15, 16, 17, 18, 19, 20, 21, 22, 23, 24, 25, 26, 27, 28, 29, 30, 31, 32, 33, 34, 35, 36, 37, 38, 39, 40, 41, 42, 43, 44, 45, 46, 47, 48, 49, 50, 51, 52, 53, 54, 55, 56, 57, 58, 59, 60, 61, 62, 63, 64, 65, 66, 67, 68, 69, 70, 71, 72, 73, 74, 75, 76, 77, 78, 79, 80, 81, 82, 83, 84, 85, 86, 87, 88, 89, 90, 91, 92, 93, 94, 95, 96, 97, 98, 99, 100, 101, 102, 103, 104, 105, 106, 107, 108, 109], 2), (5, [0, 1, 2, 3, 4, 5, 9, 10, 11, 12, 13, 14, 15, 16, 17, 18, 19, 20, 21, 22, 23, 24, 25, 26, 27, 28, 29, 30, 31, 32, 33, 34, 35, 36, 37, 38, 39, 40, 41, 42, 43, 44, 45, 46, 47, 48, 49, 50, 51, 52, 53, 54, 55, 56, 57, 58, 59, 60, 61, 62, 63, 64, 65, 66, 67, 68, 69, 70, 71, 72, 73, 74, 75, 76, 77, 78, 79, 80, 81, 82, 83, 84, 85, 86, 87, 88, 89, 90, 91, 92, 93, 94, 95, 96, 97, 98, 99, 100, 101, 102, 103, 104, 105, 106, 107, 108, 109], 0), (6, [0, 1, 2, 3, 4, 5, 9, 10, 11, 12, 13, 14, 15, 16, 17, 18, 19, 20, 21, 22, 23, 24, 25, 26, 27, 28, 29, 30, 31, 32, 33, 34, 35, 36, 37, 38, 39, 40, 41, 42, 43, 44, 45, 46, 47, 48, 49, 50, 51, 52, 53, 54, 55, 56, 57, 58, 59, 60, 61, 62, 63, 64, 65, 66, 67, 68, 69, 70, 71, 72, 73, 74, 75, 76, 77, 78, 79, 80, 81, 82, 83, 84, 85, 86, 87, 88, 89, 90, 91, 92, 93, 94, 95, 96, 97, 98, 99, 100, 101, 102, 103, 104, 105, 106, 107, 108, 109], 0), (20, [0, 1, 2, 3, 4, 5, 7, 8, 9, 10, 11, 12, 13, 14, 15, 16, 17, 18, 19, 20, 21, 22, 23, 24, 25, 26, 27, 28, 29, 30, 31, 32, 33, 34, 35, 36, 37, 38, 39, 40, 41, 42, 43, 44, 45, 46, 47, 48, 49, 50, 51, 52, 53, 54, 55, 56, 57, 58, 59, 60, 61, 62, 63, 64, 65, 66, 67, 68, 69, 70, 71, 72, 73, 74, 75, 76, 77, 78, 79, 80, 81, 82, 83, 84, 85, 86, 87, 88, 89, 90, 91, 92, 93, 94, 95, 96, 97, 98, 99, 100, 101, 102, 103, 104, 105, 106, 107, 108, 109], 0), (12, [0, 1, 2, 3, 4, 5, 10, 11, 12, 13, 14, 15, 16, 17, 18, 19, 20, 21, 22, 23, 24, 25, 26, 27, 28, 29, 30, 31, 32, 33, 34, 35, 36, 37, 38, 39, 40, 41, 42, 43, 44, 45, 46, 47, 48, 49, 50, 51, 52, 53, 54, 55, 56, 57, 58, 59, 60, 61, 62, 63, 64, 65, 66, 67, 68, 69, 70, 71, 72, 73, 74, 75, 76, 77, 78, 79, 80, 81, 82, 83, 84, 85, 86, 87, 88, 89, 90, 91, 92, 93, 94, 95, 96, 97, 98, 99, 100, 101, 102, 103, 104, 105, 106, 107, 108, 109], 0), (16, [0, 1, 2, 3, 4, 5, 10, 11, 12, 13, 14, 15, 16, 17, 18, 19, 20, 21, 22, 23, 24, 25, 26, 27, 28, 29, 30, 31, 32, 33, 34, 35, 36, 37, 38, 39, 40, 41, 42, 43, 44, 45, 46, 47, 48, 49, 50, 51, 52, 53, 54, 55, 56, 57, 58, 59, 60, 61, 62, 63, 64, 65, 66, 67, 68, 69, 70, 71, 72, 73, 74, 75, 76, 77, 78, 79, 80, 81, 82, 84, 85, 86, 87, 88, 89, 90, 91, 92, 93, 94, 95, 96, 97, 98, 99, 100, 101, 102, 103, 104, 105, 106, 107, 108, 109], 0), (17, [0, 1, 2, 3, 4, 5, 10, 11, 12, 13, 14, 15, 16, 17, 18, 19, 20, 21, 22, 23, 24, 25, 26, 27, 28, 29, 30, 31, 32, 33, 34, 35, 36, 37, 38, 39, 40, 41, 42, 43, 44, 45, 46, 47, 48, 49, 50, 51, 52, 53, 54, 55, 56, 57, 58, 59, 60, 61, 62, 63, 64, 65, 66, 67, 68, 69, 70, 71, 72, 73, 74, 75, 76, 77, 78, 79, 80, 81, 82, 83, 84, 85, 86, 87, 88, 89, 90, 91, 92, 93, 94, 95, 96, 97, 98, 99, 100, 101, 102, 103, 104, 105, 106, 107, 108, 109], 0)]

def f19_2 (w0 : World) (K : Value → AH → Prop) (a : Bool) (b : Int) (c : Option Addr) (d : Nat) (e : Nat) (g : Option Addr) (i : Nat) (k : Nat) (m : Int) (n : Option Addr) (o : Nat) (p : Nat) (q : Option Addr) (r : Nat) (s : Nat) (h : AH) : Prop :=
  ∀ j : Nat → Value, LPk Proofs.Tryd.prog w0 (EvC Proofs.Tryd.prog w0) f19_J 19 K 2 [.v (j 0), .v (j 1), .bp 0 0, .bp 1 0, .v (j 4), .v (j 5), .v (j 6), .v (j 7), .v (j 8), .v (j 9), .v (j 10), .v (j 11), .v (j 12), .v (j 13), .v (j 14), .v (j 15), .v (j 16), .v (.bool a), .v (j 18), .v (j 19), .v (j 20), .v (j 21), .v (j 22), .v (j 23), .v (j 24), .v (j 25), .v (j 26), .v (j 27), .v (j 28), .v (j 29), .v (j 30), .v (j 31), .v (j 32), .v (j 33), .v (j 34), .v (j 35), .v (j 36), .v (j 37), .v (j 38), .v (j 39), .v (j 40), .v (j 41), .v (j 42), .v (j 43), .v (j 44), .v (j 45), .v (j 46), .v (j 47), .v (j 48), .v (j 49), .v (j 50), .v (j 51), .v (j 52), .v (j 53), .v (j 54), .v (j 55), .v (j 56), .v (j 57), .v (j 58), .v (j 59), .v (j 60), .v (j 61), .v (j 62), .v (j 63), .v (j 64), .v (j 65), .v (j 66), .v (j 67), .v (j 68), .v (j 69), .v (j 70), .v (j 71), .v (j 72), .v (j 73), .v (j 74), .v (j 75), .v (j 76), .v (j 77), .v (j 78), .v (j 79), .v (j 80), .v (j 81), .v (j 82), .v (j 83), .v (j 84), .v (j 85), .v (j 86), .v (j 87), .v (j 88), .v (j 89), .v (j 90), .v (j 91), .v (j 92), .v (j 93), .v (j 94), .v (j 95), .v (j 96), .v (j 97), .v (j 98), .v (j 99), .v (j 100), .v (j 101), .v (j 102), .v (j 103), .v (j 104), .v (j 105), .v (j 106), .v (j 107), .v (j 108), .v (j 109)] [some [(.int .i64 b), (.slice c d e), (.slice g i k)], some [(.int .i64 m), (.slice n o p), (.slice q r s)]] h

def f19_3 (w0 : World) (K : Value → AH → Prop) (a : Int) (b : Option Addr) (c : Nat) (d : Nat) (e : Option Addr) (g : Nat) (i : Nat) (k : Int) (m : Option Addr) (n : Nat) (o : Nat) (p : Option Addr) (q : Nat) (r : Nat) (h : AH) : Prop :=
  ∀ j : Nat → Value, LPk Proofs.Tryd.prog w0 (EvC Proofs.Tryd.prog w0) f19_J 19 K 3 [.v (j 0), .v (j 1), .bp 0 0, .bp 1 0, .v (j 4), .v (j 5), .v (j 6), .v (j 7), .v (j 8), .v (j 9), .v (j 10), .v (j 11), .v (j 12), .v (j 13), .v (j 14), .v (j 15), .v (j 16), .v (j 17), .v (j 18), .v (j 19), .v (j 20), .v (j 21), .v (j 22), .v (j 23), .v (j 24), .v (j 25), .v (j 26), .v (j 27), .v (j 28), .v (j 29), .v (j 30), .v (j 31), .v (j 32), .v (j 33), .v (j 34), .v (j 35), .v (j 36), .v (j 37), .v (j 38), .v (j 39), .v (j 40), .v (j 41), .v (j 42), .v (j 43), .v (j 44), .v (j 45), .v (j 46), .v (j 47), .v (j 48), .v (j 49), .v (j 50), .v (j 51), .v (j 52), .v (j 53), .v (j 54), .v (j 55), .v (j 56), .v (j 57), .v (j 58), .v (j 59), .v (j 60), .v (j 61), .v (j 62), .v (j 63), .v (j 64), .v (j 65), .v (j 66), .v (j 67), .v (j 68), .v (j 69), .v (j 70), .v (j 71), .v (j 72), .v (j 73), .v (j 74), .v (j 75), .v (j 76), .v (j 77), .v (j 78), .v (j 79), .v (j 80), .v (j 81), .v (j 82), .v (j 83), .v (j 84), .v (j 85), .v (j 86), .v (j 87), .v (j 88), .v (j 89), .v (j 90), .v (j 91), .v (j 92), .v (j 93), .v (j 94), .v (j 95), .v (j 96), .v (j 97), .v (j 98), .v (j 99), .v (j 100), .v (j 101), .v (j 102), .v (j 103), .v (j 104), .v (j 105), .v (j 106), .v (j 107), .v (j 108), .v (j 109)] [some [(.int .i64 a), (.slice b c d), (.slice e g i)], some [(.int .i64 k), (.slice m n o), (.slice p q r)]] h

def f19_5 (w0 : World) (K : Value → AH → Prop) (a : Option Addr) (b : Nat) (c : Nat) (d : Option Addr) (e : Nat) (g : Nat) (i : Option Addr) (k : Nat) (m : Nat) (h : AH) : Prop :=
  ∀ j : Nat → Value, LPk Proofs.Tryd.prog w0 (EvC Proofs.Tryd.prog w0) f19_J 19 K 5 [.v (j 0), .v (j 1), .v (j 2), .v (j 3), .v (j 4), .v (j 5), .v (.slice a b c), .v (.slice d e g), .v (.slice i k m), .v (j 9), .v (j 10), .v (j 11), .v (j 12), .v (j 13), .v (j 14), .v (j 15), .v (j 16), .v (j 17), .v (j 18), .v (j 19), .v (j 20), .v (j 21), .v (j 22), .v (j 23), .v (j 24), .v (j 25), .v (j 26), .v (j 27), .v (j 28), .v (j 29), .v (j 30), .v (j 31), .v (j 32), .v (j 33), .v (j 34), .v (j 35), .v (j 36), .v (j 37), .v (j 38), .v (j 39), .v (j 40), .v (j 41), .v (j 42), .v (j 43), .v (j 44), .v (j 45), .v (j 46), .v (j 47), .v (j 48), .v (j 49), .v (j 50), .v (j 51), .v (j 52), .v (j 53), .v (j 54), .v (j 55), .v (j 56), .v (j 57), .v (j 58), .v (j 59), .v (j 60), .v (j 61), .v (j 62), .v (j 63), .v (j 64), .v (j 65), .v (j 66), .v (j 67), .v (j 68), .v (j 69), .v (j 70), .v (j 71), .v (j 72), .v (j 73), .v (j 74), .v (j 75), .v (j 76), .v (j 77), .v (j 78), .v (j 79), .v (j 80), .v (j 81), .v (j 82), .v (j 83), .v (j 84), .v (j 85), .v (j 86), .v (j 87), .v (j 88), .v (j 89), .v (j 90), .v (j 91), .v (j 92), .v (j 93), .v (j 94), .v (j 95), .v (j 96), .v (j 97), .v (j 98), .v (j 99), .v (j 100), .v (j 101), .v (j 102), .v (j 103), .v (j 104), .v (j 105), .v (j 106), .v (j 107), .v (j 108), .v (j 109)] [] h

def f19_6 (w0 : World) (K : Value → AH → Prop) (a : Option Addr) (b : Nat) (c : Nat) (d : Option Addr) (e : Nat) (g : Nat) (i : Option Addr) (k : Nat) (m : Nat) (h : AH) : Prop :=
  ∀ j : Nat → Value, LPk Proofs.Tryd.prog w0 (EvC Proofs.Tryd.prog w0) f19_J 19 K 6 [.v (j 0), .v (j 1), .v (j 2), .v (j 3), .v (j 4), .v (j 5), .v (.slice a b c), .v (.slice d e g), .v (.slice i k m), .v (j 9), .v (j 10), .v (j 11), .v (j 12), .v (j 13), .v (j 14), .v (j 15), .v (j 16), .v (j 17), .v (j 18), .v (j 19), .v (j 20), .v (j 21), .v (j 22), .v (j 23), .v (j 24), .v (j 25), .v (j 26), .v (j 27), .v (j 28), .v (j 29), .v (j 30), .v (j 31), .v (j 32), .v (j 33), .v (j 34), .v (j 35), .v (j 36), .v (j 37), .v (j 38), .v (j 39), .v (j 40), .v (j 41), .v (j 42), .v (j 43), .v (j 44), .v (j 45), .v (j 46), .v (j 47), .v (j 48), .v (j 49), .v (j 50), .v (j 51), .v (j 52), .v (j 53), .v (j 54), .v (j 55), .v (j 56), .v (j 57), .v (j 58), .v (j 59), .v (j 60), .v (j 61), .v (j 62), .v (j 63), .v (j 64), .v (j 65), .v (j 66), .v (j 67), .v (j 68), .v (j 69), .v (j 70), .v (j 71), .v (j 72), .v (j 73), .v (j 74), .v (j 75), .v (j 76), .v (j 77), .v (j 78), .v (j 79), .v (j 80), .v (j 81), .v (j 82), .v (j 83), .v (j 84), .v (j 85), .v (j 86), .v (j 87), .v (j 88), .v (j 89), .v (j 90), .v (j 91), .v (j 92), .v (j 93), .v (j 94), .v (j 95), .v (j 96), .v (j 97), .v (j 98), .v (j 99), .v (j 100), .v (j 101), .v (j 102), .v (j 103), .v (j 104), .v (j 105), .v (j 106), .v (j 107), .v (j 108), .v (j 109)] [] h

def f19_20 (w0 : World) (K : Value → AH → Prop) (a : Option Addr) (b : Nat) (c : Nat) (h : AH) : Prop :=
  ∀ j : Nat → Value, LPk Proofs.Tryd.prog w0 (EvC Proofs.Tryd.prog w0) f19_J 19 K 20 [.v (j 0), .v (j 1), .v (j 2), .v (j 3), .v (j 4), .v (j 5), .v (.slice a b c), .v (j 7), .v (j 8), .v (j 9), .v (j 10), .v (j 11), .v (j 12), .v (j 13), .v (j 14), .v (j 15), .v (j 16), .v (j 17), .v (j 18), .v (j 19), .v (j 20), .v (j 21), .v (j 22), .v (j 23), .v (j 24), .v (j 25), .v (j 26), .v (j 27), .v (j 28), .v (j 29), .v (j 30), .v (j 31), .v (j 32), .v (j 33), .v (j 34), .v (j 35), .v (j 36), .v (j 37), .v (j 38), .v (j 39), .v (j 40), .v (j 41), .v (j 42), .v (j 43), .v (j 44), .v (j 45), .v (j 46), .v (j 47), .v (j 48), .v (j 49), .v (j 50), .v (j 51), .v (j 52), .v (j 53), .v (j 54), .v (j 55), .v (j 56), .v (j 57), .v (j 58), .v (j 59), .v (j 60), .v (j 61), .v (j 62), .v (j 63), .v (j 64), .v (j 65), .v (j 66), .v (j 67), .v (j 68), .v (j 69), .v (j 70), .v (j 71), .v (j 72), .v (j 73), .v (j 74), .v (j 75), .v (j 76), .v (j 77), .v (j 78), .v (j 79), .v (j 80), .v (j 81), .v (j 82), .v (j 83), .v (j 84), .v (j 85), .v (j 86), .v (j 87), .v (j 88), .v (j 89), .v (j 90), .v (j 91), .v (j 92), .v (j 93), .v (j 94), .v (j 95), .v (j 96), .v (j 97), .v (j 98), .v (j 99), .v (j 100), .v (j 101), .v (j 102), .v (j 103), .v (j 104), .v (j 105), .v (j 106), .v (j 107), .v (j 108), .v (j 109)] [] h

def f19_12 (w0 : World) (K : Value → AH → Prop) (a : Option Addr) (b : Nat) (c : Nat) (d : Option Addr) (e : Nat) (g : Nat) (i : Option Addr) (k : Nat) (m : Nat) (n : Int) (h : AH) : Prop :=
  ∀ j : Nat → Value, LPk Proofs.Tryd.prog w0 (EvC Proofs.Tryd.prog w0) f19_J 19 K 12 [.v (j 0), .v (j 1), .v (j 2), .v (j 3), .v (j 4), .v (j 5), .v (.slice a b c), .v (.slice d e g), .v (.slice i k m), .v (.int .i64 n), .v (j 10), .v (j 11), .v (j 12), .v (j 13), .v (j 14), .v (j 15), .v (j 16), .v (j 17), .v (j 18), .v (j 19), .v (j 20), .v (j 21), .v (j 22), .v (j 23), .v (j 24), .v (j 25), .v (j 26), .v (j 27), .v (j 28), .v (j 29), .v (j 30), .v (j 31), .v (j 32), .v (j 33), .v (j 34), .v (j 35), .v (j 36), .v (j 37), .v (j 38), .v (j 39), .v (j 40), .v (j 41), .v (j 42), .v (j 43), .v (j 44), .v (j 45), .v (j 46), .v (j 47), .v (j 48), .v (j 49), .v (j 50), .v (j 51), .v (j 52), .v (j 53), .v (j 54), .v (j 55), .v (j 56), .v (j 57), .v (j 58), .v (j 59), .v (j 60), .v (j 61), .v (j 62), .v (j 63), .v (j 64), .v (j 65), .v (j 66), .v (j 67), .v (j 68), .v (j 69), .v (j 70), .v (j 71), .v (j 72), .v (j 73), .v (j 74), .v (j 75), .v (j 76), .v (j 77), .v (j 78), .v (j 79), .v (j 80), .v (j 81), .v (j 82), .v (j 83), .v (j 84), .v (j 85), .v (j 86), .v (j 87), .v (j 88), .v (j 89), .v (j 90), .v (j 91), .v (j 92), .v (j 93), .v (j 94), .v (j 95), .v (j 96), .v (j 97), .v (j 98), .v (j 99), .v (j 100), .v (j 101), .v (j 102), .v (j 103), .v (j 104), .v (j 105), .v (j 106), .v (j 107), .v (j 108), .v (j 109)] [] h

def f19_16 (w0 : World) (K : Value → AH → Prop) (a : Option Addr) (b : Nat) (c : Nat) (d : Option Addr) (e : Nat) (g : Nat) (i : Option Addr) (k : Nat) (m : Nat) (n : Int) (o : Bool) (h : AH) : Prop :=
  ∀ j : Nat → Value, LPk Proofs.Tryd.prog w0 (EvC Proofs.Tryd.prog w0) f19_J 19 K 16 [.v (j 0), .v (j 1), .v (j 2), .v (j 3), .v (j 4), .v (j 5), .v (.slice a b c), .v (.slice d e g), .v (.slice i k m), .v (.int .i64 n), .v (j 10), .v (j 11), .v (j 12), .v (j 13), .v (j 14), .v (j 15), .v (j 16), .v (j 17), .v (j 18), .v (j 19), .v (j 20), .v (j 21), .v (j 22), .v (j 23), .v (j 24), .v (j 25), .v (j 26), .v (j 27), .v (j 28), .v (j 29), .v (j 30), .v (j 31), .v (j 32), .v (j 33), .v (j 34), .v (j 35), .v (j 36), .v (j 37), .v (j 38), .v (j 39), .v (j 40), .v (j 41), .v (j 42), .v (j 43), .v (j 44), .v (j 45), .v (j 46), .v (j 47), .v (j 48), .v (j 49), .v (j 50), .v (j 51), .v (j 52), .v (j 53), .v (j 54), .v (j 55), .v (j 56), .v (j 57), .v (j 58), .v (j 59), .v (j 60), .v (j 61), .v (j 62), .v (j 63), .v (j 64), .v (j 65), .v (j 66), .v (j 67), .v (j 68), .v (j 69), .v (j 70), .v (j 71), .v (j 72), .v (j 73), .v (j 74), .v (j 75), .v (j 76), .v (j 77), .v (j 78), .v (j 79), .v (j 80), .v (j 81), .v (j 82), .v (.bool o), .v (j 84), .v (j 85), .v (j 86), .v (j 87), .v (j 88), .v (j 89), .v (j 90), .v (j 91), .v (j 92), .v (j 93), .v (j 94), .v (j 95), .v (j 96), .v (j 97), .v (j 98), .v (j 99), .v (j 100), .v (j 101), .v (j 102), .v (j 103), .v (j 104), .v (j 105), .v (j 106), .v (j 107), .v (j 108), .v (j 109)] [] h

def f19_17 (w0 : World) (K : Value → AH → Prop) (a : Option Addr) (b : Nat) (c : Nat) (d : Option Addr) (e : Nat) (g : Nat) (i : Option Addr) (k : Nat) (m : Nat) (n : Int) (h : AH) : Prop :=
  ∀ j : Nat → Value, LPk Proofs.Tryd.prog w0 (EvC Proofs.Tryd.prog w0) f19_J 19 K 17 [.v (j 0), .v (j 1), .v (j 2), .v (j 3), .v (j 4), .v (j 5), .v (.slice a b c), .v (.slice d e g), .v (.slice i k m), .v (.int .i64 n), .v (j 10), .v (j 11), .v (j 12), .v (j 13), .v (j 14), .v (j 15), .v (j 16), .v (j 17), .v (j 18), .v (j 19), .v (j 20), .v (j 21), .v (j 22), .v (j 23), .v (j 24), .v (j 25), .v (j 26), .v (j 27), .v (j 28), .v (j 29), .v (j 30), .v (j 31), .v (j 32), .v (j 33), .v (j 34), .v (j 35), .v (j 36), .v (j 37), .v (j 38), .v (j 39), .v (j 40), .v (j 41), .v (j 42), .v (j 43), .v (j 44), .v (j 45), .v (j 46), .v (j 47), .v (j 48), .v (j 49), .v (j 50), .v (j 51), .v (j 52), .v (j 53), .v (j 54), .v (j 55), .v (j 56), .v (j 57), .v (j 58), .v (j 59), .v (j 60), .v (j 61), .v (j 62), .v (j 63), .v (j 64), .v (j 65), .v (j 66), .v (j 67), .v (j 68), .v (j 69), .v (j 70), .v (j 71), .v (j 72), .v (j 73), .v (j 74), .v (j 75), .v (j 76), .v (j 77), .v (j 78), .v (j 79), .v (j 80), .v (j 81), .v (j 82), .v (j 83), .v (j 84), .v (j 85), .v (j 86), .v (j 87), .v (j 88), .v (j 89), .v (j 90), .v (j 91), .v (j 92), .v (j 93), .v (j 94), .v (j 95), .v (j 96), .v (j 97), .v (j 98), .v (j 99), .v (j 100), .v (j 101), .v (j 102), .v (j 103), .v (j 104), .v (j 105), .v (j 106), .v (j 107), .v (j 108), .v (j 109)] [] h

theorem f19_2_in {w0 : World} {K : Value → AH → Prop} (a : Bool) (b : Int) (c : Option Addr) (d : Nat) (e : Nat) (g : Option Addr) (i : Nat) (k : Nat) (m : Int) (n : Option Addr) (o : Nat) (p : Nat) (q : Option Addr) (r : Nat) (s : Nat) (h : AH)
  (hv : (brB a (K (Value.tuple #[(slice none 0 0), (int .i64 (1 : Int))]) h) (f19_3 w0 K b c d e g i k m n o p q r s h))) :
  f19_2 w0 K a b c d e g i k m n o p q r s h := fun j => LP_intro (P := Proofs.Tryd.prog) (Eq.mp (by kernel_rfl) hv)

theorem f19_3_in {w0 : World} {K : Value → AH → Prop} (a : Int) (b : Option Addr) (c : Nat) (d : Nat) (e : Option Addr) (g : Nat) (i : Nat) (k : Int) (m : Option Addr) (n : Nat) (o : Nat) (p : Option Addr) (q : Nat) (r : Nat) (h : AH)
  (hv : (EvC Proofs.Tryd.prog w0 30 #[(agg #[(int .i64 a), (slice b c d), (slice e g i)])] (fun z A => (∃ s : Option Addr, (∃ t : Nat, (∃ u : Nat, ((z = (slice s t u)) ∧ (EvC Proofs.Tryd.prog w0 30 #[(agg #[(int .i64 k), (slice m n o), (slice p q r)])] (fun B C => (∃ v : Option Addr, (∃ x : Nat, (∃ y : Nat, ((B = (slice v x y)) ∧ (f19_5 w0 K none 0 0 s t u v x y C)))))) A)))))) h)) :
  f19_3 w0 K a b c d e g i k m n o p q r h := fun j => LP_intro (P := Proofs.Tryd.prog) (Eq.mp (by kernel_rfl) hv)

theorem f19_5_in {w0 : World} {K : Value → AH → Prop} (a : Option Addr) (b : Nat) (c : Nat) (g : Option Addr) (d : Nat) (i : Nat) (k : Option Addr) (e : Nat) (m : Nat) (h : AH)
  (hv : (brB (decide (((0 : Int) < ((d : Nat) : Int)))) (f19_6 w0 K a b c g d i k e m h) (brB (decide (((0 : Int) < ((e : Nat) : Int)))) (f19_6 w0 K a b c g d i k e m h) (f19_20 w0 K a b c h)))) :
  f19_5 w0 K a b c g d i k e m h := fun j => LP_intro (P := Proofs.Tryd.prog) (Eq.mp (by kernel_rfl) hv)

theorem f19_6_in {w0 : World} {K : Value → AH → Prop} (e : Option Addr) (g : Nat) (i : Nat) (c : Option Addr) (a : Nat) (k : Nat) (d : Option Addr) (b : Nat) (m : Nat) (h : AH)
  (hv : (brB (((a : Nat) : Int) == (0 : Int)) (f19_12 w0 K e g i c a k d b m (1 : Int) h) (brB (((b : Nat) : Int) == (0 : Int)) (f19_12 w0 K e g i c a k d b m (-1 : Int) h) (∃ n : Addr, ((c = (some n)) ∧ (((0 : Int) ≤ (0 : Int)) ∧ (((0 : Int) < ((a : Nat) : Int)) ∧ (∃ o : Addr, ((d = (some o)) ∧ (((0 : Int) ≤ (0 : Int)) ∧ (((0 : Int) < ((b : Nat) : Int)) ∧ ((∃ p : Option Addr, (∃ q : Nat, (∃ r : Nat, (((cellA w0 h (Addr.add (Addr.add n 0) 0)) = (some (slice p q r))) ∧ (∃ s : Option Addr, (∃ t : Nat, (∃ u : Nat, (((cellA w0 h (Addr.add (Addr.add o 0) 0)) = (some (slice s t u))) ∧ (EvC Proofs.Tryd.prog w0 38 #[(slice p q r), (slice s t u)] (fun E F => (∃ v : Int, ((E = (int .i64 v)) ∧ (f19_12 w0 K e g i c a k d b m v F)))) h))))))))) ∧ (∃ x : Option Addr, (∃ y : Nat, (∃ z : Nat, (((cellA w0 h (Addr.add (Addr.add o 0) 0)) = (some (slice x y z))) ∧ (∃ A : Option Addr, (∃ B : Nat, (∃ C : Nat, (((cellA w0 h (Addr.add (Addr.add n 0) 0)) = (some (slice A B C))) ∧ (EvC Proofs.Tryd.prog w0 38 #[(slice A B C), (slice x y z)] (fun L M => (∃ D : Int, ((L = (int .i64 D)) ∧ (f19_12 w0 K e g i c a k d b m D M)))) h))))))))))))))))))))) :
  f19_6 w0 K e g i c a k d b m h := fun j => LP_intro (P := Proofs.Tryd.prog) (Eq.mp (by kernel_rfl) hv)

theorem f19_20_in {w0 : World} {K : Value → AH → Prop} (b : Option Addr) (a : Nat) (c : Nat) (h : AH)
  (hv : (brB (decide (((400 : Int) < ((a : Nat) : Int)))) (K (Value.tuple #[(slice none 0 0), (int .i64 (13 : Int))]) h) (K (Value.tuple #[(slice b a c), (int .i64 (0 : Int))]) h))) :
  f19_20 w0 K b a c h := fun j => LP_intro (P := Proofs.Tryd.prog) (Eq.mp (by kernel_rfl) hv)

theorem f19_12_in {w0 : World} {K : Value → AH → Prop} (k : Option Addr) (e : Nat) (m : Nat) (b : Option Addr) (a : Nat) (g : Nat) (c : Option Addr) (d : Nat) (n : Nat) (i : Int) (h : AH)
  (hv : (brB (decide ((i < (0 : Int)))) (∃ u : Addr, ((b = (some u)) ∧ (((0 : Int) ≤ (0 : Int)) ∧ (((0 : Int) < ((a : Nat) : Int)) ∧ (∃ v : Option Addr, (∃ x : Nat, (∃ y : Nat, (((cellA w0 h (Addr.add (Addr.add u 0) 0)) = (some (slice v x y))) ∧ (App w0 h 4 64 k e m 1 [(slice v x y), (bool true), (int .i64 (0 : Int)), (slice none 0 0)] (fun b5 b6 b7 => (((0 : Int) ≤ (1 : Int)) ∧ (((1 : Int) ≤ ((a : Nat) : Int)) ∧ (f19_5 w0 K b5 (e + 1) b6 (cutA 5 b g 1) (a - 1) (g - 1) c d n b7))))))))))))) (brB (decide (((0 : Int) < i))) (f19_16 w0 K k e m b a g c d n i true h) (∃ o : Addr, ((b = (some o)) ∧ (((0 : Int) ≤ (0 : Int)) ∧ (((0 : Int) < ((a : Nat) : Int)) ∧ (∃ p : Addr, ((c = (some p)) ∧ (((0 : Int) ≤ (0 : Int)) ∧ (((0 : Int) < ((d : Nat) : Int)) ∧ ((∃ z : Int, (((cellA w0 h (Addr.add (Addr.add o 0) 3)) = (some (int .i64 z))) ∧ (∃ A : Int, (((cellA w0 h (Addr.add (Addr.add p 0) 3)) = (some (int .i64 A))) ∧ (brB (z != A) (f19_16 w0 K k e m b a g c d n i true h) (∃ q : Addr, ((b = (some q)) ∧ (((0 : Int) ≤ (0 : Int)) ∧ (((0 : Int) < ((a : Nat) : Int)) ∧ (∃ r : Addr, ((c = (some r)) ∧ (((0 : Int) ≤ (0 : Int)) ∧ (((0 : Int) < ((d : Nat) : Int)) ∧ ((∃ B : Option Addr, (∃ C : Nat, (∃ D : Nat, (((cellA w0 h (Addr.add (Addr.add q 0) 4)) = (some (slice B C D))) ∧ (∃ E : Option Addr, (∃ F : Nat, (∃ L : Nat, (((cellA w0 h (Addr.add (Addr.add r 0) 4)) = (some (slice E F L))) ∧ (EvC Proofs.Tryd.prog w0 39 #[(slice B C D), (slice E F L)] (fun b8 b9 => (∃ M : Bool, ((b8 = (bool M)) ∧ (f19_16 w0 K k e m b a g c d n i (!M) b9)))) h))))))))) ∧ (∃ N : Option Addr, (∃ Q : Nat, (∃ R : Nat, (((cellA w0 h (Addr.add (Addr.add r 0) 4)) = (some (slice N Q R))) ∧ (∃ T : Option Addr, (∃ U : Nat, (∃ V : Nat, (((cellA w0 h (Addr.add (Addr.add q 0) 4)) = (some (slice T U V))) ∧ (EvC Proofs.Tryd.prog w0 39 #[(slice T U V), (slice N Q R)] (fun c0 c1 => (∃ Y : Bool, ((c0 = (bool Y)) ∧ (f19_16 w0 K k e m b a g c d n i (!Y) c1)))) h))))))))))))))))))))))) ∧ (∃ Z : Int, (((cellA w0 h (Addr.add (Addr.add p 0) 3)) = (some (int .i64 Z))) ∧ (∃ a0 : Int, (((cellA w0 h (Addr.add (Addr.add o 0) 3)) = (some (int .i64 a0))) ∧ (brB (a0 != Z) (f19_16 w0 K k e m b a g c d n i true h) (∃ s : Addr, ((b = (some s)) ∧ (((0 : Int) ≤ (0 : Int)) ∧ (((0 : Int) < ((a : Nat) : Int)) ∧ (∃ t : Addr, ((c = (some t)) ∧ (((0 : Int) ≤ (0 : Int)) ∧ (((0 : Int) < ((d : Nat) : Int)) ∧ ((∃ a1 : Option Addr, (∃ a2 : Nat, (∃ a3 : Nat, (((cellA w0 h (Addr.add (Addr.add s 0) 4)) = (some (slice a1 a2 a3))) ∧ (∃ a4 : Option Addr, (∃ a5 : Nat, (∃ a6 : Nat, (((cellA w0 h (Addr.add (Addr.add t 0) 4)) = (some (slice a4 a5 a6))) ∧ (EvC Proofs.Tryd.prog w0 39 #[(slice a1 a2 a3), (slice a4 a5 a6)] (fun c2 c3 => (∃ a7 : Bool, ((c2 = (bool a7)) ∧ (f19_16 w0 K k e m b a g c d n i (!a7) c3)))) h))))))))) ∧ (∃ a8 : Option Addr, (∃ a9 : Nat, (∃ b0 : Nat, (((cellA w0 h (Addr.add (Addr.add t 0) 4)) = (some (slice a8 a9 b0))) ∧ (∃ b1 : Option Addr, (∃ b2 : Nat, (∃ b3 : Nat, (((cellA w0 h (Addr.add (Addr.add s 0) 4)) = (some (slice b1 b2 b3))) ∧ (EvC Proofs.Tryd.prog w0 39 #[(slice b1 b2 b3), (slice a8 a9 b0)] (fun c4 c5 => (∃ b4 : Bool, ((c4 = (bool b4)) ∧ (f19_16 w0 K k e m b a g c d n i (!b4) c5)))) h))))))))))))))))))))))))))))))))))) :
  f19_12 w0 K k e m b a g c d n i h := fun j => LP_intro (P := Proofs.Tryd.prog) (Eq.mp (by kernel_rfl) hv)

theorem f19_16_in {w0 : World} {K : Value → AH → Prop} (d : Option Addr) (a : Nat) (e : Nat) (g : Option Addr) (i : Nat) (k : Nat) (b : Option Addr) (c : Nat) (m : Nat) (n : Int) (z : Bool) (h : AH)
  (hv : (brB z (∃ o : Addr, ((b = (some o)) ∧ (((0 : Int) ≤ (0 : Int)) ∧ (((0 : Int) < ((c : Nat) : Int)) ∧ (∃ p : Addr, ((b = (some p)) ∧ (((0 : Int) ≤ (0 : Int)) ∧ (((0 : Int) < ((c : Nat) : Int)) ∧ (∃ q : Addr, ((b = (some q)) ∧ (((0 : Int) ≤ (0 : Int)) ∧ (((0 : Int) < ((c : Nat) : Int)) ∧ ((∃ r : Option Addr, (∃ s : Nat, (∃ t : Nat, (((cellA w0 h (Addr.add (Addr.add o 0) 0)) = (some (slice r s t))) ∧ ((∃ A : Int, (((cellA w0 h (Addr.add (Addr.add p 0) 3)) = (some (int .i64 A))) ∧ (∃ B : Option Addr, (∃ C : Nat, (∃ D : Nat, (((cellA w0 h (Addr.add (Addr.add q 0) 4)) = (some (slice B C D))) ∧ (App w0 h 4 64 d a e 1 [(slice r s t), (bool false), (int .i64 A), (slice B C D)] (fun b2 b3 b4 => (f19_17 w0 K b2 (a + 1) b3 g i k b c m n b4))))))))) ∧ (∃ E : Option Addr, (∃ F : Nat, (∃ L : Nat, (((cellA w0 h (Addr.add (Addr.add q 0) 4)) = (some (slice E F L))) ∧ (∃ M : Int, (((cellA w0 h (Addr.add (Addr.add p 0) 3)) = (some (int .i64 M))) ∧ (App w0 h 4 64 d a e 1 [(slice r s t), (bool false), (int .i64 M), (slice E F L)] (fun b5 b6 b7 => (f19_17 w0 K b5 (a + 1) b6 g i k b c m n b7)))))))))))))) ∧ ((∃ u : Int, (((cellA w0 h (Addr.add (Addr.add p 0) 3)) = (some (int .i64 u))) ∧ ((∃ N : Option Addr, (∃ Q : Nat, (∃ R : Nat, (((cellA w0 h (Addr.add (Addr.add o 0) 0)) = (some (slice N Q R))) ∧ (∃ T : Option Addr, (∃ U : Nat, (∃ V : Nat, (((cellA w0 h (Addr.add (Addr.add q 0) 4)) = (some (slice T U V))) ∧ (App w0 h 4 64 d a e 1 [(slice N Q R), (bool false), (int .i64 u), (slice T U V)] (fun b8 b9 c0 => (f19_17 w0 K b8 (a + 1) b9 g i k b c m n c0))))))))))) ∧ (∃ Y : Option Addr, (∃ Z : Nat, (∃ a0 : Nat, (((cellA w0 h (Addr.add (Addr.add q 0) 4)) = (some (slice Y Z a0))) ∧ (∃ a1 : Option Addr, (∃ a2 : Nat, (∃ a3 : Nat, (((cellA w0 h (Addr.add (Addr.add o 0) 0)) = (some (slice a1 a2 a3))) ∧ (App w0 h 4 64 d a e 1 [(slice a1 a2 a3), (bool false), (int .i64 u), (slice Y Z a0)] (fun c1 c2 c3 => (f19_17 w0 K c1 (a + 1) c2 g i k b c m n c3)))))))))))))) ∧ (∃ v : Option Addr, (∃ x : Nat, (∃ y : Nat, (((cellA w0 h (Addr.add (Addr.add q 0) 4)) = (some (slice v x y))) ∧ ((∃ a4 : Option Addr, (∃ a5 : Nat, (∃ a6 : Nat, (((cellA w0 h (Addr.add (Addr.add o 0) 0)) = (some (slice a4 a5 a6))) ∧ (∃ a7 : Int, (((cellA w0 h (Addr.add (Addr.add p 0) 3)) = (some (int .i64 a7))) ∧ (App w0 h 4 64 d a e 1 [(slice a4 a5 a6), (bool false), (int .i64 a7), (slice v x y)] (fun c4 c5 c6 => (f19_17 w0 K c4 (a + 1) c5 g i k b c m n c6))))))))) ∧ (∃ a8 : Int, (((cellA w0 h (Addr.add (Addr.add p 0) 3)) = (some (int .i64 a8))) ∧ (∃ a9 : Option Addr, (∃ b0 : Nat, (∃ b1 : Nat, (((cellA w0 h (Addr.add (Addr.add o 0) 0)) = (some (slice a9 b0 b1))) ∧ (App w0 h 4 64 d a e 1 [(slice a9 b0 b1), (bool false), (int .i64 a8), (slice v x y)] (fun c7 c8 c9 => (f19_17 w0 K c7 (a + 1) c8 g i k b c m n c9)))))))))))))))))))))))))))) (f19_17 w0 K d a e g i k b c m n h))) :
  f19_16 w0 K d a e g i k b c m n z h := fun j => LP_intro (P := Proofs.Tryd.prog) (Eq.mp (by kernel_rfl) hv)

theorem f19_17_in {w0 : World} {K : Value → AH → Prop} (e : Option Addr) (g : Nat) (i : Nat) (k : Option Addr) (c : Nat) (d : Nat) (m : Option Addr) (a : Nat) (b : Nat) (n : Int) (h : AH)
  (hv : (brB (n == (0 : Int)) (((0 : Int) ≤ (1 : Int)) ∧ (((1 : Int) ≤ ((c : Nat) : Int)) ∧ (((0 : Int) ≤ (1 : Int)) ∧ (((1 : Int) ≤ ((a : Nat) : Int)) ∧ (f19_5 w0 K e g i (cutA 5 k d 1) (c - 1) (d - 1) (cutA 5 m b 1) (a - 1) (b - 1) h))))) (((0 : Int) ≤ (1 : Int)) ∧ (((1 : Int) ≤ ((a : Nat) : Int)) ∧ (f19_5 w0 K e g i k c d (cutA 5 m b 1) (a - 1) (b - 1) h))))) :
  f19_17 w0 K e g i k c d m a b n h := fun j => LP_intro (P := Proofs.Tryd.prog) (Eq.mp (by kernel_rfl) hv)

theorem f19_go {w0 : World} {K : Value → AH → Prop} (a : Int) (b : Option Addr) (c : Nat) (d : Nat) (e : Option Addr) (g : Nat) (i : Nat) (k : Int) (m : Option Addr) (n : Nat) (o : Nat) (p : Option Addr) (q : Nat) (r : Nat) (h : AH)
  (hv : (EvC Proofs.Tryd.prog w0 11 #[(agg #[(int .i64 a), (slice b c d), (slice e g i)])] (fun v s => (∃ t : Bool, ((v = (bool t)) ∧ (brB (!t) (f19_2 w0 K true a b c d e g i k m n o p q r s) (EvC Proofs.Tryd.prog w0 11 #[(agg #[(int .i64 k), (slice m n o), (slice p q r)])] (fun x y => (∃ u : Bool, ((x = (bool u)) ∧ (f19_2 w0 K (!u) a b c d e g i k m n o p q r y)))) s))))) h)) :
  EvC Proofs.Tryd.prog w0 19 ([(.agg #[(.int .i64 a), (.slice b c d), (.slice e g i)]), (.agg #[(.int .i64 k), (.slice m n o), (.slice p q r)])]).toArray K h := EvC_intro (P := Proofs.Tryd.prog) f19_J (Eq.mp (by kernel_rfl) hv)
theorem done_19 {w0 : World} {K : Value → AH → Prop} {C : List (Nat × AB)} {E : List ODat} {h : AH} {ao a7 a8 : Option Addr} {co c7 c8 : Nat} {os : List OpM}
    (hk : E.length ≤ 400 → ∀ h' a' c' (os : List OpM), os.map OpM.dat = E → SlV 4 a' os.length c' (os.flatMap OpM.cells) → (∀ o ∈ os, OpRd w0 C o) → Own w0 h' (slB a' (os.flatMap OpM.cells) (c' * 4) ++ C) → K (.tuple #[.slice a' os.length c', .int .i64 0]) h')
    (hmany : 400 < E.length → ∀ h', Own w0 h' C → K (.tuple #[.slice none 0 0, .int .i64 13]) h') (v : SlV 4 ao os.length co (os.flatMap OpM.cells)) (ro : ∀ o ∈ os, OpRd w0 C o) (hd : os.map OpM.dat = E)
    (w : Own w0 h (slB ao (os.flatMap OpM.cells) (co * 4) ++ C)) : f19_5 w0 K ao os.length co a7 0 c7 a8 0 c8 h := by
  have el : os.length = E.length := by rw [← hd, List.length_map]
  refine f19_5_in _ _ _ _ _ _ _ _ _ _ (brB_of (fun z => by simp at z) fun _ => brB_of (fun z => by simp at z) fun _ => f19_20_in _ _ _ _ (brB_of (fun z => ?_) fun z => ?_))
  · exact hmany (by have := of_decide_eq_true z; omega) h (Own.drop w)
  · exact hk (by have := of_decide_eq_false z; omega) h ao co os hd v ro w
theorem f19_5s {w0 : World} {K : Value → AH → Prop} {C : List (Nat × AB)} {E : List ODat} (hE : E.length ≤ 20000)
    (hk : E.length ≤ 400 → ∀ h' a' c' (os : List OpM), os.map OpM.dat = E → SlV 4 a' os.length c' (os.flatMap OpM.cells) → (∀ o ∈ os, OpRd w0 C o) → Own w0 h' (slB a' (os.flatMap OpM.cells) (c' * 4) ++ C) → K (.tuple #[.slice a' os.length c', .int .i64 0]) h')
    (hmany : 400 < E.length → ∀ h', Own w0 h' C → K (.tuple #[.slice none 0 0, .int .i64 13]) h') :
    ∀ (n : Nat) (l m : List EntM) (a7 a8 : Option Addr) (c7 c8 : Nat), l.length + m.length ≤ n → EntsRd w0 C a7 c7 l → EntsRd w0 C a8 c8 m → ∀ (ao : Option Addr) (co : Nat) (os : List OpM) (h : AH), SlV 4 ao os.length co (os.flatMap OpM.cells) → (∀ o ∈ os, OpRd w0 C o) →
      os.map OpM.dat ++ chg (l.map EntM.dat) (m.map EntM.dat) = E → Own w0 h (slB ao (os.flatMap OpM.cells) (co * 4) ++ C) → f19_5 w0 K ao os.length co a7 l.length c7 a8 m.length c8 h := fun n => by
  induction n with
  | zero =>
    intro l m a7 a8 c7 c8 hn r1 r2 ao co os h v ro hd w
    obtain rfl : l = [] := List.eq_nil_of_length_eq_zero (by omega)
    obtain rfl : m = [] := List.eq_nil_of_length_eq_zero (by omega)
    exact done_19 hk hmany v ro (by simpa [chg] using hd) w
  | succ n ih =>
    intro l m a7 a8 c7 c8 hn r1 r2 ao co os h v ro hd w
    have hol : os.length ≤ 20000 := by
      have := congrArg List.length hd
      rw [List.length_append, List.length_map] at this; omega
    by_cases hb : l = [] ∧ m = []
    · obtain ⟨rfl, rfl⟩ := hb
      exact done_19 hk hmany v ro (by simpa [chg] using hd) w
    -- what one step leaves
    have s17 : ∀ (c : Int) (ao : Option Addr) (co : Nat) (os : List OpM) (h2 : AH), 0 ≤ c → (∀ x l', l = x :: l' → ∀ y m', m = y :: m' → c = 0 → os.map OpM.dat ++ chg (l'.map EntM.dat) (m'.map EntM.dat) = E) → (c = 0 → l ≠ [] ∧ m ≠ []) → (0 < c → m ≠ []) → (∀ y m', m = y :: m' → 0 < c → os.map OpM.dat ++ chg (l.map EntM.dat) (m'.map EntM.dat) = E) →
        SlV 4 ao os.length co (os.flatMap OpM.cells) → (∀ o ∈ os, OpRd w0 C o) → Own w0 h2 (slB ao (os.flatMap OpM.cells) (co * 4) ++ C) → f19_17 w0 K ao os.length co a7 l.length c7 a8 m.length c8 c h2 := fun c ao co os h2 hc p0 n0 n1 p1 v ro w => by
      refine f19_17_in _ _ _ _ _ _ _ _ _ _ _ (brB_of (fun z => ?_) fun z => ?_)
      · have z' : c = 0 := by simpa using z
        obtain ⟨e1, e2⟩ := n0 z'
        obtain ⟨x, l', rfl⟩ := List.exists_cons_of_ne_nil e1
        obtain ⟨y, m', rfl⟩ := List.exists_cons_of_ne_nil e2
        simp only [List.length_cons] at hn
        refine ⟨by decide, by simp only [List.length_cons]; omega, by decide, by simp only [List.length_cons]; omega, ?_⟩
        exact ih l' m' _ _ _ _ (by omega) r1.cut r2.cut ao co os h2 v ro (p0 x l' rfl y m' rfl z') w
      · have z' : ¬ c = 0 := by simpa using z
        obtain ⟨y, m', rfl⟩ := List.exists_cons_of_ne_nil (n1 (by omega))
        simp only [List.length_cons] at hn
        refine ⟨by decide, by simp only [List.length_cons]; omega, ?_⟩
        exact ih l m' _ _ _ _ (by omega) r1 r2.cut ao co os h2 v ro (p1 y m' rfl (by omega)) w
    -- a thing is put
    have s16 : ∀ (c : Int) (b : Bool) (h2 : AH), 0 ≤ c → (c = 0 → l ≠ []) → ∀ y m', m = y :: m' → (b = true → (c = 0 → ∀ x l', l = x :: l' → chg (l.map EntM.dat) (m.map EntM.dat) = (y.key, false, y.til, y.val) :: chg (l'.map EntM.dat) (m'.map EntM.dat)) ∧ (0 < c → chg (l.map EntM.dat) (m.map EntM.dat) = (y.key, false, y.til, y.val) :: chg (l.map EntM.dat) (m'.map EntM.dat))) →
        (b = false → c = 0 ∧ ∀ x l', l = x :: l' → chg (l.map EntM.dat) (m.map EntM.dat) = chg (l'.map EntM.dat) (m'.map EntM.dat)) → Own w0 h2 (slB ao (os.flatMap OpM.cells) (co * 4) ++ C) → f19_16 w0 K ao os.length co a7 l.length c7 a8 m.length c8 c b h2 := fun c b h2 hc hl0 y m' hm ht hf w2 => by
      refine f19_16_in _ _ _ _ _ _ _ _ _ _ _ _ (brB_of (fun z => ?_) fun z => ?_)
      · obtain ⟨t0, t1⟩ := ht z
        have rr := r2
        rw [hm] at rr
        obtain ⟨ad, had, k0, k3, k4⟩ := rr.head w2
        have ry := rr.op (y := y) (List.mem_cons_self ..)
        have hml : 0 < m.length := by rw [hm]; simp
        have nxt : ∀ a8' c8' h8, SlV 4 a8' (os.length + 1) c8' (os.flatMap OpM.cells ++ [.slice y.ka y.key.length y.kc, .bool false, .int .i64 y.til, .slice y.va y.val.length y.vc]) → Own w0 h8 (slB a8' (os.flatMap OpM.cells ++ [.slice y.ka y.key.length y.kc, .bool false, .int .i64 y.til, .slice y.va y.val.length y.vc]) (c8' * 4) ++ C) → f19_17 w0 K a8' (os.length + 1) c8' a7 l.length c7 a8 m.length c8 c h8 := fun a8' c8' h8 v8 w8 => by
          generalize hg : (⟨y.ka, y.kc, y.key, false, y.til, y.va, y.vc, y.val⟩ : OpM) = g
          have hgc : [Value.slice y.ka y.key.length y.kc, .bool false, .int .i64 y.til, .slice y.va y.val.length y.vc] = g.cells := by subst hg; rfl
          have hgd : g.dat = (y.key, false, y.til, y.val) := by subst hg; rfl
          rw [hgc, show os.flatMap OpM.cells ++ g.cells = (os ++ [g]).flatMap OpM.cells by simp] at v8 w8
          rw [show os.length + 1 = (os ++ [g]).length by simp]
          refine s17 c a8' c8' (os ++ [g]) h8 hc (fun x l' el y' m'' em z0 => ?_) (fun z0 => ⟨hl0 z0, by rw [hm]; simp⟩) (fun _ => by rw [hm]; simp) (fun y' m'' em z0 => ?_) (by rw [List.length_append]; exact v8) (fun o ho => ?_) w8
          · rw [hm] at em; injection em with e1 e2; subst e1 e2
            rw [List.map_append, List.append_assoc, List.map_cons, List.map_nil, hgd, ← hd, t0 z0 x l' el]; rfl
          · rw [hm] at em; injection em with e1 e2; subst e1 e2
            rw [List.map_append, List.append_assoc, List.map_cons, List.map_nil, hgd, ← hd, t1 z0]; rfl
          · rcases List.mem_append.1 ho with ho | ho
            · exact ro o ho
            · rw [List.mem_singleton] at ho; subst ho; subst hg; exact ry
        have fin : ∀ (Q : Option Addr → Nat → AH → Prop), (∀ a8' c8' h8, f19_17 w0 K a8' (os.length + 1) c8' a7 l.length c7 a8 m.length c8 c h8 → Q a8' c8' h8) → App w0 h2 4 64 ao os.length co 1 [.slice y.ka y.key.length y.kc, .bool false, .int .i64 y.til, .slice y.va y.val.length y.vc] Q := fun Q hQ =>
          App_slB v w2 (by omega) (by omega) rfl (op_cell ⟨y.ka, y.kc, y.key, false, y.til, y.va, y.vc, y.val⟩) fun a' c' h' v' w' => hQ a' c' h' (nxt a' c' h' v' w')
        refine ⟨ad, had, by decide, by omega, ad, had, by decide, by omega, ad, had, by decide, by omega, ?_⟩
        repeat' first
          | exact fin _ fun _ _ _ q => q
          | refine ⟨_, _, _, k0, ?_⟩
          | refine ⟨_, _, _, k4, ?_⟩
          | refine ⟨_, k3, ?_⟩
          | refine ⟨?_, ?_⟩
      · obtain ⟨z0, z1⟩ := hf z
        refine s17 c ao co os h2 hc (fun x l' el y' m'' em _ => ?_) (fun _ => ⟨hl0 z0, by rw [hm]; simp⟩) (fun _ => by rw [hm]; simp) (fun y' m'' em q => by omega) v ro w2
        rw [hm] at em; injection em with e1 e2; subst e1 e2
        rw [← hd, z1 x l' el]
    have s12 : ∀ (c : Int) (h2 : AH), (c < 0 → ∃ x l', l = x :: l' ∧ chg (l.map EntM.dat) (m.map EntM.dat) = (x.key, true, 0, []) :: chg (l'.map EntM.dat) (m.map EntM.dat)) →
        (0 < c → ∃ y m', m = y :: m' ∧ chg (l.map EntM.dat) (m.map EntM.dat) = (y.key, false, y.til, y.val) :: chg (l.map EntM.dat) (m'.map EntM.dat)) →
        (c = 0 → ∃ x l' y m', l = x :: l' ∧ m = y :: m' ∧ chg (l.map EntM.dat) (m.map EntM.dat) = (if x.til = y.til ∧ x.val = y.val then [] else [(y.key, false, y.til, y.val)]) ++ chg (l'.map EntM.dat) (m'.map EntM.dat)) → Own w0 h2 (slB ao (os.flatMap OpM.cells) (co * 4) ++ C) → f19_12 w0 K ao os.length co a7 l.length c7 a8 m.length c8 c h2 := fun c h2 q1 q2 q3 w2 => by
      refine f19_12_in _ _ _ _ _ _ _ _ _ _ _ (brB_of (fun z => ?_) fun z => brB_of (fun z2 => ?_) fun z2 => ?_)
      · have z' : c < 0 := by simpa using z
        obtain ⟨x, l', rfl, hx⟩ := q1 z'
        obtain ⟨ad, had, k0, k3, k4⟩ := r1.head w2
        have ry := r1.op (y := x) (List.mem_cons_self ..)
        simp only [List.length_cons] at hn
        refine ⟨ad, had, by decide, by simp only [List.length_cons]; omega, _, _, _, k0, ?_⟩
        refine App_slB v w2 (by omega) (by omega) rfl (op_cell ⟨x.ka, x.kc, x.key, true, 0, none, 0, []⟩) fun a8' c8' h8 v8 w8 => ?_
        have e2 : os.flatMap OpM.cells ++ [Value.slice x.ka x.key.length x.kc, .bool true, .int .i64 0, .slice none 0 0] = (os ++ [(⟨x.ka, x.kc, x.key, true, 0, none, 0, []⟩ : OpM)]).flatMap OpM.cells := by simp
        rw [e2] at v8 w8
        have e3 : os.length + 1 = (os ++ [(⟨x.ka, x.kc, x.key, true, 0, none, 0, []⟩ : OpM)]).length := by simp
        rw [e3] at v8 ⊢
        have hd8 : (os ++ [(⟨x.ka, x.kc, x.key, true, 0, none, 0, []⟩ : OpM)]).map OpM.dat ++ chg (l'.map EntM.dat) (m.map EntM.dat) = E := by rw [List.map_append, List.append_assoc, ← hd, hx]; rfl
        have ro8 : ∀ o ∈ os ++ [(⟨x.ka, x.kc, x.key, true, 0, none, 0, []⟩ : OpM)], OpRd w0 C o := fun o ho => by
          rcases List.mem_append.1 ho with ho | ho
          · exact ro o ho
          · rw [List.mem_singleton] at ho; subst ho
            exact fun h' D w' => ⟨(ry h' D w').1, rd_nil⟩
        refine ⟨by decide, by simp only [List.length_cons]; omega, ?_⟩
        exact ih l' m _ _ _ _ (by omega) r1.cut r2 a8' c8' _ h8 v8 ro8 hd8 w8
      · have z' : 0 < c := by simpa using z2
        obtain ⟨y, m', hm, hx⟩ := q2 z'
        have t := s16 c true h2 (by omega) (fun z0 => by omega) y m' hm (fun _ => ⟨fun z0 => by omega, fun _ => hx⟩) (fun z0 => by cases z0) w2
        repeat' (with_reducible apply And.intro)
        all_goals exact t
      · have z' : c = 0 := by
          have a1 : ¬ c < 0 := by simpa using z
          have a2 : ¬ 0 < c := by simpa using z2
          omega
        obtain ⟨x, l', y, m', hl, hm, hx⟩ := q3 z'
        have rr1 := r1
        have rr2 := r2
        rw [hl] at rr1
        rw [hm] at rr2
        obtain ⟨ad, had, k0, k3, k4⟩ := rr1.head w2
        obtain ⟨bd, hbd, j0, j3, j4⟩ := rr2.head w2
        have vx := (rr1.op (y := x) (List.mem_cons_self ..) h2 _ w2).2
        have vy := (rr2.op (y := y) (List.mem_cons_self ..) h2 _ w2).2
        have hll : 0 < l.length := by rw [hl]; simp
        have hml : 0 < m.length := by rw [hm]; simp
        have tt : ¬ (x.til = y.til ∧ x.val = y.val) → f19_16 w0 K ao os.length co a7 l.length c7 a8 m.length c8 c true h2 := fun q => s16 c true h2 (by omega) (fun _ => by rw [hl]; simp) y m' hm (fun _ => ⟨fun _ x1 l1 e1 => by rw [hl] at e1; injection e1 with e1 e2; subst e1 e2; rw [hx, if_neg q]; rfl, fun z0 => by omega⟩) (fun z0 => by cases z0) w2
        have ff : x.til = y.til ∧ x.val = y.val → f19_16 w0 K ao os.length co a7 l.length c7 a8 m.length c8 c false h2 := fun q => s16 c false h2 (by omega) (fun _ => by rw [hl]; simp) y m' hm (fun z0 => by cases z0) (fun _ => ⟨z', fun x1 l1 e1 => by rw [hl] at e1; injection e1 with e1 e2; subst e1 e2; rw [hx, if_pos q]; rfl⟩) w2
        have dec : (decide ((⟨x.val.toArray⟩ : ByteArray) = ⟨y.val.toArray⟩)) = decide (x.val = y.val) := by
          rw [Bool.eq_iff_iff, decide_eq_true_eq, decide_eq_true_eq]
          exact ⟨fun e => by simpa using congrArg (fun b : ByteArray => b.data.toList) e, fun e => by rw [e]⟩
        have dec2 : (decide ((⟨y.val.toArray⟩ : ByteArray) = ⟨x.val.toArray⟩)) = decide (x.val = y.val) := by
          rw [← dec, Bool.eq_iff_iff, decide_eq_true_eq, decide_eq_true_eq]
          exact ⟨fun e => e.symm, fun e => e.symm⟩
        have last : x.til = y.til → f19_16 w0 K ao os.length co a7 l.length c7 a8 m.length c8 c (! (decide (x.val = y.val))) h2 := fun q => by
          by_cases e : x.val = y.val
          · rw [decide_eq_true e]; exact ff ⟨q, e⟩
          · rw [decide_eq_false e]; exact tt fun q => e q.2
        refine ⟨ad, had, by decide, by omega, bd, hbd, by decide, by omega, ?_⟩
        have til : ∀ (A : Prop), (¬ x.til = y.til → f19_16 w0 K ao os.length co a7 l.length c7 a8 m.length c8 c true h2) := fun _ q => tt fun e => q e.1
        have val1 : x.til = y.til → EvC Go.Proofs.Tryd.prog w0 39 #[.slice x.va x.val.length x.vc, .slice y.va y.val.length y.vc] (fun x' h' => ∃ t : Bool, x' = .bool t ∧ f19_16 w0 K ao os.length co a7 l.length c7 a8 m.length c8 c (!t) h') h2 := fun q =>
          f39_go _ _ _ _ _ _ _ (rows8 vx rfl (rows8 vy rfl ⟨_, rfl, by rw [dec]; exact last q⟩))
        clear til
        have row1 : x.til = y.til → ∀ (Q : Bool → Prop), (Q (! (decide (x.val = y.val)))) → Q (! (decide (x.val = y.val))) := fun _ _ q => q
        clear row1
        repeat' first
          | (refine ⟨_, k3, _, j3, brB_of (fun q => ?_) fun q => ?_⟩)
          | (refine ⟨_, j3, _, k3, brB_of (fun q => ?_) fun q => ?_⟩)
          | (with_reducible apply And.intro)
        all_goals first
          | (have q' : ¬ x.til = y.til := fun e => by rw [e] at q; simp at q
             have t := tt fun e => q' e.1
             repeat' (with_reducible apply And.intro)
             all_goals exact t)
          | (have q' : x.til = y.til := by first | (simpa using q) | (exact Eq.symm (by simpa using q))
             have la := last q'
             refine ⟨ad, had, by decide, by omega, bd, hbd, by decide, by omega, ?_⟩
             repeat' first
               | exact val1 q'
               | exact la
               | (refine rows8 vx rfl ?_)
               | (refine rows8 vy rfl ?_)
               | (rw [dec]; exact la)
               | (rw [dec2]; exact la)
               | refine ⟨_, _, _, k4, ?_⟩
               | refine ⟨_, _, _, j4, ?_⟩
               | refine ⟨?_, ?_⟩)
    have go6 : f19_6 w0 K ao os.length co a7 l.length c7 a8 m.length c8 h := by
      refine f19_6_in _ _ _ _ _ _ _ _ _ _ (brB_of (fun z => ?_) fun z => brB_of (fun z2 => ?_) fun z2 => ?_)
      · have hl : l = [] := by simpa using z
        subst hl
        have hm : m ≠ [] := fun e => hb ⟨rfl, e⟩
        obtain ⟨y, m', rfl⟩ := List.exists_cons_of_ne_nil hm
        exact s12 1 h (fun z0 => by omega) (fun _ => ⟨y, m', rfl, chg_nil ..⟩) (fun z0 => by omega) w
      · have hm : m = [] := by simpa using z2
        subst hm
        have hl : l ≠ [] := by simpa using z
        obtain ⟨x, l', rfl⟩ := List.exists_cons_of_ne_nil hl
        exact s12 (-1) h (fun _ => ⟨x, l', rfl, chg_nil' ..⟩) (fun z0 => by omega) (fun z0 => by omega) w
      · have hl : l ≠ [] := by simpa using z
        have hm : m ≠ [] := by simpa using z2
        obtain ⟨x, l', rfl⟩ := List.exists_cons_of_ne_nil hl
        obtain ⟨y, m', rfl⟩ := List.exists_cons_of_ne_nil hm
        obtain ⟨ad, had, k0, k3, k4⟩ := r1.head w
        obtain ⟨bd, hbd, j0, j3, j4⟩ := r2.head w
        have kx := (r1.op (y := x) (List.mem_cons_self ..) h _ w).1
        have ky := (r2.op (y := y) (List.mem_cons_self ..) h _ w).1
        have cmp : EvC Go.Proofs.Tryd.prog w0 38 #[.slice x.ka x.key.length x.kc, .slice y.ka y.key.length y.kc] (fun x' h' => ∃ i : Int, x' = .int .i64 i ∧ f19_12 w0 K ao os.length co a7 (x :: l').length c7 a8 (y :: m').length c8 i h') h := by
          refine f38_spec kx ky rfl rfl ⟨_, rfl, s12 _ h (fun z0 => ⟨x, l', rfl, chg_lt z0⟩) (fun z0 => ⟨y, m', rfl, chg_gt z0⟩) (fun z0 => ⟨x, l', y, m', rfl, rfl, chg_eq z0⟩) w⟩
        refine ⟨ad, had, by decide, by simp, bd, hbd, by decide, by simp, ?_⟩
        repeat' first
          | exact cmp
          | refine ⟨_, _, _, k0, ?_⟩
          | refine ⟨_, _, _, j0, ?_⟩
          | refine ⟨?_, ?_⟩
    refine f19_5_in _ _ _ _ _ _ _ _ _ _ (brB_of (fun _ => go6) fun z => brB_of (fun _ => go6) fun z2 => ?_)
    have hl : l = [] := by simpa using z
    have hm : m = [] := by simpa using z2
    exact absurd ⟨hl, hm⟩ hb
/-! ### schema.Changes: what it gives -/
theorem chg_self : ∀ l : List EDat, chg l l = []
  | [] => by simp [chg]
  | x :: l => by
    rw [chg, cmpL_same, if_neg (by omega), if_neg (by omega), if_pos ⟨rfl, rfl⟩, chg_self l]; rfl
structure OpsRd (w0 : World) (h : AH) (a : Option Addr) (os : List OpM) : Prop where
  rd : Rd w0 h a (os.flatMap OpM.cells)
  each : ∀ o ∈ os, Rd w0 h o.ka (u8s o.key) ∧ Rd w0 h o.va (u8s o.val)
theorem ents_rd {w0 : World} {C : List (Nat × AB)} {D : List EDat} {a : Option Addr} {c : Nat} {es : List EntM} (o : Out D a c es) (hm : ∀ p ∈ outB a c es, p ∈ C) : EntsRd w0 C a c es := by
  have mem : ∀ D' : List (Nat × AB), ∀ p, p ∈ outB a c es → p ∈ D' ++ C := fun D' p hp => List.mem_append_right _ (hm p hp)
  refine ⟨fun h' D' w => slv_rdm o.v w fun p hp => mem D' p (List.mem_append_left _ hp), o.v.2.1, fun y hy h' D' w => ?_⟩
  have ev := o.ev y hy
  have own : ∀ p, p ∈ slB y.va (u8s y.val) (y.vc * 1) ++ slB y.ka (u8s y.key) (y.kc * 1) → p ∈ outB a c es := fun p hp => List.mem_append_right _ (List.mem_flatMap.2 ⟨y, hy, hp⟩)
  exact ⟨slv_rdm ev.key w fun p hp => mem D' p (own p (List.mem_append_right _ hp)), slv_rdm ev.val w fun p hp => mem D' p (own p (List.mem_append_left _ hp))⟩
section
variable {w0 : World} {K : Value → AH → Prop} {h : AH} {B : List (Nat × AB)}
theorem f19_spec {a b : StM} (T : TabOk w0) (w : Own w0 h B) (ha : ∀ h' D, Own w0 h' (D ++ B) → StRd w0 h' a) (hb : ∀ h' D, Own w0 h' (D ++ B) → StRd w0 h' b)
    (hbad : (¬ MaySt a ∨ ¬ MaySt b) → ∀ h', Own w0 h' B → K (.tuple #[.slice none 0 0, .int .i64 1]) h')
    (hmany : MaySt a → MaySt b → 400 < (chg (entsD a) (entsD b)).length → ∀ h' C, Own w0 h' (C ++ B) → K (.tuple #[.slice none 0 0, .int .i64 13]) h')
    (hok : MaySt a → MaySt b → (chg (entsD a) (entsD b)).length ≤ 400 → ∀ h' a' c' (os : List OpM) C, os.map OpM.dat = chg (entsD a) (entsD b) → (∀ h'' D, Own w0 h'' (D ++ (C ++ B)) → OpsRd w0 h'' a' os) → Own w0 h' (C ++ B) → K (.tuple #[.slice a' os.length c', .int .i64 0]) h') :
    EvC Go.Proofs.Tryd.prog w0 19 #[a.agg2, b.agg2] K h := by
  have s3 : MaySt a → MaySt b → ∀ h1, Own w0 h1 B → f19_3 w0 K a.clock a.ra a.ret.length a.rc a.sa a.ses.length a.sc b.clock b.ra b.ret.length b.rc b.sa b.ses.length b.sc h1 := fun ma mb h1 w1 => by
    refine f19_3_in _ _ _ _ _ _ _ _ _ _ _ _ _ _ _ (f30_spec (s := a) w1 ma ha fun h2 a1 c1 es1 o1 w2 => ⟨a1, es1.length, c1, rfl, ?_⟩)
    refine f30_spec (s := b) w2 mb (fun h' D w' => hb h' (D ++ outB a1 c1 es1) (by rw [List.append_assoc]; exact w')) fun h3 a2 c2 es2 o2 w3 => ⟨a2, es2.length, c2, rfl, ?_⟩
    have l1 := entsD_len ma
    have l2 := entsD_len mb
    have l3 := chg_len (entsD a) (entsD b)
    refine f19_5s (C := outB a2 c2 es2 ++ (outB a1 c1 es1 ++ B)) (E := chg (entsD a) (entsD b)) (by omega) (fun hle h' a' c' os hd v ro w' => ?_) (fun hlt h' w' => ?_) (es1.length + es2.length) es1 es2 a1 a2 c1 c2 (Nat.le_refl _)
      (ents_rd o1 fun p hp => List.mem_append_right _ (List.mem_append_left _ hp)) (ents_rd o2 fun p hp => List.mem_append_left _ hp) none 0 [] h3 SlV.nil (fun _ z => by cases z) (by rw [o1.dat, o2.dat]; rfl) w3
    · have e : slB a' (os.flatMap OpM.cells) (c' * 4) ++ (outB a2 c2 es2 ++ (outB a1 c1 es1 ++ B)) = (slB a' (os.flatMap OpM.cells) (c' * 4) ++ (outB a2 c2 es2 ++ outB a1 c1 es1)) ++ B := by simp only [List.append_assoc]
      refine hok ma mb hle h' a' c' os (slB a' (os.flatMap OpM.cells) (c' * 4) ++ (outB a2 c2 es2 ++ outB a1 c1 es1)) hd (fun h'' D w'' => ?_) (by rw [← e]; exact w')
      rw [← e] at w''
      exact ⟨v.rd w'', fun o ho => ro o ho h'' (D ++ slB a' (os.flatMap OpM.cells) (c' * 4)) (by rw [List.append_assoc]; exact w'')⟩
    · exact hmany ma mb hlt h' (outB a2 c2 es2 ++ outB a1 c1 es1) (by simpa only [List.append_eq, List.append_assoc] using w')
  have s2 : ∀ h1 v, Own w0 h1 B → (v = true → ¬ MaySt a ∨ ¬ MaySt b) → (v = false → MaySt a ∧ MaySt b) → f19_2 w0 K v a.clock a.ra a.ret.length a.rc a.sa a.ses.length a.sc b.clock b.ra b.ret.length b.rc b.sa b.ses.length b.sc h1 := fun h1 v w1 h1' h2' =>
    f19_2_in _ _ _ _ _ _ _ _ _ _ _ _ _ _ _ _ (brB_of (fun z => hbad (h1' z) h1 w1) fun z => s3 (h2' z).1 (h2' z).2 h1 w1)
  refine f19_go _ _ _ _ _ _ _ _ _ _ _ _ _ _ _ (f11_spec (s := a) T w (fun h' w' => ha h' [] w') fun t h1 ht w1 => ⟨t, rfl, brB_of (fun z => s2 h1 _ w1 (fun _ => .inl fun p => by have := ht.2 p; rw [this] at z; cases z) fun z => by cases z) fun z => ?_⟩)
  refine f11_spec (s := b) T w1 (fun h' w' => hb h' [] w') fun t2 h2 ht2 w2 => ⟨t2, rfl, s2 h2 _ w2 (fun z2 => .inr fun p => by have := ht2.2 p; rw [this] at z2; cases z2) fun z2 => ⟨ht.1 (by simpa using z), ht2.1 (by simpa using z2)⟩⟩
end
end Go.G.YtilifcggegabfaaDoor
