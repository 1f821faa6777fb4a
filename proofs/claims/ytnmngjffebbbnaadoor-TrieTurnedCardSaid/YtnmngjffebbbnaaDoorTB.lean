/- Small functions. -/
import Derived.Test.YtnmngjffebbbnaaDoorTA
import Derived.Test.YtnmngjffebbbnaaDoorProg
set_option maxRecDepth 100000
namespace Go.G.YtnmngjffebbbnaaDoor
open Go.RowKit
open Value (string slice int bool agg)
def f83_J : Nat → List Nat × Nat := jOf []



theorem f83_go {w0 : World} {K : Value → AH → Prop} (c : Option Addr) (b n : Nat) (a d e : Int) (h : AH)
  (hv : (brB (decide ((a < ((b : Nat) : Int)))) (∃ g : Addr, ((c = (some g)) ∧ (((0 : Int) ≤ a) ∧ ((a < ((b : Nat) : Int)) ∧ (∃ i : Int, (((cellA w0 h (Addr.add g ((Int.toNat a) * 1))) = (some (int .u8 i))) ∧ (brB (decide ((d ≤ i))) (∃ k : Addr, ((c = (some k)) ∧ (((0 : Int) ≤ a) ∧ ((a < ((b : Nat) : Int)) ∧ (∃ m : Int, (((cellA w0 h (Addr.add k ((Int.toNat a) * 1))) = (some (int .u8 m))) ∧ (K (bool (decide ((m ≤ e)))) h))))))) (K (bool false) h)))))))) (K (bool false) h))) :
  EvC Proofs.Tryd.prog w0 83 ([(.slice c b n), (.int .i64 a), (.int .u8 d), (.int .u8 e)]).toArray K h := EvC_intro (P := Proofs.Tryd.prog) f83_J (Eq.mp (by kernel_rfl) hv)
def f62_J : Nat → List Nat × Nat := jOf [(3, (1 :: (2 :: (4 :: (5 :: (6 :: (rn 115 107 [])))))), 0), (5, (1 :: (2 :: (rn 14 10 (rn 115 100 [])))), 0), (7, (1 :: (2 :: (rn 25 21 (rn 115 89 [])))), 0), (9, (1 :: (2 :: (rn 36 32 (rn 115 78 [])))), 0), (11, (1 :: (2 :: (rn 47 43 (rn 115 67 [])))), 0), (13, (1 :: (2 :: (rn 66 62 (rn 115 48 [])))), 0), (15, (1 :: (2 :: (rn 81 77 (rn 115 33 [])))), 0), (17, (rn 100 100 (rn 115 14 [])), 0)]

def f62_3 (w0 : World) (K : Value → AH → Prop) (a : Option Addr) (b c : Nat) (d : Int) (e : Bool) (h : AH) : Prop :=
  ∀ j : Nat → Value, LPk Proofs.Tryd.prog w0 (EvC Proofs.Tryd.prog w0) f62_J 62 K 3 (.v (.slice a b c) :: (jv j 3 2 (.v (.int .u8 d) :: (jv j 7 3 (.v (.bool e) :: (jv j 115 107 [])))))) [] h

def f62_5 (w0 : World) (K : Value → AH → Prop) (a : Option Addr) (b c : Nat) (d : Int) (e : Bool) (h : AH) : Prop :=
  ∀ j : Nat → Value, LPk Proofs.Tryd.prog w0 (EvC Proofs.Tryd.prog w0) f62_J 62 K 5 (.v (.slice a b c) :: (jv j 3 2 (.v (.int .u8 d) :: (jv j 14 10 (.v (.bool e) :: (jv j 115 100 [])))))) [] h

def f62_7 (w0 : World) (K : Value → AH → Prop) (a : Option Addr) (b c : Nat) (d : Int) (e : Bool) (h : AH) : Prop :=
  ∀ j : Nat → Value, LPk Proofs.Tryd.prog w0 (EvC Proofs.Tryd.prog w0) f62_J 62 K 7 (.v (.slice a b c) :: (jv j 3 2 (.v (.int .u8 d) :: (jv j 25 21 (.v (.bool e) :: (jv j 115 89 [])))))) [] h

def f62_9 (w0 : World) (K : Value → AH → Prop) (a : Option Addr) (b c : Nat) (d : Int) (e : Bool) (h : AH) : Prop :=
  ∀ j : Nat → Value, LPk Proofs.Tryd.prog w0 (EvC Proofs.Tryd.prog w0) f62_J 62 K 9 (.v (.slice a b c) :: (jv j 3 2 (.v (.int .u8 d) :: (jv j 36 32 (.v (.bool e) :: (jv j 115 78 [])))))) [] h

def f62_11 (w0 : World) (K : Value → AH → Prop) (a : Option Addr) (b c : Nat) (d : Int) (e : Bool) (h : AH) : Prop :=
  ∀ j : Nat → Value, LPk Proofs.Tryd.prog w0 (EvC Proofs.Tryd.prog w0) f62_J 62 K 11 (.v (.slice a b c) :: (jv j 3 2 (.v (.int .u8 d) :: (jv j 47 43 (.v (.bool e) :: (jv j 115 67 [])))))) [] h

def f62_13 (w0 : World) (K : Value → AH → Prop) (a : Option Addr) (b c : Nat) (d : Int) (e : Bool) (h : AH) : Prop :=
  ∀ j : Nat → Value, LPk Proofs.Tryd.prog w0 (EvC Proofs.Tryd.prog w0) f62_J 62 K 13 (.v (.slice a b c) :: (jv j 3 2 (.v (.int .u8 d) :: (jv j 66 62 (.v (.bool e) :: (jv j 115 48 [])))))) [] h

def f62_15 (w0 : World) (K : Value → AH → Prop) (a : Option Addr) (b c : Nat) (d : Int) (e : Bool) (h : AH) : Prop :=
  ∀ j : Nat → Value, LPk Proofs.Tryd.prog w0 (EvC Proofs.Tryd.prog w0) f62_J 62 K 15 (.v (.slice a b c) :: (jv j 3 2 (.v (.int .u8 d) :: (jv j 81 77 (.v (.bool e) :: (jv j 115 33 [])))))) [] h

def f62_17 (w0 : World) (K : Value → AH → Prop) (a : Bool) (h : AH) : Prop :=
  ∀ j : Nat → Value, LPk Proofs.Tryd.prog w0 (EvC Proofs.Tryd.prog w0) f62_J 62 K 17 (jv j 100 100 (.v (.bool a) :: (jv j 115 14 []))) [] h

theorem f62_3_in {w0 : World} {K : Value → AH → Prop} (b : Option Addr) (c d : Nat) (a : Int) (e : Bool) (h : AH)
  (hv : (brB e (K (int .i64 (1 : Int)) h) (brB (decide (((194 : Int) ≤ a))) (brB (decide ((a ≤ (223 : Int)))) (EvC Proofs.Tryd.prog w0 83 #[(slice b c d), (int .i64 (1 : Int)), (int .u8 (128 : Int)), (int .u8 (191 : Int))] (fun i k => (∃ g : Bool, ((i = (bool g)) ∧ (f62_5 w0 K b c d a g k)))) h) (f62_5 w0 K b c d a false h)) (f62_5 w0 K b c d a false h)))) :
  f62_3 w0 K b c d a e h := fun j => LP_intro (P := Proofs.Tryd.prog) (Eq.mp (by kernel_rfl) hv)

theorem f62_5_in {w0 : World} {K : Value → AH → Prop} (a : Option Addr) (b c : Nat) (d : Int) (e : Bool) (h : AH)
  (hv : (brB e (K (int .i64 (2 : Int)) h) (brB (d == (224 : Int)) (EvC Proofs.Tryd.prog w0 83 #[(slice a b c), (int .i64 (1 : Int)), (int .u8 (160 : Int)), (int .u8 (191 : Int))] (fun m g => (∃ i : Bool, ((m = (bool i)) ∧ (brB i (EvC Proofs.Tryd.prog w0 83 #[(slice a b c), (int .i64 (2 : Int)), (int .u8 (128 : Int)), (int .u8 (191 : Int))] (fun n o => (∃ k : Bool, ((n = (bool k)) ∧ (f62_7 w0 K a b c d k o)))) g) (f62_7 w0 K a b c d false g))))) h) (f62_7 w0 K a b c d false h)))) :
  f62_5 w0 K a b c d e h := fun j => LP_intro (P := Proofs.Tryd.prog) (Eq.mp (by kernel_rfl) hv)

theorem f62_7_in {w0 : World} {K : Value → AH → Prop} (a : Option Addr) (b c : Nat) (d : Int) (e : Bool) (h : AH)
  (hv : (brB e (K (int .i64 (3 : Int)) h) (brB (d == (237 : Int)) (EvC Proofs.Tryd.prog w0 83 #[(slice a b c), (int .i64 (1 : Int)), (int .u8 (128 : Int)), (int .u8 (159 : Int))] (fun m g => (∃ i : Bool, ((m = (bool i)) ∧ (brB i (EvC Proofs.Tryd.prog w0 83 #[(slice a b c), (int .i64 (2 : Int)), (int .u8 (128 : Int)), (int .u8 (191 : Int))] (fun n o => (∃ k : Bool, ((n = (bool k)) ∧ (f62_9 w0 K a b c d k o)))) g) (f62_9 w0 K a b c d false g))))) h) (f62_9 w0 K a b c d false h)))) :
  f62_7 w0 K a b c d e h := fun j => LP_intro (P := Proofs.Tryd.prog) (Eq.mp (by kernel_rfl) hv)

theorem f62_9_in {w0 : World} {K : Value → AH → Prop} (b : Option Addr) (c d : Nat) (a : Int) (e : Bool) (h : AH)
  (hv : (brB e (K (int .i64 (3 : Int)) h) (brB (decide (((225 : Int) ≤ a))) (brB (decide ((a ≤ (239 : Int)))) (brB (a != (237 : Int)) (EvC Proofs.Tryd.prog w0 83 #[(slice b c d), (int .i64 (1 : Int)), (int .u8 (128 : Int)), (int .u8 (191 : Int))] (fun m g => (∃ i : Bool, ((m = (bool i)) ∧ (brB i (EvC Proofs.Tryd.prog w0 83 #[(slice b c d), (int .i64 (2 : Int)), (int .u8 (128 : Int)), (int .u8 (191 : Int))] (fun n o => (∃ k : Bool, ((n = (bool k)) ∧ (f62_11 w0 K b c d a k o)))) g) (f62_11 w0 K b c d a false g))))) h) (f62_11 w0 K b c d a false h)) (f62_11 w0 K b c d a false h)) (f62_11 w0 K b c d a false h)))) :
  f62_9 w0 K b c d a e h := fun j => LP_intro (P := Proofs.Tryd.prog) (Eq.mp (by kernel_rfl) hv)

theorem f62_11_in {w0 : World} {K : Value → AH → Prop} (a : Option Addr) (b c : Nat) (d : Int) (e : Bool) (h : AH)
  (hv : (brB e (K (int .i64 (3 : Int)) h) (brB (d == (240 : Int)) (EvC Proofs.Tryd.prog w0 83 #[(slice a b c), (int .i64 (1 : Int)), (int .u8 (144 : Int)), (int .u8 (191 : Int))] (fun o g => (∃ i : Bool, ((o = (bool i)) ∧ (brB i (EvC Proofs.Tryd.prog w0 83 #[(slice a b c), (int .i64 (2 : Int)), (int .u8 (128 : Int)), (int .u8 (191 : Int))] (fun p k => (∃ m : Bool, ((p = (bool m)) ∧ (brB m (EvC Proofs.Tryd.prog w0 83 #[(slice a b c), (int .i64 (3 : Int)), (int .u8 (128 : Int)), (int .u8 (191 : Int))] (fun q r => (∃ n : Bool, ((q = (bool n)) ∧ (f62_13 w0 K a b c d n r)))) k) (f62_13 w0 K a b c d false k))))) g) (f62_13 w0 K a b c d false g))))) h) (f62_13 w0 K a b c d false h)))) :
  f62_11 w0 K a b c d e h := fun j => LP_intro (P := Proofs.Tryd.prog) (Eq.mp (by kernel_rfl) hv)

theorem f62_13_in {w0 : World} {K : Value → AH → Prop} (a : Option Addr) (b c : Nat) (d : Int) (e : Bool) (h : AH)
  (hv : (brB e (K (int .i64 (4 : Int)) h) (brB (decide (((241 : Int) ≤ d))) (brB (decide ((d ≤ (243 : Int)))) (EvC Proofs.Tryd.prog w0 83 #[(slice a b c), (int .i64 (1 : Int)), (int .u8 (128 : Int)), (int .u8 (191 : Int))] (fun o g => (∃ i : Bool, ((o = (bool i)) ∧ (brB i (EvC Proofs.Tryd.prog w0 83 #[(slice a b c), (int .i64 (2 : Int)), (int .u8 (128 : Int)), (int .u8 (191 : Int))] (fun p k => (∃ m : Bool, ((p = (bool m)) ∧ (brB m (EvC Proofs.Tryd.prog w0 83 #[(slice a b c), (int .i64 (3 : Int)), (int .u8 (128 : Int)), (int .u8 (191 : Int))] (fun q r => (∃ n : Bool, ((q = (bool n)) ∧ (f62_15 w0 K a b c d n r)))) k) (f62_15 w0 K a b c d false k))))) g) (f62_15 w0 K a b c d false g))))) h) (f62_15 w0 K a b c d false h)) (f62_15 w0 K a b c d false h)))) :
  f62_13 w0 K a b c d e h := fun j => LP_intro (P := Proofs.Tryd.prog) (Eq.mp (by kernel_rfl) hv)

theorem f62_15_in {w0 : World} {K : Value → AH → Prop} (a : Option Addr) (b c : Nat) (d : Int) (e : Bool) (h : AH)
  (hv : (brB e (K (int .i64 (4 : Int)) h) (brB (d == (244 : Int)) (EvC Proofs.Tryd.prog w0 83 #[(slice a b c), (int .i64 (1 : Int)), (int .u8 (128 : Int)), (int .u8 (143 : Int))] (fun o g => (∃ i : Bool, ((o = (bool i)) ∧ (brB i (EvC Proofs.Tryd.prog w0 83 #[(slice a b c), (int .i64 (2 : Int)), (int .u8 (128 : Int)), (int .u8 (191 : Int))] (fun p k => (∃ m : Bool, ((p = (bool m)) ∧ (brB m (EvC Proofs.Tryd.prog w0 83 #[(slice a b c), (int .i64 (3 : Int)), (int .u8 (128 : Int)), (int .u8 (191 : Int))] (fun q r => (∃ n : Bool, ((q = (bool n)) ∧ (f62_17 w0 K n r)))) k) (f62_17 w0 K false k))))) g) (f62_17 w0 K false g))))) h) (f62_17 w0 K false h)))) :
  f62_15 w0 K a b c d e h := fun j => LP_intro (P := Proofs.Tryd.prog) (Eq.mp (by kernel_rfl) hv)

theorem f62_17_in {w0 : World} {K : Value → AH → Prop} (a : Bool) (h : AH)
  (hv : (brB a (K (int .i64 (4 : Int)) h) (K (int .i64 (0 : Int)) h))) :
  f62_17 w0 K a h := fun j => LP_intro (P := Proofs.Tryd.prog) (Eq.mp (by kernel_rfl) hv)

theorem f62_go {w0 : World} {K : Value → AH → Prop} (b : Option Addr) (c d : Nat) (h : AH)
  (hv : (∃ e : Addr, ((b = (some e)) ∧ (((0 : Int) ≤ (0 : Int)) ∧ (((0 : Int) < ((c : Nat) : Int)) ∧ (∃ a : Int, (((cellA w0 h (Addr.add e 0)) = (some (int .u8 a))) ∧ (brB (decide (((1 : Int) ≤ a))) (f62_3 w0 K b c d a (decide ((a ≤ (127 : Int)))) h) (f62_3 w0 K b c d a false h))))))))) :
  EvC Proofs.Tryd.prog w0 62 ([(.slice b c d)]).toArray K h := EvC_intro (P := Proofs.Tryd.prog) f62_J (Eq.mp (by kernel_rfl) hv)
def f50_J : Nat → List Nat × Nat := jOf [(1, (rn 14 13 []), 0)]

def f50_1 (w0 : World) (K : Value → AH → Prop) (a : Option Addr) (b c : Nat) (h : AH) : Prop :=
  ∀ j : Nat → Value, LPk Proofs.Tryd.prog w0 (EvC Proofs.Tryd.prog w0) f50_J 50 K 1 (.v (.slice a b c) :: (jv j 14 13 [])) [] h

theorem f50_1_in {w0 : World} {K : Value → AH → Prop} (d : Option Addr) (b c : Nat) (h : AH)
  (hv : (brB (decide (((0 : Int) < ((b : Nat) : Int)))) (EvC Proofs.Tryd.prog w0 62 #[(slice d b c)] (fun g e => (∃ a : Int, ((g = (int .i64 a)) ∧ (brB (a == (0 : Int)) (K (bool false) e) (((0 : Int) ≤ a) ∧ ((a ≤ ((b : Nat) : Int)) ∧ (f50_1 w0 K (cutA 1 d c (Int.toNat a)) (b - (Int.toNat a)) (c - (Int.toNat a)) e))))))) h) (K (bool true) h))) :
  f50_1 w0 K d b c h := fun j => LP_intro (P := Proofs.Tryd.prog) (Eq.mp (by kernel_rfl) hv)

theorem f50_go {w0 : World} {K : Value → AH → Prop} (a : Option Addr) (b c : Nat) (h : AH)
  (hv : (f50_1 w0 K a b c h)) :
  EvC Proofs.Tryd.prog w0 50 ([(.slice a b c)]).toArray K h := EvC_intro (P := Proofs.Tryd.prog) f50_J (Eq.mp (by kernel_rfl) hv)
theorem c_le {k c : UInt8} {m : Int} (hm : m = (k.toNat : Nat)) : decide (m ≤ ((c.toNat : Nat) : Int)) = decide (k ≤ c) := by
  rw [decide_eq_decide, UInt8.le_iff_toNat_le]; omega
theorem c_ge {k c : UInt8} {m : Int} (hm : m = (k.toNat : Nat)) : decide (((c.toNat : Nat) : Int) ≤ m) = decide (c ≤ k) := by
  rw [decide_eq_decide, UInt8.le_iff_toNat_le]; omega
theorem c_eq {k c : UInt8} {m : Int} (hm : m = (k.toNat : Nat)) : (((c.toNat : Nat) : Int) == m) = (c == k) := by
  rw [Bool.eq_iff_iff]
  simp only [beq_iff_eq]
  constructor
  · intro e; exact UInt8.toNat_inj.1 (by omega)
  · intro e; subst e; exact hm.symm
theorem c_ne {k c : UInt8} {m : Int} (hm : m = (k.toNat : Nat)) : (((c.toNat : Nat) : Int) != m) = (c != k) := by
  unfold bne; rw [c_eq hm]
theorem u8_get {l : List UInt8} {i : Nat} {x : UInt8} (h : l[i]? = some x) : (u8s l)[i]? = some (.int .u8 x.toNat) := by simp [u8s, h]
/-- A byte of a row is loaded. -/
theorem rd8 {w0 : World} {h : AH} {a : Option Addr} {l : List UInt8} {i : Nat} {x : UInt8} (hr : Rd w0 h a (u8s l)) (hi : l[i]? = some x) : ∃ ad, a = some ad ∧ cellA w0 h (ad.add i) = some (.int .u8 x.toNat) := hr i _ (u8_get hi)
theorem rd8_cut {w0 : World} {h : AH} {a : Option Addr} {l : List UInt8} {c k : Nat} (hr : Rd w0 h a (u8s l)) (hc : l.length ≤ c) (hk : k ≤ l.length) : Rd w0 h (cutA 1 a c k) (u8s (l.drop k)) := by
  have e : u8s l = u8s (l.take k) ++ u8s (l.drop k) := by unfold u8s; rw [← List.map_append, List.take_append_drop]
  rw [e] at hr
  refine hr.cut (by rw [u8s_length, List.length_take]; omega) fun hne e => ?_
  have : k = l.length := by omega
  rw [this, List.drop_length] at hne
  exact hne rfl

/-- at. -/
theorem f83_spec {w0 : World} {K : Value → AH → Prop} {h : AH} {a : Option Addr} {c i : Nat} {l : List UInt8} {lo hi : UInt8} (hr : Rd w0 h a (u8s l)) (hk : K (.bool (atL l i lo hi)) h) :
    EvC Go.Proofs.Tryd.prog w0 83 #[.slice a l.length c, .int .i64 (i : Nat), .int .u8 (lo.toNat : Nat), .int .u8 (hi.toNat : Nat)] K h := by
  unfold atL at hk
  refine f83_go _ _ _ _ _ _ _ (brB_of (fun q => ?_) fun q => ?_)
  · have hil : i < l.length := by simpa using q
    have hg := List.getElem?_eq_getElem hil
    generalize l[i] = x at hg
    rw [hg] at hk
    dsimp only at hk
    obtain ⟨ad, rfl, hc⟩ := rd8 hr hg
    have hc' : cellA w0 h (ad.add ((Int.toNat ((i : Nat) : Int)) * 1)) = some (.int .u8 ((x.toNat : Nat) : Int)) := by rw [Int.toNat_natCast, Nat.mul_one]; exact hc
    refine ⟨ad, rfl, by omega, by omega, _, hc', ?_⟩
    rw [c_le (k := lo) rfl]
    refine brB_of (fun q1 => ⟨ad, rfl, by omega, by omega, _, hc', ?_⟩) fun q1 => ?_
    · rw [c_ge (k := hi) rfl]
      rw [q1] at hk; exact hk
    · rw [q1] at hk; exact hk
  · have hil : l.length ≤ i := by simpa using q
    rw [List.getElem?_eq_none hil] at hk
    exact hk

/-! size -/
def r15 (c : UInt8) (l : List UInt8) : Nat := if c == 244 && atL l 1 128 143 && atL l 2 128 191 && atL l 3 128 191 then 4 else 0
def r13 (c : UInt8) (l : List UInt8) : Nat := if decide (241 ≤ c) && decide (c ≤ 243) && atL l 1 128 191 && atL l 2 128 191 && atL l 3 128 191 then 4 else r15 c l
def r11 (c : UInt8) (l : List UInt8) : Nat := if c == 240 && atL l 1 144 191 && atL l 2 128 191 && atL l 3 128 191 then 4 else r13 c l
def r9 (c : UInt8) (l : List UInt8) : Nat := if decide (225 ≤ c) && decide (c ≤ 239) && c != 237 && atL l 1 128 191 && atL l 2 128 191 then 3 else r11 c l
def r7 (c : UInt8) (l : List UInt8) : Nat := if c == 237 && atL l 1 128 159 && atL l 2 128 191 then 3 else r9 c l
def r5 (c : UInt8) (l : List UInt8) : Nat := if c == 224 && atL l 1 160 191 && atL l 2 128 191 then 3 else r7 c l
def r3 (c : UInt8) (l : List UInt8) : Nat := if decide (194 ≤ c) && decide (c ≤ 223) && atL l 1 128 191 then 2 else r5 c l
theorem sizeU_r (c : UInt8) (r : List UInt8) : sizeU (c :: r) = if c < 128 then 1 else r3 c (c :: r) := rfl
theorem f62_17s {w0 : World} {K : Value → AH → Prop} {h : AH} {x : Bool} (hk : K (.int .i64 ((if x then 4 else 0 : Nat) : Int)) h) : f62_17 w0 K x h :=
  f62_17_in _ _ (brB_of (fun q => by rw [q] at hk; exact hk) fun q => by rw [q] at hk; exact hk)
section
variable {w0 : World} {K : Value → AH → Prop} {h : AH} {a : Option Addr} {cp : Nat} {l : List UInt8} {c : UInt8} {x : Bool} (hr : Rd w0 h a (u8s l))
include hr
theorem f62_15s (hk : K (.int .i64 ((if x then 4 else r15 c l : Nat) : Int)) h) : f62_15 w0 K a l.length cp ((c.toNat : Nat) : Int) x h := by
  refine f62_15_in _ _ _ _ _ _ (brB_of (fun q => by rw [q] at hk; exact hk) fun q => ?_)
  rw [q] at hk
  unfold r15 at hk
  rw [c_eq (k := 244) (m := 244) rfl]
  refine brB_of (fun q1 => f83_spec (i := 1) (lo := 128) (hi := 143) hr ⟨_, rfl, brB_of (fun q2 => f83_spec (i := 2) (lo := 128) (hi := 191) hr ⟨_, rfl, brB_of (fun q3 => f83_spec (i := 3) (lo := 128) (hi := 191) hr ⟨_, rfl, f62_17s ?_⟩) fun q3 => f62_17s ?_⟩) fun q2 => f62_17s ?_⟩) fun q1 => f62_17s ?_
  · rw [q1, q2, q3] at hk; exact hk
  · rw [q1, q2, q3] at hk; exact hk
  · rw [q1, q2] at hk; exact hk
  · rw [q1] at hk; exact hk
theorem f62_13s (hk : K (.int .i64 ((if x then 4 else r13 c l : Nat) : Int)) h) : f62_13 w0 K a l.length cp ((c.toNat : Nat) : Int) x h := by
  refine f62_13_in _ _ _ _ _ _ (brB_of (fun q => by rw [q] at hk; exact hk) fun q => ?_)
  rw [q] at hk
  unfold r13 at hk
  rw [c_le (k := 241) (m := 241) rfl, c_ge (k := 243) (m := 243) rfl]
  refine brB_of (fun q1 => brB_of (fun q1' => f83_spec (i := 1) (lo := 128) (hi := 191) hr ⟨_, rfl, brB_of (fun q2 => f83_spec (i := 2) (lo := 128) (hi := 191) hr ⟨_, rfl, brB_of (fun q3 => f83_spec (i := 3) (lo := 128) (hi := 191) hr ⟨_, rfl, f62_15s hr ?_⟩) fun q3 => f62_15s hr ?_⟩) fun q2 => f62_15s hr ?_⟩) fun q1' => f62_15s hr ?_) fun q1 => f62_15s hr ?_
  · rw [q1, q1', q2, q3] at hk; exact hk
  · rw [q1, q1', q2, q3] at hk; exact hk
  · rw [q1, q1', q2] at hk; exact hk
  · rw [q1, q1'] at hk; exact hk
  · rw [q1] at hk; exact hk
theorem f62_11s (hk : K (.int .i64 ((if x then 3 else r11 c l : Nat) : Int)) h) : f62_11 w0 K a l.length cp ((c.toNat : Nat) : Int) x h := by
  refine f62_11_in _ _ _ _ _ _ (brB_of (fun q => by rw [q] at hk; exact hk) fun q => ?_)
  rw [q] at hk
  unfold r11 at hk
  rw [c_eq (k := 240) (m := 240) rfl]
  refine brB_of (fun q1 => f83_spec (i := 1) (lo := 144) (hi := 191) hr ⟨_, rfl, brB_of (fun q2 => f83_spec (i := 2) (lo := 128) (hi := 191) hr ⟨_, rfl, brB_of (fun q3 => f83_spec (i := 3) (lo := 128) (hi := 191) hr ⟨_, rfl, f62_13s hr ?_⟩) fun q3 => f62_13s hr ?_⟩) fun q2 => f62_13s hr ?_⟩) fun q1 => f62_13s hr ?_
  · rw [q1, q2, q3] at hk; exact hk
  · rw [q1, q2, q3] at hk; exact hk
  · rw [q1, q2] at hk; exact hk
  · rw [q1] at hk; exact hk
theorem f62_9s (hk : K (.int .i64 ((if x then 3 else r9 c l : Nat) : Int)) h) : f62_9 w0 K a l.length cp ((c.toNat : Nat) : Int) x h := by
  refine f62_9_in _ _ _ _ _ _ (brB_of (fun q => by rw [q] at hk; exact hk) fun q => ?_)
  rw [q] at hk
  unfold r9 at hk
  rw [c_le (k := 225) (m := 225) rfl, c_ge (k := 239) (m := 239) rfl, c_ne (k := 237) (m := 237) rfl]
  refine brB_of (fun q1 => brB_of (fun q1' => brB_of (fun q1'' => f83_spec (i := 1) (lo := 128) (hi := 191) hr ⟨_, rfl, brB_of (fun q2 => f83_spec (i := 2) (lo := 128) (hi := 191) hr ⟨_, rfl, f62_11s hr ?_⟩) fun q2 => f62_11s hr ?_⟩) fun q1'' => f62_11s hr ?_) fun q1' => f62_11s hr ?_) fun q1 => f62_11s hr ?_
  · rw [q1, q1', q1'', q2] at hk; exact hk
  · rw [q1, q1', q1'', q2] at hk; exact hk
  · rw [q1, q1', q1''] at hk; exact hk
  · rw [q1, q1'] at hk; exact hk
  · rw [q1] at hk; exact hk
theorem f62_7s (hk : K (.int .i64 ((if x then 3 else r7 c l : Nat) : Int)) h) : f62_7 w0 K a l.length cp ((c.toNat : Nat) : Int) x h := by
  refine f62_7_in _ _ _ _ _ _ (brB_of (fun q => by rw [q] at hk; exact hk) fun q => ?_)
  rw [q] at hk
  unfold r7 at hk
  rw [c_eq (k := 237) (m := 237) rfl]
  refine brB_of (fun q1 => f83_spec (i := 1) (lo := 128) (hi := 159) hr ⟨_, rfl, brB_of (fun q2 => f83_spec (i := 2) (lo := 128) (hi := 191) hr ⟨_, rfl, f62_9s hr ?_⟩) fun q2 => f62_9s hr ?_⟩) fun q1 => f62_9s hr ?_
  · rw [q1, q2] at hk; exact hk
  · rw [q1, q2] at hk; exact hk
  · rw [q1] at hk; exact hk
theorem f62_5s (hk : K (.int .i64 ((if x then 2 else r5 c l : Nat) : Int)) h) : f62_5 w0 K a l.length cp ((c.toNat : Nat) : Int) x h := by
  refine f62_5_in _ _ _ _ _ _ (brB_of (fun q => by rw [q] at hk; exact hk) fun q => ?_)
  rw [q] at hk
  unfold r5 at hk
  rw [c_eq (k := 224) (m := 224) rfl]
  refine brB_of (fun q1 => f83_spec (i := 1) (lo := 160) (hi := 191) hr ⟨_, rfl, brB_of (fun q2 => f83_spec (i := 2) (lo := 128) (hi := 191) hr ⟨_, rfl, f62_7s hr ?_⟩) fun q2 => f62_7s hr ?_⟩) fun q1 => f62_7s hr ?_
  · rw [q1, q2] at hk; exact hk
  · rw [q1, q2] at hk; exact hk
  · rw [q1] at hk; exact hk
theorem f62_3s (hk : K (.int .i64 ((if x then 1 else r3 c l : Nat) : Int)) h) : f62_3 w0 K a l.length cp ((c.toNat : Nat) : Int) x h := by
  refine f62_3_in _ _ _ _ _ _ (brB_of (fun q => by rw [q] at hk; exact hk) fun q => ?_)
  rw [q] at hk
  unfold r3 at hk
  rw [c_le (k := 194) (m := 194) rfl, c_ge (k := 223) (m := 223) rfl]
  refine brB_of (fun q1 => brB_of (fun q1' => f83_spec (i := 1) (lo := 128) (hi := 191) hr ⟨_, rfl, f62_5s hr ?_⟩) fun q1' => f62_5s hr ?_) fun q1 => f62_5s hr ?_
  · rw [q1, q1'] at hk; exact hk
  · rw [q1, q1'] at hk; exact hk
  · rw [q1] at hk; exact hk
end
theorem f62_spec {w0 : World} {K : Value → AH → Prop} {h : AH} {a : Option Addr} {cp : Nat} {c : UInt8} {r : List UInt8} (hr : Rd w0 h a (u8s (c :: r))) (hk : K (.int .i64 ((sizeR (c :: r) : Nat) : Int)) h) :
    EvC Go.Proofs.Tryd.prog w0 62 #[.slice a (c :: r).length cp] K h := by
  obtain ⟨ad, rfl, hc⟩ := rd8 hr (i := 0) rfl
  refine f62_go _ _ _ _ ⟨ad, rfl, by omega, by simp, _, hc, ?_⟩
  have z : (c = 0) → r3 c (c :: r) = 0 := fun e => by subst e; rfl
  rw [c_le (k := 1) (m := 1) rfl]
  refine brB_of (fun q1 => ?_) fun q1 => ?_
  · rw [c_ge (k := 127) (m := 127) rfl]
    have hc0 : c ≠ 0 := fun e => by subst e; simp at q1
    have e1 : sizeR (c :: r) = sizeU (c :: r) := by simp [sizeR, hc0]
    have e2 : (c < 128) ↔ (c ≤ 127) := by rw [UInt8.lt_iff_toNat_lt, UInt8.le_iff_toNat_le]; show c.toNat < 128 ↔ c.toNat ≤ 127; omega
    rw [e1, sizeU_r] at hk
    refine f62_3s hr ?_
    simpa [e2] using hk
  · have hc0 : c = 0 := by
      have : ¬ (1 : UInt8) ≤ c := by simpa using q1
      rw [UInt8.le_iff_toNat_le] at this
      exact UInt8.toNat_inj.1 (by show c.toNat = 0; have : ¬ 1 ≤ c.toNat := this; omega)
    refine f62_3s hr ?_
    have e1 : sizeR (c :: r) = 0 := by simp [sizeR, hc0]
    rw [e1] at hk
    rw [z hc0]
    exact hk

/-- Text, as the document answers. -/
theorem f50_spec {w0 : World} {K : Value → AH → Prop} {h : AH} : ∀ {l : List UInt8} {a : Option Addr} {c : Nat}, Rd w0 h a (u8s l) → l.length ≤ c → K (.bool (textB l)) h → EvC Go.Proofs.Tryd.prog w0 50 #[.slice a l.length c] K h := by
  have loop : ∀ (n : Nat) (l : List UInt8) (a : Option Addr) (c : Nat), l.length ≤ n → Rd w0 h a (u8s l) → l.length ≤ c → K (.bool (validF sizeR n l)) h → f50_1 w0 K a l.length c h := by
    intro n
    induction n with
    | zero =>
      intro l a c hn hr hc hk
      have : l = [] := List.eq_nil_of_length_eq_zero (by omega)
      subst this
      exact f50_1_in _ _ _ _ (brB_of (fun q => by simp at q) fun _ => hk)
    | succ n ih =>
      intro l a c hn hr hc hk
      match l, hn, hr, hc, hk with
      | [], _, _, _, hk => exact f50_1_in _ _ _ _ (brB_of (fun q => by simp at q) fun _ => hk)
      | b :: r, hn, hr, hc, hk =>
        refine f50_1_in _ _ _ _ (brB_of (fun _ => f62_spec hr ⟨_, rfl, brB_of (fun q => ?_) fun q => ?_⟩) fun q => by simp at q)
        · have h0 : sizeR (b :: r) = 0 := by simpa using q
          unfold validF at hk
          rw [if_pos h0] at hk; exact hk
        · have h0 : ¬ sizeR (b :: r) = 0 := by simpa using q
          have hle : sizeR (b :: r) ≤ (b :: r).length := by
            unfold sizeR
            split
            · omega
            · exact sizeU_le b r
          unfold validF at hk
          rw [if_neg h0] at hk
          rw [Int.toNat_natCast]
          refine ⟨by omega, by omega, ?_⟩
          have hd : (b :: r).length - sizeR (b :: r) = ((b :: r).drop (sizeR (b :: r))).length := by rw [List.length_drop]
          rw [hd]
          exact ih _ _ _ (by rw [List.length_drop]; omega) (rd8_cut hr hc hle) (by rw [List.length_drop]; omega) hk
  intro l a c hr hc hk
  refine f50_go _ _ _ _ (loop l.length l a c (Nat.le_refl _) hr hc ?_)
  rw [← textR_eq] at hk
  exact hk
end Go.G.YtnmngjffebbbnaaDoor
