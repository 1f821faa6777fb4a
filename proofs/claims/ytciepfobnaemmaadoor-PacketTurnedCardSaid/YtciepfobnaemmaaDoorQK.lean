/- PacketTurned. -/
import Derived.Test.YtciepfobnaemmaaDoorQC
import Derived.Test.YtciepfobnaemmaaDoorLB
import Derived.Test.YtciepfobnaemmaaDoorProg
set_option maxRecDepth 100000
namespace Go.G.YtciepfobnaemmaaDoor
open Go.RowKit
open Value (string slice int bool agg)
def f4_J : Nat → List Nat × Nat := jOf [(3, (0 :: (rn 13 7 (rn 42 28 (rn 140 97 [])))), 0), (4, (0 :: (rn 13 7 (rn 140 126 []))), 0), (5, (0 :: (1 :: (rn 13 7 (rn 44 30 (rn 140 93 []))))), 0), (11, (0 :: (1 :: (2 :: (rn 13 7 (rn 77 63 (rn 140 62 [])))))), 0), (12, (0 :: (1 :: (2 :: (3 :: (rn 13 7 (rn 140 126 [])))))), 0), (14, (rn 13 13 (rn 89 75 (rn 140 50 []))), 0), (18, (rn 13 13 (rn 140 126 [])), 0)]

def f4_3 (w0 : World) (K : Value → AH → Prop) (a : Option Addr) (b c : Nat) (d e : Int) (g : Option Addr) (i k : Nat) (m : Bool) (n : Option Addr) (o p : Nat) (q : Bool) (h : AH) : Prop :=
  ∀ j : Nat → Value, LPk Proofs.Tryd.prog w0 (EvC Proofs.Tryd.prog w0) f4_J 4 K 3 (jv j 1 1 (.v (.slice a b c) :: (.v (.int .u8 d) :: (.v (.int .i64 e) :: (.v (.slice g i k) :: (.v (.bool m) :: (jv j 13 7 (.v (.slice n o p) :: (jv j 42 28 (.v (.bool q) :: (jv j 140 97 []))))))))))) [] h

def f4_4 (w0 : World) (K : Value → AH → Prop) (a : Option Addr) (b c : Nat) (d e : Int) (g : Option Addr) (i k : Nat) (m : Bool) (n : Option Addr) (o p : Nat) (h : AH) : Prop :=
  ∀ j : Nat → Value, LPk Proofs.Tryd.prog w0 (EvC Proofs.Tryd.prog w0) f4_J 4 K 4 (jv j 1 1 (.v (.slice a b c) :: (.v (.int .u8 d) :: (.v (.int .i64 e) :: (.v (.slice g i k) :: (.v (.bool m) :: (jv j 13 7 (.v (.slice n o p) :: (jv j 140 126 []))))))))) [] h

def f4_5 (w0 : World) (K : Value → AH → Prop) (a b : Int) (c : Option Addr) (d e : Nat) (g : Bool) (i : Option Addr) (k m : Nat) (n : Option Addr) (o p : Nat) (q r : Int) (h : AH) : Prop :=
  ∀ j : Nat → Value, LPk Proofs.Tryd.prog w0 (EvC Proofs.Tryd.prog w0) f4_J 4 K 5 (jv j 2 2 (.v (.int .u8 a) :: (.v (.int .i64 b) :: (.v (.slice c d e) :: (.v (.bool g) :: (jv j 13 7 (.v (.slice i k m) :: (jv j 44 30 (.v (.slice n o p) :: (.v (.int .i64 q) :: (.v (.int .i64 r) :: (jv j 140 93 [])))))))))))) [] h

def f4_11 (w0 : World) (K : Value → AH → Prop) (a : Int) (b : Option Addr) (c d : Nat) (e : Bool) (g : Option Addr) (i k : Nat) (m : Bool) (h : AH) : Prop :=
  ∀ j : Nat → Value, LPk Proofs.Tryd.prog w0 (EvC Proofs.Tryd.prog w0) f4_J 4 K 11 (jv j 3 3 (.v (.int .i64 a) :: (.v (.slice b c d) :: (.v (.bool e) :: (jv j 13 7 (.v (.slice g i k) :: (jv j 77 63 (.v (.bool m) :: (jv j 140 62 []))))))))) [] h

def f4_12 (w0 : World) (K : Value → AH → Prop) (a : Option Addr) (b c : Nat) (d : Bool) (e : Option Addr) (g i : Nat) (h : AH) : Prop :=
  ∀ j : Nat → Value, LPk Proofs.Tryd.prog w0 (EvC Proofs.Tryd.prog w0) f4_J 4 K 12 (jv j 4 4 (.v (.slice a b c) :: (.v (.bool d) :: (jv j 13 7 (.v (.slice e g i) :: (jv j 140 126 [])))))) [] h

def f4_14 (w0 : World) (K : Value → AH → Prop) (a : Option Addr) (b c : Nat) (d : Bool) (h : AH) : Prop :=
  ∀ j : Nat → Value, LPk Proofs.Tryd.prog w0 (EvC Proofs.Tryd.prog w0) f4_J 4 K 14 (jv j 13 13 (.v (.slice a b c) :: (jv j 89 75 (.v (.bool d) :: (jv j 140 50 []))))) [] h

def f4_18 (w0 : World) (K : Value → AH → Prop) (a : Option Addr) (b c : Nat) (h : AH) : Prop :=
  ∀ j : Nat → Value, LPk Proofs.Tryd.prog w0 (EvC Proofs.Tryd.prog w0) f4_J 4 K 18 (jv j 13 13 (.v (.slice a b c) :: (jv j 140 126 []))) [] h

theorem f4_3_in {w0 : World} {K : Value → AH → Prop} (a : Option Addr) (b c : Nat) (d e : Int) (g : Option Addr) (i k : Nat) (m : Bool) (n : Option Addr) (o p : Nat) (q : Bool) (h : AH)
  (hv : (brB q (EvC Proofs.Tryd.prog w0 17 #[] (fun s t => (∃ r : Bool, ((s = (bool r)) ∧ (K (bool r) t)))) h) (f4_4 w0 K a b c d e g i k m n o p h))) :
  f4_3 w0 K a b c d e g i k m n o p q h := fun j => LP_intro (P := Proofs.Tryd.prog) (Eq.mp (by kernel_rfl) hv)

theorem f4_4_in {w0 : World} {K : Value → AH → Prop} (b : Option Addr) (a c : Nat) (d e : Int) (g : Option Addr) (i k : Nat) (m : Bool) (n : Option Addr) (o p : Nat) (h : AH)
  (hv : (f4_5 w0 K d e g i k m n o p b a c ((a : Nat) : Int) (0 : Int) h)) :
  f4_4 w0 K b a c d e g i k m n o p h := fun j => LP_intro (P := Proofs.Tryd.prog) (Eq.mp (by kernel_rfl) hv)

theorem f4_5_in {w0 : World} {K : Value → AH → Prop} (i d : Int) (k : Option Addr) (m n : Nat) (o : Bool) (e : Option Addr) (a p : Nat) (q : Option Addr) (r t : Nat) (s c : Int) (h : AH)
  (hv : (brB (decide ((c < s))) (∃ x : Addr, ((q = (some x)) ∧ (((0 : Int) ≤ c) ∧ ((c < ((r : Nat) : Int)) ∧ (∃ b : Int, (((cellA w0 h (Addr.add x ((Int.toNat c) * 1))) = (some (int .i64 b))) ∧ (brB (decide ((c < (3 : Int)))) (((IntKind.wrap .u64 ((a : Nat) : Int)) ≠ (0 : Int)) ∧ (∃ y : Addr, ((e = (some y)) ∧ (((0 : Int) ≤ (IntKind.wrap .i64 (Int.tmod (IntKind.wrap .u64 b) (IntKind.wrap .u64 ((a : Nat) : Int))))) ∧ (((IntKind.wrap .i64 (Int.tmod (IntKind.wrap .u64 b) (IntKind.wrap .u64 ((a : Nat) : Int)))) < ((a : Nat) : Int)) ∧ (∃ u : Int, (((cellA w0 h (Addr.add y ((Int.toNat (IntKind.wrap .i64 (Int.tmod (IntKind.wrap .u64 b) (IntKind.wrap .u64 ((a : Nat) : Int))))) * 1))) = (some (int .u8 u))) ∧ (∃ g : Addr, ((e = (some g)) ∧ (((0 : Int) ≤ (IntKind.wrap .i64 (Int.tmod (IntKind.wrap .u64 b) (IntKind.wrap .u64 ((a : Nat) : Int))))) ∧ (((IntKind.wrap .i64 (Int.tmod (IntKind.wrap .u64 b) (IntKind.wrap .u64 ((a : Nat) : Int)))) < ((a : Nat) : Int)) ∧ (∃ v : List Go.Value, (∃ z : Nat, (((Array.size (Go.World.heap w0)) ≤ (Addr.block (Addr.add g ((Int.toNat (IntKind.wrap .i64 (Int.tmod (IntKind.wrap .u64 b) (IntKind.wrap .u64 ((a : Nat) : Int))))) * 1)))) ∧ (((Addr.spot (Addr.add g ((Int.toNat (IntKind.wrap .i64 (Int.tmod (IntKind.wrap .u64 b) (IntKind.wrap .u64 ((a : Nat) : Int))))) * 1))) = none) ∧ (((h (Addr.block (Addr.add g ((Int.toNat (IntKind.wrap .i64 (Int.tmod (IntKind.wrap .u64 b) (IntKind.wrap .u64 ((a : Nat) : Int))))) * 1)))) = (some (AB.cells v z))) ∧ ((((Addr.off (Addr.add g ((Int.toNat (IntKind.wrap .i64 (Int.tmod (IntKind.wrap .u64 b) (IntKind.wrap .u64 ((a : Nat) : Int))))) * 1))) + (Array.size #[(int .u8 (IntKind.wrap .u8 (((BitVec.toNat ((BitVec.ofInt 8 u) ^^^ (BitVec.ofInt 8 (IntKind.wrap .u8 (i + (IntKind.wrap .u8 c)))))) : Nat) : Int)))])) ≤ (List.length v)) ∧ (f4_5 w0 K i d k m n o e a p q r t s (IntKind.wrap .i64 (c + (1 : Int))) (AH.put h (Addr.block (Addr.add g ((Int.toNat (IntKind.wrap .i64 (Int.tmod (IntKind.wrap .u64 b) (IntKind.wrap .u64 ((a : Nat) : Int))))) * 1))) (AB.cells (setCells v (Addr.off (Addr.add g ((Int.toNat (IntKind.wrap .i64 (Int.tmod (IntKind.wrap .u64 b) (IntKind.wrap .u64 ((a : Nat) : Int))))) * 1))) [(int .u8 (IntKind.wrap .u8 (((BitVec.toNat ((BitVec.ofInt 8 u) ^^^ (BitVec.ofInt 8 (IntKind.wrap .u8 (i + (IntKind.wrap .u8 c)))))) : Nat) : Int)))]) z)))))))))))))))))))) (f4_5 w0 K i d k m n o e a p q r t s (IntKind.wrap .i64 (c + (1 : Int))) h)))))))) (brB (decide (((0 : Int) < d))) (f4_11 w0 K d k m n o e a p (decide ((d < ((a : Nat) : Int)))) h) (f4_11 w0 K d k m n o e a p false h)))) :
  f4_5 w0 K i d k m n o e a p q r t s c h := fun j => LP_intro (P := Proofs.Tryd.prog) (Eq.mp (by kernel_rfl) hv)

theorem f4_11_in {w0 : World} {K : Value → AH → Prop} (a : Int) (c : Option Addr) (d e : Nat) (g : Bool) (i : Option Addr) (k b : Nat) (m : Bool) (h : AH)
  (hv : (brB m (((0 : Int) ≤ a) ∧ ((a ≤ ((b : Nat) : Int)) ∧ (f4_12 w0 K c d e g i (Int.toNat a) b h))) (f4_12 w0 K c d e g i k b h))) :
  f4_11 w0 K a c d e g i k b m h := fun j => LP_intro (P := Proofs.Tryd.prog) (Eq.mp (by kernel_rfl) hv)

theorem f4_12_in {w0 : World} {K : Value → AH → Prop} (c : Option Addr) (a n : Nat) (d : Bool) (e : Option Addr) (b g : Nat) (h : AH)
  (hv : (rowsOf w0 h 1 c a (fun o => (App w0 h 1 1 e b g a o (fun i k m => (brB d (f4_14 w0 K i (b + a) k (decide (((2 : Int) ≤ (((b + a) : Nat) : Int)))) m) (f4_14 w0 K i (b + a) k false m))))))) :
  f4_12 w0 K c a n d e b g h := fun j => LP_intro (P := Proofs.Tryd.prog) (Eq.mp (by kernel_rfl) hv)

theorem f4_14_in {w0 : World} {K : Value → AH → Prop} (c : Option Addr) (a d : Nat) (i : Bool) (h : AH)
  (hv : (brB i (((0 : Int) ≤ (1 : Int)) ∧ (((1 : Int) ≤ ((a : Nat) : Int)) ∧ (EvC Proofs.Tryd.prog w0 20 #[(slice (cutA 1 c d 1) (a - 1) (d - 1))] (fun s k => (∃ t : Int, (∃ b : Int, (∃ m : Int, ((s = (Value.tuple #[(int .i64 t), (int .i64 b), (int .i64 m)])) ∧ (brB (m == (0 : Int)) (EvC Proofs.Tryd.prog w0 21 #[(int .i64 (IntKind.wrap .i64 ((IntKind.wrap .i64 (((a : Nat) : Int) - (1 : Int))) - b)))] (fun u n => (∃ o : Option Addr, (∃ e : Nat, (∃ v : Nat, (∃ x : Int, ((u = (Value.tuple #[(slice o e v), (int .i64 x)])) ∧ (∃ p : Addr, ((c = (some p)) ∧ (((0 : Int) ≤ (0 : Int)) ∧ (((0 : Int) < ((a : Nat) : Int)) ∧ (((0 : Int) ≤ (IntKind.wrap .i64 ((1 : Int) + b))) ∧ (((IntKind.wrap .i64 ((1 : Int) + b)) ≤ ((a : Nat) : Int)) ∧ (∃ g : Int, (((cellA w0 n (Addr.add p 0)) = (some (int .u8 g))) ∧ (newB w0 n (AB.cells [(int .u8 g)] (List.length [(int .u8 g)])) (fun y q => (rowsOf w0 q 1 o e (fun z => (App w0 q 1 1 (some (Addr.mk y 0 none)) 1 1 e z (fun A B r => (rowsOf w0 r 1 (cutA 1 c d (Int.toNat (IntKind.wrap .i64 ((1 : Int) + b)))) (a - (Int.toNat (IntKind.wrap .i64 ((1 : Int) + b)))) (fun C => (App w0 r 1 1 A (1 + e) B (a - (Int.toNat (IntKind.wrap .i64 ((1 : Int) + b)))) C (fun D E F => (f4_18 w0 K D ((1 + e) + (a - (Int.toNat (IntKind.wrap .i64 ((1 : Int) + b))))) E F))))))))))))))))))))))))) k) (f4_18 w0 K c a d k))))))) h))) (f4_18 w0 K c a d h))) :
  f4_14 w0 K c a d i h := fun j => LP_intro (P := Proofs.Tryd.prog) (Eq.mp (by kernel_rfl) hv)

theorem f4_18_in {w0 : World} {K : Value → AH → Prop} (a : Option Addr) (b c : Nat) (h : AH)
  (hv : (EvC Proofs.Tryd.prog w0 14 #[(slice a b c)] (fun b4 b5 => (∃ e : Int, (∃ g : Int, (∃ i : Bool, (∃ k : ByteArray, (∃ m : Option Addr, (∃ n : Nat, (∃ o : Nat, (∃ p : Int, (∃ q : Bool, (∃ r : Int, (∃ s : ByteArray, (∃ t : Bool, (∃ u : Int, (∃ v : Bool, (∃ x : Bool, (∃ y : Int, (∃ z : Option Addr, (∃ A : Nat, (∃ B : Nat, (∃ C : Option Addr, (∃ D : Nat, (∃ E : Nat, (∃ F : Int, ((b4 = (Value.tuple #[(agg #[(int .i64 e), (int .i64 g), (bool i), (string k), (slice m n o), (int .i64 p), (bool q), (int .i64 r), (string s), (bool t), (int .i64 u), (bool v), (bool x), (int .i64 y), (slice z A B), (slice C D E)]), (int .i64 F)])) ∧ (EvC Proofs.Tryd.prog w0 15 #[(slice a b c)] (fun b6 b7 => (∃ G : Int, (∃ L : Int, (∃ M : Bool, (∃ N : ByteArray, (∃ Q : Option Addr, (∃ R : Nat, (∃ T : Nat, (∃ U : Int, (∃ V : Bool, (∃ Y : Int, (∃ Z : ByteArray, (∃ a0 : Bool, (∃ a1 : Int, (∃ a2 : Bool, (∃ a3 : Bool, (∃ a4 : Int, (∃ a5 : Option Addr, (∃ a6 : Nat, (∃ a7 : Nat, (∃ a8 : Option Addr, (∃ a9 : Nat, (∃ b0 : Nat, (∃ b1 : Int, ((b6 = (Value.tuple #[(agg #[(int .i64 G), (int .i64 L), (bool M), (string N), (slice Q R T), (int .i64 U), (bool V), (int .i64 Y), (string Z), (bool a0), (int .i64 a1), (bool a2), (bool a3), (int .i64 a4), (slice a5 a6 a7), (slice a8 a9 b0)]), (int .i64 b1)])) ∧ (EvC Proofs.Tryd.prog w0 16 #[(agg #[(int .i64 e), (int .i64 g), (bool i), (string k), (slice m n o), (int .i64 p), (bool q), (int .i64 r), (string s), (bool t), (int .i64 u), (bool v), (bool x), (int .i64 y), (slice z A B), (slice C D E)]), (agg #[(int .i64 G), (int .i64 L), (bool M), (string N), (slice Q R T), (int .i64 U), (bool V), (int .i64 Y), (string Z), (bool a0), (int .i64 a1), (bool a2), (bool a3), (int .i64 a4), (slice a5 a6 a7), (slice a8 a9 b0)])] (fun b8 d => (∃ b2 : Bool, ((b8 = (bool b2)) ∧ (brB b2 (brB (F == b1) (EvC Proofs.Tryd.prog w0 17 #[] (fun b9 c0 => (∃ b3 : Bool, ((b9 = (bool b3)) ∧ (K (bool b3) c0)))) d) (K (bool false) d)) (K (bool false) d))))) b7)))))))))))))))))))))))))) b5)))))))))))))))))))))))))) h)) :
  f4_18 w0 K a b c h := fun j => LP_intro (P := Proofs.Tryd.prog) (Eq.mp (by kernel_rfl) hv)

theorem f4_go {w0 : World} {K : Value → AH → Prop} (q r : Int) (s : Bool) (t : ByteArray) (u : Option Addr) (v x : Nat) (y : Int) (z : Bool) (A : Int) (B : ByteArray) (C : Bool) (D : Int) (E F : Bool) (G : Int) (L : Option Addr) (M N : Nat) (Q : Option Addr) (R T : Nat) (b : Option Addr) (c d : Nat) (e g : Int) (i : Option Addr) (a k : Nat) (m : Bool) (h : AH)
  (hv : (EvC Proofs.Tryd.prog w0 18 #[(agg #[(int .i64 q), (int .i64 r), (bool s), (string t), (slice u v x), (int .i64 y), (bool z), (int .i64 A), (string B), (bool C), (int .i64 D), (bool E), (bool F), (int .i64 G), (slice L M N), (slice Q R T)])] (fun Z U => (∃ n : Option Addr, (∃ o : Nat, (∃ p : Nat, (∃ V : Int, ((Z = (Value.tuple #[(slice n o p), (int .i64 V)])) ∧ (brB (V != (0 : Int)) (f4_3 w0 K b c d e g i a k m n o p true U) (brB (decide (((1200 : Int) < ((a : Nat) : Int)))) (f4_3 w0 K b c d e g i a k m n o p true U) (EvC Proofs.Tryd.prog w0 19 #[(agg #[(int .i64 q), (int .i64 r), (bool s), (string t), (slice u v x), (int .i64 y), (bool z), (int .i64 A), (string B), (bool C), (int .i64 D), (bool E), (bool F), (int .i64 G), (slice L M N), (slice Q R T)])] (fun a0 a1 => (∃ Y : Bool, ((a0 = (bool Y)) ∧ (f4_3 w0 K b c d e g i a k m n o p (!Y) a1)))) U))))))))) h)) :
  EvC Proofs.Tryd.prog w0 4 ([(.agg #[(.int .i64 q), (.int .i64 r), (.bool s), (.string t), (.slice u v x), (.int .i64 y), (.bool z), (.int .i64 A), (.string B), (.bool C), (.int .i64 D), (.bool E), (.bool F), (.int .i64 G), (.slice L M N), (.slice Q R T)]), (.slice b c d), (.int .u8 e), (.int .i64 g), (.slice i a k), (.bool m)]).toArray K h := EvC_intro (P := Proofs.Tryd.prog) f4_J (Eq.mp (by kernel_rfl) hv)
/-! ### PacketTurned -/
theorem set_u8s (l : List UInt8) (r : Nat) (x : UInt8) : (u8s l).set r (.int .u8 ((x.toNat : Nat) : Int)) = u8s (l.set r x) := by
  unfold u8s
  rw [List.map_set]
theorem wrap_byte (z : Int) : ∃ x : UInt8, IntKind.u8.wrap z = ((x.toNat : Nat) : Int) := by
  have h : 0 ≤ IntKind.u8.wrap z ∧ IntKind.u8.wrap z < 256 := by
    unfold IntKind.wrap; simp [IntKind.signed, IntKind.bits]; omega
  refine ⟨UInt8.ofNat (IntKind.u8.wrap z).toNat, ?_⟩
  rw [UInt8.toNat_ofNat', Nat.mod_eq_of_lt (by omega)]; omega
section
variable {w0 : World} {K : Value → AH → Prop} {c : Nat}
theorem f4_18s {h : AH} {a : Option Addr} {l : List UInt8} {n : Nat} (T : TabOk w0) (hn : n = l.length) (v : SlV 1 a l.length c (u8s l)) (w : Own w0 h (slB a (u8s l) (c * 1) ++ [])) (hl : l.length ≤ 100000) (hk : ∀ h', K (.bool true) h') : f4_18 w0 K a n c h := by
  subst hn
  have r := own_rdr (w0 := w0) v (by omega)
  refine f4_18_in _ _ _ _ (f14_spec T w r (List.subset_append_left ..) fun h1 m e em v1 w1 => ⟨_, _, _, _, _, _, _, _, _, _, _, _, _, _, _, _, _, _, _, _, _, _, _, rfl, f15_spec T w1 r (fun x hx => List.mem_append_right _ (List.mem_append_left _ hx)) fun h2 m2 e2 em2 v2 w2 => ⟨_, _, _, _, _, _, _, _, _, _, _, _, _, _, _, _, _, _, _, _, _, _, _, rfl, ?_⟩⟩)
  have ee := em.trans em2.symm
  have ek : m.key = m2.key := congrArg Prod.fst ee
  have e3 : e = e2 := congrArg Prod.snd ee
  subst e3
  have sm : smallP m.key := by have := decL_small l; rw [← em] at this; exact this
  have sm2 : smallP m2.key := by rw [← ek]; exact sm
  refine f16_spec (v1.rd w2 (fun x hx => List.mem_append_right _ (List.mem_append_left _ hx)) sm) (v2.rd w2 (fun x hx => List.mem_append_left _ hx) sm2) ek ⟨_, rfl, brB_of (fun _ => brB_of (fun _ => f17_spec T w2 fun h3 _ => ⟨_, rfl, hk h3⟩) fun z => by simp at z) fun z => by cases z⟩
theorem f4_14s {h : AH} {a : Option Addr} {l : List UInt8} {n : Nat} {b : Bool} (T : TabOk w0) (hn : n = l.length) (hb : b = true → 2 ≤ n) (v : SlV 1 a l.length c (u8s l)) (w : Own w0 h (slB a (u8s l) (c * 1) ++ [])) (hl : l.length ≤ 50000) (hk : ∀ h', K (.bool true) h') : f4_14 w0 K a n c b h := by
  refine f4_14_in _ _ _ _ _ (brB_of (fun z => ?_) fun _ => f4_18s T hn v w (by omega) hk)
  have n2 := hb z
  subst hn
  have rd := v.rd (cs := []) w
  have cp := v.2.1
  have cut : Rd w0 h (cutA 1 a c 1) (u8s (l.drop 1)) := rd8_cut rd cp (by omega)
  have ld : (l.drop 1).length = l.length - 1 := List.length_drop
  refine ⟨by omega, by omega, ?_⟩
  rw [← ld]
  refine f20_spec cut ⟨_, _, _, rfl, brB_of (fun z => ?_) fun _ => f4_18s T rfl v w (by omega) hk⟩
  have le := lenS_le (l.drop 1)
  generalize lenS (l.drop 1) = q at *
  obtain ⟨qn, u, qe⟩ := q
  dsimp only at z le ⊢
  have e1 : IntKind.i64.wrap (IntKind.i64.wrap (((l.length : Nat) : Int) - 1) - ((u : Nat) : Int)) = ((l.length - 1 - u : Nat) : Int) := by
    rw [wrap64 (x := ((l.length : Nat) : Int) - 1) (by omega) (by omega), wrap64 (by omega) (by omega)]; omega
  have e2 : IntKind.i64.wrap (1 + ((u : Nat) : Int)) = ((1 + u : Nat) : Int) := by rw [wrap64 (by omega) (by omega)]; omega
  rw [e1, e2]
  refine f21_spec w (by omega) fun h2 a2 c2 v2 w2 => ⟨_, _, _, _, rfl, ?_⟩
  obtain ⟨x, t, el⟩ : ∃ x t, l = x :: t := by
    cases l with
    | nil => exact absurd n2 (by simp)
    | cons x t => exact ⟨x, t, rfl⟩
  have rd2 : Rd w0 h2 a (u8s l) := v.rd w2
  obtain ⟨ad, had, hat⟩ := byte_at (i := 0) (x := x) rd2 (by rw [el]; rfl)
  refine ⟨ad, had, by omega, by omega, by omega, by omega, _, hat, ?_⟩
  rw [show [Value.int .u8 ((x.toNat : Nat) : Int)] = u8s [x] from rfl, show (u8s [x]).length = 1 from rfl]
  intro b hb hbn
  have w3 := Own.new (o := .cells (u8s [x]) 1) w2 hb hbn
  have v3 : SlV 1 (some ⟨b, 0, none⟩) [x].length 1 (u8s [x]) := ⟨rfl, Nat.le_refl _, rfl, rfl⟩
  have pl := putV_len10 (n := l.length - 1 - u) (by omega)
  refine rowsOf_of (v2.rd (cs := [_]) w3) (by rw [u8s_length]; omega) ?_
  refine App_bytes v3 (B := slB a2 (u8s (putV (l.length - 1 - u))) (c2 * 1) ++ (slB a (u8s l) (c * 1) ++ [])) w3 (by rw [List.length_singleton]; omega) fun a4 c4 h4 v4 w4 => ?_
  rw [Int.toNat_natCast]
  have rd4 : Rd w0 h4 a (u8s l) := v.rd (cs := slB a4 (u8s ([x] ++ putV (l.length - 1 - u))) (c4 * 1) ++ slB a2 (u8s (putV (l.length - 1 - u))) (c2 * 1)) (by rw [List.append_assoc]; exact w4)
  have ld2 : (l.drop (1 + u)).length = l.length - (1 + u) := List.length_drop
  refine rowsOf_of (rd8_cut rd4 cp (show 1 + u ≤ l.length by omega)) (by rw [u8s_length]; omega) ?_
  have l4 : ([x] ++ putV (l.length - 1 - u)).length = 1 + (putV (l.length - 1 - u)).length := by rw [List.length_append, List.length_singleton]
  rw [← l4, ← ld2]
  refine App_bytes v4 w4 (by rw [l4, ld2]; omega) fun a5 c5 h5 v5 w5 => ?_
  refine f4_18s T List.length_append.symm v5 ?_ (by rw [List.length_append, l4, ld2]; omega) hk
  exact Own.cut (ds := slB a2 (u8s (putV (l.length - 1 - u))) (c2 * 1) ++ slB a (u8s l) (c * 1)) (by simpa only [List.append_assoc] using w5)
theorem f4_12s {h : AH} {a a4 : Option Addr} {l1 l2 more : List UInt8} {n c4 : Nat} {right : Bool} (T : TabOk w0) (hn : n = l1.length) (v : SlV 1 a (l1 ++ l2).length c (u8s (l1 ++ l2))) (w : Own w0 h (slB a (u8s (l1 ++ l2)) (c * 1) ++ [])) (hl : (l1 ++ l2).length ≤ 20000) (hm : Rd0 w0 a4 (u8s more)) (ml : more.length ≤ 1200) (hk : ∀ h', K (.bool true) h') : f4_12 w0 K a4 more.length c4 right a n c h := by
  subst hn
  rw [List.length_append] at hl
  refine f4_12_in _ _ _ _ _ _ _ _ (rowsOf_of (hm.rd h) (by rw [u8s_length]; omega) ?_)
  rw [u8s_app] at v w
  refine App_cut (xs := u8s l1) (zs := u8s l2) (N := (l1 ++ l2).length) v (by rw [u8s_length]; omega) (by rw [List.length_append]; omega) w (by omega) (by omega) (by rw [u8s_length]; omega) (u8s_cell _) fun a' c' h' v' w' => ?_
  rw [← u8s_app] at v' w'
  rw [← List.length_append] at v' ⊢
  cases right with
  | true => exact brB_of (fun _ => f4_14s T rfl (fun z => by have := of_decide_eq_true z; omega) v' w' (by rw [List.length_append]; omega) hk) fun z => by cases z
  | false => exact brB_of (fun z => by cases z) fun _ => f4_14s T rfl (fun z => by cases z) v' w' (by rw [List.length_append]; omega) hk
theorem f4_spec {m : PkM} {a1 a4 : Option Addr} {places : List Int} {x2 x3 : Int} {more : List UInt8} {c4 : Nat} {right : Bool} (T : TabOk w0) (k : m.Ok w0) (hp : Rd0 w0 a1 (ints places)) (pl : places.length ≤ 140737488355328) (hm : Rd0 w0 a4 (u8s more)) (hk : ∀ h', K (.bool true) h') :
    EvC Go.Proofs.Tryd.prog w0 4 #[m.agg, .slice a1 places.length c, .int .u8 x2, .int .i64 x3, .slice a4 more.length c4, .bool right] K (fun _ => none) := by
  have w1 : Own w0 (fun _ => none) [] := Own.nil
  have fin : ∀ h X, Own w0 h X → EvC Go.Proofs.Tryd.prog w0 17 #[] (fun x h29 => ∃ t : Bool, x = .bool t ∧ K (.bool t) h29) h := fun h X w => f17_spec T w fun h6 _ => ⟨_, rfl, hk h6⟩
  have no : ∀ {h X a n d}, Own w0 h X → f4_3 w0 K a1 places.length c x2 x3 a4 more.length c4 right a n d true h := fun w => f4_3_in _ _ _ _ _ _ _ _ _ _ _ _ _ _ (brB_of (fun _ => fin _ _ w) fun z => by cases z)
  have rm : ∀ {Y : List (Nat × AB)} h', Own w0 h' Y → PkRd w0 h' m := fun h' _ => ⟨k.pay.rd h', k.wants.rd h', k.codes.rd h', k.wl, k.kl⟩
  refine f4_go _ _ _ _ _ _ _ _ _ _ _ _ _ _ _ _ _ _ _ _ _ _ _ _ _ _ _ _ _ _ _ _ (f18_spec w1 rm (fun mk h2 a d v w => ⟨_, _, _, _, rfl, brB_of (fun z => by cases z) fun _ => brB_of (fun _ => no w) fun z => ?_⟩) fun _ h2 w2 => ⟨_, _, _, _, rfl, brB_of (fun _ => no w2) fun z => by cases z⟩)
  have ml : more.length ≤ 1200 := by have := of_decide_eq_false z; omega
  refine f19_spec (fun _ => ⟨_, rfl, ?_⟩) ⟨_, rfl, no w⟩
  refine f4_3_in _ _ _ _ _ _ _ _ _ _ _ _ _ _ (brB_of (fun z => by cases z) fun _ => f4_4_in _ _ _ _ _ _ _ _ _ _ _ _ _ ?_)
  have le := enc_le mk
  have ge := enc_two mk
  generalize hB : encP m.key = B at *
  clear hB
  have loop : ∀ (n i : Nat), i + n = places.length → ∀ (l : List UInt8) (h : AH), l.length = B.length → SlV 1 a l.length d (u8s l) → Own w0 h (slB a (u8s l) (d * 1) ++ []) → f4_5 w0 K x2 x3 a4 more.length c4 right a B.length d a1 places.length c ((places.length : Nat) : Int) ((i : Nat) : Int) h := fun n => by
    induction n with
    | zero =>
      intro i hi l h el v w
      refine f4_5_in _ _ _ _ _ _ _ _ _ _ _ _ _ _ _ (brB_of (fun z => by have := of_decide_eq_true z; omega) fun _ => ?_)
      have whole : f4_11 w0 K x3 a4 more.length c4 right a B.length d false h := f4_11_in _ _ _ _ _ _ _ _ _ _ (brB_of (fun z => by cases z) fun _ => f4_12s (l1 := l) (l2 := []) T el.symm (by rw [List.append_nil]; exact v) (by simpa using w) (by rw [List.append_nil]; omega) hm ml hk)
      refine brB_of (fun z => ?_) fun _ => whole
      have z := of_decide_eq_true z
      cases z2 : decide (x3 < ((B.length : Nat) : Int)) with
      | false => exact whole
      | true =>
        have z2 := of_decide_eq_true z2
        obtain ⟨q, eq⟩ : ∃ q : Nat, x3 = ((q : Nat) : Int) := ⟨x3.toNat, by omega⟩
        subst eq
        have cp := v.2.1
        refine f4_11_in _ _ _ _ _ _ _ _ _ _ (brB_of (fun _ => ⟨by omega, by omega, ?_⟩) fun z => by cases z)
        rw [Int.toNat_natCast]
        exact f4_12s (l1 := l.take q) (l2 := l.drop q) T (by rw [List.length_take]; omega) (by rw [List.take_append_drop]; exact v) (by rw [List.take_append_drop]; exact w) (by rw [List.take_append_drop]; omega) hm ml hk
    | succ n ih =>
      intro i hi l h el v w
      obtain ⟨ad, had, hc⟩ := (hp.rd h) _ _ (ints_get (List.getElem?_eq_getElem (show i < places.length by omega)))
      generalize places[i] = pz at *
      refine f4_5_in _ _ _ _ _ _ _ _ _ _ _ _ _ _ _ (brB_of (fun _ => ⟨ad, had, by omega, by omega, pz, ?_, brB_of (fun _ => ?_) fun _ => ?_⟩) fun z => by have := of_decide_eq_false z; omega)
      · rw [Int.toNat_natCast, Nat.mul_one]; exact hc
      · obtain ⟨r, er, hr⟩ := u64_mod pz (n := B.length) (by omega) (by omega)
        rw [er, Int.toNat_natCast, Nat.mul_one]
        have g1 : l[r]? = some (l[r]'(by omega)) := List.getElem?_eq_getElem _
        obtain ⟨bd, hbd, hbt⟩ := byte_at (v.rd (cs := []) w) g1
        rw [Int.toNat_natCast, Nat.mul_one] at hbt
        generalize l[r]'(by omega) = y at *
        obtain ⟨vx, hvx⟩ := wrap_byte (((BitVec.toNat ((BitVec.ofInt 8 ((y.toNat : Nat) : Int)) ^^^ (BitVec.ofInt 8 (IntKind.u8.wrap (x2 + (IntKind.u8.wrap ((i : Nat) : Int))))))) : Nat) : Int)
        subst hbd
        obtain ⟨s1, s2, s3, s4⟩ := v
        have hbd : bd = ⟨bd.block, 0, none⟩ := by obtain ⟨b1, b2, b3⟩ := bd; simp only at s3 s4; subst s3 s4; rfl
        have ea : Addr.add bd r = ⟨bd.block, 0 + r, none⟩ := by rw [hbd, add_plain]
        refine ⟨by rw [wrap64u (by omega) (by omega)]; omega, bd, rfl, by omega, by omega, _, hbt, bd, rfl, by omega, by omega, u8s l, d * 1, by rw [ea]; exact w.ge, by rw [ea], by rw [ea]; exact w.hd, ?_, ?_⟩
        · rw [ea]; show 0 + r + 1 ≤ (u8s l).length
          rw [u8s_length]; omega
        · rw [ea, hvx, wrapS (by omega)]
          have es : setCells (u8s l) (0 + r) [Value.int .u8 ((vx.toNat : Nat) : Int)] = u8s (l.set r vx) := by
            show (u8s l).set (0 + r) _ = _
            rw [Nat.zero_add, set_u8s]
          rw [es]
          exact ih (i + 1) (by omega) (l.set r vx) _ (by rw [List.length_set]; exact el) (by rw [List.length_set]; exact ⟨by rw [u8s_length, List.length_set]; omega, s2, s3, s4⟩) (Own.put w)
      · rw [wrapS (by omega)]
        exact ih (i + 1) (by omega) l h el v w
  exact loop places.length 0 (by omega) B h2 rfl v w
end
end Go.G.YtciepfobnaemmaaDoor
