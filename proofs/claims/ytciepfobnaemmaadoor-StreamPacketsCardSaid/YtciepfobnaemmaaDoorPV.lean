/- May. -/
import Derived.Test.YtciepfobnaemmaaDoorPU
import Derived.Test.YtciepfobnaemmaaDoorProg
set_option maxRecDepth 100000
namespace Go.G.YtciepfobnaemmaaDoor
open Go.RowKit
open Value (string slice int bool agg)
def f55_J : Nat → List Nat × Nat := jOf []



theorem f55_go {w0 : World} {K : Value → AH → Prop} (c : ByteArray) (g : Option Addr) (d i : Nat) (b : Int) (k : Bool) (m : Int) (h : AH)
  (hv : (EvC Proofs.Tryd.prog w0 83 #[(string c)] (fun n a => (∃ e : Bool, ((n = (bool e)) ∧ (brB e (brB (decide ((((d : Nat) : Int) ≤ (256 : Int)))) (brB (decide (((0 : Int) ≤ b))) (K (bool (decide ((b ≤ (2 : Int))))) a) (K (bool false) a)) (K (bool false) a)) (K (bool false) a))))) h)) :
  EvC Proofs.Tryd.prog w0 55 ([(.agg #[(.string c), (.slice g d i), (.int .i64 b), (.bool k), (.int .i64 m)])]).toArray K h := EvC_intro (P := Proofs.Tryd.prog) f55_J (Eq.mp (by kernel_rfl) hv)
def f56_J : Nat → List Nat × Nat := jOf [(2, (rn 7 5 (rn 37 27 [])), 0), (5, (rn 7 5 (rn 27 17 (rn 37 9 []))), 0)]

def f56_2 (w0 : World) (K : Value → AH → Prop) (a : Option Addr) (b c : Nat) (d : Int) (e : Option Addr) (g i : Nat) (k m : Int) (h : AH) : Prop :=
  ∀ j : Nat → Value, LPk Proofs.Tryd.prog w0 (EvC Proofs.Tryd.prog w0) f56_J 56 K 2 (.v (.slice a b c) :: (.v (.int .i64 d) :: (jv j 7 5 (.v (.slice e g i) :: (.v (.int .i64 k) :: (.v (.int .i64 m) :: (jv j 37 27 []))))))) [] h

def f56_5 (w0 : World) (K : Value → AH → Prop) (a : Option Addr) (b c : Nat) (d : Int) (e : Option Addr) (g i : Nat) (k m : Int) (n : Bool) (h : AH) : Prop :=
  ∀ j : Nat → Value, LPk Proofs.Tryd.prog w0 (EvC Proofs.Tryd.prog w0) f56_J 56 K 5 (.v (.slice a b c) :: (.v (.int .i64 d) :: (jv j 7 5 (.v (.slice e g i) :: (.v (.int .i64 k) :: (.v (.int .i64 m) :: (jv j 27 17 (.v (.bool n) :: (jv j 37 9 []))))))))) [] h

theorem f56_2_in {w0 : World} {K : Value → AH → Prop} (i : Option Addr) (b k : Nat) (c : Int) (d : Option Addr) (e m : Nat) (g a : Int) (h : AH)
  (hv : (brB (decide ((a < g))) (∃ q : Addr, ((d = (some q)) ∧ (((0 : Int) ≤ a) ∧ ((a < ((e : Nat) : Int)) ∧ (∃ o : ByteArray, (∃ n : Int, ((((Array.size #[(string o), (int .i64 n)]) = 2) ∧ (At w0 h (Addr.add q ((Int.toNat a) * 2)) [(string o), (int .i64 n)])) ∧ (EvC Proofs.Tryd.prog w0 84 #[(string o)] (fun s p => (∃ r : Bool, ((s = (bool r)) ∧ (brB (!r) (f56_5 w0 K i b k c d e m g a true p) (brB (decide ((n < (0 : Int)))) (f56_5 w0 K i b k c d e m g a true p) (f56_5 w0 K i b k c d e m g a (decide ((c < n))) p)))))) h)))))))) (brB (decide (((1 : Int) ≤ ((b : Nat) : Int)))) (K (bool (decide ((((b : Nat) : Int) ≤ (8 : Int))))) h) (K (bool false) h)))) :
  f56_2 w0 K i b k c d e m g a h := fun j => LP_intro (P := Proofs.Tryd.prog) (Eq.mp (by kernel_rfl) hv)

theorem f56_5_in {w0 : World} {K : Value → AH → Prop} (a : Option Addr) (b c : Nat) (d : Int) (e : Option Addr) (g i : Nat) (k m : Int) (n : Bool) (h : AH)
  (hv : (brB n (K (bool false) h) (f56_2 w0 K a b c d e g i k (IntKind.wrap .i64 (m + (1 : Int))) h))) :
  f56_5 w0 K a b c d e g i k m n h := fun j => LP_intro (P := Proofs.Tryd.prog) (Eq.mp (by kernel_rfl) hv)

theorem f56_go {w0 : World} {K : Value → AH → Prop} (b : Option Addr) (a c : Nat) (d : Int) (h : AH)
  (hv : (f56_2 w0 K b a c d b a c ((a : Nat) : Int) (0 : Int) h)) :
  EvC Proofs.Tryd.prog w0 56 ([(.slice b a c), (.int .i64 d)]).toArray K h := EvC_intro (P := Proofs.Tryd.prog) f56_J (Eq.mp (by kernel_rfl) hv)
def f23_J : Nat → List Nat × Nat := jOf [(2, (0 :: (rn 19 17 (rn 147 127 []))), 1), (3, (0 :: (rn 147 145 [])), 1), (4, (0 :: (rn 43 41 (rn 147 103 []))), 1), (5, (0 :: (rn 147 145 [])), 1), (18, (0 :: (rn 127 125 (rn 147 17 []))), 1)]

def f23_2 (w0 : World) (K : Value → AH → Prop) (a : Bool) (b c : Int) (d : Bool) (e : ByteArray) (g : Option Addr) (i k : Nat) (m : Int) (n : Bool) (o : Int) (p : ByteArray) (q : Bool) (r : Int) (s t : Bool) (u : Int) (x : Option Addr) (y z : Nat) (A : Option Addr) (B C : Nat) (h : AH) : Prop :=
  ∀ j : Nat → Value, LPk Proofs.Tryd.prog w0 (EvC Proofs.Tryd.prog w0) f23_J 23 K 2 (jv j 1 1 (.bp 0 0 :: (jv j 19 17 (.v (.bool a) :: (jv j 147 127 []))))) [some [(.int .i64 b), (.int .i64 c), (.bool d), (.string e), (.slice g i k), (.int .i64 m), (.bool n), (.int .i64 o), (.string p), (.bool q), (.int .i64 r), (.bool s), (.bool t), (.int .i64 u), (.slice x y z), (.slice A B C)]] h

def f23_3 (w0 : World) (K : Value → AH → Prop) (a b : Int) (c : Bool) (d : ByteArray) (e : Option Addr) (g i : Nat) (k : Int) (m : Bool) (n : Int) (o : ByteArray) (p : Bool) (q : Int) (r s : Bool) (t : Int) (u : Option Addr) (x y : Nat) (z : Option Addr) (A B : Nat) (h : AH) : Prop :=
  ∀ j : Nat → Value, LPk Proofs.Tryd.prog w0 (EvC Proofs.Tryd.prog w0) f23_J 23 K 3 (jv j 1 1 (.bp 0 0 :: (jv j 147 145 []))) [some [(.int .i64 a), (.int .i64 b), (.bool c), (.string d), (.slice e g i), (.int .i64 k), (.bool m), (.int .i64 n), (.string o), (.bool p), (.int .i64 q), (.bool r), (.bool s), (.int .i64 t), (.slice u x y), (.slice z A B)]] h

def f23_4 (w0 : World) (K : Value → AH → Prop) (a : Bool) (b c : Int) (d : Bool) (e : ByteArray) (g : Option Addr) (i k : Nat) (m : Int) (n : Bool) (o : Int) (p : ByteArray) (q : Bool) (r : Int) (s t : Bool) (u : Int) (x : Option Addr) (y z : Nat) (A : Option Addr) (B C : Nat) (h : AH) : Prop :=
  ∀ j : Nat → Value, LPk Proofs.Tryd.prog w0 (EvC Proofs.Tryd.prog w0) f23_J 23 K 4 (jv j 1 1 (.bp 0 0 :: (jv j 43 41 (.v (.bool a) :: (jv j 147 103 []))))) [some [(.int .i64 b), (.int .i64 c), (.bool d), (.string e), (.slice g i k), (.int .i64 m), (.bool n), (.int .i64 o), (.string p), (.bool q), (.int .i64 r), (.bool s), (.bool t), (.int .i64 u), (.slice x y z), (.slice A B C)]] h

def f23_5 (w0 : World) (K : Value → AH → Prop) (a b : Int) (c : Bool) (d : ByteArray) (e : Option Addr) (g i : Nat) (k : Int) (m : Bool) (n : Int) (o : ByteArray) (p : Bool) (q : Int) (r s : Bool) (t : Int) (u : Option Addr) (x y : Nat) (z : Option Addr) (A B : Nat) (h : AH) : Prop :=
  ∀ j : Nat → Value, LPk Proofs.Tryd.prog w0 (EvC Proofs.Tryd.prog w0) f23_J 23 K 5 (jv j 1 1 (.bp 0 0 :: (jv j 147 145 []))) [some [(.int .i64 a), (.int .i64 b), (.bool c), (.string d), (.slice e g i), (.int .i64 k), (.bool m), (.int .i64 n), (.string o), (.bool p), (.int .i64 q), (.bool r), (.bool s), (.int .i64 t), (.slice u x y), (.slice z A B)]] h

def f23_18 (w0 : World) (K : Value → AH → Prop) (a : Option Addr) (b c : Nat) (d e : Int) (g i : Int) (k : Bool) (m : ByteArray) (n : Option Addr) (o p : Nat) (q : Int) (r : Bool) (s : Int) (t : ByteArray) (u : Bool) (x : Int) (y z : Bool) (A : Int) (B : Option Addr) (C D : Nat) (E : Option Addr) (F G : Nat) (h : AH) : Prop :=
  ∀ j : Nat → Value, LPk Proofs.Tryd.prog w0 (EvC Proofs.Tryd.prog w0) f23_J 23 K 18 (jv j 1 1 (.bp 0 0 :: (jv j 127 125 (.v (.slice a b c) :: (.v (.int .i64 d) :: (.v (.int .i64 e) :: (jv j 147 17 []))))))) [some [(.int .i64 g), (.int .i64 i), (.bool k), (.string m), (.slice n o p), (.int .i64 q), (.bool r), (.int .i64 s), (.string t), (.bool u), (.int .i64 x), (.bool y), (.bool z), (.int .i64 A), (.slice B C D), (.slice E F G)]] h

theorem f23_2_in {w0 : World} {K : Value → AH → Prop} (a : Bool) (b c : Int) (d : Bool) (e : ByteArray) (g : Option Addr) (i k : Nat) (m : Int) (n : Bool) (o : Int) (p : ByteArray) (q : Bool) (r : Int) (s t : Bool) (u : Int) (v : Option Addr) (x y : Nat) (z : Option Addr) (A B : Nat) (h : AH)
  (hv : (brB a (K (bool false) h) (f23_3 w0 K b c d e g i k m n o p q r s t u v x y z A B h))) :
  f23_2 w0 K a b c d e g i k m n o p q r s t u v x y z A B h := fun j => LP_intro (P := Proofs.Tryd.prog) (Eq.mp (by kernel_rfl) hv)

theorem f23_3_in {w0 : World} {K : Value → AH → Prop} (b a : Int) (d : Bool) (e : ByteArray) (g : Option Addr) (i k : Nat) (c : Int) (m : Bool) (n : Int) (o : ByteArray) (p : Bool) (q : Int) (r s : Bool) (t : Int) (u : Option Addr) (v x : Nat) (y : Option Addr) (z A : Nat) (h : AH)
  (hv : (EvC Proofs.Tryd.prog w0 53 #[(int .i64 b)] (fun D B => (∃ C : Bool, ((D = (bool C)) ∧ (brB C (brB (decide ((a < (1 : Int)))) (f23_4 w0 K true b a d e g i k c m n o p q r s t u v x y z A B) (f23_4 w0 K (decide (((65535 : Int) < a))) b a d e g i k c m n o p q r s t u v x y z A B)) (brB (b == (3 : Int)) (brB (decide (((0 : Int) < c))) (brB (decide ((a < (1 : Int)))) (f23_4 w0 K true b a d e g i k c m n o p q r s t u v x y z A B) (f23_4 w0 K (decide (((65535 : Int) < a))) b a d e g i k c m n o p q r s t u v x y z A B)) (f23_4 w0 K false b a d e g i k c m n o p q r s t u v x y z A B)) (f23_4 w0 K false b a d e g i k c m n o p q r s t u v x y z A B)))))) h)) :
  f23_3 w0 K b a d e g i k c m n o p q r s t u v x y z A h := fun j => LP_intro (P := Proofs.Tryd.prog) (Eq.mp (by kernel_rfl) hv)

theorem f23_4_in {w0 : World} {K : Value → AH → Prop} (a : Bool) (b c : Int) (d : Bool) (e : ByteArray) (g : Option Addr) (i k : Nat) (m : Int) (n : Bool) (o : Int) (p : ByteArray) (q : Bool) (r : Int) (s t : Bool) (u : Int) (v : Option Addr) (x y : Nat) (z : Option Addr) (A B : Nat) (h : AH)
  (hv : (brB a (K (bool false) h) (f23_5 w0 K b c d e g i k m n o p q r s t u v x y z A B h))) :
  f23_4 w0 K a b c d e g i k m n o p q r s t u v x y z A B h := fun j => LP_intro (P := Proofs.Tryd.prog) (Eq.mp (by kernel_rfl) hv)

theorem f23_5_in {w0 : World} {K : Value → AH → Prop} (a C : Int) (t : Bool) (e : ByteArray) (g : Option Addr) (i k : Nat) (c : Int) (m : Bool) (n : Int) (b : ByteArray) (D : Bool) (o : Int) (u v : Bool) (d : Int) (p : Option Addr) (q r : Nat) (x : Option Addr) (s y : Nat) (h : AH)
  (hv : (brB (a == (1 : Int)) (brB (decide (((0 : Int) ≤ o))) (brB (decide ((o ≤ (65535 : Int)))) (brB (decide (((((ByteArray.size b) : Nat) : Int) ≤ (64 : Int)))) (∀ z : Nat, (((ByteArray.size b) ≤ z) → (newB w0 h (AB.cells (intsOf b) z) (fun Q R => (EvC Proofs.Tryd.prog w0 54 #[(slice (some (Addr.mk Q 0 none)) (ByteArray.size b) z)] (fun T A => (∃ E : Bool, ((T = (bool E)) ∧ (brB E (brB (!u) (K (bool true) A) (EvC Proofs.Tryd.prog w0 55 #[(agg #[(string e), (slice g i k), (int .i64 c), (bool m), (int .i64 n)])] (fun U V => (∃ F : Bool, ((U = (bool F)) ∧ (K (bool F) V)))) A)) (K (bool false) A))))) R))))) (K (bool false) h)) (K (bool false) h)) (K (bool false) h)) (brB (a == (2 : Int)) (brB (decide (((0 : Int) ≤ d))) (brB (decide ((d ≤ (5 : Int)))) (brB (!v) (K (bool true) h) (K (bool (d == (0 : Int))) h)) (K (bool false) h)) (K (bool false) h)) (brB (a == (3 : Int)) (EvC Proofs.Tryd.prog w0 55 #[(agg #[(string e), (slice g i k), (int .i64 c), (bool m), (int .i64 n)])] (fun Y B => (∃ L : Bool, ((Y = (bool L)) ∧ (brB L (brB (!t) (K (bool true) B) (K (bool (decide (((0 : Int) < c)))) B)) (K (bool false) B))))) h) (brB (a == (8 : Int)) (EvC Proofs.Tryd.prog w0 56 #[(slice p q r), (int .i64 (2 : Int))] (fun Z a0 => (∃ M : Bool, ((Z = (bool M)) ∧ (K (bool M) a0)))) h) (brB (a == (10 : Int)) (EvC Proofs.Tryd.prog w0 56 #[(slice p q r), (int .i64 (0 : Int))] (fun a1 a2 => (∃ N : Bool, ((a1 = (bool N)) ∧ (K (bool N) a2)))) h) (brB (a == (9 : Int)) (f23_18 w0 K x s y ((s : Nat) : Int) (0 : Int) a C t e g i k c m n b D o u v d p q r x s y h) (K (bool true) h)))))))) :
  f23_5 w0 K a C t e g i k c m n b D o u v d p q r x s y h := fun j => LP_intro (P := Proofs.Tryd.prog) (Eq.mp (by kernel_rfl) hv)

theorem f23_18_in {w0 : World} {K : Value → AH → Prop} (c : Option Addr) (d g : Nat) (e a : Int) (i k : Int) (m : Bool) (n : ByteArray) (o : Option Addr) (p q : Nat) (r : Int) (s : Bool) (t : Int) (u : ByteArray) (v : Bool) (x : Int) (y z : Bool) (A : Int) (B : Option Addr) (C D : Nat) (E : Option Addr) (b F : Nat) (h : AH)
  (hv : (brB (decide ((a < e))) (∃ L : Addr, ((c = (some L)) ∧ (((0 : Int) ≤ a) ∧ ((a < ((d : Nat) : Int)) ∧ (∃ M : Int, (((cellA w0 h (Addr.add L ((Int.toNat a) * 1))) = (some (int .i64 M))) ∧ (EvC Proofs.Tryd.prog w0 57 #[(int .i64 M)] (fun R N => (∃ Q : Bool, ((R = (bool Q)) ∧ (brB (!Q) (K (bool false) N) (f23_18 w0 K c d g e (IntKind.wrap .i64 (a + (1 : Int))) i k m n o p q r s t u v x y z A B C D E b F N))))) h))))))) (brB (decide (((1 : Int) ≤ ((b : Nat) : Int)))) (K (bool (decide ((((b : Nat) : Int) ≤ (8 : Int))))) h) (K (bool false) h)))) :
  f23_18 w0 K c d g e a i k m n o p q r s t u v x y z A B C D E b F h := fun j => LP_intro (P := Proofs.Tryd.prog) (Eq.mp (by kernel_rfl) hv)

theorem f23_go {w0 : World} {K : Value → AH → Prop} (a b : Int) (c : Bool) (d : ByteArray) (e : Option Addr) (g i : Nat) (k : Int) (m : Bool) (n : Int) (o : ByteArray) (p : Bool) (q : Int) (r s : Bool) (t : Int) (u : Option Addr) (v x : Nat) (y : Option Addr) (z A : Nat) (h : AH)
  (hv : (brB (decide ((a < (1 : Int)))) (f23_2 w0 K true a b c d e g i k m n o p q r s t u v x y z A h) (brB (decide (((14 : Int) < a))) (f23_2 w0 K true a b c d e g i k m n o p q r s t u v x y z A h) (EvC Proofs.Tryd.prog w0 52 #[(agg #[(int .i64 a), (int .i64 b), (bool c), (string d), (slice e g i), (int .i64 k), (bool m), (int .i64 n), (string o), (bool p), (int .i64 q), (bool r), (bool s), (int .i64 t), (slice u v x), (slice y z A)])] (fun a7 a8 => (∃ B : Int, (∃ C : Int, (∃ D : Bool, (∃ E : ByteArray, (∃ F : Option Addr, (∃ G : Nat, (∃ L : Nat, (∃ M : Int, (∃ N : Bool, (∃ Q : Int, (∃ R : ByteArray, (∃ T : Bool, (∃ U : Int, (∃ V : Bool, (∃ Y : Bool, (∃ Z : Int, (∃ a0 : Option Addr, (∃ a1 : Nat, (∃ a2 : Nat, (∃ a3 : Option Addr, (∃ a4 : Nat, (∃ a5 : Nat, ((a7 = (agg #[(int .i64 B), (int .i64 C), (bool D), (string E), (slice F G L), (int .i64 M), (bool N), (int .i64 Q), (string R), (bool T), (int .i64 U), (bool V), (bool Y), (int .i64 Z), (slice a0 a1 a2), (slice a3 a4 a5)])) ∧ (EvC Proofs.Tryd.prog w0 51 #[(agg #[(int .i64 a), (int .i64 b), (bool c), (string d), (slice e g i), (int .i64 k), (bool m), (int .i64 n), (string o), (bool p), (int .i64 q), (bool r), (bool s), (int .i64 t), (slice u v x), (slice y z A)]), (agg #[(int .i64 B), (int .i64 C), (bool D), (string E), (slice F G L), (int .i64 M), (bool N), (int .i64 Q), (string R), (bool T), (int .i64 U), (bool V), (bool Y), (int .i64 Z), (slice a0 a1 a2), (slice a3 a4 a5)])] (fun a9 b0 => (∃ a6 : Bool, ((a9 = (bool a6)) ∧ (f23_2 w0 K (!a6) a b c d e g i k m n o p q r s t u v x y z A b0)))) a8))))))))))))))))))))))))) h)))) :
  EvC Proofs.Tryd.prog w0 23 ([(.agg #[(.int .i64 a), (.int .i64 b), (.bool c), (.string d), (.slice e g i), (.int .i64 k), (.bool m), (.int .i64 n), (.string o), (.bool p), (.int .i64 q), (.bool r), (.bool s), (.int .i64 t), (.slice u v x), (.slice y z A)])]).toArray K h := EvC_intro (P := Proofs.Tryd.prog) f23_J (Eq.mp (by kernel_rfl) hv)
/-! ### May: the program's -/
def IdC (m : PkM) : Prop := hasI m.kind = true ∨ (m.kind = 3 ∧ 0 < m.qos) → 1 ≤ m.id ∧ m.id ≤ 65535
def MsgC (m : PkM) : Prop := nameB m.topic = true ∧ m.pay.length ≤ 256 ∧ 0 ≤ m.qos ∧ m.qos ≤ 2
def WantsC (m : PkM) (most : Int) : Prop := 1 ≤ m.wants.length ∧ m.wants.length ≤ 8 ∧ ∀ w ∈ m.wants, filterB w.filter = true ∧ 0 ≤ w.qos ∧ w.qos ≤ most
structure RestC (m : PkM) : Prop where
  con : m.kind = 1 → (0 ≤ m.alive ∧ m.alive ≤ 65535 ∧ m.client.size ≤ 64 ∧ textB m.client.data.toList = true) ∧ (m.will = true → MsgC m)
  ack : m.kind = 2 → 0 ≤ m.code ∧ m.code ≤ 5 ∧ (m.present = true → m.code = 0)
  pub : m.kind = 3 → MsgC m ∧ (m.dup = true → 0 < m.qos)
  sub : m.kind = 8 → WantsC m 2
  uns : m.kind = 10 → WantsC m 0
  suback : m.kind = 9 → 1 ≤ m.codes.length ∧ m.codes.length ≤ 8 ∧ ∀ c ∈ m.codes, (0 ≤ c ∧ c ≤ 2) ∨ c = 128
theorem wants_key {m : PkM} {q : Int} : WantsK (m.wants.map WantM.key) q ↔ WantsC m q := by
  unfold WantsK WantsC
  rw [List.length_map]
  refine and_congr_right fun _ => and_congr_right fun _ => ⟨fun h w hw => h w.key (List.mem_map_of_mem hw), fun h w hw => ?_⟩
  obtain ⟨x, hx, rfl⟩ := List.mem_map.1 hw
  exact h x hx
theorem may_own {m : PkM} (h : MayK m.key) : m.key = (ownM m).key := by
  have a1 := h.kind
  have a2 := h.id
  have a3 := h.msg
  have a4 := h.dup
  have a5 := h.con
  have a6 := h.ack
  have a7 := h.wants
  have a8 := h.codes
  simp only [PkM.key] at a1 a2 a3 a4 a5 a6 a7 a8
  have msgc : (m.kind = 3 ∨ (m.kind = 1 ∧ m.will = true)) ∨ (m.topic = ⟨#[]⟩ ∧ m.pay = [] ∧ m.qos = 0 ∧ m.ret = false) := by
    by_cases c : m.kind = 3 ∨ (m.kind = 1 ∧ m.will = true)
    · exact .inl c
    · exact .inr (a3.2 c)
  have hid : m.id = if hasI m.kind || (decide (m.kind = 3) && decide (0 < m.qos)) then m.id else 0 := by
    split
    · rfl
    · rename_i c
      simp only [hasI, Bool.or_eq_true, Bool.and_eq_true, decide_eq_true_eq] at c
      refine a2.2 fun y => ?_
      rcases y with y | ⟨y1, y2⟩
      · exact c (.inl y)
      · have a3 := a3.1 (.inl y1)
        exact c (.inr ⟨y1, by omega⟩)
  unfold PkM.key ownM
  dsimp only
  rw [Pk.mk.injEq]
  refine ⟨rfl, hid, ?_, ?_, ?_, ?_, ?_, a1.2.2, ?_, ?_, ?_, ?_, ?_, ?_, ?_, ?_⟩
  · split
    · rfl
    · rename_i c
      cases hd : m.dup with
      | false => rfl
      | true => exact absurd (a4 hd).1 c
  · rcases msgc with c | c
    · rw [if_pos c]
    · rw [c.1]; simp
  · rcases msgc with c | c
    · rw [if_pos c]
    · rw [c.2.1]; simp
  · rcases msgc with c | c
    · rw [if_pos c]
    · rw [c.2.2.1]; simp
  · rcases msgc with c | c
    · rw [if_pos c]
    · rw [c.2.2.2]; simp
  · split
    · rfl
    · rename_i c; exact (a5.2 c).1
  · split
    · rfl
    · rename_i c; exact (a5.2 c).2.1
  · split
    · rfl
    · rename_i c; exact (a5.2 c).2.2.1
  · split
    · rfl
    · rename_i c; exact (a5.2 c).2.2.2
  · split
    · rfl
    · rename_i c; exact (a6.2 c).1
  · split
    · rfl
    · rename_i c; exact (a6.2 c).2
  · split
    · rfl
    · rename_i c; rw [a7.2.2 c]; rfl
  · split
    · rfl
    · rename_i c; exact a8.2 c
theorem may_rest {m : PkM} (h : MayK m.key) : IdC m ∧ RestC m := by
  have a1 := h.kind
  have a2 := h.id
  have a3 := h.msg
  have a4 := h.dup
  have a5 := h.con
  have a6 := h.ack
  have a7 := h.wants
  have a8 := h.codes
  simp only [PkM.key] at a1 a2 a3 a4 a5 a6 a7 a8
  refine ⟨fun c => a2.1 ?_, ⟨fun k => ⟨a5.1 k, fun wl => a3.1 (.inr ⟨k, wl⟩)⟩, a6.1, fun k => ⟨a3.1 (.inl k), fun d => ?_⟩, fun k => wants_key.1 (a7.1 k), fun k => wants_key.1 (a7.2.1 k), a8.1⟩⟩
  · rcases c with c | ⟨c1, c2⟩
    · exact .inl (of_decide_eq_true c)
    · exact .inr ⟨c1, by omega⟩
  · have := (a4 d).2
    have := (a3.1 (.inl k)).2.2.1
    omega
theorem may_of {m : PkM} (hk : 1 ≤ m.kind ∧ m.kind ≤ 14) (e : m.key = (ownM m).key) (hi : IdC m) (hr : RestC m) : MayK m.key := by
  unfold PkM.key ownM at e
  dsimp only at e
  rw [Pk.mk.injEq] at e
  obtain ⟨_, e1, e2, e3, e4, e5, e6, e7, e8, e9, e10, e11, e12, e13, e14, e15⟩ := e
  have hmsg : ∀ (c : m.kind = 3 ∨ (m.kind = 1 ∧ m.will = true)), MsgC m := fun c => by
    rcases c with c | ⟨c1, c2⟩
    · exact (hr.pub c).1
    · exact (hr.con c1).2 c2
  refine ⟨⟨hk.1, hk.2, e7⟩, ⟨fun c => hi ?_, fun c => ?_⟩, ⟨hmsg, fun c => ?_⟩, fun d => ?_, ⟨fun c => (hr.con c).1, fun c => ?_⟩, ⟨hr.ack, fun c => ?_⟩, ⟨fun c => wants_key.2 (hr.sub c), fun c => wants_key.2 (hr.uns c), fun c => ?_⟩, ⟨hr.suback, fun c => ?_⟩⟩
  · rcases c with c | ⟨c1, c2⟩
    · exact .inl (decide_eq_true c)
    · have q0 : 0 ≤ m.qos := (hmsg (.inl c1)).2.2.1
      have c2 : m.qos ≠ 0 := c2
      exact .inr ⟨c1, by omega⟩
  · have n : ¬ ((hasI m.kind || (decide (m.kind = 3) && decide (0 < m.qos))) = true) := by
      simp only [hasI, Bool.or_eq_true, Bool.and_eq_true, decide_eq_true_eq]
      rintro (y | ⟨y1, y2⟩)
      · exact c (.inl y)
      · exact c (.inr ⟨y1, fun e => by rw [show m.qos = 0 from e] at y2; omega⟩)
    rw [if_neg n] at e1
    exact e1
  · have c : ¬ (m.kind = 3 ∨ (m.kind = 1 ∧ m.will = true)) := c
    rw [if_neg c] at e3 e4 e5 e6
    exact ⟨e3, e4, e5, e6⟩
  · have d : m.dup = true := d
    by_cases c : m.kind = 3
    · have q0 := (hr.pub c).2 d
      exact ⟨c, fun e => by rw [show m.qos = 0 from e] at q0; omega⟩
    · rw [if_neg c] at e2
      rw [e2] at d; cases d
  · have c : m.kind ≠ 1 := c
    rw [if_neg c] at e8 e9 e10 e11
    exact ⟨e8, e9, e10, e11⟩
  · have c : m.kind ≠ 2 := c
    rw [if_neg c] at e12 e13
    exact ⟨e12, e13⟩
  · have c : ¬ (m.kind = 8 ∨ m.kind = 10) := c
    rw [if_neg c] at e14
    exact e14
  · have c : m.kind ≠ 9 := c
    rw [if_neg c] at e15
    exact e15
section
variable {w0 : World} {K : Value → AH → Prop} {h : AH} {X : List (Nat × AB)}
theorem PkRd.own {m : PkM} (r : PkRd w0 h m) : PkRd w0 h (ownM m) := by
  refine ⟨?_, ?_, ?_, ?_, ?_⟩ <;> unfold ownM <;> dsimp only
  · split
    · exact r.pay
    · exact Rd.nil
  · split
    · exact r.wants
    · exact Rd.nil
  · split
    · exact r.codes
    · exact Rd.nil
  · split
    · exact r.nw
    · exact Nat.zero_le _
  · split
    · exact r.nc
    · exact Nat.zero_le _
theorem f55_spec {m : PkM} (T : TabOk w0) (w : Own w0 h X) (h1 : MsgC m → ∀ h', Own w0 h' X → K (.bool true) h') (h0 : ¬ MsgC m → ∀ h', Own w0 h' X → K (.bool false) h') : EvC Go.Proofs.Tryd.prog w0 55 #[.agg #[.string m.topic, .slice m.pa m.pay.length m.pc, .int .i64 m.qos, .bool m.ret, .int .i64 m.til]] K h := by
  refine f55_go _ _ _ _ _ _ _ _ (f83_spec T w fun h2 w2 => ⟨_, rfl, brB_of (fun z1 => brB_of (fun z2 => brB_of (fun z3 => ?_) fun z => h0 (fun c => ?_) h2 w2) fun z => h0 (fun c => ?_) h2 w2) fun z => h0 (fun c => ?_) h2 w2⟩)
  · have l : m.pay.length ≤ 256 := by have := of_decide_eq_true z2; omega
    have q := of_decide_eq_true z3
    by_cases q2 : m.qos ≤ 2
    · rw [decide_eq_true q2]
      exact h1 ⟨z1, l, q, q2⟩ h2 w2
    · rw [decide_eq_false q2]
      exact h0 (fun c => q2 c.2.2.2) h2 w2
  · exact absurd c.2.2.1 (of_decide_eq_false z)
  · have := c.2.1
    have := of_decide_eq_false z
    omega
  · rw [c.1] at z; cases z
theorem f56_spec {m : PkM} {most : Int} (T : TabOk w0) (w : Own w0 h X) (rm : ∀ h', Own w0 h' X → PkRd w0 h' m) (h1 : WantsC m most → ∀ h', Own w0 h' X → K (.bool true) h') (h0 : ¬ WantsC m most → ∀ h', Own w0 h' X → K (.bool false) h') :
    EvC Go.Proofs.Tryd.prog w0 56 #[.slice m.wa m.wants.length m.wc, .int .i64 most] K h := by
  have nw := (rm h w).nw
  have loop : ∀ (n i : Nat), i + n = m.wants.length → ∀ h', Own w0 h' X → (∀ x ∈ m.wants.take i, filterB x.filter = true ∧ 0 ≤ x.qos ∧ x.qos ≤ most) → f56_2 w0 K m.wa m.wants.length m.wc most m.wa m.wants.length m.wc ((m.wants.length : Nat) : Int) ((i : Nat) : Int) h' := fun n => by
    induction n with
    | zero =>
      intro i hi h' w' ha
      rw [List.take_of_length_le (by omega)] at ha
      refine f56_2_in _ _ _ _ _ _ _ _ _ _ (brB_of (fun z => by have := of_decide_eq_true z; omega) fun _ => brB_of (fun z1 => ?_) fun z1 => h0 (fun c => ?_) h' w')
      · by_cases q : m.wants.length ≤ 8
        · rw [decide_eq_true (by omega)]
          exact h1 ⟨by have := of_decide_eq_true z1; omega, q, ha⟩ h' w'
        · rw [decide_eq_false (by omega)]
          exact h0 (fun c => q c.2.1) h' w'
      · have := c.1
        have := of_decide_eq_false z1
        omega
    | succ n ih =>
      intro i hi h' w' ha
      have g1 : m.wants[i]? = some m.wants[i] := List.getElem?_eq_getElem _
      have hm := List.mem_of_getElem? g1
      obtain ⟨ad, had, hat⟩ := rowLoad (enc := WantM.cells) (k := 2) (fun _ => rfl) (by decide) (rm h' w').wants g1
      have et : m.wants.take (i + 1) = m.wants.take i ++ [m.wants[i]] := List.take_succ_eq_append_getElem (by omega)
      generalize m.wants[i] = x at *
      have bad : ∀ h'', Own w0 h'' X → ¬ (filterB x.filter = true ∧ 0 ≤ x.qos ∧ x.qos ≤ most) → f56_5 w0 K m.wa m.wants.length m.wc most m.wa m.wants.length m.wc ((m.wants.length : Nat) : Int) ((i : Nat) : Int) true h'' := fun h'' w'' nb => f56_5_in _ _ _ _ _ _ _ _ _ _ _ (brB_of (fun _ => h0 (fun c => nb (c.2.2 x hm)) h'' w'') fun z => by cases z)
      refine f56_2_in _ _ _ _ _ _ _ _ _ _ (brB_of (fun _ => ⟨ad, had, by omega, by omega, _, _, ⟨rfl, hat⟩, f84_spec T w' fun h2 w2 => ⟨_, rfl, brB_of (fun z => bad h2 w2 fun c => by rw [c.1] at z; cases z) fun z => brB_of (fun z2 => bad h2 w2 fun c => ?_) fun z2 => ?_⟩⟩) fun z => by have := of_decide_eq_false z; omega)
      · have := of_decide_eq_true z2
        omega
      · have f1 : filterB x.filter = true := by simpa using z
        have q0 := of_decide_eq_false z2
        refine f56_5_in _ _ _ _ _ _ _ _ _ _ _ (brB_of (fun z3 => h0 (fun c => ?_) h2 w2) fun z3 => ?_)
        · have := (c.2.2 x hm).2.2
          have := of_decide_eq_true z3
          omega
        · rw [wrapS (by omega)]
          refine ih (i + 1) (by omega) h2 w2 fun y hy => ?_
          rw [et] at hy
          rcases List.mem_append.1 hy with hy | hy
          · exact ha y hy
          · rw [List.mem_singleton] at hy; subst hy
            have := of_decide_eq_false z3
            exact ⟨f1, by omega, by omega⟩
  exact f56_go _ _ _ _ _ (loop m.wants.length 0 (by omega) h w fun x hx => by cases hx)
theorem f57_specI {c : Int} (hk : K (.bool (decide ((0 ≤ c ∧ c ≤ 2) ∨ c = 128))) h) : EvC Go.Proofs.Tryd.prog w0 57 #[.int .i64 c] K h := by
  have e : (c == 128) = decide (c = 128) := by rw [Bool.eq_iff_iff]; simp
  refine f57_go _ _ (brB_of (fun z0 => brB_of (fun z => ?_) fun z => ?_) fun z => ?_)
  · rw [decide_eq_true (.inl ⟨of_decide_eq_true z0, of_decide_eq_true z⟩)] at hk; exact hk
  · have := of_decide_eq_false z
    rw [e, show decide (c = 128) = decide ((0 ≤ c ∧ c ≤ 2) ∨ c = 128) by rw [decide_eq_decide]; omega]; exact hk
  · have := of_decide_eq_false z
    rw [e, show decide (c = 128) = decide ((0 ≤ c ∧ c ≤ 2) ∨ c = 128) by rw [decide_eq_decide]; omega]; exact hk
/-- May. -/
theorem f23_spec {m : PkM} (T : TabOk w0) (w : Own w0 h X) (rm : ∀ h', Own w0 h' X → PkRd w0 h' m) (h1 : MayK m.key → ∀ h', Own w0 h' X → K (.bool true) h') (h0 : ¬ MayK m.key → ∀ h', Own w0 h' X → K (.bool false) h') :
    EvC Go.Proofs.Tryd.prog w0 23 #[m.agg] K h := by
  have no : ∀ h', Own w0 h' X → ¬ MayK m.key → f23_2 w0 K true m.kind m.id m.dup m.topic m.pa m.pay.length m.pc m.qos m.ret m.til m.client m.clean m.alive m.will m.present m.code m.wa m.wants.length m.wc m.ca m.codes.length m.cc h' := fun h' w' nm => f23_2_in _ _ _ _ _ _ _ _ _ _ _ _ _ _ _ _ _ _ _ _ _ _ _ _ (brB_of (fun _ => h0 nm h' w') fun z => by cases z)
  refine f23_go _ _ _ _ _ _ _ _ _ _ _ _ _ _ _ _ _ _ _ _ _ _ _ (brB_of (fun z => no h w fun c => ?_) fun z1 => brB_of (fun z => no h w fun c => ?_) fun z2 => ?_)
  · have := c.kind.1
    simp only [PkM.key] at this
    have := of_decide_eq_true z
    omega
  · have := c.kind.2.1
    simp only [PkM.key] at this
    have := of_decide_eq_true z
    omega
  have hk : 1 ≤ m.kind ∧ m.kind ≤ 14 := ⟨by have := of_decide_eq_false z1; omega, by have := of_decide_eq_false z2; omega⟩
  refine f52_spec ⟨_, _, _, _, _, _, _, _, _, _, _, _, _, _, _, _, _, _, _, _, _, _, rfl, ?_⟩
  refine f51_spec (y := ownM m) (rm h w) (rm h w).own (fun e => ⟨_, rfl, ?_⟩) fun ne => ⟨_, rfl, no h w fun c => ne (may_own c)⟩
  refine f23_2_in _ _ _ _ _ _ _ _ _ _ _ _ _ _ _ _ _ _ _ _ _ _ _ _ (brB_of (fun z => by cases z) fun _ => f23_3_in _ _ _ _ _ _ _ _ _ _ _ _ _ _ _ _ _ _ _ _ _ _ _ ?_)
  have five : IdC m → ∀ h', Own w0 h' X → f23_5 w0 K m.kind m.id m.dup m.topic m.pa m.pay.length m.pc m.qos m.ret m.til m.client m.clean m.alive m.will m.present m.code m.wa m.wants.length m.wc m.ca m.codes.length m.cc h' := fun hi h' w' => by
    have yes : RestC m → ∀ h', Own w0 h' X → K (.bool true) h' := fun hr => h1 (may_of hk e hi hr)
    have nor : ¬ RestC m → ∀ h', Own w0 h' X → K (.bool false) h' := fun hr => h0 fun c => hr (may_rest c).2
    refine f23_5_in _ _ _ _ _ _ _ _ _ _ _ _ _ _ _ _ _ _ _ _ _ _ _ (brB_of (fun k1 => ?_) fun k1 => brB_of (fun k2 => ?_) fun k2 => brB_of (fun k3 => ?_) fun k3 => brB_of (fun k8 => ?_) fun k8 => brB_of (fun k10 => ?_) fun k10 => brB_of (fun k9 => ?_) fun k9 => ?_)
    · have k1 : m.kind = 1 := by simpa using k1
      have n : ∀ k : Int, k ≠ 1 → m.kind ≠ k := fun k hk => by omega
      have mk : (0 ≤ m.alive ∧ m.alive ≤ 65535 ∧ m.client.size ≤ 64 ∧ textB m.client.data.toList = true) ∧ (m.will = true → MsgC m) → RestC m := fun c => ⟨fun _ => c, fun k => absurd k (n 2 (by decide)), fun k => absurd k (n 3 (by decide)), fun k => absurd k (n 8 (by decide)), fun k => absurd k (n 10 (by decide)), fun k => absurd k (n 9 (by decide))⟩
      refine brB_of (fun a0 => brB_of (fun a1 => brB_of (fun a2 => ?_) fun z => nor (fun c => ?_) h' w') fun z => nor (fun c => absurd (c.con k1).1.2.1 (of_decide_eq_false z)) h' w') fun z => nor (fun c => absurd (c.con k1).1.1 (of_decide_eq_false z)) h' w'
      · have cl : m.client.size ≤ 64 := by have := of_decide_eq_true a2; omega
        have a0 := of_decide_eq_true a0
        have a1 := of_decide_eq_true a1
        have tc := text_conv (K := fun x h'' => ∃ t : Bool, x = .bool t ∧ brB t (brB (!m.will) (K (.bool true) h'') (EvC Go.Proofs.Tryd.prog w0 55 #[.agg #[.string m.topic, .slice m.pa m.pay.length m.pc, .int .i64 m.qos, .bool m.ret, .int .i64 m.til]] (fun x h3 => ∃ t : Bool, x = .bool t ∧ K (.bool t) h3) h'')) (K (.bool false) h'')) (l := m.client.data.toList) T w' fun h2 w2 => ⟨_, rfl, brB_of (fun b1 => brB_of (fun b2 => ?_) fun b2 => ?_) fun z => nor (fun c => by rw [(c.con k1).1.2.2.2] at z; cases z) h2 w2⟩
        · rw [toB_data] at tc
          exact tc
        · have wl : m.will = false := by simpa using b2
          exact yes (mk ⟨⟨a0, a1, cl, b1⟩, fun y => by rw [wl] at y; cases y⟩) h2 w2
        · have wl : m.will = true := by simpa using b2
          exact f55_spec T w2 (fun c h3 w3 => ⟨_, rfl, yes (mk ⟨⟨a0, a1, cl, b1⟩, fun _ => c⟩) h3 w3⟩) fun c h3 w3 => ⟨_, rfl, nor (fun y => c ((y.con k1).2 wl)) h3 w3⟩
      · have := (c.con k1).1.2.2.1
        have := of_decide_eq_false z
        omega
    · have k2 : m.kind = 2 := by simpa using k2
      have n : ∀ k : Int, k ≠ 2 → m.kind ≠ k := fun k hk => by omega
      have mk : (0 ≤ m.code ∧ m.code ≤ 5 ∧ (m.present = true → m.code = 0)) → RestC m := fun c => ⟨fun k => absurd k (n 1 (by decide)), fun _ => c, fun k => absurd k (n 3 (by decide)), fun k => absurd k (n 8 (by decide)), fun k => absurd k (n 10 (by decide)), fun k => absurd k (n 9 (by decide))⟩
      refine brB_of (fun a0 => brB_of (fun a1 => brB_of (fun a2 => ?_) fun a2 => ?_) fun z => nor (fun c => absurd (c.ack k2).2.1 (of_decide_eq_false z)) h' w') fun z => nor (fun c => absurd (c.ack k2).1 (of_decide_eq_false z)) h' w'
      · have p0 : m.present = false := by simpa using a2
        exact yes (mk ⟨of_decide_eq_true a0, of_decide_eq_true a1, fun y => by rw [p0] at y; cases y⟩) h' w'
      · have p1 : m.present = true := by simpa using a2
        by_cases q : m.code = 0
        · rw [q]
          exact yes (mk ⟨of_decide_eq_true a0, of_decide_eq_true a1, fun _ => q⟩) h' w'
        · rw [show (m.code == 0) = false by simpa using q]
          exact nor (fun c => q ((c.ack k2).2.2 p1)) h' w'
    · have k3 : m.kind = 3 := by simpa using k3
      have n : ∀ k : Int, k ≠ 3 → m.kind ≠ k := fun k hk => by omega
      have mk : MsgC m ∧ (m.dup = true → 0 < m.qos) → RestC m := fun c => ⟨fun k => absurd k (n 1 (by decide)), fun k => absurd k (n 2 (by decide)), fun _ => c, fun k => absurd k (n 8 (by decide)), fun k => absurd k (n 10 (by decide)), fun k => absurd k (n 9 (by decide))⟩
      refine f55_spec T w' (fun c h3 w3 => ⟨_, rfl, brB_of (fun _ => brB_of (fun a => yes (mk ⟨c, fun y => by rw [y] at a; cases a⟩) h3 w3) fun a => ?_) fun z => by cases z⟩) fun c h3 w3 => ⟨_, rfl, brB_of (fun z => by cases z) fun _ => nor (fun y => c (y.pub k3).1) h3 w3⟩
      have d1 : m.dup = true := by simpa using a
      by_cases q : 0 < m.qos
      · rw [decide_eq_true q]; exact yes (mk ⟨c, fun _ => q⟩) h3 w3
      · rw [decide_eq_false q]; exact nor (fun y => q ((y.pub k3).2 d1)) h3 w3
    · have k8 : m.kind = 8 := by simpa using k8
      have n : ∀ k : Int, k ≠ 8 → m.kind ≠ k := fun k hk => by omega
      refine f56_spec T w' rm (fun c h3 w3 => ⟨_, rfl, yes ⟨fun k => absurd k (n 1 (by decide)), fun k => absurd k (n 2 (by decide)), fun k => absurd k (n 3 (by decide)), fun _ => c, fun k => absurd k (n 10 (by decide)), fun k => absurd k (n 9 (by decide))⟩ h3 w3⟩) fun c h3 w3 => ⟨_, rfl, nor (fun y => c (y.sub k8)) h3 w3⟩
    · have k10 : m.kind = 10 := by simpa using k10
      have n : ∀ k : Int, k ≠ 10 → m.kind ≠ k := fun k hk => by omega
      refine f56_spec T w' rm (fun c h3 w3 => ⟨_, rfl, yes ⟨fun k => absurd k (n 1 (by decide)), fun k => absurd k (n 2 (by decide)), fun k => absurd k (n 3 (by decide)), fun k => absurd k (n 8 (by decide)), fun _ => c, fun k => absurd k (n 9 (by decide))⟩ h3 w3⟩) fun c h3 w3 => ⟨_, rfl, nor (fun y => c (y.uns k10)) h3 w3⟩
    · have k9 : m.kind = 9 := by simpa using k9
      have n : ∀ k : Int, k ≠ 9 → m.kind ≠ k := fun k hk => by omega
      have mk : (1 ≤ m.codes.length ∧ m.codes.length ≤ 8 ∧ ∀ c ∈ m.codes, (0 ≤ c ∧ c ≤ 2) ∨ c = 128) → RestC m := fun c => ⟨fun k => absurd k (n 1 (by decide)), fun k => absurd k (n 2 (by decide)), fun k => absurd k (n 3 (by decide)), fun k => absurd k (n 8 (by decide)), fun k => absurd k (n 10 (by decide)), fun _ => c⟩
      have nc := (rm h' w').nc
      have loop : ∀ (n i : Nat), i + n = m.codes.length → (∀ x ∈ m.codes.take i, (0 ≤ x ∧ x ≤ 2) ∨ x = 128) → f23_18 w0 K m.ca m.codes.length m.cc ((m.codes.length : Nat) : Int) ((i : Nat) : Int) m.kind m.id m.dup m.topic m.pa m.pay.length m.pc m.qos m.ret m.til m.client m.clean m.alive m.will m.present m.code m.wa m.wants.length m.wc m.ca m.codes.length m.cc h' := fun n => by
        induction n with
        | zero =>
          intro i hi ha
          rw [List.take_of_length_le (by omega)] at ha
          refine f23_18_in _ _ _ _ _ _ _ _ _ _ _ _ _ _ _ _ _ _ _ _ _ _ _ _ _ _ _ _ (brB_of (fun z => by have := of_decide_eq_true z; omega) fun _ => brB_of (fun z1 => ?_) fun z1 => nor (fun c => ?_) h' w')
          · by_cases q : m.codes.length ≤ 8
            · rw [decide_eq_true (by omega)]
              exact yes (mk ⟨by have := of_decide_eq_true z1; omega, q, ha⟩) h' w'
            · rw [decide_eq_false (by omega)]
              exact nor (fun c => q (c.suback k9).2.1) h' w'
          · have := (c.suback k9).1
            have := of_decide_eq_false z1
            omega
        | succ n ih =>
          intro i hi ha
          have g1 : m.codes[i]? = some m.codes[i] := List.getElem?_eq_getElem _
          have hm := List.mem_of_getElem? g1
          obtain ⟨ad, had, hc⟩ := (rm h' w').codes _ _ (ints_get g1)
          have et : m.codes.take (i + 1) = m.codes.take i ++ [m.codes[i]] := List.take_succ_eq_append_getElem (by omega)
          generalize m.codes[i] = x at *
          refine f23_18_in _ _ _ _ _ _ _ _ _ _ _ _ _ _ _ _ _ _ _ _ _ _ _ _ _ _ _ _ (brB_of (fun _ => ⟨ad, had, by omega, by omega, _, by rw [Int.toNat_natCast, Nat.mul_one]; exact hc, f57_specI ⟨_, rfl, brB_of (fun z => nor (fun c => ?_) h' w') fun z => ?_⟩⟩) fun z => by have := of_decide_eq_false z; omega)
          · have := (c.suback k9).2.2 x hm
            rw [decide_eq_true this] at z; cases z
          · rw [wrapS (by omega)]
            refine ih (i + 1) (by omega) fun y hy => ?_
            rw [et] at hy
            rcases List.mem_append.1 hy with hy | hy
            · exact ha y hy
            · rw [List.mem_singleton] at hy; subst hy
              have z' : decide ((0 ≤ y ∧ y ≤ 2) ∨ y = 128) = true := by rw [← Bool.not_not (decide _), z]; rfl
              exact of_decide_eq_true z'
      exact loop m.codes.length 0 (by omega) fun x hx => by cases hx
    · have k1 : m.kind ≠ 1 := by simpa using k1
      have k2 : m.kind ≠ 2 := by simpa using k2
      have k3 : m.kind ≠ 3 := by simpa using k3
      have k8 : m.kind ≠ 8 := by simpa using k8
      have k9 : m.kind ≠ 9 := by simpa using k9
      have k10 : m.kind ≠ 10 := by simpa using k10
      exact yes ⟨fun k => absurd k k1, fun k => absurd k k2, fun k => absurd k k3, fun k => absurd k k8, fun k => absurd k k10, fun k => absurd k k9⟩ h' w'
  have four : ∀ t, (t = true → ¬ IdC m) → (t = false → IdC m) → f23_4 w0 K t m.kind m.id m.dup m.topic m.pa m.pay.length m.pc m.qos m.ret m.til m.client m.clean m.alive m.will m.present m.code m.wa m.wants.length m.wc m.ca m.codes.length m.cc h := fun t t1 t0 => f23_4_in _ _ _ _ _ _ _ _ _ _ _ _ _ _ _ _ _ _ _ _ _ _ _ _ (brB_of (fun z => h0 (fun c => t1 z (may_rest c).1) h w) fun z => five (t0 z) h w)
  have rng : ∀ t, (hasI m.kind = true ∨ (m.kind = 3 ∧ 0 < m.qos)) → t = (decide (m.id < 1) || decide (65535 < m.id)) → f23_4 w0 K t m.kind m.id m.dup m.topic m.pa m.pay.length m.pc m.qos m.ret m.til m.client m.clean m.alive m.will m.present m.code m.wa m.wants.length m.wc m.ca m.codes.length m.cc h := fun t c ht => four t (fun z y => by
    have := y c
    rw [ht] at z
    simp at z
    omega) fun z _ => by
    rw [ht] at z
    simp at z
    omega
  have free : ¬ (hasI m.kind = true ∨ (m.kind = 3 ∧ 0 < m.qos)) → f23_4 w0 K false m.kind m.id m.dup m.topic m.pa m.pay.length m.pc m.qos m.ret m.til m.client m.clean m.alive m.will m.present m.code m.wa m.wants.length m.wc m.ca m.codes.length m.cc h := fun c => four false (fun z => by cases z) fun _ y => absurd y c
  refine f53_specI ⟨_, rfl, brB_of (fun z => brB_of (fun y => rng _ (.inl z) (by rw [y]; rfl)) fun y => rng _ (.inl z) (by rw [y]; rfl)) fun z => brB_of (fun k3 => brB_of (fun q => ?_) fun q => free ?_) fun k3 => free ?_⟩
  · have k3 : m.kind = 3 := by simpa using k3
    have q := of_decide_eq_true q
    exact brB_of (fun y => rng _ (.inr ⟨k3, q⟩) (by rw [y]; rfl)) fun y => rng _ (.inr ⟨k3, q⟩) (by rw [y]; rfl)
  · rintro (y | y)
    · rw [y] at z; cases z
    · exact absurd y.2 (of_decide_eq_false q)
  · rintro (y | y)
    · rw [y] at z; cases z
    · rw [y.1] at k3; cases k3
end
end Go.G.YtciepfobnaemmaaDoor
