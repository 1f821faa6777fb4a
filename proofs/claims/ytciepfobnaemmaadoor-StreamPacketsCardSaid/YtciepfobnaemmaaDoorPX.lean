/- The document's May. -/
import Derived.Test.YtciepfobnaemmaaDoorPV
import Derived.Test.YtciepfobnaemmaaDoorProg
set_option maxRecDepth 100000
namespace Go.G.YtciepfobnaemmaaDoor
open Go.RowKit
open Value (string slice int bool agg)
def f61_J : Nat → List Nat × Nat := jOf [(2, (0 :: (2 :: (rn 120 116 []))), 1), (3, (0 :: (rn 39 37 (rn 120 80 []))), 1), (4, (0 :: (rn 120 118 [])), 1), (5, (0 :: (rn 41 39 (rn 120 76 []))), 1), (8, (0 :: (rn 41 39 (rn 70 26 (rn 120 49 [])))), 1), (12, (0 :: (rn 97 95 (rn 120 22 []))), 1), (13, (0 :: (rn 120 118 [])), 1), (14, (rn 99 99 (rn 120 18 [])), 0), (17, (rn 99 99 (rn 118 16 [119])), 0)]

def f61_2 (w0 : World) (K : Value → AH → Prop) (a : Bool) (b c : Int) (d : Bool) (e : ByteArray) (g : Option Addr) (i k : Nat) (m : Int) (n : Bool) (o : Int) (p : ByteArray) (q : Bool) (r : Int) (s t : Bool) (u : Int) (x : Option Addr) (y z : Nat) (A : Option Addr) (B C : Nat) (h : AH) : Prop :=
  ∀ j : Nat → Value, LPk Proofs.Tryd.prog w0 (EvC Proofs.Tryd.prog w0) f61_J 61 K 2 (jv j 1 1 (.bp 0 0 :: (jv j 3 1 (.v (.bool a) :: (jv j 120 116 []))))) [some [(.int .i64 b), (.int .i64 c), (.bool d), (.string e), (.slice g i k), (.int .i64 m), (.bool n), (.int .i64 o), (.string p), (.bool q), (.int .i64 r), (.bool s), (.bool t), (.int .i64 u), (.slice x y z), (.slice A B C)]] h

def f61_3 (w0 : World) (K : Value → AH → Prop) (a : Bool) (b c : Int) (d : Bool) (e : ByteArray) (g : Option Addr) (i k : Nat) (m : Int) (n : Bool) (o : Int) (p : ByteArray) (q : Bool) (r : Int) (s t : Bool) (u : Int) (x : Option Addr) (y z : Nat) (A : Option Addr) (B C : Nat) (h : AH) : Prop :=
  ∀ j : Nat → Value, LPk Proofs.Tryd.prog w0 (EvC Proofs.Tryd.prog w0) f61_J 61 K 3 (jv j 1 1 (.bp 0 0 :: (jv j 39 37 (.v (.bool a) :: (jv j 120 80 []))))) [some [(.int .i64 b), (.int .i64 c), (.bool d), (.string e), (.slice g i k), (.int .i64 m), (.bool n), (.int .i64 o), (.string p), (.bool q), (.int .i64 r), (.bool s), (.bool t), (.int .i64 u), (.slice x y z), (.slice A B C)]] h

def f61_4 (w0 : World) (K : Value → AH → Prop) (a b : Int) (c : Bool) (d : ByteArray) (e : Option Addr) (g i : Nat) (k : Int) (m : Bool) (n : Int) (o : ByteArray) (p : Bool) (q : Int) (r s : Bool) (t : Int) (u : Option Addr) (x y : Nat) (z : Option Addr) (A B : Nat) (h : AH) : Prop :=
  ∀ j : Nat → Value, LPk Proofs.Tryd.prog w0 (EvC Proofs.Tryd.prog w0) f61_J 61 K 4 (jv j 1 1 (.bp 0 0 :: (jv j 120 118 []))) [some [(.int .i64 a), (.int .i64 b), (.bool c), (.string d), (.slice e g i), (.int .i64 k), (.bool m), (.int .i64 n), (.string o), (.bool p), (.int .i64 q), (.bool r), (.bool s), (.int .i64 t), (.slice u x y), (.slice z A B)]] h

def f61_5 (w0 : World) (K : Value → AH → Prop) (a : Option Addr) (b c : Nat) (d e : Int) (g i : Int) (k : Bool) (m : ByteArray) (n : Option Addr) (o p : Nat) (q : Int) (r : Bool) (s : Int) (t : ByteArray) (u : Bool) (x : Int) (y z : Bool) (A : Int) (B : Option Addr) (C D : Nat) (E : Option Addr) (F G : Nat) (h : AH) : Prop :=
  ∀ j : Nat → Value, LPk Proofs.Tryd.prog w0 (EvC Proofs.Tryd.prog w0) f61_J 61 K 5 (jv j 1 1 (.bp 0 0 :: (jv j 41 39 (.v (.slice a b c) :: (.v (.int .i64 d) :: (.v (.int .i64 e) :: (jv j 120 76 []))))))) [some [(.int .i64 g), (.int .i64 i), (.bool k), (.string m), (.slice n o p), (.int .i64 q), (.bool r), (.int .i64 s), (.string t), (.bool u), (.int .i64 x), (.bool y), (.bool z), (.int .i64 A), (.slice B C D), (.slice E F G)]] h

def f61_8 (w0 : World) (K : Value → AH → Prop) (a : Option Addr) (b c : Nat) (d e : Int) (g : Bool) (i k : Int) (m : Bool) (n : ByteArray) (o : Option Addr) (p q : Nat) (r : Int) (s : Bool) (t : Int) (u : ByteArray) (x : Bool) (y : Int) (z A : Bool) (B : Int) (C : Option Addr) (D E : Nat) (F : Option Addr) (G L : Nat) (h : AH) : Prop :=
  ∀ j : Nat → Value, LPk Proofs.Tryd.prog w0 (EvC Proofs.Tryd.prog w0) f61_J 61 K 8 (jv j 1 1 (.bp 0 0 :: (jv j 41 39 (.v (.slice a b c) :: (.v (.int .i64 d) :: (.v (.int .i64 e) :: (jv j 70 26 (.v (.bool g) :: (jv j 120 49 []))))))))) [some [(.int .i64 i), (.int .i64 k), (.bool m), (.string n), (.slice o p q), (.int .i64 r), (.bool s), (.int .i64 t), (.string u), (.bool x), (.int .i64 y), (.bool z), (.bool A), (.int .i64 B), (.slice C D E), (.slice F G L)]] h

def f61_12 (w0 : World) (K : Value → AH → Prop) (a : Bool) (b c : Int) (d : Bool) (e : ByteArray) (g : Option Addr) (i k : Nat) (m : Int) (n : Bool) (o : Int) (p : ByteArray) (q : Bool) (r : Int) (s t : Bool) (u : Int) (x : Option Addr) (y z : Nat) (A : Option Addr) (B C : Nat) (h : AH) : Prop :=
  ∀ j : Nat → Value, LPk Proofs.Tryd.prog w0 (EvC Proofs.Tryd.prog w0) f61_J 61 K 12 (jv j 1 1 (.bp 0 0 :: (jv j 97 95 (.v (.bool a) :: (jv j 120 22 []))))) [some [(.int .i64 b), (.int .i64 c), (.bool d), (.string e), (.slice g i k), (.int .i64 m), (.bool n), (.int .i64 o), (.string p), (.bool q), (.int .i64 r), (.bool s), (.bool t), (.int .i64 u), (.slice x y z), (.slice A B C)]] h

def f61_13 (w0 : World) (K : Value → AH → Prop) (a b : Int) (c : Bool) (d : ByteArray) (e : Option Addr) (g i : Nat) (k : Int) (m : Bool) (n : Int) (o : ByteArray) (p : Bool) (q : Int) (r s : Bool) (t : Int) (u : Option Addr) (x y : Nat) (z : Option Addr) (A B : Nat) (h : AH) : Prop :=
  ∀ j : Nat → Value, LPk Proofs.Tryd.prog w0 (EvC Proofs.Tryd.prog w0) f61_J 61 K 13 (jv j 1 1 (.bp 0 0 :: (jv j 120 118 []))) [some [(.int .i64 a), (.int .i64 b), (.bool c), (.string d), (.slice e g i), (.int .i64 k), (.bool m), (.int .i64 n), (.string o), (.bool p), (.int .i64 q), (.bool r), (.bool s), (.int .i64 t), (.slice u x y), (.slice z A B)]] h

def f61_14 (w0 : World) (K : Value → AH → Prop) (a : Option Addr) (b c : Nat) (d e : Int) (h : AH) : Prop :=
  ∀ j : Nat → Value, LPk Proofs.Tryd.prog w0 (EvC Proofs.Tryd.prog w0) f61_J 61 K 14 (jv j 99 99 (.v (.slice a b c) :: (.v (.int .i64 d) :: (.v (.int .i64 e) :: (jv j 120 18 []))))) [] h

def f61_17 (w0 : World) (K : Value → AH → Prop) (a : Option Addr) (b c : Nat) (d e : Int) (g : Bool) (h : AH) : Prop :=
  ∀ j : Nat → Value, LPk Proofs.Tryd.prog w0 (EvC Proofs.Tryd.prog w0) f61_J 61 K 17 (jv j 99 99 (.v (.slice a b c) :: (.v (.int .i64 d) :: (.v (.int .i64 e) :: (jv j 118 16 (.v (.bool g) :: (jv j 120 1 []))))))) [] h

theorem f61_2_in {w0 : World} {K : Value → AH → Prop} (B : Bool) (b c : Int) (d : Bool) (e : ByteArray) (g : Option Addr) (i k : Nat) (m : Int) (n : Bool) (o : Int) (p : ByteArray) (q : Bool) (r : Int) (s t : Bool) (u : Int) (v : Option Addr) (a x : Nat) (y : Option Addr) (z A : Nat) (h : AH)
  (hv : (brB B (brB (decide ((((a : Nat) : Int) < (1 : Int)))) (f61_3 w0 K true b c d e g i k m n o p q r s t u v a x y z A h) (brB (decide (((8 : Int) < ((a : Nat) : Int)))) (f61_3 w0 K true b c d e g i k m n o p q r s t u v a x y z A h) (brB (!B) (f61_3 w0 K (decide (((0 : Int) < ((a : Nat) : Int)))) b c d e g i k m n o p q r s t u v a x y z A h) (f61_3 w0 K false b c d e g i k m n o p q r s t u v a x y z A h)))) (brB (!B) (f61_3 w0 K (decide (((0 : Int) < ((a : Nat) : Int)))) b c d e g i k m n o p q r s t u v a x y z A h) (f61_3 w0 K false b c d e g i k m n o p q r s t u v a x y z A h)))) :
  f61_2 w0 K B b c d e g i k m n o p q r s t u v a x y z A h := fun j => LP_intro (P := Proofs.Tryd.prog) (Eq.mp (by kernel_rfl) hv)

theorem f61_3_in {w0 : World} {K : Value → AH → Prop} (a : Bool) (b c : Int) (d : Bool) (e : ByteArray) (g : Option Addr) (i k : Nat) (m : Int) (n : Bool) (o : Int) (p : ByteArray) (q : Bool) (r : Int) (s t : Bool) (u : Int) (v : Option Addr) (x y : Nat) (z : Option Addr) (A B : Nat) (h : AH)
  (hv : (brB a (K (bool false) h) (f61_4 w0 K b c d e g i k m n o p q r s t u v x y z A B h))) :
  f61_3 w0 K a b c d e g i k m n o p q r s t u v x y z A B h := fun j => LP_intro (P := Proofs.Tryd.prog) (Eq.mp (by kernel_rfl) hv)

theorem f61_4_in {w0 : World} {K : Value → AH → Prop} (d e : Int) (g : Bool) (i : ByteArray) (k : Option Addr) (m n : Nat) (o : Int) (p : Bool) (q : Int) (r : ByteArray) (s : Bool) (t : Int) (u v : Bool) (x : Int) (b : Option Addr) (a c : Nat) (y : Option Addr) (z A : Nat) (h : AH)
  (hv : (f61_5 w0 K b a c ((a : Nat) : Int) (0 : Int) d e g i k m n o p q r s t u v x b a c y z A h)) :
  f61_4 w0 K d e g i k m n o p q r s t u v x b a c y z A h := fun j => LP_intro (P := Proofs.Tryd.prog) (Eq.mp (by kernel_rfl) hv)

theorem f61_5_in {w0 : World} {K : Value → AH → Prop} (C : Option Addr) (D F : Nat) (E B : Int) (a c : Int) (d : Bool) (e : ByteArray) (g : Option Addr) (i k : Nat) (m : Int) (n : Bool) (o : Int) (p : ByteArray) (q : Bool) (r : Int) (s t : Bool) (u : Int) (v : Option Addr) (x y : Nat) (z : Option Addr) (b A : Nat) (h : AH)
  (hv : (brB (decide ((B < E))) (∃ N : Addr, ((C = (some N)) ∧ (((0 : Int) ≤ B) ∧ ((B < ((D : Nat) : Int)) ∧ (∃ M : ByteArray, (∃ G : Int, ((((Array.size #[(string M), (int .i64 G)]) = 2) ∧ (At w0 h (Addr.add N ((Int.toNat B) * 2)) [(string M), (int .i64 G)])) ∧ (EvC Proofs.Tryd.prog w0 72 #[(string M)] (fun R L => (∃ Q : Bool, ((R = (bool Q)) ∧ (brB (!Q) (f61_8 w0 K C D F E B true a c d e g i k m n o p q r s t u v x y z b A L) (brB (decide ((G < (0 : Int)))) (f61_8 w0 K C D F E B true a c d e g i k m n o p q r s t u v x y z b A L) (brB (decide (((2 : Int) < G))) (f61_8 w0 K C D F E B true a c d e g i k m n o p q r s t u v x y z b A L) (brB (a == (10 : Int)) (f61_8 w0 K C D F E B (G != (0 : Int)) a c d e g i k m n o p q r s t u v x y z b A L) (f61_8 w0 K C D F E B false a c d e g i k m n o p q r s t u v x y z b A L)))))))) h)))))))) (brB (a == (9 : Int)) (brB (decide ((((b : Nat) : Int) < (1 : Int)))) (f61_12 w0 K true a c d e g i k m n o p q r s t u v x y z b A h) (brB (decide (((8 : Int) < ((b : Nat) : Int)))) (f61_12 w0 K true a c d e g i k m n o p q r s t u v x y z b A h) (brB (!(a == (9 : Int))) (f61_12 w0 K (decide (((0 : Int) < ((b : Nat) : Int)))) a c d e g i k m n o p q r s t u v x y z b A h) (f61_12 w0 K false a c d e g i k m n o p q r s t u v x y z b A h)))) (brB (!(a == (9 : Int))) (f61_12 w0 K (decide (((0 : Int) < ((b : Nat) : Int)))) a c d e g i k m n o p q r s t u v x y z b A h) (f61_12 w0 K false a c d e g i k m n o p q r s t u v x y z b A h))))) :
  f61_5 w0 K C D F E B a c d e g i k m n o p q r s t u v x y z b A h := fun j => LP_intro (P := Proofs.Tryd.prog) (Eq.mp (by kernel_rfl) hv)

theorem f61_8_in {w0 : World} {K : Value → AH → Prop} (a : Option Addr) (b c : Nat) (d e : Int) (g : Bool) (i k : Int) (m : Bool) (n : ByteArray) (o : Option Addr) (p q : Nat) (r : Int) (s : Bool) (t : Int) (u : ByteArray) (v : Bool) (x : Int) (y z : Bool) (A : Int) (B : Option Addr) (C D : Nat) (E : Option Addr) (F G : Nat) (h : AH)
  (hv : (brB g (K (bool false) h) (f61_5 w0 K a b c d (IntKind.wrap .i64 (e + (1 : Int))) i k m n o p q r s t u v x y z A B C D E F G h))) :
  f61_8 w0 K a b c d e g i k m n o p q r s t u v x y z A B C D E F G h := fun j => LP_intro (P := Proofs.Tryd.prog) (Eq.mp (by kernel_rfl) hv)

theorem f61_12_in {w0 : World} {K : Value → AH → Prop} (a : Bool) (b c : Int) (d : Bool) (e : ByteArray) (g : Option Addr) (i k : Nat) (m : Int) (n : Bool) (o : Int) (p : ByteArray) (q : Bool) (r : Int) (s t : Bool) (u : Int) (v : Option Addr) (x y : Nat) (z : Option Addr) (A B : Nat) (h : AH)
  (hv : (brB a (K (bool false) h) (f61_13 w0 K b c d e g i k m n o p q r s t u v x y z A B h))) :
  f61_12 w0 K a b c d e g i k m n o p q r s t u v x y z A B h := fun j => LP_intro (P := Proofs.Tryd.prog) (Eq.mp (by kernel_rfl) hv)

theorem f61_13_in {w0 : World} {K : Value → AH → Prop} (d e : Int) (g : Bool) (i : ByteArray) (k : Option Addr) (m n : Nat) (o : Int) (p : Bool) (q : Int) (r : ByteArray) (s : Bool) (t : Int) (u v : Bool) (x : Int) (y : Option Addr) (z A : Nat) (b : Option Addr) (a c : Nat) (h : AH)
  (hv : (f61_14 w0 K b a c ((a : Nat) : Int) (0 : Int) h)) :
  f61_13 w0 K d e g i k m n o p q r s t u v x y z A b a c h := fun j => LP_intro (P := Proofs.Tryd.prog) (Eq.mp (by kernel_rfl) hv)

theorem f61_14_in {w0 : World} {K : Value → AH → Prop} (b : Option Addr) (c e : Nat) (d a : Int) (h : AH)
  (hv : (brB (decide ((a < d))) (∃ i : Addr, ((b = (some i)) ∧ (((0 : Int) ≤ a) ∧ ((a < ((c : Nat) : Int)) ∧ (∃ g : Int, (((cellA w0 h (Addr.add i ((Int.toNat a) * 1))) = (some (int .i64 g))) ∧ (brB (g != (0 : Int)) (brB (g != (1 : Int)) (brB (g != (2 : Int)) (f61_17 w0 K b c e d a (g != (128 : Int)) h) (f61_17 w0 K b c e d a false h)) (f61_17 w0 K b c e d a false h)) (f61_17 w0 K b c e d a false h)))))))) (K (bool true) h))) :
  f61_14 w0 K b c e d a h := fun j => LP_intro (P := Proofs.Tryd.prog) (Eq.mp (by kernel_rfl) hv)

theorem f61_17_in {w0 : World} {K : Value → AH → Prop} (a : Option Addr) (b c : Nat) (d e : Int) (g : Bool) (h : AH)
  (hv : (brB g (K (bool false) h) (f61_14 w0 K a b c d (IntKind.wrap .i64 (e + (1 : Int))) h))) :
  f61_17 w0 K a b c d e g h := fun j => LP_intro (P := Proofs.Tryd.prog) (Eq.mp (by kernel_rfl) hv)

theorem f61_go {w0 : World} {K : Value → AH → Prop} (a b : Int) (c : Bool) (d : ByteArray) (e : Option Addr) (g i : Nat) (k : Int) (m : Bool) (n : Int) (o : ByteArray) (p : Bool) (q : Int) (r s : Bool) (t : Int) (u : Option Addr) (v x : Nat) (y : Option Addr) (z A : Nat) (h : AH)
  (hv : (brB (a == (8 : Int)) (f61_2 w0 K true a b c d e g i k m n o p q r s t u v x y z A h) (f61_2 w0 K (a == (10 : Int)) a b c d e g i k m n o p q r s t u v x y z A h))) :
  EvC Proofs.Tryd.prog w0 61 ([(.agg #[(.int .i64 a), (.int .i64 b), (.bool c), (.string d), (.slice e g i), (.int .i64 k), (.bool m), (.int .i64 n), (.string o), (.bool p), (.int .i64 q), (.bool r), (.bool s), (.int .i64 t), (.slice u v x), (.slice y z A)])]).toArray K h := EvC_intro (P := Proofs.Tryd.prog) f61_J (Eq.mp (by kernel_rfl) hv)
def f59_J : Nat → List Nat × Nat := jOf []



theorem f59_go {w0 : World} {K : Value → AH → Prop} (a : ByteArray) (g : Option Addr) (b i : Nat) (c : Int) (d : Bool) (e : Int) (h : AH)
  (hv : (brB (decide ((a = (ByteArray.mk #[])))) (brB (((b : Nat) : Int) == (0 : Int)) (brB (c == (0 : Int)) (brB (!d) (K (bool (e == (0 : Int))) h) (K (bool false) h)) (K (bool false) h)) (K (bool false) h)) (K (bool false) h))) :
  EvC Proofs.Tryd.prog w0 59 ([(.agg #[(.string a), (.slice g b i), (.int .i64 c), (.bool d), (.int .i64 e)])]).toArray K h := EvC_intro (P := Proofs.Tryd.prog) f59_J (Eq.mp (by kernel_rfl) hv)
/-! ### May: the document's -/
def I1 (m : PkM) : Prop := 1 ≤ m.kind ∧ m.kind ≤ 14 ∧ m.til = 0
def I2 (m : PkM) : Prop := ((4 ≤ m.kind ∧ m.kind ≤ 11) ∨ (m.kind = 3 ∧ m.qos ≠ 0) → 1 ≤ m.id ∧ m.id ≤ 65535) ∧ (¬ ((4 ≤ m.kind ∧ m.kind ≤ 11) ∨ (m.kind = 3 ∧ m.qos ≠ 0)) → m.id = 0)
def plainM (m : PkM) : Prop := m.topic = ⟨#[]⟩ ∧ m.pay = [] ∧ m.qos = 0 ∧ m.ret = false
def I3 (m : PkM) : Prop := (m.kind = 3 ∨ (m.kind = 1 ∧ m.will = true) → MsgC m) ∧ (¬ (m.kind = 3 ∨ (m.kind = 1 ∧ m.will = true)) → plainM m)
def I4 (m : PkM) : Prop := m.dup = true → m.kind = 3 ∧ m.qos ≠ 0
def I5 (m : PkM) : Prop := (m.kind = 1 → 0 ≤ m.alive ∧ m.alive ≤ 65535 ∧ m.client.size ≤ 64 ∧ textB m.client.data.toList = true) ∧ (m.kind ≠ 1 → m.client = ⟨#[]⟩ ∧ m.clean = false ∧ m.alive = 0 ∧ m.will = false)
def I6 (m : PkM) : Prop := (m.kind = 2 → 0 ≤ m.code ∧ m.code ≤ 5 ∧ (m.present = true → m.code = 0)) ∧ (m.kind ≠ 2 → m.present = false ∧ m.code = 0)
def I7 (m : PkM) : Prop := (m.kind = 8 → WantsC m 2) ∧ (m.kind = 10 → WantsC m 0) ∧ (¬ (m.kind = 8 ∨ m.kind = 10) → m.wants = [])
def I8 (m : PkM) : Prop := (m.kind = 9 → 1 ≤ m.codes.length ∧ m.codes.length ≤ 8 ∧ ∀ c ∈ m.codes, (0 ≤ c ∧ c ≤ 2) ∨ c = 128) ∧ (m.kind ≠ 9 → m.codes = [])
theorem may_eight {m : PkM} : MayK m.key ↔ I1 m ∧ I2 m ∧ I3 m ∧ I4 m ∧ I5 m ∧ I6 m ∧ I7 m ∧ I8 m := by
  constructor
  · intro h
    refine ⟨h.kind, h.id, h.msg, h.dup, h.con, h.ack, ⟨fun c => wants_key.1 (h.wants.1 c), fun c => wants_key.1 (h.wants.2.1 c), fun c => ?_⟩, h.codes⟩
    have e := h.wants.2.2 c
    exact List.map_eq_nil_iff.1 e
  · rintro ⟨h1, h2, h3, h4, h5, h6, h7, h8⟩
    exact ⟨h1, h2, h3, h4, h5, h6, ⟨fun c => wants_key.2 (h7.1 c), fun c => wants_key.2 (h7.2.1 c), fun c => by show m.wants.map WantM.key = []; rw [h7.2.2 c]; rfl⟩, h8⟩
section
variable {w0 : World} {K : Value → AH → Prop} {h : AH} {X : List (Nat × AB)}
/-- lists. -/
theorem f61_spec {m : PkM} (w : Own w0 h X) (rm : ∀ h', Own w0 h' X → PkRd w0 h' m) (h1 : I7 m → I8 m → ∀ h', Own w0 h' X → K (.bool true) h') (h0 : ¬ (I7 m ∧ I8 m) → ∀ h', Own w0 h' X → K (.bool false) h') : EvC Go.Proofs.Tryd.prog w0 61 #[m.agg] K h := by
  have nw := (rm h w).nw
  have nc := (rm h w).nc
  have thirteen : I7 m → (m.kind = 9 → 1 ≤ m.codes.length ∧ m.codes.length ≤ 8) → (m.kind ≠ 9 → m.codes = []) → ∀ h', Own w0 h' X → f61_13 w0 K m.kind m.id m.dup m.topic m.pa m.pay.length m.pc m.qos m.ret m.til m.client m.clean m.alive m.will m.present m.code m.wa m.wants.length m.wc m.ca m.codes.length m.cc h' := fun i7 c1 c2 h' w' => by
    refine f61_13_in _ _ _ _ _ _ _ _ _ _ _ _ _ _ _ _ _ _ _ _ _ _ _ ?_
    have loop : ∀ (n i : Nat), i + n = m.codes.length → (∀ x ∈ m.codes.take i, (0 ≤ x ∧ x ≤ 2) ∨ x = 128) → f61_14 w0 K m.ca m.codes.length m.cc ((m.codes.length : Nat) : Int) ((i : Nat) : Int) h' := fun n => by
      induction n with
      | zero =>
        intro i hi ha
        rw [List.take_of_length_le (by omega)] at ha
        exact f61_14_in _ _ _ _ _ _ (brB_of (fun z => by have := of_decide_eq_true z; omega) fun _ => h1 i7 ⟨fun k => ⟨(c1 k).1, (c1 k).2, ha⟩, c2⟩ h' w')
      | succ n ih =>
        intro i hi ha
        have k9 : m.kind = 9 := Classical.byContradiction fun k => by
          have := c2 k
          rw [this] at hi
          simp at hi
        have g1 : m.codes[i]? = some m.codes[i] := List.getElem?_eq_getElem _
        have hm := List.mem_of_getElem? g1
        obtain ⟨ad, had, hc⟩ := (rm h' w').codes _ _ (ints_get g1)
        have et : m.codes.take (i + 1) = m.codes.take i ++ [m.codes[i]] := List.take_succ_eq_append_getElem (by omega)
        generalize m.codes[i] = x at *
        have sev : ∀ t, (t = true ↔ ¬ ((0 ≤ x ∧ x ≤ 2) ∨ x = 128)) → f61_17 w0 K m.ca m.codes.length m.cc ((m.codes.length : Nat) : Int) ((i : Nat) : Int) t h' := fun t ht => by
          refine f61_17_in _ _ _ _ _ _ _ (brB_of (fun z => h0 (fun c => ht.1 z ((c.2.1 k9).2.2 x hm)) h' w') fun z => ?_)
          rw [wrapS (by omega)]
          refine ih (i + 1) (by omega) fun y hy => ?_
          rw [et] at hy
          rcases List.mem_append.1 hy with hy | hy
          · exact ha y hy
          · rw [List.mem_singleton] at hy; subst hy
            exact Classical.byContradiction fun c => by rw [ht.2 c] at z; cases z
        refine f61_14_in _ _ _ _ _ _ (brB_of (fun _ => ⟨ad, had, by omega, by omega, _, by rw [Int.toNat_natCast, Nat.mul_one]; exact hc, brB_of (fun z => brB_of (fun z1 => brB_of (fun z2 => sev _ ?_) fun z2 => sev _ ?_) fun z1 => sev _ ?_) fun z => sev _ ?_⟩) fun z => by have := of_decide_eq_false z; omega)
        · have a : x ≠ 0 := by simpa using z
          have b : x ≠ 1 := by simpa using z1
          have c : x ≠ 2 := by simpa using z2
          simp
          omega
        · have c : x = 2 := by simpa using z2
          simp; omega
        · have c : x = 1 := by simpa using z1
          simp; omega
        · have c : x = 0 := by simpa using z
          simp; omega
    exact loop m.codes.length 0 (by omega) fun x hx => by cases hx
  have twelve : I7 m → ∀ h', Own w0 h' X → ∀ t, (t = true ↔ ¬ ((m.kind = 9 → 1 ≤ m.codes.length ∧ m.codes.length ≤ 8) ∧ (m.kind ≠ 9 → m.codes = []))) → f61_12 w0 K t m.kind m.id m.dup m.topic m.pa m.pay.length m.pc m.qos m.ret m.til m.client m.clean m.alive m.will m.present m.code m.wa m.wants.length m.wc m.ca m.codes.length m.cc h' := fun i7 h' w' t ht => by
    refine f61_12_in _ _ _ _ _ _ _ _ _ _ _ _ _ _ _ _ _ _ _ _ _ _ _ _ (brB_of (fun z => h0 (fun c => ht.1 z ⟨fun k => ⟨(c.2.1 k).1, (c.2.1 k).2.1⟩, c.2.2⟩) h' w') fun z => ?_)
    have : (m.kind = 9 → 1 ≤ m.codes.length ∧ m.codes.length ≤ 8) ∧ (m.kind ≠ 9 → m.codes = []) := Classical.byContradiction fun c => by rw [ht.2 c] at z; cases z
    exact thirteen i7 this.1 this.2 h' w'
  have codesNil : m.codes = [] ↔ m.codes.length = 0 := List.length_eq_zero_iff.symm
  have wantsNil : m.wants = [] ↔ m.wants.length = 0 := List.length_eq_zero_iff.symm
  have behind : I7 m → ∀ h', Own w0 h' X → brB (m.kind == 9) (brB (decide (((m.codes.length : Nat) : Int) < 1)) (f61_12 w0 K true m.kind m.id m.dup m.topic m.pa m.pay.length m.pc m.qos m.ret m.til m.client m.clean m.alive m.will m.present m.code m.wa m.wants.length m.wc m.ca m.codes.length m.cc h') (brB (decide ((8 : Int) < ((m.codes.length : Nat) : Int))) (f61_12 w0 K true m.kind m.id m.dup m.topic m.pa m.pay.length m.pc m.qos m.ret m.til m.client m.clean m.alive m.will m.present m.code m.wa m.wants.length m.wc m.ca m.codes.length m.cc h') (brB (!(m.kind == 9)) (f61_12 w0 K (decide ((0 : Int) < ((m.codes.length : Nat) : Int))) m.kind m.id m.dup m.topic m.pa m.pay.length m.pc m.qos m.ret m.til m.client m.clean m.alive m.will m.present m.code m.wa m.wants.length m.wc m.ca m.codes.length m.cc h') (f61_12 w0 K false m.kind m.id m.dup m.topic m.pa m.pay.length m.pc m.qos m.ret m.til m.client m.clean m.alive m.will m.present m.code m.wa m.wants.length m.wc m.ca m.codes.length m.cc h')))) (brB (!(m.kind == 9)) (f61_12 w0 K (decide ((0 : Int) < ((m.codes.length : Nat) : Int))) m.kind m.id m.dup m.topic m.pa m.pay.length m.pc m.qos m.ret m.til m.client m.clean m.alive m.will m.present m.code m.wa m.wants.length m.wc m.ca m.codes.length m.cc h') (f61_12 w0 K false m.kind m.id m.dup m.topic m.pa m.pay.length m.pc m.qos m.ret m.til m.client m.clean m.alive m.will m.present m.code m.wa m.wants.length m.wc m.ca m.codes.length m.cc h')) := fun i7 h' w' => by
    refine brB_of (fun k => ?_) fun k => ?_
    · have k9 : m.kind = 9 := by simpa using k
      refine brB_of (fun z => twelve i7 h' w' _ ?_) fun z => brB_of (fun y => twelve i7 h' w' _ ?_) fun y => brB_of (fun x => by rw [k] at x; cases x) fun _ => twelve i7 h' w' _ ?_
      · have := of_decide_eq_true z
        simp only [true_iff]
        intro c
        have := (c.1 k9).1
        omega
      · have := of_decide_eq_true y
        simp only [true_iff]
        intro c
        have := (c.1 k9).2
        omega
      · have := of_decide_eq_false y
        have := of_decide_eq_false z
        simp only [Bool.false_eq_true, false_iff, Classical.not_not]
        exact ⟨fun _ => ⟨by omega, by omega⟩, fun c => absurd k9 c⟩
    · have k9 : m.kind ≠ 9 := by simpa using k
      refine brB_of (fun _ => twelve i7 h' w' _ ?_) fun x => by rw [k] at x; cases x
      rw [decide_eq_true_iff]
      constructor
      · intro c d
        have := codesNil.1 (d.2 k9)
        omega
      · intro c
        exact Classical.byContradiction fun d => c ⟨fun e => absurd e k9, fun _ => codesNil.2 (by omega)⟩
  have five : ∀ (n i : Nat), i + n = m.wants.length → ∀ h', Own w0 h' X → ((m.kind = 8 ∨ m.kind = 10) → 1 ≤ m.wants.length ∧ m.wants.length ≤ 8) → (¬ (m.kind = 8 ∨ m.kind = 10) → m.wants = []) → (∀ x ∈ m.wants.take i, filterB x.filter = true ∧ 0 ≤ x.qos ∧ x.qos ≤ 2 ∧ (m.kind = 10 → x.qos = 0)) → f61_5 w0 K m.wa m.wants.length m.wc ((m.wants.length : Nat) : Int) ((i : Nat) : Int) m.kind m.id m.dup m.topic m.pa m.pay.length m.pc m.qos m.ret m.til m.client m.clean m.alive m.will m.present m.code m.wa m.wants.length m.wc m.ca m.codes.length m.cc h' := fun n => by
    induction n with
    | zero =>
      intro i hi h' w' c1 c2 ha
      rw [List.take_of_length_le (by omega)] at ha
      refine f61_5_in _ _ _ _ _ _ _ _ _ _ _ _ _ _ _ _ _ _ _ _ _ _ _ _ _ _ _ _ (brB_of (fun z => by have := of_decide_eq_true z; omega) fun _ => behind ⟨fun k => ?_, fun k => ?_, c2⟩ h' w')
      · exact ⟨(c1 (.inl k)).1, (c1 (.inl k)).2, fun x hx => ⟨(ha x hx).1, (ha x hx).2.1, (ha x hx).2.2.1⟩⟩
      · exact ⟨(c1 (.inr k)).1, (c1 (.inr k)).2, fun x hx => ⟨(ha x hx).1, (ha x hx).2.1, by rw [(ha x hx).2.2.2 k]; omega⟩⟩
    | succ n ih =>
      intro i hi h' w' c1 c2 ha
      have kk : m.kind = 8 ∨ m.kind = 10 := Classical.byContradiction fun k => by
        have := c2 k
        rw [this] at hi
        simp at hi
      have g1 : m.wants[i]? = some m.wants[i] := List.getElem?_eq_getElem _
      have hm := List.mem_of_getElem? g1
      obtain ⟨ad, had, hat⟩ := rowLoad (enc := WantM.cells) (k := 2) (fun _ => rfl) (by decide) (rm h' w').wants g1
      have et : m.wants.take (i + 1) = m.wants.take i ++ [m.wants[i]] := List.take_succ_eq_append_getElem (by omega)
      generalize m.wants[i] = x at *
      have sev : ∀ h'', Own w0 h'' X → ∀ t, (t = true ↔ ¬ (filterB x.filter = true ∧ 0 ≤ x.qos ∧ x.qos ≤ 2 ∧ (m.kind = 10 → x.qos = 0))) → f61_8 w0 K m.wa m.wants.length m.wc ((m.wants.length : Nat) : Int) ((i : Nat) : Int) t m.kind m.id m.dup m.topic m.pa m.pay.length m.pc m.qos m.ret m.til m.client m.clean m.alive m.will m.present m.code m.wa m.wants.length m.wc m.ca m.codes.length m.cc h'' := fun h'' w'' t ht => by
        refine f61_8_in _ _ _ _ _ _ _ _ _ _ _ _ _ _ _ _ _ _ _ _ _ _ _ _ _ _ _ _ _ (brB_of (fun z => h0 (fun c => ht.1 z ?_) h'' w'') fun z => ?_)
        · rcases kk with k | k
          · have := (c.1.1 k).2.2 x hm
            exact ⟨this.1, this.2.1, this.2.2, fun e => by omega⟩
          · have := (c.1.2.1 k).2.2 x hm
            exact ⟨this.1, this.2.1, by omega, fun e => by omega⟩
        · rw [wrapS (by omega)]
          refine ih (i + 1) (by omega) h'' w'' c1 c2 fun y hy => ?_
          rw [et] at hy
          rcases List.mem_append.1 hy with hy | hy
          · exact ha y hy
          · rw [List.mem_singleton] at hy; subst hy
            exact Classical.byContradiction fun c => by rw [ht.2 c] at z; cases z
      refine f61_5_in _ _ _ _ _ _ _ _ _ _ _ _ _ _ _ _ _ _ _ _ _ _ _ _ _ _ _ _ (brB_of (fun _ => ⟨ad, had, by omega, by omega, _, _, ⟨rfl, hat⟩, f72_spec w' fun h2 w2 => ⟨_, rfl, brB_of (fun z => sev h2 w2 _ ?_) fun z => brB_of (fun z1 => sev h2 w2 _ ?_) fun z1 => brB_of (fun z2 => sev h2 w2 _ ?_) fun z2 => brB_of (fun z3 => sev h2 w2 _ ?_) fun z3 => sev h2 w2 _ ?_⟩⟩) fun z => by have := of_decide_eq_false z; omega)
      · simp only [true_iff]
        intro c; rw [c.1] at z; cases z
      · have := of_decide_eq_true z1
        simp only [true_iff]
        intro c; omega
      · have := of_decide_eq_true z2
        simp only [true_iff]
        intro c; omega
      · have f1 : filterB x.filter = true := by simpa using z
        have a := of_decide_eq_false z1
        have b := of_decide_eq_false z2
        have k : m.kind = 10 := by simpa using z3
        have e : (x.qos != 0) = true ↔ x.qos ≠ 0 := by simp
        rw [e]
        constructor
        · intro y c; exact y (c.2.2.2 k)
        · intro c y; exact c ⟨f1, by omega, by omega, fun _ => y⟩
      · have f1 : filterB x.filter = true := by simpa using z
        have a := of_decide_eq_false z1
        have b := of_decide_eq_false z2
        have k : m.kind ≠ 10 := by simpa using z3
        simp only [Bool.false_eq_true, false_iff, Classical.not_not]
        exact ⟨f1, by omega, by omega, fun e => absurd e k⟩
  have three : ∀ t, (t = true ↔ ¬ (((m.kind = 8 ∨ m.kind = 10) → 1 ≤ m.wants.length ∧ m.wants.length ≤ 8) ∧ (¬ (m.kind = 8 ∨ m.kind = 10) → m.wants = []))) → f61_3 w0 K t m.kind m.id m.dup m.topic m.pa m.pay.length m.pc m.qos m.ret m.til m.client m.clean m.alive m.will m.present m.code m.wa m.wants.length m.wc m.ca m.codes.length m.cc h := fun t ht => by
    refine f61_3_in _ _ _ _ _ _ _ _ _ _ _ _ _ _ _ _ _ _ _ _ _ _ _ _ (brB_of (fun z => h0 (fun c => ht.1 z ⟨fun k => ?_, c.1.2.2⟩) h w) fun z => f61_4_in _ _ _ _ _ _ _ _ _ _ _ _ _ _ _ _ _ _ _ _ _ _ _ ?_)
    · rcases k with k | k
      · exact ⟨(c.1.1 k).1, (c.1.1 k).2.1⟩
      · exact ⟨(c.1.2.1 k).1, (c.1.2.1 k).2.1⟩
    · have : ((m.kind = 8 ∨ m.kind = 10) → 1 ≤ m.wants.length ∧ m.wants.length ≤ 8) ∧ (¬ (m.kind = 8 ∨ m.kind = 10) → m.wants = []) := Classical.byContradiction fun c => by rw [ht.2 c] at z; cases z
      exact five m.wants.length 0 (by omega) h w this.1 this.2 fun x hx => by cases hx
  have two : ∀ t, (t = true ↔ (m.kind = 8 ∨ m.kind = 10)) → f61_2 w0 K t m.kind m.id m.dup m.topic m.pa m.pay.length m.pc m.qos m.ret m.til m.client m.clean m.alive m.will m.present m.code m.wa m.wants.length m.wc m.ca m.codes.length m.cc h := fun t ht => by
    refine f61_2_in _ _ _ _ _ _ _ _ _ _ _ _ _ _ _ _ _ _ _ _ _ _ _ _ (brB_of (fun z => ?_) fun z => ?_)
    · have k := ht.1 z
      refine brB_of (fun y => three _ ?_) fun y => brB_of (fun x => three _ ?_) fun x => brB_of (fun u => by rw [z] at u; cases u) fun _ => three _ ?_
      · have := of_decide_eq_true y
        simp only [true_iff]
        intro c
        have := (c.1 k).1
        omega
      · have := of_decide_eq_true x
        simp only [true_iff]
        intro c
        have := (c.1 k).2
        omega
      · have := of_decide_eq_false y
        have := of_decide_eq_false x
        simp only [Bool.false_eq_true, false_iff, Classical.not_not]
        exact ⟨fun _ => ⟨by omega, by omega⟩, fun c => absurd k c⟩
    · have k : ¬ (m.kind = 8 ∨ m.kind = 10) := fun c => by rw [ht.2 c] at z; cases z
      refine brB_of (fun _ => three _ ?_) fun u => by rw [z] at u; cases u
      rw [decide_eq_true_iff]
      constructor
      · intro c d
        have := wantsNil.1 (d.2 k)
        omega
      · intro c
        exact Classical.byContradiction fun d => c ⟨fun e => absurd e k, fun _ => wantsNil.2 (by omega)⟩
  refine f61_go _ _ _ _ _ _ _ _ _ _ _ _ _ _ _ _ _ _ _ _ _ _ _ (brB_of (fun z => two _ ?_) fun z => two _ ?_)
  · have : m.kind = 8 := by simpa using z
    simp [this]
  · have : m.kind ≠ 8 := by simpa using z
    simp
    omega
end
def f24_J : Nat → List Nat × Nat := jOf [(2, (0 :: (rn 20 18 (rn 197 176 []))), 1), (3, (0 :: (rn 197 195 [])), 1), (4, (0 :: (2 :: (rn 197 193 []))), 1), (5, (0 :: (rn 54 52 (rn 197 142 []))), 1), (6, (0 :: (rn 197 195 [])), 1), (8, (0 :: (2 :: (3 :: (rn 197 190 [])))), 1), (9, (0 :: (2 :: (3 :: (rn 105 99 (rn 197 91 []))))), 1), (10, (0 :: (2 :: (3 :: (rn 197 191 [])))), 1), (11, (0 :: (2 :: (3 :: (4 :: (rn 117 111 (rn 197 79 [])))))), 1), (12, (0 :: (2 :: (3 :: (4 :: (rn 197 191 []))))), 1), (13, (0 :: (rn 163 161 (rn 197 33 []))), 1), (14, (0 :: (rn 197 195 [])), 1), (15, (0 :: (rn 194 192 [195, 196])), 1)]

def f24_2 (w0 : World) (K : Value → AH → Prop) (a : Bool) (b c : Int) (d : Bool) (e : ByteArray) (g : Option Addr) (i k : Nat) (m : Int) (n : Bool) (o : Int) (p : ByteArray) (q : Bool) (r : Int) (s t : Bool) (u : Int) (x : Option Addr) (y z : Nat) (A : Option Addr) (B C : Nat) (h : AH) : Prop :=
  ∀ j : Nat → Value, LPk Proofs.Tryd.prog w0 (EvC Proofs.Tryd.prog w0) f24_J 24 K 2 (jv j 1 1 (.bp 0 0 :: (jv j 20 18 (.v (.bool a) :: (jv j 197 176 []))))) [some [(.int .i64 b), (.int .i64 c), (.bool d), (.string e), (.slice g i k), (.int .i64 m), (.bool n), (.int .i64 o), (.string p), (.bool q), (.int .i64 r), (.bool s), (.bool t), (.int .i64 u), (.slice x y z), (.slice A B C)]] h

def f24_3 (w0 : World) (K : Value → AH → Prop) (a b : Int) (c : Bool) (d : ByteArray) (e : Option Addr) (g i : Nat) (k : Int) (m : Bool) (n : Int) (o : ByteArray) (p : Bool) (q : Int) (r s : Bool) (t : Int) (u : Option Addr) (x y : Nat) (z : Option Addr) (A B : Nat) (h : AH) : Prop :=
  ∀ j : Nat → Value, LPk Proofs.Tryd.prog w0 (EvC Proofs.Tryd.prog w0) f24_J 24 K 3 (jv j 1 1 (.bp 0 0 :: (jv j 197 195 []))) [some [(.int .i64 a), (.int .i64 b), (.bool c), (.string d), (.slice e g i), (.int .i64 k), (.bool m), (.int .i64 n), (.string o), (.bool p), (.int .i64 q), (.bool r), (.bool s), (.int .i64 t), (.slice u x y), (.slice z A B)]] h

def f24_4 (w0 : World) (K : Value → AH → Prop) (a : Bool) (b c : Int) (d : Bool) (e : ByteArray) (g : Option Addr) (i k : Nat) (m : Int) (n : Bool) (o : Int) (p : ByteArray) (q : Bool) (r : Int) (s t : Bool) (u : Int) (x : Option Addr) (y z : Nat) (A : Option Addr) (B C : Nat) (h : AH) : Prop :=
  ∀ j : Nat → Value, LPk Proofs.Tryd.prog w0 (EvC Proofs.Tryd.prog w0) f24_J 24 K 4 (jv j 1 1 (.bp 0 0 :: (jv j 3 1 (.v (.bool a) :: (jv j 197 193 []))))) [some [(.int .i64 b), (.int .i64 c), (.bool d), (.string e), (.slice g i k), (.int .i64 m), (.bool n), (.int .i64 o), (.string p), (.bool q), (.int .i64 r), (.bool s), (.bool t), (.int .i64 u), (.slice x y z), (.slice A B C)]] h

def f24_5 (w0 : World) (K : Value → AH → Prop) (a : Bool) (b c : Int) (d : Bool) (e : ByteArray) (g : Option Addr) (i k : Nat) (m : Int) (n : Bool) (o : Int) (p : ByteArray) (q : Bool) (r : Int) (s t : Bool) (u : Int) (x : Option Addr) (y z : Nat) (A : Option Addr) (B C : Nat) (h : AH) : Prop :=
  ∀ j : Nat → Value, LPk Proofs.Tryd.prog w0 (EvC Proofs.Tryd.prog w0) f24_J 24 K 5 (jv j 1 1 (.bp 0 0 :: (jv j 54 52 (.v (.bool a) :: (jv j 197 142 []))))) [some [(.int .i64 b), (.int .i64 c), (.bool d), (.string e), (.slice g i k), (.int .i64 m), (.bool n), (.int .i64 o), (.string p), (.bool q), (.int .i64 r), (.bool s), (.bool t), (.int .i64 u), (.slice x y z), (.slice A B C)]] h

def f24_6 (w0 : World) (K : Value → AH → Prop) (a b : Int) (c : Bool) (d : ByteArray) (e : Option Addr) (g i : Nat) (k : Int) (m : Bool) (n : Int) (o : ByteArray) (p : Bool) (q : Int) (r s : Bool) (t : Int) (u : Option Addr) (x y : Nat) (z : Option Addr) (A B : Nat) (h : AH) : Prop :=
  ∀ j : Nat → Value, LPk Proofs.Tryd.prog w0 (EvC Proofs.Tryd.prog w0) f24_J 24 K 6 (jv j 1 1 (.bp 0 0 :: (jv j 197 195 []))) [some [(.int .i64 a), (.int .i64 b), (.bool c), (.string d), (.slice e g i), (.int .i64 k), (.bool m), (.int .i64 n), (.string o), (.bool p), (.int .i64 q), (.bool r), (.bool s), (.int .i64 t), (.slice u x y), (.slice z A B)]] h

def f24_8 (w0 : World) (K : Value → AH → Prop) (a b c : Bool) (d e : Int) (g : Bool) (i : ByteArray) (k : Option Addr) (m n : Nat) (o : Int) (p : Bool) (q : Int) (r : ByteArray) (s : Bool) (t : Int) (u x : Bool) (y : Int) (z : Option Addr) (A B : Nat) (C : Option Addr) (D E : Nat) (h : AH) : Prop :=
  ∀ j : Nat → Value, LPk Proofs.Tryd.prog w0 (EvC Proofs.Tryd.prog w0) f24_J 24 K 8 (jv j 1 1 (.bp 0 0 :: (jv j 4 2 (.v (.bool a) :: (.v (.bool b) :: (.v (.bool c) :: (jv j 197 190 []))))))) [some [(.int .i64 d), (.int .i64 e), (.bool g), (.string i), (.slice k m n), (.int .i64 o), (.bool p), (.int .i64 q), (.string r), (.bool s), (.int .i64 t), (.bool u), (.bool x), (.int .i64 y), (.slice z A B), (.slice C D E)]] h

def f24_9 (w0 : World) (K : Value → AH → Prop) (a b c : Bool) (d e : Int) (g : Bool) (i : ByteArray) (k : Option Addr) (m n : Nat) (o : Int) (p : Bool) (q : Int) (r : ByteArray) (s : Bool) (t : Int) (u x : Bool) (y : Int) (z : Option Addr) (A B : Nat) (C : Option Addr) (D E : Nat) (h : AH) : Prop :=
  ∀ j : Nat → Value, LPk Proofs.Tryd.prog w0 (EvC Proofs.Tryd.prog w0) f24_J 24 K 9 (jv j 1 1 (.bp 0 0 :: (jv j 4 2 (.v (.bool a) :: (.v (.bool b) :: (jv j 105 99 (.v (.bool c) :: (jv j 197 91 [])))))))) [some [(.int .i64 d), (.int .i64 e), (.bool g), (.string i), (.slice k m n), (.int .i64 o), (.bool p), (.int .i64 q), (.string r), (.bool s), (.int .i64 t), (.bool u), (.bool x), (.int .i64 y), (.slice z A B), (.slice C D E)]] h

def f24_10 (w0 : World) (K : Value → AH → Prop) (a b : Bool) (c d : Int) (e : Bool) (g : ByteArray) (i : Option Addr) (k m : Nat) (n : Int) (o : Bool) (p : Int) (q : ByteArray) (r : Bool) (s : Int) (t u : Bool) (x : Int) (y : Option Addr) (z A : Nat) (B : Option Addr) (C D : Nat) (h : AH) : Prop :=
  ∀ j : Nat → Value, LPk Proofs.Tryd.prog w0 (EvC Proofs.Tryd.prog w0) f24_J 24 K 10 (jv j 1 1 (.bp 0 0 :: (jv j 4 2 (.v (.bool a) :: (.v (.bool b) :: (jv j 197 191 [])))))) [some [(.int .i64 c), (.int .i64 d), (.bool e), (.string g), (.slice i k m), (.int .i64 n), (.bool o), (.int .i64 p), (.string q), (.bool r), (.int .i64 s), (.bool t), (.bool u), (.int .i64 x), (.slice y z A), (.slice B C D)]] h

def f24_11 (w0 : World) (K : Value → AH → Prop) (a b : Bool) (c d : Int) (e : Bool) (g : ByteArray) (i : Option Addr) (k m : Nat) (n : Int) (o : Bool) (p : Int) (q : ByteArray) (r : Bool) (s : Int) (t u : Bool) (x : Int) (y : Option Addr) (z A : Nat) (B : Option Addr) (C D : Nat) (h : AH) : Prop :=
  ∀ j : Nat → Value, LPk Proofs.Tryd.prog w0 (EvC Proofs.Tryd.prog w0) f24_J 24 K 11 (jv j 1 1 (.bp 0 0 :: (jv j 5 3 (.v (.bool a) :: (jv j 117 111 (.v (.bool b) :: (jv j 197 79 []))))))) [some [(.int .i64 c), (.int .i64 d), (.bool e), (.string g), (.slice i k m), (.int .i64 n), (.bool o), (.int .i64 p), (.string q), (.bool r), (.int .i64 s), (.bool t), (.bool u), (.int .i64 x), (.slice y z A), (.slice B C D)]] h

def f24_12 (w0 : World) (K : Value → AH → Prop) (a : Bool) (b c : Int) (d : Bool) (e : ByteArray) (g : Option Addr) (i k : Nat) (m : Int) (n : Bool) (o : Int) (p : ByteArray) (q : Bool) (r : Int) (s t : Bool) (u : Int) (x : Option Addr) (y z : Nat) (A : Option Addr) (B C : Nat) (h : AH) : Prop :=
  ∀ j : Nat → Value, LPk Proofs.Tryd.prog w0 (EvC Proofs.Tryd.prog w0) f24_J 24 K 12 (jv j 1 1 (.bp 0 0 :: (jv j 5 3 (.v (.bool a) :: (jv j 197 191 []))))) [some [(.int .i64 b), (.int .i64 c), (.bool d), (.string e), (.slice g i k), (.int .i64 m), (.bool n), (.int .i64 o), (.string p), (.bool q), (.int .i64 r), (.bool s), (.bool t), (.int .i64 u), (.slice x y z), (.slice A B C)]] h

def f24_13 (w0 : World) (K : Value → AH → Prop) (a : Bool) (b c : Int) (d : Bool) (e : ByteArray) (g : Option Addr) (i k : Nat) (m : Int) (n : Bool) (o : Int) (p : ByteArray) (q : Bool) (r : Int) (s t : Bool) (u : Int) (x : Option Addr) (y z : Nat) (A : Option Addr) (B C : Nat) (h : AH) : Prop :=
  ∀ j : Nat → Value, LPk Proofs.Tryd.prog w0 (EvC Proofs.Tryd.prog w0) f24_J 24 K 13 (jv j 1 1 (.bp 0 0 :: (jv j 163 161 (.v (.bool a) :: (jv j 197 33 []))))) [some [(.int .i64 b), (.int .i64 c), (.bool d), (.string e), (.slice g i k), (.int .i64 m), (.bool n), (.int .i64 o), (.string p), (.bool q), (.int .i64 r), (.bool s), (.bool t), (.int .i64 u), (.slice x y z), (.slice A B C)]] h

def f24_14 (w0 : World) (K : Value → AH → Prop) (a b : Int) (c : Bool) (d : ByteArray) (e : Option Addr) (g i : Nat) (k : Int) (m : Bool) (n : Int) (o : ByteArray) (p : Bool) (q : Int) (r s : Bool) (t : Int) (u : Option Addr) (x y : Nat) (z : Option Addr) (A B : Nat) (h : AH) : Prop :=
  ∀ j : Nat → Value, LPk Proofs.Tryd.prog w0 (EvC Proofs.Tryd.prog w0) f24_J 24 K 14 (jv j 1 1 (.bp 0 0 :: (jv j 197 195 []))) [some [(.int .i64 a), (.int .i64 b), (.bool c), (.string d), (.slice e g i), (.int .i64 k), (.bool m), (.int .i64 n), (.string o), (.bool p), (.int .i64 q), (.bool r), (.bool s), (.int .i64 t), (.slice u x y), (.slice z A B)]] h

def f24_15 (w0 : World) (K : Value → AH → Prop) (a : Bool) (b c : Int) (d : Bool) (e : ByteArray) (g : Option Addr) (i k : Nat) (m : Int) (n : Bool) (o : Int) (p : ByteArray) (q : Bool) (r : Int) (s t : Bool) (u : Int) (x : Option Addr) (y z : Nat) (A : Option Addr) (B C : Nat) (h : AH) : Prop :=
  ∀ j : Nat → Value, LPk Proofs.Tryd.prog w0 (EvC Proofs.Tryd.prog w0) f24_J 24 K 15 (jv j 1 1 (.bp 0 0 :: (jv j 194 192 (.v (.bool a) :: (jv j 197 2 []))))) [some [(.int .i64 b), (.int .i64 c), (.bool d), (.string e), (.slice g i k), (.int .i64 m), (.bool n), (.int .i64 o), (.string p), (.bool q), (.int .i64 r), (.bool s), (.bool t), (.int .i64 u), (.slice x y z), (.slice A B C)]] h

theorem f24_2_in {w0 : World} {K : Value → AH → Prop} (a : Bool) (b c : Int) (d : Bool) (e : ByteArray) (g : Option Addr) (i k : Nat) (m : Int) (n : Bool) (o : Int) (p : ByteArray) (q : Bool) (r : Int) (s t : Bool) (u : Int) (v : Option Addr) (x y : Nat) (z : Option Addr) (A B : Nat) (h : AH)
  (hv : (brB a (K (bool false) h) (f24_3 w0 K b c d e g i k m n o p q r s t u v x y z A B h))) :
  f24_2 w0 K a b c d e g i k m n o p q r s t u v x y z A B h := fun j => LP_intro (P := Proofs.Tryd.prog) (Eq.mp (by kernel_rfl) hv)

theorem f24_3_in {w0 : World} {K : Value → AH → Prop} (a c : Int) (d : Bool) (e : ByteArray) (g : Option Addr) (i k : Nat) (b : Int) (m : Bool) (n : Int) (o : ByteArray) (p : Bool) (q : Int) (r s : Bool) (t : Int) (u : Option Addr) (v x : Nat) (y : Option Addr) (z A : Nat) (h : AH)
  (hv : (brB (a == (3 : Int)) (brB (b != (0 : Int)) (f24_4 w0 K true a c d e g i k b m n o p q r s t u v x y z A h) (brB (decide (((4 : Int) ≤ a))) (f24_4 w0 K (decide ((a ≤ (11 : Int)))) a c d e g i k b m n o p q r s t u v x y z A h) (f24_4 w0 K false a c d e g i k b m n o p q r s t u v x y z A h))) (brB (decide (((4 : Int) ≤ a))) (f24_4 w0 K (decide ((a ≤ (11 : Int)))) a c d e g i k b m n o p q r s t u v x y z A h) (f24_4 w0 K false a c d e g i k b m n o p q r s t u v x y z A h)))) :
  f24_3 w0 K a c d e g i k b m n o p q r s t u v x y z A h := fun j => LP_intro (P := Proofs.Tryd.prog) (Eq.mp (by kernel_rfl) hv)

theorem f24_4_in {w0 : World} {K : Value → AH → Prop} (B : Bool) (b a : Int) (c : Bool) (d : ByteArray) (e : Option Addr) (g i : Nat) (k : Int) (m : Bool) (n : Int) (o : ByteArray) (p : Bool) (q : Int) (r s : Bool) (t : Int) (u : Option Addr) (v x : Nat) (y : Option Addr) (z A : Nat) (h : AH)
  (hv : (brB (B != (a != (0 : Int))) (f24_5 w0 K true b a c d e g i k m n o p q r s t u v x y z A h) (brB (decide ((a < (0 : Int)))) (f24_5 w0 K true b a c d e g i k m n o p q r s t u v x y z A h) (f24_5 w0 K (decide (((65535 : Int) < a))) b a c d e g i k m n o p q r s t u v x y z A h)))) :
  f24_4 w0 K B b a c d e g i k m n o p q r s t u v x y z A h := fun j => LP_intro (P := Proofs.Tryd.prog) (Eq.mp (by kernel_rfl) hv)

theorem f24_5_in {w0 : World} {K : Value → AH → Prop} (a : Bool) (b c : Int) (d : Bool) (e : ByteArray) (g : Option Addr) (i k : Nat) (m : Int) (n : Bool) (o : Int) (p : ByteArray) (q : Bool) (r : Int) (s t : Bool) (u : Int) (v : Option Addr) (x y : Nat) (z : Option Addr) (A B : Nat) (h : AH)
  (hv : (brB a (K (bool false) h) (f24_6 w0 K b c d e g i k m n o p q r s t u v x y z A B h))) :
  f24_5 w0 K a b c d e g i k m n o p q r s t u v x y z A B h := fun j => LP_intro (P := Proofs.Tryd.prog) (Eq.mp (by kernel_rfl) hv)

theorem f24_6_in {w0 : World} {K : Value → AH → Prop} (a c : Int) (d : Bool) (e : ByteArray) (g : Option Addr) (i k : Nat) (m : Int) (n : Bool) (o : Int) (p : ByteArray) (q : Bool) (r : Int) (b s : Bool) (t : Int) (u : Option Addr) (v x : Nat) (y : Option Addr) (z A : Nat) (h : AH)
  (hv : (brB (a == (3 : Int)) (f24_8 w0 K (a == (3 : Int)) (a == (1 : Int)) true a c d e g i k m n o p q r b s t u v x y z A h) (brB (a == (1 : Int)) (f24_8 w0 K (a == (3 : Int)) (a == (1 : Int)) b a c d e g i k m n o p q r b s t u v x y z A h) (f24_8 w0 K (a == (3 : Int)) (a == (1 : Int)) false a c d e g i k m n o p q r b s t u v x y z A h)))) :
  f24_6 w0 K a c d e g i k m n o p q r b s t u v x y z A h := fun j => LP_intro (P := Proofs.Tryd.prog) (Eq.mp (by kernel_rfl) hv)

theorem f24_8_in {w0 : World} {K : Value → AH → Prop} (k m E : Bool) (n o : Int) (p : Bool) (b : ByteArray) (d : Option Addr) (c e : Nat) (a : Int) (g : Bool) (i : Int) (q : ByteArray) (r : Bool) (s : Int) (t u : Bool) (v : Int) (x : Option Addr) (y z : Nat) (A : Option Addr) (B C : Nat) (h : AH)
  (hv : (brB E (EvC Proofs.Tryd.prog w0 58 #[(string b)] (fun M D => (∃ F : Bool, ((M = (bool F)) ∧ (brB (!F) (f24_9 w0 K k m true n o p b d c e a g i q r s t u v x y z A B C D) (brB (decide (((256 : Int) < ((c : Nat) : Int)))) (f24_9 w0 K k m true n o p b d c e a g i q r s t u v x y z A B C D) (brB (decide ((a < (0 : Int)))) (f24_9 w0 K k m true n o p b d c e a g i q r s t u v x y z A B C D) (brB (decide (((2 : Int) < a))) (f24_9 w0 K k m true n o p b d c e a g i q r s t u v x y z A B C D) (brB (!E) (EvC Proofs.Tryd.prog w0 59 #[(agg #[(string b), (slice d c e), (int .i64 a), (bool g), (int .i64 i)])] (fun N Q => (∃ G : Bool, ((N = (bool G)) ∧ (f24_9 w0 K k m (!G) n o p b d c e a g i q r s t u v x y z A B C Q)))) D) (f24_9 w0 K k m false n o p b d c e a g i q r s t u v x y z A B C D))))))))) h) (brB (!E) (EvC Proofs.Tryd.prog w0 59 #[(agg #[(string b), (slice d c e), (int .i64 a), (bool g), (int .i64 i)])] (fun R T => (∃ L : Bool, ((R = (bool L)) ∧ (f24_9 w0 K k m (!L) n o p b d c e a g i q r s t u v x y z A B C T)))) h) (f24_9 w0 K k m false n o p b d c e a g i q r s t u v x y z A B C h)))) :
  f24_8 w0 K k m E n o p b d c e a g i q r s t u v x y z A B C h := fun j => LP_intro (P := Proofs.Tryd.prog) (Eq.mp (by kernel_rfl) hv)

theorem f24_9_in {w0 : World} {K : Value → AH → Prop} (a b c : Bool) (d e : Int) (g : Bool) (i : ByteArray) (k : Option Addr) (m n : Nat) (o : Int) (p : Bool) (q : Int) (r : ByteArray) (s : Bool) (t : Int) (u v : Bool) (x : Int) (y : Option Addr) (z A : Nat) (B : Option Addr) (C D : Nat) (h : AH)
  (hv : (brB c (K (bool false) h) (f24_10 w0 K a b d e g i k m n o p q r s t u v x y z A B C D h))) :
  f24_9 w0 K a b c d e g i k m n o p q r s t u v x y z A B C D h := fun j => LP_intro (P := Proofs.Tryd.prog) (Eq.mp (by kernel_rfl) hv)

theorem f24_10_in {w0 : World} {K : Value → AH → Prop} (C c : Bool) (d e : Int) (a : Bool) (g : ByteArray) (i : Option Addr) (k m : Nat) (b : Int) (n : Bool) (o : Int) (p : ByteArray) (q : Bool) (r : Int) (s t : Bool) (u : Int) (v : Option Addr) (x y : Nat) (z : Option Addr) (A B : Nat) (h : AH)
  (hv : (brB a (brB (!C) (f24_11 w0 K c true d e a g i k m b n o p q r s t u v x y z A B h) (f24_11 w0 K c (b == (0 : Int)) d e a g i k m b n o p q r s t u v x y z A B h)) (f24_11 w0 K c false d e a g i k m b n o p q r s t u v x y z A B h))) :
  f24_10 w0 K C c d e a g i k m b n o p q r s t u v x y z A B h := fun j => LP_intro (P := Proofs.Tryd.prog) (Eq.mp (by kernel_rfl) hv)

theorem f24_11_in {w0 : World} {K : Value → AH → Prop} (a b : Bool) (c d : Int) (e : Bool) (g : ByteArray) (i : Option Addr) (k m : Nat) (n : Int) (o : Bool) (p : Int) (q : ByteArray) (r : Bool) (s : Int) (t u : Bool) (v : Int) (x : Option Addr) (y z : Nat) (A : Option Addr) (B C : Nat) (h : AH)
  (hv : (brB b (K (bool false) h) (f24_12 w0 K a c d e g i k m n o p q r s t u v x y z A B C h))) :
  f24_11 w0 K a b c d e g i k m n o p q r s t u v x y z A B C h := fun j => LP_intro (P := Proofs.Tryd.prog) (Eq.mp (by kernel_rfl) hv)

theorem f24_12_in {w0 : World} {K : Value → AH → Prop} (B : Bool) (e g : Int) (i : Bool) (k : ByteArray) (m : Option Addr) (n o : Nat) (p : Int) (q : Bool) (r : Int) (a : ByteArray) (c : Bool) (b : Int) (d s : Bool) (t : Int) (u : Option Addr) (v x : Nat) (y : Option Addr) (z A : Nat) (h : AH)
  (hv : (brB (!B) (brB (!(decide ((a = (ByteArray.mk #[]))))) (f24_13 w0 K true e g i k m n o p q r a c b d s t u v x y z A h) (brB c (f24_13 w0 K true e g i k m n o p q r a c b d s t u v x y z A h) (brB (b != (0 : Int)) (f24_13 w0 K true e g i k m n o p q r a c b d s t u v x y z A h) (brB d (f24_13 w0 K true e g i k m n o p q r a c b d s t u v x y z A h) (brB B (brB (decide ((b < (0 : Int)))) (f24_13 w0 K true e g i k m n o p q r a c b d s t u v x y z A h) (brB (decide (((65535 : Int) < b))) (f24_13 w0 K true e g i k m n o p q r a c b d s t u v x y z A h) (∀ C : Nat, (((ByteArray.size a) ≤ C) → (newB w0 h (AB.cells (intsOf a) C) (fun N Q => (EvC Proofs.Tryd.prog w0 60 #[(slice (some (Addr.mk N 0 none)) (ByteArray.size a) C)] (fun R E => (∃ F : Bool, ((R = (bool F)) ∧ (brB (!F) (f24_13 w0 K true e g i k m n o p q r a c b d s t u v x y z A E) (f24_13 w0 K (decide (((64 : Int) < (((ByteArray.size a) : Nat) : Int)))) e g i k m n o p q r a c b d s t u v x y z A E))))) Q))))))) (f24_13 w0 K false e g i k m n o p q r a c b d s t u v x y z A h)))))) (brB B (brB (decide ((b < (0 : Int)))) (f24_13 w0 K true e g i k m n o p q r a c b d s t u v x y z A h) (brB (decide (((65535 : Int) < b))) (f24_13 w0 K true e g i k m n o p q r a c b d s t u v x y z A h) (∀ D : Nat, (((ByteArray.size a) ≤ D) → (newB w0 h (AB.cells (intsOf a) D) (fun T U => (EvC Proofs.Tryd.prog w0 60 #[(slice (some (Addr.mk T 0 none)) (ByteArray.size a) D)] (fun V L => (∃ M : Bool, ((V = (bool M)) ∧ (brB (!M) (f24_13 w0 K true e g i k m n o p q r a c b d s t u v x y z A L) (f24_13 w0 K (decide (((64 : Int) < (((ByteArray.size a) : Nat) : Int)))) e g i k m n o p q r a c b d s t u v x y z A L))))) U))))))) (f24_13 w0 K false e g i k m n o p q r a c b d s t u v x y z A h)))) :
  f24_12 w0 K B e g i k m n o p q r a c b d s t u v x y z A h := fun j => LP_intro (P := Proofs.Tryd.prog) (Eq.mp (by kernel_rfl) hv)

theorem f24_13_in {w0 : World} {K : Value → AH → Prop} (a : Bool) (b c : Int) (d : Bool) (e : ByteArray) (g : Option Addr) (i k : Nat) (m : Int) (n : Bool) (o : Int) (p : ByteArray) (q : Bool) (r : Int) (s t : Bool) (u : Int) (v : Option Addr) (x y : Nat) (z : Option Addr) (A B : Nat) (h : AH)
  (hv : (brB a (K (bool false) h) (f24_14 w0 K b c d e g i k m n o p q r s t u v x y z A B h))) :
  f24_13 w0 K a b c d e g i k m n o p q r s t u v x y z A B h := fun j => LP_intro (P := Proofs.Tryd.prog) (Eq.mp (by kernel_rfl) hv)

theorem f24_14_in {w0 : World} {K : Value → AH → Prop} (c d : Int) (e : Bool) (g : ByteArray) (i : Option Addr) (k m : Nat) (n : Int) (o : Bool) (p : Int) (q : ByteArray) (r : Bool) (s : Int) (t b : Bool) (a : Int) (u : Option Addr) (v x : Nat) (y : Option Addr) (z A : Nat) (h : AH)
  (hv : (brB (c != (2 : Int)) (brB b (f24_15 w0 K true c d e g i k m n o p q r s t b a u v x y z A h) (brB (a != (0 : Int)) (f24_15 w0 K true c d e g i k m n o p q r s t b a u v x y z A h) (brB (decide ((a < (0 : Int)))) (f24_15 w0 K true c d e g i k m n o p q r s t b a u v x y z A h) (brB (decide (((5 : Int) < a))) (f24_15 w0 K true c d e g i k m n o p q r s t b a u v x y z A h) (brB b (f24_15 w0 K (a != (0 : Int)) c d e g i k m n o p q r s t b a u v x y z A h) (f24_15 w0 K false c d e g i k m n o p q r s t b a u v x y z A h)))))) (brB (decide ((a < (0 : Int)))) (f24_15 w0 K true c d e g i k m n o p q r s t b a u v x y z A h) (brB (decide (((5 : Int) < a))) (f24_15 w0 K true c d e g i k m n o p q r s t b a u v x y z A h) (brB b (f24_15 w0 K (a != (0 : Int)) c d e g i k m n o p q r s t b a u v x y z A h) (f24_15 w0 K false c d e g i k m n o p q r s t b a u v x y z A h)))))) :
  f24_14 w0 K c d e g i k m n o p q r s t b a u v x y z A h := fun j => LP_intro (P := Proofs.Tryd.prog) (Eq.mp (by kernel_rfl) hv)

theorem f24_15_in {w0 : World} {K : Value → AH → Prop} (a : Bool) (b c : Int) (d : Bool) (e : ByteArray) (g : Option Addr) (i k : Nat) (m : Int) (n : Bool) (o : Int) (p : ByteArray) (q : Bool) (r : Int) (s t : Bool) (u : Int) (v : Option Addr) (x y : Nat) (z : Option Addr) (A B : Nat) (h : AH)
  (hv : (brB a (K (bool false) h) (EvC Proofs.Tryd.prog w0 61 #[(agg #[(int .i64 b), (int .i64 c), (bool d), (string e), (slice g i k), (int .i64 m), (bool n), (int .i64 o), (string p), (bool q), (int .i64 r), (bool s), (bool t), (int .i64 u), (slice v x y), (slice z A B)])] (fun D E => (∃ C : Bool, ((D = (bool C)) ∧ (K (bool C) E)))) h))) :
  f24_15 w0 K a b c d e g i k m n o p q r s t u v x y z A B h := fun j => LP_intro (P := Proofs.Tryd.prog) (Eq.mp (by kernel_rfl) hv)

theorem f24_go {w0 : World} {K : Value → AH → Prop} (a c : Int) (d : Bool) (e : ByteArray) (g : Option Addr) (i k : Nat) (m : Int) (n : Bool) (b : Int) (o : ByteArray) (p : Bool) (q : Int) (r s : Bool) (t : Int) (u : Option Addr) (v x : Nat) (y : Option Addr) (z A : Nat) (h : AH)
  (hv : (brB (decide ((a < (1 : Int)))) (f24_2 w0 K true a c d e g i k m n b o p q r s t u v x y z A h) (brB (decide (((14 : Int) < a))) (f24_2 w0 K true a c d e g i k m n b o p q r s t u v x y z A h) (f24_2 w0 K (b != (0 : Int)) a c d e g i k m n b o p q r s t u v x y z A h)))) :
  EvC Proofs.Tryd.prog w0 24 ([(.agg #[(.int .i64 a), (.int .i64 c), (.bool d), (.string e), (.slice g i k), (.int .i64 m), (.bool n), (.int .i64 b), (.string o), (.bool p), (.int .i64 q), (.bool r), (.bool s), (.int .i64 t), (.slice u v x), (.slice y z A)])]).toArray K h := EvC_intro (P := Proofs.Tryd.prog) f24_J (Eq.mp (by kernel_rfl) hv)
section
variable {w0 : World} {K : Value → AH → Prop} {h : AH} {X : List (Nat × AB)}
theorem iff_no {t : Bool} {P : Prop} (ht : t = true ↔ ¬ P) (z : t = false) : P := Classical.byContradiction fun c => by rw [ht.2 c] at z; cases z
theorem plainM_dec {m : PkM} (t7 : m.til = 0) (hk : ∀ t, (t = true ↔ plainM m) → K (.bool t) h) : EvC Go.Proofs.Tryd.prog w0 59 #[.agg #[.string m.topic, .slice m.pa m.pay.length m.pc, .int .i64 m.qos, .bool m.ret, .int .i64 m.til]] K h := by
  refine f59_go _ _ _ _ _ _ _ _ (brB_of (fun z1 => brB_of (fun z2 => brB_of (fun z3 => brB_of (fun z4 => hk _ ?_) fun z => hk _ ?_) fun z => hk _ ?_) fun z => hk _ ?_) fun z => hk _ ?_)
  · have a := of_decide_eq_true z1
    have b : m.pay = [] := List.eq_nil_of_length_eq_zero (by simp at z2; rw [z2]; rfl)
    have c : m.qos = 0 := by simpa using z3
    have d : m.ret = false := by simpa using z4
    rw [t7]
    simp only [BEq.rfl, true_iff]
    exact ⟨a, b, c, d⟩
  · have d : m.ret = true := by simpa using z
    simp only [Bool.false_eq_true, false_iff]
    intro c; rw [c.2.2.2] at d; cases d
  · have d : m.qos ≠ 0 := by simpa using z
    simp only [Bool.false_eq_true, false_iff]
    exact fun c => d c.2.2.1
  · simp only [Bool.false_eq_true, false_iff]
    intro c; rw [c.2.1] at z; simp at z
  · simp only [Bool.false_eq_true, false_iff]
    exact fun c => of_decide_eq_false z c.1
/-- May, the document's. -/
theorem f24_spec {m : PkM} (w : Own w0 h X) (rm : ∀ h', Own w0 h' X → PkRd w0 h' m) (h1 : MayK m.key → ∀ h', Own w0 h' X → K (.bool true) h') (h0 : ¬ MayK m.key → ∀ h', Own w0 h' X → K (.bool false) h') :
    EvC Go.Proofs.Tryd.prog w0 24 #[m.agg] K h := by
  have bad : ¬ (I1 m ∧ I2 m ∧ I3 m ∧ I4 m ∧ I5 m ∧ I6 m ∧ I7 m ∧ I8 m) → ∀ h', Own w0 h' X → K (.bool false) h' := fun c => h0 fun y => c (may_eight.1 y)
  have fifteen : I1 m → I2 m → I3 m → I4 m → I5 m → ∀ h', Own w0 h' X → ∀ t, (t = true ↔ ¬ I6 m) → f24_15 w0 K t m.kind m.id m.dup m.topic m.pa m.pay.length m.pc m.qos m.ret m.til m.client m.clean m.alive m.will m.present m.code m.wa m.wants.length m.wc m.ca m.codes.length m.cc h' := fun i1 i2 i3 i4 i5 h' w' t ht => by
    refine f24_15_in _ _ _ _ _ _ _ _ _ _ _ _ _ _ _ _ _ _ _ _ _ _ _ _ (brB_of (fun z => bad (fun c => ht.1 z c.2.2.2.2.2.1) h' w') fun z => ?_)
    exact f61_spec w' rm (fun i7 i8 h2 w2 => ⟨_, rfl, h1 (may_eight.2 ⟨i1, i2, i3, i4, i5, iff_no ht z, i7, i8⟩) h2 w2⟩) fun c h2 w2 => ⟨_, rfl, bad (fun y => c y.2.2.2.2.2.2) h2 w2⟩
  have fourteen : I1 m → I2 m → I3 m → I4 m → I5 m → ∀ h', Own w0 h' X → f24_14 w0 K m.kind m.id m.dup m.topic m.pa m.pay.length m.pc m.qos m.ret m.til m.client m.clean m.alive m.will m.present m.code m.wa m.wants.length m.wc m.ca m.codes.length m.cc h' := fun i1 i2 i3 i4 i5 h' w' => by
    have go := fifteen i1 i2 i3 i4 i5 h' w'
    have ec : (m.code != 0) = true ↔ m.code ≠ 0 := by simp
    refine f24_14_in _ _ _ _ _ _ _ _ _ _ _ _ _ _ _ _ _ _ _ _ _ _ _ (brB_of (fun k => brB_of (fun p => go _ ?_) fun p => brB_of (fun c => go _ ?_) fun c => brB_of (fun a => go _ ?_) fun a => brB_of (fun b => go _ ?_) fun b => brB_of (fun q => by rw [p] at q; cases q) fun _ => go _ ?_) fun k => brB_of (fun a => go _ ?_) fun a => brB_of (fun b => go _ ?_) fun b => brB_of (fun p => go _ ?_) fun p => go _ ?_)
    · have k : m.kind ≠ 2 := by simpa using k
      simp only [true_iff]
      intro y; rw [(y.2 k).1] at p; cases p
    · have k : m.kind ≠ 2 := by simpa using k
      simp only [true_iff]
      intro y; exact ec.1 c (y.2 k).2
    · have k : m.kind ≠ 2 := by simpa using k
      have := of_decide_eq_true a
      simp only [true_iff]
      intro y; have := (y.2 k).2; omega
    · have k : m.kind ≠ 2 := by simpa using k
      have := of_decide_eq_true b
      simp only [true_iff]
      intro y; have := (y.2 k).2; omega
    · have k : m.kind ≠ 2 := by simpa using k
      have c : m.code = 0 := by simpa using c
      simp only [Bool.false_eq_true, false_iff, Classical.not_not]
      exact ⟨fun e => absurd e k, fun _ => ⟨p, c⟩⟩
    · have k : m.kind = 2 := by simpa using k
      have := of_decide_eq_true a
      simp only [true_iff]
      intro y; have := (y.1 k).1; omega
    · have k : m.kind = 2 := by simpa using k
      have := of_decide_eq_true b
      simp only [true_iff]
      intro y; have := (y.1 k).2.1; omega
    · have k : m.kind = 2 := by simpa using k
      have := of_decide_eq_false a
      have := of_decide_eq_false b
      rw [ec]
      constructor
      · intro c y; exact c ((y.1 k).2.2 p)
      · intro c y; exact c ⟨fun _ => ⟨by omega, by omega, fun _ => y⟩, fun e => absurd k e⟩
    · have k : m.kind = 2 := by simpa using k
      have := of_decide_eq_false a
      have := of_decide_eq_false b
      simp only [Bool.false_eq_true, false_iff, Classical.not_not]
      exact ⟨fun _ => ⟨by omega, by omega, fun y => by rw [p] at y; cases y⟩, fun e => absurd k e⟩
  have thirteen : I1 m → I2 m → I3 m → I4 m → ∀ h', Own w0 h' X → ∀ t, (t = true ↔ ¬ I5 m) → f24_13 w0 K t m.kind m.id m.dup m.topic m.pa m.pay.length m.pc m.qos m.ret m.til m.client m.clean m.alive m.will m.present m.code m.wa m.wants.length m.wc m.ca m.codes.length m.cc h' := fun i1 i2 i3 i4 h' w' t ht =>
    f24_13_in _ _ _ _ _ _ _ _ _ _ _ _ _ _ _ _ _ _ _ _ _ _ _ _ (brB_of (fun z => bad (fun c => ht.1 z c.2.2.2.2.1) h' w') fun z => fourteen i1 i2 i3 i4 (iff_no ht z) h' w')
  have twelve : I1 m → I2 m → I3 m → I4 m → ∀ h', Own w0 h' X → f24_12 w0 K (m.kind == 1) m.kind m.id m.dup m.topic m.pa m.pay.length m.pc m.qos m.ret m.til m.client m.clean m.alive m.will m.present m.code m.wa m.wants.length m.wc m.ca m.codes.length m.cc h' := fun i1 i2 i3 i4 h' w' => by
    have go := thirteen i1 i2 i3 i4 h' w'
    refine f24_12_in _ _ _ _ _ _ _ _ _ _ _ _ _ _ _ _ _ _ _ _ _ _ _ _ (brB_of (fun k => brB_of (fun c => go _ ?_) fun c => brB_of (fun d => go _ ?_) fun d => brB_of (fun a => go _ ?_) fun a => brB_of (fun v => go _ ?_) fun v => brB_of (fun q => by rw [q] at k; cases k) fun _ => go _ ?_) fun k => brB_of (fun _ => brB_of (fun a => go _ ?_) fun a => brB_of (fun b => go _ ?_) fun b => ?_) fun q => by rw [q] at k; cases k)
    · have k : m.kind ≠ 1 := by simpa using k
      have c : m.client ≠ ⟨#[]⟩ := by simpa using c
      simp only [true_iff]
      intro y; exact c (y.2 k).1
    · have k : m.kind ≠ 1 := by simpa using k
      simp only [true_iff]
      intro y; rw [(y.2 k).2.1] at d; cases d
    · have k : m.kind ≠ 1 := by simpa using k
      have a : m.alive ≠ 0 := by simpa using a
      simp only [true_iff]
      intro y; exact a (y.2 k).2.2.1
    · have k : m.kind ≠ 1 := by simpa using k
      simp only [true_iff]
      intro y; rw [(y.2 k).2.2.2] at v; cases v
    · have k : m.kind ≠ 1 := by simpa using k
      have c : m.client = ⟨#[]⟩ := by simpa using c
      have a : m.alive = 0 := by simpa using a
      simp only [Bool.false_eq_true, false_iff, Classical.not_not]
      exact ⟨fun e => absurd e k, fun _ => ⟨c, d, a, v⟩⟩
    · have k : m.kind = 1 := by simpa using k
      have := of_decide_eq_true a
      simp only [true_iff]
      intro y; have := (y.1 k).1; omega
    · have k : m.kind = 1 := by simpa using k
      have := of_decide_eq_true b
      simp only [true_iff]
      intro y; have := (y.1 k).2.1; omega
    · have k : m.kind = 1 := by simpa using k
      have ha := of_decide_eq_false a
      have hb := of_decide_eq_false b
      intro n hn b' hb' hbn
      have w1 := Own.new (o := .cells (intsOf m.client) n) w' hb' hbn
      have go2 := thirteen i1 i2 i3 i4 _ w1.tail
      have rd : Rd w0 _ (some ⟨b', 0, none⟩) (u8s m.client.data.toList) := lit_rd w1 hn
      have sl := slen m.client
      have f60 := f60_spec (K := fun x h'' => ∃ t : Bool, x = .bool t ∧ brB (!t) (f24_13 w0 K true m.kind m.id m.dup m.topic m.pa m.pay.length m.pc m.qos m.ret m.til m.client m.clean m.alive m.will m.present m.code m.wa m.wants.length m.wc m.ca m.codes.length m.cc h'') (f24_13 w0 K (decide ((64 : Int) < ((m.client.size : Nat) : Int))) m.kind m.id m.dup m.topic m.pa m.pay.length m.pc m.qos m.ret m.til m.client m.clean m.alive m.will m.present m.code m.wa m.wants.length m.wc m.ca m.codes.length m.cc h'')) (c := n) rd (by omega) ⟨_, rfl, brB_of (fun z => go2 _ ?_) fun z => go2 _ ?_⟩
      · rw [sl] at f60; exact f60
      · simp only [true_iff]
        intro y; rw [(y.1 k).2.2.2] at z; cases z
      · have z : textB m.client.data.toList = true := by simpa using z
        rw [decide_eq_true_iff]
        constructor
        · intro c y; have := (y.1 k).2.2.1; omega
        · intro c
          exact Classical.byContradiction fun d => c ⟨fun _ => ⟨by omega, by omega, by omega, z⟩, fun e => absurd k e⟩
  have eleven : I1 m → I2 m → I3 m → ∀ h', Own w0 h' X → ∀ t, (t = true ↔ ¬ I4 m) → f24_11 w0 K (m.kind == 1) t m.kind m.id m.dup m.topic m.pa m.pay.length m.pc m.qos m.ret m.til m.client m.clean m.alive m.will m.present m.code m.wa m.wants.length m.wc m.ca m.codes.length m.cc h' := fun i1 i2 i3 h' w' t ht =>
    f24_11_in _ _ _ _ _ _ _ _ _ _ _ _ _ _ _ _ _ _ _ _ _ _ _ _ _ (brB_of (fun z => bad (fun c => ht.1 z c.2.2.2.1) h' w') fun z => twelve i1 i2 i3 (iff_no ht z) h' w')
  have ten : I1 m → I2 m → I3 m → ∀ h', Own w0 h' X → f24_10 w0 K (m.kind == 3) (m.kind == 1) m.kind m.id m.dup m.topic m.pa m.pay.length m.pc m.qos m.ret m.til m.client m.clean m.alive m.will m.present m.code m.wa m.wants.length m.wc m.ca m.codes.length m.cc h' := fun i1 i2 i3 h' w' => by
    refine f24_10_in _ _ _ _ _ _ _ _ _ _ _ _ _ _ _ _ _ _ _ _ _ _ _ _ _ (brB_of (fun d => brB_of (fun k => eleven i1 i2 i3 h' w' _ ?_) fun k => eleven i1 i2 i3 h' w' _ ?_) fun d => eleven i1 i2 i3 h' w' _ ?_)
    · have k : m.kind ≠ 3 := by simpa using k
      simp only [true_iff]
      exact fun y => k (y d).1
    · have k : m.kind = 3 := by simpa using k
      rw [show ((m.qos == 0) = true) ↔ m.qos = 0 by simp]
      constructor
      · intro q y; exact (y d).2 q
      · intro c; exact Classical.byContradiction fun q => c fun _ => ⟨k, q⟩
    · simp only [Bool.false_eq_true, false_iff, Classical.not_not]
      intro e; rw [d] at e; cases e
  have nine : I1 m → I2 m → ∀ h', Own w0 h' X → ∀ t, (t = true ↔ ¬ I3 m) → f24_9 w0 K (m.kind == 3) (m.kind == 1) t m.kind m.id m.dup m.topic m.pa m.pay.length m.pc m.qos m.ret m.til m.client m.clean m.alive m.will m.present m.code m.wa m.wants.length m.wc m.ca m.codes.length m.cc h' := fun i1 i2 h' w' t ht =>
    f24_9_in _ _ _ _ _ _ _ _ _ _ _ _ _ _ _ _ _ _ _ _ _ _ _ _ _ _ (brB_of (fun z => bad (fun c => ht.1 z c.2.2.1) h' w') fun z => ten i1 i2 (iff_no ht z) h' w')
  have eight : I1 m → I2 m → ∀ h', Own w0 h' X → ∀ t, (t = true ↔ (m.kind = 3 ∨ (m.kind = 1 ∧ m.will = true))) → f24_8 w0 K (m.kind == 3) (m.kind == 1) t m.kind m.id m.dup m.topic m.pa m.pay.length m.pc m.qos m.ret m.til m.client m.clean m.alive m.will m.present m.code m.wa m.wants.length m.wc m.ca m.codes.length m.cc h' := fun i1 i2 h' w' t ht => by
    refine f24_8_in _ _ _ _ _ _ _ _ _ _ _ _ _ _ _ _ _ _ _ _ _ _ _ _ _ _ (brB_of (fun z => ?_) fun z => ?_)
    · have k := ht.1 z
      refine f58_spec w' fun h2 w2 => ⟨_, rfl, brB_of (fun a => nine i1 i2 h2 w2 _ ?_) fun a => brB_of (fun b => nine i1 i2 h2 w2 _ ?_) fun b => brB_of (fun c => nine i1 i2 h2 w2 _ ?_) fun c => brB_of (fun d => nine i1 i2 h2 w2 _ ?_) fun d => brB_of (fun q => by rw [z] at q; cases q) fun _ => nine i1 i2 h2 w2 _ ?_⟩
      · simp only [true_iff]
        intro y; rw [(y.1 k).1] at a; cases a
      · have := of_decide_eq_true b
        simp only [true_iff]
        intro y; have := (y.1 k).2.1; omega
      · have := of_decide_eq_true c
        simp only [true_iff]
        intro y; have := (y.1 k).2.2.1; omega
      · have := of_decide_eq_true d
        simp only [true_iff]
        intro y; have := (y.1 k).2.2.2; omega
      · have a : nameB m.topic = true := by simpa using a
        have hb := of_decide_eq_false b
        have hc := of_decide_eq_false c
        have hd := of_decide_eq_false d
        simp only [Bool.false_eq_true, false_iff, Classical.not_not]
        exact ⟨fun _ => ⟨a, by omega, by omega, by omega⟩, fun e => absurd k e⟩
    · have k : ¬ (m.kind = 3 ∨ (m.kind = 1 ∧ m.will = true)) := fun c => by rw [ht.2 c] at z; cases z
      refine brB_of (fun _ => plainM_dec i1.2.2 fun t ht => ⟨_, rfl, nine i1 i2 h' w' _ ?_⟩) fun q => by rw [z] at q; cases q
      have e : ((!t) = true) ↔ ¬ (t = true) := by cases t <;> simp
      rw [e, ht]
      constructor
      · intro c y; exact c (y.2 k)
      · intro c y; exact c ⟨fun e => absurd e k, fun _ => y⟩
  have five : I1 m → ∀ h', Own w0 h' X → ∀ t, (t = true ↔ ¬ I2 m) → f24_5 w0 K t m.kind m.id m.dup m.topic m.pa m.pay.length m.pc m.qos m.ret m.til m.client m.clean m.alive m.will m.present m.code m.wa m.wants.length m.wc m.ca m.codes.length m.cc h' := fun i1 h' w' t ht => by
    refine f24_5_in _ _ _ _ _ _ _ _ _ _ _ _ _ _ _ _ _ _ _ _ _ _ _ _ (brB_of (fun z => bad (fun c => ht.1 z c.2.1) h' w') fun z => f24_6_in _ _ _ _ _ _ _ _ _ _ _ _ _ _ _ _ _ _ _ _ _ _ _ (brB_of (fun k => eight i1 (iff_no ht z) h' w' _ ?_) fun k => brB_of (fun k1 => eight i1 (iff_no ht z) h' w' _ ?_) fun k1 => eight i1 (iff_no ht z) h' w' _ ?_))
    · have k : m.kind = 3 := by simpa using k
      simp [k]
    · have k1 : m.kind = 1 := by simpa using k1
      simp [k1]
    · have k : m.kind ≠ 3 := by simpa using k
      have k1 : m.kind ≠ 1 := by simpa using k1
      simp [k, k1]
  have four : I1 m → ∀ h', Own w0 h' X → ∀ t, (t = true ↔ ((4 ≤ m.kind ∧ m.kind ≤ 11) ∨ (m.kind = 3 ∧ m.qos ≠ 0))) → f24_4 w0 K t m.kind m.id m.dup m.topic m.pa m.pay.length m.pc m.qos m.ret m.til m.client m.clean m.alive m.will m.present m.code m.wa m.wants.length m.wc m.ca m.codes.length m.cc h' := fun i1 h' w' t ht => by
    refine f24_4_in _ _ _ _ _ _ _ _ _ _ _ _ _ _ _ _ _ _ _ _ _ _ _ _ (brB_of (fun z => five i1 h' w' _ ?_) fun z => brB_of (fun a => five i1 h' w' _ ?_) fun a => five i1 h' w' _ ?_)
    · simp only [true_iff]
      intro y
      cases t with
      | true =>
        have := y.1 (ht.1 rfl)
        have e : m.id = 0 := by simpa using z
        omega
      | false =>
        have := y.2 fun c => by have := ht.2 c; cases this
        have e : m.id ≠ 0 := by simpa using z
        exact e this
    · have a := of_decide_eq_true a
      simp only [true_iff]
      intro y
      cases t with
      | true => have := y.1 (ht.1 rfl); omega
      | false => have := y.2 fun c => by have := ht.2 c; cases this
                 omega
    · have a := of_decide_eq_false a
      rw [decide_eq_true_iff]
      cases t with
      | true =>
        have e : m.id ≠ 0 := by simpa using z
        constructor
        · intro c y; have := y.1 (ht.1 rfl); omega
        · intro c
          exact Classical.byContradiction fun d => c ⟨fun _ => ⟨by omega, by omega⟩, fun n => absurd (ht.1 rfl) n⟩
      | false =>
        have e : m.id = 0 := by simpa using z
        constructor
        · intro c; omega
        · intro c
          exact absurd ⟨(fun n => by have := ht.2 n; cases this), fun _ => e⟩ c
  have two : ∀ t, (t = true ↔ ¬ I1 m) → f24_2 w0 K t m.kind m.id m.dup m.topic m.pa m.pay.length m.pc m.qos m.ret m.til m.client m.clean m.alive m.will m.present m.code m.wa m.wants.length m.wc m.ca m.codes.length m.cc h := fun t ht => by
    refine f24_2_in _ _ _ _ _ _ _ _ _ _ _ _ _ _ _ _ _ _ _ _ _ _ _ _ (brB_of (fun z => bad (fun c => ht.1 z c.1) h w) fun z => f24_3_in _ _ _ _ _ _ _ _ _ _ _ _ _ _ _ _ _ _ _ _ _ _ _ (brB_of (fun k => brB_of (fun q => four (iff_no ht z) h w _ ?_) fun q => brB_of (fun a => ?_) fun a => four (iff_no ht z) h w _ ?_) fun k => brB_of (fun a => four (iff_no ht z) h w _ ?_) fun a => four (iff_no ht z) h w _ ?_))
    · have k : m.kind = 3 := by simpa using k
      have q : m.qos ≠ 0 := by simpa using q
      simp [k, q]
    · have k : m.kind = 3 := by simpa using k
      have := of_decide_eq_true a
      omega
    · have k : m.kind = 3 := by simpa using k
      have q : m.qos = 0 := by simpa using q
      simp [k, q]
    · have k : m.kind ≠ 3 := by simpa using k
      have a := of_decide_eq_true a
      simp [k, a]
    · have k : m.kind ≠ 3 := by simpa using k
      have a := of_decide_eq_false a
      simp [k, a]
  refine f24_go _ _ _ _ _ _ _ _ _ _ _ _ _ _ _ _ _ _ _ _ _ _ _ (brB_of (fun z => two _ ?_) fun z1 => brB_of (fun z => two _ ?_) fun z2 => two _ ?_)
  · have := of_decide_eq_true z
    simp only [true_iff]
    intro y; have := y.1; omega
  · have := of_decide_eq_true z
    simp only [true_iff]
    intro y; have := y.2.1; omega
  · have := of_decide_eq_false z1
    have := of_decide_eq_false z2
    rw [show ((m.til != 0) = true) ↔ m.til ≠ 0 by simp]
    constructor
    · intro c y; exact c y.2.2
    · intro c y; exact c ⟨by omega, by omega, y⟩
end
end Go.G.YtciepfobnaemmaaDoor
