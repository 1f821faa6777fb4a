/- The document's streams; bytes that every program must know; StreamNil. -/
import Derived.Test.YtciepfobnaemmaaDoorPL
import Derived.Test.YtciepfobnaemmaaDoorProg
set_option maxRecDepth 100000
namespace Go.G.YtciepfobnaemmaaDoor
open Go.RowKit
open Value (string slice int bool agg)
def f26_J : Nat → List Nat × Nat := jOf []



theorem f26_go {w0 : World} {K : Value → AH → Prop}  (h : AH)
  (hv : (newB w0 h (AB.cells [(slice none 0 0), (bool false)] 2) (fun a b => (K (Value.pointer (some (Addr.mk a 0 none))) b)))) :
  EvC Proofs.Tryd.prog w0 26 ([]).toArray K h := EvC_intro (P := Proofs.Tryd.prog) f26_J (Eq.mp (by kernel_rfl) hv)
def f30_J : Nat → List Nat × Nat := jOf []



theorem f30_go {w0 : World} {K : Value → AH → Prop} (a : Option Addr) (h : AH)
  (hv : (brB (Option.isNone a) (K (int .i64 (0 : Int)) h) (∃ b : Addr, ((a = (some b)) ∧ (∃ d : Option Addr, (∃ c : Nat, (∃ e : Nat, (((cellA w0 h (Addr.add b 0)) = (some (slice d c e))) ∧ (K (int .i64 ((c : Nat) : Int)) h))))))))) :
  EvC Proofs.Tryd.prog w0 30 ([(.pointer a)]).toArray K h := EvC_intro (P := Proofs.Tryd.prog) f30_J (Eq.mp (by kernel_rfl) hv)
def f29_J : Nat → List Nat × Nat := jOf [(4, (rn 12 10 (rn 27 13 [])), 0)]

def f29_4 (w0 : World) (K : Value → AH → Prop) (a : Option Addr) (b c : Nat) (d : Option Addr) (e g : Nat) (i k : Int) (h : AH) : Prop :=
  ∀ j : Nat → Value, LPk Proofs.Tryd.prog w0 (EvC Proofs.Tryd.prog w0) f29_J 29 K 4 (.v (.slice a b c) :: (.v (.slice d e g) :: (jv j 12 10 (.v (.int .i64 i) :: (.v (.int .i64 k) :: (jv j 27 13 [])))))) [] h

theorem f29_4_in {w0 : World} {K : Value → AH → Prop} (b : Option Addr) (c i : Nat) (d : Option Addr) (e k : Nat) (g a : Int) (h : AH)
  (hv : (brB (decide ((a < g))) (∃ m : Addr, ((b = (some m)) ∧ (((0 : Int) ≤ a) ∧ ((a < ((c : Nat) : Int)) ∧ (∃ n : Addr, ((d = (some n)) ∧ (((0 : Int) ≤ a) ∧ ((a < ((e : Nat) : Int)) ∧ ((∃ o : Int, (∃ p : Int, (∃ q : Bool, (∃ r : ByteArray, (∃ s : Option Addr, (∃ t : Nat, (∃ u : Nat, (∃ v : Int, (∃ x : Bool, (∃ y : Int, (∃ z : ByteArray, (∃ A : Bool, (∃ B : Int, (∃ C : Bool, (∃ D : Bool, (∃ E : Int, (∃ F : Option Addr, (∃ G : Nat, (∃ L : Nat, (∃ M : Option Addr, (∃ N : Nat, (∃ Q : Nat, ((((Array.size #[(int .i64 o), (int .i64 p), (bool q), (string r), (slice s t u), (int .i64 v), (bool x), (int .i64 y), (string z), (bool A), (int .i64 B), (bool C), (bool D), (int .i64 E), (slice F G L), (slice M N Q)]) = 16) ∧ (At w0 h (Addr.add m ((Int.toNat a) * 16)) [(int .i64 o), (int .i64 p), (bool q), (string r), (slice s t u), (int .i64 v), (bool x), (int .i64 y), (string z), (bool A), (int .i64 B), (bool C), (bool D), (int .i64 E), (slice F G L), (slice M N Q)])) ∧ (∃ R : Int, (∃ T : Int, (∃ U : Bool, (∃ V : ByteArray, (∃ Y : Option Addr, (∃ Z : Nat, (∃ a0 : Nat, (∃ a1 : Int, (∃ a2 : Bool, (∃ a3 : Int, (∃ a4 : ByteArray, (∃ a5 : Bool, (∃ a6 : Int, (∃ a7 : Bool, (∃ a8 : Bool, (∃ a9 : Int, (∃ b0 : Option Addr, (∃ b1 : Nat, (∃ b2 : Nat, (∃ b3 : Option Addr, (∃ b4 : Nat, (∃ b5 : Nat, ((((Array.size #[(int .i64 R), (int .i64 T), (bool U), (string V), (slice Y Z a0), (int .i64 a1), (bool a2), (int .i64 a3), (string a4), (bool a5), (int .i64 a6), (bool a7), (bool a8), (int .i64 a9), (slice b0 b1 b2), (slice b3 b4 b5)]) = 16) ∧ (At w0 h (Addr.add n ((Int.toNat a) * 16)) [(int .i64 R), (int .i64 T), (bool U), (string V), (slice Y Z a0), (int .i64 a1), (bool a2), (int .i64 a3), (string a4), (bool a5), (int .i64 a6), (bool a7), (bool a8), (int .i64 a9), (slice b0 b1 b2), (slice b3 b4 b5)])) ∧ (EvC Proofs.Tryd.prog w0 16 #[(agg #[(int .i64 o), (int .i64 p), (bool q), (string r), (slice s t u), (int .i64 v), (bool x), (int .i64 y), (string z), (bool A), (int .i64 B), (bool C), (bool D), (int .i64 E), (slice F G L), (slice M N Q)]), (agg #[(int .i64 R), (int .i64 T), (bool U), (string V), (slice Y Z a0), (int .i64 a1), (bool a2), (int .i64 a3), (string a4), (bool a5), (int .i64 a6), (bool a7), (bool a8), (int .i64 a9), (slice b0 b1 b2), (slice b3 b4 b5)])] (fun i4 i0 => (∃ i1 : Bool, ((i4 = (bool i1)) ∧ (brB (!i1) (K (bool false) i0) (f29_4 w0 K b c i d e k g (IntKind.wrap .i64 (a + (1 : Int))) i0))))) h))))))))))))))))))))))))))))))))))))))))))))))) ∧ (∃ b6 : Int, (∃ b7 : Int, (∃ b8 : Bool, (∃ b9 : ByteArray, (∃ c0 : Option Addr, (∃ c1 : Nat, (∃ c2 : Nat, (∃ c3 : Int, (∃ c4 : Bool, (∃ c5 : Int, (∃ c6 : ByteArray, (∃ c7 : Bool, (∃ c8 : Int, (∃ c9 : Bool, (∃ d0 : Bool, (∃ d1 : Int, (∃ d2 : Option Addr, (∃ d3 : Nat, (∃ d4 : Nat, (∃ d5 : Option Addr, (∃ d6 : Nat, (∃ d7 : Nat, ((((Array.size #[(int .i64 b6), (int .i64 b7), (bool b8), (string b9), (slice c0 c1 c2), (int .i64 c3), (bool c4), (int .i64 c5), (string c6), (bool c7), (int .i64 c8), (bool c9), (bool d0), (int .i64 d1), (slice d2 d3 d4), (slice d5 d6 d7)]) = 16) ∧ (At w0 h (Addr.add n ((Int.toNat a) * 16)) [(int .i64 b6), (int .i64 b7), (bool b8), (string b9), (slice c0 c1 c2), (int .i64 c3), (bool c4), (int .i64 c5), (string c6), (bool c7), (int .i64 c8), (bool c9), (bool d0), (int .i64 d1), (slice d2 d3 d4), (slice d5 d6 d7)])) ∧ (∃ d8 : Int, (∃ d9 : Int, (∃ e0 : Bool, (∃ e1 : ByteArray, (∃ e2 : Option Addr, (∃ e3 : Nat, (∃ e4 : Nat, (∃ e5 : Int, (∃ e6 : Bool, (∃ e7 : Int, (∃ e8 : ByteArray, (∃ e9 : Bool, (∃ g0 : Int, (∃ g1 : Bool, (∃ g2 : Bool, (∃ g3 : Int, (∃ g4 : Option Addr, (∃ g5 : Nat, (∃ g6 : Nat, (∃ g7 : Option Addr, (∃ g8 : Nat, (∃ g9 : Nat, ((((Array.size #[(int .i64 d8), (int .i64 d9), (bool e0), (string e1), (slice e2 e3 e4), (int .i64 e5), (bool e6), (int .i64 e7), (string e8), (bool e9), (int .i64 g0), (bool g1), (bool g2), (int .i64 g3), (slice g4 g5 g6), (slice g7 g8 g9)]) = 16) ∧ (At w0 h (Addr.add m ((Int.toNat a) * 16)) [(int .i64 d8), (int .i64 d9), (bool e0), (string e1), (slice e2 e3 e4), (int .i64 e5), (bool e6), (int .i64 e7), (string e8), (bool e9), (int .i64 g0), (bool g1), (bool g2), (int .i64 g3), (slice g4 g5 g6), (slice g7 g8 g9)])) ∧ (EvC Proofs.Tryd.prog w0 16 #[(agg #[(int .i64 d8), (int .i64 d9), (bool e0), (string e1), (slice e2 e3 e4), (int .i64 e5), (bool e6), (int .i64 e7), (string e8), (bool e9), (int .i64 g0), (bool g1), (bool g2), (int .i64 g3), (slice g4 g5 g6), (slice g7 g8 g9)]), (agg #[(int .i64 b6), (int .i64 b7), (bool b8), (string b9), (slice c0 c1 c2), (int .i64 c3), (bool c4), (int .i64 c5), (string c6), (bool c7), (int .i64 c8), (bool c9), (bool d0), (int .i64 d1), (slice d2 d3 d4), (slice d5 d6 d7)])] (fun i5 i2 => (∃ i3 : Bool, ((i5 = (bool i3)) ∧ (brB (!i3) (K (bool false) i2) (f29_4 w0 K b c i d e k g (IntKind.wrap .i64 (a + (1 : Int))) i2))))) h)))))))))))))))))))))))))))))))))))))))))))))))))))))))) (K (bool true) h))) :
  f29_4 w0 K b c i d e k g a h := fun j => LP_intro (P := Proofs.Tryd.prog) (Eq.mp (by kernel_rfl) hv)

theorem f29_go {w0 : World} {K : Value → AH → Prop} (c : Option Addr) (a d : Nat) (e : Option Addr) (b g : Nat) (h : AH)
  (hv : (brB (((a : Nat) : Int) != ((b : Nat) : Int)) (K (bool false) h) (f29_4 w0 K c a d e b g ((a : Nat) : Int) (0 : Int) h))) :
  EvC Proofs.Tryd.prog w0 29 ([(.slice c a d), (.slice e b g)]).toArray K h := EvC_intro (P := Proofs.Tryd.prog) f29_J (Eq.mp (by kernel_rfl) hv)
def f28_J : Nat → List Nat × Nat := jOf [(5, (rn 6 5 (rn 101 94 [])), 0), (9, (rn 6 5 (rn 48 38 (rn 101 52 []))), 0), (10, (rn 6 5 (rn 101 91 [])), 0), (14, (rn 6 5 (rn 101 90 [])), 1)]

def f28_5 (w0 : World) (K : Value → AH → Prop) (a b : Option Addr) (c d : Nat) (h : AH) : Prop :=
  ∀ j : Nat → Value, LPk Proofs.Tryd.prog w0 (EvC Proofs.Tryd.prog w0) f28_J 28 K 5 (.v (.pointer a) :: (jv j 6 5 (.v (.slice b c d) :: (jv j 101 94 [])))) [] h

def f28_9 (w0 : World) (K : Value → AH → Prop) (a b : Option Addr) (c d : Nat) (e g i : Int) (k : Bool) (h : AH) : Prop :=
  ∀ j : Nat → Value, LPk Proofs.Tryd.prog w0 (EvC Proofs.Tryd.prog w0) f28_J 28 K 9 (.v (.pointer a) :: (jv j 6 5 (.v (.slice b c d) :: (.v (.int .i64 e) :: (.v (.int .i64 g) :: (.v (.int .i64 i) :: (jv j 48 38 (.v (.bool k) :: (jv j 101 52 []))))))))) [] h

def f28_10 (w0 : World) (K : Value → AH → Prop) (a b : Option Addr) (c d : Nat) (e g i : Int) (h : AH) : Prop :=
  ∀ j : Nat → Value, LPk Proofs.Tryd.prog w0 (EvC Proofs.Tryd.prog w0) f28_J 28 K 10 (.v (.pointer a) :: (jv j 6 5 (.v (.slice b c d) :: (.v (.int .i64 e) :: (.v (.int .i64 g) :: (.v (.int .i64 i) :: (jv j 101 91 []))))))) [] h

def f28_14 (w0 : World) (K : Value → AH → Prop) (a b : Option Addr) (c d : Nat) (e g : Int) (i k m : Int) (n : Bool) (o : ByteArray) (p : Option Addr) (q r : Nat) (s : Int) (t : Bool) (u : Int) (x : ByteArray) (y : Bool) (z : Int) (A B : Bool) (C : Int) (D : Option Addr) (E F : Nat) (G : Option Addr) (L M : Nat) (h : AH) : Prop :=
  ∀ j : Nat → Value, LPk Proofs.Tryd.prog w0 (EvC Proofs.Tryd.prog w0) f28_J 28 K 14 (.v (.pointer a) :: (jv j 6 5 (.v (.slice b c d) :: (.v (.int .i64 e) :: (.v (.int .i64 g) :: (.v (.int .i64 i) :: (.bp 0 0 :: (jv j 101 90 [])))))))) [some [(.int .i64 k), (.int .i64 m), (.bool n), (.string o), (.slice p q r), (.int .i64 s), (.bool t), (.int .i64 u), (.string x), (.bool y), (.int .i64 z), (.bool A), (.bool B), (.int .i64 C), (.slice D E F), (.slice G L M)]] h

theorem f28_5_in {w0 : World} {K : Value → AH → Prop} (a b : Option Addr) (c d : Nat) (h : AH)
  (hv : (∃ o : Addr, ((a = (some o)) ∧ (∃ s : Option Addr, (∃ p : Nat, (∃ t : Nat, (((cellA w0 h (Addr.add o 0)) = (some (slice s p t))) ∧ (brB (decide (((0 : Int) < ((p : Nat) : Int)))) (∃ q : Addr, ((a = (some q)) ∧ (∃ r : Option Addr, (∃ i : Nat, (∃ k : Nat, (((cellA w0 h (Addr.add q 0)) = (some (slice r i k))) ∧ (((0 : Int) ≤ (1 : Int)) ∧ (((1 : Int) ≤ ((i : Nat) : Int)) ∧ (EvC Proofs.Tryd.prog w0 20 #[(slice (cutA 1 r k 1) (i - 1) (k - 1))] (fun u m => (∃ g : Int, (∃ n : Int, (∃ e : Int, ((u = (Value.tuple #[(int .i64 g), (int .i64 n), (int .i64 e)])) ∧ (brB (e == (5 : Int)) (K (Value.tuple #[(slice b c d), (int .i64 (0 : Int))]) m) (brB (e == (0 : Int)) (f28_9 w0 K a b c d g n e (decide (((1024 : Int) < g))) m) (f28_9 w0 K a b c d g n e false m)))))))) h))))))))) (K (Value.tuple #[(slice b c d), (int .i64 (0 : Int))]) h))))))))) :
  f28_5 w0 K a b c d h := fun j => LP_intro (P := Proofs.Tryd.prog) (Eq.mp (by kernel_rfl) hv)

theorem f28_9_in {w0 : World} {K : Value → AH → Prop} (a b : Option Addr) (c d : Nat) (e g i : Int) (k : Bool) (h : AH)
  (hv : (brB k (f28_10 w0 K a b c d e g (2 : Int) h) (f28_10 w0 K a b c d e g i h))) :
  f28_9 w0 K a b c d e g i k h := fun j => LP_intro (P := Proofs.Tryd.prog) (Eq.mp (by kernel_rfl) hv)

theorem f28_10_in {w0 : World} {K : Value → AH → Prop} (c d : Option Addr) (e g : Nat) (a b i : Int) (h : AH)
  (hv : (brB (i == (0 : Int)) (∃ m : Addr, ((c = (some m)) ∧ (∃ Y : Option Addr, (∃ n : Nat, (∃ Z : Nat, (((cellA w0 h (Addr.add m 0)) = (some (slice Y n Z))) ∧ (brB (decide ((((n : Nat) : Int) < (IntKind.wrap .i64 ((IntKind.wrap .i64 ((1 : Int) + b)) + a))))) (K (Value.tuple #[(slice d e g), (int .i64 (0 : Int))]) h) (∃ o : Addr, ((c = (some o)) ∧ (∃ p : Option Addr, (∃ a0 : Nat, (∃ k : Nat, (((cellA w0 h (Addr.add o 0)) = (some (slice p a0 k))) ∧ (((0 : Int) ≤ (IntKind.wrap .i64 ((IntKind.wrap .i64 ((1 : Int) + b)) + a))) ∧ (((IntKind.wrap .i64 ((IntKind.wrap .i64 ((1 : Int) + b)) + a)) ≤ ((k : Nat) : Int)) ∧ (EvC Proofs.Tryd.prog w0 15 #[(slice p (Int.toNat (IntKind.wrap .i64 ((IntKind.wrap .i64 ((1 : Int) + b)) + a))) k)] (fun a1 a2 => (∃ q : Int, (∃ r : Int, (∃ s : Bool, (∃ t : ByteArray, (∃ u : Option Addr, (∃ v : Nat, (∃ x : Nat, (∃ y : Int, (∃ z : Bool, (∃ A : Int, (∃ B : ByteArray, (∃ C : Bool, (∃ D : Int, (∃ E : Bool, (∃ F : Bool, (∃ L : Int, (∃ M : Option Addr, (∃ N : Nat, (∃ Q : Nat, (∃ R : Option Addr, (∃ T : Nat, (∃ U : Nat, (∃ V : Int, ((a1 = (Value.tuple #[(agg #[(int .i64 q), (int .i64 r), (bool s), (string t), (slice u v x), (int .i64 y), (bool z), (int .i64 A), (string B), (bool C), (int .i64 D), (bool E), (bool F), (int .i64 L), (slice M N Q), (slice R T U)]), (int .i64 V)])) ∧ (f28_14 w0 K c d e g a b V q r s t u v x y z A B C D E F L M N Q R T U a2)))))))))))))))))))))))))) h)))))))))))))))) (f28_14 w0 K c d e g a b i (0 : Int) (0 : Int) false (ByteArray.mk #[]) none 0 0 (0 : Int) false (0 : Int) (ByteArray.mk #[]) false (0 : Int) false false (0 : Int) none 0 0 none 0 0 h))) :
  f28_10 w0 K c d e g a b i h := fun j => LP_intro (P := Proofs.Tryd.prog) (Eq.mp (by kernel_rfl) hv)

theorem f28_14_in {w0 : World} {K : Value → AH → Prop} (g o : Option Addr) (k p : Nat) (a b : Int) (q x y : Int) (z : Bool) (A : ByteArray) (B : Option Addr) (C D : Nat) (E : Int) (F : Bool) (L : Int) (M : ByteArray) (N : Bool) (Q : Int) (R T : Bool) (U : Int) (V : Option Addr) (Y Z : Nat) (a0 : Option Addr) (a1 a2 : Nat) (h : AH)
  (hv : (brB (q != (0 : Int)) (∃ c : Addr, ((g = (some c)) ∧ (∃ m : List Go.Value, (∃ r : Nat, (((Array.size (Go.World.heap w0)) ≤ (Addr.block (Addr.add c 1))) ∧ (((none : Option Nat) = none) ∧ (((h (Addr.block (Addr.add c 1))) = (some (AB.cells m r))) ∧ ((((Addr.off (Addr.add c 1)) + 1) ≤ (List.length m)) ∧ (∃ d : Addr, ((g = (some d)) ∧ (∃ s : List Go.Value, (∃ a3 : Nat, (((Array.size (Go.World.heap w0)) ≤ (Addr.block (Addr.add d 0))) ∧ (((Addr.spot (Addr.add d 0)) = none) ∧ (((AH.put h (Addr.block (Addr.add c 1)) (AB.cells (setCells m (Addr.off (Addr.add c 1)) [(bool true)]) r) (Addr.block (Addr.add d 0))) = (some (AB.cells s a3))) ∧ ((((Addr.off (Addr.add d 0)) + 1) ≤ (List.length s)) ∧ (K (Value.tuple #[(slice o k p), (int .i64 q)]) (AH.put (AH.put h (Addr.block (Addr.add c 1)) (AB.cells (setCells m (Addr.off (Addr.add c 1)) [(bool true)]) r)) (Addr.block (Addr.add d 0)) (AB.cells (setCells s (Addr.off (Addr.add d 0)) [(slice none 0 0)]) a3))))))))))))))))))) (App w0 h 16 184 o k p 1 [(int .i64 x), (int .i64 y), (bool z), (string A), (slice B C D), (int .i64 E), (bool F), (int .i64 L), (string M), (bool N), (int .i64 Q), (bool R), (bool T), (int .i64 U), (slice V Y Z), (slice a0 a1 a2)] (fun a6 a7 t => (∃ a4 : Addr, ((g = (some a4)) ∧ (∃ u : Option Addr, (∃ n : Nat, (∃ i : Nat, (((cellA w0 t (Addr.add a4 0)) = (some (slice u n i))) ∧ (((0 : Int) ≤ (IntKind.wrap .i64 ((IntKind.wrap .i64 ((1 : Int) + b)) + a))) ∧ (((IntKind.wrap .i64 ((IntKind.wrap .i64 ((1 : Int) + b)) + a)) ≤ ((n : Nat) : Int)) ∧ (∃ e : Addr, ((g = (some e)) ∧ (∃ v : List Go.Value, (∃ a5 : Nat, (((Array.size (Go.World.heap w0)) ≤ (Addr.block (Addr.add e 0))) ∧ (((Addr.spot (Addr.add e 0)) = none) ∧ (((t (Addr.block (Addr.add e 0))) = (some (AB.cells v a5))) ∧ ((((Addr.off (Addr.add e 0)) + (Array.size #[(slice (cutA 1 u i (Int.toNat (IntKind.wrap .i64 ((IntKind.wrap .i64 ((1 : Int) + b)) + a)))) (n - (Int.toNat (IntKind.wrap .i64 ((IntKind.wrap .i64 ((1 : Int) + b)) + a)))) (i - (Int.toNat (IntKind.wrap .i64 ((IntKind.wrap .i64 ((1 : Int) + b)) + a)))))])) ≤ (List.length v)) ∧ (f28_5 w0 K g a6 (k + 1) a7 (AH.put t (Addr.block (Addr.add e 0)) (AB.cells (setCells v (Addr.off (Addr.add e 0)) [(slice (cutA 1 u i (Int.toNat (IntKind.wrap .i64 ((IntKind.wrap .i64 ((1 : Int) + b)) + a)))) (n - (Int.toNat (IntKind.wrap .i64 ((IntKind.wrap .i64 ((1 : Int) + b)) + a)))) (i - (Int.toNat (IntKind.wrap .i64 ((IntKind.wrap .i64 ((1 : Int) + b)) + a)))))]) a5))))))))))))))))))))))) :
  f28_14 w0 K g o k p a b q x y z A B C D E F L M N Q R T U V Y Z a0 a1 a2 h := fun j => LP_intro (P := Proofs.Tryd.prog) (Eq.mp (by kernel_rfl) hv)

theorem f28_go {w0 : World} {K : Value → AH → Prop} (c g : Option Addr) (d t : Nat) (h : AH)
  (hv : (∃ i : Addr, ((c = (some i)) ∧ (∃ k : Bool, (((cellA w0 h (Addr.add i 1)) = (some (bool k))) ∧ (brB k (K (Value.tuple #[(slice none 0 0), (int .i64 (16 : Int))]) h) (∃ m : Addr, ((c = (some m)) ∧ (∃ n : Option Addr, (∃ b : Nat, (∃ u : Nat, (((cellA w0 h (Addr.add m 0)) = (some (slice n b u))) ∧ (rowsOf w0 h 1 n b (fun v => (App w0 h 1 1 none 0 0 b v (fun x y o => (rowsOf w0 o 1 g d (fun z => (App w0 o 1 1 x (0 + b) y d z (fun p q r => (∃ a : Addr, ((c = (some a)) ∧ (∃ e : List Go.Value, (∃ s : Nat, (((Array.size (Go.World.heap w0)) ≤ (Addr.block (Addr.add a 0))) ∧ (((Addr.spot (Addr.add a 0)) = none) ∧ (((r (Addr.block (Addr.add a 0))) = (some (AB.cells e s))) ∧ ((((Addr.off (Addr.add a 0)) + (Array.size #[(slice p ((0 + b) + d) q)])) ≤ (List.length e)) ∧ (f28_5 w0 K c none 0 0 (AH.put r (Addr.block (Addr.add a 0)) (AB.cells (setCells e (Addr.off (Addr.add a 0)) [(slice p ((0 + b) + d) q)]) s))))))))))))))))))))))))))))))) :
  EvC Proofs.Tryd.prog w0 28 ([(.pointer c), (.slice g d t)]).toArray K h := EvC_intro (P := Proofs.Tryd.prog) f28_J (Eq.mp (by kernel_rfl) hv)
/-! ### the document's stream; Feed; Left; the same rows -/
theorem whole_cons {r : List UInt8} {x : UInt8} : wholeL (x :: r) = if (lenS r).2.2 = 5 then (0, 0) else if (lenS r).2.2 ≠ 0 then (0, (lenS r).2.2) else if 1024 < (lenS r).1 then (0, 2) else if r.length < (lenS r).2.1 + (lenS r).1 then (0, 0) else (1 + (lenS r).2.1 + (lenS r).1, 0) := rfl
section
variable {w0 : World} {K : Value → AH → Prop} {h : AH} {R X : List (Nat × AB)} {c b : Nat}
/-- Feed. -/
theorem f27_spec {buf x : List UInt8} {p a1 : Option Addr} {c1 : Nat} (T : TabOk w0) (vb : SlV 1 p buf.length c (u8s buf)) (w : Own w0 h (stB b p buf.length c false :: (slB p (u8s buf) (c * 1) ++ X))) (r : Rdr w0 R a1 c1 x) (hs : R ⊆ X) (hl : buf.length + x.length ≤ 100000000000)
    (hk : ∀ h' a c' ms p c, ms.map PkM.key = (feedL (buf ++ x)).1 → PksV a c' ms → SlV 1 p (feedL (buf ++ x)).2.2.length c (u8s (feedL (buf ++ x)).2.2) → Own w0 h' (stB b p (feedL (buf ++ x)).2.2.length c (decide ((feedL (buf ++ x)).2.1 ≠ 0)) :: (slB p (u8s (feedL (buf ++ x)).2.2) (c * 1) ++ (outP a c' ms ++ X))) → K (.tuple #[.slice a ms.length c', .int .i64 (feedL (buf ++ x)).2.1]) h') :
    EvC Go.Proofs.Tryd.prog w0 27 #[.pointer (some ⟨b, 0, none⟩), .slice a1 x.length c1] K h := by
  refine f27_go _ _ _ _ _ (brB_of (fun z => by cases z) fun _ => ⟨_, rfl, _, w.cell0 rfl, brB_of (fun z => by cases z) fun _ => ⟨_, rfl, _, _, _, w.cell0 rfl, ?_⟩⟩)
  have rx : Rd w0 h a1 (u8s x) := r.at w (sub_cons (sub_app hs))
  refine rowsOf_of rx (by rw [u8s_length, Nat.mul_one]) (App_mid (cs := [_]) vb w (by omega) (by omega) (by rw [u8s_length, Nat.mul_one]) (u8s_cell _) fun a2 c2 h2 v2 w2 => ?_)
  have ex : u8s buf ++ u8s x = u8s (buf ++ x) := (u8s_app _ _).symm
  have el : (buf ++ x).length = buf.length + x.length := List.length_append
  rw [ex] at v2 w2
  have w2' : Own w0 h2 (stB b p buf.length c false :: (slB a2 (u8s (buf ++ x)) (c2 * 1) ++ X)) := w2
  refine ⟨_, rfl, _, _, w2'.ge, rfl, w2'.hd, by simp [Addr.add], ?_⟩
  have w3 := Own.put' (o' := .cells [.slice a2 (buf.length + x.length) c2, .bool false] 2) w2'
  rw [← el] at v2 w3 ⊢
  generalize buf ++ x = l at *
  exact feed_loop (K := K) (b := b) (X := X) T (feedL l) hk l.length l [] none 0 a2 c2 _ (Nat.le_refl _) (by simp; omega) rfl PksV.nil v2 w3
theorem f27_bad {p a1 : Option Addr} {n n1 c1 : Nat} (w : Own w0 h (stB b p n c true :: X)) (hk : K (.tuple #[.slice none 0 0, .int .i64 16]) h) : EvC Go.Proofs.Tryd.prog w0 27 #[.pointer (some ⟨b, 0, none⟩), .slice a1 n1 c1] K h :=
  f27_go _ _ _ _ _ (brB_of (fun z => by cases z) fun _ => ⟨_, rfl, _, w.cell0 rfl, brB_of (fun _ => hk) fun z => by cases z⟩)
theorem f28_bad {p a1 : Option Addr} {n n1 c1 : Nat} (w : Own w0 h (stB b p n c true :: X)) (hk : K (.tuple #[.slice none 0 0, .int .i64 16]) h) : EvC Go.Proofs.Tryd.prog w0 28 #[.pointer (some ⟨b, 0, none⟩), .slice a1 n1 c1] K h :=
  f28_go _ _ _ _ _ ⟨_, rfl, _, w.cell0 rfl, brB_of (fun _ => hk) fun z => by cases z⟩
theorem f27_nil {a1 : Option Addr} {n c1 : Nat} (hk : K (.tuple #[.slice none 0 0, .int .i64 1]) h) : EvC Go.Proofs.Tryd.prog w0 27 #[.pointer none, .slice a1 n c1] K h :=
  f27_go _ _ _ _ _ (brB_of (fun _ => hk) fun z => by cases z)
theorem f30_spec {p : Option Addr} {n : Nat} {bad : Bool} (w : Own w0 h (stB b p n c bad :: X)) (hk : K (.int .i64 ((n : Nat) : Int)) h) : EvC Go.Proofs.Tryd.prog w0 30 #[.pointer (some ⟨b, 0, none⟩)] K h :=
  f30_go _ _ (brB_of (fun z => by cases z) fun _ => ⟨_, rfl, _, _, _, w.cell0 rfl, hk⟩)
theorem f30_nil (hk : K (.int .i64 0) h) : EvC Go.Proofs.Tryd.prog w0 30 #[.pointer none] K h :=
  f30_go _ _ (brB_of (fun _ => hk) fun z => by cases z)
theorem f26_spec (w : Own w0 h X) (hk : ∀ h' b, Own w0 h' (stB b none 0 0 false :: X) → K (.pointer (some ⟨b, 0, none⟩)) h') : EvC Go.Proofs.Tryd.prog w0 26 #[] K h :=
  f26_go _ fun b hb hn => hk _ b (Own.new w hb hn)
/-- The packets of two slices are the same. -/
theorem f29_spec {a a' : Option Addr} {c c' : Nat} {ms ns : List PkM} (ha : Rd w0 h a (ms.flatMap PkM.cells)) (hb : Rd w0 h a' (ns.flatMap PkM.cells)) (hl : ms.length ≤ 1000000000000) (e : ms.map PkM.key = ns.map PkM.key) (rm : ∀ m ∈ ms, PkRd w0 h m) (rn : ∀ m ∈ ns, PkRd w0 h m) (hk : K (.bool true) h) :
    EvC Go.Proofs.Tryd.prog w0 29 #[.slice a ms.length c, .slice a' ns.length c'] K h := by
  have en : ms.length = ns.length := by have := congrArg List.length e; simpa using this
  have loop : ∀ (n i : Nat), i + n = ms.length → f29_4 w0 K a ms.length c a' ns.length c' ((ms.length : Nat) : Int) ((i : Nat) : Int) h := fun n => by
    induction n with
    | zero => exact fun i hi => f29_4_in _ _ _ _ _ _ _ _ _ (brB_of (fun z => by have := of_decide_eq_true z; omega) fun _ => hk)
    | succ n ih =>
      intro i hi
      have g1 : ms[i]? = some ms[i] := List.getElem?_eq_getElem _
      have g2 : ns[i]? = some (ns[i]'(by omega)) := List.getElem?_eq_getElem _
      have ek : (ms[i]).key = (ns[i]'(by omega)).key := by
        have h1 : (ms.map PkM.key)[i]? = some (ms[i]).key := by rw [List.getElem?_map, g1]; rfl
        have h2 : (ns.map PkM.key)[i]? = some (ns[i]'(by omega)).key := by rw [List.getElem?_map, g2]; rfl
        rw [e, h2] at h1
        exact (Option.some.inj h1).symm
      have r1 := rm _ (List.mem_of_getElem? g1)
      have r2 := rn _ (List.mem_of_getElem? g2)
      obtain ⟨ad, had, hat⟩ := rowLoad (enc := PkM.cells) (k := 16) (fun _ => rfl) (by decide) ha g1
      obtain ⟨bd, hbd, hbt⟩ := rowLoad (enc := PkM.cells) (k := 16) (fun _ => rfl) (by decide) hb g2
      generalize ms[i] = x at *
      generalize ns[i]'(by omega) = y at *
      have nxt := ih (i + 1) (by omega)
      have fin : ∀ {u v : PkM}, PkRd w0 h u → PkRd w0 h v → u.key = v.key → EvC Go.Proofs.Tryd.prog w0 16 #[u.agg, v.agg] (fun v h' => ∃ t : Bool, v = .bool t ∧ brB (!t) (K (.bool false) h') (f29_4 w0 K a ms.length c a' ns.length c' ((ms.length : Nat) : Int) (IntKind.i64.wrap (((i : Nat) : Int) + 1)) h')) h := fun ru rv e =>
        f16_spec ru rv e ⟨_, rfl, brB_of (fun z => by cases z) fun _ => by rw [wrapS (by omega)]; exact nxt⟩
      refine f29_4_in _ _ _ _ _ _ _ _ _ (brB_of (fun _ => ⟨ad, had, by omega, by omega, bd, hbd, by omega, by omega, ⟨_, _, _, _, _, _, _, _, _, _, _, _, _, _, _, _, _, _, _, _, _, _, ⟨rfl, hat⟩, _, _, _, _, _, _, _, _, _, _, _, _, _, _, _, _, _, _, _, _, _, _, ⟨rfl, hbt⟩, fin r1 r2 ek⟩, ⟨_, _, _, _, _, _, _, _, _, _, _, _, _, _, _, _, _, _, _, _, _, _, ⟨rfl, hbt⟩, _, _, _, _, _, _, _, _, _, _, _, _, _, _, _, _, _, _, _, _, _, _, ⟨rfl, hat⟩, fin r1 r2 ek⟩⟩) fun z => by have := of_decide_eq_false z; omega)
  exact f29_go _ _ _ _ _ _ _ (brB_of (fun z => by rw [en] at z; simp at z) fun _ => loop ms.length 0 (by omega))
end
section
variable {w0 : World} {K : Value → AH → Prop} {h : AH} {R X : List (Nat × AB)} {c b : Nat}
/-- The document's Feed, from a round on. -/
theorem rfeed_loop (T : TabOk w0) (fin : List Pk × Int × List UInt8)
    (hk : ∀ h' a c' ms R' p c, ms.map PkM.key = fin.1 → PksV a c' ms → Rdr w0 R' p c fin.2.2 → Own w0 h' (stB b p fin.2.2.length c (decide (fin.2.1 ≠ 0)) :: (R' ++ (outP a c' ms ++ X))) → K (.tuple #[.slice a ms.length c', .int .i64 fin.2.1]) h') :
    ∀ (f : Nat) (l : List UInt8) (ms : List PkM) (a : Option Addr) (c' : Nat) (p : Option Addr) (c : Nat) (h : AH), l.length ≤ f → l.length + ms.length ≤ 100000000000 → (ms.map PkM.key ++ (feedF f l).1, (feedF f l).2) = fin → PksV a c' ms → Rdr w0 R p c l → Own w0 h (stB b p l.length c false :: (R ++ (outP a c' ms ++ X))) →
      f28_5 w0 K (some ⟨b, 0, none⟩) a ms.length c' h
  | f, l, ms, a, c', p, c, h, hf, hsz, he, v, rl, w => by
    have sub1 : R ⊆ stB b p l.length c false :: (R ++ (outP a c' ms ++ X)) := fun x hx => List.mem_cons_of_mem _ (List.mem_append_left _ hx)
    have hcap := rl.cap
    refine f28_5_in _ _ _ _ _ ⟨_, rfl, _, _, _, w.cell0 rfl, brB_of (fun z => ?_) fun z => ?_⟩
    · match l, hf, hsz, he, rl, w, sub1, hcap, z with
      | [], _, _, _, _, _, _, _, z => simp at z
      | x :: t, hf, hsz, he, rl, w, sub1, hcap, _ =>
      match f, hf, he with
      | 0, hf, _ => simp at hf
      | f + 1, hf, he =>
      have hlen : (x :: t).length = t.length + 1 := List.length_cons ..
      have rd1 : Rd w0 h (cutA 1 p c 1) (u8s t) := rd8_cut (k := 1) (rl.at w sub1) rl.cap (by simp)
      have el : (x :: t).length - 1 = t.length := by simp
      refine ⟨_, rfl, _, _, _, w.cell0 rfl, by omega, by omega, ?_⟩
      rw [el]
      have ew := whole_cons (r := t) (x := x)
      have vl := lenS_le t
      have vp : (lenS t).2.2 = 0 → 1 ≤ (lenS t).2.1 := fun q => lenF_pos 4 0 0 t q
      refine f20_spec rd1 ⟨_, _, _, rfl, ?_⟩
      generalize lenS t = v5 at *
      obtain ⟨n, k, e⟩ := v5
      dsimp only at ew vl vp ⊢
      have bad : ∀ h1 e x7 x8, e ≠ 0 → (ms.map PkM.key, e, []) = fin → Own w0 h1 (stB b p (x :: t).length c false :: (R ++ (outP a c' ms ++ X))) → ∀ {z0 z1 : Int} {z2 : Bool} {z3 : ByteArray} {a4 : Option Addr} {n4 c4 : Nat} {z5 : Int} {z6 : Bool} {z7 : Int} {z8 : ByteArray} {z9 : Bool} {z10 : Int} {z11 z12 : Bool} {z13 : Int} {a14 : Option Addr} {n14 c14 : Nat} {a15 : Option Addr} {n15 c15 : Nat},
          f28_14 w0 K (some ⟨b, 0, none⟩) a ms.length c' x7 x8 e z0 z1 z2 z3 a4 n4 c4 z5 z6 z7 z8 z9 z10 z11 z12 z13 a14 n14 c14 a15 n15 c15 h1 := fun h1 e x7 x8 ne ef w1 {z0 z1 z2 z3 a4 n4 c4 z5 z6 z7 z8 z9 z10 z11 z12 z13 a14 n14 c14 a15 n15 c15} => by
        subst ef
        refine f28_14_in _ _ _ _ _ _ _ _ _ _ _ _ _ _ _ _ _ _ _ _ _ _ _ _ _ _ _ _ _ _ (brB_of (fun _ => ⟨_, rfl, _, _, w1.ge, rfl, w1.hd, by simp [Addr.add], ?_⟩) fun z => absurd z (by simpa using ne))
        have w2 := Own.put' (o' := .cells [.slice p (x :: t).length c, .bool true] 2) w1
        refine ⟨_, rfl, _, _, w2.ge, rfl, w2.hd, by simp [Addr.add], ?_⟩
        have w3 := Own.put' (o' := .cells [.slice none 0 0, .bool true] 2) w2
        refine hk _ a c' ms R none 0 rfl v Rdr.nil ?_
        rw [decide_eq_true ne]
        exact w3
      have stop : wholeL (x :: t) = (0, 0) → K (.tuple #[.slice a ms.length c', .int .i64 0]) h := fun q => by
        rw [feedF, q, if_neg (by simp), if_pos rfl, List.append_nil] at he
        subst he
        exact hk h a c' ms R p c rfl v rl w
      refine brB_of (fun y => stop (by rw [ew, if_pos (by simpa using y)])) fun y => ?_
      have y5 : e ≠ 5 := by simpa using y
      rw [if_neg y5] at ew
      have ten_bad : ∀ e', e' ≠ 0 → wholeL (x :: t) = (0, e') → f28_10 w0 K (some ⟨b, 0, none⟩) a ms.length c' ((n : Nat) : Int) ((k : Nat) : Int) e' h := fun e' ne q => by
        rw [feedF, q, if_pos ne, List.append_nil] at he
        exact f28_10_in _ _ _ _ _ _ _ _ (brB_of (fun z => absurd (by simpa using z) ne) fun _ => bad h e' _ _ ne he w)
      refine brB_of (fun z => ?_) fun z => ?_
      · have z0 : e = 0 := by simpa using z
        subst z0
        have k1 := vp rfl
        rw [if_neg (by simp)] at ew
        have e2 : decide ((1024 : Int) < ((n : Nat) : Int)) = decide (1024 < n) := by rw [decide_eq_decide]; omega
        rw [e2]
        refine f28_9_in _ _ _ _ _ _ _ _ _ (brB_of (fun y => ten_bad 2 (by decide) (by rw [ew, if_pos (of_decide_eq_true y)])) fun y => ?_)
        have n1024 := of_decide_eq_false y
        rw [if_neg n1024] at ew
        have e1 : IntKind.i64.wrap (IntKind.i64.wrap ((1 : Int) + ((k : Nat) : Int)) + ((n : Nat) : Int)) = ((1 + k + n : Nat) : Int) := by
          rw [wrap64 (x := (1 : Int) + _) (by omega) (by omega), wrap64 (by omega) (by omega)]; omega
        refine f28_10_in _ _ _ _ _ _ _ _ (brB_of (fun _ => ⟨_, rfl, _, _, _, w.cell0 rfl, ?_⟩) fun z => by simp at z)
        rw [e1]
        refine brB_of (fun u => stop (by rw [ew, if_pos (by have := of_decide_eq_true u; omega)])) fun u => ?_
        have hle : 1 + k + n ≤ (x :: t).length := by have := of_decide_eq_false u; omega
        rw [if_neg (by omega)] at ew
        rw [feedF, ew, if_neg (by simp), if_neg (by show 1 + k + n ≠ 0; omega)] at he
        dsimp only at he
        refine ⟨_, rfl, _, _, _, w.cell0 rfl, by omega, by omega, ?_⟩
        rw [Int.toNat_natCast]
        have et : 1 + k + n = ((x :: t).take (1 + k + n)).length := by rw [List.length_take]; omega
        refine f15_spec' (l := (x :: t).take (1 + k + n)) et T w rl.take sub1 fun h2 m e em v2 w2 => ⟨_, _, _, _, _, _, _, _, _, _, _, _, _, _, _, _, _, _, _, _, _, _, _, rfl, ?_⟩
        rw [← em] at he
        dsimp only at he
        by_cases x' : e = 0
        · subst x'
          rw [if_neg (by simp)] at he
          refine f28_14_in _ _ _ _ _ _ _ _ _ _ _ _ _ _ _ _ _ _ _ _ _ _ _ _ _ _ _ _ _ _ (brB_of (fun z => by simp at z) fun _ => ?_)
          have w3 : Own w0 h2 ((ownP m ++ (stB b p (x :: t).length c false :: R)) ++ (slB a (ms.flatMap PkM.cells) (c' * 16) ++ (ownPs ms ++ X))) := by simpa only [outP, List.append_assoc, List.cons_append] using w2
          refine App_mid v.sl w3 (by omega) (by omega) rfl (pk_cell m) fun a4 c4 h4 v4 w4 => ?_
          have ef : ms.flatMap PkM.cells ++ m.cells = (ms ++ [m]).flatMap PkM.cells := by simp
          have el : (ms ++ [m]).length = ms.length + 1 := by simp
          rw [ef] at v4 w4
          have w5 : Own w0 h4 (stB b p (x :: t).length c false :: (R ++ (outP a4 c4 (ms ++ [m]) ++ X))) := w4.perm (by
            have eo : ownPs (ms ++ [m]) = ownPs ms ++ ownP m := by simp [ownPs]
            rw [outP, eo]
            classical
            rw [List.perm_iff_count]
            intro t
            simp only [List.count_append, List.count_cons]
            omega)
          refine ⟨_, rfl, _, _, _, w5.cell0 rfl, ?_⟩
          rw [e1, Int.toNat_natCast]
          have ed : ((x :: t).drop (1 + k + n)).length = (x :: t).length - (1 + k + n) := List.length_drop ..
          refine ⟨by omega, by omega, _, rfl, _, _, w5.ge, rfl, w5.hd, by simp [Addr.add], ?_⟩
          rw [← ed, ← el]
          have w6 := Own.put' (o' := .cells [.slice (cutA 1 p c (1 + k + n)) ((x :: t).drop (1 + k + n)).length (c - (1 + k + n)), .bool false] 2) w5
          refine rfeed_loop T fin hk f ((x :: t).drop (1 + k + n)) (ms ++ [m]) a4 c4 _ _ _ (by omega) (by rw [el]; omega) (by rw [keys_app, List.append_assoc]; exact he) ⟨by rw [el]; exact v4, fun x hx => ?_⟩ (rl.drop hle) w6
          rcases List.mem_append.1 hx with hx | hx
          · exact v.each x hx
          · rw [List.mem_singleton] at hx; subst hx; exact v2
        · rw [if_pos x', List.append_nil] at he
          exact bad h2 e _ _ x' he w2.drop
      · have z0 : e ≠ 0 := by simpa using z
        rw [if_pos z0] at ew
        exact f28_9_in _ _ _ _ _ _ _ _ _ (brB_of (fun y => by cases y) fun _ => ten_bad e z0 ew)
    · have : l = [] := List.eq_nil_of_length_eq_zero (by have := of_decide_eq_false z; omega)
      subst this
      have e0 : feedF f [] = ([], 0, []) := by
        cases f with
        | zero => rfl
        | succ f => rfl
      rw [e0, List.append_nil] at he
      subst he
      exact hk h a c' ms R p c rfl v rl w
theorem f28_spec {buf x : List UInt8} {p a1 : Option Addr} {c1 : Nat} {R2 : List (Nat × AB)} (T : TabOk w0) (rb : Rdr w0 R p c buf) (w : Own w0 h (stB b p buf.length c false :: (R ++ X))) (r : Rdr w0 R2 a1 c1 x) (hs : R2 ⊆ X) (hl : buf.length + x.length ≤ 100000000000)
    (hk : ∀ h' a c' ms R' p c, ms.map PkM.key = (feedL (buf ++ x)).1 → PksV a c' ms → Rdr w0 R' p c (feedL (buf ++ x)).2.2 → Own w0 h' (stB b p (feedL (buf ++ x)).2.2.length c (decide ((feedL (buf ++ x)).2.1 ≠ 0)) :: (R' ++ (outP a c' ms ++ X))) → K (.tuple #[.slice a ms.length c', .int .i64 (feedL (buf ++ x)).2.1]) h') :
    EvC Go.Proofs.Tryd.prog w0 28 #[.pointer (some ⟨b, 0, none⟩), .slice a1 x.length c1] K h := by
  have sub1 : R ⊆ stB b p buf.length c false :: (R ++ X) := fun x hx => List.mem_cons_of_mem _ (List.mem_append_left _ hx)
  refine f28_go _ _ _ _ _ ⟨_, rfl, _, w.cell0 rfl, brB_of (fun z => by cases z) fun _ => ⟨_, rfl, _, _, _, w.cell0 rfl, ?_⟩⟩
  refine rowsOf_of (rb.at w sub1) (by rw [u8s_length, Nat.mul_one]) (App_new w (by omega) (by omega) (by rw [u8s_length, Nat.mul_one]) (u8s_cell _) fun a2 c2 h2 v2 w2 => ?_)
  refine rowsOf_of (r.at w2 (sub_app (sub_cons (sub_app hs)))) (by rw [u8s_length, Nat.mul_one]) ?_
  rw [Nat.zero_add]
  refine App_mid (cs := []) v2 w2 (by omega) (by omega) (by rw [u8s_length, Nat.mul_one]) (u8s_cell _) fun a3 c3 h3 v3 w3 => ?_
  have ex : u8s buf ++ u8s x = u8s (buf ++ x) := (u8s_app _ _).symm
  have el : (buf ++ x).length = buf.length + x.length := List.length_append
  rw [ex] at v3 w3
  have w4 : Own w0 h3 (stB b p buf.length c false :: (slB a3 (u8s (buf ++ x)) (c3 * 1) ++ (R ++ X))) := Own.front (ds := [stB b p buf.length c false]) w3
  refine ⟨_, rfl, _, _, w4.ge, rfl, w4.hd, by simp [Addr.add], ?_⟩
  have w5 := Own.put' (o' := .cells [.slice a3 (buf.length + x.length) c3, .bool false] 2) w4
  rw [← el] at v3 w5 ⊢
  have w6 := Own.cut (cs := stB b a3 (buf ++ x).length c3 false :: slB a3 (u8s (buf ++ x)) (c3 * 1)) (ds := R) w5
  generalize buf ++ x = l at *
  exact rfeed_loop (R := slB a3 (u8s l) (c3 * 1)) (X := X) T (feedL l) hk l.length l [] none 0 a3 c3 _ (Nat.le_refl _) (by simp; omega) rfl PksV.nil (slB_rdr v3 (by omega)) w6
end
def f31_J : Nat → List Nat × Nat := jOf []



theorem f31_go {w0 : World} {K : Value → AH → Prop}  (h : AH)
  (hv : (EvC Proofs.Tryd.prog w0 26 #[] (fun o p => (∃ b : Option Addr, ((o = (Value.pointer b)) ∧ (newB w0 p (AB.cells [(int .u8 (192 : Int))] 1) (fun q r => (EvC Proofs.Tryd.prog w0 27 #[(Value.pointer b), (slice (some (Addr.mk q 0 none)) 1 1)] (fun s t => (∃ u : Option Addr, (∃ d : Nat, (∃ v : Nat, (∃ e : Int, ((s = (Value.tuple #[(slice u d v), (int .i64 e)])) ∧ (newB w0 t (AB.cells [(int .u8 (0 : Int)), (int .u8 (192 : Int))] 2) (fun x y => (EvC Proofs.Tryd.prog w0 27 #[(Value.pointer b), (slice (some (Addr.mk x 0 none)) 2 2)] (fun z a => (∃ g : Option Addr, (∃ c : Nat, (∃ A : Nat, (∃ i : Int, ((z = (Value.tuple #[(slice g c A), (int .i64 i)])) ∧ (brB (e == (0 : Int)) (brB (i == (0 : Int)) (brB (((d : Nat) : Int) == (0 : Int)) (brB (((c : Nat) : Int) == (1 : Int)) (∃ k : Addr, ((g = (some k)) ∧ (((0 : Int) ≤ (0 : Int)) ∧ (((0 : Int) < ((c : Nat) : Int)) ∧ (∃ m : Int, (((cellA w0 a (Addr.add (Addr.add k 0) 0)) = (some (int .i64 m))) ∧ (brB (m == (12 : Int)) (EvC Proofs.Tryd.prog w0 30 #[(Value.pointer b)] (fun B C => (∃ n : Int, ((B = (int .i64 n)) ∧ (K (bool (n == (1 : Int))) C)))) a) (K (bool false) a)))))))) (K (bool false) a)) (K (bool false) a)) (K (bool false) a)) (K (bool false) a)))))))) y))))))))) r)))))) h)) :
  EvC Proofs.Tryd.prog w0 31 ([]).toArray K h := EvC_intro (P := Proofs.Tryd.prog) f31_J (Eq.mp (by kernel_rfl) hv)
def f11_J : Nat → List Nat × Nat := jOf []



theorem f11_go {w0 : World} {K : Value → AH → Prop} (b : Option Addr) (c d : Nat) (h : AH)
  (hv : (EvC Proofs.Tryd.prog w0 27 #[(Value.pointer none), (slice b c d)] (fun n a => (∃ o : Option Addr, (∃ e : Nat, (∃ p : Nat, (∃ g : Int, ((n = (Value.tuple #[(slice o e p), (int .i64 g)])) ∧ (brB (((e : Nat) : Int) == (0 : Int)) (brB (g == (1 : Int)) (EvC Proofs.Tryd.prog w0 30 #[(Value.pointer none)] (fun q i => (∃ k : Int, ((q = (int .i64 k)) ∧ (brB (k == (0 : Int)) (EvC Proofs.Tryd.prog w0 31 #[] (fun r s => (∃ m : Bool, ((r = (bool m)) ∧ (K (bool m) s)))) i) (K (bool false) i))))) a) (K (bool false) a)) (K (bool false) a)))))))) h)) :
  EvC Proofs.Tryd.prog w0 11 ([(.slice b c d)]).toArray K h := EvC_intro (P := Proofs.Tryd.prog) f11_J (Eq.mp (by kernel_rfl) hv)
/-! ### bytes that every program must know; StreamNil; StreamFeeds -/
theorem feedF_err : ∀ (f : Nat) (l : List UInt8), (feedF f l).2.1 ≠ 0 → (feedF f l).2.2 = []
  | 0, l, h => absurd rfl h
  | f + 1, l, h => by
    rw [feedF] at h ⊢
    split
    · rfl
    · rename_i h1
      rw [if_neg h1] at h
      split
      · rename_i h2
        rw [if_pos h2] at h
        exact absurd rfl h
      · rename_i h2
        rw [if_neg h2] at h
        split
        · rfl
        · rename_i h3
          rw [if_neg h3] at h
          exact feedF_err f _ h
theorem feedF_small : ∀ (f : Nat) (l : List UInt8), ∀ k ∈ (feedF f l).1, smallP k
  | 0, l, k, h => by cases h
  | f + 1, l, k, h => by
    rw [feedF] at h
    split at h
    · cases h
    split at h
    · cases h
    split at h
    · cases h
    · rcases List.mem_cons.1 h with rfl | h
      · exact decL_small _
      · exact feedF_small f _ k h
theorem feedF_count : ∀ (f : Nat) (l : List UInt8), (feedF f l).1.length ≤ l.length
  | 0, l => Nat.zero_le _
  | f + 1, l => by
    rw [feedF]
    split
    · exact Nat.zero_le _
    split
    · exact Nat.zero_le _
    split
    · exact Nat.zero_le _
    · rename_i h2 _
      have := feedF_count f (l.drop (wholeL l).1)
      rw [List.length_drop] at this
      have w := whole_le l
      rw [List.length_cons]
      show (feedF f (l.drop (wholeL l).1)).1.length + 1 ≤ _
      omega
theorem feedF_rest : ∀ (f : Nat) (l : List UInt8), (feedF f l).2.2.length ≤ l.length
  | 0, l => Nat.le_refl _
  | f + 1, l => by
    rw [feedF]
    split
    · exact Nat.zero_le _
    split
    · exact Nat.le_refl _
    split
    · exact Nat.zero_le _
    · have := feedF_rest f (l.drop (wholeL l).1)
      rw [List.length_drop] at this
      show (feedF f (l.drop (wholeL l).1)).2.2.length ≤ _
      omega
section
variable {w0 : World} {K : Value → AH → Prop} {h : AH} {R X : List (Nat × AB)} {c b : Nat}
theorem lit_rdr {xs : List UInt8} {b n : Nat} (hn : xs.length = n) (hs : n ≤ 1000) : Rdr w0 [(b, .cells (u8s xs) n)] (some ⟨b, 0, none⟩) n xs := ⟨fun h' hx => by
  obtain ⟨g1, g2⟩ := hx _ (List.mem_singleton_self _)
  exact fun j x hj => ⟨_, rfl, own_cell g1 g2 hj⟩, by omega, by omega⟩
theorem sing_sub {x : Nat × AB} {B : List (Nat × AB)} (h : x ∈ B) : [x] ⊆ B := fun y hy => by rw [List.mem_singleton] at hy; subst hy; exact h
theorem PksV.rd {a : Option Addr} {c : Nat} {ms : List PkM} {B : List (Nat × AB)} (v : PksV a c ms) (w : Own w0 h B) (hs : outP a c ms ⊆ B) : Rd w0 h a (ms.flatMap PkM.cells) := by
  obtain ⟨h1, h2, h3⟩ := v.sl
  have s : Sl w0 h 16 a ms.length c (ms.flatMap PkM.cells) := by
    refine ⟨h1, h2, ?_⟩
    cases a with
    | none => exact h3
    | some ad => exact ⟨h3.1, h3.2, (w.mem (hs (List.mem_append_left _ (List.mem_singleton_self _)))).1, (w.mem (hs (List.mem_append_left _ (List.mem_singleton_self _)))).2⟩
  exact s.rd
theorem PksV.each_rd {a : Option Addr} {c : Nat} {ms : List PkM} {B : List (Nat × AB)} (v : PksV a c ms) (w : Own w0 h B) (hs : ownPs ms ⊆ B) (hm : ∀ k ∈ ms.map PkM.key, smallP k) : ∀ m ∈ ms, PkRd w0 h m := fun m hx =>
  (v.each m hx).rd w (fun y hy => hs (List.mem_flatMap.2 ⟨m, hx, hy⟩)) (hm _ (List.mem_map_of_mem hx))
theorem feed_awake1 : feedL [192] = ([], 0, [192]) := by kernel_rfl
theorem feed_awake2 : feedL [192, 0, 192] = ([{ kind := 12 }], 0, [192]) := by kernel_rfl
theorem f31_spec (T : TabOk w0) (w : Own w0 h X) (hk : ∀ h', K (.bool true) h') : EvC Go.Proofs.Tryd.prog w0 31 #[] K h := by
  refine f31_go _ (f26_spec w fun h1 s w1 => ⟨_, rfl, fun b hb hn => ?_⟩)
  have w2 := Own.new (o := .cells (u8s [192]) 1) w1 hb hn
  refine f27_spec (buf := []) (x := [192]) (p := none) (c := 0) T SlV.nil (X := (b, .cells (u8s [192]) 1) :: X) (Own.sw w2) (lit_rdr rfl (by decide)) (sing_sub (List.mem_cons_self ..)) (by simp) fun h3 a3 c3 ms p3 d3 ek v3 vp w3 => ?_
  rw [List.nil_append] at ek vp w3 ⊢
  have e1 := feed_awake1
  generalize feedL [192] = F at *
  subst e1
  dsimp only at ek vp w3 ⊢
  refine ⟨_, _, _, _, rfl, fun b2 hb2 hn2 => ?_⟩
  have m0 : ms = [] := by simpa using ek
  subst m0
  have w4 := Own.new (o := .cells (u8s [0, 192]) 2) w3 hb2 hn2
  have w5 : Own w0 _ (stB s p3 ([192] : List UInt8).length d3 false :: (slB p3 (u8s [192]) (d3 * 1) ++ ((b2, .cells (u8s [0, 192]) 2) :: (outP a3 c3 [] ++ ((b, .cells (u8s [192]) 1) :: X))))) := w4.perm (by
    rw [decide_eq_false (by simp)]
    classical
    rw [List.perm_iff_count]
    intro t
    simp only [List.count_append, List.count_cons]
    omega)
  refine f27_spec (buf := [192]) (x := [0, 192]) T vp w5 (lit_rdr rfl (by decide)) (sing_sub (List.mem_cons_self ..)) (by simp) fun h6 a6 c6 ms p6 d6 ek v6 vp6 w6 => ?_
  have e2 : feedL ([192] ++ [0, 192]) = ([{ kind := 12 }], 0, [192]) := feed_awake2
  generalize feedL ([192] ++ [0, 192]) = F at *
  subst e2
  dsimp only at ek vp6 w6 ⊢
  have one : ∃ m, ms = [m] := by
    cases ms with
    | nil => cases ek
    | cons m t =>
      cases t with
      | nil => exact ⟨m, rfl⟩
      | cons _ _ => have := congrArg List.length ek; simp at this
  obtain ⟨m, rfl⟩ := one
  have k0 : m.kind = 12 := by
    exact congrArg Pk.kind (List.head_eq_of_cons_eq ek)
  have rd := v6.rd w6 fun x hx => List.mem_cons_of_mem _ (List.mem_append_right _ (List.mem_append_left _ hx))
  obtain ⟨ad, had, hat⟩ := rowLoad (enc := PkM.cells) (k := 16) (l := [m]) (i := 0) (fun _ => rfl) (by decide) rd rfl
  have hc := hat 0 _ rfl
  refine ⟨_, _, _, _, rfl, brB_of (fun _ => brB_of (fun _ => brB_of (fun _ => brB_of (fun _ => ⟨ad, had, by decide, by simp, m.kind, ?_, ?_⟩) fun z => by simp at z) fun z => by simp at z) fun z => by simp at z) fun z => by simp at z⟩
  · exact hc
  · rw [k0]
    exact brB_of (fun _ => f30_spec w6 ⟨_, rfl, hk _⟩) fun z => by simp at z
/-- StreamNil. -/
theorem f11_spec {a : Option Addr} {n : Nat} (T : TabOk w0) (hk : ∀ h', K (.bool true) h') : EvC Go.Proofs.Tryd.prog w0 11 #[.slice a n c] K (fun _ => none) :=
  f11_go _ _ _ _ (f27_nil ⟨_, _, _, _, rfl, brB_of (fun _ => brB_of (fun _ => f30_nil ⟨_, rfl, brB_of (fun _ => f31_spec T (X := []) Own.nil fun h' => ⟨_, rfl, hk h'⟩) fun z => by simp at z⟩) fun z => by simp at z) fun z => by simp at z⟩)
end
end Go.G.YtciepfobnaemmaaDoor
