/- Streams. -/
import Derived.Test.YtciepfobnaemmaaDoorLA
import Derived.Test.YtciepfobnaemmaaDoorProg
set_option maxRecDepth 100000
namespace Go.G.YtciepfobnaemmaaDoor
open Go.RowKit
open Value (string slice int bool agg)
def f62_J : Nat → List Nat × Nat := jOf []



theorem f62_go {w0 : World} {K : Value → AH → Prop} (i : Option Addr) (a e : Nat) (h : AH)
  (hv : (brB (decide ((((a : Nat) : Int) < (2 : Int)))) (K (Value.tuple #[(int .i64 (0 : Int)), (int .i64 (0 : Int))]) h) (((0 : Int) ≤ (1 : Int)) ∧ (((1 : Int) ≤ ((a : Nat) : Int)) ∧ (EvC Proofs.Tryd.prog w0 32 #[(slice (cutA 1 i e 1) (a - 1) (e - 1))] (fun k b => (∃ c : Int, (∃ g : Int, (∃ d : Int, ((k = (Value.tuple #[(int .i64 c), (int .i64 g), (int .i64 d)])) ∧ (brB (d == (5 : Int)) (K (Value.tuple #[(int .i64 (0 : Int)), (int .i64 (0 : Int))]) b) (brB (d != (0 : Int)) (K (Value.tuple #[(int .i64 (0 : Int)), (int .i64 d)]) b) (brB (decide (((1024 : Int) < c))) (K (Value.tuple #[(int .i64 (0 : Int)), (int .i64 (2 : Int))]) b) (brB (decide (((IntKind.wrap .i64 ((IntKind.wrap .i64 (((a : Nat) : Int) - (1 : Int))) - g)) < c))) (K (Value.tuple #[(int .i64 (0 : Int)), (int .i64 (0 : Int))]) b) (K (Value.tuple #[(int .i64 (IntKind.wrap .i64 ((IntKind.wrap .i64 ((1 : Int) + g)) + c))), (int .i64 (0 : Int))]) b)))))))))) h))))) :
  EvC Proofs.Tryd.prog w0 62 ([(.slice i a e)]).toArray K h := EvC_intro (P := Proofs.Tryd.prog) f62_J (Eq.mp (by kernel_rfl) hv)
def f27_J : Nat → List Nat × Nat := jOf [(10001, (rn 6 5 (7 :: (8 :: (rn 74 64 [])))), 0), (10000, (rn 6 5 (rn 74 66 [])), 1)]

def f27_10001 (w0 : World) (K : Value → AH → Prop) (a b : Option Addr) (c d : Nat) (e : Int) (h : AH) : Prop :=
  ∀ j : Nat → Value, LPk Proofs.Tryd.prog w0 (EvC Proofs.Tryd.prog w0) f27_J 27 K 10001 (.v (.pointer a) :: (jv j 6 5 (.v (.slice b c d) :: (jv j 9 2 (.v (.int .i64 e) :: (jv j 74 64 [])))))) [] h

def f27_10000 (w0 : World) (K : Value → AH → Prop) (a b : Option Addr) (c d : Nat) (e g : Int) (i : Bool) (k : ByteArray) (m : Option Addr) (n o : Nat) (p : Int) (q : Bool) (r : Int) (s : ByteArray) (t : Bool) (u : Int) (x y : Bool) (z : Int) (A : Option Addr) (B C : Nat) (D : Option Addr) (E F : Nat) (h : AH) : Prop :=
  ∀ j : Nat → Value, LPk Proofs.Tryd.prog w0 (EvC Proofs.Tryd.prog w0) f27_J 27 K 10000 (.v (.pointer a) :: (jv j 6 5 (.v (.slice b c d) :: (.bp 0 0 :: (jv j 74 66 []))))) [some [(.int .i64 e), (.int .i64 g), (.bool i), (.string k), (.slice m n o), (.int .i64 p), (.bool q), (.int .i64 r), (.string s), (.bool t), (.int .i64 u), (.bool x), (.bool y), (.int .i64 z), (.slice A B C), (.slice D E F)]] h

theorem f27_10001_in {w0 : World} {K : Value → AH → Prop} (d i : Option Addr) (k m : Nat) (n : Int) (h : AH)
  (hv : (∃ a : Addr, ((d = (some a)) ∧ (∃ c : List Go.Value, (∃ e : Nat, (((Array.size (Go.World.heap w0)) ≤ (Addr.block (Addr.add a 1))) ∧ (((none : Option Nat) = none) ∧ (((h (Addr.block (Addr.add a 1))) = (some (AB.cells c e))) ∧ ((((Addr.off (Addr.add a 1)) + 1) ≤ (List.length c)) ∧ (∃ b : Addr, ((d = (some b)) ∧ (∃ g : List Go.Value, (∃ o : Nat, (((Array.size (Go.World.heap w0)) ≤ (Addr.block (Addr.add b 0))) ∧ (((Addr.spot (Addr.add b 0)) = none) ∧ (((AH.put h (Addr.block (Addr.add a 1)) (AB.cells (setCells c (Addr.off (Addr.add a 1)) [(bool true)]) e) (Addr.block (Addr.add b 0))) = (some (AB.cells g o))) ∧ ((((Addr.off (Addr.add b 0)) + 1) ≤ (List.length g)) ∧ (K (Value.tuple #[(slice i k m), (int .i64 n)]) (AH.put (AH.put h (Addr.block (Addr.add a 1)) (AB.cells (setCells c (Addr.off (Addr.add a 1)) [(bool true)]) e)) (Addr.block (Addr.add b 0)) (AB.cells (setCells g (Addr.off (Addr.add b 0)) [(slice none 0 0)]) o)))))))))))))))))))) :
  f27_10001 w0 K d i k m n h := fun j => LP_intro (P := Proofs.Tryd.prog) (Eq.mp (by kernel_rfl) hv)

theorem f27_10000_in {w0 : World} {K : Value → AH → Prop} (b g : Option Addr) (d i : Nat) (b2 b3 : Int) (b4 : Bool) (b5 : ByteArray) (b6 : Option Addr) (b7 b8 : Nat) (b9 : Int) (c0 : Bool) (c1 : Int) (c2 : ByteArray) (c3 : Bool) (c4 : Int) (c5 c6 : Bool) (c7 : Int) (c8 : Option Addr) (c9 d0 : Nat) (d1 : Option Addr) (d2 d3 : Nat) (h : AH)
  (hv : (∃ Y : Addr, ((b = (some Y)) ∧ (∃ Z : Option Addr, (∃ a0 : Nat, (∃ a1 : Nat, (((cellA w0 h (Addr.add Y 0)) = (some (slice Z a0 a1))) ∧ (EvC Proofs.Tryd.prog w0 62 #[(slice Z a0 a1)] (fun d4 k => (∃ a : Int, (∃ m : Int, ((d4 = (Value.tuple #[(int .i64 a), (int .i64 m)])) ∧ (brB (m != (0 : Int)) (f27_10001 w0 K b g d i m k) (brB (a == (0 : Int)) (K (Value.tuple #[(slice g d i), (int .i64 (0 : Int))]) k) (∃ a2 : Addr, ((b = (some a2)) ∧ (∃ a3 : Option Addr, (∃ d5 : Nat, (∃ n : Nat, (((cellA w0 k (Addr.add a2 0)) = (some (slice a3 d5 n))) ∧ (((0 : Int) ≤ a) ∧ ((a ≤ ((n : Nat) : Int)) ∧ (EvC Proofs.Tryd.prog w0 14 #[(slice a3 (Int.toNat a) n)] (fun d6 a4 => (∃ o : Int, (∃ p : Int, (∃ q : Bool, (∃ r : ByteArray, (∃ s : Option Addr, (∃ t : Nat, (∃ u : Nat, (∃ v : Int, (∃ x : Bool, (∃ y : Int, (∃ z : ByteArray, (∃ A : Bool, (∃ B : Int, (∃ C : Bool, (∃ D : Bool, (∃ E : Int, (∃ F : Option Addr, (∃ L : Nat, (∃ M : Nat, (∃ N : Option Addr, (∃ Q : Nat, (∃ R : Nat, (∃ T : Int, ((d6 = (Value.tuple #[(agg #[(int .i64 o), (int .i64 p), (bool q), (string r), (slice s t u), (int .i64 v), (bool x), (int .i64 y), (string z), (bool A), (int .i64 B), (bool C), (bool D), (int .i64 E), (slice F L M), (slice N Q R)]), (int .i64 T)])) ∧ (brB (T != (0 : Int)) (f27_10001 w0 K b g d i T a4) (App w0 a4 16 184 g d i 1 [(int .i64 o), (int .i64 p), (bool q), (string r), (slice s t u), (int .i64 v), (bool x), (int .i64 y), (string z), (bool A), (int .i64 B), (bool C), (bool D), (int .i64 E), (slice F L M), (slice N Q R)] (fun d7 d8 U => (∃ a5 : Addr, ((b = (some a5)) ∧ (∃ a6 : Option Addr, (∃ e : Nat, (∃ a7 : Nat, (((cellA w0 U (Addr.add a5 0)) = (some (slice a6 e a7))) ∧ (((0 : Int) ≤ a) ∧ ((a ≤ ((e : Nat) : Int)) ∧ (rowsOf w0 U 1 (cutA 1 a6 a7 (Int.toNat a)) (e - (Int.toNat a)) (fun d9 => (App w0 U 1 1 none 0 0 (e - (Int.toNat a)) d9 (fun a8 a9 b0 => (∃ c : Addr, ((b = (some c)) ∧ (∃ V : List Go.Value, (∃ b1 : Nat, (((Array.size (Go.World.heap w0)) ≤ (Addr.block (Addr.add c 0))) ∧ (((Addr.spot (Addr.add c 0)) = none) ∧ (((b0 (Addr.block (Addr.add c 0))) = (some (AB.cells V b1))) ∧ ((((Addr.off (Addr.add c 0)) + (Array.size #[(slice a8 (0 + (e - (Int.toNat a))) a9)])) ≤ (List.length V)) ∧ (f27_10000 w0 K b d7 (d + 1) d8 o p q r s t u v x y z A B C D E F L M N Q R (AH.put b0 (Addr.block (Addr.add c 0)) (AB.cells (setCells V (Addr.off (Addr.add c 0)) [(slice a8 (0 + (e - (Int.toNat a))) a9)]) b1))))))))))))))))))))))))))))))))))))))))))))))))))) k))))))))))))))) h)))))))) :
  f27_10000 w0 K b g d i b2 b3 b4 b5 b6 b7 b8 b9 c0 c1 c2 c3 c4 c5 c6 c7 c8 c9 d0 d1 d2 d3 h := fun j => LP_intro (P := Proofs.Tryd.prog) (Eq.mp (by kernel_rfl) hv)

theorem f27_go {w0 : World} {K : Value → AH → Prop} (a a3 : Option Addr) (e c3 : Nat) (h : AH)
  (hv : (brB (Option.isNone a) (K (Value.tuple #[(slice none 0 0), (int .i64 (1 : Int))]) h) (∃ a4 : Addr, ((a = (some a4)) ∧ (∃ a5 : Bool, (((cellA w0 h (Addr.add a4 1)) = (some (bool a5))) ∧ (brB a5 (K (Value.tuple #[(slice none 0 0), (int .i64 (16 : Int))]) h) (∃ a6 : Addr, ((a = (some a6)) ∧ (∃ a7 : Option Addr, (∃ i : Nat, (∃ a8 : Nat, (((cellA w0 h (Addr.add a6 0)) = (some (slice a7 i a8))) ∧ (rowsOf w0 h 1 a3 e (fun c4 => (App w0 h 1 1 a7 i a8 e c4 (fun n o p => (∃ c : Addr, ((a = (some c)) ∧ (∃ k : List Go.Value, (∃ q : Nat, (((Array.size (Go.World.heap w0)) ≤ (Addr.block (Addr.add c 0))) ∧ (((Addr.spot (Addr.add c 0)) = none) ∧ (((p (Addr.block (Addr.add c 0))) = (some (AB.cells k q))) ∧ ((((Addr.off (Addr.add c 0)) + (Array.size #[(slice n (i + e) o)])) ≤ (List.length k)) ∧ (∃ a9 : Addr, ((a = (some a9)) ∧ (∃ b0 : Option Addr, (∃ b1 : Nat, (∃ b2 : Nat, (((cellA w0 (AH.put p (Addr.block (Addr.add c 0)) (AB.cells (setCells k (Addr.off (Addr.add c 0)) [(slice n (i + e) o)]) q)) (Addr.add a9 0)) = (some (slice b0 b1 b2))) ∧ (EvC Proofs.Tryd.prog w0 62 #[(slice b0 b1 b2)] (fun c5 m => (∃ b : Int, (∃ r : Int, ((c5 = (Value.tuple #[(int .i64 b), (int .i64 r)])) ∧ (brB (r != (0 : Int)) (f27_10001 w0 K a none 0 0 r m) (brB (b == (0 : Int)) (K (Value.tuple #[(slice none 0 0), (int .i64 (0 : Int))]) m) (∃ b3 : Addr, ((a = (some b3)) ∧ (∃ b4 : Option Addr, (∃ c6 : Nat, (∃ s : Nat, (((cellA w0 m (Addr.add b3 0)) = (some (slice b4 c6 s))) ∧ (((0 : Int) ≤ b) ∧ ((b ≤ ((s : Nat) : Int)) ∧ (EvC Proofs.Tryd.prog w0 14 #[(slice b4 (Int.toNat b) s)] (fun c7 b5 => (∃ t : Int, (∃ u : Int, (∃ v : Bool, (∃ x : ByteArray, (∃ y : Option Addr, (∃ z : Nat, (∃ A : Nat, (∃ B : Int, (∃ C : Bool, (∃ D : Int, (∃ E : ByteArray, (∃ F : Bool, (∃ L : Int, (∃ M : Bool, (∃ N : Bool, (∃ Q : Int, (∃ R : Option Addr, (∃ T : Nat, (∃ U : Nat, (∃ V : Option Addr, (∃ Y : Nat, (∃ Z : Nat, (∃ a0 : Int, ((c7 = (Value.tuple #[(agg #[(int .i64 t), (int .i64 u), (bool v), (string x), (slice y z A), (int .i64 B), (bool C), (int .i64 D), (string E), (bool F), (int .i64 L), (bool M), (bool N), (int .i64 Q), (slice R T U), (slice V Y Z)]), (int .i64 a0)])) ∧ (brB (a0 != (0 : Int)) (f27_10001 w0 K a none 0 0 a0 b5) (App w0 b5 16 184 none 0 0 1 [(int .i64 t), (int .i64 u), (bool v), (string x), (slice y z A), (int .i64 B), (bool C), (int .i64 D), (string E), (bool F), (int .i64 L), (bool M), (bool N), (int .i64 Q), (slice R T U), (slice V Y Z)] (fun c8 c9 a1 => (∃ b6 : Addr, ((a = (some b6)) ∧ (∃ b7 : Option Addr, (∃ g : Nat, (∃ b8 : Nat, (((cellA w0 a1 (Addr.add b6 0)) = (some (slice b7 g b8))) ∧ (((0 : Int) ≤ b) ∧ ((b ≤ ((g : Nat) : Int)) ∧ (rowsOf w0 a1 1 (cutA 1 b7 b8 (Int.toNat b)) (g - (Int.toNat b)) (fun d0 => (App w0 a1 1 1 none 0 0 (g - (Int.toNat b)) d0 (fun b9 c0 c1 => (∃ d : Addr, ((a = (some d)) ∧ (∃ a2 : List Go.Value, (∃ c2 : Nat, (((Array.size (Go.World.heap w0)) ≤ (Addr.block (Addr.add d 0))) ∧ (((Addr.spot (Addr.add d 0)) = none) ∧ (((c1 (Addr.block (Addr.add d 0))) = (some (AB.cells a2 c2))) ∧ ((((Addr.off (Addr.add d 0)) + (Array.size #[(slice b9 (0 + (g - (Int.toNat b))) c0)])) ≤ (List.length a2)) ∧ (f27_10000 w0 K a c8 1 c9 t u v x y z A B C D E F L M N Q R T U V Y Z (AH.put c1 (Addr.block (Addr.add d 0)) (AB.cells (setCells a2 (Addr.off (Addr.add d 0)) [(slice b9 (0 + (g - (Int.toNat b))) c0)]) c2))))))))))))))))))))))))))))))))))))))))))))))))))) m))))))))))))))) (AH.put p (Addr.block (Addr.add c 0)) (AB.cells (setCells k (Addr.off (Addr.add c 0)) [(slice n (i + e) o)]) q)))))))))))))))))))))))))))))))))) :
  EvC Proofs.Tryd.prog w0 27 ([(.pointer a), (.slice a3 e c3)]).toArray K h := EvC_intro (P := Proofs.Tryd.prog) f27_J (Eq.mp (by kernel_rfl) hv)
def f27_10000_body (w0 : World) (K : Value → AH → Prop) (b g : Option Addr) (e i : Nat) (h : AH) : Prop :=
  (∃ Y : Addr, ((b = (some Y)) ∧ (∃ Z : Option Addr, (∃ a0 : Nat, (∃ a1 : Nat, (((cellA w0 h (Addr.add Y 0)) = (some (slice Z a0 a1))) ∧ (EvC Proofs.Tryd.prog w0 62 #[(slice Z a0 a1)] (fun b2 k => (∃ a : Int, (∃ m : Int, ((b2 = (Value.tuple #[(int .i64 a), (int .i64 m)])) ∧ (brB (m != (0 : Int)) (f27_10001 w0 K b g e i m k) (brB (a == (0 : Int)) (K (Value.tuple #[(slice g e i), (int .i64 (0 : Int))]) k) (∃ a2 : Addr, ((b = (some a2)) ∧ (∃ a3 : Option Addr, (∃ b3 : Nat, (∃ n : Nat, (((cellA w0 k (Addr.add a2 0)) = (some (slice a3 b3 n))) ∧ (((0 : Int) ≤ a) ∧ ((a ≤ ((n : Nat) : Int)) ∧ (EvC Proofs.Tryd.prog w0 14 #[(slice a3 (Int.toNat a) n)] (fun b4 a4 => (∃ o : Int, (∃ p : Int, (∃ q : Bool, (∃ r : ByteArray, (∃ s : Option Addr, (∃ t : Nat, (∃ u : Nat, (∃ v : Int, (∃ x : Bool, (∃ y : Int, (∃ z : ByteArray, (∃ A : Bool, (∃ B : Int, (∃ C : Bool, (∃ D : Bool, (∃ E : Int, (∃ F : Option Addr, (∃ L : Nat, (∃ M : Nat, (∃ N : Option Addr, (∃ Q : Nat, (∃ R : Nat, (∃ T : Int, ((b4 = (Value.tuple #[(agg #[(int .i64 o), (int .i64 p), (bool q), (string r), (slice s t u), (int .i64 v), (bool x), (int .i64 y), (string z), (bool A), (int .i64 B), (bool C), (bool D), (int .i64 E), (slice F L M), (slice N Q R)]), (int .i64 T)])) ∧ (brB (T != (0 : Int)) (f27_10001 w0 K b g e i T a4) (App w0 a4 16 184 g e i 1 [(int .i64 o), (int .i64 p), (bool q), (string r), (slice s t u), (int .i64 v), (bool x), (int .i64 y), (string z), (bool A), (int .i64 B), (bool C), (bool D), (int .i64 E), (slice F L M), (slice N Q R)] (fun b5 b6 U => (∃ a5 : Addr, ((b = (some a5)) ∧ (∃ a6 : Option Addr, (∃ d : Nat, (∃ a7 : Nat, (((cellA w0 U (Addr.add a5 0)) = (some (slice a6 d a7))) ∧ (((0 : Int) ≤ a) ∧ ((a ≤ ((d : Nat) : Int)) ∧ (rowsOf w0 U 1 (cutA 1 a6 a7 (Int.toNat a)) (d - (Int.toNat a)) (fun b7 => (App w0 U 1 1 none 0 0 (d - (Int.toNat a)) b7 (fun a8 a9 b0 => (∃ c : Addr, ((b = (some c)) ∧ (∃ V : List Go.Value, (∃ b1 : Nat, (((Array.size (Go.World.heap w0)) ≤ (Addr.block (Addr.add c 0))) ∧ (((Addr.spot (Addr.add c 0)) = none) ∧ (((b0 (Addr.block (Addr.add c 0))) = (some (AB.cells V b1))) ∧ ((((Addr.off (Addr.add c 0)) + (Array.size #[(slice a8 (0 + (d - (Int.toNat a))) a9)])) ≤ (List.length V)) ∧ (f27_10000 w0 K b b5 (e + 1) b6 o p q r s t u v x y z A B C D E F L M N Q R (AH.put b0 (Addr.block (Addr.add c 0)) (AB.cells (setCells V (Addr.off (Addr.add c 0)) [(slice a8 (0 + (d - (Int.toNat a))) a9)]) b1))))))))))))))))))))))))))))))))))))))))))))))))))) k))))))))))))))) h)))))))
/-! ### streams -/
def wholeL : List UInt8 → Nat × Int
  | [] => (0, 0)
  | _ :: r => if (lenS r).2.2 = 5 then (0, 0) else if (lenS r).2.2 ≠ 0 then (0, (lenS r).2.2) else if 1024 < (lenS r).1 then (0, 2) else if r.length < (lenS r).2.1 + (lenS r).1 then (0, 0) else (1 + (lenS r).2.1 + (lenS r).1, 0)
/-- Packets, an error, what is left. -/
def feedF : Nat → List UInt8 → List Pk × Int × List UInt8
  | 0, l => ([], 0, l)
  | f + 1, l => if (wholeL l).2 ≠ 0 then ([], (wholeL l).2, []) else if (wholeL l).1 = 0 then ([], 0, l) else if (decL (l.take (wholeL l).1)).2 ≠ 0 then ([], (decL (l.take (wholeL l).1)).2, [])
    else ((decL (l.take (wholeL l).1)).1 :: (feedF f (l.drop (wholeL l).1)).1, (feedF f (l.drop (wholeL l).1)).2)
def feedL (l : List UInt8) : List Pk × Int × List UInt8 := feedF l.length l
theorem lenF_pos : ∀ (f k n : Nat) (l : List UInt8), (lenF f k n l).2.2 = 0 → k + 1 ≤ (lenF f k n l).2.1
  | 0, _, _, _, h => absurd h (by exact (by decide : (3 : Int) ≠ 0))
  | _ + 1, _, _, [], h => absurd h (by exact (by decide : (5 : Int) ≠ 0))
  | f + 1, k, n, b :: r, h => by
    rw [lenF_step] at h ⊢
    split
    · rename_i q
      rw [if_pos q] at h
      have := lenF_pos f (k + 1) (n + b.toNat % 128 * 128 ^ k) r h
      omega
    · exact Nat.le_refl _
theorem whole_le (l : List UInt8) : (wholeL l).1 ≤ l.length ∧ ((wholeL l).1 = 0 ∨ 2 ≤ (wholeL l).1) := by
  unfold wholeL
  split
  · exact ⟨Nat.le_refl _, .inl rfl⟩
  · rename_i x r
    split
    · exact ⟨Nat.zero_le _, .inl rfl⟩
    split
    · exact ⟨Nat.zero_le _, .inl rfl⟩
    rename_i h0
    split
    · exact ⟨Nat.zero_le _, .inl rfl⟩
    split
    · exact ⟨Nat.zero_le _, .inl rfl⟩
    · have h0' : (lenS r).2.2 = 0 := Classical.byContradiction h0
      have := lenF_pos 4 0 0 r h0'
      have e : lenS r = lenF 4 0 0 r := rfl
      rw [← e] at this
      rw [List.length_cons]
      constructor
      · show 1 + (lenS r).2.1 + (lenS r).1 ≤ _; omega
      · right; show 2 ≤ 1 + (lenS r).2.1 + (lenS r).1; omega
@[reducible] def stB (b : Nat) (p : Option Addr) (n c : Nat) (bad : Bool) : Nat × AB := (b, .cells [.slice p n c, .bool bad] 2)
def ownPs (ms : List PkM) : List (Nat × AB) := ms.flatMap ownP
def outP (a : Option Addr) (c : Nat) (ms : List PkM) : List (Nat × AB) := slB a (ms.flatMap PkM.cells) (c * 16) ++ ownPs ms
structure PksV (a : Option Addr) (c : Nat) (ms : List PkM) : Prop where
  sl : SlV 16 a ms.length c (ms.flatMap PkM.cells)
  each : ∀ m ∈ ms, PkV m
theorem PksV.nil : PksV none 0 [] := ⟨SlV.nil, fun _ h => by cases h⟩
theorem slB_rdr {w0 : World} {a : Option Addr} {c : Nat} {l : List UInt8} (v : SlV 1 a l.length c (u8s l)) (hl : l.length ≤ 140737488355328) : Rdr w0 (slB a (u8s l) (c * 1)) a c l := ⟨fun h' hx => by
  obtain ⟨h1, h2, h3⟩ := v
  have s : Sl w0 h' 1 a l.length c (u8s l) := by
    refine ⟨h1, h2, ?_⟩
    cases a with
    | none => exact h3
    | some ad => exact ⟨h3.1, h3.2, hx _ (List.mem_singleton_self _)⟩
  exact s.rd, v.2.1, hl⟩
theorem Rdr.take {w0 : World} {R : List (Nat × AB)} {p : Option Addr} {c : Nat} {l : List UInt8} (r : Rdr w0 R p c l) {n : Nat} : Rdr w0 R p c (l.take n) :=
  ⟨fun h' hx => rd8_take (r.rd h' hx) n, Nat.le_trans (List.length_take_le' ..) r.cap, Nat.le_trans (List.length_take_le' ..) r.len⟩
theorem Rdr.nil {w0 : World} {R : List (Nat × AB)} {p : Option Addr} {c : Nat} : Rdr w0 R p c [] := ⟨fun _ _ => Rd.nil, Nat.zero_le _, Nat.zero_le _⟩
section
variable {w0 : World} {K : Value → AH → Prop} {h : AH} {R X : List (Nat × AB)} {c b : Nat}
/-- whole. -/
theorem f62_spec {l : List UInt8} {a : Option Addr} (w : Own w0 h X) (r : Rdr w0 R a c l) (hs : R ⊆ X) (hk : K (.tuple #[.int .i64 (((wholeL l).1 : Nat) : Int), .int .i64 (wholeL l).2]) h) :
    EvC Go.Proofs.Tryd.prog w0 62 #[.slice a l.length c] K h := by
  refine f62_go _ _ _ _ ?_
  match l, r, hk with
  | [], r, hk => exact brB_of (fun _ => hk) fun z => by simp at z
  | [x], r, hk => exact brB_of (fun _ => hk) fun z => by simp at z
  | x :: y :: t, r, hk =>
    have hl := r.len
    have hcap := r.cap
    rw [List.length_cons] at hl hcap
    have rd1 : Rd w0 h (cutA 1 a c 1) (u8s (y :: t)) := rd8_cut (k := 1) (r.at w hs) r.cap (by simp)
    refine brB_of (fun z => by simp at z; omega) fun _ => ⟨by omega, by rw [List.length_cons]; omega, ?_⟩
    have el : (x :: y :: t).length - 1 = (y :: t).length := by simp
    rw [el]
    have vl := lenS_le (y :: t)
    have ew : wholeL (x :: y :: t) = if (lenS (y :: t)).2.2 = 5 then (0, 0) else if (lenS (y :: t)).2.2 ≠ 0 then (0, (lenS (y :: t)).2.2) else if 1024 < (lenS (y :: t)).1 then (0, 2) else if (y :: t).length < (lenS (y :: t)).2.1 + (lenS (y :: t)).1 then (0, 0) else (1 + (lenS (y :: t)).2.1 + (lenS (y :: t)).1, 0) := rfl
    refine f32_spec rd1 ⟨_, _, _, rfl, ?_⟩
    rw [ew] at hk
    generalize lenS (y :: t) = v at *
    obtain ⟨n, k, e⟩ := v
    dsimp only at hk vl ⊢
    refine brB_of (fun z => ?_) fun z => ?_
    · have z' : e = 5 := by simpa using z
      rw [if_pos z'] at hk; exact hk
    have z5 : e ≠ 5 := by simpa using z
    rw [if_neg z5] at hk
    refine brB_of (fun z => ?_) fun z => ?_
    · have z' : e ≠ 0 := by simpa using z
      rw [if_pos z'] at hk; exact hk
    have z0 : e = 0 := by simpa using z
    rw [if_neg (by rw [z0]; simp)] at hk
    refine brB_of (fun z => ?_) fun z => ?_
    · rw [if_pos (by have := of_decide_eq_true z; omega)] at hk; exact hk
    have n1024 : ¬ 1024 < n := by have := of_decide_eq_false z; omega
    rw [if_neg n1024] at hk
    have e1 : IntKind.i64.wrap (IntKind.i64.wrap ((((x :: y :: t).length : Nat) : Int) - 1) - ((k : Nat) : Int)) = (((y :: t).length - k : Nat) : Int) := by
      rw [List.length_cons, wrap64 (x := _ - 1) (by omega) (by omega), wrap64 (by omega) (by omega)]; omega
    rw [e1]
    refine brB_of (fun z => ?_) fun z => ?_
    · rw [if_pos (by have := of_decide_eq_true z; omega)] at hk; exact hk
    · rw [if_neg (by have := of_decide_eq_false z; omega)] at hk
      have e2 : IntKind.i64.wrap (IntKind.i64.wrap ((1 : Int) + ((k : Nat) : Int)) + ((n : Nat) : Int)) = ((1 + k + n : Nat) : Int) := by
        rw [wrap64 (x := (1 : Int) + _) (by omega) (by omega), wrap64 (by omega) (by omega)]; omega
      rw [e2]; exact hk
theorem f14_spec' {l : List UInt8} {a : Option Addr} {n : Nat} (hn : n = l.length) (T : TabOk w0) (w : Own w0 h X) (r : Rdr w0 R a c l) (hs : R ⊆ X)
    (hk : ∀ h' m' e, (m'.key, e) = decL l → PkV m' → Own w0 h' (ownP m' ++ X) → K (.tuple #[m'.agg, .int .i64 e]) h') :
    EvC Go.Proofs.Tryd.prog w0 14 #[.slice a n c] K h := by subst hn; exact f14_spec T w r hs hk
theorem f15_spec' {l : List UInt8} {a : Option Addr} {n : Nat} (hn : n = l.length) (T : TabOk w0) (w : Own w0 h X) (r : Rdr w0 R a c l) (hs : R ⊆ X)
    (hk : ∀ h' m' e, (m'.key, e) = decL l → PkV m' → Own w0 h' (ownP m' ++ X) → K (.tuple #[m'.agg, .int .i64 e]) h') :
    EvC Go.Proofs.Tryd.prog w0 15 #[.slice a n c] K h := by subst hn; exact f15_spec T w r hs hk
theorem pk_cell (m : PkM) : ∀ y ∈ m.cells, y.oneCell' = true := fun y hy => by
  simp only [PkM.cells, List.mem_cons, List.not_mem_nil, or_false] at hy
  rcases hy with rfl | rfl | rfl | rfl | rfl | rfl | rfl | rfl | rfl | rfl | rfl | rfl | rfl | rfl | rfl | rfl <;> rfl
theorem keys_app (ms : List PkM) (m : PkM) : (ms ++ [m]).map PkM.key = ms.map PkM.key ++ [m.key] := by simp
theorem feed_loop (T : TabOk w0) (fin : List Pk × Int × List UInt8)
    (hk : ∀ h' a c' ms p c, ms.map PkM.key = fin.1 → PksV a c' ms → SlV 1 p fin.2.2.length c (u8s fin.2.2) → Own w0 h' (stB b p fin.2.2.length c (decide (fin.2.1 ≠ 0)) :: (slB p (u8s fin.2.2) (c * 1) ++ (outP a c' ms ++ X))) → K (.tuple #[.slice a ms.length c', .int .i64 fin.2.1]) h') :
    ∀ (f : Nat) (l : List UInt8) (ms : List PkM) (a : Option Addr) (c' : Nat) (p : Option Addr) (c : Nat) (h : AH), l.length ≤ f → l.length + ms.length ≤ 100000000000 → (ms.map PkM.key ++ (feedF f l).1, (feedF f l).2) = fin → PksV a c' ms → SlV 1 p l.length c (u8s l) → Own w0 h (stB b p l.length c false :: (slB p (u8s l) (c * 1) ++ (outP a c' ms ++ X))) →
      f27_10000_body w0 K (some ⟨b, 0, none⟩) a ms.length c' h
  | f, l, ms, a, c', p, c, h, hf, hsz, he, v, vl, w => by
    have sub1 : slB p (u8s l) (c * 1) ⊆ stB b p l.length c false :: (slB p (u8s l) (c * 1) ++ (outP a c' ms ++ X)) := fun x hx => List.mem_cons_of_mem _ (List.mem_append_left _ hx)
    have rl : Rdr w0 (slB p (u8s l) (c * 1)) p c l := slB_rdr vl (by omega)
    obtain ⟨wl, w2⟩ := whole_le l
    have hcap := vl.2.1
    have bad : ∀ h1 e, e ≠ 0 → (ms.map PkM.key, e, []) = fin → Own w0 h1 (stB b p l.length c false :: (slB p (u8s l) (c * 1) ++ (outP a c' ms ++ X))) → f27_10001 w0 K (some ⟨b, 0, none⟩) a ms.length c' e h1 := fun h1 e ne ef w1 => by
      subst ef
      refine f27_10001_in _ _ _ _ _ _ ⟨_, rfl, _, _, w1.ge, rfl, w1.hd, by simp [Addr.add], ?_⟩
      have w2 := Own.put' (o' := .cells [.slice p l.length c, .bool true] 2) w1
      refine ⟨_, rfl, _, _, w2.ge, rfl, w2.hd, by simp [Addr.add], ?_⟩
      have w3 := Own.put' (o' := .cells [.slice none 0 0, .bool true] 2) w2
      refine hk _ a c' ms none 0 rfl v SlV.nil ?_
      rw [decide_eq_true ne]
      exact Own.cut (cs := [_]) w3
    unfold f27_10000_body
    refine ⟨_, rfl, _, _, _, w.cell0 rfl, f62_spec w rl sub1 ⟨_, _, rfl, ?_⟩⟩
    refine brB_of (fun z => ?_) fun z => brB_of (fun y => ?_) fun y => ?_
    · have z' : (wholeL l).2 ≠ 0 := by simpa using z
      refine bad h _ z' ?_ w
      cases f with
      | zero =>
        have : l = [] := List.eq_nil_of_length_eq_zero (by omega)
        subst this
        exact absurd rfl z'
      | succ f => rw [feedF, if_pos z', List.append_nil] at he; exact he
    · have z' : (wholeL l).2 = 0 := by simpa using z
      have y' : (wholeL l).1 = 0 := by simpa using y
      have e0 : feedF f l = ([], 0, l) := by
        cases f with
        | zero => rfl
        | succ f => rw [feedF, if_neg (by rw [z']; simp), if_pos y']
      rw [e0, List.append_nil] at he
      subst he
      exact hk h a c' ms p c rfl v vl w
    · have z' : (wholeL l).2 = 0 := by simpa using z
      have y' : (wholeL l).1 ≠ 0 := by simpa using y
      cases f with
      | zero => omega
      | succ f =>
      rw [feedF, if_neg (by rw [z']; simp), if_neg y'] at he
      refine ⟨_, rfl, _, _, _, w.cell0 rfl, by omega, by omega, ?_⟩
      rw [Int.toNat_natCast]
      have et : (wholeL l).1 = (l.take (wholeL l).1).length := by rw [List.length_take]; omega
      generalize (wholeL l).1 = n at *
      refine f14_spec' (l := l.take n) et T w rl.take sub1 fun h2 m e em v2 w2 => ⟨_, _, _, _, _, _, _, _, _, _, _, _, _, _, _, _, _, _, _, _, _, _, _, rfl, ?_⟩
      rw [← em] at he
      dsimp only at he
      refine brB_of (fun x => ?_) fun x => ?_
      · have x' : e ≠ 0 := by simpa using x
        rw [if_pos x', List.append_nil] at he
        exact bad h2 e x' he w2.drop
      · have x' : e = 0 := by simpa using x
        rw [if_neg (by rw [x']; simp)] at he
        have w3 : Own w0 h2 ((ownP m ++ (stB b p l.length c false :: slB p (u8s l) (c * 1))) ++ (slB a (ms.flatMap PkM.cells) (c' * 16) ++ (ownPs ms ++ X))) := by simpa only [outP, List.append_assoc, List.cons_append] using w2
        refine App_mid v.sl w3 (by omega) (by omega) rfl (pk_cell m) fun a4 c4 h4 v4 w4 => ?_
        have ef : ms.flatMap PkM.cells ++ m.cells = (ms ++ [m]).flatMap PkM.cells := by simp
        have el : (ms ++ [m]).length = ms.length + 1 := by simp
        rw [ef] at v4 w4
        have w5 : Own w0 h4 (stB b p l.length c false :: (slB p (u8s l) (c * 1) ++ (outP a4 c4 (ms ++ [m]) ++ X))) := w4.perm (by
          have eo : ownPs (ms ++ [m]) = ownPs ms ++ ownP m := by simp [ownPs]
          rw [outP, eo]
          classical
          rw [List.perm_iff_count]
          intro t
          simp only [List.count_append, List.count_cons]
          omega)
        have rd : Rd w0 h4 (cutA 1 p c n) (u8s (l.drop n)) := (rl.drop wl).at w5 (fun x hx => List.mem_cons_of_mem _ (List.mem_append_left _ hx))
        refine ⟨_, rfl, _, _, _, w5.cell0 rfl, by omega, by omega, ?_⟩
        have ed : (l.drop n).length = l.length - n := List.length_drop ..
        refine rowsOf_of rd (by rw [u8s_length, ed, Nat.mul_one]) (App_new w5 (by omega) (by omega) (by rw [u8s_length, ed, Nat.mul_one]) (u8s_cell _) fun a6 c6 h6 v6 w6 => ?_)
        have w7 := Own.front (ds := [stB b p l.length c false]) w6
        refine ⟨_, rfl, _, _, Own.ge w7, rfl, Own.hd w7, by simp [Addr.add], ?_⟩
        rw [Nat.zero_add, ← ed, ← el]
        have w8 := Own.put' (o' := .cells [.slice a6 (l.drop n).length c6, .bool false] 2) w7
        refine f27_10000_in _ _ _ _ _ _ _ _ _ _ _ _ _ _ _ _ _ _ _ _ _ _ _ _ _ _ _ (feed_loop T fin hk f (l.drop n) (ms ++ [m]) a4 c4 a6 c6 _ (by omega) (by rw [el]; omega) (by rw [keys_app, List.append_assoc]; exact he) ⟨by rw [el]; exact v4, fun x hx => ?_⟩ (by rw [ed]; exact v6) (Own.cut (cs := stB b a6 (l.drop n).length c6 false :: slB a6 (u8s (l.drop n)) (c6 * 1)) w8))
        rcases List.mem_append.1 hx with hx | hx
        · exact v.each x hx
        · rw [List.mem_singleton] at hx; subst hx; exact v2
end
end Go.G.YtciepfobnaemmaaDoor
