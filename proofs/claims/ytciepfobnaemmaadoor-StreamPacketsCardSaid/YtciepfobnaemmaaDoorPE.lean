/- publish, filters, codes. -/
import Derived.Test.YtciepfobnaemmaaDoorPD
import Derived.Test.YtciepfobnaemmaaDoorProg
set_option maxRecDepth 100000
namespace Go.G.YtciepfobnaemmaaDoor
open Go.RowKit
open Value (string slice int bool agg)
def f67_J : Nat → List Nat × Nat := jOf []



theorem f67_go {w0 : World} {K : Value → AH → Prop} (a d : Option Addr) (h : AH)
  (hv : (EvC Proofs.Tryd.prog w0 88 #[(Value.pointer a)] (fun a9 r => (∃ m : ByteArray, ((a9 = (string m)) ∧ (∃ b : Addr, ((d = (some b)) ∧ (∃ n : List Go.Value, (∃ s : Nat, (((Array.size (Go.World.heap w0)) ≤ (Addr.block (Addr.add (Addr.add b 3) 0))) ∧ (((none : Option Nat) = none) ∧ (((r (Addr.block (Addr.add (Addr.add b 3) 0))) = (some (AB.cells n s))) ∧ ((((Addr.off (Addr.add (Addr.add b 3) 0)) + (Array.size #[(string m)])) ≤ (List.length n)) ∧ (∃ y : Addr, ((d = (some y)) ∧ (∃ z : ByteArray, (((cellA w0 (AH.put r (Addr.block (Addr.add (Addr.add b 3) 0)) (AB.cells (setCells n (Addr.off (Addr.add (Addr.add b 3) 0)) [(string m)]) s)) (Addr.add (Addr.add y 3) 0)) = (some (string z))) ∧ (EvC Proofs.Tryd.prog w0 83 #[(string z)] (fun b0 b1 => (∃ A : Bool, ((b0 = (bool A)) ∧ (EvC Proofs.Tryd.prog w0 66 #[(Value.pointer a), (bool (!A)), (int .i64 (15 : Int))] (fun b2 o => ((b2 = (Value.tuple #[])) ∧ (∃ B : Addr, ((d = (some B)) ∧ (∃ C : Int, (((cellA w0 o (Addr.add (Addr.add B 3) 2)) = (some (int .i64 C))) ∧ (brB (decide (((0 : Int) < C))) (EvC Proofs.Tryd.prog w0 63 #[(Value.pointer a)] (fun b3 t => (∃ p : Int, ((b3 = (int .i64 p)) ∧ (∃ c : Addr, ((d = (some c)) ∧ (∃ q : List Go.Value, (∃ u : Nat, (((Array.size (Go.World.heap w0)) ≤ (Addr.block (Addr.add c 1))) ∧ (((none : Option Nat) = none) ∧ (((t (Addr.block (Addr.add c 1))) = (some (AB.cells q u))) ∧ ((((Addr.off (Addr.add c 1)) + (Array.size #[(int .i64 p)])) ≤ (List.length q)) ∧ (∃ D : Addr, ((a = (some D)) ∧ (∃ b4 : Option Addr, (∃ E : Nat, (∃ b5 : Nat, (((cellA w0 (AH.put t (Addr.block (Addr.add c 1)) (AB.cells (setCells q (Addr.off (Addr.add c 1)) [(int .i64 p)]) u)) (Addr.add D 0)) = (some (slice b4 E b5))) ∧ (EvC Proofs.Tryd.prog w0 66 #[(Value.pointer a), (bool (decide (((256 : Int) < ((E : Nat) : Int))))), (int .i64 (2 : Int))] (fun b6 F => ((b6 = (Value.tuple #[])) ∧ (∃ L : Addr, ((a = (some L)) ∧ (∃ b7 : Option Addr, (∃ M : Nat, (∃ b8 : Nat, (((cellA w0 F (Addr.add L 0)) = (some (slice b7 M b8))) ∧ (EvC Proofs.Tryd.prog w0 89 #[(Value.pointer a), (int .i64 ((M : Nat) : Int))] (fun b9 N => (∃ Q : Option Addr, (∃ i : Nat, (∃ c0 : Nat, ((b9 = (slice Q i c0)) ∧ (rowsOf w0 N 1 Q i (fun c1 => (App w0 N 1 1 none 0 0 i c1 (fun R T U => (∃ e : Addr, ((d = (some e)) ∧ (∃ v : List Go.Value, (∃ V : Nat, (((Array.size (Go.World.heap w0)) ≤ (Addr.block (Addr.add (Addr.add e 3) 1))) ∧ (((none : Option Nat) = none) ∧ (((U (Addr.block (Addr.add (Addr.add e 3) 1))) = (some (AB.cells v V))) ∧ ((((Addr.off (Addr.add (Addr.add e 3) 1)) + (Array.size #[(slice R (0 + i) T)])) ≤ (List.length v)) ∧ (K (Value.tuple #[]) (AH.put U (Addr.block (Addr.add (Addr.add e 3) 1)) (AB.cells (setCells v (Addr.off (Addr.add (Addr.add e 3) 1)) [(slice R (0 + i) T)]) V)))))))))))))))))))) F))))))))) (AH.put t (Addr.block (Addr.add c 1)) (AB.cells (setCells q (Addr.off (Addr.add c 1)) [(int .i64 p)]) u)))))))))))))))))))) o) (∃ Y : Addr, ((a = (some Y)) ∧ (∃ c2 : Option Addr, (∃ Z : Nat, (∃ c3 : Nat, (((cellA w0 o (Addr.add Y 0)) = (some (slice c2 Z c3))) ∧ (EvC Proofs.Tryd.prog w0 66 #[(Value.pointer a), (bool (decide (((256 : Int) < ((Z : Nat) : Int))))), (int .i64 (2 : Int))] (fun c4 a0 => ((c4 = (Value.tuple #[])) ∧ (∃ a1 : Addr, ((a = (some a1)) ∧ (∃ c5 : Option Addr, (∃ a2 : Nat, (∃ c6 : Nat, (((cellA w0 a0 (Addr.add a1 0)) = (some (slice c5 a2 c6))) ∧ (EvC Proofs.Tryd.prog w0 89 #[(Value.pointer a), (int .i64 ((a2 : Nat) : Int))] (fun c7 a3 => (∃ a4 : Option Addr, (∃ k : Nat, (∃ c8 : Nat, ((c7 = (slice a4 k c8)) ∧ (rowsOf w0 a3 1 a4 k (fun c9 => (App w0 a3 1 1 none 0 0 k c9 (fun a5 a6 a7 => (∃ g : Addr, ((d = (some g)) ∧ (∃ x : List Go.Value, (∃ a8 : Nat, (((Array.size (Go.World.heap w0)) ≤ (Addr.block (Addr.add (Addr.add g 3) 1))) ∧ (((none : Option Nat) = none) ∧ (((a7 (Addr.block (Addr.add (Addr.add g 3) 1))) = (some (AB.cells x a8))) ∧ ((((Addr.off (Addr.add (Addr.add g 3) 1)) + (Array.size #[(slice a5 (0 + k) a6)])) ≤ (List.length x)) ∧ (K (Value.tuple #[]) (AH.put a7 (Addr.block (Addr.add (Addr.add g 3) 1)) (AB.cells (setCells x (Addr.off (Addr.add (Addr.add g 3) 1)) [(slice a5 (0 + k) a6)]) a8)))))))))))))))))))) a0))))))))) o)))))))))))))) b1)))) (AH.put r (Addr.block (Addr.add (Addr.add b 3) 0)) (AB.cells (setCells n (Addr.off (Addr.add (Addr.add b 3) 0)) [(string m)]) s)))))))))))))))))) h)) :
  EvC Proofs.Tryd.prog w0 67 ([(.pointer a), (.pointer d)]).toArray K h := EvC_intro (P := Proofs.Tryd.prog) f67_J (Eq.mp (by kernel_rfl) hv)
def f68_J : Nat → List Nat × Nat := jOf [(1, (rn 66 64 []), 0), (2, (rn 66 64 []), 0)]

def f68_1 (w0 : World) (K : Value → AH → Prop) (a b : Option Addr) (h : AH) : Prop :=
  ∀ j : Nat → Value, LPk Proofs.Tryd.prog w0 (EvC Proofs.Tryd.prog w0) f68_J 68 K 1 (.v (.pointer a) :: (.v (.pointer b) :: (jv j 66 64 []))) [] h

def f68_2 (w0 : World) (K : Value → AH → Prop) (a b : Option Addr) (h : AH) : Prop :=
  ∀ j : Nat → Value, LPk Proofs.Tryd.prog w0 (EvC Proofs.Tryd.prog w0) f68_J 68 K 2 (.v (.pointer a) :: (.v (.pointer b) :: (jv j 66 64 []))) [] h

theorem f68_1_in {w0 : World} {K : Value → AH → Prop} (a b : Option Addr) (h : AH)
  (hv : (∃ c : Addr, ((a = (some c)) ∧ (∃ i : Option Addr, (∃ d : Nat, (∃ k : Nat, (((cellA w0 h (Addr.add c 0)) = (some (slice i d k))) ∧ (brB (decide (((0 : Int) < ((d : Nat) : Int)))) (∃ e : Addr, ((a = (some e)) ∧ (∃ g : Int, (((cellA w0 h (Addr.add e 1)) = (some (int .i64 g))) ∧ (brB (g == (0 : Int)) (f68_2 w0 K a b h) (K (Value.tuple #[]) h)))))) (K (Value.tuple #[]) h))))))))) :
  f68_1 w0 K a b h := fun j => LP_intro (P := Proofs.Tryd.prog) (Eq.mp (by kernel_rfl) hv)

theorem f68_2_in {w0 : World} {K : Value → AH → Prop} (b a : Option Addr) (h : AH)
  (hv : (∃ z : Addr, ((a = (some z)) ∧ (∃ b2 : Option Addr, (∃ A : Nat, (∃ b3 : Nat, (((cellA w0 h (Addr.add z 14)) = (some (slice b2 A b3))) ∧ (EvC Proofs.Tryd.prog w0 66 #[(Value.pointer b), (bool (((A : Nat) : Int) == (8 : Int))), (int .i64 (13 : Int))] (fun b4 b5 => ((b4 = (Value.tuple #[])) ∧ (EvC Proofs.Tryd.prog w0 88 #[(Value.pointer b)] (fun b6 b7 => (∃ c : ByteArray, ((b6 = (string c)) ∧ (EvC Proofs.Tryd.prog w0 84 #[(string c)] (fun b8 b9 => (∃ B : Bool, ((b8 = (bool B)) ∧ (EvC Proofs.Tryd.prog w0 66 #[(Value.pointer b), (bool (!B)), (int .i64 (15 : Int))] (fun c0 d => ((c0 = (Value.tuple #[])) ∧ (∃ C : Addr, ((a = (some C)) ∧ (∃ D : Int, (((cellA w0 d (Addr.add C 0)) = (some (int .i64 D))) ∧ (brB (D == (8 : Int)) (EvC Proofs.Tryd.prog w0 65 #[(Value.pointer b)] (fun c1 c2 => (∃ m : Int, ((c1 = (int .i64 m)) ∧ (EvC Proofs.Tryd.prog w0 66 #[(Value.pointer b), (bool (decide (((2 : Int) < m)))), (int .i64 (3 : Int))] (fun c3 n => ((c3 = (Value.tuple #[])) ∧ (∃ s : Addr, ((a = (some s)) ∧ ((∃ E : Option Addr, (∃ o : Nat, (∃ F : Nat, (((cellA w0 n (Addr.add s 14)) = (some (slice E o F))) ∧ (App w0 n 2 24 E o F 1 [(string c), (int .i64 m)] (fun L M N => (∃ e : Addr, ((a = (some e)) ∧ (∃ t : List Go.Value, (∃ Q : Nat, (((Array.size (Go.World.heap w0)) ≤ (Addr.block (Addr.add e 14))) ∧ (((none : Option Nat) = none) ∧ (((N (Addr.block (Addr.add e 14))) = (some (AB.cells t Q))) ∧ ((((Addr.off (Addr.add e 14)) + (Array.size #[(slice L (o + 1) M)])) ≤ (List.length t)) ∧ (f68_1 w0 K b a (AH.put N (Addr.block (Addr.add e 14)) (AB.cells (setCells t (Addr.off (Addr.add e 14)) [(slice L (o + 1) M)]) Q))))))))))))))))) ∧ (∃ R : Option Addr, (∃ p : Nat, (∃ T : Nat, (((cellA w0 n (Addr.add s 14)) = (some (slice R p T))) ∧ (App w0 n 2 24 R p T 1 [(string c), (int .i64 m)] (fun U V Y => (∃ g : Addr, ((a = (some g)) ∧ (∃ u : List Go.Value, (∃ Z : Nat, (((Array.size (Go.World.heap w0)) ≤ (Addr.block (Addr.add g 14))) ∧ (((none : Option Nat) = none) ∧ (((Y (Addr.block (Addr.add g 14))) = (some (AB.cells u Z))) ∧ ((((Addr.off (Addr.add g 14)) + (Array.size #[(slice U (p + 1) V)])) ≤ (List.length u)) ∧ (f68_1 w0 K b a (AH.put Y (Addr.block (Addr.add g 14)) (AB.cells (setCells u (Addr.off (Addr.add g 14)) [(slice U (p + 1) V)]) Z)))))))))))))))))))))) c2)))) d) (∃ v : Addr, ((a = (some v)) ∧ ((∃ a0 : Option Addr, (∃ q : Nat, (∃ a1 : Nat, (((cellA w0 d (Addr.add v 14)) = (some (slice a0 q a1))) ∧ (App w0 d 2 24 a0 q a1 1 [(string c), (int .i64 (0 : Int))] (fun a2 a3 a4 => (∃ i : Addr, ((a = (some i)) ∧ (∃ x : List Go.Value, (∃ a5 : Nat, (((Array.size (Go.World.heap w0)) ≤ (Addr.block (Addr.add i 14))) ∧ (((none : Option Nat) = none) ∧ (((a4 (Addr.block (Addr.add i 14))) = (some (AB.cells x a5))) ∧ ((((Addr.off (Addr.add i 14)) + (Array.size #[(slice a2 (q + 1) a3)])) ≤ (List.length x)) ∧ (f68_1 w0 K b a (AH.put a4 (Addr.block (Addr.add i 14)) (AB.cells (setCells x (Addr.off (Addr.add i 14)) [(slice a2 (q + 1) a3)]) a5))))))))))))))))) ∧ (∃ a6 : Option Addr, (∃ r : Nat, (∃ a7 : Nat, (((cellA w0 d (Addr.add v 14)) = (some (slice a6 r a7))) ∧ (App w0 d 2 24 a6 r a7 1 [(string c), (int .i64 (0 : Int))] (fun a8 a9 b0 => (∃ k : Addr, ((a = (some k)) ∧ (∃ y : List Go.Value, (∃ b1 : Nat, (((Array.size (Go.World.heap w0)) ≤ (Addr.block (Addr.add k 14))) ∧ (((none : Option Nat) = none) ∧ (((b0 (Addr.block (Addr.add k 14))) = (some (AB.cells y b1))) ∧ ((((Addr.off (Addr.add k 14)) + (Array.size #[(slice a8 (r + 1) a9)])) ≤ (List.length y)) ∧ (f68_1 w0 K b a (AH.put b0 (Addr.block (Addr.add k 14)) (AB.cells (setCells y (Addr.off (Addr.add k 14)) [(slice a8 (r + 1) a9)]) b1))))))))))))))))))))))))))) b9)))) b7)))) b5))) h)))))))) :
  f68_2 w0 K b a h := fun j => LP_intro (P := Proofs.Tryd.prog) (Eq.mp (by kernel_rfl) hv)

theorem f68_go {w0 : World} {K : Value → AH → Prop} (a b : Option Addr) (h : AH)
  (hv : (∃ c : Addr, ((a = (some c)) ∧ (∃ e : Option Addr, (∃ d : Nat, (∃ g : Nat, (((cellA w0 h (Addr.add c 0)) = (some (slice e d g))) ∧ (EvC Proofs.Tryd.prog w0 66 #[(Value.pointer a), (bool (((d : Nat) : Int) == (0 : Int))), (int .i64 (3 : Int))] (fun i k => ((i = (Value.tuple #[])) ∧ (f68_1 w0 K a b k))) h)))))))) :
  EvC Proofs.Tryd.prog w0 68 ([(.pointer a), (.pointer b)]).toArray K h := EvC_intro (P := Proofs.Tryd.prog) f68_J (Eq.mp (by kernel_rfl) hv)
def f69_J : Nat → List Nat × Nat := jOf [(1, (rn 51 49 []), 0), (2, (rn 51 49 []), 0)]

def f69_1 (w0 : World) (K : Value → AH → Prop) (a b : Option Addr) (h : AH) : Prop :=
  ∀ j : Nat → Value, LPk Proofs.Tryd.prog w0 (EvC Proofs.Tryd.prog w0) f69_J 69 K 1 (.v (.pointer a) :: (.v (.pointer b) :: (jv j 51 49 []))) [] h

def f69_2 (w0 : World) (K : Value → AH → Prop) (a b : Option Addr) (h : AH) : Prop :=
  ∀ j : Nat → Value, LPk Proofs.Tryd.prog w0 (EvC Proofs.Tryd.prog w0) f69_J 69 K 2 (.v (.pointer a) :: (.v (.pointer b) :: (jv j 51 49 []))) [] h

theorem f69_1_in {w0 : World} {K : Value → AH → Prop} (a b : Option Addr) (h : AH)
  (hv : (∃ c : Addr, ((a = (some c)) ∧ (∃ i : Option Addr, (∃ d : Nat, (∃ k : Nat, (((cellA w0 h (Addr.add c 0)) = (some (slice i d k))) ∧ (brB (decide (((0 : Int) < ((d : Nat) : Int)))) (∃ e : Addr, ((a = (some e)) ∧ (∃ g : Int, (((cellA w0 h (Addr.add e 1)) = (some (int .i64 g))) ∧ (brB (g == (0 : Int)) (f69_2 w0 K a b h) (K (Value.tuple #[]) h)))))) (K (Value.tuple #[]) h))))))))) :
  f69_1 w0 K a b h := fun j => LP_intro (P := Proofs.Tryd.prog) (Eq.mp (by kernel_rfl) hv)

theorem f69_2_in {w0 : World} {K : Value → AH → Prop} (b c : Option Addr) (h : AH)
  (hv : (∃ i : Addr, ((c = (some i)) ∧ (∃ v : Option Addr, (∃ k : Nat, (∃ x : Nat, (((cellA w0 h (Addr.add i 15)) = (some (slice v k x))) ∧ (EvC Proofs.Tryd.prog w0 66 #[(Value.pointer b), (bool (((k : Nat) : Int) == (8 : Int))), (int .i64 (13 : Int))] (fun y z => ((y = (Value.tuple #[])) ∧ (EvC Proofs.Tryd.prog w0 65 #[(Value.pointer b)] (fun A B => (∃ e : Int, ((A = (int .i64 e)) ∧ (EvC Proofs.Tryd.prog w0 57 #[(int .i64 e)] (fun C D => (∃ m : Bool, ((C = (bool m)) ∧ (EvC Proofs.Tryd.prog w0 66 #[(Value.pointer b), (bool (!m)), (int .i64 (3 : Int))] (fun E n => ((E = (Value.tuple #[])) ∧ (∃ o : Addr, ((c = (some o)) ∧ (∃ p : Option Addr, (∃ d : Nat, (∃ q : Nat, (((cellA w0 n (Addr.add o 15)) = (some (slice p d q))) ∧ (App w0 n 1 8 p d q 1 [(int .i64 e)] (fun r s t => (∃ a : Addr, ((c = (some a)) ∧ (∃ g : List Go.Value, (∃ u : Nat, (((Array.size (Go.World.heap w0)) ≤ (Addr.block (Addr.add a 15))) ∧ (((none : Option Nat) = none) ∧ (((t (Addr.block (Addr.add a 15))) = (some (AB.cells g u))) ∧ ((((Addr.off (Addr.add a 15)) + (Array.size #[(slice r (d + 1) s)])) ≤ (List.length g)) ∧ (f69_1 w0 K b c (AH.put t (Addr.block (Addr.add a 15)) (AB.cells (setCells g (Addr.off (Addr.add a 15)) [(slice r (d + 1) s)]) u))))))))))))))))))))) D)))) B)))) z))) h)))))))) :
  f69_2 w0 K b c h := fun j => LP_intro (P := Proofs.Tryd.prog) (Eq.mp (by kernel_rfl) hv)

theorem f69_go {w0 : World} {K : Value → AH → Prop} (a b : Option Addr) (h : AH)
  (hv : (∃ c : Addr, ((a = (some c)) ∧ (∃ e : Option Addr, (∃ d : Nat, (∃ g : Nat, (((cellA w0 h (Addr.add c 0)) = (some (slice e d g))) ∧ (EvC Proofs.Tryd.prog w0 66 #[(Value.pointer a), (bool (((d : Nat) : Int) == (0 : Int))), (int .i64 (3 : Int))] (fun i k => ((i = (Value.tuple #[])) ∧ (f69_1 w0 K a b k))) h)))))))) :
  EvC Proofs.Tryd.prog w0 69 ([(.pointer a), (.pointer b)]).toArray K h := EvC_intro (P := Proofs.Tryd.prog) f69_J (Eq.mp (by kernel_rfl) hv)
/-! ### publish; filters; codes -/
theorem err_take {s : RS} {n : Nat} (h : s.2 ≠ 0) : takeS s n = ([], s) := by unfold takeS; rw [if_neg h]
theorem err_one {s : RS} (h : s.2 ≠ 0) : oneS s = (0, s) := by unfold oneS; rw [err_take h]
theorem err_two {s : RS} (h : s.2 ≠ 0) : twoS s = (0, s) := by unfold twoS; rw [err_take h]
theorem err_text {s : RS} (h : s.2 ≠ 0) : textS s = ([], s) := by unfold textS; rw [err_two h, err_take h]
theorem fail_err {s : RS} {is : Bool} {e : Int} (h : s.2 ≠ 0) : (failS s is e).2 ≠ 0 := by rw [failS_err h]; exact h
theorem fail_yes {s : RS} {e : Int} (he : e ≠ 0) : (failS s true e).2 ≠ 0 := by
  by_cases h : s.2 = 0
  · unfold failS; rw [decide_eq_true h]; exact he
  · exact fail_err h
/-- A PUBLISH: topic, id, bytes. -/
def pubS (q : Nat) (s : RS) : List UInt8 × Nat × List UInt8 × RS :=
  let s1 := failS (textS s).2 (!(nameB (toB (textS s).1))) 15
  let i := if 0 < q then idS s1 else (0, s1)
  let s2 := failS i.2 (decide (256 < i.2.1.length)) 2
  ((textS s).1, i.1, takeX s2 s2.1.length, (takeS s2 s2.1.length).2)
def wantsS (sub : Bool) (s : RS) : List (ByteArray × Int) × RS := wantsF sub 9 [] (failS s (decide (s.1.length = 0)) 3)
def codesS (s : RS) : List Int × RS := codesF 9 [] (failS s (decide (s.1.length = 0)) 3)
section
variable {w0 : World} {K : Value → AH → Prop} {h : AH} {R X : List (Nat × AB)} {b c : Nat} {p : Option Addr} {s : RS}
theorem takeX_len (s : RS) (n : Nat) : (takeX s n).length ≤ n := by
  unfold takeX
  split
  · exact List.length_take_le ..
  · rw [List.length_replicate]; exact Nat.min_le_left ..
/-- publish. -/
theorem f67_spec {q n : Nat} {m : PkM} (T : TabOk w0) (hq : m.qos = ((n : Nat) : Int)) (hm : m.pa = none ∧ m.pc = 0 ∧ m.pay = [] ∧ m.id = 0) (w : Own w0 h (rdB b p c s :: pkB q m :: X)) (r : Rdr w0 R p c s.1) (hs : R ⊆ X)
    (hk : ∀ h' p' c' pa pc, SlV 1 pa (pubS n s).2.2.1.length pc (u8s (pubS n s).2.2.1) → Own w0 h' (rdB b p' c' (pubS n s).2.2.2 :: pkB q { m with topic := toB (pubS n s).1, id := (((pubS n s).2.1 : Nat) : Int), pa := pa, pc := pc, pay := (pubS n s).2.2.1 } :: (slB pa (u8s (pubS n s).2.2.1) (pc * 1) ++ X)) → Rdr w0 R p' c' (pubS n s).2.2.2.1 → K (.tuple #[]) h') :
    EvC Go.Proofs.Tryd.prog w0 67 #[.pointer (some ⟨b, 0, none⟩), .pointer (some ⟨q, 0, none⟩)] K h := by
  refine f67_go _ _ _ (f88_spec w r (sub_cons hs) fun h1 p1 c1 w1 r1 => ⟨_, rfl, _, rfl, _, _, w1.tail.ge, rfl, w1.tail.hd, by simp [Addr.add], ?_⟩)
  have w2 := Own.upd2 (o' := .cells ({ m with topic := toB (textS s).1 } : PkM).cells 16) w1
  refine ⟨_, rfl, _, w2.tail.cell0 (j := 3) rfl, f83_spec T w2 fun h3 w3 => ⟨_, rfl, f66_spec w3 fun h4 w4 => ⟨rfl, _, rfl, m.qos, w4.tail.cell0 (j := 5) rfl, ?_⟩⟩⟩
  rw [hq]
  have rest : ∀ (i : Nat) (z : RS) h5 p5 c5, (i, z) = (if 0 < n then idS (failS (textS s).2 (!(nameB (toB (textS s).1))) 15) else (0, failS (textS s).2 (!(nameB (toB (textS s).1))) 15)) → Own w0 h5 (rdB b p5 c5 z :: pkB q { m with topic := toB (textS s).1, id := ((i : Nat) : Int) } :: X) → Rdr w0 R p5 c5 z.1 →
      ∃ a21 : Addr, some (⟨b, 0, none⟩ : Addr) = some a21 ∧ ∃ (p22 : Option Addr) (n23 n24 : Nat), cellA w0 h5 (Addr.add a21 0) = some (.slice p22 n23 n24) ∧ EvC Go.Proofs.Tryd.prog w0 66 #[.pointer (some ⟨b, 0, none⟩), .bool (decide ((256 : Int) < ((n23 : Nat) : Int))), .int .i64 2] (fun x h26 => x = .tuple #[] ∧
        ∃ a27 : Addr, some (⟨b, 0, none⟩ : Addr) = some a27 ∧ ∃ (p28 : Option Addr) (n29 n30 : Nat), cellA w0 h26 (Addr.add a27 0) = some (.slice p28 n29 n30) ∧ EvC Go.Proofs.Tryd.prog w0 89 #[.pointer (some ⟨b, 0, none⟩), .int .i64 ((n29 : Nat) : Int)] (fun x h32 => ∃ (p33 : Option Addr) (n34 n35 : Nat), x = .slice p33 n34 n35 ∧
          rowsOf w0 h32 1 p33 n34 fun ys => App w0 h32 1 1 none 0 0 n34 ys fun a37 c38 h39 => ∃ a40 : Addr, some (⟨q, 0, none⟩ : Addr) = some a40 ∧ ∃ (l41 : List Value) (n42 : Nat), w0.heap.size ≤ (Addr.add (Addr.add a40 3) 1).block ∧ (none : Option Nat) = none ∧ h39 (Addr.add (Addr.add a40 3) 1).block = some (.cells l41 n42) ∧
            (Addr.add (Addr.add a40 3) 1).off + Array.size #[Value.slice a37 (0 + n34) c38] ≤ l41.length ∧ K (.tuple #[]) (h39.put (Addr.add (Addr.add a40 3) 1).block (.cells (setCells l41 (Addr.add (Addr.add a40 3) 1).off [.slice a37 (0 + n34) c38]) n42))) h26) h5 := fun i z h5 p5 c5 ei w5 r5 => by
    refine ⟨_, rfl, _, _, _, w5.cell0 rfl, f66_spec w5 fun h6 w6 => ⟨rfl, _, rfl, _, _, _, w6.cell0 rfl, ?_⟩⟩
    have e0 : decide ((256 : Int) < ((z.1.length : Nat) : Int)) = decide (256 < z.1.length) := by rw [decide_eq_decide]; omega
    rw [e0] at w6 ⊢
    have r6 : Rdr w0 R p5 c5 (failS z (decide (256 < z.1.length)) 2).1 := by rw [failS_fst]; exact r5
    have ep : pubS n s = ((textS s).1, i, takeX (failS z (decide (256 < z.1.length)) 2) (failS z (decide (256 < z.1.length)) 2).1.length, (takeS (failS z (decide (256 < z.1.length)) 2) (failS z (decide (256 < z.1.length)) 2).1.length).2) := by
      unfold pubS
      dsimp only
      rw [← ei]
    generalize failS z (decide (256 < z.1.length)) 2 = y at *
    rw [ep] at hk
    have tl := takeX_len y y.1.length
    have rl := r6.len
    refine f89_spec w6 r6 (sub_cons hs) rl fun h7 p7 c7 a7 d7 D w7 r7 ra => ⟨_, _, _, rfl, rowsOf_of ra (by rw [u8s_length, Nat.mul_one]) ?_⟩
    refine App_new w7 (by omega) (by omega) (by rw [u8s_length, Nat.mul_one]) (u8s_cell _) fun a8 c8 h8 v8 w8 => ?_
    have w9 : Own w0 h8 (rdB b p7 c7 (takeS y y.1.length).2 :: pkB q { m with topic := toB (textS s).1, id := ((i : Nat) : Int) } :: (slB a8 (u8s (takeX y y.1.length)) (c8 * 1) ++ X)) := by
      have w8' : Own w0 h8 (slB a8 (u8s (takeX y y.1.length)) (c8 * 1) ++ ([rdB b p7 c7 (takeS y y.1.length).2] ++ (D ++ ([pkB q { m with topic := toB (textS s).1, id := ((i : Nat) : Int) }] ++ X)))) := w8
      have w9 := w8'.front
      -- D is dropped
      have w10 : Own w0 h8 (D ++ ([rdB b p7 c7 (takeS y y.1.length).2] ++ (slB a8 (u8s (takeX y y.1.length)) (c8 * 1) ++ ([pkB q { m with topic := toB (textS s).1, id := ((i : Nat) : Int) }] ++ X)))) := w9.perm (by
        have p1 : (slB a8 (u8s (takeX y y.1.length)) (c8 * 1) ++ (D ++ ([pkB q { m with topic := toB (textS s).1, id := ((i : Nat) : Int) }] ++ X))).Perm (D ++ (slB a8 (u8s (takeX y y.1.length)) (c8 * 1) ++ ([pkB q { m with topic := toB (textS s).1, id := ((i : Nat) : Int) }] ++ X))) := List.perm_append_comm_assoc ..
        exact (p1.append_left _).trans (List.perm_append_comm_assoc ..))
      have w11 := w10.drop
      refine w11.perm (List.Perm.append_left [_] ?_)
      exact List.perm_append_comm_assoc (slB a8 (u8s (takeX y y.1.length)) (c8 * 1)) [_] X
    refine ⟨_, rfl, _, _, w9.tail.ge, rfl, w9.tail.hd, by simp [Addr.add], ?_⟩
    rw [Nat.zero_add]
    have w12 := Own.upd2 (o' := .cells ({ m with topic := toB (textS s).1, id := ((i : Nat) : Int), pa := a8, pc := c8, pay := takeX y y.1.length } : PkM).cells 16) w9
    exact hk _ p7 c7 a8 c8 v8 w12 r7
  refine brB_of (fun z => ?_) fun z => ?_
  · have hn : 0 < n := by have := of_decide_eq_true z; omega
    rw [if_pos hn] at rest
    refine f63_spec w4 (by rw [failS_fst]; exact r1) (sub_cons hs) fun h5 p5 c5 w5 r5 => ⟨_, rfl, _, rfl, _, _, w5.tail.ge, rfl, w5.tail.hd, by simp [Addr.add], ?_⟩
    have w6 := Own.upd2 (o' := .cells ({ m with topic := toB (textS s).1, id := (((idS (failS (textS s).2 (!(nameB (toB (textS s).1))) 15)).1 : Nat) : Int) } : PkM).cells 16) w5
    exact rest _ _ _ p5 c5 rfl w6 r5
  · have hn : ¬ 0 < n := by have := of_decide_eq_false z; omega
    rw [if_neg hn] at rest
    have em : ({ m with topic := toB (textS s).1, id := ((0 : Nat) : Int) } : PkM) = { m with topic := toB (textS s).1 } := by
      have := hm.2.2.2
      obtain ⟨k0, k1, k2, k3, k4, k5, k6, k7, k8, k9, k10, k11, k12, k13, k14, k15, k16, k17, k18, k19, k20, k21⟩ := m
      dsimp only at this
      subst this
      rfl
    exact rest 0 _ _ p1 c1 rfl (by rw [em]; exact w4) (by rw [failS_fst]; exact r1)
/-- filters. -/
theorem f68_loop {q : Nat} {m : PkM} {sub : Bool} (T : TabOk w0) (hsub : decide (m.kind = 8) = sub) (hs : R ⊆ X)  (fin : List (ByteArray × Int) × RS)
    (hk : ∀ h' p' c' wa wc (ms : List WantM), ms.map WantM.key = fin.1 → SlV 2 wa ms.length wc (ms.flatMap WantM.cells) → Own w0 h' (rdB b p' c' fin.2 :: pkB q { m with wa := wa, wc := wc, wants := ms } :: (slB wa (ms.flatMap WantM.cells) (wc * 2) ++ X)) → Rdr w0 R p' c' fin.2.1 → K (.tuple #[]) h') :
    ∀ (n : Nat) (s : RS) (ms : List WantM) (wa : Option Addr) (wc : Nat) (p : Option Addr) (c : Nat) (h : AH), n + ms.length = 9 → (ms.length = 9 → s.2 ≠ 0) → wantsF sub n (ms.map WantM.key) s = fin → SlV 2 wa ms.length wc (ms.flatMap WantM.cells) → Own w0 h (rdB b p c s :: pkB q { m with wa := wa, wc := wc, wants := ms } :: (slB wa (ms.flatMap WantM.cells) (wc * 2) ++ X)) → Rdr w0 R p c s.1 →
      f68_1 w0 K (some ⟨b, 0, none⟩) (some ⟨q, 0, none⟩) h
  | n, s, ms, wa, wc, p, c, h, hn, h9, he, v, w, r => by
    have stop : ¬ (s.1 ≠ [] ∧ s.2 = 0) → K (.tuple #[]) h := fun hq => by
      have : wantsF sub n (ms.map WantM.key) s = (ms.map WantM.key, s) := by
        cases n with
        | zero => rfl
        | succ n => unfold wantsF; rw [if_neg hq]
      rw [this] at he
      rw [← he] at hk
      exact hk h p c wa wc ms rfl v w r
    refine f68_1_in _ _ _ ⟨_, rfl, _, _, _, w.cell0 rfl, brB_of (fun z => ⟨_, rfl, _, w.cell0 rfl, brB_of (fun y => ?_) fun y => ?_⟩) fun z => ?_⟩
    · have hq : s.1 ≠ [] ∧ s.2 = 0 := ⟨fun e => by rw [e] at z; simp at z, by simpa using y⟩
      have hlt : ms.length < 9 := by
        have : ms.length ≠ 9 := fun e => h9 e hq.2
        omega
      match n, hn, he with
      | 0, hn, _ => omega
      | n + 1, hn, he =>
      have eu : wantsF sub (n + 1) (ms.map WantM.key) s = (if sub then wantsF sub n (ms.map WantM.key ++ [(toB (textS (failS s (decide ((ms.map WantM.key).length = 8)) 13)).1, (((oneS (failS (textS (failS s (decide ((ms.map WantM.key).length = 8)) 13)).2 (!(filterB (toB (textS (failS s (decide ((ms.map WantM.key).length = 8)) 13)).1))) 15)).1 : Nat) : Int))]) (failS (oneS (failS (textS (failS s (decide ((ms.map WantM.key).length = 8)) 13)).2 (!(filterB (toB (textS (failS s (decide ((ms.map WantM.key).length = 8)) 13)).1))) 15)).2 (decide (2 < (oneS (failS (textS (failS s (decide ((ms.map WantM.key).length = 8)) 13)).2 (!(filterB (toB (textS (failS s (decide ((ms.map WantM.key).length = 8)) 13)).1))) 15)).1)) 3)
          else wantsF sub n (ms.map WantM.key ++ [(toB (textS (failS s (decide ((ms.map WantM.key).length = 8)) 13)).1, 0)]) (failS (textS (failS s (decide ((ms.map WantM.key).length = 8)) 13)).2 (!(filterB (toB (textS (failS s (decide ((ms.map WantM.key).length = 8)) 13)).1))) 15)) := by
        rw [wantsF, if_pos hq]
      rw [eu, List.length_map] at he
      have e8 : (((ms.length : Nat) : Int) == 8) = decide (ms.length = 8) := natBeq ms.length 8 (z := 8) rfl
      refine f68_2_in _ _ _ ⟨_, rfl, _, _, _, w.tail.cell0 (j := 14) rfl, ?_⟩
      rw [e8]
      refine f66_spec w fun h1 w1 => ⟨rfl, f88_spec w1 (by rw [failS_fst]; exact r) (sub_cons (sub_app hs)) fun h2 p2 c2 w2 r2 => ⟨_, rfl, f84_spec T w2 fun h3 w3 => ⟨_, rfl, f66_spec w3 fun h4 w4 => ⟨rfl, _, rfl, m.kind, w4.tail.cell0 (j := 0) rfl, ?_⟩⟩⟩⟩
      have r4 : Rdr w0 R p2 c2 (failS (textS (failS s (decide (ms.length = 8)) 13)).2 (!(filterB (toB (textS (failS s (decide (ms.length = 8)) 13)).1))) 15).1 := by rw [failS_fst]; exact r2
      have e9 : ms.length = 8 → (failS (textS (failS s (decide (ms.length = 8)) 13)).2 (!(filterB (toB (textS (failS s (decide (ms.length = 8)) 13)).1))) 15).2 ≠ 0 := fun e => by
        rw [decide_eq_true e]
        have := fail_yes (s := s) (e := 13) (by decide)
        rw [err_text this]
        exact fail_err this
      have ek : (m.kind == 8) = sub := by rw [← hsub]; rw [Bool.eq_iff_iff]; simp
      rw [ek]
      generalize failS (textS (failS s (decide (ms.length = 8)) 13)).2 (!(filterB (toB (textS (failS s (decide (ms.length = 8)) 13)).1))) 15 = z4 at *
      generalize toB (textS (failS s (decide (ms.length = 8)) 13)).1 = fl at *
      have step : ∀ (z5 : RS) (qq : Int) (h5 : AH) (p5 : Option Addr) (c5 : Nat), wantsF sub n (ms.map WantM.key ++ [(fl, qq)]) z5 = fin → (ms.length = 8 → z5.2 ≠ 0) → Own w0 h5 (rdB b p5 c5 z5 :: pkB q { m with wa := wa, wc := wc, wants := ms } :: (slB wa (ms.flatMap WantM.cells) (wc * 2) ++ X)) → Rdr w0 R p5 c5 z5.1 →
          App w0 h5 2 24 wa ms.length wc 1 [.string fl, .int .i64 qq] fun a37 c38 h39 => ∃ a40 : Addr, some (⟨q, 0, none⟩ : Addr) = some a40 ∧ ∃ (l41 : List Value) (n42 : Nat), w0.heap.size ≤ (Addr.add a40 14).block ∧ (none : Option Nat) = none ∧ h39 (Addr.add a40 14).block = some (.cells l41 n42) ∧
            (Addr.add a40 14).off + Array.size #[Value.slice a37 (ms.length + 1) c38] ≤ l41.length ∧ f68_1 w0 K (some ⟨b, 0, none⟩) (some ⟨q, 0, none⟩) (h39.put (Addr.add a40 14).block (.cells (setCells l41 (Addr.add a40 14).off [.slice a37 (ms.length + 1) c38]) n42)) := fun z5 qq h5 p5 c5 e5 n5 w5 r5 => by
        refine App_mid (cs := [_, _]) v w5 (by omega) (by omega) rfl (fun y hy => by simp at hy; rcases hy with rfl | rfl <;> rfl) fun a6 c6 h6 v6 w6 => ?_
        have ef : ms.flatMap WantM.cells ++ [.string fl, .int .i64 qq] = (ms ++ [(⟨fl, qq⟩ : WantM)]).flatMap WantM.cells := by simp
        have el : (ms ++ [(⟨fl, qq⟩ : WantM)]).length = ms.length + 1 := by simp
        rw [ef] at v6 w6
        have w6' : Own w0 h6 (rdB b p5 c5 z5 :: pkB q { m with wa := wa, wc := wc, wants := ms } :: (slB a6 ((ms ++ [(⟨fl, qq⟩ : WantM)]).flatMap WantM.cells) (c6 * 2) ++ X)) := w6
        refine ⟨_, rfl, _, _, w6'.tail.ge, rfl, w6'.tail.hd, by simp [Addr.add], ?_⟩
        have w7 := Own.upd2 (o' := .cells ({ m with wa := a6, wc := c6, wants := ms ++ [⟨fl, qq⟩] } : PkM).cells 16) w6'
        refine f68_loop T hsub hs fin hk n z5 (ms ++ [⟨fl, qq⟩]) a6 c6 p5 c5 _ (by rw [el]; omega) (fun e => n5 (by omega)) (by rw [List.map_append]; exact e5) (by rw [el]; exact v6) ?_ r5
        have es : (AB.cells ({ m with wa := a6, wc := c6, wants := ms ++ [⟨fl, qq⟩] } : PkM).cells 16) = AB.cells (setCells ({ m with wa := wa, wc := wc, wants := ms } : PkM).cells 14 [.slice a6 (ms.length + 1) c6]) 16 := by
          show _ = AB.cells [.int .i64 m.kind, .int .i64 m.id, .bool m.dup, .string m.topic, .slice m.pa m.pay.length m.pc, .int .i64 m.qos, .bool m.ret, .int .i64 m.til, .string m.client, .bool m.clean, .int .i64 m.alive, .bool m.will, .bool m.present, .int .i64 m.code, .slice a6 (ms.length + 1) c6, .slice m.ca m.codes.length m.cc] 16
          rw [← el]
        rw [es] at w7
        have e2 : (pkB q { m with wa := a6, wc := c6, wants := ms ++ [⟨fl, qq⟩] }) = (q, AB.cells (setCells ({ m with wa := wa, wc := wc, wants := ms } : PkM).cells 14 [.slice a6 (ms.length + 1) c6]) 16) := by rw [← es]
        rw [e2]
        exact w7
      refine brB_of (fun z => ?_) fun z => ?_
      · rw [if_pos z] at he
        refine f65_spec w4 r4 (sub_cons (sub_app hs)) fun h5 p5 c5 w5 r5 => ⟨_, rfl, f66_spec w5 fun h6 w6 => ⟨rfl, _, rfl, ?_⟩⟩
        have e0 : decide ((2 : Int) < (((oneS z4).1 : Nat) : Int)) = decide (2 < (oneS z4).1) := by rw [decide_eq_decide]; omega
        rw [e0] at w6
        have st := step _ _ h6 p5 c5 he (fun e => by rw [err_one (e9 e)]; exact fail_err (e9 e)) w6 (by rw [failS_fst]; exact r5)
        exact ⟨⟨_, _, _, w6.tail.cell0 (j := 14) rfl, st⟩, ⟨_, _, _, w6.tail.cell0 (j := 14) rfl, st⟩⟩
      · rw [if_neg (by rw [z]; decide)] at he
        have st := step _ _ h4 p2 c2 he e9 w4 r4
        exact ⟨_, rfl, ⟨_, _, _, w4.tail.cell0 (j := 14) rfl, st⟩, ⟨_, _, _, w4.tail.cell0 (j := 14) rfl, st⟩⟩
    · exact stop fun e => by rw [e.2] at y; simp at y
    · exact stop fun e => e.1 (List.eq_nil_of_length_eq_zero (by have := of_decide_eq_false z; omega))
/-- codes. -/
theorem f69_loop {q : Nat} {m : PkM} (hs : R ⊆ X) (fin : List Int × RS)
    (hk : ∀ h' p' c' ca cc (ms : List Int), ms = fin.1 → SlV 1 ca ms.length cc (ints ms) → Own w0 h' (rdB b p' c' fin.2 :: pkB q { m with ca := ca, cc := cc, codes := ms } :: (slB ca (ints ms) (cc * 1) ++ X)) → Rdr w0 R p' c' fin.2.1 → K (.tuple #[]) h') :
    ∀ (n : Nat) (s : RS) (ms : List Int) (ca : Option Addr) (cc : Nat) (p : Option Addr) (c : Nat) (h : AH), n + ms.length = 9 → (ms.length = 9 → s.2 ≠ 0) → codesF n ms s = fin → SlV 1 ca ms.length cc (ints ms) → Own w0 h (rdB b p c s :: pkB q { m with ca := ca, cc := cc, codes := ms } :: (slB ca (ints ms) (cc * 1) ++ X)) → Rdr w0 R p c s.1 →
      f69_1 w0 K (some ⟨b, 0, none⟩) (some ⟨q, 0, none⟩) h
  | n, s, ms, ca, cc, p, c, h, hn, h9, he, v, w, r => by
    have stop : ¬ (s.1 ≠ [] ∧ s.2 = 0) → K (.tuple #[]) h := fun hq => by
      have : codesF n ms s = (ms, s) := by
        cases n with
        | zero => rfl
        | succ n => unfold codesF; rw [if_neg hq]
      rw [this] at he
      rw [← he] at hk
      exact hk h p c ca cc ms rfl v w r
    refine f69_1_in _ _ _ ⟨_, rfl, _, _, _, w.cell0 rfl, brB_of (fun z => ⟨_, rfl, _, w.cell0 rfl, brB_of (fun y => ?_) fun y => ?_⟩) fun z => ?_⟩
    · have hq : s.1 ≠ [] ∧ s.2 = 0 := ⟨fun e => by rw [e] at z; simp at z, by simpa using y⟩
      have hlt : ms.length < 9 := by
        have : ms.length ≠ 9 := fun e => h9 e hq.2
        omega
      match n, hn, he with
      | 0, hn, _ => omega
      | n + 1, hn, he =>
      have eu : codesF (n + 1) ms s = codesF n (ms ++ [(((oneS (failS s (decide (ms.length = 8)) 13)).1 : Nat) : Int)]) (failS (oneS (failS s (decide (ms.length = 8)) 13)).2 (!(codedB (oneS (failS s (decide (ms.length = 8)) 13)).1)) 3) := by
        rw [codesF, if_pos hq]
      rw [eu] at he
      have e8 : (((ms.length : Nat) : Int) == 8) = decide (ms.length = 8) := natBeq ms.length 8 (z := 8) rfl
      refine f69_2_in _ _ _ ⟨_, rfl, _, _, _, w.tail.cell0 (j := 15) rfl, ?_⟩
      rw [e8]
      refine f66_spec w fun h1 w1 => ⟨rfl, f65_spec w1 (by rw [failS_fst]; exact r) (sub_cons (sub_app hs)) fun h2 p2 c2 w2 r2 => ⟨_, rfl, f57_spec ⟨_, rfl, f66_spec w2 fun h4 w4 => ⟨rfl, _, rfl, ca, ms.length, cc, w4.tail.cell0 (j := 15) rfl, ?_⟩⟩⟩⟩
      have e9 : ms.length = 8 → (failS (oneS (failS s (decide (ms.length = 8)) 13)).2 (!(codedB (oneS (failS s (decide (ms.length = 8)) 13)).1)) 3).2 ≠ 0 := fun e => by
        rw [decide_eq_true e]
        have := fail_yes (s := s) (e := 13) (by decide)
        rw [err_one this]
        exact fail_err this
      have r4 : Rdr w0 R p2 c2 (failS (oneS (failS s (decide (ms.length = 8)) 13)).2 (!(codedB (oneS (failS s (decide (ms.length = 8)) 13)).1)) 3).1 := by rw [failS_fst]; exact r2
      generalize failS (oneS (failS s (decide (ms.length = 8)) 13)).2 (!(codedB (oneS (failS s (decide (ms.length = 8)) 13)).1)) 3 = z5 at *
      generalize (((oneS (failS s (decide (ms.length = 8)) 13)).1 : Nat) : Int) = qq at *
      refine App_mid (cs := [_, _]) v w4 (by omega) (by omega) rfl (fun y hy => by simp at hy; rcases hy with rfl; rfl) fun a6 c6 h6 v6 w6 => ?_
      have ef : ints ms ++ [.int .i64 qq] = ints (ms ++ [qq]) := by simp [ints]
      have el : (ms ++ [qq]).length = ms.length + 1 := by simp
      rw [ef] at v6 w6
      have w6' : Own w0 h6 (rdB b p2 c2 z5 :: pkB q { m with ca := ca, cc := cc, codes := ms } :: (slB a6 (ints (ms ++ [qq])) (c6 * 1) ++ X)) := w6
      refine ⟨_, rfl, _, _, w6'.tail.ge, rfl, w6'.tail.hd, by simp [Addr.add], ?_⟩
      have w7 := Own.upd2 (o' := .cells ({ m with ca := a6, cc := c6, codes := ms ++ [qq] } : PkM).cells 16) w6'
      refine f69_loop hs fin hk n z5 (ms ++ [qq]) a6 c6 p2 c2 _ (by rw [el]; omega) (fun e => e9 (by omega)) he (by rw [el]; exact v6) ?_ r4
      have es : (AB.cells ({ m with ca := a6, cc := c6, codes := ms ++ [qq] } : PkM).cells 16) = AB.cells (setCells ({ m with ca := ca, cc := cc, codes := ms } : PkM).cells 15 [.slice a6 (ms.length + 1) c6]) 16 := by
        show _ = AB.cells [.int .i64 m.kind, .int .i64 m.id, .bool m.dup, .string m.topic, .slice m.pa m.pay.length m.pc, .int .i64 m.qos, .bool m.ret, .int .i64 m.til, .string m.client, .bool m.clean, .int .i64 m.alive, .bool m.will, .bool m.present, .int .i64 m.code, .slice m.wa m.wants.length m.wc, .slice a6 (ms.length + 1) c6] 16
        rw [← el]
      rw [es] at w7
      have e2 : (pkB q { m with ca := a6, cc := c6, codes := ms ++ [qq] }) = (q, AB.cells (setCells ({ m with ca := ca, cc := cc, codes := ms } : PkM).cells 15 [.slice a6 (ms.length + 1) c6]) 16) := by rw [← es]
      rw [e2]
      exact w7
    · exact stop fun e => by rw [e.2] at y; simp at y
    · exact stop fun e => e.1 (List.eq_nil_of_length_eq_zero (by have := of_decide_eq_false z; omega))
theorem nil_len (s : RS) : ((((s.1.length : Nat) : Int)) == 0) = decide (s.1.length = 0) := natBeq _ 0 (z := 0) rfl
theorem f68_spec {q : Nat} {m : PkM} {sub : Bool} (T : TabOk w0) (hsub : decide (m.kind = 8) = sub) (hm : m.wa = none ∧ m.wc = 0 ∧ m.wants = []) (w : Own w0 h (rdB b p c s :: pkB q m :: X)) (r : Rdr w0 R p c s.1) (hs : R ⊆ X)
    (hk : ∀ h' p' c' wa wc (ms : List WantM), ms.map WantM.key = (wantsS sub s).1 → SlV 2 wa ms.length wc (ms.flatMap WantM.cells) → Own w0 h' (rdB b p' c' (wantsS sub s).2 :: pkB q { m with wa := wa, wc := wc, wants := ms } :: (slB wa (ms.flatMap WantM.cells) (wc * 2) ++ X)) → Rdr w0 R p' c' (wantsS sub s).2.1 → K (.tuple #[]) h') :
    EvC Go.Proofs.Tryd.prog w0 68 #[.pointer (some ⟨b, 0, none⟩), .pointer (some ⟨q, 0, none⟩)] K h := by
  refine f68_go _ _ _ ⟨_, rfl, _, _, _, w.cell0 rfl, ?_⟩
  rw [nil_len]
  refine f66_spec w fun h1 w1 => ⟨rfl, f68_loop T hsub hs (wantsS sub s) hk 9 _ [] none 0 p c h1 rfl (fun e => by cases e) rfl SlV.nil ?_ (by rw [failS_fst]; exact r)⟩
  have em : { m with wa := none, wc := 0, wants := [] } = m := by
    obtain ⟨m1, m2, m3⟩ := hm
    obtain ⟨k0, k1, k2, k3, k4, k5, k6, k7, k8, k9, k10, k11, k12, k13, k14, k15, k16, k17, k18, k19, k20, k21⟩ := m
    dsimp only at m1 m2 m3
    subst m1 m2 m3
    rfl
  rw [em]
  exact w1
theorem f69_spec {q : Nat} {m : PkM} (hm : m.ca = none ∧ m.cc = 0 ∧ m.codes = []) (w : Own w0 h (rdB b p c s :: pkB q m :: X)) (r : Rdr w0 R p c s.1) (hs : R ⊆ X)
    (hk : ∀ h' p' c' ca cc (ms : List Int), ms = (codesS s).1 → SlV 1 ca ms.length cc (ints ms) → Own w0 h' (rdB b p' c' (codesS s).2 :: pkB q { m with ca := ca, cc := cc, codes := ms } :: (slB ca (ints ms) (cc * 1) ++ X)) → Rdr w0 R p' c' (codesS s).2.1 → K (.tuple #[]) h') :
    EvC Go.Proofs.Tryd.prog w0 69 #[.pointer (some ⟨b, 0, none⟩), .pointer (some ⟨q, 0, none⟩)] K h := by
  refine f69_go _ _ _ ⟨_, rfl, _, _, _, w.cell0 rfl, ?_⟩
  rw [nil_len]
  refine f66_spec w fun h1 w1 => ⟨rfl, f69_loop hs (codesS s) hk 9 _ [] none 0 p c h1 rfl (fun e => by cases e) rfl SlV.nil ?_ (by rw [failS_fst]; exact r)⟩
  have em : { m with ca := none, cc := 0, codes := [] } = m := by
    obtain ⟨m1, m2, m3⟩ := hm
    obtain ⟨k0, k1, k2, k3, k4, k5, k6, k7, k8, k9, k10, k11, k12, k13, k14, k15, k16, k17, k18, k19, k20, k21⟩ := m
    dsimp only at m1 m2 m3
    subst m1 m2 m3
    rfl
  rw [em]
  exact w1
end
end Go.G.YtciepfobnaemmaaDoor
