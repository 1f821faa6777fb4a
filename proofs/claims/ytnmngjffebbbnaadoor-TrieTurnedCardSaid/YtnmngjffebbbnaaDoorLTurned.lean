/- TrieTurned. -/
import Derived.Test.YtnmngjffebbbnaaDoorLDrops
import Derived.Test.YtnmngjffebbbnaaDoorProg
set_option maxRecDepth 100000
namespace Go.G.YtnmngjffebbbnaaDoor
open Go.RowKit
open Value (string slice int bool agg)
def f3_J : Nat → List Nat × Nat := jOf [(4, (2 :: (3 :: (4 :: (rn 19 11 (rn 101 80 []))))), 0), (7, (2 :: (3 :: (4 :: (rn 19 10 (21 :: (22 :: (23 :: (24 :: (rn 101 73 []))))))))), 0), (14, (2 :: (3 :: (4 :: (rn 52 44 (rn 101 47 []))))), 0), (10, (2 :: (3 :: (4 :: (rn 19 10 (21 :: (22 :: (23 :: (24 :: (rn 48 20 (rn 101 52 [])))))))))), 0)]

def f3_4 (w0 : World) (K : Value → AH → Prop) (a : Option Addr) (b c : Nat) (d : ByteArray) (e g : Option Addr) (i k m : Int) (h : AH) : Prop :=
  ∀ j : Nat → Value, LPk Proofs.Tryd.prog w0 (EvC Proofs.Tryd.prog w0) f3_J 3 K 4 (.v (.slice a b c) :: (.v (.string d) :: (jv j 5 3 (.v (.pointer e) :: (.v (.pointer g) :: (.v (.int .i64 i) :: (jv j 19 11 (.v (.int .i64 k) :: (.v (.int .i64 m) :: (jv j 101 80 [])))))))))) [] h

def f3_7 (w0 : World) (K : Value → AH → Prop) (a : Option Addr) (b c : Nat) (d : ByteArray) (e g : Option Addr) (i k : Int) (m n : Int) (o : Option Addr) (p q : Nat) (r s : Int) (h : AH) : Prop :=
  ∀ j : Nat → Value, LPk Proofs.Tryd.prog w0 (EvC Proofs.Tryd.prog w0) f3_J 3 K 7 (.v (.slice a b c) :: (.v (.string d) :: (jv j 5 3 (.v (.pointer e) :: (.v (.pointer g) :: (.v (.int .i64 i) :: (.v (.int .i64 k) :: (jv j 19 10 (.v (.int .i64 m) :: (.v (.int .i64 n) :: (jv j 25 4 (.v (.slice o p q) :: (.v (.int .i64 r) :: (.v (.int .i64 s) :: (jv j 101 73 []))))))))))))))) [] h

def f3_14 (w0 : World) (K : Value → AH → Prop) (a : Option Addr) (b c : Nat) (d : ByteArray) (e g : Option Addr) (i k m : Int) (h : AH) : Prop :=
  ∀ j : Nat → Value, LPk Proofs.Tryd.prog w0 (EvC Proofs.Tryd.prog w0) f3_J 3 K 14 (.v (.slice a b c) :: (.v (.string d) :: (jv j 5 3 (.v (.pointer e) :: (.v (.pointer g) :: (.v (.int .i64 i) :: (jv j 52 44 (.v (.int .i64 k) :: (.v (.int .i64 m) :: (jv j 101 47 [])))))))))) [] h

def f3_10 (w0 : World) (K : Value → AH → Prop) (a : Option Addr) (b c : Nat) (d : ByteArray) (e g : Option Addr) (i k : Int) (m n : Int) (o : Option Addr) (p q : Nat) (r s : Int) (t : Bool) (h : AH) : Prop :=
  ∀ j : Nat → Value, LPk Proofs.Tryd.prog w0 (EvC Proofs.Tryd.prog w0) f3_J 3 K 10 (.v (.slice a b c) :: (.v (.string d) :: (jv j 5 3 (.v (.pointer e) :: (.v (.pointer g) :: (.v (.int .i64 i) :: (.v (.int .i64 k) :: (jv j 19 10 (.v (.int .i64 m) :: (.v (.int .i64 n) :: (jv j 25 4 (.v (.slice o p q) :: (.v (.int .i64 r) :: (.v (.int .i64 s) :: (jv j 48 20 (.v (.bool t) :: (jv j 101 52 []))))))))))))))))) [] h

theorem f3_4_in {w0 : World} {K : Value → AH → Prop} (c : Option Addr) (e b : Nat) (g : ByteArray) (i k : Option Addr) (d m a : Int) (h : AH)
  (hv : (brB (decide ((a < m))) (((0 : Int) ≤ a) ∧ ((a ≤ ((b : Nat) : Int)) ∧ (f3_7 w0 K c e b g i k d a m a c (Int.toNat a) b (((Int.toNat a) : Nat) : Int) (0 : Int) h))) (f3_14 w0 K c e b g i k d d (0 : Int) h))) :
  f3_4 w0 K c e b g i k d m a h := fun j => LP_intro (P := Proofs.Tryd.prog) (Eq.mp (by kernel_rfl) hv)

theorem f3_7_in {w0 : World} {K : Value → AH → Prop} (c : Option Addr) (d e : Nat) (g : ByteArray) (i k : Option Addr) (m a : Int) (n o : Int) (p : Option Addr) (q s : Nat) (r b : Int) (h : AH)
  (hv : (brB (decide ((b < r))) (∃ v : Addr, ((p = (some v)) ∧ (((0 : Int) ≤ b) ∧ ((b < ((q : Nat) : Int)) ∧ (∃ x : Int, (∃ t : ByteArray, (∃ u : ByteArray, (∃ y : Int, ((((Array.size #[(int .i64 x), (string t), (string u), (int .i64 y)]) = 4) ∧ (At w0 h (Addr.add v ((Int.toNat b) * 4)) [(int .i64 x), (string t), (string u), (int .i64 y)])) ∧ (∃ z : Addr, ((c = (some z)) ∧ (((0 : Int) ≤ a) ∧ ((a < ((d : Nat) : Int)) ∧ (∃ A : ByteArray, (((cellA w0 h (Addr.add (Addr.add z ((Int.toNat a) * 4)) 1)) = (some (string A))) ∧ (brB (decide ((t = A))) (∃ B : Addr, ((c = (some B)) ∧ (((0 : Int) ≤ a) ∧ ((a < ((d : Nat) : Int)) ∧ (∃ C : ByteArray, (((cellA w0 h (Addr.add (Addr.add B ((Int.toNat a) * 4)) 2)) = (some (string C))) ∧ (f3_10 w0 K c d e g i k m a n o p q s r b (decide ((u = C))) h))))))) (f3_10 w0 K c d e g i k m a n o p q s r b false h))))))))))))))))) (f3_4 w0 K c d e g i k m n (IntKind.wrap .i64 (o + (1 : Int))) h))) :
  f3_7 w0 K c d e g i k m a n o p q s r b h := fun j => LP_intro (P := Proofs.Tryd.prog) (Eq.mp (by kernel_rfl) hv)

theorem f3_14_in {w0 : World} {K : Value → AH → Prop} (e : Option Addr) (g m : Nat) (i : ByteArray) (b c : Option Addr) (d k a : Int) (h : AH)
  (hv : (brB (decide ((a < k))) (∃ o : Addr, ((e = (some o)) ∧ (((0 : Int) ≤ a) ∧ ((a < ((g : Nat) : Int)) ∧ (∃ n : Addr, ((e = (some n)) ∧ (((0 : Int) ≤ (IntKind.wrap .i64 ((IntKind.wrap .i64 (d - (1 : Int))) - a))) ∧ (((IntKind.wrap .i64 ((IntKind.wrap .i64 (d - (1 : Int))) - a)) < ((g : Nat) : Int)) ∧ ((∃ m8 : Int, (∃ p : ByteArray, (∃ q : ByteArray, (∃ r : Int, ((((Array.size #[(int .i64 m8), (string p), (string q), (int .i64 r)]) = 4) ∧ (At w0 h (Addr.add o ((Int.toNat a) * 4)) [(int .i64 m8), (string p), (string q), (int .i64 r)])) ∧ ((∃ m9 : Int, (∃ C : ByteArray, (∃ D : ByteArray, (∃ E : Int, ((((Array.size #[(int .i64 m9), (string C), (string D), (int .i64 E)]) = 4) ∧ (At w0 h (Addr.add n ((Int.toNat (IntKind.wrap .i64 ((IntKind.wrap .i64 (d - (1 : Int))) - a))) * 4)) [(int .i64 m9), (string C), (string D), (int .i64 E)])) ∧ ((EvC Proofs.Tryd.prog w0 11 #[(Value.pointer b), (string p), (string q), (int .i64 r)] (fun r8 r9 => (∃ s0 : Bool, ((r8 = (bool s0)) ∧ (EvC Proofs.Tryd.prog w0 11 #[(Value.pointer c), (string C), (string D), (int .i64 E)] (fun s1 s2 => (∃ s3 : Bool, ((s1 = (bool s3)) ∧ (f3_14 w0 K e g m i b c d k (IntKind.wrap .i64 (a + (1 : Int))) s2)))) r9)))) h) ∧ (EvC Proofs.Tryd.prog w0 11 #[(Value.pointer b), (string p), (string q), (int .i64 r)] (fun s4 s5 => (∃ s6 : Bool, ((s4 = (bool s6)) ∧ (EvC Proofs.Tryd.prog w0 11 #[(Value.pointer c), (string C), (string D), (int .i64 E)] (fun s7 s8 => (∃ s9 : Bool, ((s7 = (bool s9)) ∧ (f3_14 w0 K e g m i b c d k (IntKind.wrap .i64 (a + (1 : Int))) s8)))) s5)))) h))))))) ∧ (((∃ n0 : Int, (∃ a3 : ByteArray, (∃ a4 : ByteArray, (∃ a5 : Int, ((((Array.size #[(int .i64 n0), (string a3), (string a4), (int .i64 a5)]) = 4) ∧ (At w0 h (Addr.add n ((Int.toNat (IntKind.wrap .i64 ((IntKind.wrap .i64 (d - (1 : Int))) - a))) * 4)) [(int .i64 n0), (string a3), (string a4), (int .i64 a5)])) ∧ (EvC Proofs.Tryd.prog w0 11 #[(Value.pointer b), (string p), (string q), (int .i64 r)] (fun t0 t1 => (∃ t2 : Bool, ((t0 = (bool t2)) ∧ (EvC Proofs.Tryd.prog w0 11 #[(Value.pointer c), (string a3), (string a4), (int .i64 a5)] (fun t3 t4 => (∃ t5 : Bool, ((t3 = (bool t5)) ∧ (f3_14 w0 K e g m i b c d k (IntKind.wrap .i64 (a + (1 : Int))) t4)))) t1)))) h)))))) ∧ ((∃ n1 : Int, (∃ a6 : ByteArray, (∃ a7 : ByteArray, (∃ a8 : Int, ((((Array.size #[(int .i64 n1), (string a6), (string a7), (int .i64 a8)]) = 4) ∧ (At w0 h (Addr.add n ((Int.toNat (IntKind.wrap .i64 ((IntKind.wrap .i64 (d - (1 : Int))) - a))) * 4)) [(int .i64 n1), (string a6), (string a7), (int .i64 a8)])) ∧ (EvC Proofs.Tryd.prog w0 11 #[(Value.pointer b), (string p), (string q), (int .i64 r)] (fun t6 t7 => (∃ t8 : Bool, ((t6 = (bool t8)) ∧ (EvC Proofs.Tryd.prog w0 11 #[(Value.pointer c), (string a6), (string a7), (int .i64 a8)] (fun t9 u0 => (∃ u1 : Bool, ((t9 = (bool u1)) ∧ (f3_14 w0 K e g m i b c d k (IntKind.wrap .i64 (a + (1 : Int))) u0)))) t7)))) h)))))) ∧ (∃ n2 : Int, (∃ a9 : ByteArray, (∃ b0 : ByteArray, (∃ b1 : Int, ((((Array.size #[(int .i64 n2), (string a9), (string b0), (int .i64 b1)]) = 4) ∧ (At w0 h (Addr.add n ((Int.toNat (IntKind.wrap .i64 ((IntKind.wrap .i64 (d - (1 : Int))) - a))) * 4)) [(int .i64 n2), (string a9), (string b0), (int .i64 b1)])) ∧ (EvC Proofs.Tryd.prog w0 11 #[(Value.pointer b), (string p), (string q), (int .i64 r)] (fun u2 u3 => (∃ u4 : Bool, ((u2 = (bool u4)) ∧ (EvC Proofs.Tryd.prog w0 11 #[(Value.pointer c), (string a9), (string b0), (int .i64 b1)] (fun u5 u6 => (∃ u7 : Bool, ((u5 = (bool u7)) ∧ (f3_14 w0 K e g m i b c d k (IntKind.wrap .i64 (a + (1 : Int))) u6)))) u3)))) h)))))))) ∧ ((∃ n3 : Int, (∃ b2 : ByteArray, (∃ b3 : ByteArray, (∃ b4 : Int, ((((Array.size #[(int .i64 n3), (string b2), (string b3), (int .i64 b4)]) = 4) ∧ (At w0 h (Addr.add n ((Int.toNat (IntKind.wrap .i64 ((IntKind.wrap .i64 (d - (1 : Int))) - a))) * 4)) [(int .i64 n3), (string b2), (string b3), (int .i64 b4)])) ∧ (EvC Proofs.Tryd.prog w0 11 #[(Value.pointer b), (string p), (string q), (int .i64 r)] (fun u9 v0 => (∃ v1 : Bool, ((u9 = (bool v1)) ∧ (EvC Proofs.Tryd.prog w0 11 #[(Value.pointer c), (string b2), (string b3), (int .i64 b4)] (fun v2 v3 => (∃ v4 : Bool, ((v2 = (bool v4)) ∧ (f3_14 w0 K e g m i b c d k (IntKind.wrap .i64 (a + (1 : Int))) v3)))) v0)))) h)))))) ∧ ((∃ n4 : Int, (∃ b5 : ByteArray, (∃ b6 : ByteArray, (∃ b7 : Int, ((((Array.size #[(int .i64 n4), (string b5), (string b6), (int .i64 b7)]) = 4) ∧ (At w0 h (Addr.add n ((Int.toNat (IntKind.wrap .i64 ((IntKind.wrap .i64 (d - (1 : Int))) - a))) * 4)) [(int .i64 n4), (string b5), (string b6), (int .i64 b7)])) ∧ (EvC Proofs.Tryd.prog w0 11 #[(Value.pointer b), (string p), (string q), (int .i64 r)] (fun v5 v6 => (∃ v7 : Bool, ((v5 = (bool v7)) ∧ (EvC Proofs.Tryd.prog w0 11 #[(Value.pointer c), (string b5), (string b6), (int .i64 b7)] (fun v8 v9 => (∃ x0 : Bool, ((v8 = (bool x0)) ∧ (f3_14 w0 K e g m i b c d k (IntKind.wrap .i64 (a + (1 : Int))) v9)))) v6)))) h)))))) ∧ (∃ n5 : Int, (∃ b8 : ByteArray, (∃ b9 : ByteArray, (∃ c0 : Int, ((((Array.size #[(int .i64 n5), (string b8), (string b9), (int .i64 c0)]) = 4) ∧ (At w0 h (Addr.add n ((Int.toNat (IntKind.wrap .i64 ((IntKind.wrap .i64 (d - (1 : Int))) - a))) * 4)) [(int .i64 n5), (string b8), (string b9), (int .i64 c0)])) ∧ (EvC Proofs.Tryd.prog w0 11 #[(Value.pointer b), (string p), (string q), (int .i64 r)] (fun x1 x2 => (∃ x3 : Bool, ((x1 = (bool x3)) ∧ (EvC Proofs.Tryd.prog w0 11 #[(Value.pointer c), (string b8), (string b9), (int .i64 c0)] (fun x4 x5 => (∃ x6 : Bool, ((x4 = (bool x6)) ∧ (f3_14 w0 K e g m i b c d k (IntKind.wrap .i64 (a + (1 : Int))) x5)))) x2)))) h))))))))))))))) ∧ ((∃ n6 : Int, (∃ s : ByteArray, (∃ t : ByteArray, (∃ u : Int, ((((Array.size #[(int .i64 n6), (string s), (string t), (int .i64 u)]) = 4) ∧ (At w0 h (Addr.add n ((Int.toNat (IntKind.wrap .i64 ((IntKind.wrap .i64 (d - (1 : Int))) - a))) * 4)) [(int .i64 n6), (string s), (string t), (int .i64 u)])) ∧ ((∃ n7 : Int, (∃ F : ByteArray, (∃ G : ByteArray, (∃ L : Int, ((((Array.size #[(int .i64 n7), (string F), (string G), (int .i64 L)]) = 4) ∧ (At w0 h (Addr.add o ((Int.toNat a) * 4)) [(int .i64 n7), (string F), (string G), (int .i64 L)])) ∧ ((EvC Proofs.Tryd.prog w0 11 #[(Value.pointer b), (string F), (string G), (int .i64 L)] (fun x7 x8 => (∃ x9 : Bool, ((x7 = (bool x9)) ∧ (EvC Proofs.Tryd.prog w0 11 #[(Value.pointer c), (string s), (string t), (int .i64 u)] (fun y0 y1 => (∃ y2 : Bool, ((y0 = (bool y2)) ∧ (f3_14 w0 K e g m i b c d k (IntKind.wrap .i64 (a + (1 : Int))) y1)))) x8)))) h) ∧ (EvC Proofs.Tryd.prog w0 11 #[(Value.pointer b), (string F), (string G), (int .i64 L)] (fun y3 y4 => (∃ y5 : Bool, ((y3 = (bool y5)) ∧ (EvC Proofs.Tryd.prog w0 11 #[(Value.pointer c), (string s), (string t), (int .i64 u)] (fun y6 y7 => (∃ y8 : Bool, ((y6 = (bool y8)) ∧ (f3_14 w0 K e g m i b c d k (IntKind.wrap .i64 (a + (1 : Int))) y7)))) y4)))) h))))))) ∧ (((∃ n8 : Int, (∃ c1 : ByteArray, (∃ c2 : ByteArray, (∃ c3 : Int, ((((Array.size #[(int .i64 n8), (string c1), (string c2), (int .i64 c3)]) = 4) ∧ (At w0 h (Addr.add o ((Int.toNat a) * 4)) [(int .i64 n8), (string c1), (string c2), (int .i64 c3)])) ∧ (EvC Proofs.Tryd.prog w0 11 #[(Value.pointer b), (string c1), (string c2), (int .i64 c3)] (fun y9 z0 => (∃ z1 : Bool, ((y9 = (bool z1)) ∧ (EvC Proofs.Tryd.prog w0 11 #[(Value.pointer c), (string s), (string t), (int .i64 u)] (fun z2 z3 => (∃ z4 : Bool, ((z2 = (bool z4)) ∧ (f3_14 w0 K e g m i b c d k (IntKind.wrap .i64 (a + (1 : Int))) z3)))) z0)))) h)))))) ∧ (∃ n9 : Int, (∃ c4 : ByteArray, (∃ c5 : ByteArray, (∃ c6 : Int, ((((Array.size #[(int .i64 n9), (string c4), (string c5), (int .i64 c6)]) = 4) ∧ (At w0 h (Addr.add o ((Int.toNat a) * 4)) [(int .i64 n9), (string c4), (string c5), (int .i64 c6)])) ∧ (EvC Proofs.Tryd.prog w0 11 #[(Value.pointer b), (string c4), (string c5), (int .i64 c6)] (fun z5 z6 => (∃ z7 : Bool, ((z5 = (bool z7)) ∧ (EvC Proofs.Tryd.prog w0 11 #[(Value.pointer c), (string s), (string t), (int .i64 u)] (fun z8 z9 => (∃ a10 : Bool, ((z8 = (bool a10)) ∧ (f3_14 w0 K e g m i b c d k (IntKind.wrap .i64 (a + (1 : Int))) z9)))) z6)))) h))))))) ∧ ((∃ o0 : Int, (∃ c7 : ByteArray, (∃ c8 : ByteArray, (∃ c9 : Int, ((((Array.size #[(int .i64 o0), (string c7), (string c8), (int .i64 c9)]) = 4) ∧ (At w0 h (Addr.add o ((Int.toNat a) * 4)) [(int .i64 o0), (string c7), (string c8), (int .i64 c9)])) ∧ (EvC Proofs.Tryd.prog w0 11 #[(Value.pointer b), (string c7), (string c8), (int .i64 c9)] (fun a11 a12 => (∃ a13 : Bool, ((a11 = (bool a13)) ∧ (EvC Proofs.Tryd.prog w0 11 #[(Value.pointer c), (string s), (string t), (int .i64 u)] (fun a14 a15 => (∃ a16 : Bool, ((a14 = (bool a16)) ∧ (f3_14 w0 K e g m i b c d k (IntKind.wrap .i64 (a + (1 : Int))) a15)))) a12)))) h)))))) ∧ (∃ o1 : Int, (∃ d0 : ByteArray, (∃ d1 : ByteArray, (∃ d2 : Int, ((((Array.size #[(int .i64 o1), (string d0), (string d1), (int .i64 d2)]) = 4) ∧ (At w0 h (Addr.add o ((Int.toNat a) * 4)) [(int .i64 o1), (string d0), (string d1), (int .i64 d2)])) ∧ (EvC Proofs.Tryd.prog w0 11 #[(Value.pointer b), (string d0), (string d1), (int .i64 d2)] (fun a17 a18 => (∃ a19 : Bool, ((a17 = (bool a19)) ∧ (EvC Proofs.Tryd.prog w0 11 #[(Value.pointer c), (string s), (string t), (int .i64 u)] (fun a20 a21 => (∃ a22 : Bool, ((a20 = (bool a22)) ∧ (f3_14 w0 K e g m i b c d k (IntKind.wrap .i64 (a + (1 : Int))) a21)))) a18)))) h)))))))))))))) ∧ (((∃ o2 : Int, (∃ v : ByteArray, (∃ x : ByteArray, (∃ y : Int, ((((Array.size #[(int .i64 o2), (string v), (string x), (int .i64 y)]) = 4) ∧ (At w0 h (Addr.add o ((Int.toNat a) * 4)) [(int .i64 o2), (string v), (string x), (int .i64 y)])) ∧ ((∃ o3 : Int, (∃ d3 : ByteArray, (∃ d4 : ByteArray, (∃ d5 : Int, ((((Array.size #[(int .i64 o3), (string d3), (string d4), (int .i64 d5)]) = 4) ∧ (At w0 h (Addr.add n ((Int.toNat (IntKind.wrap .i64 ((IntKind.wrap .i64 (d - (1 : Int))) - a))) * 4)) [(int .i64 o3), (string d3), (string d4), (int .i64 d5)])) ∧ (EvC Proofs.Tryd.prog w0 11 #[(Value.pointer b), (string v), (string x), (int .i64 y)] (fun a23 a24 => (∃ a25 : Bool, ((a23 = (bool a25)) ∧ (EvC Proofs.Tryd.prog w0 11 #[(Value.pointer c), (string d3), (string d4), (int .i64 d5)] (fun a26 a27 => (∃ a28 : Bool, ((a26 = (bool a28)) ∧ (f3_14 w0 K e g m i b c d k (IntKind.wrap .i64 (a + (1 : Int))) a27)))) a24)))) h)))))) ∧ ((∃ o4 : Int, (∃ d6 : ByteArray, (∃ d7 : ByteArray, (∃ d8 : Int, ((((Array.size #[(int .i64 o4), (string d6), (string d7), (int .i64 d8)]) = 4) ∧ (At w0 h (Addr.add n ((Int.toNat (IntKind.wrap .i64 ((IntKind.wrap .i64 (d - (1 : Int))) - a))) * 4)) [(int .i64 o4), (string d6), (string d7), (int .i64 d8)])) ∧ (EvC Proofs.Tryd.prog w0 11 #[(Value.pointer b), (string v), (string x), (int .i64 y)] (fun a29 a30 => (∃ a31 : Bool, ((a29 = (bool a31)) ∧ (EvC Proofs.Tryd.prog w0 11 #[(Value.pointer c), (string d6), (string d7), (int .i64 d8)] (fun a32 a33 => (∃ a34 : Bool, ((a32 = (bool a34)) ∧ (f3_14 w0 K e g m i b c d k (IntKind.wrap .i64 (a + (1 : Int))) a33)))) a30)))) h)))))) ∧ (∃ o5 : Int, (∃ d9 : ByteArray, (∃ e0 : ByteArray, (∃ e1 : Int, ((((Array.size #[(int .i64 o5), (string d9), (string e0), (int .i64 e1)]) = 4) ∧ (At w0 h (Addr.add n ((Int.toNat (IntKind.wrap .i64 ((IntKind.wrap .i64 (d - (1 : Int))) - a))) * 4)) [(int .i64 o5), (string d9), (string e0), (int .i64 e1)])) ∧ (EvC Proofs.Tryd.prog w0 11 #[(Value.pointer b), (string v), (string x), (int .i64 y)] (fun a35 a36 => (∃ a37 : Bool, ((a35 = (bool a37)) ∧ (EvC Proofs.Tryd.prog w0 11 #[(Value.pointer c), (string d9), (string e0), (int .i64 e1)] (fun a38 a39 => (∃ a40 : Bool, ((a38 = (bool a40)) ∧ (f3_14 w0 K e g m i b c d k (IntKind.wrap .i64 (a + (1 : Int))) a39)))) a36)))) h))))))))))))) ∧ ((∃ o6 : Int, (∃ M : ByteArray, (∃ N : ByteArray, (∃ Q : Int, ((((Array.size #[(int .i64 o6), (string M), (string N), (int .i64 Q)]) = 4) ∧ (At w0 h (Addr.add n ((Int.toNat (IntKind.wrap .i64 ((IntKind.wrap .i64 (d - (1 : Int))) - a))) * 4)) [(int .i64 o6), (string M), (string N), (int .i64 Q)])) ∧ ((∃ o7 : Int, (∃ e2 : ByteArray, (∃ e3 : ByteArray, (∃ e4 : Int, ((((Array.size #[(int .i64 o7), (string e2), (string e3), (int .i64 e4)]) = 4) ∧ (At w0 h (Addr.add o ((Int.toNat a) * 4)) [(int .i64 o7), (string e2), (string e3), (int .i64 e4)])) ∧ (EvC Proofs.Tryd.prog w0 11 #[(Value.pointer b), (string e2), (string e3), (int .i64 e4)] (fun a41 a42 => (∃ a43 : Bool, ((a41 = (bool a43)) ∧ (EvC Proofs.Tryd.prog w0 11 #[(Value.pointer c), (string M), (string N), (int .i64 Q)] (fun a44 a45 => (∃ a46 : Bool, ((a44 = (bool a46)) ∧ (f3_14 w0 K e g m i b c d k (IntKind.wrap .i64 (a + (1 : Int))) a45)))) a42)))) h)))))) ∧ (∃ o8 : Int, (∃ e5 : ByteArray, (∃ e6 : ByteArray, (∃ e7 : Int, ((((Array.size #[(int .i64 o8), (string e5), (string e6), (int .i64 e7)]) = 4) ∧ (At w0 h (Addr.add o ((Int.toNat a) * 4)) [(int .i64 o8), (string e5), (string e6), (int .i64 e7)])) ∧ (EvC Proofs.Tryd.prog w0 11 #[(Value.pointer b), (string e5), (string e6), (int .i64 e7)] (fun a47 a48 => (∃ a49 : Bool, ((a47 = (bool a49)) ∧ (EvC Proofs.Tryd.prog w0 11 #[(Value.pointer c), (string M), (string N), (int .i64 Q)] (fun a50 a51 => (∃ a52 : Bool, ((a50 = (bool a52)) ∧ (f3_14 w0 K e g m i b c d k (IntKind.wrap .i64 (a + (1 : Int))) a51)))) a48)))) h)))))))))))) ∧ ((∃ o9 : Int, (∃ R : ByteArray, (∃ T : ByteArray, (∃ U : Int, ((((Array.size #[(int .i64 o9), (string R), (string T), (int .i64 U)]) = 4) ∧ (At w0 h (Addr.add o ((Int.toNat a) * 4)) [(int .i64 o9), (string R), (string T), (int .i64 U)])) ∧ ((∃ p0 : Int, (∃ e8 : ByteArray, (∃ e9 : ByteArray, (∃ g0 : Int, ((((Array.size #[(int .i64 p0), (string e8), (string e9), (int .i64 g0)]) = 4) ∧ (At w0 h (Addr.add n ((Int.toNat (IntKind.wrap .i64 ((IntKind.wrap .i64 (d - (1 : Int))) - a))) * 4)) [(int .i64 p0), (string e8), (string e9), (int .i64 g0)])) ∧ (EvC Proofs.Tryd.prog w0 11 #[(Value.pointer b), (string R), (string T), (int .i64 U)] (fun a53 a54 => (∃ a55 : Bool, ((a53 = (bool a55)) ∧ (EvC Proofs.Tryd.prog w0 11 #[(Value.pointer c), (string e8), (string e9), (int .i64 g0)] (fun a56 a57 => (∃ a58 : Bool, ((a56 = (bool a58)) ∧ (f3_14 w0 K e g m i b c d k (IntKind.wrap .i64 (a + (1 : Int))) a57)))) a54)))) h)))))) ∧ (∃ p1 : Int, (∃ g1 : ByteArray, (∃ g2 : ByteArray, (∃ g3 : Int, ((((Array.size #[(int .i64 p1), (string g1), (string g2), (int .i64 g3)]) = 4) ∧ (At w0 h (Addr.add n ((Int.toNat (IntKind.wrap .i64 ((IntKind.wrap .i64 (d - (1 : Int))) - a))) * 4)) [(int .i64 p1), (string g1), (string g2), (int .i64 g3)])) ∧ (EvC Proofs.Tryd.prog w0 11 #[(Value.pointer b), (string R), (string T), (int .i64 U)] (fun a59 a60 => (∃ a61 : Bool, ((a59 = (bool a61)) ∧ (EvC Proofs.Tryd.prog w0 11 #[(Value.pointer c), (string g1), (string g2), (int .i64 g3)] (fun a62 a63 => (∃ a64 : Bool, ((a62 = (bool a64)) ∧ (f3_14 w0 K e g m i b c d k (IntKind.wrap .i64 (a + (1 : Int))) a63)))) a60)))) h)))))))))))) ∧ (∃ p2 : Int, (∃ g4 : ByteArray, (∃ g5 : ByteArray, (∃ g6 : Int, ((((Array.size #[(int .i64 p2), (string g4), (string g5), (int .i64 g6)]) = 4) ∧ (At w0 h (Addr.add n ((Int.toNat (IntKind.wrap .i64 ((IntKind.wrap .i64 (d - (1 : Int))) - a))) * 4)) [(int .i64 p2), (string g4), (string g5), (int .i64 g6)])) ∧ (∃ p3 : Int, (∃ g7 : ByteArray, (∃ g8 : ByteArray, (∃ g9 : Int, ((((Array.size #[(int .i64 p3), (string g7), (string g8), (int .i64 g9)]) = 4) ∧ (At w0 h (Addr.add o ((Int.toNat a) * 4)) [(int .i64 p3), (string g7), (string g8), (int .i64 g9)])) ∧ (EvC Proofs.Tryd.prog w0 11 #[(Value.pointer b), (string g7), (string g8), (int .i64 g9)] (fun a65 a66 => (∃ a67 : Bool, ((a65 = (bool a67)) ∧ (EvC Proofs.Tryd.prog w0 11 #[(Value.pointer c), (string g4), (string g5), (int .i64 g6)] (fun a68 a69 => (∃ a70 : Bool, ((a68 = (bool a70)) ∧ (f3_14 w0 K e g m i b c d k (IntKind.wrap .i64 (a + (1 : Int))) a69)))) a66)))) h)))))))))))))) ∧ ((∃ p4 : Int, (∃ z : ByteArray, (∃ A : ByteArray, (∃ B : Int, ((((Array.size #[(int .i64 p4), (string z), (string A), (int .i64 B)]) = 4) ∧ (At w0 h (Addr.add o ((Int.toNat a) * 4)) [(int .i64 p4), (string z), (string A), (int .i64 B)])) ∧ ((∃ p5 : Int, (∃ i0 : ByteArray, (∃ i1 : ByteArray, (∃ i2 : Int, ((((Array.size #[(int .i64 p5), (string i0), (string i1), (int .i64 i2)]) = 4) ∧ (At w0 h (Addr.add n ((Int.toNat (IntKind.wrap .i64 ((IntKind.wrap .i64 (d - (1 : Int))) - a))) * 4)) [(int .i64 p5), (string i0), (string i1), (int .i64 i2)])) ∧ (EvC Proofs.Tryd.prog w0 11 #[(Value.pointer b), (string z), (string A), (int .i64 B)] (fun a71 a72 => (∃ a73 : Bool, ((a71 = (bool a73)) ∧ (EvC Proofs.Tryd.prog w0 11 #[(Value.pointer c), (string i0), (string i1), (int .i64 i2)] (fun a74 a75 => (∃ a76 : Bool, ((a74 = (bool a76)) ∧ (f3_14 w0 K e g m i b c d k (IntKind.wrap .i64 (a + (1 : Int))) a75)))) a72)))) h)))))) ∧ ((∃ p6 : Int, (∃ i3 : ByteArray, (∃ i4 : ByteArray, (∃ i5 : Int, ((((Array.size #[(int .i64 p6), (string i3), (string i4), (int .i64 i5)]) = 4) ∧ (At w0 h (Addr.add n ((Int.toNat (IntKind.wrap .i64 ((IntKind.wrap .i64 (d - (1 : Int))) - a))) * 4)) [(int .i64 p6), (string i3), (string i4), (int .i64 i5)])) ∧ (EvC Proofs.Tryd.prog w0 11 #[(Value.pointer b), (string z), (string A), (int .i64 B)] (fun a77 a78 => (∃ a79 : Bool, ((a77 = (bool a79)) ∧ (EvC Proofs.Tryd.prog w0 11 #[(Value.pointer c), (string i3), (string i4), (int .i64 i5)] (fun a80 a81 => (∃ a82 : Bool, ((a80 = (bool a82)) ∧ (f3_14 w0 K e g m i b c d k (IntKind.wrap .i64 (a + (1 : Int))) a81)))) a78)))) h)))))) ∧ (∃ p7 : Int, (∃ i6 : ByteArray, (∃ i7 : ByteArray, (∃ i9 : Int, ((((Array.size #[(int .i64 p7), (string i6), (string i7), (int .i64 i9)]) = 4) ∧ (At w0 h (Addr.add n ((Int.toNat (IntKind.wrap .i64 ((IntKind.wrap .i64 (d - (1 : Int))) - a))) * 4)) [(int .i64 p7), (string i6), (string i7), (int .i64 i9)])) ∧ (EvC Proofs.Tryd.prog w0 11 #[(Value.pointer b), (string z), (string A), (int .i64 B)] (fun a83 a84 => (∃ a85 : Bool, ((a83 = (bool a85)) ∧ (EvC Proofs.Tryd.prog w0 11 #[(Value.pointer c), (string i6), (string i7), (int .i64 i9)] (fun a86 a87 => (∃ a88 : Bool, ((a86 = (bool a88)) ∧ (f3_14 w0 K e g m i b c d k (IntKind.wrap .i64 (a + (1 : Int))) a87)))) a84)))) h))))))))))))) ∧ ((∃ p8 : Int, (∃ V : ByteArray, (∃ Y : ByteArray, (∃ Z : Int, ((((Array.size #[(int .i64 p8), (string V), (string Y), (int .i64 Z)]) = 4) ∧ (At w0 h (Addr.add n ((Int.toNat (IntKind.wrap .i64 ((IntKind.wrap .i64 (d - (1 : Int))) - a))) * 4)) [(int .i64 p8), (string V), (string Y), (int .i64 Z)])) ∧ ((∃ p9 : Int, (∃ k0 : ByteArray, (∃ k1 : ByteArray, (∃ k2 : Int, ((((Array.size #[(int .i64 p9), (string k0), (string k1), (int .i64 k2)]) = 4) ∧ (At w0 h (Addr.add o ((Int.toNat a) * 4)) [(int .i64 p9), (string k0), (string k1), (int .i64 k2)])) ∧ (EvC Proofs.Tryd.prog w0 11 #[(Value.pointer b), (string k0), (string k1), (int .i64 k2)] (fun a89 a90 => (∃ a91 : Bool, ((a89 = (bool a91)) ∧ (EvC Proofs.Tryd.prog w0 11 #[(Value.pointer c), (string V), (string Y), (int .i64 Z)] (fun a92 a93 => (∃ a94 : Bool, ((a92 = (bool a94)) ∧ (f3_14 w0 K e g m i b c d k (IntKind.wrap .i64 (a + (1 : Int))) a93)))) a90)))) h)))))) ∧ (∃ q0 : Int, (∃ k3 : ByteArray, (∃ k4 : ByteArray, (∃ k5 : Int, ((((Array.size #[(int .i64 q0), (string k3), (string k4), (int .i64 k5)]) = 4) ∧ (At w0 h (Addr.add o ((Int.toNat a) * 4)) [(int .i64 q0), (string k3), (string k4), (int .i64 k5)])) ∧ (EvC Proofs.Tryd.prog w0 11 #[(Value.pointer b), (string k3), (string k4), (int .i64 k5)] (fun a95 a96 => (∃ a97 : Bool, ((a95 = (bool a97)) ∧ (EvC Proofs.Tryd.prog w0 11 #[(Value.pointer c), (string V), (string Y), (int .i64 Z)] (fun a98 a99 => (∃ b10 : Bool, ((a98 = (bool b10)) ∧ (f3_14 w0 K e g m i b c d k (IntKind.wrap .i64 (a + (1 : Int))) a99)))) a96)))) h)))))))))))) ∧ ((∃ q1 : Int, (∃ a0 : ByteArray, (∃ a1 : ByteArray, (∃ a2 : Int, ((((Array.size #[(int .i64 q1), (string a0), (string a1), (int .i64 a2)]) = 4) ∧ (At w0 h (Addr.add o ((Int.toNat a) * 4)) [(int .i64 q1), (string a0), (string a1), (int .i64 a2)])) ∧ ((∃ q2 : Int, (∃ k6 : ByteArray, (∃ k7 : ByteArray, (∃ k8 : Int, ((((Array.size #[(int .i64 q2), (string k6), (string k7), (int .i64 k8)]) = 4) ∧ (At w0 h (Addr.add n ((Int.toNat (IntKind.wrap .i64 ((IntKind.wrap .i64 (d - (1 : Int))) - a))) * 4)) [(int .i64 q2), (string k6), (string k7), (int .i64 k8)])) ∧ (EvC Proofs.Tryd.prog w0 11 #[(Value.pointer b), (string a0), (string a1), (int .i64 a2)] (fun b11 b12 => (∃ b13 : Bool, ((b11 = (bool b13)) ∧ (EvC Proofs.Tryd.prog w0 11 #[(Value.pointer c), (string k6), (string k7), (int .i64 k8)] (fun b14 b15 => (∃ b16 : Bool, ((b14 = (bool b16)) ∧ (f3_14 w0 K e g m i b c d k (IntKind.wrap .i64 (a + (1 : Int))) b15)))) b12)))) h)))))) ∧ (∃ q3 : Int, (∃ k9 : ByteArray, (∃ m0 : ByteArray, (∃ m1 : Int, ((((Array.size #[(int .i64 q3), (string k9), (string m0), (int .i64 m1)]) = 4) ∧ (At w0 h (Addr.add n ((Int.toNat (IntKind.wrap .i64 ((IntKind.wrap .i64 (d - (1 : Int))) - a))) * 4)) [(int .i64 q3), (string k9), (string m0), (int .i64 m1)])) ∧ (EvC Proofs.Tryd.prog w0 11 #[(Value.pointer b), (string a0), (string a1), (int .i64 a2)] (fun b17 b18 => (∃ b19 : Bool, ((b17 = (bool b19)) ∧ (EvC Proofs.Tryd.prog w0 11 #[(Value.pointer c), (string k9), (string m0), (int .i64 m1)] (fun b20 b21 => (∃ b22 : Bool, ((b20 = (bool b22)) ∧ (f3_14 w0 K e g m i b c d k (IntKind.wrap .i64 (a + (1 : Int))) b21)))) b18)))) h)))))))))))) ∧ (∃ q4 : Int, (∃ m2 : ByteArray, (∃ m3 : ByteArray, (∃ m4 : Int, ((((Array.size #[(int .i64 q4), (string m2), (string m3), (int .i64 m4)]) = 4) ∧ (At w0 h (Addr.add n ((Int.toNat (IntKind.wrap .i64 ((IntKind.wrap .i64 (d - (1 : Int))) - a))) * 4)) [(int .i64 q4), (string m2), (string m3), (int .i64 m4)])) ∧ (∃ q5 : Int, (∃ m5 : ByteArray, (∃ m6 : ByteArray, (∃ m7 : Int, ((((Array.size #[(int .i64 q5), (string m5), (string m6), (int .i64 m7)]) = 4) ∧ (At w0 h (Addr.add o ((Int.toNat a) * 4)) [(int .i64 q5), (string m5), (string m6), (int .i64 m7)])) ∧ (EvC Proofs.Tryd.prog w0 11 #[(Value.pointer b), (string m5), (string m6), (int .i64 m7)] (fun b23 b24 => (∃ b25 : Bool, ((b23 = (bool b25)) ∧ (EvC Proofs.Tryd.prog w0 11 #[(Value.pointer c), (string m2), (string m3), (int .i64 m4)] (fun b26 b27 => (∃ b28 : Bool, ((b26 = (bool b28)) ∧ (f3_14 w0 K e g m i b c d k (IntKind.wrap .i64 (a + (1 : Int))) b27)))) b24)))) h))))))))))))))))))))))))) (EvC Proofs.Tryd.prog w0 12 #[(Value.pointer b)] (fun b29 b30 => (∃ q6 : Int, ((b29 = (int .i64 q6)) ∧ (EvC Proofs.Tryd.prog w0 12 #[(Value.pointer c)] (fun b31 q7 => (∃ q8 : Int, ((b31 = (int .i64 q8)) ∧ (brB (q6 == q8) (EvC Proofs.Tryd.prog w0 14 #[(Value.pointer b), (string i)] (fun b32 b33 => (∃ q9 : Option Addr, (∃ r0 : Nat, (∃ r1 : Nat, ((b32 = (slice q9 r0 r1)) ∧ (EvC Proofs.Tryd.prog w0 14 #[(Value.pointer c), (string i)] (fun b34 b35 => (∃ r2 : Option Addr, (∃ r3 : Nat, (∃ r4 : Nat, ((b34 = (slice r2 r3 r4)) ∧ (EvC Proofs.Tryd.prog w0 13 #[(slice q9 r0 r1), (slice r2 r3 r4)] (fun b36 r5 => (∃ r6 : Bool, ((b36 = (bool r6)) ∧ (brB r6 (EvC Proofs.Tryd.prog w0 10 #[] (fun b37 b38 => (∃ r7 : Bool, ((b37 = (bool r7)) ∧ (K (bool r7) b38)))) r5) (K (bool false) r5))))) b35)))))) b33)))))) q7) (K (bool false) q7))))) b30)))) h))) :
  f3_14 w0 K e g m i b c d k a h := fun j => LP_intro (P := Proofs.Tryd.prog) (Eq.mp (by kernel_rfl) hv)

theorem f3_10_in {w0 : World} {K : Value → AH → Prop} (a : Option Addr) (b c : Nat) (d : ByteArray) (e g : Option Addr) (i k : Int) (m n : Int) (o : Option Addr) (p q : Nat) (r s : Int) (t : Bool) (h : AH)
  (hv : (brB t (EvC Proofs.Tryd.prog w0 10 #[] (fun v x => (∃ u : Bool, ((v = (bool u)) ∧ (K (bool u) x)))) h) (f3_7 w0 K a b c d e g i k m n o p q r (IntKind.wrap .i64 (s + (1 : Int))) h))) :
  f3_10 w0 K a b c d e g i k m n o p q r s t h := fun j => LP_intro (P := Proofs.Tryd.prog) (Eq.mp (by kernel_rfl) hv)

theorem f3_go {w0 : World} {K : Value → AH → Prop} (b : Option Addr) (a c : Nat) (d : ByteArray) (h : AH)
  (hv : (EvC Proofs.Tryd.prog w0 9 #[] (fun i k => (∃ e : Option Addr, ((i = (Value.pointer e)) ∧ (EvC Proofs.Tryd.prog w0 9 #[] (fun m n => (∃ g : Option Addr, ((m = (Value.pointer g)) ∧ (f3_4 w0 K b a c d e g (if ((60 : Int) < ((a : Nat) : Int)) then (60 : Int) else ((a : Nat) : Int)) (if ((60 : Int) < ((a : Nat) : Int)) then (60 : Int) else ((a : Nat) : Int)) (0 : Int) n)))) k)))) h)) :
  EvC Proofs.Tryd.prog w0 3 ([(.slice b a c), (.string d)]).toArray K h := EvC_intro (P := Proofs.Tryd.prog) f3_J (Eq.mp (by kernel_rfl) hv)
/-! ### TrieTurned -/
def sameK (x y : Cl) : Prop := x.c = y.c ∧ x.f = y.f
theorem addP_so' {c f : ByteArray} {q : Int} {S : List Sb} (h : S.Pairwise ltS) : (addP c f q S).Pairwise ltS := by
  unfold addP
  split
  · exact addS_so c f q h
  · exact h
theorem addL_so : ∀ (l : List Cl) {S : List Sb}, S.Pairwise ltS → (addL S l).Pairwise ltS
  | [], _, h => h
  | x :: l, _, h => addL_so l (addP_so' h)
theorem addP_mem {c f : ByteArray} {q : Int} {S : List Sb} (x : Sb) : x ∈ addP c f q S ↔ (okP c f q = true ∧ x = ⟨c, f, q⟩) ∨ (x ∈ S ∧ (okP c f q = true → ¬ (x.c = c ∧ x.f = f))) := by
  unfold addP
  by_cases ok : okP c f q = true
  · rw [if_pos ok, addS_mem]
    simp [ok]
  · rw [if_neg ok]
    constructor
    · exact fun h => .inr ⟨h, fun z => absurd z ok⟩
    · rintro (⟨h, _⟩ | ⟨h, _⟩)
      · exact absurd h ok
      · exact h
theorem addL_mem : ∀ (l : List Cl) (S : List Sb), l.Pairwise (fun x y => ¬ sameK x y) → (∀ s ∈ S, ∀ y ∈ l, ¬ (s.c = y.c ∧ s.f = y.f)) → ∀ x : Sb, x ∈ addL S l ↔ x ∈ S ∨ ∃ y ∈ l, okP y.c y.f y.q = true ∧ x = ⟨y.c, y.f, y.q⟩
  | [], S, _, _, x => by simp [addL]
  | y :: l, S, hp, hd, x => by
    obtain ⟨h1, h2⟩ := List.pairwise_cons.1 hp
    have ih := addL_mem l (addP y.c y.f y.q S) h2 (fun s hs z hz => by
      rcases (addP_mem s).1 hs with ⟨_, rfl⟩ | ⟨g, _⟩
      · exact h1 z hz
      · exact hd s g z (List.mem_cons_of_mem _ hz)) x
    rw [addL, ih, addP_mem]
    constructor
    · rintro ((⟨g1, g2⟩ | ⟨g, _⟩) | ⟨z, hz, g⟩)
      · exact .inr ⟨y, List.mem_cons_self .., g1, g2⟩
      · exact .inl g
      · exact .inr ⟨z, List.mem_cons_of_mem _ hz, g⟩
    · rintro (g | ⟨z, hz, g1, g2⟩)
      · exact .inl (.inr ⟨g, fun _ => hd x g y (List.mem_cons_self ..)⟩)
      · rcases List.mem_cons.1 hz with rfl | hz
        · exact .inl (.inl ⟨g1, g2⟩)
        · exact .inr ⟨z, hz, g1, g2⟩
theorem addL_rev {l : List Cl} (h : l.Pairwise (fun x y => ¬ sameK x y)) : addL [] l.reverse = addL [] l := by
  have hr : l.reverse.Pairwise (fun x y => ¬ sameK x y) := List.pairwise_reverse.2 (h.imp fun {a b} hab z => hab ⟨z.1.symm, z.2.symm⟩)
  refine subs_eq (addL_so _ List.Pairwise.nil) (addL_so _ List.Pairwise.nil) fun x => ?_
  rw [addL_mem _ _ hr (fun s hs => by cases hs), addL_mem _ _ h (fun s hs => by cases hs)]
  simp
section
variable {w0 : World} {K : Value → AH → Prop} {n : ByteArray}
theorem f3_spec {a : Option Addr} {cp : Nat} {l : List Cl} (T : TabOk w0) (hr : Rd0 w0 a (l.flatMap Cl.cells)) (hl : l.length ≤ 140737488355328) (hc : l.length ≤ cp) (hk : ∀ h', K (.bool true) h') : EvC Go.Proofs.Tryd.prog w0 3 #[.slice a l.length cp, .string n] K (fun _ => none) := by
  have fin : ∀ h X, Own w0 h X → EvC Go.Proofs.Tryd.prog w0 10 #[] (fun x h29 => ∃ t : Bool, x = .bool t ∧ K (.bool t) h29) h := fun h X w => f10_spec T w fun h6 => ⟨_, rfl, hk h6⟩
  refine f3_go _ _ _ _ _ (f9_spec (B := []) Own.nil fun h1 A0 ra wa => ⟨_, rfl, f9_spec wa fun h2 B0 rb wb => ⟨_, rfl, ?_⟩⟩)
  have em : (if (60 : Int) < ((l.length : Nat) : Int) then (60 : Int) else ((l.length : Nat) : Int)) = ((min l.length 60 : Nat) : Int) := by
    split <;> omega
  rw [em]
  have mn : min l.length 60 ≤ l.length := Nat.min_le_left ..
  have m60 : min l.length 60 ≤ 60 := Nat.min_le_right ..
  generalize min l.length 60 = m at *
  have row : ∀ (i : Nat) (hi : i < l.length) h, ∃ ad, a = some ad ∧ At w0 h (Addr.add ad ((Int.toNat ((i : Nat) : Int)) * 4)) (l[i]'hi).cells := fun i hi h => rowLoad (enc := Cl.cells) (k := 4) (fun _ => rfl) (by decide) (hr.rd h) (List.getElem?_eq_getElem hi)
  -- the calls, the one way and the other
  have adds : ∀ (k i : Nat), i + k = m → (l.take m).Pairwise (fun x y => ¬ sameK x y) → ∀ (A B : TD) (h : AH), Rep (addL [] ((l.take m).take i)) A → A.tb = A0.tb → Rep (addL [] ((l.take m).reverse.take i)) B → B.tb = B0.tb → Own w0 h (B.own (A.own [])) → f3_14 w0 K a l.length cp n (some ⟨A0.tb, 0, none⟩) (some ⟨B0.tb, 0, none⟩) ((m : Nat) : Int) ((m : Nat) : Int) ((i : Nat) : Int) h := fun k => by
    induction k with
    | zero =>
      intro i hi hp A B h rA eA rB eB w
      have lt : (l.take m).length = m := by rw [List.length_take]; omega
      rw [List.take_of_length_le (by omega)] at rA
      rw [List.take_of_length_le (by rw [List.length_reverse]; omega), addL_rev hp] at rB
      have le := addL_le (l.take m) []
      simp only [List.length_nil, Nat.zero_add, lt] at le
      have lm := match_le n (addL [] (l.take m))
      have sw : ∀ {A B : TD} {X : List (Nat × AB)} {h : AH}, Own w0 h (B.own (A.own X)) → Own w0 h (A.own (B.own X)) := fun {A B X h} w => w.perm (by
        classical
        rw [List.perm_iff_count]; intro z
        simp only [TD.own, TD.rest, List.count_append, List.count_cons, List.count_nil]
        omega)
      rw [← eA, ← eB]
      have rest : ∀ h', Own w0 h' (B.own (A.own [])) → EvC Go.Proofs.Tryd.prog w0 14 #[.pointer (some ⟨A.tb, 0, none⟩), .string n] (fun x h => ∃ (p : Option Addr) (u v : Nat), x = .slice p u v ∧ EvC Go.Proofs.Tryd.prog w0 14 #[.pointer (some ⟨B.tb, 0, none⟩), .string n] (fun x h => ∃ (p' : Option Addr) (u' v' : Nat), x = .slice p' u' v' ∧ EvC Go.Proofs.Tryd.prog w0 13 #[.slice p u v, .slice p' u' v'] (fun x h => ∃ t : Bool, x = .bool t ∧ brB t (EvC Go.Proofs.Tryd.prog w0 10 #[] (fun x h29 => ∃ t : Bool, x = .bool t ∧ K (.bool t) h29) h) (K (.bool false) h)) h) h) h' := fun h' w' => by
        refine f14_spec T rA (sw w') (by omega) fun h3 a3 k3 v3 w3 => ⟨_, _, _, rfl, ?_⟩
        have w3' : Own w0 h3 (B.own (slB a3 (prs (matchS n (addL [] (l.take m)))) (k3 * 2) ++ A.own [])) := w3.perm (by
          classical
          rw [List.perm_iff_count]; intro z
          simp only [TD.own, TD.rest, List.count_append, List.count_cons, List.count_nil]
          omega)
        refine f14_spec T rB w3' (by omega) fun h4 a4 k4 v4 w4 => ⟨_, _, _, rfl, f13_same (by omega) ?_ (v4.rd (cs := []) w4) ⟨_, rfl, brB_of (fun _ => fin h4 _ w4) fun z => by cases z⟩⟩
        have w5 : Own w0 h4 (slB a3 (prs (matchS n (addL [] (l.take m)))) (k3 * 2) ++ (slB a4 (prs (matchS n (addL [] (l.take m)))) (k4 * 2) ++ B.own (A.own []))) := w4.perm (by
          classical
          rw [List.perm_iff_count]; intro z
          simp only [TD.own, TD.rest, List.count_append, List.count_cons, List.count_nil]
          omega)
        exact v3.rd (cs := []) w5
      refine f3_14_in _ _ _ _ _ _ _ _ _ _ (brB_of (fun z => by have := of_decide_eq_true z; omega) fun _ => ?_)
      refine f12_spec rA (sw w) (by omega) fun h3 w3 => ⟨_, rfl, f12_spec rB (sw w3) (by omega) fun h4 w4 => ⟨_, rfl, brB_of (fun _ => rest h4 w4) fun z => by simp at z⟩⟩
    | succ k ih =>
      intro i hi hp A B h rA eA rB eB w
      have lt : (l.take m).length = m := by rw [List.length_take]; omega
      have i1 : i < l.length := by omega
      have i2 : m - 1 - i < l.length := by omega
      obtain ⟨ad, had, at1⟩ := row i i1 h
      obtain ⟨ad2, had2, at2⟩ := row (m - 1 - i) i2 h
      rw [had] at had2
      injection had2 with had2
      subst had2
      have ej : IntKind.i64.wrap (IntKind.i64.wrap (((m : Nat) : Int) - 1) - ((i : Nat) : Int)) = ((m - 1 - i : Nat) : Int) := by
        rw [wrap64 (x := ((m : Nat) : Int) - 1) (by omega) (by omega), wrap64 (by omega) (by omega)]; omega
      have tA : (l.take m).take (i + 1) = (l.take m).take i ++ [l[i]'i1] := by
        rw [List.take_succ_eq_append_getElem (by omega), List.getElem_take]
      have tB : (l.take m).reverse.take (i + 1) = (l.take m).reverse.take i ++ [l[m - 1 - i]'i2] := by
        rw [List.take_succ_eq_append_getElem (by rw [List.length_reverse]; omega), List.getElem_reverse, List.getElem_take]
        simp only [lt]
      have nx := ih (i + 1) (by omega) hp
      rw [tA, tB, addL_snoc, addL_snoc] at nx
      generalize l[i]'i1 = x at at1 nx
      generalize l[m - 1 - i]'i2 = y at at2 nx
      have sw : ∀ {A B : TD} {X : List (Nat × AB)} {h : AH}, Own w0 h (B.own (A.own X)) → Own w0 h (A.own (B.own X)) := fun {A B X h} w => w.perm (by
        classical
        rw [List.perm_iff_count]; intro z
        simp only [TD.own, TD.rest, List.count_append, List.count_cons, List.count_nil]
        omega)
      have step : EvC Go.Proofs.Tryd.prog w0 11 #[.pointer (some ⟨A0.tb, 0, none⟩), .string x.f, .string x.c, .int .i64 x.q] (fun z h1 => ∃ t : Bool, z = .bool t ∧ EvC Go.Proofs.Tryd.prog w0 11 #[.pointer (some ⟨B0.tb, 0, none⟩), .string y.f, .string y.c, .int .i64 y.q] (fun z h1 => ∃ t : Bool, z = .bool t ∧ f3_14 w0 K a l.length cp n (some ⟨A0.tb, 0, none⟩) (some ⟨B0.tb, 0, none⟩) ((m : Nat) : Int) ((m : Nat) : Int) (IntKind.i64.wrap (((i : Nat) : Int) + 1)) h1) h1) h := by
        rw [← eA]
        refine f11_spec T rA (sw w) fun h3 A1 rA1 eA1 w3 => ⟨_, rfl, ?_⟩
        rw [← eB]
        refine f11_spec T rB (sw w3) fun h4 B1 rB1 eB1 w4 => ⟨_, rfl, ?_⟩
        rw [wrapS (by omega), eA, eB]
        exact nx A1 B1 h4 rA1 (eA1.trans eA) rB1 (eB1.trans eB) w4
      refine f3_14_in _ _ _ _ _ _ _ _ _ _ (brB_of (fun _ => ⟨ad, had, by omega, by omega, ad, had, ?_⟩) fun z => by have := of_decide_eq_false z; omega)
      rw [ej]
      refine ⟨by omega, by omega, ?_⟩
      repeat' first | exact step | refine And.intro ?_ ?_ | refine ⟨_, _, _, _, ⟨rfl, at1⟩, ?_⟩ | refine ⟨_, _, _, _, ⟨rfl, at2⟩, ?_⟩
  -- is one there twice?
  have dups : ∀ (k i : Nat), i + k = m → (l.take i).Pairwise (fun x y => ¬ sameK x y) → f3_4 w0 K a l.length cp n (some ⟨A0.tb, 0, none⟩) (some ⟨B0.tb, 0, none⟩) ((m : Nat) : Int) ((m : Nat) : Int) ((i : Nat) : Int) h2 := fun k => by
    induction k with
    | zero =>
      intro i hi hp
      have : i = m := by omega
      subst this
      exact f3_4_in _ _ _ _ _ _ _ _ _ _ (brB_of (fun z => by have := of_decide_eq_true z; omega) fun _ => adds i 0 (by omega) hp A0 B0 h2 (by simpa [addL] using ra) rfl (by simpa [addL] using rb) rfl wb)
    | succ k ih =>
      intro i hi hp
      have i1 : i < l.length := by omega
      have inner : ∀ (k' j : Nat) (hj : j + k' = i), (∀ u (hu : u < j), ¬ sameK (l[u]'(by omega)) (l[i]'i1)) → f3_7 w0 K a l.length cp n (some ⟨A0.tb, 0, none⟩) (some ⟨B0.tb, 0, none⟩) ((m : Nat) : Int) ((i : Nat) : Int) ((m : Nat) : Int) ((i : Nat) : Int) a i cp ((i : Nat) : Int) ((j : Nat) : Int) h2 := fun k' => by
        induction k' with
        | zero =>
          intro j hj hd
          have : j = i := by omega
          subst this
          refine f3_7_in _ _ _ _ _ _ _ _ _ _ _ _ _ _ _ _ (brB_of (fun z => by have := of_decide_eq_true z; omega) fun _ => ?_)
          rw [wrapS (by omega)]
          refine ih (j + 1) (by omega) ?_
          rw [List.take_succ_eq_append_getElem i1]
          refine List.pairwise_append.2 ⟨hp, by simp, fun x hx y hy => ?_⟩
          rw [List.mem_singleton] at hy
          subst hy
          obtain ⟨u, hu, rfl⟩ := List.mem_iff_getElem.1 hx
          rw [List.getElem_take]
          rw [List.length_take] at hu
          exact hd u (by omega)
        | succ k' ih' =>
          intro j hj hd
          have j1 : j < l.length := by omega
          obtain ⟨ad, had, at1⟩ := row j j1 h2
          obtain ⟨bd, hbd, at2⟩ := row i i1 h2
          have nx : ∀ z : Bool, (z = false → ¬ sameK (l[j]'j1) (l[i]'i1)) → f3_10 w0 K a l.length cp n (some ⟨A0.tb, 0, none⟩) (some ⟨B0.tb, 0, none⟩) ((m : Nat) : Int) ((i : Nat) : Int) ((m : Nat) : Int) ((i : Nat) : Int) a i cp ((i : Nat) : Int) ((j : Nat) : Int) z h2 := fun z hz =>
            f3_10_in _ _ _ _ _ _ _ _ _ _ _ _ _ _ _ _ _ (brB_of (fun _ => fin h2 _ wb) fun y => by
              rw [wrapS (by omega)]
              refine ih' (j + 1) (by omega) fun u hu => ?_
              by_cases e : u = j
              · subst e; exact hz y
              · exact hd u (by omega))
          refine f3_7_in _ _ _ _ _ _ _ _ _ _ _ _ _ _ _ _ (brB_of (fun _ => ⟨ad, had, by omega, by omega, _, _, _, _, ⟨rfl, at1⟩, bd, hbd, by omega, by omega, (l[i]'i1).f, at2 1 _ rfl, brB_of (fun e1 => ⟨bd, hbd, by omega, by omega, (l[i]'i1).c, at2 2 _ rfl, nx _ fun y z => (of_decide_eq_false y) z.1⟩) fun e1 => nx false fun _ z => (of_decide_eq_false e1) z.2⟩) fun z => by have := of_decide_eq_false z; omega)
      refine f3_4_in _ _ _ _ _ _ _ _ _ _ (brB_of (fun _ => ⟨by omega, by omega, ?_⟩) fun z => by have := of_decide_eq_false z; omega)
      rw [Int.toNat_natCast]
      exact inner i 0 (Nat.zero_add _) fun u hu => absurd hu (Nat.not_lt_zero _)
  exact dups m 0 (Nat.zero_add _) (by simp)
end
end Go.G.YtnmngjffebbbnaaDoor
