/- The document's bytes. -/
import Derived.Test.YtciepfobnaemmaaDoorPZ
import Derived.Test.YtciepfobnaemmaaDoorPX
import Derived.Test.YtciepfobnaemmaaDoorProg
set_option maxRecDepth 100000
namespace Go.G.YtciepfobnaemmaaDoor
open Go.RowKit
open Value (string slice int bool agg)
/-! ### a packet as bytes: the document's -/
section
variable {w0 : World} {K : Value → AH → Prop} {h : AH} {X : List (Nat × AB)} {a : Option Addr} {c : Nat} {L : List UInt8}
/-- The first byte, the length, what follows. -/
theorem tail18 {m : PkM} {kd fl : Nat} {F : Int} {N : Nat} (hN : N = L.length) (hke : m.kind = ((kd : Nat) : Int)) (hk16 : kd < 16) (hF : F = ((fl : Nat) : Int)) (hfl : fl < 16) (hL : L.length ≤ 1000) (w : Own w0 h X) (rL : ∀ h', Own w0 h' X → Rd w0 h' a (u8s L)) {Y : List (Nat × AB)} (hXY : ∃ Z, X = Z ++ Y)
    (hk : ∀ h' a c, SlV 1 a (UInt8.ofNat (kd * 16 + fl) :: (putV L.length ++ L)).length c (u8s (UInt8.ofNat (kd * 16 + fl) :: (putV L.length ++ L))) → Own w0 h' (slB a (u8s (UInt8.ofNat (kd * 16 + fl) :: (putV L.length ++ L))) (c * 1) ++ Y) → K (.tuple #[.slice a (UInt8.ofNat (kd * 16 + fl) :: (putV L.length ++ L)).length c, .int .i64 0]) h') :
    EvC Go.Proofs.Tryd.prog w0 21 #[.int .i64 ((N : Nat) : Int)] (fun x h54 => ∃ (p : Option Addr) (n d : Nat) (i : Int), x = .tuple #[.slice p n d, .int .i64 i] ∧ (0 : Int) ≤ 4 ∧
      newB w0 h54 (.cells [.int .u8 (IntKind.u8.wrap (((BitVec.toNat ((BitVec.ofInt 8 (IntKind.u8.wrap ((IntKind.u8.wrap m.kind) * (16 : Int)))) ||| (BitVec.ofInt 8 F))) : Nat) : Int))] (List.length [Value.int .u8 (IntKind.u8.wrap (((BitVec.toNat ((BitVec.ofInt 8 (IntKind.u8.wrap ((IntKind.u8.wrap m.kind) * (16 : Int)))) ||| (BitVec.ofInt 8 F))) : Nat) : Int))])) fun b h60 =>
        rowsOf w0 h60 1 p n fun ys => App w0 h60 1 1 (some ⟨b, 0, none⟩) 1 1 n ys fun a62 c63 h64 => rowsOf w0 h64 1 a N fun ys2 => App w0 h64 1 1 a62 (1 + n) c63 N ys2 fun a66 c67 h68 => K (.tuple #[.slice a66 ((1 + n) + N) c67, .int .i64 0]) h68) h := by
  subst hN hF
  obtain ⟨Z, rfl⟩ := hXY
  refine f21_spec w (by omega) fun h4 a4 c4 v4 w4 => ⟨_, _, _, _, rfl, by decide, fun b hb hn => ?_⟩
  have pl := putV_len10 (n := L.length) (by omega)
  have ex : IntKind.u8.wrap (((BitVec.toNat ((BitVec.ofInt 8 (IntKind.u8.wrap ((IntKind.u8.wrap m.kind) * (16 : Int)))) ||| (BitVec.ofInt 8 ((fl : Nat) : Int)))) : Nat) : Int) = ((kd * 16 + fl : Nat) : Int) := by
    have := first_or kd fl hk16 hfl
    rw [hke, mul8 (k := 16) (z := 16) rfl (by omega) (by omega), or8 (by omega) (by omega) (by omega), this]
  have eu : u8s [UInt8.ofNat (kd * 16 + fl)] = [.int .u8 ((kd * 16 + fl : Nat) : Int)] := by
    simp only [u8s, List.map_cons, List.map_nil, UInt8.toNat_ofNat']
    rw [Nat.mod_eq_of_lt (by omega)]
  have w5 := Own.new (o := .cells [.int .u8 (IntKind.u8.wrap (((BitVec.toNat ((BitVec.ofInt 8 (IntKind.u8.wrap ((IntKind.u8.wrap m.kind) * (16 : Int)))) ||| (BitVec.ofInt 8 ((fl : Nat) : Int)))) : Nat) : Int))] 1) w4 hb hn
  have w6 := w5.perm (cs := slB (some ⟨b, 0, none⟩) (u8s [UInt8.ofNat (kd * 16 + fl)]) (1 * 1) ++ (slB a4 (u8s (putV L.length)) (c4 * 1) ++ (Z ++ Y))) (List.Perm.of_eq (by rw [eu, ← ex]; rfl))
  have v6 : SlV 1 (some ⟨b, 0, none⟩) ([UInt8.ofNat (kd * 16 + fl)] : List UInt8).length 1 (u8s [UInt8.ofNat (kd * 16 + fl)]) := ⟨rfl, Nat.le_refl _, rfl, rfl⟩
  refine rowsOf_of (v4.rd w6) (by rw [u8s_length, Nat.mul_one]) (App_bytes v6 w6 (by simp; omega) fun a7 c7 h7 v7 w7 => ?_)
  have w8 := w7.cut
  rw [show 1 + (putV L.length).length = ([UInt8.ofNat (kd * 16 + fl)] ++ putV L.length).length by simp; omega]
  refine rowsOf_of (rL h7 w8.drop) (by rw [u8s_length, Nat.mul_one]) (App_bytes v7 w8 (by simp; omega) fun a9 c9 h9 v9 w9 => ?_)
  have w10 := w9.cut
  rw [show ([UInt8.ofNat (kd * 16 + fl)] ++ putV L.length).length + L.length = ([UInt8.ofNat (kd * 16 + fl)] ++ putV L.length ++ L).length from (List.length_append ..).symm]
  exact hk h9 a9 c9 v9 w10
/-- .. the bytes being the law's own. -/
theorem tail18o {m : PkM} {kd fl : Nat} {F : Int} {N : Nat} (hN : N = L.length) (hke : m.kind = ((kd : Nat) : Int)) (hk16 : kd < 16) (hF : F = ((fl : Nat) : Int)) (hfl : fl < 16) (hL : L.length ≤ 1000) (v : SlV 1 a L.length c (u8s L)) (w : Own w0 h (slB a (u8s L) (c * 1) ++ X))
    (hk : ∀ h' a c, SlV 1 a (UInt8.ofNat (kd * 16 + fl) :: (putV L.length ++ L)).length c (u8s (UInt8.ofNat (kd * 16 + fl) :: (putV L.length ++ L))) → Own w0 h' (slB a (u8s (UInt8.ofNat (kd * 16 + fl) :: (putV L.length ++ L))) (c * 1) ++ X) → K (.tuple #[.slice a (UInt8.ofNat (kd * 16 + fl) :: (putV L.length ++ L)).length c, .int .i64 0]) h') :
    EvC Go.Proofs.Tryd.prog w0 21 #[.int .i64 ((N : Nat) : Int)] (fun x h54 => ∃ (p : Option Addr) (n d : Nat) (i : Int), x = .tuple #[.slice p n d, .int .i64 i] ∧ (0 : Int) ≤ 4 ∧
      newB w0 h54 (.cells [.int .u8 (IntKind.u8.wrap (((BitVec.toNat ((BitVec.ofInt 8 (IntKind.u8.wrap ((IntKind.u8.wrap m.kind) * (16 : Int)))) ||| (BitVec.ofInt 8 F))) : Nat) : Int))] (List.length [Value.int .u8 (IntKind.u8.wrap (((BitVec.toNat ((BitVec.ofInt 8 (IntKind.u8.wrap ((IntKind.u8.wrap m.kind) * (16 : Int)))) ||| (BitVec.ofInt 8 F))) : Nat) : Int))])) fun b h60 =>
        rowsOf w0 h60 1 p n fun ys => App w0 h60 1 1 (some ⟨b, 0, none⟩) 1 1 n ys fun a62 c63 h64 => rowsOf w0 h64 1 a N fun ys2 => App w0 h64 1 1 a62 (1 + n) c63 N ys2 fun a66 c67 h68 => K (.tuple #[.slice a66 ((1 + n) + N) c67, .int .i64 0]) h68) h :=
  tail18 hN hke hk16 hF hfl hL w (fun h' w' => v.rd (cs := []) w') ⟨_, rfl⟩ hk
theorem f46_str {x : List UInt8} (v : SlV 1 a L.length c (u8s L)) (w : Own w0 h (slB a (u8s L) (c * 1) ++ X)) (hl : L.length ≤ 10000000) (hx : x.length ≤ 65535)
    (hk : ∀ h' a' c', SlV 1 a' (L ++ textP x).length c' (u8s (L ++ textP x)) → Own w0 h' (slB a' (u8s (L ++ textP x)) (c' * 1) ++ X) → K (.slice a' (L ++ textP x).length c') h') : ∀ n, (toB x).size ≤ n → newB w0 h (.cells (intsOf (toB x)) n) fun b h' => EvC Go.Proofs.Tryd.prog w0 46 #[.slice a L.length c, .slice (some ⟨b, 0, none⟩) (toB x).size n] K h' := fun n hn b hb hbn => by
  have w1 := Own.new (o := .cells (intsOf (toB x)) n) w hb hbn
  have w2 : Own w0 _ (slB a (u8s L) (c * 1) ++ ((b, .cells (intsOf (toB x)) n) :: X)) := Own.front (cs := [_]) (ds := slB a (u8s L) (c * 1)) w1
  rw [size_toB] at hn ⊢
  refine f46_spec v w2 (fun h' C w' => ?_) hl hx fun h3 a3 c3 v3 w3 => hk h3 a3 c3 v3 (Own.cut (ds := [_]) w3)
  have hm := w'.mem (List.mem_append_right C (List.mem_cons_self ..))
  exact fun j y hj => ⟨_, rfl, own_cell hm.1 hm.2 hj⟩
theorem f46_strS {s : ByteArray} (v : SlV 1 a L.length c (u8s L)) (w : Own w0 h (slB a (u8s L) (c * 1) ++ X)) (hl : L.length ≤ 10000000) (hx : s.data.toList.length ≤ 65535)
    (hk : ∀ h' a' c', SlV 1 a' (L ++ textP s.data.toList).length c' (u8s (L ++ textP s.data.toList)) → Own w0 h' (slB a' (u8s (L ++ textP s.data.toList)) (c' * 1) ++ X) → K (.slice a' (L ++ textP s.data.toList).length c') h') : ∀ n, s.size ≤ n → newB w0 h (.cells (intsOf s) n) fun b h' => EvC Go.Proofs.Tryd.prog w0 46 #[.slice a L.length c, .slice (some ⟨b, 0, none⟩) s.size n] K h' := by
  have := f46_str (x := s.data.toList) v w hl hx hk
  rw [toB_data] at this
  exact this
theorem f46_specN {x : List UInt8} {b : Option Addr} {d N : Nat} (hN : N = x.length) (v : SlV 1 a L.length c (u8s L)) (w : Own w0 h (slB a (u8s L) (c * 1) ++ X)) (hx : ∀ h' C, Own w0 h' (C ++ X) → Rd w0 h' b (u8s x)) (hl : L.length ≤ 10000000) (hxl : x.length ≤ 65535)
    (hk : ∀ h' a' c', SlV 1 a' (L ++ textP x).length c' (u8s (L ++ textP x)) → Own w0 h' (slB a' (u8s (L ++ textP x)) (c' * 1) ++ X) → K (.slice a' (L ++ textP x).length c') h') : EvC Go.Proofs.Tryd.prog w0 46 #[.slice a L.length c, .slice b N d] K h := by
  subst hN; exact f46_spec v w hx hl hxl hk
end
def f18_J : Nat → List Nat × Nat := jOf [(7, (0 :: (2 :: (3 :: (rn 159 152 (rn 180 20 []))))), 1), (9, (0 :: (2 :: (3 :: (rn 35 29 (rn 180 144 []))))), 1), (10, (0 :: (2 :: (3 :: (rn 180 174 [])))), 1), (11, (0 :: (2 :: (3 :: (rn 37 31 (rn 180 140 []))))), 1), (18, (0 :: (2 :: (3 :: (rn 59 53 (rn 180 118 []))))), 1)]

def f18_7 (w0 : World) (K : Value → AH → Prop) (a : Int) (b : Option Addr) (c d : Nat) (e : Option Addr) (g i : Nat) (k : Bool) (m n : Int) (o : Bool) (p : ByteArray) (q : Option Addr) (r s : Nat) (t : Int) (u : Bool) (x : Int) (y : ByteArray) (z : Bool) (A : Int) (B C : Bool) (D : Int) (E : Option Addr) (F G : Nat) (L : Option Addr) (M N : Nat) (h : AH) : Prop :=
  ∀ j : Nat → Value, LPk Proofs.Tryd.prog w0 (EvC Proofs.Tryd.prog w0) f18_J 18 K 7 (jv j 1 1 (.bp 0 0 :: (jv j 4 2 (.v (.int .u8 a) :: (.v (.slice b c d) :: (.v (.slice e g i) :: (jv j 159 152 (.v (.bool k) :: (jv j 180 20 []))))))))) [some [(.int .i64 m), (.int .i64 n), (.bool o), (.string p), (.slice q r s), (.int .i64 t), (.bool u), (.int .i64 x), (.string y), (.bool z), (.int .i64 A), (.bool B), (.bool C), (.int .i64 D), (.slice E F G), (.slice L M N)]] h

def f18_9 (w0 : World) (K : Value → AH → Prop) (a : Int) (b : Option Addr) (c d : Nat) (e : Bool) (g i : Int) (k : Bool) (m : ByteArray) (n : Option Addr) (o p : Nat) (q : Int) (r : Bool) (s : Int) (t : ByteArray) (u : Bool) (x : Int) (y z : Bool) (A : Int) (B : Option Addr) (C D : Nat) (E : Option Addr) (F G : Nat) (h : AH) : Prop :=
  ∀ j : Nat → Value, LPk Proofs.Tryd.prog w0 (EvC Proofs.Tryd.prog w0) f18_J 18 K 9 (jv j 1 1 (.bp 0 0 :: (jv j 4 2 (.v (.int .u8 a) :: (.v (.slice b c d) :: (jv j 35 29 (.v (.bool e) :: (jv j 180 144 [])))))))) [some [(.int .i64 g), (.int .i64 i), (.bool k), (.string m), (.slice n o p), (.int .i64 q), (.bool r), (.int .i64 s), (.string t), (.bool u), (.int .i64 x), (.bool y), (.bool z), (.int .i64 A), (.slice B C D), (.slice E F G)]] h

def f18_10 (w0 : World) (K : Value → AH → Prop) (a : Int) (b : Option Addr) (c d : Nat) (e g : Int) (i : Bool) (k : ByteArray) (m : Option Addr) (n o : Nat) (p : Int) (q : Bool) (r : Int) (s : ByteArray) (t : Bool) (u : Int) (x y : Bool) (z : Int) (A : Option Addr) (B C : Nat) (D : Option Addr) (E F : Nat) (h : AH) : Prop :=
  ∀ j : Nat → Value, LPk Proofs.Tryd.prog w0 (EvC Proofs.Tryd.prog w0) f18_J 18 K 10 (jv j 1 1 (.bp 0 0 :: (jv j 4 2 (.v (.int .u8 a) :: (.v (.slice b c d) :: (jv j 180 174 [])))))) [some [(.int .i64 e), (.int .i64 g), (.bool i), (.string k), (.slice m n o), (.int .i64 p), (.bool q), (.int .i64 r), (.string s), (.bool t), (.int .i64 u), (.bool x), (.bool y), (.int .i64 z), (.slice A B C), (.slice D E F)]] h

def f18_11 (w0 : World) (K : Value → AH → Prop) (a : Int) (b : Option Addr) (c d : Nat) (e : Option Addr) (g i : Nat) (k m : Int) (n o : Int) (p : Bool) (q : ByteArray) (r : Option Addr) (s t : Nat) (u : Int) (x : Bool) (y : Int) (z : ByteArray) (A : Bool) (B : Int) (C D : Bool) (E : Int) (F : Option Addr) (G L : Nat) (M : Option Addr) (N Q : Nat) (h : AH) : Prop :=
  ∀ j : Nat → Value, LPk Proofs.Tryd.prog w0 (EvC Proofs.Tryd.prog w0) f18_J 18 K 11 (jv j 1 1 (.bp 0 0 :: (jv j 4 2 (.v (.int .u8 a) :: (.v (.slice b c d) :: (jv j 37 31 (.v (.slice e g i) :: (.v (.int .i64 k) :: (.v (.int .i64 m) :: (jv j 180 140 [])))))))))) [some [(.int .i64 n), (.int .i64 o), (.bool p), (.string q), (.slice r s t), (.int .i64 u), (.bool x), (.int .i64 y), (.string z), (.bool A), (.int .i64 B), (.bool C), (.bool D), (.int .i64 E), (.slice F G L), (.slice M N Q)]] h

def f18_18 (w0 : World) (K : Value → AH → Prop) (a : Int) (b : Option Addr) (c d : Nat) (e : Option Addr) (g i : Nat) (k m : Int) (n o : Int) (p : Bool) (q : ByteArray) (r : Option Addr) (s t : Nat) (u : Int) (x : Bool) (y : Int) (z : ByteArray) (A : Bool) (B : Int) (C D : Bool) (E : Int) (F : Option Addr) (G L : Nat) (M : Option Addr) (N Q : Nat) (h : AH) : Prop :=
  ∀ j : Nat → Value, LPk Proofs.Tryd.prog w0 (EvC Proofs.Tryd.prog w0) f18_J 18 K 18 (jv j 1 1 (.bp 0 0 :: (jv j 4 2 (.v (.int .u8 a) :: (.v (.slice b c d) :: (jv j 59 53 (.v (.slice e g i) :: (.v (.int .i64 k) :: (.v (.int .i64 m) :: (jv j 180 118 [])))))))))) [some [(.int .i64 n), (.int .i64 o), (.bool p), (.string q), (.slice r s t), (.int .i64 u), (.bool x), (.int .i64 y), (.string z), (.bool A), (.int .i64 B), (.bool C), (.bool D), (.int .i64 E), (.slice F G L), (.slice M N Q)]] h

theorem f18_7_in {w0 : World} {K : Value → AH → Prop} (b : Int) (M : Option Addr) (c U : Nat) (e : Option Addr) (g i : Nat) (N : Bool) (a k : Int) (m : Bool) (n : ByteArray) (o : Option Addr) (p q : Nat) (r : Int) (s : Bool) (t : Int) (u : ByteArray) (v : Bool) (x : Int) (y z : Bool) (A : Int) (B : Option Addr) (C D : Nat) (E : Option Addr) (F L : Nat) (h : AH)
  (hv : (brB N (EvC Proofs.Tryd.prog w0 21 #[(int .i64 ((c : Nat) : Int))] (fun V Y => (∃ Q : Option Addr, (∃ d : Nat, (∃ Z : Nat, (∃ a0 : Int, ((V = (Value.tuple #[(slice Q d Z), (int .i64 a0)])) ∧ (((0 : Int) ≤ (4 : Int)) ∧ (newB w0 Y (AB.cells [(int .u8 (IntKind.wrap .u8 (((BitVec.toNat ((BitVec.ofInt 8 (IntKind.wrap .u8 ((IntKind.wrap .u8 a) * (16 : Int)))) ||| (BitVec.ofInt 8 b))) : Nat) : Int)))] (List.length [(int .u8 (IntKind.wrap .u8 (((BitVec.toNat ((BitVec.ofInt 8 (IntKind.wrap .u8 ((IntKind.wrap .u8 a) * (16 : Int)))) ||| (BitVec.ofInt 8 b))) : Nat) : Int)))])) (fun a1 R => (rowsOf w0 R 1 Q d (fun a2 => (App w0 R 1 1 (some (Addr.mk a1 0 none)) 1 1 d a2 (fun a3 a4 T => (rowsOf w0 T 1 M c (fun a5 => (App w0 T 1 1 a3 (1 + d) a4 c a5 (fun a6 a7 a8 => (K (Value.tuple #[(slice a6 ((1 + d) + c) a7), (int .i64 (0 : Int))]) a8)))))))))))))))))) h) (brB (a == (6 : Int)) (f18_9 w0 K b e g i true a k m n o p q r s t u v x y z A B C D E F L h) (brB (a == (8 : Int)) (f18_9 w0 K b e g i true a k m n o p q r s t u v x y z A B C D E F L h) (f18_9 w0 K b e g i (a == (10 : Int)) a k m n o p q r s t u v x y z A B C D E F L h))))) :
  f18_7 w0 K b M c U e g i N a k m n o p q r s t u v x y z A B C D E F L h := fun j => LP_intro (P := Proofs.Tryd.prog) (Eq.mp (by kernel_rfl) hv)

theorem f18_9_in {w0 : World} {K : Value → AH → Prop} (E : Int) (a : Option Addr) (b c : Nat) (F : Bool) (d e : Int) (g : Bool) (i : ByteArray) (k : Option Addr) (m n : Nat) (o : Int) (p : Bool) (q : Int) (r : ByteArray) (s : Bool) (t : Int) (u v : Bool) (x : Int) (y : Option Addr) (z A : Nat) (B : Option Addr) (C D : Nat) (h : AH)
  (hv : (brB F (f18_10 w0 K (2 : Int) a b c d e g i k m n o p q r s t u v x y z A B C D h) (f18_10 w0 K E a b c d e g i k m n o p q r s t u v x y z A B C D h))) :
  f18_9 w0 K E a b c F d e g i k m n o p q r s t u v x y z A B C D h := fun j => LP_intro (P := Proofs.Tryd.prog) (Eq.mp (by kernel_rfl) hv)

theorem f18_10_in {w0 : World} {K : Value → AH → Prop} (d : Int) (e : Option Addr) (g i : Nat) (k m : Int) (n : Bool) (o : ByteArray) (p : Option Addr) (q r : Nat) (s : Int) (t : Bool) (u : Int) (v : ByteArray) (x : Bool) (y : Int) (z A : Bool) (B : Int) (b : Option Addr) (a c : Nat) (C : Option Addr) (D E : Nat) (h : AH)
  (hv : (f18_11 w0 K d e g i b a c ((a : Nat) : Int) (0 : Int) k m n o p q r s t u v x y z A B b a c C D E h)) :
  f18_10 w0 K d e g i k m n o p q r s t u v x y z A B b a c C D E h := fun j => LP_intro (P := Proofs.Tryd.prog) (Eq.mp (by kernel_rfl) hv)

theorem f18_11_in {w0 : World} {K : Value → AH → Prop} (i : Int) (N : Option Addr) (Q R : Nat) (k : Option Addr) (m T : Nat) (n a : Int) (c o : Int) (p : Bool) (q : ByteArray) (r : Option Addr) (s t : Nat) (u : Int) (v : Bool) (x : Int) (y : ByteArray) (z : Bool) (A : Int) (B C : Bool) (D : Int) (E : Option Addr) (F L : Nat) (d : Option Addr) (b e : Nat) (h : AH)
  (hv : (brB (decide ((a < n))) (∃ a0 : Addr, ((k = (some a0)) ∧ (((0 : Int) ≤ a) ∧ ((a < ((m : Nat) : Int)) ∧ (∃ g : ByteArray, (∃ U : Int, ((((Array.size #[(string g), (int .i64 U)]) = 2) ∧ (At w0 h (Addr.add a0 ((Int.toNat a) * 2)) [(string g), (int .i64 U)])) ∧ (∀ V : Nat, (((ByteArray.size g) ≤ V) → (newB w0 h (AB.cells (intsOf g) V) (fun a2 a3 => (EvC Proofs.Tryd.prog w0 46 #[(slice N Q R), (slice (some (Addr.mk a2 0 none)) (ByteArray.size g) V)] (fun a4 a1 => (∃ Y : Option Addr, (∃ M : Nat, (∃ Z : Nat, ((a4 = (slice Y M Z)) ∧ (brB (c == (8 : Int)) (App w0 a1 1 1 Y M Z 1 [(int .u8 (IntKind.wrap .u8 U))] (fun a5 a6 a7 => (f18_11 w0 K i a5 (M + 1) a6 k m T n (IntKind.wrap .i64 (a + (1 : Int))) c o p q r s t u v x y z A B C D E F L d b e a7))) (f18_11 w0 K i Y M Z k m T n (IntKind.wrap .i64 (a + (1 : Int))) c o p q r s t u v x y z A B C D E F L d b e a1))))))) a3)))))))))))) (f18_18 w0 K i N Q R d b e ((b : Nat) : Int) (0 : Int) c o p q r s t u v x y z A B C D E F L d b e h))) :
  f18_11 w0 K i N Q R k m T n a c o p q r s t u v x y z A B C D E F L d b e h := fun j => LP_intro (P := Proofs.Tryd.prog) (Eq.mp (by kernel_rfl) hv)

theorem f18_18_in {w0 : World} {K : Value → AH → Prop} (d : Int) (g : Option Addr) (a n : Nat) (i : Option Addr) (k o : Nat) (m b : Int) (e p : Int) (q : Bool) (r : ByteArray) (s : Option Addr) (t u : Nat) (v : Int) (x : Bool) (y : Int) (z : ByteArray) (A : Bool) (B : Int) (C D : Bool) (E : Int) (F : Option Addr) (L M : Nat) (N : Option Addr) (Q R : Nat) (h : AH)
  (hv : (brB (decide ((b < m))) (∃ T : Addr, ((i = (some T)) ∧ (((0 : Int) ≤ b) ∧ ((b < ((k : Nat) : Int)) ∧ (∃ U : Int, (((cellA w0 h (Addr.add T ((Int.toNat b) * 1))) = (some (int .i64 U))) ∧ (App w0 h 1 1 g a n 1 [(int .u8 (IntKind.wrap .u8 U))] (fun a0 a1 a2 => (f18_18 w0 K d a0 (a + 1) a1 i k o m (IntKind.wrap .i64 (b + (1 : Int))) e p q r s t u v x y z A B C D E F L M N Q R a2))))))))) (EvC Proofs.Tryd.prog w0 21 #[(int .i64 ((a : Nat) : Int))] (fun a3 a4 => (∃ V : Option Addr, (∃ c : Nat, (∃ a5 : Nat, (∃ a6 : Int, ((a3 = (Value.tuple #[(slice V c a5), (int .i64 a6)])) ∧ (((0 : Int) ≤ (4 : Int)) ∧ (newB w0 a4 (AB.cells [(int .u8 (IntKind.wrap .u8 (((BitVec.toNat ((BitVec.ofInt 8 (IntKind.wrap .u8 ((IntKind.wrap .u8 e) * (16 : Int)))) ||| (BitVec.ofInt 8 d))) : Nat) : Int)))] (List.length [(int .u8 (IntKind.wrap .u8 (((BitVec.toNat ((BitVec.ofInt 8 (IntKind.wrap .u8 ((IntKind.wrap .u8 e) * (16 : Int)))) ||| (BitVec.ofInt 8 d))) : Nat) : Int)))])) (fun a7 Y => (rowsOf w0 Y 1 V c (fun a8 => (App w0 Y 1 1 (some (Addr.mk a7 0 none)) 1 1 c a8 (fun a9 b0 Z => (rowsOf w0 Z 1 g a (fun b1 => (App w0 Z 1 1 a9 (1 + c) b0 a b1 (fun b2 b3 b4 => (K (Value.tuple #[(slice b2 ((1 + c) + a) b3), (int .i64 (0 : Int))]) b4)))))))))))))))))) h))) :
  f18_18 w0 K d g a n i k o m b e p q r s t u v x y z A B C D E F L M N Q R h := fun j => LP_intro (P := Proofs.Tryd.prog) (Eq.mp (by kernel_rfl) hv)

theorem f18_go {w0 : World} {K : Value → AH → Prop} (a q : Int) (r : Bool) (c : ByteArray) (k : Option Addr) (b n : Nat) (e : Int) (o : Bool) (z : Int) (g : ByteArray) (s : Bool) (p : Int) (m t : Bool) (u : Int) (A : Option Addr) (B C : Nat) (D : Option Addr) (E F : Nat) (h : AH)
  (hv : (EvC Proofs.Tryd.prog w0 24 #[(agg #[(int .i64 a), (int .i64 q), (bool r), (string c), (slice k b n), (int .i64 e), (bool o), (int .i64 z), (string g), (bool s), (int .i64 p), (bool m), (bool t), (int .i64 u), (slice A B C), (slice D E F)])] (fun i4 b4 => (∃ b5 : Bool, ((i4 = (bool b5)) ∧ (brB (!b5) (K (Value.tuple #[(slice none 0 0), (int .i64 (1 : Int))]) b4) (EvC Proofs.Tryd.prog w0 45 #[(slice none 0 0), (int .u64 (IntKind.wrap .u64 q)), (int .i64 (2 : Int))] (fun i5 v => (∃ L : Option Addr, (∃ i : Nat, (∃ a2 : Nat, ((i5 = (slice L i a2)) ∧ (brB (a == (1 : Int)) (((0 : Int) ≤ (3 : Int)) ∧ (newB w0 v (AB.cells [(int .u8 (77 : Int)), (int .u8 (81 : Int)), (int .u8 (84 : Int)), (int .u8 (84 : Int))] (List.length [(int .u8 (77 : Int)), (int .u8 (81 : Int)), (int .u8 (84 : Int)), (int .u8 (84 : Int))])) (fun i6 i7 => (EvC Proofs.Tryd.prog w0 46 #[(slice none 0 0), (slice (some (Addr.mk i6 0 none)) 4 4)] (fun i9 k0 => (∃ b6 : Option Addr, (∃ a3 : Nat, (∃ b7 : Nat, ((i9 = (slice b6 a3 b7)) ∧ (EvC Proofs.Tryd.prog w0 47 #[(bool o), (int .u8 (32 : Int))] (fun k1 k2 => (∃ b8 : Int, ((k1 = (int .u8 b8)) ∧ (EvC Proofs.Tryd.prog w0 47 #[(bool m), (int .u8 (4 : Int))] (fun k3 k4 => (∃ b9 : Int, ((k3 = (int .u8 b9)) ∧ (EvC Proofs.Tryd.prog w0 47 #[(bool s), (int .u8 (2 : Int))] (fun k5 k6 => (∃ c0 : Int, ((k5 = (int .u8 c0)) ∧ (App w0 k6 1 1 b6 a3 b7 2 [(int .u8 (4 : Int)), (int .u8 (IntKind.wrap .u8 (((BitVec.toNat ((BitVec.ofInt 8 (IntKind.wrap .u8 (((BitVec.toNat ((BitVec.ofInt 8 (IntKind.wrap .u8 (((BitVec.toNat ((BitVec.ofInt 8 b8) ||| (BitVec.ofInt 8 (IntKind.wrap .u8 ((IntKind.wrap .u8 e) * (8 : Int)))))) : Nat) : Int))) ||| (BitVec.ofInt 8 b9))) : Nat) : Int))) ||| (BitVec.ofInt 8 c0))) : Nat) : Int)))] (fun c1 c2 c3 => ((EvC Proofs.Tryd.prog w0 45 #[(slice c1 (a3 + 2) c2), (int .u64 (IntKind.wrap .u64 p)), (int .i64 (2 : Int))] (fun k7 k8 => (∃ c4 : Option Addr, (∃ c5 : Nat, (∃ c6 : Nat, ((k7 = (slice c4 c5 c6)) ∧ (∀ a5 : Nat, (((ByteArray.size g) ≤ a5) → (newB w0 k8 (AB.cells (intsOf g) a5) (fun k9 m0 => (EvC Proofs.Tryd.prog w0 46 #[(slice c4 c5 c6), (slice (some (Addr.mk k9 0 none)) (ByteArray.size g) a5)] (fun m1 c7 => (∃ a6 : Option Addr, (∃ x : Nat, (∃ c8 : Nat, ((m1 = (slice a6 x c8)) ∧ (brB m (∀ a7 : Nat, (((ByteArray.size c) ≤ a7) → (newB w0 c7 (AB.cells (intsOf c) a7) (fun m2 m3 => (EvC Proofs.Tryd.prog w0 46 #[(slice a6 x c8), (slice (some (Addr.mk m2 0 none)) (ByteArray.size c) a7)] (fun m4 m5 => (∃ c9 : Option Addr, (∃ d0 : Nat, (∃ d1 : Nat, ((m4 = (slice c9 d0 d1)) ∧ (EvC Proofs.Tryd.prog w0 46 #[(slice c9 d0 d1), (slice k b n)] (fun m6 m7 => (∃ d2 : Option Addr, (∃ M : Nat, (∃ m8 : Nat, ((m6 = (slice d2 M m8)) ∧ (EvC Proofs.Tryd.prog w0 21 #[(int .i64 ((M : Nat) : Int))] (fun m9 n0 => (∃ d3 : Option Addr, (∃ N : Nat, (∃ n1 : Nat, (∃ n2 : Int, ((m9 = (Value.tuple #[(slice d3 N n1), (int .i64 n2)])) ∧ (((0 : Int) ≤ (4 : Int)) ∧ (newB w0 n0 (AB.cells [(int .u8 (IntKind.wrap .u8 (((BitVec.toNat ((BitVec.ofInt 8 (IntKind.wrap .u8 ((IntKind.wrap .u8 a) * (16 : Int)))) ||| (BitVec.ofInt 8 (0 : Int)))) : Nat) : Int)))] (List.length [(int .u8 (IntKind.wrap .u8 (((BitVec.toNat ((BitVec.ofInt 8 (IntKind.wrap .u8 ((IntKind.wrap .u8 a) * (16 : Int)))) ||| (BitVec.ofInt 8 (0 : Int)))) : Nat) : Int)))])) (fun n3 d4 => (rowsOf w0 d4 1 d3 N (fun n4 => (App w0 d4 1 1 (some (Addr.mk n3 0 none)) 1 1 N n4 (fun n5 n6 d5 => (rowsOf w0 d5 1 d2 M (fun n7 => (App w0 d5 1 1 n5 (1 + N) n6 M n7 (fun n8 n9 o0 => (K (Value.tuple #[(slice n8 ((1 + N) + M) n9), (int .i64 (0 : Int))]) o0)))))))))))))))))) m7)))))) m5)))))) m3))))) (EvC Proofs.Tryd.prog w0 21 #[(int .i64 ((x : Nat) : Int))] (fun o1 o2 => (∃ d6 : Option Addr, (∃ Q : Nat, (∃ o3 : Nat, (∃ o4 : Int, ((o1 = (Value.tuple #[(slice d6 Q o3), (int .i64 o4)])) ∧ (((0 : Int) ≤ (4 : Int)) ∧ (newB w0 o2 (AB.cells [(int .u8 (IntKind.wrap .u8 (((BitVec.toNat ((BitVec.ofInt 8 (IntKind.wrap .u8 ((IntKind.wrap .u8 a) * (16 : Int)))) ||| (BitVec.ofInt 8 (0 : Int)))) : Nat) : Int)))] (List.length [(int .u8 (IntKind.wrap .u8 (((BitVec.toNat ((BitVec.ofInt 8 (IntKind.wrap .u8 ((IntKind.wrap .u8 a) * (16 : Int)))) ||| (BitVec.ofInt 8 (0 : Int)))) : Nat) : Int)))])) (fun o5 d7 => (rowsOf w0 d7 1 d6 Q (fun o6 => (App w0 d7 1 1 (some (Addr.mk o5 0 none)) 1 1 Q o6 (fun o7 o8 d8 => (rowsOf w0 d8 1 a6 x (fun o9 => (App w0 d8 1 1 o7 (1 + Q) o8 x o9 (fun p0 p1 p2 => (K (Value.tuple #[(slice p0 ((1 + Q) + x) p1), (int .i64 (0 : Int))]) p2)))))))))))))))))) c7))))))) m0)))))))))) c3) ∧ (∀ a8 : Nat, (((ByteArray.size g) ≤ a8) → (newB w0 c3 (AB.cells (intsOf g) a8) (fun p3 p4 => (EvC Proofs.Tryd.prog w0 45 #[(slice c1 (a3 + 2) c2), (int .u64 (IntKind.wrap .u64 p)), (int .i64 (2 : Int))] (fun p5 p6 => (∃ d9 : Option Addr, (∃ e0 : Nat, (∃ e1 : Nat, ((p5 = (slice d9 e0 e1)) ∧ (EvC Proofs.Tryd.prog w0 46 #[(slice d9 e0 e1), (slice (some (Addr.mk p3 0 none)) (ByteArray.size g) a8)] (fun p7 e2 => (∃ a9 : Option Addr, (∃ y : Nat, (∃ e3 : Nat, ((p7 = (slice a9 y e3)) ∧ (brB m (∀ b0 : Nat, (((ByteArray.size c) ≤ b0) → (newB w0 e2 (AB.cells (intsOf c) b0) (fun p8 p9 => (EvC Proofs.Tryd.prog w0 46 #[(slice a9 y e3), (slice (some (Addr.mk p8 0 none)) (ByteArray.size c) b0)] (fun q0 q1 => (∃ e4 : Option Addr, (∃ e5 : Nat, (∃ e6 : Nat, ((q0 = (slice e4 e5 e6)) ∧ (EvC Proofs.Tryd.prog w0 46 #[(slice e4 e5 e6), (slice k b n)] (fun q2 q3 => (∃ e7 : Option Addr, (∃ R : Nat, (∃ q4 : Nat, ((q2 = (slice e7 R q4)) ∧ (EvC Proofs.Tryd.prog w0 21 #[(int .i64 ((R : Nat) : Int))] (fun q5 q6 => (∃ e8 : Option Addr, (∃ T : Nat, (∃ q7 : Nat, (∃ q8 : Int, ((q5 = (Value.tuple #[(slice e8 T q7), (int .i64 q8)])) ∧ (((0 : Int) ≤ (4 : Int)) ∧ (newB w0 q6 (AB.cells [(int .u8 (IntKind.wrap .u8 (((BitVec.toNat ((BitVec.ofInt 8 (IntKind.wrap .u8 ((IntKind.wrap .u8 a) * (16 : Int)))) ||| (BitVec.ofInt 8 (0 : Int)))) : Nat) : Int)))] (List.length [(int .u8 (IntKind.wrap .u8 (((BitVec.toNat ((BitVec.ofInt 8 (IntKind.wrap .u8 ((IntKind.wrap .u8 a) * (16 : Int)))) ||| (BitVec.ofInt 8 (0 : Int)))) : Nat) : Int)))])) (fun q9 e9 => (rowsOf w0 e9 1 e8 T (fun r0 => (App w0 e9 1 1 (some (Addr.mk q9 0 none)) 1 1 T r0 (fun r1 r2 g0 => (rowsOf w0 g0 1 e7 R (fun r3 => (App w0 g0 1 1 r1 (1 + T) r2 R r3 (fun r4 r5 r6 => (K (Value.tuple #[(slice r4 ((1 + T) + R) r5), (int .i64 (0 : Int))]) r6)))))))))))))))))) q3)))))) q1)))))) p9))))) (EvC Proofs.Tryd.prog w0 21 #[(int .i64 ((y : Nat) : Int))] (fun r7 r8 => (∃ g1 : Option Addr, (∃ U : Nat, (∃ r9 : Nat, (∃ s0 : Int, ((r7 = (Value.tuple #[(slice g1 U r9), (int .i64 s0)])) ∧ (((0 : Int) ≤ (4 : Int)) ∧ (newB w0 r8 (AB.cells [(int .u8 (IntKind.wrap .u8 (((BitVec.toNat ((BitVec.ofInt 8 (IntKind.wrap .u8 ((IntKind.wrap .u8 a) * (16 : Int)))) ||| (BitVec.ofInt 8 (0 : Int)))) : Nat) : Int)))] (List.length [(int .u8 (IntKind.wrap .u8 (((BitVec.toNat ((BitVec.ofInt 8 (IntKind.wrap .u8 ((IntKind.wrap .u8 a) * (16 : Int)))) ||| (BitVec.ofInt 8 (0 : Int)))) : Nat) : Int)))])) (fun s1 g2 => (rowsOf w0 g2 1 g1 U (fun s2 => (App w0 g2 1 1 (some (Addr.mk s1 0 none)) 1 1 U s2 (fun s3 s4 g3 => (rowsOf w0 g3 1 a9 y (fun s5 => (App w0 g3 1 1 s3 (1 + U) s4 y s5 (fun s6 s7 s8 => (K (Value.tuple #[(slice s6 ((1 + U) + y) s7), (int .i64 (0 : Int))]) s8)))))))))))))))))) e2))))))) p6)))))) p4))))))))))) k4)))) k2)))) k0)))))) i7)))) (brB (a == (2 : Int)) (EvC Proofs.Tryd.prog w0 47 #[(bool t), (int .u8 (1 : Int))] (fun s9 t0 => (∃ g4 : Int, ((s9 = (int .u8 g4)) ∧ (EvC Proofs.Tryd.prog w0 21 #[(int .i64 (2 : Int))] (fun t1 t2 => (∃ g5 : Option Addr, (∃ V : Nat, (∃ t3 : Nat, (∃ t4 : Int, ((t1 = (Value.tuple #[(slice g5 V t3), (int .i64 t4)])) ∧ (((0 : Int) ≤ (4 : Int)) ∧ (newB w0 t2 (AB.cells [(int .u8 (IntKind.wrap .u8 (((BitVec.toNat ((BitVec.ofInt 8 (IntKind.wrap .u8 ((IntKind.wrap .u8 a) * (16 : Int)))) ||| (BitVec.ofInt 8 (0 : Int)))) : Nat) : Int)))] (List.length [(int .u8 (IntKind.wrap .u8 (((BitVec.toNat ((BitVec.ofInt 8 (IntKind.wrap .u8 ((IntKind.wrap .u8 a) * (16 : Int)))) ||| (BitVec.ofInt 8 (0 : Int)))) : Nat) : Int)))])) (fun t5 g6 => (rowsOf w0 g6 1 g5 V (fun t6 => (App w0 g6 1 1 (some (Addr.mk t5 0 none)) 1 1 V t6 (fun t7 t8 t9 => (App w0 t9 1 1 t7 (1 + V) t8 2 [(int .u8 g4), (int .u8 (IntKind.wrap .u8 u))] (fun u0 u1 u2 => (K (Value.tuple #[(slice u0 ((1 + V) + 2) u1), (int .i64 (0 : Int))]) u2)))))))))))))))) t0)))) v) (brB (a == (3 : Int)) (((0 : Int) ≤ (1 : Int)) ∧ (EvC Proofs.Tryd.prog w0 47 #[(bool r), (int .u8 (8 : Int))] (fun u3 u4 => (∃ Y : Int, ((u3 = (int .u8 Y)) ∧ (EvC Proofs.Tryd.prog w0 47 #[(bool o), (int .u8 (1 : Int))] (fun u5 u6 => (∃ Z : Int, ((u5 = (int .u8 Z)) ∧ (∀ b1 : Nat, (((ByteArray.size c) ≤ b1) → (newB w0 u6 (AB.cells (intsOf c) b1) (fun u7 u9 => (EvC Proofs.Tryd.prog w0 46 #[(slice none 0 0), (slice (some (Addr.mk u7 0 none)) (ByteArray.size c) b1)] (fun v0 a4 => (∃ b2 : Option Addr, (∃ d : Nat, (∃ b3 : Nat, ((v0 = (slice b2 d b3)) ∧ (brB (decide (((0 : Int) < e))) (rowsOf w0 a4 1 L i (fun v1 => (App w0 a4 1 1 b2 d b3 i v1 (fun v2 v3 g7 => (rowsOf w0 g7 1 k b (fun v4 => (App w0 g7 1 1 v2 (d + i) v3 b v4 (fun v5 z4 v6 => (EvC Proofs.Tryd.prog w0 21 #[(int .i64 ((((d + i) + b) : Nat) : Int))] (fun v7 v8 => (∃ g8 : Option Addr, (∃ a0 : Nat, (∃ v9 : Nat, (∃ x0 : Int, ((v7 = (Value.tuple #[(slice g8 a0 v9), (int .i64 x0)])) ∧ (((0 : Int) ≤ (4 : Int)) ∧ (newB w0 v8 (AB.cells [(int .u8 (IntKind.wrap .u8 (((BitVec.toNat ((BitVec.ofInt 8 (IntKind.wrap .u8 ((IntKind.wrap .u8 a) * (16 : Int)))) ||| (BitVec.ofInt 8 (IntKind.wrap .u8 (((BitVec.toNat ((BitVec.ofInt 8 (IntKind.wrap .u8 (((BitVec.toNat ((BitVec.ofInt 8 Y) ||| (BitVec.ofInt 8 (IntKind.wrap .u8 ((IntKind.wrap .u8 e) * (2 : Int)))))) : Nat) : Int))) ||| (BitVec.ofInt 8 Z))) : Nat) : Int))))) : Nat) : Int)))] (List.length [(int .u8 (IntKind.wrap .u8 (((BitVec.toNat ((BitVec.ofInt 8 (IntKind.wrap .u8 ((IntKind.wrap .u8 a) * (16 : Int)))) ||| (BitVec.ofInt 8 (IntKind.wrap .u8 (((BitVec.toNat ((BitVec.ofInt 8 (IntKind.wrap .u8 (((BitVec.toNat ((BitVec.ofInt 8 Y) ||| (BitVec.ofInt 8 (IntKind.wrap .u8 ((IntKind.wrap .u8 e) * (2 : Int)))))) : Nat) : Int))) ||| (BitVec.ofInt 8 Z))) : Nat) : Int))))) : Nat) : Int)))])) (fun x1 g9 => (rowsOf w0 g9 1 g8 a0 (fun x2 => (App w0 g9 1 1 (some (Addr.mk x1 0 none)) 1 1 a0 x2 (fun x3 x4 i0 => (rowsOf w0 i0 1 v5 ((d + i) + b) (fun x5 => (App w0 i0 1 1 x3 (1 + a0) x4 ((d + i) + b) x5 (fun x6 x7 x8 => (K (Value.tuple #[(slice x6 ((1 + a0) + ((d + i) + b)) x7), (int .i64 (0 : Int))]) x8)))))))))))))))))) v6))))))))) (rowsOf w0 a4 1 k b (fun x9 => (App w0 a4 1 1 b2 d b3 b x9 (fun y0 z5 y1 => (EvC Proofs.Tryd.prog w0 21 #[(int .i64 (((d + b) : Nat) : Int))] (fun y2 y3 => (∃ i1 : Option Addr, (∃ a1 : Nat, (∃ y4 : Nat, (∃ y5 : Int, ((y2 = (Value.tuple #[(slice i1 a1 y4), (int .i64 y5)])) ∧ (((0 : Int) ≤ (4 : Int)) ∧ (newB w0 y3 (AB.cells [(int .u8 (IntKind.wrap .u8 (((BitVec.toNat ((BitVec.ofInt 8 (IntKind.wrap .u8 ((IntKind.wrap .u8 a) * (16 : Int)))) ||| (BitVec.ofInt 8 (IntKind.wrap .u8 (((BitVec.toNat ((BitVec.ofInt 8 (IntKind.wrap .u8 (((BitVec.toNat ((BitVec.ofInt 8 Y) ||| (BitVec.ofInt 8 (IntKind.wrap .u8 ((IntKind.wrap .u8 e) * (2 : Int)))))) : Nat) : Int))) ||| (BitVec.ofInt 8 Z))) : Nat) : Int))))) : Nat) : Int)))] (List.length [(int .u8 (IntKind.wrap .u8 (((BitVec.toNat ((BitVec.ofInt 8 (IntKind.wrap .u8 ((IntKind.wrap .u8 a) * (16 : Int)))) ||| (BitVec.ofInt 8 (IntKind.wrap .u8 (((BitVec.toNat ((BitVec.ofInt 8 (IntKind.wrap .u8 (((BitVec.toNat ((BitVec.ofInt 8 Y) ||| (BitVec.ofInt 8 (IntKind.wrap .u8 ((IntKind.wrap .u8 e) * (2 : Int)))))) : Nat) : Int))) ||| (BitVec.ofInt 8 Z))) : Nat) : Int))))) : Nat) : Int)))])) (fun y6 i2 => (rowsOf w0 i2 1 i1 a1 (fun y7 => (App w0 i2 1 1 (some (Addr.mk y6 0 none)) 1 1 a1 y7 (fun y8 y9 i3 => (rowsOf w0 i3 1 y0 (d + b) (fun z0 => (App w0 i3 1 1 y8 (1 + a1) y9 (d + b) z0 (fun z1 z2 z3 => (K (Value.tuple #[(slice z1 ((1 + a1) + (d + b)) z2), (int .i64 (0 : Int))]) z3)))))))))))))))))) y1))))))))))) u9)))))))) u4)))) v)) (brB (a == (12 : Int)) (f18_7 w0 K (0 : Int) none 0 0 L i a2 true a q r c k b n e o z g s p m t u A B C D E F v) (brB (a == (13 : Int)) (f18_7 w0 K (0 : Int) none 0 0 L i a2 true a q r c k b n e o z g s p m t u A B C D E F v) (f18_7 w0 K (0 : Int) none 0 0 L i a2 (a == (14 : Int)) a q r c k b n e o z g s p m t u A B C D E F v))))))))))) b4))))) h)) :
  EvC Proofs.Tryd.prog w0 18 ([(.agg #[(.int .i64 a), (.int .i64 q), (.bool r), (.string c), (.slice k b n), (.int .i64 e), (.bool o), (.int .i64 z), (.string g), (.bool s), (.int .i64 p), (.bool m), (.bool t), (.int .i64 u), (.slice A B C), (.slice D E F)])]).toArray K h := EvC_intro (P := Proofs.Tryd.prog) f18_J (Eq.mp (by kernel_rfl) hv)
section
variable {w0 : World} {K : Value → AH → Prop} {h : AH} {X : List (Nat × AB)}
/-- Encode, the document's. -/
theorem f18_spec {m : PkM} (w : Own w0 h X) (rm : ∀ h', Own w0 h' X → PkRd w0 h' m)
    (h1 : MayK m.key → ∀ h' a c, SlV 1 a (encP m.key).length c (u8s (encP m.key)) → Own w0 h' (slB a (u8s (encP m.key)) (c * 1) ++ X) → K (.tuple #[.slice a (encP m.key).length c, .int .i64 0]) h')
    (h0 : ¬ MayK m.key → ∀ h', Own w0 h' X → K (.tuple #[.slice none 0 0, .int .i64 1]) h') : EvC Go.Proofs.Tryd.prog w0 18 #[m.agg] K h := by
  refine f18_go _ _ _ _ _ _ _ _ _ _ _ _ _ _ _ _ _ _ _ _ _ _ _ (f24_spec w rm (fun hm h2 w2 => ⟨_, rfl, brB_of (fun z => by cases z) fun _ => ?_⟩) fun nm h2 w2 => ⟨_, rfl, brB_of (fun _ => h0 nm h2 w2) fun z => by cases z⟩)
  have hl := rest_le hm
  have hf := rest_fl hm
  have h1 := h1 hm
  have hid : 0 ≤ m.id ∧ m.id ≤ 65535 := by
    by_cases c : (4 ≤ m.kind ∧ m.kind ≤ 11) ∨ (m.kind = 3 ∧ m.qos ≠ 0)
    · have : 1 ≤ m.id ∧ m.id ≤ 65535 := hm.id.1 c
      omega
    · have : m.id = 0 := hm.id.2 c
      omega
  have hkind : 1 ≤ m.kind ∧ m.kind ≤ 14 := ⟨hm.kind.1, hm.kind.2.1⟩
  obtain ⟨kd, hke⟩ : ∃ q : Nat, m.kind = ((q : Nat) : Int) := ⟨m.kind.toNat, by omega⟩
  have hk16 : kd < 16 := by omega
  have ee : encP m.key = UInt8.ofNat (kd * 16 + (restP m.key).2) :: (putV (restP m.key).1.length ++ (restP m.key).1) := by
    unfold encP
    have : m.key.kind.toNat = kd := by show m.kind.toNat = kd; omega
    rw [this]
  rw [ee] at h1
  obtain ⟨id, hie⟩ : ∃ q : Nat, m.id = ((q : Nat) : Int) := ⟨m.id.toNat, by omega⟩
  have idn : m.id.toNat = id := by omega
  have f2 : ∀ n, (fixedV n 2).length = 2 := fun n => fixedV_len n 2
  have er : restP m.key = (if m.kind = 1 then (textP mqttL ++ [4, UInt8.ofNat (bitV m.ret 32 + m.qos.toNat * 8 + bitV m.will 4 + bitV m.clean 2)] ++ fixedV m.alive.toNat 2 ++ textP m.client.data.toList ++ (if m.will then textP m.topic.data.toList ++ textP m.pay else []), 0)
      else if m.kind = 2 then ([UInt8.ofNat (bitV m.present 1), UInt8.ofNat m.code.toNat], 0)
      else if m.kind = 3 then (textP m.topic.data.toList ++ (if 0 < m.qos then fixedV id 2 else []) ++ m.pay, bitV m.dup 8 + m.qos.toNat * 2 + bitV m.ret 1)
      else if m.kind = 8 then (fixedV id 2 ++ m.wants.flatMap fun w => textP w.filter.data.toList ++ [UInt8.ofNat w.qos.toNat], 2)
      else if m.kind = 10 then (fixedV id 2 ++ m.wants.flatMap fun w => textP w.filter.data.toList, 2)
      else if m.kind = 9 then (fixedV id 2 ++ m.codes.map fun c => UInt8.ofNat c.toNat, 0)
      else if m.kind = 6 then (fixedV id 2, 2)
      else if 12 ≤ m.kind then ([], 0)
      else (fixedV id 2, 0)) := by
    have w1 := wants_flat (m := m) (f := fun w => textP w.filter.data.toList ++ [UInt8.ofNat w.qos.toNat]) (g := fun w => textP w.1.data.toList ++ [UInt8.ofNat w.2.toNat]) fun _ => rfl
    have w2 := wants_flat (m := m) (f := fun w => textP w.filter.data.toList) (g := fun w => textP w.1.data.toList) fun _ => rfl
    have e1 : restP m.key = (if m.kind = 1 then (textP mqttL ++ [4, UInt8.ofNat (bitV m.ret 32 + m.qos.toNat * 8 + bitV m.will 4 + bitV m.clean 2)] ++ fixedV m.alive.toNat 2 ++ textP m.client.data.toList ++ (if m.will then textP m.topic.data.toList ++ textP m.pay else []), 0)
      else if m.kind = 2 then ([UInt8.ofNat (bitV m.present 1), UInt8.ofNat m.code.toNat], 0)
      else if m.kind = 3 then (textP m.topic.data.toList ++ (if 0 < m.qos then fixedV m.id.toNat 2 else []) ++ m.pay, bitV m.dup 8 + m.qos.toNat * 2 + bitV m.ret 1)
      else if m.kind = 8 then (fixedV m.id.toNat 2 ++ (m.wants.map WantM.key).flatMap fun w => textP w.1.data.toList ++ [UInt8.ofNat w.2.toNat], 2)
      else if m.kind = 10 then (fixedV m.id.toNat 2 ++ (m.wants.map WantM.key).flatMap fun w => textP w.1.data.toList, 2)
      else if m.kind = 9 then (fixedV m.id.toNat 2 ++ m.codes.map fun c => UInt8.ofNat c.toNat, 0)
      else if m.kind = 6 then (fixedV m.id.toNat 2, 2)
      else if 12 ≤ m.kind then ([], 0)
      else (fixedV m.id.toNat 2, 0)) := rfl
    rw [e1, w1, w2, idn]
  rw [hie, wrap64u (n := ((id : Nat) : Int)) (by omega) (by omega)]
  refine f45_spec (l := []) SlV.nil (B := X) w2 (by simp) fun h3 p1 c1 v1 w1 => ⟨_, _, _, rfl, ?_⟩
  rw [List.nil_append] at v1 w1 ⊢
  refine brB_of (fun k1 => ?_) fun k1 => brB_of (fun k2 => ?_) fun k2 => brB_of (fun k3 => ?_) fun k3 => ?_
  · have k1 : m.kind = 1 := by simpa using k1
    rw [er, if_pos k1] at h1 hl
    have hc := hm.con.1 k1
    have hq : 0 ≤ m.qos ∧ m.qos ≤ 2 := by
      by_cases c : m.will = true
      · have := (hm.msg.1 (.inr ⟨k1, c⟩)).2.2; exact this
      · have := (hm.msg.2 (fun y => by rcases y with y | y; · (have : m.kind = 3 := y); omega
                                       · exact c y.2)).2.2.1
        have : m.qos = 0 := this
        omega
    have ha : 0 ≤ m.alive ∧ m.alive ≤ 65535 := ⟨hc.1, hc.2.1⟩
    have cl : m.client.data.toList.length ≤ 64 := by rw [slen]; exact hc.2.2.1
    obtain ⟨q, hqe⟩ : ∃ q : Nat, m.qos = ((q : Nat) : Int) := ⟨m.qos.toNat, by omega⟩
    obtain ⟨al, hae⟩ : ∃ q : Nat, m.alive = ((q : Nat) : Int) := ⟨m.alive.toNat, by omega⟩
    have qn : m.qos.toNat = q := by omega
    have an : m.alive.toNat = al := by omega
    have tm : (textP mqttL).length = 6 := by rw [textP_len]; rfl
    rw [qn, an] at h1 hl
    refine ⟨by decide, fun b4 hb4 hn4 => ?_⟩
    have w4 := Own.new (o := .cells (u8s mqttL) 4) w1.drop hb4 hn4
    refine f46_spec (l := []) (x := mqttL) SlV.nil (B := (b4, .cells (u8s mqttL) 4) :: X) w4 (fun h' C w' => ?_) (by simp) (by decide) fun h5 a5 c5 v5 w5 => ⟨_, _, _, rfl, ?_⟩
    · have hmm := w'.mem (List.mem_append_right C (List.mem_cons_self ..))
      exact fun j y hj => ⟨_, rfl, own_cell hmm.1 hmm.2 hj⟩
    rw [List.nil_append] at v5 w5 ⊢
    have w5 := Own.cut (ds := [_]) w5
    refine f47_spec (n := 32) rfl ⟨_, rfl, f47_spec (n := 4) rfl ⟨_, rfl, f47_spec (n := 2) rfl ⟨_, rfl, ?_⟩⟩⟩
    obtain ⟨f1, f22, f3, f4⟩ := con_flags m.ret m.will m.clean q (by omega)
    rw [hqe, mul8 (k := 8) (z := 8) rfl (by omega) (by omega), or8 (bitV_lt (by decide)) (by omega) f22, or8 f22 (bitV_lt (by decide)) f3, or8 f3 (bitV_lt (by decide)) (by rw [f1]; omega), f1]
    have eu : u8s [4, UInt8.ofNat (bitV m.ret 32 + q * 8 + bitV m.will 4 + bitV m.clean 2)] = [.int .u8 4, .int .u8 ((bitV m.ret 32 + q * 8 + bitV m.will 4 + bitV m.clean 2 : Nat) : Int)] := by
      simp only [u8s, List.map_cons, List.map_nil, UInt8.toNat_ofNat']
      rw [Nat.mod_eq_of_lt (by omega)]; rfl
    rw [← eu]
    refine App_bytes (x := [4, UInt8.ofNat (bitV m.ret 32 + q * 8 + bitV m.will 4 + bitV m.clean 2)]) v5 w5 (by simp [tm]) fun a6 c6 h6 v6 w6 => ?_
    rw [show (textP mqttL).length + 2 = (textP mqttL ++ [4, UInt8.ofNat (bitV m.ret 32 + q * 8 + bitV m.will 4 + bitV m.clean 2)]).length by simp, hae, wrap64u (n := ((al : Nat) : Int)) (by omega) (by omega)]
    have l6 : (textP mqttL ++ [4, UInt8.ofNat (bitV m.ret 32 + q * 8 + bitV m.will 4 + bitV m.clean 2)]).length = 8 := by simp [tm]
    generalize textP mqttL ++ [4, UInt8.ofNat (bitV m.ret 32 + q * 8 + bitV m.will 4 + bitV m.clean 2)] = L6 at *
    have tail : ∀ h' a c (L : List UInt8) , L = L6 ++ fixedV al 2 ++ textP m.client.data.toList ++ (if m.will then textP m.topic.data.toList ++ textP m.pay else []) → SlV 1 a L.length c (u8s L) → Own w0 h' (slB a (u8s L) (c * 1) ++ X) → _ := fun h' a c L hL v w => tail18o (K := K) (m := m) (kd := kd) (fl := 0) (F := 0) (N := L.length) rfl hke hk16 rfl (by decide) (by rw [hL]; exact hl) v w (by rw [hL]; exact h1)
    -- behind the client's name
    have behind : ∀ h' a c, SlV 1 a (L6 ++ fixedV al 2 ++ textP m.client.data.toList).length c (u8s (L6 ++ fixedV al 2 ++ textP m.client.data.toList)) → Own w0 h' (slB a (u8s (L6 ++ fixedV al 2 ++ textP m.client.data.toList)) (c * 1) ++ X) → _ := fun h' a c v w => brB_of (t := m.will)
      (A := ∀ n, m.topic.size ≤ n → newB w0 h' (.cells (intsOf m.topic) n) fun b h'' => EvC Go.Proofs.Tryd.prog w0 46 #[.slice a (L6 ++ fixedV al 2 ++ textP m.client.data.toList).length c, .slice (some ⟨b, 0, none⟩) m.topic.size n] (fun x h44 => ∃ (p : Option Addr) (n d : Nat), x = .slice p n d ∧ EvC Go.Proofs.Tryd.prog w0 46 #[.slice p n d, .slice m.pa m.pay.length m.pc] (fun x h49 => ∃ (p : Option Addr) (n d : Nat), x = .slice p n d ∧ EvC Go.Proofs.Tryd.prog w0 21 #[.int .i64 ((n : Nat) : Int)] (fun x h54 => ∃ (p2 : Option Addr) (n2 d2 : Nat) (i : Int), x = .tuple #[.slice p2 n2 d2, .int .i64 i] ∧ (0 : Int) ≤ 4 ∧
      newB w0 h54 (.cells [.int .u8 (IntKind.u8.wrap (((BitVec.toNat ((BitVec.ofInt 8 (IntKind.u8.wrap ((IntKind.u8.wrap m.kind) * (16 : Int)))) ||| (BitVec.ofInt 8 (0 : Int)))) : Nat) : Int))] (List.length [Value.int .u8 (IntKind.u8.wrap (((BitVec.toNat ((BitVec.ofInt 8 (IntKind.u8.wrap ((IntKind.u8.wrap m.kind) * (16 : Int)))) ||| (BitVec.ofInt 8 (0 : Int)))) : Nat) : Int))])) fun b h60 =>
        rowsOf w0 h60 1 p2 n2 fun ys => App w0 h60 1 1 (some ⟨b, 0, none⟩) 1 1 n2 ys fun a62 c63 h64 => rowsOf w0 h64 1 p n fun ys2 => App w0 h64 1 1 a62 (1 + n2) c63 n ys2 fun a66 c67 h68 => K (.tuple #[.slice a66 ((1 + n2) + n) c67, .int .i64 0]) h68) h49) h44) h'') (fun z => ?wA) (fun z => tail h' a c _ (by rw [z]; simp) v w)
    case wA =>
      have hmsg := hm.msg.1 (.inr ⟨k1, z⟩)
      have tl : m.topic.data.toList.length ≤ 64 := by rw [slen]; exact name_le hmsg.1
      have pl : m.pay.length ≤ 256 := hmsg.2.1
      have l7 : (L6 ++ fixedV al 2 ++ textP m.client.data.toList).length ≤ 200 := by simp only [List.length_append, f2, textP_len]; omega
      have := f46_str (K := fun x h44 => ∃ (p : Option Addr) (n d : Nat), x = .slice p n d ∧ EvC Go.Proofs.Tryd.prog w0 46 #[.slice p n d, .slice m.pa m.pay.length m.pc] (fun x h49 => ∃ (p : Option Addr) (n d : Nat), x = .slice p n d ∧ EvC Go.Proofs.Tryd.prog w0 21 #[.int .i64 ((n : Nat) : Int)] (fun x h54 => ∃ (p2 : Option Addr) (n2 d2 : Nat) (i : Int), x = .tuple #[.slice p2 n2 d2, .int .i64 i] ∧ (0 : Int) ≤ 4 ∧
      newB w0 h54 (.cells [.int .u8 (IntKind.u8.wrap (((BitVec.toNat ((BitVec.ofInt 8 (IntKind.u8.wrap ((IntKind.u8.wrap m.kind) * (16 : Int)))) ||| (BitVec.ofInt 8 (0 : Int)))) : Nat) : Int))] (List.length [Value.int .u8 (IntKind.u8.wrap (((BitVec.toNat ((BitVec.ofInt 8 (IntKind.u8.wrap ((IntKind.u8.wrap m.kind) * (16 : Int)))) ||| (BitVec.ofInt 8 (0 : Int)))) : Nat) : Int))])) fun b h60 =>
        rowsOf w0 h60 1 p2 n2 fun ys => App w0 h60 1 1 (some ⟨b, 0, none⟩) 1 1 n2 ys fun a62 c63 h64 => rowsOf w0 h64 1 p n fun ys2 => App w0 h64 1 1 a62 (1 + n2) c63 n ys2 fun a66 c67 h68 => K (.tuple #[.slice a66 ((1 + n2) + n) c67, .int .i64 0]) h68) h49) h44) (x := m.topic.data.toList) v w (by omega) (by omega) fun h8 a8 c8 v8 w8 => ⟨_, _, _, rfl, f46_spec v8 w8 (fun h' C w' => (rm h' w'.drop).pay) (by rw [List.length_append, textP_len]; omega) (by omega) fun h9 a9 c9 v9 w9 => ⟨_, _, _, rfl, tail h9 a9 c9 _ (by rw [if_pos z]; simp only [List.append_assoc]) v9 w9⟩⟩
      rw [toB_data] at this
      exact this
    refine ⟨?_, fun nc hnc bc hbc hbn => ?_⟩
    · refine f45_spec v6 w6 (by omega) fun h7 a7 c7 v7 w7 => ⟨_, _, _, rfl, ?_⟩
      exact f46_strS v7 w7 (by simp only [List.length_append, f2]; omega) (by omega) fun h8 a8 c8 v8 w8 => ⟨_, _, _, rfl, behind h8 a8 c8 v8 w8⟩
    · have wb := Own.new (o := .cells (intsOf m.client) nc) w6 hbc hbn
      have wb2 : Own w0 _ (slB a6 (u8s L6) (c6 * 1) ++ ((bc, .cells (intsOf m.client) nc) :: X)) := Own.front (cs := [_]) (ds := slB a6 (u8s L6) (c6 * 1)) wb
      refine f45_spec v6 wb2 (by omega) fun h7 a7 c7 v7 w7 => ⟨_, _, _, rfl, ?_⟩
      exact f46_specN (x := m.client.data.toList) (slen m.client).symm v7 w7 (fun h' C w' => by
        have hmm := w'.mem (List.mem_append_right C (List.mem_cons_self ..))
        exact fun j y hj => ⟨_, rfl, own_cell hmm.1 hmm.2 hj⟩) (by simp only [List.length_append, f2]; omega) (by omega) fun h8 a8 c8 v8 w8 => ⟨_, _, _, rfl, behind h8 a8 c8 v8 (Own.cut (ds := [_]) w8)⟩
  · have k1 : m.kind ≠ 1 := by simpa using k1
    have k2 : m.kind = 2 := by simpa using k2
    rw [er, if_neg k1, if_pos k2] at h1
    have hc : 0 ≤ m.code ∧ m.code ≤ 5 := ⟨(hm.ack.1 k2).1, (hm.ack.1 k2).2.1⟩
    obtain ⟨cd, hce⟩ : ∃ q : Nat, m.code = ((q : Nat) : Int) := ⟨m.code.toNat, by omega⟩
    have ec : m.code.toNat = cd := by omega
    rw [ec] at h1
    refine f47_spec (n := 1) rfl ⟨_, rfl, ?_⟩
    rw [hce, wrap8s (n := cd) (by omega)]
    have eu : u8s [UInt8.ofNat (bitV m.present 1), UInt8.ofNat cd] = [.int .u8 ((bitV m.present 1 : Nat) : Int), .int .u8 ((cd : Nat) : Int)] := by
      have := bitV_lt (b := m.present) (n := 1) (k := 256) (by decide)
      simp only [u8s, List.map_cons, List.map_nil, UInt8.toNat_ofNat']
      rw [Nat.mod_eq_of_lt (by omega), Nat.mod_eq_of_lt (by omega)]
    rw [← eu]
    have pl := putV_len10 (n := 2) (by omega)
    refine f21_spec (n := 2) w1.drop (by decide) fun h4 a4 c4 v4 w4 => ⟨_, _, _, _, rfl, by decide, fun b hb hn => ?_⟩
    have ex : IntKind.u8.wrap (((BitVec.toNat ((BitVec.ofInt 8 (IntKind.u8.wrap ((IntKind.u8.wrap m.kind) * (16 : Int)))) ||| (BitVec.ofInt 8 (0 : Int)))) : Nat) : Int) = ((kd * 16 + 0 : Nat) : Int) := by
      have := first_or kd 0 hk16 (by decide)
      rw [hke, mul8 (k := 16) (z := 16) rfl (by omega) (by omega), show (0 : Int) = ((0 : Nat) : Int) from rfl, or8 (by omega) (by omega) (by omega), this]
    have eu2 : u8s [UInt8.ofNat (kd * 16 + 0)] = [.int .u8 ((kd * 16 + 0 : Nat) : Int)] := by
      simp only [u8s, List.map_cons, List.map_nil, UInt8.toNat_ofNat']
      rw [Nat.mod_eq_of_lt (by omega)]
    have w5 := Own.new (o := .cells [.int .u8 (IntKind.u8.wrap (((BitVec.toNat ((BitVec.ofInt 8 (IntKind.u8.wrap ((IntKind.u8.wrap m.kind) * (16 : Int)))) ||| (BitVec.ofInt 8 (0 : Int)))) : Nat) : Int))] 1) w4 hb hn
    have w6 := w5.perm (cs := slB (some ⟨b, 0, none⟩) (u8s [UInt8.ofNat (kd * 16 + 0)]) (1 * 1) ++ (slB a4 (u8s (putV 2)) (c4 * 1) ++ X)) (List.Perm.of_eq (by rw [eu2, ← ex]; rfl))
    have v6 : SlV 1 (some ⟨b, 0, none⟩) ([UInt8.ofNat (kd * 16 + 0)] : List UInt8).length 1 (u8s [UInt8.ofNat (kd * 16 + 0)]) := ⟨rfl, Nat.le_refl _, rfl, rfl⟩
    refine rowsOf_of (v4.rd w6) (by rw [u8s_length, Nat.mul_one]) (App_bytes v6 w6 (by simp; omega) fun a7 c7 h7 v7 w7 => ?_)
    have w8 := w7.cut
    rw [show 1 + (putV 2).length = ([UInt8.ofNat (kd * 16 + 0)] ++ putV 2).length by simp; omega]
    refine App_bytes (x := [UInt8.ofNat (bitV m.present 1), UInt8.ofNat cd]) v7 w8 (by simp; omega) fun a9 c9 h9 v9 w9 => ?_
    rw [show ([UInt8.ofNat (kd * 16 + 0)] ++ putV 2).length + 2 = (UInt8.ofNat (kd * 16 + 0) :: (putV 2 ++ [UInt8.ofNat (bitV m.present 1), UInt8.ofNat cd])).length by simp]
    exact h1 h9 a9 c9 v9 w9
  · have k1 : m.kind ≠ 1 := by simpa using k1
    have k2 : m.kind ≠ 2 := by simpa using k2
    have k3 : m.kind = 3 := by simpa using k3
    rw [er, if_neg k1, if_neg k2, if_pos k3] at h1 hl
    have hmsg := hm.msg.1 (.inl k3)
    have tl : m.topic.data.toList.length ≤ 64 := by rw [slen]; exact name_le hmsg.1
    have pl : m.pay.length ≤ 256 := hmsg.2.1
    have hq : 0 ≤ m.qos ∧ m.qos ≤ 2 := hmsg.2.2
    obtain ⟨q, hqe⟩ : ∃ q : Nat, m.qos = ((q : Nat) : Int) := ⟨m.qos.toNat, by omega⟩
    have qn : m.qos.toNat = q := by omega
    obtain ⟨f1, f2', f3⟩ := pub_flags m.dup m.ret q (by omega)
    rw [qn] at h1
    refine ⟨by decide, f47_spec (n := 8) rfl ⟨_, rfl, f47_spec (n := 1) rfl ⟨_, rfl, ?_⟩⟩⟩
    have eF : IntKind.u8.wrap (((BitVec.toNat ((BitVec.ofInt 8 (IntKind.u8.wrap (((BitVec.toNat ((BitVec.ofInt 8 ((bitV m.dup 8 : Nat) : Int)) ||| (BitVec.ofInt 8 (IntKind.u8.wrap ((IntKind.u8.wrap m.qos) * (2 : Int)))))) : Nat) : Int))) ||| (BitVec.ofInt 8 ((bitV m.ret 1 : Nat) : Int)))) : Nat) : Int) = ((bitV m.dup 8 + q * 2 + bitV m.ret 1 : Nat) : Int) := by
      rw [hqe, mul8 (k := 2) (z := 2) rfl (by omega) (by omega), or8 (bitV_lt (by decide)) (by omega) f2', or8 f2' (bitV_lt (by decide)) (by rw [f1]; omega), f1]
    refine f46_strS (L := []) SlV.nil (X := slB p1 (u8s (fixedV id 2)) (c1 * 1) ++ X) w1 (by simp) (by omega) fun h4 a4 c4 v4 w4 => ⟨_, _, _, rfl, ?_⟩
    rw [List.nil_append] at v4 w4 ⊢
    have tm : (textP m.topic.data.toList).length = m.topic.data.toList.length + 2 := textP_len _
    refine brB_of (fun z => ?_) fun z => ?_
    · rw [if_pos (of_decide_eq_true z)] at h1 hl
      have rid : Rd w0 h4 p1 (u8s (fixedV id 2)) := v1.rd w4
      refine rowsOf_of rid (by rw [u8s_length, Nat.mul_one]) (App_bytes v4 w4 (by rw [f2]; omega) fun a5 c5 h5 v5 w5 => ?_)
      have rp : Rd w0 h5 m.pa (u8s m.pay) := (rm h5 (Own.drop (cs := slB p1 (u8s (fixedV id 2)) (c1 * 1)) w5.drop)).pay
      rw [show (textP m.topic.data.toList).length + (fixedV id 2).length = (textP m.topic.data.toList ++ fixedV id 2).length from (List.length_append ..).symm]
      refine rowsOf_of rp (by rw [u8s_length, Nat.mul_one]) (App_bytes v5 w5 (by rw [List.length_append, f2]; omega) fun a6 c6 h6 v6 w6 => ?_)
      exact tail18o (L := textP m.topic.data.toList ++ fixedV id 2 ++ m.pay) (List.length_append ..).symm hke hk16 eF f3 hl v6 w6.cut h1
    · rw [if_neg (of_decide_eq_false z), List.append_nil] at h1 hl
      have rp : Rd w0 h4 m.pa (u8s m.pay) := (rm h4 (Own.drop (cs := slB p1 (u8s (fixedV id 2)) (c1 * 1)) w4.drop)).pay
      refine rowsOf_of rp (by rw [u8s_length, Nat.mul_one]) (App_bytes v4 w4 (by omega) fun a6 c6 h6 v6 w6 => ?_)
      exact tail18o (L := textP m.topic.data.toList ++ m.pay) (List.length_append ..).symm hke hk16 eF f3 hl v6 w6.cut h1
  · have k1 : m.kind ≠ 1 := by simpa using k1
    have k2 : m.kind ≠ 2 := by simpa using k2
    have k3 : m.kind ≠ 3 := by simpa using k3
    rw [er, if_neg k1, if_neg k2, if_neg k3] at h1 hl
    rw [← hie]
    have li : (fixedV id 2).length = 2 := f2 id
    have ten : ∀ (fl : Nat) (F : Int), F = ((fl : Nat) : Int) → (m.kind = 6 ∨ m.kind = 8 ∨ m.kind = 10 → fl = 2) → (¬ (m.kind = 6 ∨ m.kind = 8 ∨ m.kind = 10) → fl = 0) → ¬ (12 ≤ m.kind) → f18_10 w0 K F p1 (fixedV id 2).length c1 m.kind m.id m.dup m.topic m.pa m.pay.length m.pc m.qos m.ret m.til m.client m.clean m.alive m.will m.present m.code m.wa m.wants.length m.wc m.ca m.codes.length m.cc h3 := fun fl F hF hf1 hf0 k12 => by
      have hfl : fl < 16 := by
        by_cases c : m.kind = 6 ∨ m.kind = 8 ∨ m.kind = 10
        · rw [hf1 c]; decide
        · rw [hf0 c]; decide
      have eR : (restP m.key) = (fixedV id 2 ++ m.wants.flatMap (fun w => textP w.filter.data.toList ++ (if m.kind = 8 then [UInt8.ofNat w.qos.toNat] else [])) ++ m.codes.map fun c => UInt8.ofNat c.toNat, fl) := by
        rw [er, if_neg k1, if_neg k2, if_neg k3]
        have hw : ¬ (m.kind = 8 ∨ m.kind = 10) → m.wants = [] := fun c => List.map_eq_nil_iff.1 (hm.wants.2.2 c)
        have hcd : m.kind ≠ 9 → m.codes = [] := hm.codes.2
        by_cases k8 : m.kind = 8
        · rw [if_pos k8, hcd (by omega), hf1 (.inr (.inl k8))]
          simp [k8]
        rw [if_neg k8]
        by_cases k10 : m.kind = 10
        · rw [if_pos k10, hcd (by omega), hf1 (.inr (.inr k10))]
          simp [k8]
        rw [if_neg k10, hw (by omega)]
        by_cases k9 : m.kind = 9
        · rw [if_pos k9, hf0 (by omega)]
          simp
        rw [if_neg k9, hcd k9]
        by_cases k6 : m.kind = 6
        · rw [if_pos k6, hf1 (.inl k6)]
          simp
        · rw [if_neg k6, if_neg k12, hf0 (by omega)]
          simp
      rw [er, if_neg k1, if_neg k2, if_neg k3] at eR
      rw [eR] at h1 hl
      dsimp only at h1 hl
      have nw := (rm h3 w1.drop).nw
      have wk : ∀ x ∈ m.wants, filterB x.filter = true ∧ 0 ≤ x.qos ∧ x.qos ≤ 2 := fun x hx => by
        by_cases k8 : m.kind = 8
        · have := (wants_key.1 (hm.wants.1 k8) : WantsC m 2)
          exact this.2.2 x hx
        by_cases k10 : m.kind = 10
        · have := (wants_key.1 (hm.wants.2.1 k10) : WantsC m 0)
          have := this.2.2 x hx
          exact ⟨this.1, this.2.1, by omega⟩
        · have : m.wants = [] := List.map_eq_nil_iff.1 (hm.wants.2.2 (by show ¬ (m.kind = 8 ∨ m.kind = 10); omega))
          rw [this] at hx; cases hx
      have ck : ∀ x ∈ m.codes, (0 ≤ x ∧ x ≤ 2) ∨ x = 128 := fun x hx => by
        by_cases k9 : m.kind = 9
        · exact (hm.codes.1 k9).2.2 x hx
        · have : m.codes = [] := hm.codes.2 k9
          rw [this] at hx; cases hx
      -- the codes
      have codes : ∀ (n i : Nat), i + n = m.codes.length → ∀ h' a c (L : List UInt8), L = fixedV id 2 ++ m.wants.flatMap (fun w => textP w.filter.data.toList ++ (if m.kind = 8 then [UInt8.ofNat w.qos.toNat] else [])) ++ (m.codes.take i).map (fun c => UInt8.ofNat c.toNat) → SlV 1 a L.length c (u8s L) → Own w0 h' (slB a (u8s L) (c * 1) ++ X) → f18_18 w0 K F a L.length c m.ca m.codes.length m.cc ((m.codes.length : Nat) : Int) ((i : Nat) : Int) m.kind m.id m.dup m.topic m.pa m.pay.length m.pc m.qos m.ret m.til m.client m.clean m.alive m.will m.present m.code m.wa m.wants.length m.wc m.ca m.codes.length m.cc h' := fun n => by
        induction n with
        | zero =>
          intro i hi h' a c L hL v' w'
          rw [List.take_of_length_le (by omega)] at hL
          subst hL
          exact f18_18_in _ _ _ _ _ _ _ _ _ _ _ _ _ _ _ _ _ _ _ _ _ _ _ _ _ _ _ _ _ _ _ _ (brB_of (fun z => by have := of_decide_eq_true z; omega) fun _ => tail18o rfl hke hk16 hF hfl hl v' w' h1)
        | succ n ih =>
          intro i hi h' a c L hL v' w'
          have g1 : m.codes[i]? = some m.codes[i] := List.getElem?_eq_getElem _
          have hx := ck _ (List.mem_of_getElem? g1)
          obtain ⟨ad, had, hc⟩ := (rm h' w'.drop).codes _ _ (ints_get g1)
          have et : m.codes.take (i + 1) = m.codes.take i ++ [m.codes[i]] := List.take_succ_eq_append_getElem (by omega)
          have hb : L.length ≤ 1000 := by
            rw [hL]
            refine Nat.le_trans ?_ hl
            simp only [List.length_append, List.length_map, List.length_take]
            omega
          have nc := (rm h' w'.drop).nc
          generalize m.codes[i] = x at *
          obtain ⟨q, hqe⟩ : ∃ q : Nat, x = ((q : Nat) : Int) := ⟨x.toNat, by omega⟩
          subst hqe
          refine f18_18_in _ _ _ _ _ _ _ _ _ _ _ _ _ _ _ _ _ _ _ _ _ _ _ _ _ _ _ _ _ _ _ _ (brB_of (fun _ => ⟨ad, had, by omega, by omega, _, by rw [Int.toNat_natCast, Nat.mul_one]; exact hc, ?_⟩) fun z => by have := of_decide_eq_false z; omega)
          rw [wrap8s (by omega)]
          refine App_byte v' w' (by omega) (by omega) fun a3 c3 h3 v3 w3 => ?_
          rw [len1 _ (UInt8.ofNat q), wrapS (by omega)]
          exact ih (i + 1) (by omega) h3 a3 c3 _ (by rw [et, List.map_append, hL]; simp) v3 w3
      refine f18_10_in _ _ _ _ _ _ _ _ _ _ _ _ _ _ _ _ _ _ _ _ _ _ _ _ _ _ _ ?_
      have loop : ∀ (n i : Nat), i + n = m.wants.length → ∀ h' a c (L : List UInt8), L = fixedV id 2 ++ (m.wants.take i).flatMap (fun w => textP w.filter.data.toList ++ (if m.kind = 8 then [UInt8.ofNat w.qos.toNat] else [])) → SlV 1 a L.length c (u8s L) → Own w0 h' (slB a (u8s L) (c * 1) ++ X) → f18_11 w0 K F a L.length c m.wa m.wants.length m.wc ((m.wants.length : Nat) : Int) ((i : Nat) : Int) m.kind m.id m.dup m.topic m.pa m.pay.length m.pc m.qos m.ret m.til m.client m.clean m.alive m.will m.present m.code m.wa m.wants.length m.wc m.ca m.codes.length m.cc h' := fun n => by
        induction n with
        | zero =>
          intro i hi h' a c L hL v' w'
          rw [List.take_of_length_le (by omega)] at hL
          exact f18_11_in _ _ _ _ _ _ _ _ _ _ _ _ _ _ _ _ _ _ _ _ _ _ _ _ _ _ _ _ _ _ _ _ (brB_of (fun z => by have := of_decide_eq_true z; omega) fun _ => codes m.codes.length 0 (by omega) h' a c L (by rw [hL]; simp) v' w')
        | succ n ih =>
          intro i hi h' a c L hL v' w'
          have g1 : m.wants[i]? = some m.wants[i] := List.getElem?_eq_getElem _
          have hx := wk _ (List.mem_of_getElem? g1)
          obtain ⟨ad, had, hat⟩ := rowLoad (enc := WantM.cells) (k := 2) (fun _ => rfl) (by decide) (rm h' w'.drop).wants g1
          have et : m.wants.take (i + 1) = m.wants.take i ++ [m.wants[i]] := List.take_succ_eq_append_getElem (by omega)
          have hb : L.length ≤ 1000 := by
            rw [hL]
            refine Nat.le_trans ?_ hl
            rw [← List.take_append_drop i m.wants, List.flatMap_append]
            simp only [List.length_append, List.take_append_drop]
            omega
          generalize m.wants[i] = x at *
          have fl' := filter_le hx.1
          rw [← slen] at fl'
          obtain ⟨q, hqe⟩ : ∃ q : Nat, x.qos = ((q : Nat) : Int) := ⟨x.qos.toNat, by omega⟩
          have qn : x.qos.toNat = q := by omega
          refine f18_11_in _ _ _ _ _ _ _ _ _ _ _ _ _ _ _ _ _ _ _ _ _ _ _ _ _ _ _ _ _ _ _ _ (brB_of (fun _ => ⟨ad, had, by omega, by omega, _, _, ⟨rfl, hat⟩, ?_⟩) fun z => by have := of_decide_eq_false z; omega)
          rw [hqe, wrap8s (by omega)]
          have := f46_str (K := fun x241 h242 => ∃ (p : Option Addr) (n d : Nat), x241 = .slice p n d ∧ brB (m.kind == 8) (App w0 h242 1 1 p n d 1 [.int .u8 ((q : Nat) : Int)] fun a246 c247 h248 => f18_11 w0 K F a246 (n + 1) c247 m.wa m.wants.length m.wc ((m.wants.length : Nat) : Int) (IntKind.i64.wrap (((i : Nat) : Int) + 1)) m.kind m.id m.dup m.topic m.pa m.pay.length m.pc m.qos m.ret m.til m.client m.clean m.alive m.will m.present m.code m.wa m.wants.length m.wc m.ca m.codes.length m.cc h248) (f18_11 w0 K F p n d m.wa m.wants.length m.wc ((m.wants.length : Nat) : Int) (IntKind.i64.wrap (((i : Nat) : Int) + 1)) m.kind m.id m.dup m.topic m.pa m.pay.length m.pc m.qos m.ret m.til m.client m.clean m.alive m.will m.present m.code m.wa m.wants.length m.wc m.ca m.codes.length m.cc h242)) (x := x.filter.data.toList) v' w' (by omega) (by omega) fun h2 a2 c2 v2 w2 => ⟨_, _, _, rfl, brB_of (fun z => ?_) fun z => ?_⟩
          · rw [toB_data] at this
            exact this
          · have k8 : m.kind = 8 := by simpa using z
            refine App_byte v2 w2 (by rw [List.length_append, textP_len]; omega) (by omega) fun a3 c3 h3 v3 w3 => ?_
            rw [len1 _ (UInt8.ofNat q), wrapS (by omega)]
            exact ih (i + 1) (by omega) h3 a3 c3 _ (by rw [et, List.flatMap_append, hL]; simp [qn, k8]) v3 w3
          · have k8 : m.kind ≠ 8 := by simpa using z
            rw [wrapS (by omega)]
            exact ih (i + 1) (by omega) h2 a2 c2 _ (by rw [et, List.flatMap_append, hL]; simp [k8]) v2 w2
      exact loop m.wants.length 0 (by omega) h3 p1 c1 _ (by simp) v1 w1
    have nine : ∀ t, (t = true ↔ (m.kind = 6 ∨ m.kind = 8 ∨ m.kind = 10)) → ¬ (12 ≤ m.kind) → f18_9 w0 K 0 p1 (fixedV id 2).length c1 t m.kind m.id m.dup m.topic m.pa m.pay.length m.pc m.qos m.ret m.til m.client m.clean m.alive m.will m.present m.code m.wa m.wants.length m.wc m.ca m.codes.length m.cc h3 := fun t ht k12 =>
      f18_9_in _ _ _ _ _ _ _ _ _ _ _ _ _ _ _ _ _ _ _ _ _ _ _ _ _ _ _ _ (brB_of (fun z => ten 2 2 rfl (fun _ => rfl) (fun c => absurd (ht.1 z) c) k12) fun z => ten 0 0 rfl (fun c => by rw [ht.2 c] at z; cases z) (fun _ => rfl) k12)
    have seven : ∀ t, (t = true ↔ 12 ≤ m.kind) → f18_7 w0 K 0 none 0 0 p1 (fixedV id 2).length c1 t m.kind m.id m.dup m.topic m.pa m.pay.length m.pc m.qos m.ret m.til m.client m.clean m.alive m.will m.present m.code m.wa m.wants.length m.wc m.ca m.codes.length m.cc h3 := fun t ht => by
      refine f18_7_in _ _ _ _ _ _ _ _ _ _ _ _ _ _ _ _ _ _ _ _ _ _ _ _ _ _ _ _ _ _ _ (brB_of (fun z => ?_) fun z => ?_)
      · have k := ht.1 z
        rw [if_neg (by omega), if_neg (by omega), if_neg (by omega), if_neg (by omega), if_pos k] at h1
        exact tail18o (L := []) rfl hke hk16 rfl (by decide) (by simp) SlV.nil (X := X) w1.drop h1
      · have k : ¬ (12 ≤ m.kind) := fun c => by rw [ht.2 c] at z; cases z
        refine brB_of (fun k6 => nine _ ?_ k) fun k6 => brB_of (fun k8 => nine _ ?_ k) fun k8 => nine _ ?_ k
        · have : m.kind = 6 := by simpa using k6
          simp [this]
        · have : m.kind = 8 := by simpa using k8
          simp [this]
        · have : m.kind ≠ 6 := by simpa using k6
          have : m.kind ≠ 8 := by simpa using k8
          simp
          omega
    refine brB_of (fun k => seven _ ?_) fun k12 => brB_of (fun k => seven _ ?_) fun k13 => seven _ ?_
    · have : m.kind = 12 := by simpa using k
      simp [this]
    · have : m.kind = 13 := by simpa using k
      simp [this]
    · have : m.kind ≠ 12 := by simpa using k12
      have : m.kind ≠ 13 := by simpa using k13
      simp
      omega
end
end Go.G.YtciepfobnaemmaaDoor
