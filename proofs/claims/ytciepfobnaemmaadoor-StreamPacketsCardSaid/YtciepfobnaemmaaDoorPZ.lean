/- connect, as bytes; Encode. -/
import Derived.Test.YtciepfobnaemmaaDoorPS
import Derived.Test.YtciepfobnaemmaaDoorPV
import Derived.Test.YtciepfobnaemmaaDoorProg
set_option maxRecDepth 100000
namespace Go.G.YtciepfobnaemmaaDoor
open Go.RowKit
open Value (string slice int bool agg)
def f74_J : Nat → List Nat × Nat := jOf []



theorem f74_go {w0 : World} {K : Value → AH → Prop} (a0 a1 : Int) (a2 : Bool) (g : ByteArray) (i : Option Addr) (k a3 : Nat) (n : Int) (o : Bool) (a4 : Int) (p : ByteArray) (q : Bool) (r : Int) (m a5 : Bool) (a6 : Int) (a7 : Option Addr) (a8 a9 : Nat) (b0 : Option Addr) (b1 b2 : Nat) (h : AH)
  (hv : (EvC Proofs.Tryd.prog w0 76 #[(slice none 0 0), (string (ByteArray.mk #[(77 : UInt8), (81 : UInt8), (84 : UInt8), (84 : UInt8)]))] (fun b3 b4 => (∃ s : Option Addr, (∃ a : Nat, (∃ t : Nat, ((b3 = (slice s a t)) ∧ (App w0 b4 1 1 s a t 1 [(int .u8 (4 : Int))] (fun b5 b6 b7 => (((0 : Int) ≤ (3 : Int)) ∧ (EvC Proofs.Tryd.prog w0 75 #[(bool o), (int .u8 (32 : Int))] (fun b8 b9 => (∃ u : Int, ((b8 = (int .u8 u)) ∧ (EvC Proofs.Tryd.prog w0 75 #[(bool m), (int .u8 (4 : Int))] (fun c0 c1 => (∃ v : Int, ((c0 = (int .u8 v)) ∧ (EvC Proofs.Tryd.prog w0 75 #[(bool q), (int .u8 (2 : Int))] (fun c2 c3 => (∃ x : Int, ((c2 = (int .u8 x)) ∧ (App w0 c3 1 1 b5 (a + 1) b6 1 [(int .u8 (IntKind.wrap .u8 (((BitVec.toNat ((BitVec.ofInt 8 (IntKind.wrap .u8 (((BitVec.toNat ((BitVec.ofInt 8 (IntKind.wrap .u8 (((BitVec.toNat ((BitVec.ofInt 8 u) ||| (BitVec.ofInt 8 (IntKind.wrap .u8 ((IntKind.wrap .u8 n) * (8 : Int)))))) : Nat) : Int))) ||| (BitVec.ofInt 8 v))) : Nat) : Int))) ||| (BitVec.ofInt 8 x))) : Nat) : Int)))] (fun c4 c5 c6 => (EvC Proofs.Tryd.prog w0 73 #[(slice c4 ((a + 1) + 1) c5), (int .u64 (IntKind.wrap .u64 r)), (int .i64 (2 : Int))] (fun c7 c8 => (∃ y : Option Addr, (∃ z : Nat, (∃ A : Nat, ((c7 = (slice y z A)) ∧ (EvC Proofs.Tryd.prog w0 76 #[(slice y z A), (string p)] (fun c9 b => (∃ c : Option Addr, (∃ d : Nat, (∃ e : Nat, ((c9 = (slice c d e)) ∧ (brB m ((EvC Proofs.Tryd.prog w0 76 #[(slice c d e), (string g)] (fun d0 B => (∃ C : Option Addr, (∃ D : Nat, (∃ E : Nat, ((d0 = (slice C D E)) ∧ (rowsOf w0 B 1 i k (fun d1 => (∃ F : ByteArray, ((d1 = (intsOf F)) ∧ (EvC Proofs.Tryd.prog w0 76 #[(slice C D E), (string F)] (fun d2 d3 => (∃ L : Option Addr, (∃ M : Nat, (∃ N : Nat, ((d2 = (slice L M N)) ∧ (K (slice L M N) d3)))))) B)))))))))) b) ∧ (rowsOf w0 b 1 i k (fun d4 => (∃ Q : ByteArray, ((d4 = (intsOf Q)) ∧ (EvC Proofs.Tryd.prog w0 76 #[(slice c d e), (string g)] (fun d5 d6 => (∃ R : Option Addr, (∃ T : Nat, (∃ U : Nat, ((d5 = (slice R T U)) ∧ (EvC Proofs.Tryd.prog w0 76 #[(slice R T U), (string Q)] (fun d7 d8 => (∃ V : Option Addr, (∃ Y : Nat, (∃ Z : Nat, ((d7 = (slice V Y Z)) ∧ (K (slice V Y Z) d8)))))) d6)))))) b)))))) (K (slice c d e) b))))))) c8)))))) c6)))))) c1)))) b9)))) b7))))))))) h)) :
  EvC Proofs.Tryd.prog w0 74 ([(.agg #[(.int .i64 a0), (.int .i64 a1), (.bool a2), (.string g), (.slice i k a3), (.int .i64 n), (.bool o), (.int .i64 a4), (.string p), (.bool q), (.int .i64 r), (.bool m), (.bool a5), (.int .i64 a6), (.slice a7 a8 a9), (.slice b0 b1 b2)])]).toArray K h := EvC_intro (P := Proofs.Tryd.prog) f74_J (Eq.mp (by kernel_rfl) hv)
/-! ### a packet as bytes: the program's -/
theorem or8 {a b : Nat} (ha : a < 256) (hb : b < 256) (h : a ||| b < 256) : IntKind.u8.wrap (((BitVec.toNat ((BitVec.ofInt 8 ((a : Nat) : Int)) ||| (BitVec.ofInt 8 ((b : Nat) : Int)))) : Nat) : Int) = ((a ||| b : Nat) : Int) := by
  rw [ofInt_nat, ofInt_nat, BitVec.toNat_or, BitVec.toNat_ofNat, BitVec.toNat_ofNat, Nat.mod_eq_of_lt (by omega), Nat.mod_eq_of_lt (by omega), wrap8, Nat.mod_eq_of_lt h]
theorem wrap8s {n : Nat} (h : n < 256) : IntKind.u8.wrap ((n : Nat) : Int) = ((n : Nat) : Int) := by rw [wrap8, Nat.mod_eq_of_lt h]
theorem mul8 {n k : Nat} {z : Int} (hz : z = ((k : Nat) : Int)) (h : n * k < 256) (hn : n < 256) : IntKind.u8.wrap ((IntKind.u8.wrap ((n : Nat) : Int)) * z) = ((n * k : Nat) : Int) := by
  subst hz
  rw [wrap8s hn, ← Int.natCast_mul, wrap8s h]
theorem con_flags : ∀ (r v c : Bool) (q : Nat), q ≤ 2 → (((bitV r 32 ||| q * 8) ||| bitV v 4) ||| bitV c 2) = bitV r 32 + q * 8 + bitV v 4 + bitV c 2 ∧ (bitV r 32 ||| q * 8) < 256 ∧ ((bitV r 32 ||| q * 8) ||| bitV v 4) < 256 ∧ bitV r 32 + q * 8 + bitV v 4 + bitV c 2 < 64 := by
  intro r v c q hq
  have : q = 0 ∨ q = 1 ∨ q = 2 := by omega
  rcases this with rfl | rfl | rfl <;> cases r <;> cases v <;> cases c <;> decide
theorem pub_flags : ∀ (d r : Bool) (q : Nat), q ≤ 2 → ((bitV d 8 ||| q * 2) ||| bitV r 1) = bitV d 8 + q * 2 + bitV r 1 ∧ (bitV d 8 ||| q * 2) < 256 ∧ bitV d 8 + q * 2 + bitV r 1 < 16 := by
  intro d r q hq
  have : q = 0 ∨ q = 1 ∨ q = 2 := by omega
  rcases this with rfl | rfl | rfl <;> cases d <;> cases r <;> decide
theorem bitV_lt {b : Bool} {n k : Nat} (h : n < k) : bitV b n < k := by
  unfold bitV; split
  · exact h
  · omega
theorem first_or : ∀ (k f : Nat), k < 16 → f < 16 → (k * 16 ||| f) = k * 16 + f := by
  intro k f hk hf
  exact or_add (m := k) (y := f) (k := 4) (by omega)
theorem rest_fl {k : Pk} (h : MayK k) : (restP k).2 < 16 := by
  unfold restP
  split
  · exact (by decide : 0 < 16)
  split
  · exact (by decide : 0 < 16)
  split
  · rename_i k3
    have := (h.msg.1 (.inl k3)).2.2
    exact (pub_flags k.dup k.ret k.qos.toNat (by omega)).2.2
  split
  · exact (by decide : 2 < 16)
  split
  · exact (by decide : 2 < 16)
  split
  · exact (by decide : 0 < 16)
  split
  · exact (by decide : 2 < 16)
  split
  · exact (by decide : 0 < 16)
  · exact (by decide : 0 < 16)
section
variable {w0 : World} {K : Value → AH → Prop} {h : AH} {X : List (Nat × AB)} {a : Option Addr} {c : Nat} {l : List UInt8}
theorem f76_own {x : List UInt8} (v : SlV 1 a l.length c (u8s l)) (w : Own w0 h (slB a (u8s l) (c * 1) ++ X)) (hl : l.length ≤ 10000000) (hx : x.length ≤ 65535)
    (hk : ∀ h' a' c', SlV 1 a' (l ++ textP x).length c' (u8s (l ++ textP x)) → Own w0 h' (slB a' (u8s (l ++ textP x)) (c' * 1) ++ X) → K (.slice a' (l ++ textP x).length c') h') : EvC Go.Proofs.Tryd.prog w0 76 #[.slice a l.length c, .string (toB x)] K h :=
  f76_spec w (v.rd (cs := []) w) hl hx fun h' a' c' v' w' => hk h' a' c' v' w'.cut
theorem f73_own {n : Nat} (v : SlV 1 a l.length c (u8s l)) (w : Own w0 h (slB a (u8s l) (c * 1) ++ X)) (hl : l.length ≤ 10000000)
    (hk : ∀ h' a' c', SlV 1 a' (l ++ fixedV n 2).length c' (u8s (l ++ fixedV n 2)) → Own w0 h' (slB a' (u8s (l ++ fixedV n 2)) (c' * 1) ++ X) → K (.slice a' (l ++ fixedV n 2).length c') h') : EvC Go.Proofs.Tryd.prog w0 73 #[.slice a l.length c, .int .u64 ((n : Nat) : Int), .int .i64 2] K h :=
  f73_spec (k := 2) w (v.rd (cs := []) w) (by omega) (by decide) (by decide) fun h' a' c' v' w' => hk h' a' c' v' w'.cut
theorem len1 (l : List UInt8) (x : UInt8) : l.length + 1 = (l ++ [x]).length := by simp
theorem strL (s : ByteArray) : s = toB s.data.toList := (toB_data s).symm
/-- connect. -/
theorem f74_spec {m : PkM} (hm : MayK m.key) (k1 : m.kind = 1) (w : Own w0 h X) (rm : ∀ h', Own w0 h' X → PkRd w0 h' m)
    (hk : ∀ h' a c, SlV 1 a (restP m.key).1.length c (u8s (restP m.key).1) → Own w0 h' (slB a (u8s (restP m.key).1) (c * 1) ++ X) → K (.slice a (restP m.key).1.length c) h') : EvC Go.Proofs.Tryd.prog w0 74 #[m.agg] K h := by
  have hc := hm.con.1 k1
  have e0 : (restP m.key).1 = textP mqttL ++ [4, UInt8.ofNat (bitV m.ret 32 + m.qos.toNat * 8 + bitV m.will 4 + bitV m.clean 2)] ++ fixedV m.alive.toNat 2 ++ textP m.client.data.toList ++ (if m.will then textP m.topic.data.toList ++ textP m.pay else []) := by
    unfold restP; rw [if_pos (show m.key.kind = 1 from k1)]; rfl
  have hq : 0 ≤ m.qos ∧ m.qos ≤ 2 := by
    by_cases c : m.will = true
    · have := (hm.msg.1 (.inr ⟨k1, c⟩)).2.2; exact this
    · have := (hm.msg.2 (fun y => by rcases y with y | y; · (have : m.kind = 3 := y); omega
                                     · exact c y.2)).2.2.1
      have : m.qos = 0 := this
      omega
  have ha : 0 ≤ m.alive ∧ m.alive ≤ 65535 := ⟨hc.1, hc.2.1⟩
  have cl : m.client.data.toList.length ≤ 64 := by rw [slen]; exact hc.2.2.1
  obtain ⟨q, hqe⟩ : ∃ q : Nat, m.qos = ((q : Nat) : Int) := ⟨m.qos.toNat, by omega⟩
  obtain ⟨al, hae⟩ : ∃ q : Nat, m.alive = ((q : Nat) : Int) := ⟨m.alive.toNat, by omega⟩
  have tm : (textP mqttL).length = 6 := by rw [textP_len]; rfl
  refine f74_go _ _ _ _ _ _ _ _ _ _ _ _ _ _ _ _ _ _ _ _ _ _ _ (f76_spec (l := []) (x := mqttL) w Rd.nil (by simp) (by decide) fun h1 a1 c1 v1 w1 => ⟨_, _, _, rfl, ?_⟩)
  rw [List.nil_append] at v1 w1 ⊢
  refine App_byte (m := 4) v1 w1 (by omega) (by decide) fun a2 c2 h2 v2 w2 => ⟨by decide, f75_spec (n := 32) rfl ⟨_, rfl, f75_spec (n := 4) rfl ⟨_, rfl, f75_spec (n := 2) rfl ⟨_, rfl, ?_⟩⟩⟩⟩
  obtain ⟨f1, f2, f3, f4⟩ := con_flags m.ret m.will m.clean q (by omega)
  rw [hqe, mul8 (k := 8) (z := 8) rfl (by omega) (by omega), or8 (bitV_lt (by decide)) (by omega) f2, or8 f2 (bitV_lt (by decide)) f3, or8 f3 (bitV_lt (by decide)) (by rw [f1]; omega), f1, len1 _ (UInt8.ofNat 4)]
  refine App_byte v2 w2 (by simp [tm]) (by omega) fun a3 c3 h3 v3 w3 => ?_
  rw [len1 _ (UInt8.ofNat (bitV m.ret 32 + q * 8 + bitV m.will 4 + bitV m.clean 2)), hae, wrap64u (by omega) (by omega)]
  refine f73_own v3 w3 (by simp [tm]) fun h4 a4 c4 v4 w4 => ⟨_, _, _, rfl, ?_⟩
  rw [strL m.client]
  refine f76_own v4 w4 (by simp [tm, fixedV_len]) (by omega) fun h5 a5 c5 v5 w5 => ⟨_, _, _, rfl, ?_⟩
  have qn : m.qos.toNat = q := by omega
  have an : m.alive.toNat = al := by omega
  rw [e0, qn, an] at hk
  have e1 : textP mqttL ++ [UInt8.ofNat 4] ++ [UInt8.ofNat (bitV m.ret 32 + q * 8 + bitV m.will 4 + bitV m.clean 2)] ++ fixedV al 2 ++ textP m.client.data.toList = textP mqttL ++ [4, UInt8.ofNat (bitV m.ret 32 + q * 8 + bitV m.will 4 + bitV m.clean 2)] ++ fixedV al 2 ++ textP m.client.data.toList := by simp only [List.append_assoc, List.singleton_append]; rfl
  rw [e1] at v5 w5 ⊢
  have lb : (textP mqttL ++ [4, UInt8.ofNat (bitV m.ret 32 + q * 8 + bitV m.will 4 + bitV m.clean 2)] ++ fixedV al 2 ++ textP m.client.data.toList).length ≤ 1000 := by
    simp only [List.length_append, tm, fixedV_len, textP_len, List.length_cons, List.length_nil]; omega
  generalize textP mqttL ++ [4, UInt8.ofNat (bitV m.ret 32 + q * 8 + bitV m.will 4 + bitV m.clean 2)] ++ fixedV al 2 ++ textP m.client.data.toList = L at *
  refine brB_of (fun z => ?_) fun z => ?_
  · have hmsg := hm.msg.1 (.inr ⟨k1, z⟩)
    have tl : m.topic.data.toList.length ≤ 64 := by rw [slen]; exact name_le hmsg.1
    have pl : m.pay.length ≤ 256 := hmsg.2.1
    rw [if_pos z] at hk
    have fin : ∀ h', Own w0 h' (slB a5 (u8s L) (c5 * 1) ++ X) → EvC Go.Proofs.Tryd.prog w0 76 #[.slice a5 L.length c5, .string m.topic] (fun x h'' => ∃ (p : Option Addr) (n d : Nat), x = .slice p n d ∧ EvC Go.Proofs.Tryd.prog w0 76 #[.slice p n d, .string (toB m.pay)] (fun x h3 => ∃ (p : Option Addr) (n d : Nat), x = .slice p n d ∧ K (.slice p n d) h3) h'') h' := fun h' w' => by
      rw [strL m.topic]
      refine f76_own v5 w' (by omega) (by omega) fun h6 a6 c6 v6 w6 => ⟨_, _, _, rfl, ?_⟩
      refine f76_own v6 w6 (by rw [List.length_append, textP_len]; omega) (by omega) fun h7 a7 c7 v7 w7 => ⟨_, _, _, rfl, ?_⟩
      have e2 : L ++ textP m.topic.data.toList ++ textP m.pay = L ++ (textP m.topic.data.toList ++ textP m.pay) := List.append_assoc ..
      rw [e2] at v7 w7 ⊢
      exact hk h7 a7 c7 v7 w7
    refine ⟨?_, rows8 (rm h5 w5.drop).pay rfl (fin h5 w5)⟩
    rw [strL m.topic]
    refine f76_own v5 w5 (by omega) (by omega) fun h6 a6 c6 v6 w6 => ⟨_, _, _, rfl, rows8 (rm h6 w6.drop).pay rfl ?_⟩
    refine f76_own v6 w6 (by rw [List.length_append, textP_len]; omega) (by omega) fun h7 a7 c7 v7 w7 => ⟨_, _, _, rfl, ?_⟩
    have e2 : L ++ textP m.topic.data.toList ++ textP m.pay = L ++ (textP m.topic.data.toList ++ textP m.pay) := List.append_assoc ..
    rw [e2] at v7 w7 ⊢
    exact hk h7 a7 c7 v7 w7
  · rw [if_neg (by rw [z]; decide), List.append_nil] at hk
    exact hk h5 a5 c5 v5 w5
end
def f49_J : Nat → List Nat × Nat := jOf [(16, (0 :: (2 :: (3 :: (rn 17 12 (rn 63 45 (rn 123 59 [])))))), 1), (21, (0 :: (1 :: (2 :: (3 :: (rn 75 70 (rn 123 45 [])))))), 0), (28, (0 :: (1 :: (2 :: (3 :: (rn 95 90 (rn 123 25 [])))))), 0), (35, (0 :: (1 :: (2 :: (3 :: (rn 111 106 (rn 123 9 [])))))), 0)]

def f49_16 (w0 : World) (K : Value → AH → Prop) (a : Option Addr) (b c : Nat) (d : Int) (e : Bool) (g i : Int) (k : Bool) (m : ByteArray) (n : Option Addr) (o p : Nat) (q : Int) (r : Bool) (s : Int) (t : ByteArray) (u : Bool) (x : Int) (y z : Bool) (A : Int) (B : Option Addr) (C D : Nat) (E : Option Addr) (F G : Nat) (h : AH) : Prop :=
  ∀ j : Nat → Value, LPk Proofs.Tryd.prog w0 (EvC Proofs.Tryd.prog w0) f49_J 49 K 16 (jv j 1 1 (.bp 0 0 :: (jv j 4 2 (.v (.slice a b c) :: (jv j 17 12 (.v (.int .i64 d) :: (jv j 63 45 (.v (.bool e) :: (jv j 123 59 []))))))))) [some [(.int .i64 g), (.int .i64 i), (.bool k), (.string m), (.slice n o p), (.int .i64 q), (.bool r), (.int .i64 s), (.string t), (.bool u), (.int .i64 x), (.bool y), (.bool z), (.int .i64 A), (.slice B C D), (.slice E F G)]] h

def f49_21 (w0 : World) (K : Value → AH → Prop) (a : Option Addr) (b c : Nat) (d : Option Addr) (e g : Nat) (i k : Int) (h : AH) : Prop :=
  ∀ j : Nat → Value, LPk Proofs.Tryd.prog w0 (EvC Proofs.Tryd.prog w0) f49_J 49 K 21 (jv j 4 4 (.v (.slice a b c) :: (jv j 75 70 (.v (.slice d e g) :: (.v (.int .i64 i) :: (.v (.int .i64 k) :: (jv j 123 45 []))))))) [] h

def f49_28 (w0 : World) (K : Value → AH → Prop) (a : Option Addr) (b c : Nat) (d : Option Addr) (e g : Nat) (i k : Int) (h : AH) : Prop :=
  ∀ j : Nat → Value, LPk Proofs.Tryd.prog w0 (EvC Proofs.Tryd.prog w0) f49_J 49 K 28 (jv j 4 4 (.v (.slice a b c) :: (jv j 95 90 (.v (.slice d e g) :: (.v (.int .i64 i) :: (.v (.int .i64 k) :: (jv j 123 25 []))))))) [] h

def f49_35 (w0 : World) (K : Value → AH → Prop) (a : Option Addr) (b c : Nat) (d : Option Addr) (e g : Nat) (i k : Int) (h : AH) : Prop :=
  ∀ j : Nat → Value, LPk Proofs.Tryd.prog w0 (EvC Proofs.Tryd.prog w0) f49_J 49 K 35 (jv j 4 4 (.v (.slice a b c) :: (jv j 111 106 (.v (.slice d e g) :: (.v (.int .i64 i) :: (.v (.int .i64 k) :: (jv j 123 9 []))))))) [] h

theorem f49_16_in {w0 : World} {K : Value → AH → Prop} (a : Option Addr) (b c : Nat) (d : Int) (m : Bool) (p q : Int) (r : Bool) (s : ByteArray) (t : Option Addr) (u v : Nat) (x : Int) (y : Bool) (z : Int) (A : ByteArray) (B : Bool) (C : Int) (D E : Bool) (F : Int) (g : Option Addr) (e i : Nat) (n : Option Addr) (k o : Nat) (h : AH)
  (hv : (brB m (K (Value.tuple #[(slice a b c), (int .u8 (0 : Int))]) h) (brB (d == (6 : Int)) (K (Value.tuple #[(slice a b c), (int .u8 (2 : Int))]) h) (brB (d == (8 : Int)) (f49_21 w0 K a b c g e i ((e : Nat) : Int) (0 : Int) h) (brB (d == (9 : Int)) (f49_28 w0 K a b c n k o ((k : Nat) : Int) (0 : Int) h) (brB (d == (10 : Int)) (f49_35 w0 K a b c g e i ((e : Nat) : Int) (0 : Int) h) (K (Value.tuple #[(slice none 0 0), (int .u8 (0 : Int))]) h))))))) :
  f49_16 w0 K a b c d m p q r s t u v x y z A B C D E F g e i n k o h := fun j => LP_intro (P := Proofs.Tryd.prog) (Eq.mp (by kernel_rfl) hv)

theorem f49_21_in {w0 : World} {K : Value → AH → Prop} (b : Option Addr) (c d : Nat) (e : Option Addr) (g n : Nat) (i a : Int) (h : AH)
  (hv : (brB (decide ((a < i))) (∃ q : Addr, ((e = (some q)) ∧ (((0 : Int) ≤ a) ∧ ((a < ((g : Nat) : Int)) ∧ (∃ k : ByteArray, (∃ m : Int, ((((Array.size #[(string k), (int .i64 m)]) = 2) ∧ (At w0 h (Addr.add q ((Int.toNat a) * 2)) [(string k), (int .i64 m)])) ∧ ((EvC Proofs.Tryd.prog w0 76 #[(slice b c d), (string k)] (fun v x => (∃ r : Option Addr, (∃ o : Nat, (∃ s : Nat, ((v = (slice r o s)) ∧ (App w0 x 1 1 r o s 1 [(int .u8 (IntKind.wrap .u8 m))] (fun y z A => (f49_21 w0 K y (o + 1) z e g n i (IntKind.wrap .i64 (a + (1 : Int))) A)))))))) h) ∧ (EvC Proofs.Tryd.prog w0 76 #[(slice b c d), (string k)] (fun B C => (∃ t : Option Addr, (∃ p : Nat, (∃ u : Nat, ((B = (slice t p u)) ∧ (App w0 C 1 1 t p u 1 [(int .u8 (IntKind.wrap .u8 m))] (fun D E F => (f49_21 w0 K D (p + 1) E e g n i (IntKind.wrap .i64 (a + (1 : Int))) F)))))))) h))))))))) (K (Value.tuple #[(slice b c d), (int .u8 (2 : Int))]) h))) :
  f49_21 w0 K b c d e g n i a h := fun j => LP_intro (P := Proofs.Tryd.prog) (Eq.mp (by kernel_rfl) hv)

theorem f49_28_in {w0 : World} {K : Value → AH → Prop} (c : Option Addr) (b d : Nat) (e : Option Addr) (g k : Nat) (i a : Int) (h : AH)
  (hv : (brB (decide ((a < i))) (∃ m : Addr, ((e = (some m)) ∧ (((0 : Int) ≤ a) ∧ ((a < ((g : Nat) : Int)) ∧ (∃ n : Int, (((cellA w0 h (Addr.add m ((Int.toNat a) * 1))) = (some (int .i64 n))) ∧ (App w0 h 1 1 c b d 1 [(int .u8 (IntKind.wrap .u8 n))] (fun o p q => (f49_28 w0 K o (b + 1) p e g k i (IntKind.wrap .i64 (a + (1 : Int))) q))))))))) (K (Value.tuple #[(slice c b d), (int .u8 (0 : Int))]) h))) :
  f49_28 w0 K c b d e g k i a h := fun j => LP_intro (P := Proofs.Tryd.prog) (Eq.mp (by kernel_rfl) hv)

theorem f49_35_in {w0 : World} {K : Value → AH → Prop} (b : Option Addr) (c d : Nat) (e : Option Addr) (g m : Nat) (i a : Int) (h : AH)
  (hv : (brB (decide ((a < i))) (∃ n : Addr, ((e = (some n)) ∧ (((0 : Int) ≤ a) ∧ ((a < ((g : Nat) : Int)) ∧ (∃ k : ByteArray, (∃ o : Int, ((((Array.size #[(string k), (int .i64 o)]) = 2) ∧ (At w0 h (Addr.add n ((Int.toNat a) * 2)) [(string k), (int .i64 o)])) ∧ (EvC Proofs.Tryd.prog w0 76 #[(slice b c d), (string k)] (fun s t => (∃ p : Option Addr, (∃ q : Nat, (∃ r : Nat, ((s = (slice p q r)) ∧ (f49_35 w0 K p q r e g m i (IntKind.wrap .i64 (a + (1 : Int))) t)))))) h)))))))) (K (Value.tuple #[(slice b c d), (int .u8 (2 : Int))]) h))) :
  f49_35 w0 K b c d e g m i a h := fun j => LP_intro (P := Proofs.Tryd.prog) (Eq.mp (by kernel_rfl) hv)

theorem f49_go {w0 : World} {K : Value → AH → Prop} (a m : Int) (e : Bool) (n : ByteArray) (g : Option Addr) (b q : Nat) (c : Int) (i : Bool) (r : Int) (s : ByteArray) (t : Bool) (u : Int) (v o : Bool) (k : Int) (x : Option Addr) (y z : Nat) (A : Option Addr) (B C : Nat) (h : AH)
  (hv : (EvC Proofs.Tryd.prog w0 73 #[(slice none 0 0), (int .u64 (IntKind.wrap .u64 m)), (int .i64 (2 : Int))] (fun a2 p => (∃ D : Option Addr, (∃ d : Nat, (∃ F : Nat, ((a2 = (slice D d F)) ∧ (brB (a == (1 : Int)) (EvC Proofs.Tryd.prog w0 74 #[(agg #[(int .i64 a), (int .i64 m), (bool e), (string n), (slice g b q), (int .i64 c), (bool i), (int .i64 r), (string s), (bool t), (int .i64 u), (bool v), (bool o), (int .i64 k), (slice x y z), (slice A B C)])] (fun a3 a4 => (∃ R : Option Addr, (∃ T : Nat, (∃ U : Nat, ((a3 = (slice R T U)) ∧ (K (Value.tuple #[(slice R T U), (int .u8 (0 : Int))]) a4)))))) p) (brB (a == (2 : Int)) (EvC Proofs.Tryd.prog w0 75 #[(bool o), (int .u8 (1 : Int))] (fun a5 a6 => (∃ M : Int, ((a5 = (int .u8 M)) ∧ (newB w0 a6 (AB.cells [(int .u8 M), (int .u8 (IntKind.wrap .u8 k))] (List.length [(int .u8 M), (int .u8 (IntKind.wrap .u8 k))])) (fun a7 a8 => (K (Value.tuple #[(slice (some (Addr.mk a7 0 none)) 2 2), (int .u8 (0 : Int))]) a8)))))) p) (brB (a == (3 : Int)) (EvC Proofs.Tryd.prog w0 76 #[(slice none 0 0), (string n)] (fun a9 L => (∃ N : Option Addr, (∃ E : Nat, (∃ Q : Nat, ((a9 = (slice N E Q)) ∧ (brB (decide (((0 : Int) < c))) (rowsOf w0 L 1 D d (fun b0 => (App w0 L 1 1 N E Q d b0 (fun b1 b2 V => (((0 : Int) ≤ (1 : Int)) ∧ (rowsOf w0 V 1 g b (fun b3 => (App w0 V 1 1 b1 (E + d) b2 b b3 (fun b4 b5 b6 => (EvC Proofs.Tryd.prog w0 75 #[(bool e), (int .u8 (8 : Int))] (fun b7 b8 => (∃ Y : Int, ((b7 = (int .u8 Y)) ∧ (EvC Proofs.Tryd.prog w0 75 #[(bool i), (int .u8 (1 : Int))] (fun b9 c0 => (∃ Z : Int, ((b9 = (int .u8 Z)) ∧ (K (Value.tuple #[(slice b4 ((E + d) + b) b5), (int .u8 (IntKind.wrap .u8 (((BitVec.toNat ((BitVec.ofInt 8 (IntKind.wrap .u8 (((BitVec.toNat ((BitVec.ofInt 8 Y) ||| (BitVec.ofInt 8 (IntKind.wrap .u8 ((IntKind.wrap .u8 c) * (2 : Int)))))) : Nat) : Int))) ||| (BitVec.ofInt 8 Z))) : Nat) : Int)))]) c0)))) b8)))) b6)))))))))) (((0 : Int) ≤ (1 : Int)) ∧ (rowsOf w0 L 1 g b (fun c1 => (App w0 L 1 1 N E Q b c1 (fun c2 c3 c4 => (EvC Proofs.Tryd.prog w0 75 #[(bool e), (int .u8 (8 : Int))] (fun c5 c6 => (∃ a0 : Int, ((c5 = (int .u8 a0)) ∧ (EvC Proofs.Tryd.prog w0 75 #[(bool i), (int .u8 (1 : Int))] (fun c7 c8 => (∃ a1 : Int, ((c7 = (int .u8 a1)) ∧ (K (Value.tuple #[(slice c2 (E + b) c3), (int .u8 (IntKind.wrap .u8 (((BitVec.toNat ((BitVec.ofInt 8 (IntKind.wrap .u8 (((BitVec.toNat ((BitVec.ofInt 8 a0) ||| (BitVec.ofInt 8 (IntKind.wrap .u8 ((IntKind.wrap .u8 c) * (2 : Int)))))) : Nat) : Int))) ||| (BitVec.ofInt 8 a1))) : Nat) : Int)))]) c8)))) c6)))) c4)))))))))))) p) (brB (a == (4 : Int)) (f49_16 w0 K D d F a true a m e n g b q c i r s t u v o k x y z A B C p) (brB (a == (5 : Int)) (f49_16 w0 K D d F a true a m e n g b q c i r s t u v o k x y z A B C p) (brB (a == (7 : Int)) (f49_16 w0 K D d F a true a m e n g b q c i r s t u v o k x y z A B C p) (f49_16 w0 K D d F a (a == (11 : Int)) a m e n g b q c i r s t u v o k x y z A B C p)))))))))))) h)) :
  EvC Proofs.Tryd.prog w0 49 ([(.agg #[(.int .i64 a), (.int .i64 m), (.bool e), (.string n), (.slice g b q), (.int .i64 c), (.bool i), (.int .i64 r), (.string s), (.bool t), (.int .i64 u), (.bool v), (.bool o), (.int .i64 k), (.slice x y z), (.slice A B C)])]).toArray K h := EvC_intro (P := Proofs.Tryd.prog) f49_J (Eq.mp (by kernel_rfl) hv)
def f22_J : Nat → List Nat × Nat := jOf []



theorem f22_go {w0 : World} {K : Value → AH → Prop} (a d : Int) (e : Bool) (g : ByteArray) (i : Option Addr) (k m : Nat) (n : Int) (o : Bool) (p : Int) (q : ByteArray) (r : Bool) (s : Int) (t u : Bool) (v : Int) (x : Option Addr) (y z : Nat) (A : Option Addr) (B C : Nat) (h : AH)
  (hv : (EvC Proofs.Tryd.prog w0 23 #[(agg #[(int .i64 a), (int .i64 d), (bool e), (string g), (slice i k m), (int .i64 n), (bool o), (int .i64 p), (string q), (bool r), (int .i64 s), (bool t), (bool u), (int .i64 v), (slice x y z), (slice A B C)])] (fun U F => (∃ L : Bool, ((U = (bool L)) ∧ (brB (!L) (K (Value.tuple #[(slice none 0 0), (int .i64 (1 : Int))]) F) (EvC Proofs.Tryd.prog w0 49 #[(agg #[(int .i64 a), (int .i64 d), (bool e), (string g), (slice i k m), (int .i64 n), (bool o), (int .i64 p), (string q), (bool r), (int .i64 s), (bool t), (bool u), (int .i64 v), (slice x y z), (slice A B C)])] (fun V Y => (∃ M : Option Addr, (∃ b : Nat, (∃ Z : Nat, (∃ D : Int, ((V = (Value.tuple #[(slice M b Z), (int .u8 D)])) ∧ (EvC Proofs.Tryd.prog w0 50 #[(int .i64 ((b : Nat) : Int))] (fun a0 N => (∃ Q : Option Addr, (∃ c : Nat, (∃ a1 : Nat, (∃ E : Int, ((a0 = (Value.tuple #[(slice Q c a1), (int .i64 E)])) ∧ (brB (E != (0 : Int)) (K (Value.tuple #[(slice none 0 0), (int .i64 E)]) N) (((0 : Int) ≤ (4 : Int)) ∧ (newB w0 N (AB.cells [(int .u8 (IntKind.wrap .u8 (((BitVec.toNat ((BitVec.ofInt 8 (IntKind.wrap .u8 ((IntKind.wrap .u8 a) * (16 : Int)))) ||| (BitVec.ofInt 8 D))) : Nat) : Int)))] (List.length [(int .u8 (IntKind.wrap .u8 (((BitVec.toNat ((BitVec.ofInt 8 (IntKind.wrap .u8 ((IntKind.wrap .u8 a) * (16 : Int)))) ||| (BitVec.ofInt 8 D))) : Nat) : Int)))])) (fun a2 R => (rowsOf w0 R 1 Q c (fun a3 => (App w0 R 1 1 (some (Addr.mk a2 0 none)) 1 1 c a3 (fun a4 a5 T => (rowsOf w0 T 1 M b (fun a6 => (App w0 T 1 1 a4 (1 + c) a5 b a6 (fun a7 a8 a9 => (K (Value.tuple #[(slice a7 ((1 + c) + b) a8), (int .i64 (0 : Int))]) a9))))))))))))))))))) Y))))))) F))))) h)) :
  EvC Proofs.Tryd.prog w0 22 ([(.agg #[(.int .i64 a), (.int .i64 d), (.bool e), (.string g), (.slice i k m), (.int .i64 n), (.bool o), (.int .i64 p), (.string q), (.bool r), (.int .i64 s), (.bool t), (.bool u), (.int .i64 v), (.slice x y z), (.slice A B C)])]).toArray K h := EvC_intro (P := Proofs.Tryd.prog) f22_J (Eq.mp (by kernel_rfl) hv)
section
variable {w0 : World} {K : Value → AH → Prop} {h : AH} {X : List (Nat × AB)}
theorem wants_flat {m : PkM} {f : WantM → List UInt8} {g : ByteArray × Int → List UInt8} (e : ∀ w, f w = g w.key) : (m.wants.map WantM.key).flatMap g = m.wants.flatMap f := by
  rw [List.flatMap_map]
  exact congrArg (fun k => List.flatMap k m.wants) (funext fun w => (e w).symm)
/-- rest. -/
theorem f49_spec {m : PkM} (hm : MayK m.key) (w : Own w0 h X) (rm : ∀ h', Own w0 h' X → PkRd w0 h' m)
    (hk : ∀ h' a c, SlV 1 a (restP m.key).1.length c (u8s (restP m.key).1) → Own w0 h' (slB a (u8s (restP m.key).1) (c * 1) ++ X) → K (.tuple #[.slice a (restP m.key).1.length c, .int .u8 (((restP m.key).2 : Nat) : Int)]) h') : EvC Go.Proofs.Tryd.prog w0 49 #[m.agg] K h := by
  have hid : 0 ≤ m.id ∧ m.id ≤ 65535 := by
    by_cases c : (4 ≤ m.kind ∧ m.kind ≤ 11) ∨ (m.kind = 3 ∧ m.qos ≠ 0)
    · have : 1 ≤ m.id ∧ m.id ≤ 65535 := hm.id.1 c
      omega
    · have : m.id = 0 := hm.id.2 c
      omega
  have hkind : 1 ≤ m.kind ∧ m.kind ≤ 14 := ⟨hm.kind.1, hm.kind.2.1⟩
  obtain ⟨id, hie⟩ : ∃ q : Nat, m.id = ((q : Nat) : Int) := ⟨m.id.toNat, by omega⟩
  have idn : m.id.toNat = id := by omega
  have f2 : ∀ n, (fixedV n 2).length = 2 := fun n => fixedV_len n 2
  have er : restP m.key = (if m.kind = 1 then (textP mqttL ++ [4, UInt8.ofNat (bitV m.ret 32 + m.qos.toNat * 8 + bitV m.will 4 + bitV m.clean 2)] ++ fixedV m.alive.toNat 2 ++ textP m.client.data.toList ++ (if m.will then textP m.topic.data.toList ++ textP m.pay else []), 0)
      else if m.kind = 2 then ([UInt8.ofNat (bitV m.present 1), UInt8.ofNat m.code.toNat], 0)
      else if m.kind = 3 then (textP m.topic.data.toList ++ (if 0 < m.qos then fixedV id 2 else []) ++ m.pay, bitV m.dup 8 + m.qos.toNat * 2 + bitV m.ret 1)
      else if m.kind = 8 then (fixedV id 2 ++ m.wants.flatMap fun w => textP w.filter.data.toList ++ [UInt8.ofNat w.qos.toNat], 2)
      else if m.kind = 10 then (fixedV id 2 ++ m.wants.flatMap fun w => textP w.filter.data.toList, 2)
      else if m.kind = 9 then (fixedV id 2 ++ m.codes.map fun c => UInt8.ofNat c.toNat, 0)
      else if m.kind = 6 then (fixedV id 2, 2)
      else if 12 ≤ m.kind then ([], 0)
      else (fixedV id 2, 0)) := by
    have w1 := wants_flat (m := m) (f := fun w => textP w.filter.data.toList ++ [UInt8.ofNat w.qos.toNat]) (g := fun w => textP w.1.data.toList ++ [UInt8.ofNat w.2.toNat]) fun _ => rfl
    have w2 := wants_flat (m := m) (f := fun w => textP w.filter.data.toList) (g := fun w => textP w.1.data.toList) fun _ => rfl
    have e1 : restP m.key = (if m.kind = 1 then (textP mqttL ++ [4, UInt8.ofNat (bitV m.ret 32 + m.qos.toNat * 8 + bitV m.will 4 + bitV m.clean 2)] ++ fixedV m.alive.toNat 2 ++ textP m.client.data.toList ++ (if m.will then textP m.topic.data.toList ++ textP m.pay else []), 0)
      else if m.kind = 2 then ([UInt8.ofNat (bitV m.present 1), UInt8.ofNat m.code.toNat], 0)
      else if m.kind = 3 then (textP m.topic.data.toList ++ (if 0 < m.qos then fixedV m.id.toNat 2 else []) ++ m.pay, bitV m.dup 8 + m.qos.toNat * 2 + bitV m.ret 1)
      else if m.kind = 8 then (fixedV m.id.toNat 2 ++ (m.wants.map WantM.key).flatMap fun w => textP w.1.data.toList ++ [UInt8.ofNat w.2.toNat], 2)
      else if m.kind = 10 then (fixedV m.id.toNat 2 ++ (m.wants.map WantM.key).flatMap fun w => textP w.1.data.toList, 2)
      else if m.kind = 9 then (fixedV m.id.toNat 2 ++ m.codes.map fun c => UInt8.ofNat c.toNat, 0)
      else if m.kind = 6 then (fixedV m.id.toNat 2, 2)
      else if 12 ≤ m.kind then ([], 0)
      else (fixedV m.id.toNat 2, 0)) := rfl
    rw [e1, w1, w2, idn]
  refine f49_go _ _ _ _ _ _ _ _ _ _ _ _ _ _ _ _ _ _ _ _ _ _ _ ?_
  rw [hie, wrap64u (n := ((id : Nat) : Int)) (by omega) (by omega)]
  refine f73_spec (k := 2) (l := []) w Rd.nil (by simp) (by decide) (by decide) fun h1 p1 c1 v1 w1 => ⟨_, _, _, rfl, ?_⟩
  rw [List.nil_append] at v1 w1 ⊢
  refine brB_of (fun k1 => ?_) fun k1 => brB_of (fun k2 => ?_) fun k2 => brB_of (fun k3 => ?_) fun k3 => ?_
  · have k1 : m.kind = 1 := by simpa using k1
    have e2 : (restP m.key).2 = 0 := by rw [er, if_pos k1]
    rw [e2] at hk
    rw [← hie]
    exact f74_spec hm k1 w1.drop rm fun h2 a c v2 w2 => ⟨_, _, _, rfl, hk h2 a c v2 w2⟩
  · have k1 : m.kind ≠ 1 := by simpa using k1
    have k2 : m.kind = 2 := by simpa using k2
    rw [er, if_neg k1, if_pos k2] at hk
    have hc : 0 ≤ m.code ∧ m.code ≤ 5 := ⟨(hm.ack.1 k2).1, (hm.ack.1 k2).2.1⟩
    obtain ⟨cd, hce⟩ : ∃ q : Nat, m.code = ((q : Nat) : Int) := ⟨m.code.toNat, by omega⟩
    refine f75_spec (n := 1) rfl ⟨_, rfl, fun b hb hn => ?_⟩
    have ec : m.code.toNat = cd := by omega
    rw [hce, wrap8s (by omega)]
    rw [ec] at hk
    have eu : u8s [UInt8.ofNat (bitV m.present 1), UInt8.ofNat cd] = [.int .u8 ((bitV m.present 1 : Nat) : Int), .int .u8 ((cd : Nat) : Int)] := by
      have := bitV_lt (b := m.present) (n := 1) (k := 256) (by decide)
      simp only [u8s, List.map_cons, List.map_nil, UInt8.toNat_ofNat']
      rw [Nat.mod_eq_of_lt (by omega), Nat.mod_eq_of_lt (by omega)]
    have w2 := Own.new (o := .cells [.int .u8 ((bitV m.present 1 : Nat) : Int), .int .u8 ((cd : Nat) : Int)] 2) w1.drop hb hn
    rw [← eu] at w2
    have := hk _ (some ⟨b, 0, none⟩) 2 ⟨rfl, Nat.le_refl _, rfl, rfl⟩ w2
    rw [eu] at this
    exact this
  · have k1 : m.kind ≠ 1 := by simpa using k1
    have k2 : m.kind ≠ 2 := by simpa using k2
    have k3 : m.kind = 3 := by simpa using k3
    rw [er, if_neg k1, if_neg k2, if_pos k3] at hk
    have hmsg := hm.msg.1 (.inl k3)
    have tl : m.topic.data.toList.length ≤ 64 := by rw [slen]; exact name_le hmsg.1
    have pl : m.pay.length ≤ 256 := hmsg.2.1
    have hq : 0 ≤ m.qos ∧ m.qos ≤ 2 := hmsg.2.2
    obtain ⟨q, hqe⟩ : ∃ q : Nat, m.qos = ((q : Nat) : Int) := ⟨m.qos.toNat, by omega⟩
    have qn : m.qos.toNat = q := by omega
    obtain ⟨f1, f2', f3⟩ := pub_flags m.dup m.ret q (by omega)
    rw [qn] at hk
    have flags : ∀ {G : Value → Prop}, G (.int .u8 ((bitV m.dup 8 + q * 2 + bitV m.ret 1 : Nat) : Int)) → G (.int .u8 (IntKind.u8.wrap (((BitVec.toNat ((BitVec.ofInt 8 (IntKind.u8.wrap (((BitVec.toNat ((BitVec.ofInt 8 ((bitV m.dup 8 : Nat) : Int)) ||| (BitVec.ofInt 8 (IntKind.u8.wrap ((IntKind.u8.wrap ((q : Nat) : Int)) * (2 : Int)))))) : Nat) : Int))) ||| (BitVec.ofInt 8 ((bitV m.ret 1 : Nat) : Int)))) : Nat) : Int))) := fun {G} g => by
      rw [mul8 (k := 2) (z := 2) rfl (by omega) (by omega), or8 (bitV_lt (by decide)) (by omega) f2', or8 f2' (bitV_lt (by decide)) (by rw [f1]; omega), f1]
      exact g
    rw [strL m.topic]
    refine f76_spec (l := []) w1 Rd.nil (by simp) (by omega) fun h2 a2 c2 v2 w2 => ⟨_, _, _, rfl, ?_⟩
    rw [List.nil_append] at v2 w2 ⊢
    have tm : (textP m.topic.data.toList).length = m.topic.data.toList.length + 2 := textP_len _
    rw [hqe] at hk ⊢
    refine brB_of (fun z => ?_) fun z => ?_
    · rw [if_pos (of_decide_eq_true z)] at hk
      have rid : Rd w0 h2 p1 (u8s (fixedV id 2)) := v1.rd w2
      refine rowsOf_of rid (by rw [u8s_length, Nat.mul_one]) (App_bytes v2 w2 (by rw [f2]; omega) fun a3 c3 h3 v3 w3 => ⟨by decide, ?_⟩)
      have rp : Rd w0 h3 m.pa (u8s m.pay) := (rm h3 (Own.drop (cs := slB p1 (u8s (fixedV id 2)) (c1 * 1)) w3.drop)).pay
      rw [show (textP m.topic.data.toList).length + (fixedV id 2).length = (textP m.topic.data.toList ++ fixedV id 2).length from (List.length_append ..).symm]
      refine rowsOf_of rp (by rw [u8s_length, Nat.mul_one]) (App_bytes v3 w3 (by rw [List.length_append, f2]; omega) fun a4 c4 h4 v4 w4 => f75_spec (n := 8) rfl ⟨_, rfl, f75_spec (n := 1) rfl ⟨_, rfl, ?_⟩⟩)
      rw [show (textP m.topic.data.toList ++ fixedV id 2).length + m.pay.length = (textP m.topic.data.toList ++ fixedV id 2 ++ m.pay).length from (List.length_append ..).symm]
      exact flags (G := fun f => K (.tuple #[.slice a4 (textP m.topic.data.toList ++ fixedV id 2 ++ m.pay).length c4, f]) h4) (hk h4 a4 c4 v4 w4.cut)
    · rw [if_neg (of_decide_eq_false z), List.append_nil] at hk
      have rp : Rd w0 h2 m.pa (u8s m.pay) := (rm h2 (Own.drop (cs := slB p1 (u8s (fixedV id 2)) (c1 * 1)) w2.drop)).pay
      refine ⟨by decide, rowsOf_of rp (by rw [u8s_length, Nat.mul_one]) (App_bytes v2 w2 (by omega) fun a4 c4 h4 v4 w4 => f75_spec (n := 8) rfl ⟨_, rfl, f75_spec (n := 1) rfl ⟨_, rfl, ?_⟩⟩)⟩
      rw [show (textP m.topic.data.toList).length + m.pay.length = (textP m.topic.data.toList ++ m.pay).length from (List.length_append ..).symm]
      exact flags (G := fun f => K (.tuple #[.slice a4 (textP m.topic.data.toList ++ m.pay).length c4, f]) h4) (hk h4 a4 c4 v4 w4.cut)
  · have k1 : m.kind ≠ 1 := by simpa using k1
    have k2 : m.kind ≠ 2 := by simpa using k2
    have k3 : m.kind ≠ 3 := by simpa using k3
    rw [er, if_neg k1, if_neg k2, if_neg k3] at hk
    rw [← hie]
    have li : (fixedV id 2).length = 2 := f2 id
    have sixteen : ∀ t, (t = true ↔ (m.kind = 4 ∨ m.kind = 5 ∨ m.kind = 7 ∨ m.kind = 11)) → f49_16 w0 K p1 (fixedV id 2).length c1 m.kind t m.kind m.id m.dup m.topic m.pa m.pay.length m.pc m.qos m.ret m.til m.client m.clean m.alive m.will m.present m.code m.wa m.wants.length m.wc m.ca m.codes.length m.cc h1 := fun t ht => by
      refine f49_16_in _ _ _ _ _ _ _ _ _ _ _ _ _ _ _ _ _ _ _ _ _ _ _ _ _ _ _ _ (brB_of (fun z => ?_) fun z => ?_)
      · have k := ht.1 z
        rw [if_neg (by omega), if_neg (by omega), if_neg (by omega), if_neg (by omega), if_neg (by omega)] at hk
        exact hk h1 p1 c1 v1 w1
      have kn : ¬ (m.kind = 4 ∨ m.kind = 5 ∨ m.kind = 7 ∨ m.kind = 11) := fun c => by rw [ht.2 c] at z; cases z
      refine brB_of (fun k6 => ?_) fun k6 => brB_of (fun k8 => ?_) fun k8 => brB_of (fun k9 => ?_) fun k9 => brB_of (fun k10 => ?_) fun k10 => ?_
      · have k6 : m.kind = 6 := by simpa using k6
        rw [if_neg (by omega), if_neg (by omega), if_neg (by omega), if_pos k6] at hk
        exact hk h1 p1 c1 v1 w1
      · have k8 : m.kind = 8 := by simpa using k8
        rw [if_pos k8] at hk
        have wk : WantsC m 2 := wants_key.1 (hm.wants.1 k8)
        have loop : ∀ (n i : Nat), i + n = m.wants.length → ∀ h' a c (L : List UInt8), L = fixedV id 2 ++ (m.wants.take i).flatMap (fun w => textP w.filter.data.toList ++ [UInt8.ofNat w.qos.toNat]) → SlV 1 a L.length c (u8s L) → Own w0 h' (slB a (u8s L) (c * 1) ++ X) → f49_21 w0 K a L.length c m.wa m.wants.length m.wc ((m.wants.length : Nat) : Int) ((i : Nat) : Int) h' := fun n => by
          induction n with
          | zero =>
            intro i hi h' a c L hL v' w'
            rw [List.take_of_length_le (by omega)] at hL
            subst hL
            exact f49_21_in _ _ _ _ _ _ _ _ _ (brB_of (fun z => by have := of_decide_eq_true z; omega) fun _ => hk h' a c v' w')
          | succ n ih =>
            intro i hi h' a c L hL v' w'
            have g1 : m.wants[i]? = some m.wants[i] := List.getElem?_eq_getElem _
            have hx := wk.2.2 _ (List.mem_of_getElem? g1)
            obtain ⟨ad, had, hat⟩ := rowLoad (enc := WantM.cells) (k := 2) (fun _ => rfl) (by decide) (rm h' w'.drop).wants g1
            have et : m.wants.take (i + 1) = m.wants.take i ++ [m.wants[i]] := List.take_succ_eq_append_getElem (by omega)
            have hb : L.length ≤ 2 + i * 67 := by
              have := flatMap_le (f := fun w : WantM => textP w.filter.data.toList ++ [UInt8.ofNat w.qos.toNat]) (n := 67) (l := m.wants.take i) fun x hx => by
                have := filter_le (wk.2.2 x (List.mem_of_mem_take hx)).1
                rw [← slen] at this
                simp only [List.length_append, textP_len, List.length_cons, List.length_nil]
                omega
              rw [hL, List.length_append, li]
              have l2 : (m.wants.take i).length = i := by rw [List.length_take]; omega
              rw [l2] at this
              omega
            have wl := wk.2.1
            generalize m.wants[i] = x at *
            have fl := filter_le hx.1
            rw [← slen] at fl
            obtain ⟨q, hqe⟩ : ∃ q : Nat, x.qos = ((q : Nat) : Int) := ⟨x.qos.toNat, by omega⟩
            have qn : x.qos.toNat = q := by omega
            have run : EvC Go.Proofs.Tryd.prog w0 76 #[.slice a L.length c, .string x.filter] (fun x47 h48 => ∃ (p : Option Addr) (n d : Nat), x47 = .slice p n d ∧ App w0 h48 1 1 p n d 1 [.int .u8 (IntKind.u8.wrap x.qos)] fun a52 c53 h54 => f49_21 w0 K a52 (n + 1) c53 m.wa m.wants.length m.wc ((m.wants.length : Nat) : Int) (IntKind.i64.wrap (((i : Nat) : Int) + 1)) h54) h' := by
              rw [strL x.filter]
              refine f76_own v' w' (by omega) (by omega) fun h2 a2 c2 v2 w2 => ⟨_, _, _, rfl, ?_⟩
              rw [hqe, wrap8s (by omega)]
              refine App_byte v2 w2 (by rw [List.length_append, textP_len]; omega) (by omega) fun a3 c3 h3 v3 w3 => ?_
              rw [len1 _ (UInt8.ofNat q), wrapS (by omega)]
              exact ih (i + 1) (by omega) h3 a3 c3 _ (by rw [et, List.flatMap_append, hL]; simp [qn]) v3 w3
            exact f49_21_in _ _ _ _ _ _ _ _ _ (brB_of (fun _ => ⟨ad, had, by omega, by omega, _, _, ⟨rfl, hat⟩, run, run⟩) fun z => by have := of_decide_eq_false z; omega)
        exact loop m.wants.length 0 (by omega) h1 p1 c1 _ (by simp) v1 w1
      · have k9 : m.kind = 9 := by simpa using k9
        rw [if_neg (by omega), if_neg (by omega), if_pos k9] at hk
        have ck := hm.codes.1 k9
        have cl : m.codes.length ≤ 8 := ck.2.1
        have loop : ∀ (n i : Nat), i + n = m.codes.length → ∀ h' a c (L : List UInt8), L = fixedV id 2 ++ (m.codes.take i).map (fun c => UInt8.ofNat c.toNat) → SlV 1 a L.length c (u8s L) → Own w0 h' (slB a (u8s L) (c * 1) ++ X) → f49_28 w0 K a L.length c m.ca m.codes.length m.cc ((m.codes.length : Nat) : Int) ((i : Nat) : Int) h' := fun n => by
          induction n with
          | zero =>
            intro i hi h' a c L hL v' w'
            rw [List.take_of_length_le (by omega)] at hL
            subst hL
            exact f49_28_in _ _ _ _ _ _ _ _ _ (brB_of (fun z => by have := of_decide_eq_true z; omega) fun _ => hk h' a c v' w')
          | succ n ih =>
            intro i hi h' a c L hL v' w'
            have g1 : m.codes[i]? = some m.codes[i] := List.getElem?_eq_getElem _
            have hx := ck.2.2 _ (List.mem_of_getElem? g1)
            obtain ⟨ad, had, hc⟩ := (rm h' w'.drop).codes _ _ (ints_get g1)
            have et : m.codes.take (i + 1) = m.codes.take i ++ [m.codes[i]] := List.take_succ_eq_append_getElem (by omega)
            have hb : L.length = 2 + i := by
              rw [hL, List.length_append, li, List.length_map, List.length_take]; omega
            generalize m.codes[i] = x at *
            obtain ⟨q, hqe⟩ : ∃ q : Nat, x = ((q : Nat) : Int) := ⟨x.toNat, by omega⟩
            subst hqe
            refine f49_28_in _ _ _ _ _ _ _ _ _ (brB_of (fun _ => ⟨ad, had, by omega, by omega, _, by rw [Int.toNat_natCast, Nat.mul_one]; exact hc, ?_⟩) fun z => by have := of_decide_eq_false z; omega)
            rw [wrap8s (by omega)]
            refine App_byte v' w' (by omega) (by omega) fun a3 c3 h3 v3 w3 => ?_
            rw [len1 _ (UInt8.ofNat q), wrapS (by omega)]
            exact ih (i + 1) (by omega) h3 a3 c3 _ (by rw [et, List.map_append, hL]; simp) v3 w3
        exact loop m.codes.length 0 (by omega) h1 p1 c1 _ (by simp) v1 w1
      · have k10 : m.kind = 10 := by simpa using k10
        rw [if_neg (by omega), if_pos k10] at hk
        have wk : WantsC m 0 := wants_key.1 (hm.wants.2.1 k10)
        have loop : ∀ (n i : Nat), i + n = m.wants.length → ∀ h' a c (L : List UInt8), L = fixedV id 2 ++ (m.wants.take i).flatMap (fun w => textP w.filter.data.toList) → SlV 1 a L.length c (u8s L) → Own w0 h' (slB a (u8s L) (c * 1) ++ X) → f49_35 w0 K a L.length c m.wa m.wants.length m.wc ((m.wants.length : Nat) : Int) ((i : Nat) : Int) h' := fun n => by
          induction n with
          | zero =>
            intro i hi h' a c L hL v' w'
            rw [List.take_of_length_le (by omega)] at hL
            subst hL
            exact f49_35_in _ _ _ _ _ _ _ _ _ (brB_of (fun z => by have := of_decide_eq_true z; omega) fun _ => hk h' a c v' w')
          | succ n ih =>
            intro i hi h' a c L hL v' w'
            have g1 : m.wants[i]? = some m.wants[i] := List.getElem?_eq_getElem _
            have hx := wk.2.2 _ (List.mem_of_getElem? g1)
            obtain ⟨ad, had, hat⟩ := rowLoad (enc := WantM.cells) (k := 2) (fun _ => rfl) (by decide) (rm h' w'.drop).wants g1
            have et : m.wants.take (i + 1) = m.wants.take i ++ [m.wants[i]] := List.take_succ_eq_append_getElem (by omega)
            have hb : L.length ≤ 2 + i * 66 := by
              have := flatMap_le (f := fun w : WantM => textP w.filter.data.toList) (n := 66) (l := m.wants.take i) fun x hx => by
                have := filter_le (wk.2.2 x (List.mem_of_mem_take hx)).1
                rw [← slen] at this
                simp only [textP_len]
                omega
              rw [hL, List.length_append, li]
              have l2 : (m.wants.take i).length = i := by rw [List.length_take]; omega
              rw [l2] at this
              omega
            have wl := wk.2.1
            generalize m.wants[i] = x at *
            have fl := filter_le hx.1
            rw [← slen] at fl
            refine f49_35_in _ _ _ _ _ _ _ _ _ (brB_of (fun _ => ⟨ad, had, by omega, by omega, _, _, ⟨rfl, hat⟩, ?_⟩) fun z => by have := of_decide_eq_false z; omega)
            rw [strL x.filter]
            refine f76_own v' w' (by omega) (by omega) fun h2 a2 c2 v2 w2 => ⟨_, _, _, rfl, ?_⟩
            rw [wrapS (by omega)]
            exact ih (i + 1) (by omega) h2 a2 c2 _ (by rw [et, List.flatMap_append, hL]; simp) v2 w2
        exact loop m.wants.length 0 (by omega) h1 p1 c1 _ (by simp) v1 w1
      · have k6 : m.kind ≠ 6 := by simpa using k6
        have k8 : m.kind ≠ 8 := by simpa using k8
        have k9 : m.kind ≠ 9 := by simpa using k9
        have k10 : m.kind ≠ 10 := by simpa using k10
        rw [if_neg k8, if_neg k10, if_neg k9, if_neg k6, if_pos (by omega)] at hk
        exact hk h1 none 0 SlV.nil w1.drop
    refine brB_of (fun k4 => sixteen _ ?_) fun k4 => brB_of (fun k5 => sixteen _ ?_) fun k5 => brB_of (fun k7 => sixteen _ ?_) fun k7 => sixteen _ ?_
    · have : m.kind = 4 := by simpa using k4
      simp [this]
    · have : m.kind = 5 := by simpa using k5
      simp [this]
    · have : m.kind = 7 := by simpa using k7
      simp [this]
    · have : m.kind ≠ 4 := by simpa using k4
      have : m.kind ≠ 5 := by simpa using k5
      have : m.kind ≠ 7 := by simpa using k7
      simp
      omega
/-- Encode. -/
theorem f22_spec {m : PkM} (T : TabOk w0) (w : Own w0 h X) (rm : ∀ h', Own w0 h' X → PkRd w0 h' m)
    (h1 : MayK m.key → ∀ h' a c, SlV 1 a (encP m.key).length c (u8s (encP m.key)) → Own w0 h' (slB a (u8s (encP m.key)) (c * 1) ++ X) → K (.tuple #[.slice a (encP m.key).length c, .int .i64 0]) h')
    (h0 : ¬ MayK m.key → ∀ h', Own w0 h' X → K (.tuple #[.slice none 0 0, .int .i64 1]) h') : EvC Go.Proofs.Tryd.prog w0 22 #[m.agg] K h := by
  refine f22_go _ _ _ _ _ _ _ _ _ _ _ _ _ _ _ _ _ _ _ _ _ _ _ (f23_spec T w rm (fun hm h2 w2 => ⟨_, rfl, brB_of (fun z => by cases z) fun _ => ?_⟩) fun nm h2 w2 => ⟨_, rfl, brB_of (fun _ => h0 nm h2 w2) fun z => by cases z⟩)
  have hl := rest_le hm
  have hf := rest_fl hm
  have hkind : 1 ≤ m.kind ∧ m.kind ≤ 14 := ⟨hm.kind.1, hm.kind.2.1⟩
  obtain ⟨kd, hke⟩ : ∃ q : Nat, m.kind = ((q : Nat) : Int) := ⟨m.kind.toNat, by omega⟩
  have h1 := h1 hm
  have ee : encP m.key = UInt8.ofNat (kd * 16 + (restP m.key).2) :: (putV (restP m.key).1.length ++ (restP m.key).1) := by
    unfold encP
    have : m.key.kind.toNat = kd := by show m.kind.toNat = kd; omega
    rw [this]
  rw [ee] at h1
  refine f49_spec hm w2 rm fun h3 a3 c3 v3 w3 => ⟨_, _, _, _, rfl, f50_spec w3 (by omega) fun h4 a4 c4 v4 w4 => ⟨_, _, _, _, rfl, brB_of (fun z => by simp at z) fun _ => ⟨by decide, fun b hb hn => ?_⟩⟩⟩
  generalize (restP m.key).1 = L at *
  generalize (restP m.key).2 = fl at *
  have pl := putV_len10 (n := L.length) (by omega)
  have ex : IntKind.u8.wrap (((BitVec.toNat ((BitVec.ofInt 8 (IntKind.u8.wrap ((IntKind.u8.wrap m.kind) * (16 : Int)))) ||| (BitVec.ofInt 8 ((fl : Nat) : Int)))) : Nat) : Int) = ((kd * 16 + fl : Nat) : Int) := by
    have := first_or kd fl (by omega) hf
    rw [hke, mul8 (k := 16) (z := 16) rfl (by omega) (by omega), or8 (by omega) (by omega) (by omega), this]
  have eu : u8s [UInt8.ofNat (kd * 16 + fl)] = [.int .u8 ((kd * 16 + fl : Nat) : Int)] := by
    simp only [u8s, List.map_cons, List.map_nil, UInt8.toNat_ofNat']
    rw [Nat.mod_eq_of_lt (by omega)]
  have w5 := Own.new (o := .cells [.int .u8 (IntKind.u8.wrap (((BitVec.toNat ((BitVec.ofInt 8 (IntKind.u8.wrap ((IntKind.u8.wrap m.kind) * (16 : Int)))) ||| (BitVec.ofInt 8 ((fl : Nat) : Int)))) : Nat) : Int))] 1) w4 hb hn
  have w6 := w5.perm (cs := slB (some ⟨b, 0, none⟩) (u8s [UInt8.ofNat (kd * 16 + fl)]) (1 * 1) ++ (slB a4 (u8s (putV L.length)) (c4 * 1) ++ (slB a3 (u8s L) (c3 * 1) ++ X))) (List.Perm.of_eq (by rw [eu, ← ex]; rfl))
  have v6 : SlV 1 (some ⟨b, 0, none⟩) ([UInt8.ofNat (kd * 16 + fl)] : List UInt8).length 1 (u8s [UInt8.ofNat (kd * 16 + fl)]) := ⟨rfl, Nat.le_refl _, rfl, rfl⟩
  refine rowsOf_of (v4.rd w6) (by rw [u8s_length, Nat.mul_one]) (App_bytes v6 w6 (by simp; omega) fun a7 c7 h7 v7 w7 => ?_)
  have w8 := w7.cut
  rw [show 1 + (putV L.length).length = ([UInt8.ofNat (kd * 16 + fl)] ++ putV L.length).length by simp; omega]
  refine rowsOf_of (v3.rd w8) (by rw [u8s_length, Nat.mul_one]) (App_bytes v7 w8 (by simp; omega) fun a9 c9 h9 v9 w9 => ?_)
  have w10 := w9.cut
  rw [show ([UInt8.ofNat (kd * 16 + fl)] ++ putV L.length).length + L.length = ([UInt8.ofNat (kd * 16 + fl)] ++ putV L.length ++ L).length from (List.length_append ..).symm]
  exact h1 h9 a9 c9 v9 w10
end
end Go.G.YtciepfobnaemmaaDoor
