/- connect, as bytes. -/
import Derived.Test.YtciepfobnaemmaaDoorPS
import Derived.Test.YtciepfobnaemmaaDoorPV
import Derived.Test.YtciepfobnaemmaaDoorProg
set_option maxRecDepth 100000
namespace Go.G.YtciepfobnaemmaaDoor
open Go.RowKit
open Value (string slice int bool agg)
def f74_J : Nat → List Nat × Nat := jOf []



theorem f74_go {w0 : World} {K : Value → AH → Prop} (a0 a1 : Int) (a2 : Bool) (g : ByteArray) (i : Option Addr) (k a3 : Nat) (n : Int) (o : Bool) (a4 : Int) (p : ByteArray) (q : Bool) (r : Int) (m a5 : Bool) (a6 : Int) (a7 : Option Addr) (a8 a9 : Nat) (b0 : Option Addr) (b1 b2 : Nat) (h : AH)
  (hv : (EvC Proofs.Tryd.prog w0 76 #[(slice none 0 0), (string (ByteArray.mk #[(77 : UInt8), (81 : UInt8), (84 : UInt8), (84 : UInt8)]))] (fun b3 b4 => (∃ s : Option Addr, (∃ a : Nat, (∃ t : Nat, ((b3 = (slice s a t)) ∧ (App w0 b4 1 1 s a t 1 [(int .u8 (4 : Int))] (fun b5 b6 b7 => (((0 : Int) ≤ (3 : Int)) ∧ (EvC Proofs.Tryd.prog w0 75 #[(bool o), (int .u8 (32 : Int))] (fun b8 b9 => (∃ u : Int, ((b8 = (int .u8 u)) ∧ (EvC Proofs.Tryd.prog w0 75 #[(bool m), (int .u8 (4 : Int))] (fun c0 c1 => (∃ v : Int, ((c0 = (int .u8 v)) ∧ (EvC Proofs.Tryd.prog w0 75 #[(bool q), (int .u8 (2 : Int))] (fun c2 c3 => (∃ x : Int, ((c2 = (int .u8 x)) ∧ (App w0 c3 1 1 b5 (a + 1) b6 1 [(int .u8 (IntKind.wrap .u8 (((BitVec.toNat ((BitVec.ofInt 8 (IntKind.wrap .u8 (((BitVec.toNat ((BitVec.ofInt 8 (IntKind.wrap .u8 (((BitVec.toNat ((BitVec.ofInt 8 u) ||| (BitVec.ofInt 8 (IntKind.wrap .u8 ((IntKind.wrap .u8 n) * (8 : Int)))))) : Nat) : Int))) ||| (BitVec.ofInt 8 v))) : Nat) : Int))) ||| (BitVec.ofInt 8 x))) : Nat) : Int)))] (fun c4 c5 c6 => (EvC Proofs.Tryd.prog w0 73 #[(slice c4 ((a + 1) + 1) c5), (int .u64 (IntKind.wrap .u64 r)), (int .i64 (2 : Int))] (fun c7 c8 => (∃ y : Option Addr, (∃ z : Nat, (∃ A : Nat, ((c7 = (slice y z A)) ∧ (EvC Proofs.Tryd.prog w0 76 #[(slice y z A), (string p)] (fun c9 b => (∃ c : Option Addr, (∃ d : Nat, (∃ e : Nat, ((c9 = (slice c d e)) ∧ (brB m ((EvC Proofs.Tryd.prog w0 76 #[(slice c d e), (string g)] (fun d0 B => (∃ C : Option Addr, (∃ D : Nat, (∃ E : Nat, ((d0 = (slice C D E)) ∧ (rowsOf w0 B 1 i k (fun d1 => (∃ F : ByteArray, ((d1 = (intsOf F)) ∧ (EvC Proofs.Tryd.prog w0 76 #[(slice C D E), (string F)] (fun d2 d3 => (∃ L : Option Addr, (∃ M : Nat, (∃ N : Nat, ((d2 = (slice L M N)) ∧ (K (slice L M N) d3)))))) B)))))))))) b) ∧ (rowsOf w0 b 1 i k (fun d4 => (∃ Q : ByteArray, ((d4 = (intsOf Q)) ∧ (EvC Proofs.Tryd.prog w0 76 #[(slice c d e), (string g)] (fun d5 d6 => (∃ R : Option Addr, (∃ T : Nat, (∃ U : Nat, ((d5 = (slice R T U)) ∧ (EvC Proofs.Tryd.prog w0 76 #[(slice R T U), (string Q)] (fun d7 d8 => (∃ V : Option Addr, (∃ Y : Nat, (∃ Z : Nat, ((d7 = (slice V Y Z)) ∧ (K (slice V Y Z) d8)))))) d6)))))) b)))))) (K (slice c d e) b))))))) c8)))))) c6)))))) c1)))) b9)))) b7))))))))) h)) :
  EvC Proofs.Tryd.prog w0 74 ([(.agg #[(.int .i64 a0), (.int .i64 a1), (.bool a2), (.string g), (.slice i k a3), (.int .i64 n), (.bool o), (.int .i64 a4), (.string p), (.bool q), (.int .i64 r), (.bool m), (.bool a5), (.int .i64 a6), (.slice a7 a8 a9), (.slice b0 b1 b2)])]).toArray K h := EvC_intro (P := Proofs.Tryd.prog) f74_J (Eq.mp (by kernel_rfl) hv)
/-! ### a packet as bytes: the program's -/
theorem or8 {a b : Nat} (ha : a < 256) (hb : b < 256) (h : a ||| b < 256) : IntKind.u8.wrap (((BitVec.toNat ((BitVec.ofInt 8 ((a : Nat) : Int)) ||| (BitVec.ofInt 8 ((b : Nat) : Int)))) : Nat) : Int) = ((a ||| b : Nat) : Int) := by
  rw [ofInt_nat, ofInt_nat, BitVec.toNat_or, BitVec.toNat_ofNat, BitVec.toNat_ofNat, Nat.mod_eq_of_lt (by omega), Nat.mod_eq_of_lt (by omega), wrap8, Nat.mod_eq_of_lt h]
theorem wrap8s {n : Nat} (h : n < 256) : IntKind.u8.wrap ((n : Nat) : Int) = ((n : Nat) : Int) := by rw [wrap8, Nat.mod_eq_of_lt h]
theorem mul8 {n k : Nat} {z : Int} (hz : z = ((k : Nat) : Int)) (h : n * k < 256) (hn : n < 256) : IntKind.u8.wrap ((IntKind.u8.wrap ((n : Nat) : Int)) * z) = ((n * k : Nat) : Int) := by
  subst hz
  rw [wrap8s hn, ← Int.natCast_mul, wrap8s h]
theorem con_flags : ∀ (r v c : Bool) (q : Nat), q ≤ 2 → (((bitV r 32 ||| q * 8) ||| bitV v 4) ||| bitV c 2) = bitV r 32 + q * 8 + bitV v 4 + bitV c 2 ∧ (bitV r 32 ||| q * 8) < 256 ∧ ((bitV r 32 ||| q * 8) ||| bitV v 4) < 256 ∧ bitV r 32 + q * 8 + bitV v 4 + bitV c 2 < 64 := by
  intro r v c q hq
  have : q = 0 ∨ q = 1 ∨ q = 2 := by omega
  rcases this with rfl | rfl | rfl <;> cases r <;> cases v <;> cases c <;> decide
theorem pub_flags : ∀ (d r : Bool) (q : Nat), q ≤ 2 → ((bitV d 8 ||| q * 2) ||| bitV r 1) = bitV d 8 + q * 2 + bitV r 1 ∧ (bitV d 8 ||| q * 2) < 256 ∧ bitV d 8 + q * 2 + bitV r 1 < 16 := by
  intro d r q hq
  have : q = 0 ∨ q = 1 ∨ q = 2 := by omega
  rcases this with rfl | rfl | rfl <;> cases d <;> cases r <;> decide
theorem bitV_lt {b : Bool} {n k : Nat} (h : n < k) : bitV b n < k := by
  unfold bitV; split
  · exact h
  · omega
theorem first_or : ∀ (k f : Nat), k < 16 → f < 16 → (k * 16 ||| f) = k * 16 + f := by
  intro k f hk hf
  exact or_add (m := k) (y := f) (k := 4) (by omega)
theorem rest_fl {k : Pk} (h : MayK k) : (restP k).2 < 16 := by
  unfold restP
  split
  · exact (by decide : 0 < 16)
  split
  · exact (by decide : 0 < 16)
  split
  · rename_i k3
    have := (h.msg.1 (.inl k3)).2.2
    exact (pub_flags k.dup k.ret k.qos.toNat (by omega)).2.2
  split
  · exact (by decide : 2 < 16)
  split
  · exact (by decide : 2 < 16)
  split
  · exact (by decide : 0 < 16)
  split
  · exact (by decide : 2 < 16)
  split
  · exact (by decide : 0 < 16)
  · exact (by decide : 0 < 16)
section
variable {w0 : World} {K : Value → AH → Prop} {h : AH} {X : List (Nat × AB)} {a : Option Addr} {c : Nat} {l : List UInt8}
theorem f76_own {x : List UInt8} (v : SlV 1 a l.length c (u8s l)) (w : Own w0 h (slB a (u8s l) (c * 1) ++ X)) (hl : l.length ≤ 10000000) (hx : x.length ≤ 65535)
    (hk : ∀ h' a' c', SlV 1 a' (l ++ textP x).length c' (u8s (l ++ textP x)) → Own w0 h' (slB a' (u8s (l ++ textP x)) (c' * 1) ++ X) → K (.slice a' (l ++ textP x).length c') h') : EvC Go.Proofs.Tryd.prog w0 76 #[.slice a l.length c, .string (toB x)] K h :=
  f76_spec w (v.rd (cs := []) w) hl hx fun h' a' c' v' w' => hk h' a' c' v' w'.cut
theorem f73_own {n : Nat} (v : SlV 1 a l.length c (u8s l)) (w : Own w0 h (slB a (u8s l) (c * 1) ++ X)) (hl : l.length ≤ 10000000)
    (hk : ∀ h' a' c', SlV 1 a' (l ++ fixedV n 2).length c' (u8s (l ++ fixedV n 2)) → Own w0 h' (slB a' (u8s (l ++ fixedV n 2)) (c' * 1) ++ X) → K (.slice a' (l ++ fixedV n 2).length c') h') : EvC Go.Proofs.Tryd.prog w0 73 #[.slice a l.length c, .int .u64 ((n : Nat) : Int), .int .i64 2] K h :=
  f73_spec (k := 2) w (v.rd (cs := []) w) (by omega) (by decide) (by decide) fun h' a' c' v' w' => hk h' a' c' v' w'.cut
theorem len1 (l : List UInt8) (x : UInt8) : l.length + 1 = (l ++ [x]).length := by simp
theorem strL (s : ByteArray) : s = toB s.data.toList := (toB_data s).symm
/-- connect. -/
theorem f74_spec {m : PkM} (hm : MayK m.key) (k1 : m.kind = 1) (w : Own w0 h X) (rm : ∀ h', Own w0 h' X → PkRd w0 h' m)
    (hk : ∀ h' a c, SlV 1 a (restP m.key).1.length c (u8s (restP m.key).1) → Own w0 h' (slB a (u8s (restP m.key).1) (c * 1) ++ X) → K (.slice a (restP m.key).1.length c) h') : EvC Go.Proofs.Tryd.prog w0 74 #[m.agg] K h := by
  have hc := hm.con.1 k1
  have e0 : (restP m.key).1 = textP mqttL ++ [4, UInt8.ofNat (bitV m.ret 32 + m.qos.toNat * 8 + bitV m.will 4 + bitV m.clean 2)] ++ fixedV m.alive.toNat 2 ++ textP m.client.data.toList ++ (if m.will then textP m.topic.data.toList ++ textP m.pay else []) := by
    unfold restP; rw [if_pos (show m.key.kind = 1 from k1)]; rfl
  have hq : 0 ≤ m.qos ∧ m.qos ≤ 2 := by
    by_cases c : m.will = true
    · have := (hm.msg.1 (.inr ⟨k1, c⟩)).2.2; exact this
    · have := (hm.msg.2 (fun y => by rcases y with y | y; · (have : m.kind = 3 := y); omega
                                     · exact c y.2)).2.2.1
      have : m.qos = 0 := this
      omega
  have ha : 0 ≤ m.alive ∧ m.alive ≤ 65535 := ⟨hc.1, hc.2.1⟩
  have cl : m.client.data.toList.length ≤ 64 := by rw [slen]; exact hc.2.2.1
  obtain ⟨q, hqe⟩ : ∃ q : Nat, m.qos = ((q : Nat) : Int) := ⟨m.qos.toNat, by omega⟩
  obtain ⟨al, hae⟩ : ∃ q : Nat, m.alive = ((q : Nat) : Int) := ⟨m.alive.toNat, by omega⟩
  have tm : (textP mqttL).length = 6 := by rw [textP_len]; rfl
  refine f74_go _ _ _ _ _ _ _ _ _ _ _ _ _ _ _ _ _ _ _ _ _ _ _ (f76_spec (l := []) (x := mqttL) w Rd.nil (by simp) (by decide) fun h1 a1 c1 v1 w1 => ⟨_, _, _, rfl, ?_⟩)
  rw [List.nil_append] at v1 w1 ⊢
  refine App_byte (m := 4) v1 w1 (by omega) (by decide) fun a2 c2 h2 v2 w2 => ⟨by decide, f75_spec (n := 32) rfl ⟨_, rfl, f75_spec (n := 4) rfl ⟨_, rfl, f75_spec (n := 2) rfl ⟨_, rfl, ?_⟩⟩⟩⟩
  obtain ⟨f1, f2, f3, f4⟩ := con_flags m.ret m.will m.clean q (by omega)
  rw [hqe, mul8 (k := 8) (z := 8) rfl (by omega) (by omega), or8 (bitV_lt (by decide)) (by omega) f2, or8 f2 (bitV_lt (by decide)) f3, or8 f3 (bitV_lt (by decide)) (by rw [f1]; omega), f1, len1 _ (UInt8.ofNat 4)]
  refine App_byte v2 w2 (by simp [tm]) (by omega) fun a3 c3 h3 v3 w3 => ?_
  rw [len1 _ (UInt8.ofNat (bitV m.ret 32 + q * 8 + bitV m.will 4 + bitV m.clean 2)), hae, wrap64u (by omega) (by omega)]
  refine f73_own v3 w3 (by simp [tm]) fun h4 a4 c4 v4 w4 => ⟨_, _, _, rfl, ?_⟩
  rw [strL m.client]
  refine f76_own v4 w4 (by simp [tm, fixedV_len]) (by omega) fun h5 a5 c5 v5 w5 => ⟨_, _, _, rfl, ?_⟩
  have qn : m.qos.toNat = q := by omega
  have an : m.alive.toNat = al := by omega
  rw [e0, qn, an] at hk
  have e1 : textP mqttL ++ [UInt8.ofNat 4] ++ [UInt8.ofNat (bitV m.ret 32 + q * 8 + bitV m.will 4 + bitV m.clean 2)] ++ fixedV al 2 ++ textP m.client.data.toList = textP mqttL ++ [4, UInt8.ofNat (bitV m.ret 32 + q * 8 + bitV m.will 4 + bitV m.clean 2)] ++ fixedV al 2 ++ textP m.client.data.toList := by simp only [List.append_assoc, List.singleton_append]; rfl
  rw [e1] at v5 w5 ⊢
  have lb : (textP mqttL ++ [4, UInt8.ofNat (bitV m.ret 32 + q * 8 + bitV m.will 4 + bitV m.clean 2)] ++ fixedV al 2 ++ textP m.client.data.toList).length ≤ 1000 := by
    simp only [List.length_append, tm, fixedV_len, textP_len, List.length_cons, List.length_nil]; omega
  generalize textP mqttL ++ [4, UInt8.ofNat (bitV m.ret 32 + q * 8 + bitV m.will 4 + bitV m.clean 2)] ++ fixedV al 2 ++ textP m.client.data.toList = L at *
  refine brB_of (fun z => ?_) fun z => ?_
  · have hmsg := hm.msg.1 (.inr ⟨k1, z⟩)
    have tl : m.topic.data.toList.length ≤ 64 := by rw [slen]; exact name_le hmsg.1
    have pl : m.pay.length ≤ 256 := hmsg.2.1
    rw [if_pos z] at hk
    have fin : ∀ h', Own w0 h' (slB a5 (u8s L) (c5 * 1) ++ X) → EvC Go.Proofs.Tryd.prog w0 76 #[.slice a5 L.length c5, .string m.topic] (fun x h'' => ∃ (p : Option Addr) (n d : Nat), x = .slice p n d ∧ EvC Go.Proofs.Tryd.prog w0 76 #[.slice p n d, .string (toB m.pay)] (fun x h3 => ∃ (p : Option Addr) (n d : Nat), x = .slice p n d ∧ K (.slice p n d) h3) h'') h' := fun h' w' => by
      rw [strL m.topic]
      refine f76_own v5 w' (by omega) (by omega) fun h6 a6 c6 v6 w6 => ⟨_, _, _, rfl, ?_⟩
      refine f76_own v6 w6 (by rw [List.length_append, textP_len]; omega) (by omega) fun h7 a7 c7 v7 w7 => ⟨_, _, _, rfl, ?_⟩
      have e2 : L ++ textP m.topic.data.toList ++ textP m.pay = L ++ (textP m.topic.data.toList ++ textP m.pay) := List.append_assoc ..
      rw [e2] at v7 w7 ⊢
      exact hk h7 a7 c7 v7 w7
    refine ⟨?_, rows8 (rm h5 w5.drop).pay rfl (fin h5 w5)⟩
    rw [strL m.topic]
    refine f76_own v5 w5 (by omega) (by omega) fun h6 a6 c6 v6 w6 => ⟨_, _, _, rfl, rows8 (rm h6 w6.drop).pay rfl ?_⟩
    refine f76_own v6 w6 (by rw [List.length_append, textP_len]; omega) (by omega) fun h7 a7 c7 v7 w7 => ⟨_, _, _, rfl, ?_⟩
    have e2 : L ++ textP m.topic.data.toList ++ textP m.pay = L ++ (textP m.topic.data.toList ++ textP m.pay) := List.append_assoc ..
    rw [e2] at v7 w7 ⊢
    exact hk h7 a7 c7 v7 w7
  · rw [if_neg (by rw [z]; decide), List.append_nil] at hk
    exact hk h5 a5 c5 v5 w5
end
end Go.G.YtciepfobnaemmaaDoor
