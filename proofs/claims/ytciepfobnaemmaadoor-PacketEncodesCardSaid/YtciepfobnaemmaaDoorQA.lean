/- The document's bytes: tails. -/
import Derived.Test.YtciepfobnaemmaaDoorPZ
import Derived.Test.YtciepfobnaemmaaDoorPX
import Derived.Test.YtciepfobnaemmaaDoorProg
set_option maxRecDepth 100000
namespace Go.G.YtciepfobnaemmaaDoor
open Go.RowKit
open Value (string slice int bool agg)
/-! ### a packet as bytes: the document's -/
section
variable {w0 : World} {K : Value → AH → Prop} {h : AH} {X : List (Nat × AB)} {a : Option Addr} {c : Nat} {L : List UInt8}
/-- The first byte, the length, what follows. -/
theorem tail18 {m : PkM} {kd fl : Nat} {F : Int} {N : Nat} (hN : N = L.length) (hke : m.kind = ((kd : Nat) : Int)) (hk16 : kd < 16) (hF : F = ((fl : Nat) : Int)) (hfl : fl < 16) (hL : L.length ≤ 1000) (w : Own w0 h X) (rL : ∀ h', Own w0 h' X → Rd w0 h' a (u8s L)) {Y : List (Nat × AB)} (hXY : ∃ Z, X = Z ++ Y)
    (hk : ∀ h' a c, SlV 1 a (UInt8.ofNat (kd * 16 + fl) :: (putV L.length ++ L)).length c (u8s (UInt8.ofNat (kd * 16 + fl) :: (putV L.length ++ L))) → Own w0 h' (slB a (u8s (UInt8.ofNat (kd * 16 + fl) :: (putV L.length ++ L))) (c * 1) ++ Y) → K (.tuple #[.slice a (UInt8.ofNat (kd * 16 + fl) :: (putV L.length ++ L)).length c, .int .i64 0]) h') :
    EvC Go.Proofs.Tryd.prog w0 21 #[.int .i64 ((N : Nat) : Int)] (fun x h54 => ∃ (p : Option Addr) (n d : Nat) (i : Int), x = .tuple #[.slice p n d, .int .i64 i] ∧ (0 : Int) ≤ 4 ∧
      newB w0 h54 (.cells [.int .u8 (IntKind.u8.wrap (((BitVec.toNat ((BitVec.ofInt 8 (IntKind.u8.wrap ((IntKind.u8.wrap m.kind) * (16 : Int)))) ||| (BitVec.ofInt 8 F))) : Nat) : Int))] (List.length [Value.int .u8 (IntKind.u8.wrap (((BitVec.toNat ((BitVec.ofInt 8 (IntKind.u8.wrap ((IntKind.u8.wrap m.kind) * (16 : Int)))) ||| (BitVec.ofInt 8 F))) : Nat) : Int))])) fun b h60 =>
        rowsOf w0 h60 1 p n fun ys => App w0 h60 1 1 (some ⟨b, 0, none⟩) 1 1 n ys fun a62 c63 h64 => rowsOf w0 h64 1 a N fun ys2 => App w0 h64 1 1 a62 (1 + n) c63 N ys2 fun a66 c67 h68 => K (.tuple #[.slice a66 ((1 + n) + N) c67, .int .i64 0]) h68) h := by
  subst hN hF
  obtain ⟨Z, rfl⟩ := hXY
  refine f21_spec w (by omega) fun h4 a4 c4 v4 w4 => ⟨_, _, _, _, rfl, by decide, fun b hb hn => ?_⟩
  have pl := putV_len10 (n := L.length) (by omega)
  have ex : IntKind.u8.wrap (((BitVec.toNat ((BitVec.ofInt 8 (IntKind.u8.wrap ((IntKind.u8.wrap m.kind) * (16 : Int)))) ||| (BitVec.ofInt 8 ((fl : Nat) : Int)))) : Nat) : Int) = ((kd * 16 + fl : Nat) : Int) := by
    have := first_or kd fl hk16 hfl
    rw [hke, mul8 (k := 16) (z := 16) rfl (by omega) (by omega), or8 (by omega) (by omega) (by omega), this]
  have eu : u8s [UInt8.ofNat (kd * 16 + fl)] = [.int .u8 ((kd * 16 + fl : Nat) : Int)] := by
    simp only [u8s, List.map_cons, List.map_nil, UInt8.toNat_ofNat']
    rw [Nat.mod_eq_of_lt (by omega)]
  have w5 := Own.new (o := .cells [.int .u8 (IntKind.u8.wrap (((BitVec.toNat ((BitVec.ofInt 8 (IntKind.u8.wrap ((IntKind.u8.wrap m.kind) * (16 : Int)))) ||| (BitVec.ofInt 8 ((fl : Nat) : Int)))) : Nat) : Int))] 1) w4 hb hn
  have w6 := w5.perm (cs := slB (some ⟨b, 0, none⟩) (u8s [UInt8.ofNat (kd * 16 + fl)]) (1 * 1) ++ (slB a4 (u8s (putV L.length)) (c4 * 1) ++ (Z ++ Y))) (List.Perm.of_eq (by rw [eu, ← ex]; rfl))
  have v6 : SlV 1 (some ⟨b, 0, none⟩) ([UInt8.ofNat (kd * 16 + fl)] : List UInt8).length 1 (u8s [UInt8.ofNat (kd * 16 + fl)]) := ⟨rfl, Nat.le_refl _, rfl, rfl⟩
  refine rowsOf_of (v4.rd w6) (by rw [u8s_length, Nat.mul_one]) (App_bytes v6 w6 (by simp; omega) fun a7 c7 h7 v7 w7 => ?_)
  have w8 := w7.cut
  rw [show 1 + (putV L.length).length = ([UInt8.ofNat (kd * 16 + fl)] ++ putV L.length).length by simp; omega]
  refine rowsOf_of (rL h7 w8.drop) (by rw [u8s_length, Nat.mul_one]) (App_bytes v7 w8 (by simp; omega) fun a9 c9 h9 v9 w9 => ?_)
  have w10 := w9.cut
  rw [show ([UInt8.ofNat (kd * 16 + fl)] ++ putV L.length).length + L.length = ([UInt8.ofNat (kd * 16 + fl)] ++ putV L.length ++ L).length from (List.length_append ..).symm]
  exact hk h9 a9 c9 v9 w10
/-- .. the bytes being the law's own. -/
theorem tail18o {m : PkM} {kd fl : Nat} {F : Int} {N : Nat} (hN : N = L.length) (hke : m.kind = ((kd : Nat) : Int)) (hk16 : kd < 16) (hF : F = ((fl : Nat) : Int)) (hfl : fl < 16) (hL : L.length ≤ 1000) (v : SlV 1 a L.length c (u8s L)) (w : Own w0 h (slB a (u8s L) (c * 1) ++ X))
    (hk : ∀ h' a c, SlV 1 a (UInt8.ofNat (kd * 16 + fl) :: (putV L.length ++ L)).length c (u8s (UInt8.ofNat (kd * 16 + fl) :: (putV L.length ++ L))) → Own w0 h' (slB a (u8s (UInt8.ofNat (kd * 16 + fl) :: (putV L.length ++ L))) (c * 1) ++ X) → K (.tuple #[.slice a (UInt8.ofNat (kd * 16 + fl) :: (putV L.length ++ L)).length c, .int .i64 0]) h') :
    EvC Go.Proofs.Tryd.prog w0 21 #[.int .i64 ((N : Nat) : Int)] (fun x h54 => ∃ (p : Option Addr) (n d : Nat) (i : Int), x = .tuple #[.slice p n d, .int .i64 i] ∧ (0 : Int) ≤ 4 ∧
      newB w0 h54 (.cells [.int .u8 (IntKind.u8.wrap (((BitVec.toNat ((BitVec.ofInt 8 (IntKind.u8.wrap ((IntKind.u8.wrap m.kind) * (16 : Int)))) ||| (BitVec.ofInt 8 F))) : Nat) : Int))] (List.length [Value.int .u8 (IntKind.u8.wrap (((BitVec.toNat ((BitVec.ofInt 8 (IntKind.u8.wrap ((IntKind.u8.wrap m.kind) * (16 : Int)))) ||| (BitVec.ofInt 8 F))) : Nat) : Int))])) fun b h60 =>
        rowsOf w0 h60 1 p n fun ys => App w0 h60 1 1 (some ⟨b, 0, none⟩) 1 1 n ys fun a62 c63 h64 => rowsOf w0 h64 1 a N fun ys2 => App w0 h64 1 1 a62 (1 + n) c63 N ys2 fun a66 c67 h68 => K (.tuple #[.slice a66 ((1 + n) + N) c67, .int .i64 0]) h68) h :=
  tail18 hN hke hk16 hF hfl hL w (fun h' w' => v.rd (cs := []) w') ⟨_, rfl⟩ hk
theorem f46_str {x : List UInt8} (v : SlV 1 a L.length c (u8s L)) (w : Own w0 h (slB a (u8s L) (c * 1) ++ X)) (hl : L.length ≤ 10000000) (hx : x.length ≤ 65535)
    (hk : ∀ h' a' c', SlV 1 a' (L ++ textP x).length c' (u8s (L ++ textP x)) → Own w0 h' (slB a' (u8s (L ++ textP x)) (c' * 1) ++ X) → K (.slice a' (L ++ textP x).length c') h') : ∀ n, (toB x).size ≤ n → newB w0 h (.cells (intsOf (toB x)) n) fun b h' => EvC Go.Proofs.Tryd.prog w0 46 #[.slice a L.length c, .slice (some ⟨b, 0, none⟩) (toB x).size n] K h' := fun n hn b hb hbn => by
  have w1 := Own.new (o := .cells (intsOf (toB x)) n) w hb hbn
  have w2 : Own w0 _ (slB a (u8s L) (c * 1) ++ ((b, .cells (intsOf (toB x)) n) :: X)) := Own.front (cs := [_]) (ds := slB a (u8s L) (c * 1)) w1
  rw [size_toB] at hn ⊢
  refine f46_spec v w2 (fun h' C w' => ?_) hl hx fun h3 a3 c3 v3 w3 => hk h3 a3 c3 v3 (Own.cut (ds := [_]) w3)
  have hm := w'.mem (List.mem_append_right C (List.mem_cons_self ..))
  exact fun j y hj => ⟨_, rfl, own_cell hm.1 hm.2 hj⟩
theorem f46_strS {s : ByteArray} (v : SlV 1 a L.length c (u8s L)) (w : Own w0 h (slB a (u8s L) (c * 1) ++ X)) (hl : L.length ≤ 10000000) (hx : s.data.toList.length ≤ 65535)
    (hk : ∀ h' a' c', SlV 1 a' (L ++ textP s.data.toList).length c' (u8s (L ++ textP s.data.toList)) → Own w0 h' (slB a' (u8s (L ++ textP s.data.toList)) (c' * 1) ++ X) → K (.slice a' (L ++ textP s.data.toList).length c') h') : ∀ n, s.size ≤ n → newB w0 h (.cells (intsOf s) n) fun b h' => EvC Go.Proofs.Tryd.prog w0 46 #[.slice a L.length c, .slice (some ⟨b, 0, none⟩) s.size n] K h' := by
  have := f46_str (x := s.data.toList) v w hl hx hk
  rw [toB_data] at this
  exact this
theorem f46_specN {x : List UInt8} {b : Option Addr} {d N : Nat} (hN : N = x.length) (v : SlV 1 a L.length c (u8s L)) (w : Own w0 h (slB a (u8s L) (c * 1) ++ X)) (hx : ∀ h' C, Own w0 h' (C ++ X) → Rd w0 h' b (u8s x)) (hl : L.length ≤ 10000000) (hxl : x.length ≤ 65535)
    (hk : ∀ h' a' c', SlV 1 a' (L ++ textP x).length c' (u8s (L ++ textP x)) → Own w0 h' (slB a' (u8s (L ++ textP x)) (c' * 1) ++ X) → K (.slice a' (L ++ textP x).length c') h') : EvC Go.Proofs.Tryd.prog w0 46 #[.slice a L.length c, .slice b N d] K h := by
  subst hN; exact f46_spec v w hx hl hxl hk
end
end Go.G.YtciepfobnaemmaaDoor
