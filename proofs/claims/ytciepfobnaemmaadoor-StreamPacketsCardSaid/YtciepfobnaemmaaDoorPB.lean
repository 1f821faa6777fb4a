/- A byte, two, a text. -/
import Derived.Test.YtciepfobnaemmaaDoorPA
import Derived.Test.YtciepfobnaemmaaDoorProg
set_option maxRecDepth 100000
namespace Go.G.YtciepfobnaemmaaDoor
open Go.RowKit
open Value (string slice int bool agg)
def f65_J : Nat → List Nat × Nat := jOf []



theorem f65_go {w0 : World} {K : Value → AH → Prop} (a : Option Addr) (h : AH)
  (hv : (EvC Proofs.Tryd.prog w0 89 #[(Value.pointer a), (int .i64 (1 : Int))] (fun i b => (∃ c : Option Addr, (∃ d : Nat, (∃ k : Nat, ((i = (slice c d k)) ∧ (∃ e : Addr, ((c = (some e)) ∧ (((0 : Int) ≤ (0 : Int)) ∧ (((0 : Int) < ((d : Nat) : Int)) ∧ (∃ g : Int, (((cellA w0 b (Addr.add e 0)) = (some (int .u8 g))) ∧ (K (int .i64 (IntKind.wrap .i64 g)) b)))))))))))) h)) :
  EvC Proofs.Tryd.prog w0 65 ([(.pointer a)]).toArray K h := EvC_intro (P := Proofs.Tryd.prog) f65_J (Eq.mp (by kernel_rfl) hv)
def f87_J : Nat → List Nat × Nat := jOf []



theorem f87_go {w0 : World} {K : Value → AH → Prop} (d : Option Addr) (h : AH)
  (hv : (EvC Proofs.Tryd.prog w0 89 #[(Value.pointer d), (int .i64 (2 : Int))] (fun m a => (∃ b : Option Addr, (∃ c : Nat, (∃ n : Nat, ((m = (slice b c n)) ∧ (∃ e : Addr, ((b = (some e)) ∧ (((0 : Int) ≤ (0 : Int)) ∧ (((0 : Int) < ((c : Nat) : Int)) ∧ (∃ g : Int, (((cellA w0 a (Addr.add e 0)) = (some (int .u8 g))) ∧ (((0 : Int) ≤ (8 : Int)) ∧ (∃ i : Addr, ((b = (some i)) ∧ (((0 : Int) ≤ (1 : Int)) ∧ (((1 : Int) < ((c : Nat) : Int)) ∧ (∃ k : Int, (((cellA w0 a (Addr.add i 1)) = (some (int .u8 k))) ∧ (K (int .i64 (IntKind.wrap .i64 (((BitVec.toNat ((BitVec.ofInt 64 (IntKind.wrap .i64 ((IntKind.wrap .i64 g) * (256 : Int)))) ||| (BitVec.ofInt 64 (IntKind.wrap .i64 k)))) : Nat) : Int))) a))))))))))))))))))) h)) :
  EvC Proofs.Tryd.prog w0 87 ([(.pointer d)]).toArray K h := EvC_intro (P := Proofs.Tryd.prog) f87_J (Eq.mp (by kernel_rfl) hv)
def f88_J : Nat → List Nat × Nat := jOf []



theorem f88_go {w0 : World} {K : Value → AH → Prop} (a : Option Addr) (h : AH)
  (hv : (EvC Proofs.Tryd.prog w0 87 #[(Value.pointer a)] (fun p c => (∃ d : Int, ((p = (int .i64 d)) ∧ (∃ e : Addr, ((a = (some e)) ∧ (∃ g : Int, (((cellA w0 c (Addr.add e 1)) = (some (int .i64 g))) ∧ (brB (g != (0 : Int)) (K (string (ByteArray.mk #[])) c) (EvC Proofs.Tryd.prog w0 89 #[(Value.pointer a), (int .i64 d)] (fun q b => (∃ i : Option Addr, (∃ k : Nat, (∃ r : Nat, ((q = (slice i k r)) ∧ (∃ m : Addr, ((a = (some m)) ∧ (∃ n : Int, (((cellA w0 b (Addr.add m 1)) = (some (int .i64 n))) ∧ (brB (n != (0 : Int)) (K (string (ByteArray.mk #[])) b) (rowsOf w0 b 1 i k (fun s => (∃ o : ByteArray, ((s = (intsOf o)) ∧ (K (string o) b))))))))))))))) c))))))))) h)) :
  EvC Proofs.Tryd.prog w0 88 ([(.pointer a)]).toArray K h := EvC_intro (P := Proofs.Tryd.prog) f88_J (Eq.mp (by kernel_rfl) hv)
def f63_J : Nat → List Nat × Nat := jOf []



theorem f63_go {w0 : World} {K : Value → AH → Prop} (a : Option Addr) (h : AH)
  (hv : (EvC Proofs.Tryd.prog w0 87 #[(Value.pointer a)] (fun c d => (∃ b : Int, ((c = (int .i64 b)) ∧ (EvC Proofs.Tryd.prog w0 66 #[(Value.pointer a), (bool (b == (0 : Int))), (int .i64 (3 : Int))] (fun e g => ((e = (Value.tuple #[])) ∧ (K (int .i64 b) g))) d)))) h)) :
  EvC Proofs.Tryd.prog w0 63 ([(.pointer a)]).toArray K h := EvC_intro (P := Proofs.Tryd.prog) f63_J (Eq.mp (by kernel_rfl) hv)
def f36_J : Nat → List Nat × Nat := jOf []



theorem f36_go {w0 : World} {K : Value → AH → Prop} (c : Option Addr) (h : AH)
  (hv : (EvC Proofs.Tryd.prog w0 41 #[(Value.pointer c), (int .i64 (1 : Int))] (fun i a => (∃ d : Option Addr, (∃ b : Nat, (∃ k : Nat, ((i = (slice d b k)) ∧ (brB (((b : Nat) : Int) == (1 : Int)) (∃ e : Addr, ((d = (some e)) ∧ (((0 : Int) ≤ (0 : Int)) ∧ (((0 : Int) < ((b : Nat) : Int)) ∧ (∃ g : Int, (((cellA w0 a (Addr.add e 0)) = (some (int .u8 g))) ∧ (K (int .u8 g) a))))))) (K (int .u8 (0 : Int)) a))))))) h)) :
  EvC Proofs.Tryd.prog w0 36 ([(.pointer c)]).toArray K h := EvC_intro (P := Proofs.Tryd.prog) f36_J (Eq.mp (by kernel_rfl) hv)
def f71_J : Nat → List Nat × Nat := jOf []



theorem f71_go {w0 : World} {K : Value → AH → Prop} (d : Option Addr) (h : AH)
  (hv : (EvC Proofs.Tryd.prog w0 41 #[(Value.pointer d), (int .i64 (2 : Int))] (fun m a => (∃ c : Option Addr, (∃ b : Nat, (∃ n : Nat, ((m = (slice c b n)) ∧ (brB (((b : Nat) : Int) == (2 : Int)) (∃ e : Addr, ((c = (some e)) ∧ (((0 : Int) ≤ (0 : Int)) ∧ (((0 : Int) < ((b : Nat) : Int)) ∧ (∃ g : Int, (((cellA w0 a (Addr.add e 0)) = (some (int .u8 g))) ∧ (((0 : Int) ≤ (8 : Int)) ∧ (∃ i : Addr, ((c = (some i)) ∧ (((0 : Int) ≤ (1 : Int)) ∧ (((1 : Int) < ((b : Nat) : Int)) ∧ (∃ k : Int, (((cellA w0 a (Addr.add i 1)) = (some (int .u8 k))) ∧ (K (int .i64 (IntKind.wrap .i64 (((BitVec.toNat ((BitVec.ofInt 64 (IntKind.wrap .i64 ((IntKind.wrap .i64 g) * (256 : Int)))) ||| (BitVec.ofInt 64 (IntKind.wrap .i64 k)))) : Nat) : Int))) a)))))))))))))) (K (int .i64 (0 : Int)) a))))))) h)) :
  EvC Proofs.Tryd.prog w0 71 ([(.pointer d)]).toArray K h := EvC_intro (P := Proofs.Tryd.prog) f71_J (Eq.mp (by kernel_rfl) hv)
def f70_J : Nat → List Nat × Nat := jOf []



theorem f70_go {w0 : World} {K : Value → AH → Prop} (a : Option Addr) (h : AH)
  (hv : (EvC Proofs.Tryd.prog w0 71 #[(Value.pointer a)] (fun g i => (∃ b : Int, ((g = (int .i64 b)) ∧ (EvC Proofs.Tryd.prog w0 41 #[(Value.pointer a), (int .i64 b)] (fun k m => (∃ c : Option Addr, (∃ d : Nat, (∃ e : Nat, ((k = (slice c d e)) ∧ (K (slice c d e) m)))))) i)))) h)) :
  EvC Proofs.Tryd.prog w0 70 ([(.pointer a)]).toArray K h := EvC_intro (P := Proofs.Tryd.prog) f70_J (Eq.mp (by kernel_rfl) hv)
def f39_J : Nat → List Nat × Nat := jOf []



theorem f39_go {w0 : World} {K : Value → AH → Prop} (b : Option Addr) (h : AH)
  (hv : (EvC Proofs.Tryd.prog w0 71 #[(Value.pointer b)] (fun d c => (∃ a : Int, ((d = (int .i64 a)) ∧ (brB (a == (0 : Int)) (EvC Proofs.Tryd.prog w0 37 #[(Value.pointer b), (int .i64 (3 : Int))] (fun e g => ((e = (Value.tuple #[])) ∧ (K (int .i64 a) g))) c) (K (int .i64 a) c))))) h)) :
  EvC Proofs.Tryd.prog w0 39 ([(.pointer b)]).toArray K h := EvC_intro (P := Proofs.Tryd.prog) f39_J (Eq.mp (by kernel_rfl) hv)
def f38_J : Nat → List Nat × Nat := jOf []



theorem f38_go {w0 : World} {K : Value → AH → Prop} (b : Option Addr) (h : AH)
  (hv : (EvC Proofs.Tryd.prog w0 70 #[(Value.pointer b)] (fun k c => (∃ d : Option Addr, (∃ e : Nat, (∃ m : Nat, ((k = (slice d e m)) ∧ (rowsOf w0 c 1 d e (fun n => (∃ a : ByteArray, ((n = (intsOf a)) ∧ (EvC Proofs.Tryd.prog w0 58 #[(string a)] (fun o g => (∃ i : Bool, ((o = (bool i)) ∧ (brB (!i) (EvC Proofs.Tryd.prog w0 37 #[(Value.pointer b), (int .i64 (15 : Int))] (fun p q => ((p = (Value.tuple #[])) ∧ (K (string a) q))) g) (K (string a) g))))) c)))))))))) h)) :
  EvC Proofs.Tryd.prog w0 38 ([(.pointer b)]).toArray K h := EvC_intro (P := Proofs.Tryd.prog) f38_J (Eq.mp (by kernel_rfl) hv)
def f40_J : Nat → List Nat × Nat := jOf []



theorem f40_go {w0 : World} {K : Value → AH → Prop} (d b : Option Addr) (a c : Nat) (h : AH)
  (hv : (brB (decide (((256 : Int) < ((a : Nat) : Int)))) (EvC Proofs.Tryd.prog w0 37 #[(Value.pointer d), (int .i64 (2 : Int))] (fun e g => ((e = (Value.tuple #[])) ∧ (K (slice b a c) g))) h) (K (slice b a c) h))) :
  EvC Proofs.Tryd.prog w0 40 ([(.pointer d), (.slice b a c)]).toArray K h := EvC_intro (P := Proofs.Tryd.prog) f40_J (Eq.mp (by kernel_rfl) hv)
/-! ### a byte, two bytes, a text, an id -/
theorem or_add {m y k : Nat} (h : y < 2 ^ k) : m * 2 ^ k ||| y = m * 2 ^ k + y := by
  rw [← Nat.shiftLeft_eq, Nat.shiftLeft_add_eq_or_of_lt h]
theorem or_i64 {a b : Nat} (h : a ||| b < 9223372036854775808) (ha : a < 9223372036854775808) (hb : b < 9223372036854775808) :
    IntKind.i64.wrap (((BitVec.toNat ((BitVec.ofInt 64 ((a : Nat) : Int)) ||| (BitVec.ofInt 64 ((b : Nat) : Int)))) : Nat) : Int) = ((a ||| b : Nat) : Int) := by
  rw [ofInt_nat, ofInt_nat, BitVec.toNat_or, BitVec.toNat_ofNat, BitVec.toNat_ofNat, Nat.mod_eq_of_lt (by omega), Nat.mod_eq_of_lt (by omega), wrap64 (by omega) (by omega)]
theorem wrapB (x : UInt8) : IntKind.i64.wrap ((x.toNat : Nat) : Int) = ((x.toNat : Nat) : Int) := by
  have := x.toNat_lt
  rw [wrap64 (by omega) (by omega)]
theorem two_val (x y : UInt8) : IntKind.i64.wrap (((BitVec.toNat ((BitVec.ofInt 64 (IntKind.i64.wrap ((IntKind.i64.wrap ((x.toNat : Nat) : Int)) * (256 : Int)))) ||| (BitVec.ofInt 64 (IntKind.i64.wrap ((y.toNat : Nat) : Int))))) : Nat) : Int) = ((x.toNat * 256 + y.toNat : Nat) : Int) := by
  have h1 := x.toNat_lt
  have h2 := y.toNat_lt
  have e := or_add (m := x.toNat) (y := y.toNat) (k := 8) (by omega)
  rw [wrapB, wrapB, wrap64 (x := ((x.toNat : Nat) : Int) * 256) (by omega) (by omega), show ((x.toNat : Nat) : Int) * 256 = ((x.toNat * 2 ^ 8 : Nat) : Int) by simp, or_i64 (by omega) (by omega) (by omega), e]
theorem take_one {l : List UInt8} (h : 1 ≤ l.length) : ∃ x, l.take 1 = [x] := by
  cases l with
  | nil => simp at h
  | cons x t => exact ⟨x, rfl⟩
theorem take_two {l : List UInt8} (h : 2 ≤ l.length) : ∃ x y, l.take 2 = [x, y] := by
  match l, h with
  | x :: y :: t, _ => exact ⟨x, y, rfl⟩
theorem one_cases (s : RS) : (∃ x, takeX s 1 = [x] ∧ (takeS s 1).1 = [x] ∧ oneS s = (x.toNat, (takeS s 1).2)) ∨ (takeX s 1 = [0] ∧ (takeS s 1).1 = [] ∧ oneS s = (0, (takeS s 1).2)) := by
  by_cases q : s.2 = 0 ∧ 1 ≤ s.1.length
  · obtain ⟨x, hx⟩ := take_one q.2
    have e := takeS_ok q.1 q.2
    have e' : (takeS s 1).1 = [x] := by rw [e]; exact hx
    exact .inl ⟨x, by rw [takeX, if_pos q, hx], e', by unfold oneS; rw [e']⟩
  · have e' : (takeS s 1).1 = [] := by rw [takeS_no q]
    exact .inr ⟨by rw [takeX, if_neg q]; rfl, e', by unfold oneS; rw [e']⟩
theorem two_cases (s : RS) : (∃ x y, takeX s 2 = [x, y] ∧ (takeS s 2).1 = [x, y] ∧ twoS s = (x.toNat * 256 + y.toNat, (takeS s 2).2)) ∨ (takeX s 2 = [0, 0] ∧ (takeS s 2).1 = [] ∧ twoS s = (0, (takeS s 2).2)) := by
  by_cases q : s.2 = 0 ∧ 2 ≤ s.1.length
  · obtain ⟨x, y, hx⟩ := take_two q.2
    have e := takeS_ok q.1 q.2
    have e' : (takeS s 2).1 = [x, y] := by rw [e]; exact hx
    exact .inl ⟨x, y, by rw [takeX, if_pos q, hx], e', by unfold twoS; rw [e']⟩
  · have e' : (takeS s 2).1 = [] := by rw [takeS_no q]
    exact .inr ⟨by rw [takeX, if_neg q]; rfl, e', by unfold twoS; rw [e']⟩
theorem two_lt (s : RS) : (twoS s).1 < 65536 := by
  rcases two_cases s with ⟨x, y, _, _, e⟩ | ⟨_, _, e⟩
  · rw [e]
    have h1 := x.toNat_lt
    have h2 := y.toNat_lt
    show x.toNat * 256 + y.toNat < 65536
    omega
  · rw [e]; exact (by decide : 0 < 65536)
theorem one_lt (s : RS) : (oneS s).1 < 256 := by
  rcases one_cases s with ⟨x, _, _, e⟩ | ⟨_, _, e⟩
  · rw [e]; exact x.toNat_lt
  · rw [e]; exact (by decide : 0 < 256)
theorem takeS_len (s : RS) (n : Nat) : (takeS s n).1.length ≤ n := by
  unfold takeS
  split
  · split
    · exact List.length_take_le ..
    · exact Nat.zero_le _
  · exact Nat.zero_le _
theorem text_len (s : RS) : (textS s).1.length < 65536 := Nat.lt_of_le_of_lt (takeS_len _ _) (two_lt s)
section
variable {w0 : World} {K : Value → AH → Prop} {h : AH} {B R : List (Nat × AB)} {b c : Nat} {p : Option Addr} {s : RS}
/-- one. -/
theorem f65_spec (w : Own w0 h (rdB b p c s :: B)) (r : Rdr w0 R p c s.1) (hs : R ⊆ B)
    (hk : ∀ h' p' c', Own w0 h' (rdB b p' c' (oneS s).2 :: B) → Rdr w0 R p' c' (oneS s).2.1 → K (.int .i64 (((oneS s).1 : Nat) : Int)) h') : EvC Go.Proofs.Tryd.prog w0 65 #[.pointer (some ⟨b, 0, none⟩)] K h := by
  refine f65_go _ _ (f89_spec (n := 1) w r hs (by omega) fun h1 p1 c1 a d D w1 r1 ra => ?_)
  have main : ∀ x : UInt8, takeX s 1 = [x] → oneS s = (x.toNat, (takeS s 1).2) → ∃ p' n' c', (Value.slice a (takeX s 1).length d = .slice p' n' c') ∧ ∃ a', p' = some a' ∧ (0 : Int) ≤ 0 ∧ (0 : Int) < ((n' : Nat) : Int) ∧ ∃ i : Int, cellA w0 h1 (Addr.add a' 0) = some (.int .u8 i) ∧ K (.int .i64 (IntKind.i64.wrap i)) h1 := fun x hx e => by
    rw [hx] at ra ⊢
    obtain ⟨ad, had, hc⟩ := ra 0 _ rfl
    refine ⟨_, _, _, rfl, ad, had, by omega, by simp, _, hc, ?_⟩
    rw [wrapB]
    rw [e] at hk
    exact hk h1 p1 c1 (Own.cut (cs := [_]) w1) r1
  rcases one_cases s with ⟨x, hx, _, e⟩ | ⟨hx, _, e⟩
  · exact main x hx e
  · exact main 0 hx e
/-- two. -/
theorem f87_spec (w : Own w0 h (rdB b p c s :: B)) (r : Rdr w0 R p c s.1) (hs : R ⊆ B)
    (hk : ∀ h' p' c', Own w0 h' (rdB b p' c' (twoS s).2 :: B) → Rdr w0 R p' c' (twoS s).2.1 → K (.int .i64 (((twoS s).1 : Nat) : Int)) h') : EvC Go.Proofs.Tryd.prog w0 87 #[.pointer (some ⟨b, 0, none⟩)] K h := by
  refine f87_go _ _ (f89_spec (n := 2) w r hs (by omega) fun h1 p1 c1 a d D w1 r1 ra => ?_)
  have main : ∀ x y : UInt8, takeX s 2 = [x, y] → twoS s = (x.toNat * 256 + y.toNat, (takeS s 2).2) → ∃ p' n' c', (Value.slice a (takeX s 2).length d = .slice p' n' c') ∧ ∃ a', p' = some a' ∧ (0 : Int) ≤ 0 ∧ (0 : Int) < ((n' : Nat) : Int) ∧ ∃ i : Int, cellA w0 h1 (Addr.add a' 0) = some (.int .u8 i) ∧ (0 : Int) ≤ 8 ∧ ∃ a2, p' = some a2 ∧ (0 : Int) ≤ 1 ∧ (1 : Int) < ((n' : Nat) : Int) ∧ ∃ j : Int, cellA w0 h1 (Addr.add a2 1) = some (.int .u8 j) ∧
      K (.int .i64 (IntKind.i64.wrap (((BitVec.toNat ((BitVec.ofInt 64 (IntKind.i64.wrap ((IntKind.i64.wrap i) * (256 : Int)))) ||| (BitVec.ofInt 64 (IntKind.i64.wrap j)))) : Nat) : Int))) h1 := fun x y hx e => by
    rw [hx] at ra ⊢
    obtain ⟨ad, had, hc⟩ := ra 0 _ rfl
    obtain ⟨ad2, had2, hc2⟩ := ra 1 _ rfl
    refine ⟨_, _, _, rfl, ad, had, by omega, by simp, _, hc, by omega, ad2, had2, by omega, by simp, _, hc2, ?_⟩
    rw [two_val]
    rw [e] at hk
    exact hk h1 p1 c1 (Own.cut (cs := [_]) w1) r1
  rcases two_cases s with ⟨x, y, hx, _, e⟩ | ⟨hx, _, e⟩
  · exact main x y hx e
  · exact main 0 0 hx e
/-- text. -/
theorem f88_spec (w : Own w0 h (rdB b p c s :: B)) (r : Rdr w0 R p c s.1) (hs : R ⊆ B)
    (hk : ∀ h' p' c', Own w0 h' (rdB b p' c' (textS s).2 :: B) → Rdr w0 R p' c' (textS s).2.1 → K (.string (toB (textS s).1)) h') : EvC Go.Proofs.Tryd.prog w0 88 #[.pointer (some ⟨b, 0, none⟩)] K h := by
  have lt := two_lt s
  have et : textS s = takeS (twoS s).2 (twoS s).1 := rfl
  refine f88_go _ _ (f87_spec w r hs fun h1 p1 c1 w1 r1 => ⟨_, rfl, _, rfl, _, w1.cell0 rfl, brB_of (fun z => ?_) fun z => ?_⟩)
  · have e1 : textS s = ([], (twoS s).2) := by rw [et]; unfold takeS; rw [if_neg (by simpa using z)]
    rw [e1] at hk
    exact hk h1 p1 c1 w1 r1
  · have z' : (twoS s).2.2 = 0 := by simpa using z
    refine f89_spec w1 r1 hs (by omega) fun h2 p2 c2 a d D w2 r2 ra => ⟨_, _, _, rfl, _, rfl, _, w2.cell0 rfl, brB_of (fun y => ?_) fun y => ?_⟩
    · have hn : ¬ (twoS s).1 ≤ (twoS s).2.1.length := fun q => by rw [takeS_ok z' q] at y; simp at y
      have e1 : textS s = ([], failS (twoS s).2 (decide ((twoS s).2.1.length < (twoS s).1)) 3) := by rw [et, takeS_no (fun q => hn q.2)]
      rw [takeS_no (fun q => hn q.2)] at w2 r2
      rw [e1] at hk
      exact hk h2 p2 c2 (Own.cut (cs := [_]) w2) r2
    · have hn : (twoS s).1 ≤ (twoS s).2.1.length := by
        by_cases q : (twoS s).1 ≤ (twoS s).2.1.length
        · exact q
        · rw [takeS_no (fun t => q t.2)] at y
          unfold failS at y
          rw [decide_eq_true (by omega), decide_eq_true z'] at y
          simp at y
      have ex : takeX (twoS s).2 (twoS s).1 = (textS s).1 := by rw [takeX, if_pos ⟨z', hn⟩, et, takeS_ok z' hn]
      rw [ex] at ra ⊢
      exact rows8 ra rfl (hk h2 p2 c2 (Own.cut (cs := [_]) w2) r2)
/-- id. -/
theorem f63_spec (w : Own w0 h (rdB b p c s :: B)) (r : Rdr w0 R p c s.1) (hs : R ⊆ B)
    (hk : ∀ h' p' c', Own w0 h' (rdB b p' c' (idS s).2 :: B) → Rdr w0 R p' c' (idS s).2.1 → K (.int .i64 (((idS s).1 : Nat) : Int)) h') : EvC Go.Proofs.Tryd.prog w0 63 #[.pointer (some ⟨b, 0, none⟩)] K h := by
  refine f63_go _ _ (f87_spec w r hs fun h1 p1 c1 w1 r1 => ⟨_, rfl, f66_spec w1 fun h2 w2 => ⟨rfl, ?_⟩⟩)
  have e0 : ((((twoS s).1 : Nat) : Int) == 0) = decide ((twoS s).1 = 0) := by rw [Bool.eq_iff_iff]; simp
  rw [e0] at w2
  exact hk h2 p1 c1 w2 (by unfold idS; rw [failS_fst]; exact r1)
/-! the document's -/
theorem f36_spec (w : Own w0 h (rdB b p c s :: B)) (r : Rdr w0 R p c s.1) (hs : R ⊆ B)
    (hk : ∀ h' p' c', Own w0 h' (rdB b p' c' (oneS s).2 :: B) → Rdr w0 R p' c' (oneS s).2.1 → K (.int .u8 (((oneS s).1 : Nat) : Int)) h') : EvC Go.Proofs.Tryd.prog w0 36 #[.pointer (some ⟨b, 0, none⟩)] K h := by
  refine f36_go _ _ (f41_spec (n := 1) w r hs (by omega) fun h1 p1 c1 a d v w1 r1 => ?_)
  rcases one_cases s with ⟨x, _, hx, e⟩ | ⟨_, hx, e⟩
  · rw [hx] at v w1 ⊢
    obtain ⟨ad, had, hc⟩ := (v.rd (cs := [_]) w1) 0 _ rfl
    rw [e] at hk
    exact ⟨_, _, _, rfl, brB_of (fun _ => ⟨ad, had, by omega, by simp, _, hc, hk h1 p1 c1 (Own.cut (cs := [_]) w1) r1⟩) fun z => by simp at z⟩
  · rw [hx] at v w1 ⊢
    rw [e] at hk
    exact ⟨_, _, _, rfl, brB_of (fun z => by simp at z) fun _ => hk h1 p1 c1 (Own.cut (cs := [_]) w1) r1⟩
theorem f71_spec (w : Own w0 h (rdB b p c s :: B)) (r : Rdr w0 R p c s.1) (hs : R ⊆ B)
    (hk : ∀ h' p' c', Own w0 h' (rdB b p' c' (twoS s).2 :: B) → Rdr w0 R p' c' (twoS s).2.1 → K (.int .i64 (((twoS s).1 : Nat) : Int)) h') : EvC Go.Proofs.Tryd.prog w0 71 #[.pointer (some ⟨b, 0, none⟩)] K h := by
  refine f71_go _ _ (f41_spec (n := 2) w r hs (by omega) fun h1 p1 c1 a d v w1 r1 => ?_)
  rcases two_cases s with ⟨x, y, _, hx, e⟩ | ⟨_, hx, e⟩
  · rw [hx] at v w1 ⊢
    obtain ⟨ad, had, hc⟩ := (v.rd (cs := [_]) w1) 0 _ rfl
    obtain ⟨ad2, had2, hc2⟩ := (v.rd (cs := [_]) w1) 1 _ rfl
    rw [e] at hk
    refine ⟨_, _, _, rfl, brB_of (fun _ => ⟨ad, had, by omega, by simp, _, hc, by omega, ad2, had2, by omega, by simp, _, hc2, ?_⟩) fun z => by simp at z⟩
    rw [two_val]
    exact hk h1 p1 c1 (Own.cut (cs := [_]) w1) r1
  · rw [hx] at v w1 ⊢
    rw [e] at hk
    exact ⟨_, _, _, rfl, brB_of (fun z => by simp at z) fun _ => hk h1 p1 c1 (Own.cut (cs := [_]) w1) r1⟩
theorem f70_spec (w : Own w0 h (rdB b p c s :: B)) (r : Rdr w0 R p c s.1) (hs : R ⊆ B)
    (hk : ∀ h' p' c' a d, SlV 1 a (textS s).1.length d (u8s (textS s).1) → Own w0 h' (rdB b p' c' (textS s).2 :: (slB a (u8s (textS s).1) (d * 1) ++ B)) → Rdr w0 R p' c' (textS s).2.1 → K (.slice a (textS s).1.length d) h') :
    EvC Go.Proofs.Tryd.prog w0 70 #[.pointer (some ⟨b, 0, none⟩)] K h := by
  have lt := two_lt s
  exact f70_go _ _ (f71_spec w r hs fun h1 p1 c1 w1 r1 => ⟨_, rfl, f41_spec w1 r1 hs (by omega) fun h2 p2 c2 a d v w2 r2 => ⟨_, _, _, rfl, hk h2 p2 c2 a d v w2 r2⟩⟩)
theorem f39_spec (w : Own w0 h (rdB b p c s :: B)) (r : Rdr w0 R p c s.1) (hs : R ⊆ B)
    (hk : ∀ h' p' c', Own w0 h' (rdB b p' c' (idS s).2 :: B) → Rdr w0 R p' c' (idS s).2.1 → K (.int .i64 (((idS s).1 : Nat) : Int)) h') : EvC Go.Proofs.Tryd.prog w0 39 #[.pointer (some ⟨b, 0, none⟩)] K h := by
  have e0 : ((((twoS s).1 : Nat) : Int) == 0) = decide ((twoS s).1 = 0) := by rw [Bool.eq_iff_iff]; simp
  refine f39_go _ _ (f71_spec w r hs fun h1 p1 c1 w1 r1 => ⟨_, rfl, ?_⟩)
  rw [e0]
  refine brB_of (fun z => f37_spec w1 fun h2 w2 => ⟨rfl, ?_⟩) fun z => ?_
  · unfold idS at hk
    rw [z] at hk
    exact hk h2 p1 c1 w2 (by rw [failS_fst]; exact r1)
  · unfold idS at hk
    rw [z] at hk
    exact hk h1 p1 c1 w1 (by rw [failS_fst]; exact r1)
/-- name: a topic. -/
theorem f38_spec (T : TabOk w0) (w : Own w0 h (rdB b p c s :: B)) (r : Rdr w0 R p c s.1) (hs : R ⊆ B)
    (hk : ∀ h' p' c', Own w0 h' (rdB b p' c' (failS (textS s).2 (!(nameB (toB (textS s).1))) 15) :: B) → Rdr w0 R p' c' (textS s).2.1 → K (.string (toB (textS s).1)) h') : EvC Go.Proofs.Tryd.prog w0 38 #[.pointer (some ⟨b, 0, none⟩)] K h := by
  refine f38_go _ _ (f70_spec w r hs fun h1 p1 c1 a d v w1 r1 => ⟨_, _, _, rfl, rows8 (v.rd (cs := [_]) w1) rfl ?_⟩)
  refine f58_spec (s := toB (textS s).1) (Own.cut (cs := [_]) w1) fun h2 w2 => ⟨_, rfl, ?_⟩
  refine brB_of (fun z => f37_spec w2 fun h3 w3 => ⟨rfl, ?_⟩) fun z => ?_
  · rw [z] at hk
    exact hk h3 p1 c1 w3 r1
  · rw [z] at hk
    exact hk h2 p1 c1 w2 r1
theorem f40_spec {a : Option Addr} {d n : Nat} (w : Own w0 h (rdB b p c s :: B))
    (hk : ∀ h', Own w0 h' (rdB b p c (failS s (decide (256 < n)) 2) :: B) → K (.slice a n d) h') : EvC Go.Proofs.Tryd.prog w0 40 #[.pointer (some ⟨b, 0, none⟩), .slice a n d] K h := by
  have e0 : decide ((256 : Int) < ((n : Nat) : Int)) = decide (256 < n) := by rw [decide_eq_decide]; omega
  refine f40_go _ _ _ _ _ ?_
  rw [e0]
  refine brB_of (fun z => f37_spec w fun h3 w3 => ⟨rfl, ?_⟩) fun z => ?_
  · rw [z] at hk
    exact hk h3 w3
  · rw [z] at hk
    exact hk h w
end
end Go.G.YtciepfobnaemmaaDoor
