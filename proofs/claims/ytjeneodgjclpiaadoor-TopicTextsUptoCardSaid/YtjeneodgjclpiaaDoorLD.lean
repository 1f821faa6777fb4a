/- TopicTexts, TopicLevels -/
import Derived.Test.YtjeneodgjclpiaaDoorLC
import Derived.Test.YtjeneodgjclpiaaDoorLW
import Derived.Test.YtjeneodgjclpiaaDoorProg
set_option maxRecDepth 100000
namespace Go.G.YtjeneodgjclpiaaDoor
open Go.RowKit
def f22_J : Nat → List Nat × Nat := jOf [(4, [2, 3, 4, 5, 6, 7, 8, 9, 10, 11, 14, 15, 16, 17, 18, 19, 20, 21, 22, 23, 24, 25], 0)]

def f22_4 (w0 : World) (K : Value → AH → Prop) (a0 : Option Go.Addr) (n0 : Nat) (c0 : Nat) (a1 : Option Go.Addr) (n1 : Nat) (c1 : Nat) (x12 : Int) (x13 : Int) (h : AH) : Prop :=
  ∀ j : Nat → Value, LPk Go.Proofs.Tryd.prog w0 (EvC Go.Proofs.Tryd.prog w0) f22_J 22 K 4 [.v (.slice a0 n0 c0), .v (.slice a1 n1 c1), .v (j 2), .v (j 3), .v (j 4), .v (j 5), .v (j 6), .v (j 7), .v (j 8), .v (j 9), .v (j 10), .v (j 11), .v (.int .i64 x12), .v (.int .i64 x13), .v (j 14), .v (j 15), .v (j 16), .v (j 17), .v (j 18), .v (j 19), .v (j 20), .v (j 21), .v (j 22), .v (j 23), .v (j 24), .v (j 25)] [] h

theorem f22_4_in {w0 : World} {K : Value → AH → Prop} (a0 : Option Go.Addr) (n0 : Nat) (c0 : Nat) (a1 : Option Go.Addr) (n1 : Nat) (c1 : Nat) (x12 : Int) (x13 : Int) (h : AH)
  (hv : (brB (decide ((x13 < x12))) (∃ a'0 : Go.Addr, ((a0 = (some a'0)) ∧ (((0 : Int) ≤ x13) ∧ ((x13 < ((n0 : Nat) : Int)) ∧ (∃ s'1 : ByteArray, (((Go.G.cellA w0 h (Go.Addr.add a'0 ((Int.toNat x13) * 1))) = (some (Go.Value.string s'1))) ∧ (∃ a'2 : Go.Addr, ((a1 = (some a'2)) ∧ (((0 : Int) ≤ x13) ∧ ((x13 < ((n1 : Nat) : Int)) ∧ (∃ s'3 : ByteArray, (((Go.G.cellA w0 h (Go.Addr.add a'2 ((Int.toNat x13) * 1))) = (some (Go.Value.string s'3))) ∧ (brB (!(decide ((s'1 = s'3)))) (K (Go.Value.bool false) h) (f22_4 w0 K a0 n0 c0 a1 n1 c1 x12 (Go.IntKind.wrap .i64 (x13 + (1 : Int))) h)))))))))))))) (K (Go.Value.bool true) h))) :
  f22_4 w0 K a0 n0 c0 a1 n1 c1 x12 x13 h := fun j => LP_intro (P := Go.Proofs.Tryd.prog) (Eq.mp (by kernel_rfl) hv)

theorem f22_go {w0 : World} {K : Value → AH → Prop} (a0 : Option Go.Addr) (n0 : Nat) (c0 : Nat) (a1 : Option Go.Addr) (n1 : Nat) (c1 : Nat) (h : AH)
  (hv : (brB (((n0 : Nat) : Int) != ((n1 : Nat) : Int)) (K (Go.Value.bool false) h) (f22_4 w0 K a0 n0 c0 a1 n1 c1 ((n0 : Nat) : Int) (0 : Int) h))) :
  EvC Go.Proofs.Tryd.prog w0 22 ([(.slice a0 n0 c0), (.slice a1 n1 c1)]).toArray K h := EvC_intro (P := Go.Proofs.Tryd.prog) f22_J (Eq.mp (by kernel_rfl) hv)
def f6_J : Nat → List Nat × Nat := jOf []



theorem f6_go {w0 : World} {K : Value → AH → Prop} (a0 : Option Go.Addr) (n0 : Nat) (c0 : Nat) (h : AH)
  (hv : (rowsOf w0 h 1 a0 n0 (fun ys'0 => (∃ s'1 : ByteArray, ((ys'0 = (Go.G.intsOf s'1)) ∧ (EvC Go.Proofs.Tryd.prog w0 16 #[(Go.Value.slice a0 n0 c0)] (fun x'2 h'3 => (∃ t'4 : Bool, ((x'2 = (Go.Value.bool t'4)) ∧ (EvC Go.Proofs.Tryd.prog w0 17 #[(Go.Value.slice a0 n0 c0)] (fun x'5 h'6 => (∃ t'7 : Bool, ((x'5 = (Go.Value.bool t'7)) ∧ (brB (t'4 == t'7) (EvC Go.Proofs.Tryd.prog w0 18 #[(Go.Value.string s'1)] (fun x'8 h'9 => (∃ t'10 : Bool, ((x'8 = (Go.Value.bool t'10)) ∧ (EvC Go.Proofs.Tryd.prog w0 19 #[(Go.Value.string s'1)] (fun x'11 h'12 => (∃ t'13 : Bool, ((x'11 = (Go.Value.bool t'13)) ∧ (brB (t'10 == t'13) (EvC Go.Proofs.Tryd.prog w0 20 #[(Go.Value.string s'1)] (fun x'14 h'15 => (∃ t'16 : Bool, ((x'14 = (Go.Value.bool t'16)) ∧ (EvC Go.Proofs.Tryd.prog w0 21 #[(Go.Value.string s'1)] (fun x'17 h'18 => (∃ t'19 : Bool, ((x'17 = (Go.Value.bool t'19)) ∧ (brB (t'16 == t'19) (EvC Go.Proofs.Tryd.prog w0 15 #[(Go.Value.string s'1)] (fun x'20 h'21 => (∃ p'22 : Option Go.Addr, (∃ n'23 : Nat, (∃ n'24 : Nat, ((x'20 = (Go.Value.slice p'22 n'23 n'24)) ∧ (EvC Go.Proofs.Tryd.prog w0 23 #[(Go.Value.string s'1)] (fun x'25 h'26 => (∃ p'27 : Option Go.Addr, (∃ n'28 : Nat, (∃ n'29 : Nat, ((x'25 = (Go.Value.slice p'27 n'28 n'29)) ∧ (EvC Go.Proofs.Tryd.prog w0 22 #[(Go.Value.slice p'22 n'23 n'24), (Go.Value.slice p'27 n'28 n'29)] (fun x'30 h'31 => (∃ t'32 : Bool, ((x'30 = (Go.Value.bool t'32)) ∧ (brB t'32 (EvC Go.Proofs.Tryd.prog w0 13 #[] (fun x'33 h'34 => (∃ t'35 : Bool, ((x'33 = (Go.Value.bool t'35)) ∧ (K (Go.Value.bool t'35) h'34)))) h'31) (K (Go.Value.bool false) h'31))))) h'26)))))) h'21)))))) h'18) (K (Go.Value.bool false) h'18))))) h'15)))) h'12) (K (Go.Value.bool false) h'12))))) h'9)))) h'6) (K (Go.Value.bool false) h'6))))) h'3)))) h)))))) :
  EvC Go.Proofs.Tryd.prog w0 6 ([(.slice a0 n0 c0)]).toArray K h := EvC_intro (P := Go.Proofs.Tryd.prog) f6_J (Eq.mp (by kernel_rfl) hv)
def f5_J : Nat → List Nat × Nat := jOf [(6, [1, 2, 5, 6, 7, 8, 9, 10, 11, 12, 13, 14, 17, 18, 19, 20, 21, 22, 23, 24, 25, 26, 27, 28, 29, 30, 31, 32, 33, 34, 35, 36, 37, 38, 39, 40, 41, 42, 43, 44, 45, 46, 47, 48, 49, 50, 51, 52], 0), (13, [1, 2, 5, 7, 8, 9, 10, 11, 12, 13, 14, 15, 16, 17, 18, 19, 20, 21, 22, 23, 24, 25, 26, 27, 28, 29, 33, 34, 35, 36, 37, 38, 39, 40, 41, 42, 43, 44, 45, 46, 47, 48, 49, 50, 51, 52], 0)]

def f5_6 (w0 : World) (K : Value → AH → Prop) (x0 : ByteArray) (a3 : Option Go.Addr) (n3 : Nat) (c3 : Nat) (x4 : Int) (x15 : Int) (x16 : Int) (h : AH) : Prop :=
  ∀ j : Nat → Value, LPk Go.Proofs.Tryd.prog w0 (EvC Go.Proofs.Tryd.prog w0) f5_J 5 K 6 [.v (.string x0), .v (j 1), .v (j 2), .v (.slice a3 n3 c3), .v (.int .i64 x4), .v (j 5), .v (j 6), .v (j 7), .v (j 8), .v (j 9), .v (j 10), .v (j 11), .v (j 12), .v (j 13), .v (j 14), .v (.int .i64 x15), .v (.int .i64 x16), .v (j 17), .v (j 18), .v (j 19), .v (j 20), .v (j 21), .v (j 22), .v (j 23), .v (j 24), .v (j 25), .v (j 26), .v (j 27), .v (j 28), .v (j 29), .v (j 30), .v (j 31), .v (j 32), .v (j 33), .v (j 34), .v (j 35), .v (j 36), .v (j 37), .v (j 38), .v (j 39), .v (j 40), .v (j 41), .v (j 42), .v (j 43), .v (j 44), .v (j 45), .v (j 46), .v (j 47), .v (j 48), .v (j 49), .v (j 50), .v (j 51), .v (j 52)] [] h

def f5_13 (w0 : World) (K : Value → AH → Prop) (x0 : ByteArray) (a3 : Option Go.Addr) (n3 : Nat) (c3 : Nat) (x4 : Int) (x6 : ByteArray) (a30 : Option Go.Addr) (n30 : Nat) (c30 : Nat) (x31 : Int) (x32 : Int) (h : AH) : Prop :=
  ∀ j : Nat → Value, LPk Go.Proofs.Tryd.prog w0 (EvC Go.Proofs.Tryd.prog w0) f5_J 5 K 13 [.v (.string x0), .v (j 1), .v (j 2), .v (.slice a3 n3 c3), .v (.int .i64 x4), .v (j 5), .v (.string x6), .v (j 7), .v (j 8), .v (j 9), .v (j 10), .v (j 11), .v (j 12), .v (j 13), .v (j 14), .v (j 15), .v (j 16), .v (j 17), .v (j 18), .v (j 19), .v (j 20), .v (j 21), .v (j 22), .v (j 23), .v (j 24), .v (j 25), .v (j 26), .v (j 27), .v (j 28), .v (j 29), .v (.slice a30 n30 c30), .v (.int .i64 x31), .v (.int .i64 x32), .v (j 33), .v (j 34), .v (j 35), .v (j 36), .v (j 37), .v (j 38), .v (j 39), .v (j 40), .v (j 41), .v (j 42), .v (j 43), .v (j 44), .v (j 45), .v (j 46), .v (j 47), .v (j 48), .v (j 49), .v (j 50), .v (j 51), .v (j 52)] [] h

theorem f5_6_in {w0 : World} {K : Value → AH → Prop} (x0 : ByteArray) (a3 : Option Go.Addr) (n3 : Nat) (c3 : Nat) (x4 : Int) (x15 : Int) (x16 : Int) (h : AH)
  (hv : (brB (decide ((x16 < x15))) (((0 : Int) ≤ x16) ∧ ((x16 < (((ByteArray.size x0) : Nat) : Int)) ∧ (brB ((Go.G.byteAt x0 (Int.toNat x16)) == (47 : Int)) (f5_6 w0 K x0 a3 n3 c3 (Go.IntKind.wrap .i64 (x4 + (1 : Int))) x15 (Go.IntKind.wrap .i64 (x16 + (1 : Int))) h) (f5_6 w0 K x0 a3 n3 c3 x4 x15 (Go.IntKind.wrap .i64 (x16 + (1 : Int))) h)))) (∃ a'5 : Go.Addr, ((a3 = (some a'5)) ∧ (((0 : Int) ≤ (0 : Int)) ∧ (((0 : Int) < ((n3 : Nat) : Int)) ∧ (∃ s'6 : ByteArray, (((Go.G.cellA w0 h (Go.Addr.add a'5 0)) = (some (Go.Value.string s'6))) ∧ (((0 : Int) ≤ (1 : Int)) ∧ (((1 : Int) ≤ ((n3 : Nat) : Int)) ∧ (f5_13 w0 K x0 a3 n3 c3 x4 s'6 (Go.G.cutA 1 a3 c3 1) (n3 - 1) (c3 - 1) (((n3 - 1) : Nat) : Int) (0 : Int) h))))))))))) :
  f5_6 w0 K x0 a3 n3 c3 x4 x15 x16 h := fun j => LP_intro (P := Go.Proofs.Tryd.prog) (Eq.mp (by kernel_rfl) hv)

theorem f5_13_in {w0 : World} {K : Value → AH → Prop} (x0 : ByteArray) (a3 : Option Go.Addr) (n3 : Nat) (c3 : Nat) (x4 : Int) (x6 : ByteArray) (a30 : Option Go.Addr) (n30 : Nat) (c30 : Nat) (x31 : Int) (x32 : Int) (h : AH)
  (hv : (brB (decide ((x32 < x31))) (∃ a'7 : Go.Addr, ((a30 = (some a'7)) ∧ (((0 : Int) ≤ x32) ∧ ((x32 < ((n30 : Nat) : Int)) ∧ (∃ s'8 : ByteArray, (((Go.G.cellA w0 h (Go.Addr.add a'7 ((Int.toNat x32) * 1))) = (some (Go.Value.string s'8))) ∧ (((1 + (ByteArray.size s'8)) ≤ 9223372036854775807) ∧ ((((ByteArray.size x6) + (ByteArray.size ((ByteArray.mk #[(47 : UInt8)]) ++ s'8))) ≤ 9223372036854775807) ∧ (f5_13 w0 K x0 a3 n3 c3 x4 (x6 ++ ((ByteArray.mk #[(47 : UInt8)]) ++ s'8)) a30 n30 c30 x31 (Go.IntKind.wrap .i64 (x32 + (1 : Int))) h))))))))) (brB (decide ((x6 = x0))) (brB (((n3 : Nat) : Int) == x4) (EvC Go.Proofs.Tryd.prog w0 13 #[] (fun x'9 h'10 => (∃ t'11 : Bool, ((x'9 = (Go.Value.bool t'11)) ∧ (K (Go.Value.bool t'11) h'10)))) h) (K (Go.Value.bool false) h)) (K (Go.Value.bool false) h)))) :
  f5_13 w0 K x0 a3 n3 c3 x4 x6 a30 n30 c30 x31 x32 h := fun j => LP_intro (P := Go.Proofs.Tryd.prog) (Eq.mp (by kernel_rfl) hv)

theorem f5_go {w0 : World} {K : Value → AH → Prop} (x0 : ByteArray) (h : AH)
  (hv : (EvC Go.Proofs.Tryd.prog w0 15 #[(Go.Value.string x0)] (fun x'0 h'1 => (∃ p'2 : Option Go.Addr, (∃ n'3 : Nat, (∃ n'4 : Nat, ((x'0 = (Go.Value.slice p'2 n'3 n'4)) ∧ (brB (((n'3 : Nat) : Int) == (0 : Int)) (K (Go.Value.bool false) h'1) (f5_6 w0 K x0 p'2 n'3 n'4 (1 : Int) (((ByteArray.size x0) : Nat) : Int) (0 : Int) h'1))))))) h)) :
  EvC Go.Proofs.Tryd.prog w0 5 ([(.string x0)]).toArray K h := EvC_intro (P := Go.Proofs.Tryd.prog) f5_J (Eq.mp (by kernel_rfl) hv)
/-- SameTexts, of the same ones. -/
theorem f22_same {w0 : World} {K : Value → AH → Prop} {h : AH} {a b : Option Addr} {c d : Nat} {L : List ByteArray} (hl : L.length ≤ 1000000000000000) (hr : Rd w0 h a (strs L)) (hr2 : Rd w0 h b (strs L)) (hk : K (.bool true) h) :
    EvC Go.Proofs.Tryd.prog w0 22 #[.slice a L.length c, .slice b L.length d] K h := by
  have loop : ∀ (k i : Nat), i + k = L.length → f22_4 w0 K a L.length c b L.length d ((L.length : Nat) : Int) ((i : Nat) : Int) h := by
    intro k
    induction k with
    | zero => intro i hi; exact f22_4_in _ _ _ _ _ _ _ _ _ (brB_of (fun q => by have := of_decide_eq_true q; omega) fun _ => hk)
    | succ k ih =>
      intro i hi
      have hil : i < L.length := by omega
      have hget := List.getElem?_eq_getElem hil
      generalize L[i] = x at hget
      obtain ⟨ad, ha, hc⟩ := strLoad hr hget
      obtain ⟨bd, hb, hc2⟩ := strLoad hr2 hget
      refine f22_4_in _ _ _ _ _ _ _ _ _ (brB_of (fun _ => ⟨ad, ha, by omega, by omega, x, ?_, bd, hb, by omega, by omega, x, ?_, brB_of (fun q => by simp at q) fun _ => ?_⟩) fun q => absurd (of_decide_eq_false q) (by omega))
      · rw [Int.toNat_natCast, Nat.mul_one]; exact hc
      · rw [Int.toNat_natCast, Nat.mul_one]; exact hc2
      · rw [wrapS (by omega)]; exact ih (i + 1) (by omega)
  exact f22_go _ _ _ _ _ _ _ (brB_of (fun q => by simp at q) fun _ => loop L.length 0 (by omega))
/-- TopicTexts. -/
theorem f6_spec {w0 : World} {K : Value → AH → Prop} {a : Option Addr} {c : Nat} {l : List UInt8} (T : TabOk w0) (hr : Rd0 w0 a (u8s l)) (hc : l.length ≤ c) (hs : l.length ≤ 1000000000) (hk : ∀ h, K (.bool true) h) : EvC Go.Proofs.Tryd.prog w0 6 #[.slice a l.length c] K (fun _ => none) := by
  refine f6_go _ _ _ _ (rows8 (hr.rd _) rfl (f16_spec T (hr.rd _) hc ⟨_, rfl, f17_spec (hr.rd _) hc ⟨_, rfl, brB_of (fun _ => ?_) fun q => by simp at q⟩⟩))
  have hsz : (toB l).size = l.length := by rw [← slen]; rfl
  refine f18_spec T Own.nil fun h1 w1 => ⟨_, rfl, f19_spec w1 fun h2 w2 => ⟨_, rfl, brB_of (fun _ => f20_spec T w2 fun h3 w3 => ⟨_, rfl, f21_spec w3 fun h4 w4 => ⟨_, rfl, brB_of (fun _ => ?_) fun q => by simp at q⟩⟩) fun q => by simp at q⟩⟩
  have hls : (⟨l.toArray⟩ : ByteArray).size ≤ 1000000000 := Nat.le_trans (Nat.le_of_eq hsz) hs
  refine f15_spec (by omega) w4 fun h5 a1 c1 v1 w5 => ⟨_, _, _, rfl, f23_spec (by omega) w5 fun h6 a2 c2 v2 w6 => ⟨_, _, _, rfl, ?_⟩⟩
  have rd1 : Rd w0 h6 a1 (strs (levS ⟨l.toArray⟩)) := v1.rd (cs := slB a2 (strs (levS ⟨l.toArray⟩)) (c2 * 1)) w6
  have rd2 : Rd w0 h6 a2 (strs (levS ⟨l.toArray⟩)) := v2.rd (cs := []) w6
  have hll : (levS ⟨l.toArray⟩).length ≤ 1000000000000000 := by
    unfold levS; rw [List.length_map, splitL_length]
    have := List.count_le_length (a := (47 : UInt8)) (l := (⟨l.toArray⟩ : ByteArray).data.toList)
    rw [slen] at this; omega
  exact f22_same hll rd1 rd2 ⟨_, rfl, brB_of (fun _ => awake_true T w6.drop.drop hk) fun q => by cases q⟩
/-- TopicLevels. -/
theorem f5_spec {w0 : World} {K : Value → AH → Prop} {s : ByteArray} (T : TabOk w0) (hs : s.size ≤ 1000000000) (hk : ∀ h, K (.bool true) h) : EvC Go.Proofs.Tryd.prog w0 5 #[.string s] K (fun _ => none) := by
  refine f5_go _ _ (f15_spec (by omega) Own.nil fun h1 a c v w1 => ⟨_, _, _, rfl, ?_⟩)
  have hlen : (levS s).length = s.data.toList.count 47 + 1 := by unfold levS; rw [List.length_map, splitL_length]
  have hcnt : s.data.toList.count 47 ≤ s.size := by have := List.count_le_length (a := (47 : UInt8)) (l := s.data.toList); rw [slen] at this; exact this
  have hl := slen s
  have hjoin := join_lev s
  have hle : ∀ x ∈ levS s, x.size ≤ s.size := fun x hx => levS_le hx
  have rd : Rd w0 h1 a (strs (levS s)) := v.rd (cs := []) w1
  have hcap := v.2.1
  generalize levS s = L at *
  refine brB_of (fun q => ?_) fun _ => ?_
  · have : ((L.length : Nat) : Int) = 0 := by simpa using q
    omega
  match L, rd, hcap, hlen, hjoin, hle with
  | [], _, _, hlen, _, _ => simp at hlen
  | x :: L, rd, hcap, hlen, hjoin, hle =>
    obtain ⟨ad, rfl, hx⟩ := strLoad rd (i := 0) rfl
    have rdM : Rd w0 h1 (cutA 1 (some ad) c 1) (strs L) := strs_cut rd hcap
    have hLc : L.length = s.data.toList.count 47 := Nat.succ.inj hlen
    have tail : ∀ (k j : Nat) (acc : ByteArray), j + k = L.length → (L.drop j).foldl (fun a s => a ++ (⟨#[47]⟩ ++ s)) acc = s → acc.size + (L.drop j).length * 2000000000 ≤ 9000000000000000000 → f5_13 w0 K s (some ad) (x :: L).length c (((x :: L).length : Nat) : Int) acc (cutA 1 (some ad) c 1) L.length (c - 1) ((L.length : Nat) : Int) ((j : Nat) : Int) h1 := by
      intro k
      induction k with
      | zero =>
        intro j acc hj he _
        rw [List.drop_eq_nil_of_le (by omega), List.foldl_nil] at he
        subst he
        exact f5_13_in _ _ _ _ _ _ _ _ _ _ _ _ (brB_of (fun q => by have := of_decide_eq_true q; omega) fun _ => brB_of (fun _ => brB_of (fun _ => awake_true T w1.drop hk) fun q => by simp at q) fun q => by simp at q)
      | succ k ih =>
        intro j acc hj he hb
        have hjl : j < L.length := by omega
        have hgetj := List.getElem?_eq_getElem hjl
        have hsz := hle _ (List.mem_cons_of_mem _ (List.getElem_mem hjl))
        have hdl : (L.drop j).length = (L.drop (j + 1)).length + 1 := by rw [List.length_drop, List.length_drop]; omega
        rw [hdl] at hb
        rw [List.drop_eq_getElem_cons hjl, List.foldl_cons] at he
        generalize L[j] = u at hgetj hsz he
        obtain ⟨ud, hu, hcu⟩ := strLoad rdM hgetj
        have e47 : (⟨#[47]⟩ ++ u : ByteArray).size = 1 + u.size := by rw [bapp_size]; rfl
        refine f5_13_in _ _ _ _ _ _ _ _ _ _ _ _ (brB_of (fun _ => ⟨ud, hu, by omega, by omega, u, ?_, by omega, by rw [e47]; omega, ?_⟩) fun q => absurd (of_decide_eq_false q) (by omega))
        · rw [Int.toNat_natCast, Nat.mul_one]; exact hcu
        · rw [wrapS (by omega)]
          exact ih (j + 1) _ (by omega) he (by rw [bapp_size, e47]; omega)
    have loop : ∀ (k i : Nat), i + k = s.size → f5_6 w0 K s (some ad) (x :: L).length c (((1 + (s.data.toList.take i).count 47 : Nat)) : Int) ((s.size : Nat) : Int) ((i : Nat) : Int) h1 := by
      intro k
      induction k with
      | zero =>
        intro i hi
        have hn : 1 + (s.data.toList.take i).count 47 = (x :: L).length := by rw [List.take_of_length_le (by omega), hlen]; omega
        rw [hn]
        refine f5_6_in _ _ _ _ _ _ _ _ (brB_of (fun q => by have := of_decide_eq_true q; omega) fun _ => ⟨ad, rfl, by decide, by rw [List.length_cons]; omega, x, hx, by decide, by rw [List.length_cons]; omega, ?_⟩)
        rw [show (x :: L).length - 1 = L.length by simp]
        have hxs := hle x (List.mem_cons_self ..)
        have hLl : L.length ≤ 1000000000 := by omega
        exact tail L.length 0 x (by omega) hjoin (by rw [List.drop_zero]; omega)
      | succ k ih =>
        intro i hi
        have hil : i < s.data.toList.length := by omega
        have hget : s.data[i]? = some s.data.toList[i] := by simp
        have hb2 : byteAt s ((i : Nat) : Int).toNat = ((s.data.toList[i]).toNat : Int) := by
          unfold byteAt
          rw [Int.toNat_natCast, hget]
        have htk : (s.data.toList.take (i + 1)).count 47 = (s.data.toList.take i).count 47 + (if s.data.toList[i] == 47 then 1 else 0) := by
          rw [List.take_succ_eq_append_getElem hil, List.count_append, List.count_singleton]
        have hcl : (s.data.toList.take i).count 47 ≤ i := Nat.le_trans List.count_le_length (List.length_take_le ..)
        refine f5_6_in _ _ _ _ _ _ _ _ (brB_of (fun _ => ⟨by omega, by omega, ?_⟩) fun q => absurd (of_decide_eq_false q) (by omega))
        rw [hb2, c_eq (k := 47) (m := 47) rfl, wrapS (by omega)]
        refine brB_of (fun q => ?_) fun q => ?_
        · rw [wrapS (by omega)]
          have := ih (i + 1) (by omega)
          rw [htk, q] at this
          exact this
        · rw [wrapS (by omega)]
          have := ih (i + 1) (by omega)
          rw [htk, q] at this
          exact this
    have := loop s.size 0 (by omega)
    simpa using this
end Go.G.YtjeneodgjclpiaaDoor
