/- Are they the same? -/
import Derived.Test.YtilifcggegabfaaDoorSB
import Derived.Test.YtilifcggegabfaaDoorProg
set_option maxRecDepth 100000
namespace Go.G.YtilifcggegabfaaDoor
open Go.RowKit
def f58_J : Nat → List Nat × Nat := jOf []



theorem f58_go {w0 : World} {K : Value → AH → Prop} (x0_0 : ByteArray) (a0_1 : Option Go.Addr) (n0_1 : Nat) (c0_1 : Nat) (x0_2 : Int) (x0_3 : Bool) (x0_4 : Int) (x1_0 : ByteArray) (a1_1 : Option Go.Addr) (n1_1 : Nat) (c1_1 : Nat) (x1_2 : Int) (x1_3 : Bool) (x1_4 : Int) (h : AH)
  (hv : (brB (decide ((x0_0 = x1_0))) (rowsOf w0 h 1 a0_1 n0_1 (fun ys'0 => (∃ s'1 : ByteArray, ((ys'0 = (Go.G.intsOf s'1)) ∧ (rowsOf w0 h 1 a1_1 n1_1 (fun ys'2 => (∃ s'3 : ByteArray, ((ys'2 = (Go.G.intsOf s'3)) ∧ (brB (decide ((s'1 = s'3))) (brB (x0_2 == x1_2) (brB (x0_3 == x1_3) (K (Go.Value.bool (x0_4 == x1_4)) h) (K (Go.Value.bool false) h)) (K (Go.Value.bool false) h)) (K (Go.Value.bool false) h)))))))))) (K (Go.Value.bool false) h))) :
  EvC Go.Proofs.Tryd.prog w0 58 ([(.agg #[(.string x0_0), (.slice a0_1 n0_1 c0_1), (.int .i64 x0_2), (.bool x0_3), (.int .i64 x0_4)]), (.agg #[(.string x1_0), (.slice a1_1 n1_1 c1_1), (.int .i64 x1_2), (.bool x1_3), (.int .i64 x1_4)])]).toArray K h := EvC_intro (P := Go.Proofs.Tryd.prog) f58_J (Eq.mp (by kernel_rfl) hv)
def f36_J : Nat → List Nat × Nat := jOf [(4, [2, 3, 4, 5, 6, 7, 8, 9, 10, 11, 14, 15, 16, 17, 18, 19, 20, 21, 22, 23, 24, 25, 26], 0)]

def f36_4 (w0 : World) (K : Value → AH → Prop) (a0 : Option Go.Addr) (n0 : Nat) (c0 : Nat) (a1 : Option Go.Addr) (n1 : Nat) (c1 : Nat) (x12 : Int) (x13 : Int) (h : AH) : Prop :=
  ∀ j : Nat → Value, LPk Go.Proofs.Tryd.prog w0 (EvC Go.Proofs.Tryd.prog w0) f36_J 36 K 4 [.v (.slice a0 n0 c0), .v (.slice a1 n1 c1), .v (j 2), .v (j 3), .v (j 4), .v (j 5), .v (j 6), .v (j 7), .v (j 8), .v (j 9), .v (j 10), .v (j 11), .v (.int .i64 x12), .v (.int .i64 x13), .v (j 14), .v (j 15), .v (j 16), .v (j 17), .v (j 18), .v (j 19), .v (j 20), .v (j 21), .v (j 22), .v (j 23), .v (j 24), .v (j 25), .v (j 26)] [] h

theorem f36_4_in {w0 : World} {K : Value → AH → Prop} (a0 : Option Go.Addr) (n0 : Nat) (c0 : Nat) (a1 : Option Go.Addr) (n1 : Nat) (c1 : Nat) (x12 : Int) (x13 : Int) (h : AH)
  (hv : (brB (decide ((x13 < x12))) (∃ a'0 : Go.Addr, ((a0 = (some a'0)) ∧ (((0 : Int) ≤ x13) ∧ ((x13 < ((n0 : Nat) : Int)) ∧ (∃ a'1 : Go.Addr, ((a1 = (some a'1)) ∧ (((0 : Int) ≤ x13) ∧ ((x13 < ((n1 : Nat) : Int)) ∧ ((∃ s'2 : ByteArray, (∃ p'3 : Option Go.Addr, (∃ n'4 : Nat, (∃ n'5 : Nat, (∃ i'6 : Int, (∃ t'7 : Bool, (∃ i'8 : Int, ((((Array.size #[(Go.Value.string s'2), (Go.Value.slice p'3 n'4 n'5), (Go.Value.int .i64 i'6), (Go.Value.bool t'7), (Go.Value.int .i64 i'8)]) = 5) ∧ (At w0 h (Go.Addr.add a'0 ((Int.toNat x13) * 5)) [(Go.Value.string s'2), (Go.Value.slice p'3 n'4 n'5), (Go.Value.int .i64 i'6), (Go.Value.bool t'7), (Go.Value.int .i64 i'8)])) ∧ (∃ s'9 : ByteArray, (∃ p'10 : Option Go.Addr, (∃ n'11 : Nat, (∃ n'12 : Nat, (∃ i'13 : Int, (∃ t'14 : Bool, (∃ i'15 : Int, ((((Array.size #[(Go.Value.string s'9), (Go.Value.slice p'10 n'11 n'12), (Go.Value.int .i64 i'13), (Go.Value.bool t'14), (Go.Value.int .i64 i'15)]) = 5) ∧ (At w0 h (Go.Addr.add a'1 ((Int.toNat x13) * 5)) [(Go.Value.string s'9), (Go.Value.slice p'10 n'11 n'12), (Go.Value.int .i64 i'13), (Go.Value.bool t'14), (Go.Value.int .i64 i'15)])) ∧ (EvC Go.Proofs.Tryd.prog w0 58 #[(Go.Value.agg #[(Go.Value.string s'2), (Go.Value.slice p'3 n'4 n'5), (Go.Value.int .i64 i'6), (Go.Value.bool t'7), (Go.Value.int .i64 i'8)]), (Go.Value.agg #[(Go.Value.string s'9), (Go.Value.slice p'10 n'11 n'12), (Go.Value.int .i64 i'13), (Go.Value.bool t'14), (Go.Value.int .i64 i'15)])] (fun x'16 h'17 => (∃ t'18 : Bool, ((x'16 = (Go.Value.bool t'18)) ∧ (brB (!t'18) (K (Go.Value.bool false) h'17) (f36_4 w0 K a0 n0 c0 a1 n1 c1 x12 (Go.IntKind.wrap .i64 (x13 + (1 : Int))) h'17))))) h))))))))))))))))) ∧ (∃ s'19 : ByteArray, (∃ p'20 : Option Go.Addr, (∃ n'21 : Nat, (∃ n'22 : Nat, (∃ i'23 : Int, (∃ t'24 : Bool, (∃ i'25 : Int, ((((Array.size #[(Go.Value.string s'19), (Go.Value.slice p'20 n'21 n'22), (Go.Value.int .i64 i'23), (Go.Value.bool t'24), (Go.Value.int .i64 i'25)]) = 5) ∧ (At w0 h (Go.Addr.add a'1 ((Int.toNat x13) * 5)) [(Go.Value.string s'19), (Go.Value.slice p'20 n'21 n'22), (Go.Value.int .i64 i'23), (Go.Value.bool t'24), (Go.Value.int .i64 i'25)])) ∧ (∃ s'26 : ByteArray, (∃ p'27 : Option Go.Addr, (∃ n'28 : Nat, (∃ n'29 : Nat, (∃ i'30 : Int, (∃ t'31 : Bool, (∃ i'32 : Int, ((((Array.size #[(Go.Value.string s'26), (Go.Value.slice p'27 n'28 n'29), (Go.Value.int .i64 i'30), (Go.Value.bool t'31), (Go.Value.int .i64 i'32)]) = 5) ∧ (At w0 h (Go.Addr.add a'0 ((Int.toNat x13) * 5)) [(Go.Value.string s'26), (Go.Value.slice p'27 n'28 n'29), (Go.Value.int .i64 i'30), (Go.Value.bool t'31), (Go.Value.int .i64 i'32)])) ∧ (EvC Go.Proofs.Tryd.prog w0 58 #[(Go.Value.agg #[(Go.Value.string s'26), (Go.Value.slice p'27 n'28 n'29), (Go.Value.int .i64 i'30), (Go.Value.bool t'31), (Go.Value.int .i64 i'32)]), (Go.Value.agg #[(Go.Value.string s'19), (Go.Value.slice p'20 n'21 n'22), (Go.Value.int .i64 i'23), (Go.Value.bool t'24), (Go.Value.int .i64 i'25)])] (fun x'33 h'34 => (∃ t'35 : Bool, ((x'33 = (Go.Value.bool t'35)) ∧ (brB (!t'35) (K (Go.Value.bool false) h'34) (f36_4 w0 K a0 n0 c0 a1 n1 c1 x12 (Go.IntKind.wrap .i64 (x13 + (1 : Int))) h'34))))) h)))))))))))))))))))))))))) (K (Go.Value.bool true) h))) :
  f36_4 w0 K a0 n0 c0 a1 n1 c1 x12 x13 h := fun j => LP_intro (P := Go.Proofs.Tryd.prog) (Eq.mp (by kernel_rfl) hv)

theorem f36_go {w0 : World} {K : Value → AH → Prop} (a0 : Option Go.Addr) (n0 : Nat) (c0 : Nat) (a1 : Option Go.Addr) (n1 : Nat) (c1 : Nat) (h : AH)
  (hv : (brB (((n0 : Nat) : Int) != ((n1 : Nat) : Int)) (K (Go.Value.bool false) h) (f36_4 w0 K a0 n0 c0 a1 n1 c1 ((n0 : Nat) : Int) (0 : Int) h))) :
  EvC Go.Proofs.Tryd.prog w0 36 ([(.slice a0 n0 c0), (.slice a1 n1 c1)]).toArray K h := EvC_intro (P := Go.Proofs.Tryd.prog) f36_J (Eq.mp (by kernel_rfl) hv)
def f59_J : Nat → List Nat × Nat := jOf [(4, [2, 3, 4, 5, 6, 7, 8, 9, 10, 11, 14, 15, 16, 17, 18, 19, 20, 21, 22, 23, 24, 25], 0)]

def f59_4 (w0 : World) (K : Value → AH → Prop) (a0 : Option Go.Addr) (n0 : Nat) (c0 : Nat) (a1 : Option Go.Addr) (n1 : Nat) (c1 : Nat) (x12 : Int) (x13 : Int) (h : AH) : Prop :=
  ∀ j : Nat → Value, LPk Go.Proofs.Tryd.prog w0 (EvC Go.Proofs.Tryd.prog w0) f59_J 59 K 4 [.v (.slice a0 n0 c0), .v (.slice a1 n1 c1), .v (j 2), .v (j 3), .v (j 4), .v (j 5), .v (j 6), .v (j 7), .v (j 8), .v (j 9), .v (j 10), .v (j 11), .v (.int .i64 x12), .v (.int .i64 x13), .v (j 14), .v (j 15), .v (j 16), .v (j 17), .v (j 18), .v (j 19), .v (j 20), .v (j 21), .v (j 22), .v (j 23), .v (j 24), .v (j 25)] [] h

theorem f59_4_in {w0 : World} {K : Value → AH → Prop} (a0 : Option Go.Addr) (n0 : Nat) (c0 : Nat) (a1 : Option Go.Addr) (n1 : Nat) (c1 : Nat) (x12 : Int) (x13 : Int) (h : AH)
  (hv : (brB (decide ((x13 < x12))) (∃ a'0 : Go.Addr, ((a0 = (some a'0)) ∧ (((0 : Int) ≤ x13) ∧ ((x13 < ((n0 : Nat) : Int)) ∧ (∃ s'1 : ByteArray, (∃ i'2 : Int, ((((Array.size #[(Go.Value.string s'1), (Go.Value.int .i64 i'2)]) = 2) ∧ (At w0 h (Go.Addr.add a'0 ((Int.toNat x13) * 2)) [(Go.Value.string s'1), (Go.Value.int .i64 i'2)])) ∧ (∃ a'3 : Go.Addr, ((a1 = (some a'3)) ∧ (((0 : Int) ≤ x13) ∧ ((x13 < ((n1 : Nat) : Int)) ∧ (∃ s'4 : ByteArray, (∃ i'5 : Int, ((((Array.size #[(Go.Value.string s'4), (Go.Value.int .i64 i'5)]) = 2) ∧ (At w0 h (Go.Addr.add a'3 ((Int.toNat x13) * 2)) [(Go.Value.string s'4), (Go.Value.int .i64 i'5)])) ∧ (brB (!((true && (decide ((s'1 = s'4)))) && (i'2 == i'5))) (K (Go.Value.bool false) h) (f59_4 w0 K a0 n0 c0 a1 n1 c1 x12 (Go.IntKind.wrap .i64 (x13 + (1 : Int))) h)))))))))))))))) (K (Go.Value.bool true) h))) :
  f59_4 w0 K a0 n0 c0 a1 n1 c1 x12 x13 h := fun j => LP_intro (P := Go.Proofs.Tryd.prog) (Eq.mp (by kernel_rfl) hv)

theorem f59_go {w0 : World} {K : Value → AH → Prop} (a0 : Option Go.Addr) (n0 : Nat) (c0 : Nat) (a1 : Option Go.Addr) (n1 : Nat) (c1 : Nat) (h : AH)
  (hv : (brB (((n0 : Nat) : Int) != ((n1 : Nat) : Int)) (K (Go.Value.bool false) h) (f59_4 w0 K a0 n0 c0 a1 n1 c1 ((n0 : Nat) : Int) (0 : Int) h))) :
  EvC Go.Proofs.Tryd.prog w0 59 ([(.slice a0 n0 c0), (.slice a1 n1 c1)]).toArray K h := EvC_intro (P := Go.Proofs.Tryd.prog) f59_J (Eq.mp (by kernel_rfl) hv)
/-! ### are they the same? -/
structure SameM (a b : MsgM) : Prop where
  topic : a.topic = b.topic
  pay : a.pay = b.pay
  qos : a.qos = b.qos
  ret : a.ret = b.ret
  til : a.til = b.til
@[reducible] def MsgM.agg (m : MsgM) : Value := .agg #[.string m.topic, .slice m.pa m.pay.length m.pc, .int .i64 m.qos, .bool m.ret, .int .i64 m.til]
section
variable {w0 : World} {K : Value → AH → Prop} {h : AH}
theorem f58_spec {a b : MsgM} (ha : Rd w0 h a.pa (u8s a.pay)) (hb : Rd w0 h b.pa (u8s b.pay)) (s : SameM a b) (hk : K (.bool true) h) : EvC Go.Proofs.Tryd.prog w0 58 #[a.agg, b.agg] K h := by
  refine f58_go _ _ _ _ _ _ _ _ _ _ _ _ _ _ _ (brB_of (fun _ => rows8 ha rfl (rows8 hb rfl (brB_of (fun _ => brB_of (fun _ => brB_of (fun _ => ?_) fun z => ?_) fun z => ?_) fun z => ?_))) fun z => ?_)
  · rw [s.til]; simpa using hk
  · rw [s.ret] at z; simp at z
  · rw [s.qos] at z; simp at z
  · rw [s.pay] at z; simp at z
  · rw [s.topic] at z; simp at z
/-- Rows of messages. -/
def MsgsRd (w0 : World) (h : AH) (a : Option Addr) (l : List MsgM) : Prop := Rd w0 h a (l.flatMap MsgM.cells) ∧ ∀ m ∈ l, Rd w0 h m.pa (u8s m.pay)
theorem f36_spec {a b : Option Addr} {c d : Nat} {l m : List MsgM} (ha : MsgsRd w0 h a l) (hb : MsgsRd w0 h b m) (hl : l.length ≤ 100000000) (hlen : l.length = m.length) (hs : ∀ (i : Nat) x y, l[i]? = some x → m[i]? = some y → SameM x y) (hk : K (.bool true) h) :
    EvC Go.Proofs.Tryd.prog w0 36 #[.slice a l.length c, .slice b m.length d] K h := by
  have loop : ∀ (n i : Nat), i + n = l.length → f36_4 w0 K a l.length c b m.length d ((l.length : Nat) : Int) ((i : Nat) : Int) h := fun n => by
    induction n with
    | zero => exact fun i hi => f36_4_in _ _ _ _ _ _ _ _ _ (brB_of (fun z => by have := of_decide_eq_true z; omega) fun _ => hk)
    | succ n ih =>
      intro i hi
      have g1 : l[i]? = some l[i] := List.getElem?_eq_getElem _
      have g2 : m[i]? = some (m[i]'(by omega)) := List.getElem?_eq_getElem _
      obtain ⟨ad, had, hat⟩ := rowLoad (enc := MsgM.cells) (k := 5) (fun _ => rfl) (by decide) ha.1 g1
      obtain ⟨bd, hbd, hbt⟩ := rowLoad (enc := MsgM.cells) (k := 5) (fun _ => rfl) (by decide) hb.1 g2
      have hs' := hs i _ _ g1 g2
      have r1 := ha.2 _ (List.mem_of_getElem? g1)
      have r2 := hb.2 _ (List.mem_of_getElem? g2)
      have nxt := ih (i + 1) (by omega)
      have fin : EvC Go.Proofs.Tryd.prog w0 58 #[(l[i]).agg, (m[i]'(by omega)).agg] (fun x'16 h'17 => (∃ t'18 : Bool, ((x'16 = (.bool t'18)) ∧ (brB (!t'18) (K (.bool false) h'17) (f36_4 w0 K a l.length c b m.length d ((l.length : Nat) : Int) (IntKind.i64.wrap (((i : Nat) : Int) + (1 : Int))) h'17))))) h :=
        f58_spec r1 r2 hs' ⟨_, rfl, brB_of (fun z => by cases z) fun _ => by rw [wrapS (by omega)]; exact nxt⟩
      refine f36_4_in _ _ _ _ _ _ _ _ _ (brB_of (fun _ => ⟨ad, had, by omega, by omega, bd, hbd, by omega, by omega, ?_⟩) fun z => by have := of_decide_eq_false z; omega)
      repeat' first
        | exact fin
        | refine ⟨_, _, _, _, _, _, _, ⟨rfl, hat⟩, ?_⟩
        | refine ⟨_, _, _, _, _, _, _, ⟨rfl, hbt⟩, ?_⟩
        | refine ⟨?_, ?_⟩
  exact f36_go _ _ _ _ _ _ _ (brB_of (fun z => by simp at z; omega) fun _ => loop l.length 0 (by omega))
theorem f59_spec {a b : Option Addr} {c d : Nat} {l m : List WantM} (ha : Rd w0 h a (l.flatMap WantM.cells)) (hb : Rd w0 h b (m.flatMap WantM.cells)) (hl : l.length ≤ 100000000) (e : l = m) (hk : K (.bool true) h) :
    EvC Go.Proofs.Tryd.prog w0 59 #[.slice a l.length c, .slice b m.length d] K h := by
  subst e
  have loop : ∀ (n i : Nat), i + n = l.length → f59_4 w0 K a l.length c b l.length d ((l.length : Nat) : Int) ((i : Nat) : Int) h := fun n => by
    induction n with
    | zero => exact fun i hi => f59_4_in _ _ _ _ _ _ _ _ _ (brB_of (fun z => by have := of_decide_eq_true z; omega) fun _ => hk)
    | succ n ih =>
      intro i hi
      have g1 : l[i]? = some l[i] := List.getElem?_eq_getElem _
      obtain ⟨ad, had, hat⟩ := rowLoad (enc := WantM.cells) (k := 2) (fun _ => rfl) (by decide) ha g1
      obtain ⟨bd, hbd, hbt⟩ := rowLoad (enc := WantM.cells) (k := 2) (fun _ => rfl) (by decide) hb g1
      refine f59_4_in _ _ _ _ _ _ _ _ _ (brB_of (fun _ => ⟨ad, had, by omega, by omega, _, _, ⟨rfl, hat⟩, bd, hbd, by omega, by omega, _, _, ⟨rfl, hbt⟩, brB_of (fun z => by simp at z) fun _ => by rw [wrapS (by omega)]; exact ih (i + 1) (by omega)⟩) fun z => by have := of_decide_eq_false z; omega)
  exact f59_go _ _ _ _ _ _ _ (brB_of (fun z => by simp at z) fun _ => loop l.length 0 (by omega))
end
end Go.G.YtilifcggegabfaaDoor
