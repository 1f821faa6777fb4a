/- Messages in memory of their own. -/
import Derived.Test.YtilifcggegabfaaDoorSF
import Derived.Test.YtilifcggegabfaaDoorProg
set_option maxRecDepth 100000
namespace Go.G.YtilifcggegabfaaDoor
open Go.RowKit
def f31_J : Nat → List Nat × Nat := jOf [(3, [0, 2, 3, 4, 6, 7, 11, 12, 13, 14, 15, 16, 17, 18, 19, 20, 21, 22, 23, 24, 25, 26, 27], 0)]

def f31_3 (w0 : World) (K : Value → AH → Prop) (x1 : Int) (a5 : Option Go.Addr) (n5 : Nat) (c5 : Nat) (a8 : Option Go.Addr) (n8 : Nat) (c8 : Nat) (x9 : Int) (x10 : Int) (h : AH) : Prop :=
  ∀ j : Nat → Value, LPk Go.Proofs.Tryd.prog w0 (EvC Go.Proofs.Tryd.prog w0) f31_J 31 K 3 [.v (j 0), .v (.int .i64 x1), .v (j 2), .v (j 3), .v (j 4), .v (.slice a5 n5 c5), .v (j 6), .v (j 7), .v (.slice a8 n8 c8), .v (.int .i64 x9), .v (.int .i64 x10), .v (j 11), .v (j 12), .v (j 13), .v (j 14), .v (j 15), .v (j 16), .v (j 17), .v (j 18), .v (j 19), .v (j 20), .v (j 21), .v (j 22), .v (j 23), .v (j 24), .v (j 25), .v (j 26), .v (j 27)] [] h

theorem f31_3_in {w0 : World} {K : Value → AH → Prop} (x1 : Int) (a5 : Option Go.Addr) (n5 : Nat) (c5 : Nat) (a8 : Option Go.Addr) (n8 : Nat) (c8 : Nat) (x9 : Int) (x10 : Int) (h : AH)
  (hv : (brB (decide ((x10 < x9))) (∃ a'0 : Go.Addr, ((a8 = (some a'0)) ∧ (((0 : Int) ≤ x10) ∧ ((x10 < ((n8 : Nat) : Int)) ∧ (∃ s'1 : ByteArray, (∃ p'2 : Option Go.Addr, (∃ n'3 : Nat, (∃ n'4 : Nat, (∃ i'5 : Int, (∃ t'6 : Bool, (∃ i'7 : Int, ((((Array.size #[(Go.Value.string s'1), (Go.Value.slice p'2 n'3 n'4), (Go.Value.int .i64 i'5), (Go.Value.bool t'6), (Go.Value.int .i64 i'7)]) = 5) ∧ (At w0 h (Go.Addr.add a'0 ((Int.toNat x10) * 5)) [(Go.Value.string s'1), (Go.Value.slice p'2 n'3 n'4), (Go.Value.int .i64 i'5), (Go.Value.bool t'6), (Go.Value.int .i64 i'7)])) ∧ (brB (decide ((x1 < i'7))) (rowsOf w0 h 1 p'2 n'3 (fun ys'8 => (App w0 h 1 1 none 0 0 n'3 ys'8 (fun a'9 c'10 h'11 => (App w0 h'11 5 64 a5 n5 c5 1 [(Go.Value.string s'1), (Go.Value.slice a'9 (0 + n'3) c'10), (Go.Value.int .i64 i'5), (Go.Value.bool t'6), (Go.Value.int .i64 i'7)] (fun a'12 c'13 h'14 => (f31_3 w0 K x1 a'12 (n5 + 1) c'13 a8 n8 c8 x9 (Go.IntKind.wrap .i64 (x10 + (1 : Int))) h'14))))))) (f31_3 w0 K x1 a5 n5 c5 a8 n8 c8 x9 (Go.IntKind.wrap .i64 (x10 + (1 : Int))) h)))))))))))))) (K (Go.Value.slice a5 n5 c5) h))) :
  f31_3 w0 K x1 a5 n5 c5 a8 n8 c8 x9 x10 h := fun j => LP_intro (P := Go.Proofs.Tryd.prog) (Eq.mp (by kernel_rfl) hv)

theorem f31_go {w0 : World} {K : Value → AH → Prop} (a0 : Option Go.Addr) (n0 : Nat) (c0 : Nat) (x1 : Int) (h : AH)
  (hv : (f31_3 w0 K x1 none 0 0 a0 n0 c0 ((n0 : Nat) : Int) (0 : Int) h)) :
  EvC Go.Proofs.Tryd.prog w0 31 ([(.slice a0 n0 c0), (.int .i64 x1)]).toArray K h := EvC_intro (P := Go.Proofs.Tryd.prog) f31_J (Eq.mp (by kernel_rfl) hv)
/-! ### messages in memory of their own -/
def MsgM.key (m : MsgM) : ByteArray × List UInt8 × Int × Bool × Int := (m.topic, m.pay, m.qos, m.ret, m.til)
def ownM (l : List MsgM) : List (Nat × AB) := l.flatMap fun m => slB m.pa (u8s m.pay) (m.pc * 1)
def MsV (l : List MsgM) : Prop := ∀ m ∈ l, SlV 1 m.pa m.pay.length m.pc (u8s m.pay)
section
variable {w0 : World} {K : Value → AH → Prop} {h : AH} {B : List (Nat × AB)}
theorem u8_cell (l : List UInt8) : ∀ y ∈ u8s l, y.oneCell' = true := fun y hy => by
  obtain ⟨b, _, rfl⟩ := List.mem_map.1 hy
  rfl
theorem f31_spec {a : Option Addr} {c : Nat} {l : List MsgM} {x : Int} (w : Own w0 h B) (hR : ∀ h', Own w0 h' B → Rd w0 h' a (l.flatMap MsgM.cells)) (hP : ∀ h', Own w0 h' B → ∀ m ∈ l, Rd w0 h' m.pa (u8s m.pay)) (hl : l.length ≤ 1000000) (hp : ∀ m ∈ l, m.pay.length ≤ 100000000000000)
    (hk : ∀ h' a' c' ms, ms.map MsgM.key = (keepM x l).map MsgM.key → SlV 5 a' ms.length c' (ms.flatMap MsgM.cells) → MsV ms → Own w0 h' (slB a' (ms.flatMap MsgM.cells) (c' * 5) ++ (ownM ms ++ B)) → K (.slice a' ms.length c') h') :
    EvC Go.Proofs.Tryd.prog w0 31 #[.slice a l.length c, .int .i64 x] K h := by
  have loop : ∀ (n i : Nat), i + n = l.length → ∀ (a' : Option Addr) (c' : Nat) (h' : AH) (ms : List MsgM), ms.map MsgM.key = (keepM x (l.take i)).map MsgM.key → SlV 5 a' ms.length c' (ms.flatMap MsgM.cells) → MsV ms → Own w0 h' (slB a' (ms.flatMap MsgM.cells) (c' * 5) ++ (ownM ms ++ B)) →
      f31_3 w0 K x a' ms.length c' a l.length c ((l.length : Nat) : Int) ((i : Nat) : Int) h' := fun n => by
    induction n with
    | zero =>
      intro i hi a' c' h' ms he v vs w'
      rw [List.take_of_length_le (by omega)] at he
      exact f31_3_in _ _ _ _ _ _ _ _ _ _ (brB_of (fun z => by have := of_decide_eq_true z; omega) fun _ => hk h' a' c' ms he v vs w')
    | succ n ih =>
      intro i hi a' c' h' ms he v vs w'
      have g1 : l[i]? = some l[i] := List.getElem?_eq_getElem _
      have hmem := List.mem_of_getElem? g1
      obtain ⟨ad, had, hat⟩ := rowLoad (enc := MsgM.cells) (k := 5) (fun _ => rfl) (by decide) (hR h' w'.drop.drop) g1
      have ht : l.take (i + 1) = l.take i ++ [l[i]] := List.take_succ_eq_append_getElem (by omega)
      have hle : ms.length ≤ i := by
        have e := congrArg List.length he
        simp only [List.length_map] at e
        rw [e]; exact Nat.le_trans (List.length_filter_le ..) (List.length_take_le ..)
      have hpl := hp _ hmem
      refine f31_3_in _ _ _ _ _ _ _ _ _ _ (brB_of (fun _ => ⟨ad, had, by omega, by omega, _, _, _, _, _, _, _, ⟨rfl, hat⟩, brB_of (fun q => ?_) fun q => ?_⟩) fun z => by have := of_decide_eq_false z; omega)
      · have e : keepM x (l.take (i + 1)) = keepM x (l.take i) ++ [l[i]] := by unfold keepM; rw [ht, List.filter_append, List.filter_cons_of_pos (p := fun m : MsgM => decide (x < m.til)) (a := l[i]) q, List.filter_nil]
        refine rowsOf_of (hP h' w'.drop.drop _ hmem) (by rw [u8s_length, Nat.mul_one]) (App_new w' (by omega) (by omega) (by rw [u8s_length, Nat.mul_one]) (u8_cell _) fun pa pc h1 pv w1 => ?_)
        rw [Nat.zero_add]
        have w2 : Own w0 h1 (slB pa (u8s (l[i]).pay) (pc * 1) ++ (slB a' (ms.flatMap MsgM.cells) (c' * 5) ++ (ownM ms ++ B))) := w1
        refine App_mid (cs := slB pa (u8s (l[i]).pay) (pc * 1)) v w2 (by omega) (by omega) rfl (msg_cell ⟨(l[i]).topic, pa, pc, (l[i]).pay, (l[i]).qos, (l[i]).ret, (l[i]).til⟩) fun a8 c8 h8 v8 w8 => ?_
        rw [wrapS (by omega)]
        have e2 : ms.flatMap MsgM.cells ++ (⟨(l[i]).topic, pa, pc, (l[i]).pay, (l[i]).qos, (l[i]).ret, (l[i]).til⟩ : MsgM).cells = (ms ++ [(⟨(l[i]).topic, pa, pc, (l[i]).pay, (l[i]).qos, (l[i]).ret, (l[i]).til⟩ : MsgM)]).flatMap MsgM.cells := by simp
        rw [e2] at v8 w8
        have := ih (i + 1) (by omega) a8 c8 h8 (ms ++ [(⟨(l[i]).topic, pa, pc, (l[i]).pay, (l[i]).qos, (l[i]).ret, (l[i]).til⟩ : MsgM)]) (by rw [e, List.map_append, List.map_append, he]; rfl) (by rw [List.length_append]; exact v8) (fun m hm => by
          rcases List.mem_append.1 hm with hm | hm
          · exact vs m hm
          · rw [List.mem_singleton] at hm; subst hm; exact pv) (by
          have e5 : ownM (ms ++ [(⟨(l[i]).topic, pa, pc, (l[i]).pay, (l[i]).qos, (l[i]).ret, (l[i]).til⟩ : MsgM)]) = ownM ms ++ slB pa (u8s (l[i]).pay) (pc * 1) := by simp [ownM]
          rw [e5]
          refine w8.perm ?_
          have p1 := List.perm_append_comm_assoc (slB pa (u8s (l[i]).pay) (pc * 1)) (slB a8 ((ms ++ [(⟨(l[i]).topic, pa, pc, (l[i]).pay, (l[i]).qos, (l[i]).ret, (l[i]).til⟩ : MsgM)]).flatMap MsgM.cells) (c8 * 5) ++ ownM ms) B
          simpa only [List.append_assoc] using p1)
        rw [List.length_append] at this
        exact this
      · have e : keepM x (l.take (i + 1)) = keepM x (l.take i) := by unfold keepM; rw [ht, List.filter_append, List.filter_cons_of_neg (p := fun m : MsgM => decide (x < m.til)) (a := l[i]) (by simpa using q), List.filter_nil, List.append_nil]
        rw [wrapS (by omega)]
        exact ih (i + 1) (by omega) a' c' h' ms (by rw [e]; exact he) v vs w'
  exact f31_go _ _ _ _ _ (loop l.length 0 (by omega) none 0 h [] rfl SlV.nil (fun _ z => by cases z) w)
end
end Go.G.YtilifcggegabfaaDoor
