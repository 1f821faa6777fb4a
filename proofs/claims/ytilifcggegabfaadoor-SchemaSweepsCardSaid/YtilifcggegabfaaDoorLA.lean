/- schema.Entries; a state that every program must know. -/
import Derived.Test.YtilifcggegabfaaDoorED
import Derived.Test.YtilifcggegabfaaDoorSO
import Derived.Test.YtilifcggegabfaaDoorProg
set_option maxRecDepth 100000
namespace Go.G.YtilifcggegabfaaDoor
open Go.RowKit
def f13_J : Nat → List Nat × Nat := jOf []



theorem f13_go {w0 : World} {K : Value → AH → Prop} (x0_0 : Int) (a0_1 : Option Go.Addr) (n0_1 : Nat) (c0_1 : Nat) (a0_2 : Option Go.Addr) (n0_2 : Nat) (c0_2 : Nat) (h : AH)
  (hv : (EvC Go.Proofs.Tryd.prog w0 11 #[(Go.Value.agg #[(Go.Value.int .i64 x0_0), (Go.Value.slice a0_1 n0_1 c0_1), (Go.Value.slice a0_2 n0_2 c0_2)])] (fun x'0 h'1 => (∃ t'2 : Bool, ((x'0 = (Go.Value.bool t'2)) ∧ (brB (!t'2) (K (Go.Value.slice none 0 0) h'1) (EvC Go.Proofs.Tryd.prog w0 30 #[(Go.Value.agg #[(Go.Value.int .i64 x0_0), (Go.Value.slice a0_1 n0_1 c0_1), (Go.Value.slice a0_2 n0_2 c0_2)])] (fun x'3 h'4 => (∃ p'5 : Option Go.Addr, (∃ n'6 : Nat, (∃ n'7 : Nat, ((x'3 = (Go.Value.slice p'5 n'6 n'7)) ∧ (K (Go.Value.slice p'5 n'6 n'7) h'4)))))) h'1))))) h)) :
  EvC Go.Proofs.Tryd.prog w0 13 ([(.agg #[(.int .i64 x0_0), (.slice a0_1 n0_1 c0_1), (.slice a0_2 n0_2 c0_2)])]).toArray K h := EvC_intro (P := Go.Proofs.Tryd.prog) f13_J (Eq.mp (by kernel_rfl) hv)
def f12_J : Nat → List Nat × Nat := jOf []



theorem f12_go {w0 : World} {K : Value → AH → Prop}  (h : AH)
  (hv : (EvC Go.Proofs.Tryd.prog w0 13 #[(Go.Value.agg #[(Go.Value.int .i64 (5 : Int)), (Go.Value.slice none 0 0), (Go.Value.slice none 0 0)])] (fun x'0 h'1 => (∃ p'2 : Option Go.Addr, (∃ n'3 : Nat, (∃ n'4 : Nat, ((x'0 = (Go.Value.slice p'2 n'3 n'4)) ∧ (brB (((n'3 : Nat) : Int) == (1 : Int)) (∃ a'5 : Go.Addr, ((p'2 = (some a'5)) ∧ (((0 : Int) ≤ (0 : Int)) ∧ (((0 : Int) < ((n'3 : Nat) : Int)) ∧ (∃ p'6 : Option Go.Addr, (∃ n'7 : Nat, (∃ n'8 : Nat, (((Go.G.cellA w0 h'1 (Go.Addr.add (Go.Addr.add a'5 0) 0)) = (some (Go.Value.slice p'6 n'7 n'8))) ∧ (rowsOf w0 h'1 1 p'6 n'7 (fun ys'9 => (∃ s'10 : ByteArray, ((ys'9 = (Go.G.intsOf s'10)) ∧ (brB (decide ((s'10 = (ByteArray.mk #[(1 : UInt8)])))) (∃ a'11 : Go.Addr, ((p'2 = (some a'11)) ∧ (((0 : Int) ≤ (0 : Int)) ∧ (((0 : Int) < ((n'3 : Nat) : Int)) ∧ (∃ p'12 : Option Go.Addr, (∃ n'13 : Nat, (∃ n'14 : Nat, (((Go.G.cellA w0 h'1 (Go.Addr.add (Go.Addr.add a'11 0) 4)) = (some (Go.Value.slice p'12 n'13 n'14))) ∧ (rowsOf w0 h'1 1 p'12 n'13 (fun ys'15 => (∃ s'16 : ByteArray, ((ys'15 = (Go.G.intsOf s'16)) ∧ (K (Go.Value.bool (decide ((s'16 = (ByteArray.mk #[(5 : UInt8)]))))) h'1))))))))))))) (K (Go.Value.bool false) h'1)))))))))))))) (K (Go.Value.bool false) h'1))))))) h)) :
  EvC Go.Proofs.Tryd.prog w0 12 ([]).toArray K h := EvC_intro (P := Go.Proofs.Tryd.prog) f12_J (Eq.mp (by kernel_rfl) hv)
/-! ### schema.Entries; a state that every program must know -/
section
variable {w0 : World} {K : Value → AH → Prop} {h : AH} {B : List (Nat × AB)}
/-- schema.Entries. -/
theorem f13_spec {s : StM} (T : TabOk w0) (w : Own w0 h B) (hR : ∀ h' D, Own w0 h' (D ++ B) → StRd w0 h' s) (hbad : ¬ MaySt s → ∀ h', Own w0 h' B → K (.slice none 0 0) h')
    (hk : MaySt s → ∀ h' a' c' es, Out (entsD s) a' c' es → Own w0 h' (outB a' c' es ++ B) → K (.slice a' es.length c') h') : EvC Go.Proofs.Tryd.prog w0 13 #[s.agg2] K h := by
  refine f13_go _ _ _ _ _ _ _ _ (f11_spec (s := s) T w (fun h' w' => hR h' [] w') fun t h1 ht w1 => ⟨t, rfl, brB_of (fun z => hbad (fun p => by have := ht.2 p; rw [this] at z; cases z) h1 w1) fun z => ?_⟩)
  have hm := ht.1 (by simpa using z)
  exact f30_spec (s := s) w1 hm hR fun h' a' c' es o w' => ⟨a', es.length, c', rfl, hk hm h' a' c' es o w'⟩
def s5 : StM := ⟨5, none, 0, [], none, 0, []⟩
theorem rd_nil {a : Option Addr} : Rd w0 h a [] := fun j y hj => by simp at hj
theorem s5_rd : StRd w0 h s5 := ⟨by simp [s5], ⟨rd_nil, fun m hm => by cases hm⟩, by simp [s5], rd_nil, fun x hx => by cases hx⟩
theorem s5_may : MaySt s5 where
  clock0 := by simp [s5]
  clock := by simp [s5]
  rl := by simp [s5]
  sl := by simp [s5]
  ret := fun m hm => by cases hm
  retr := fun i a b ha => by simp [s5] at ha
  ses := fun m hm => by cases hm
  sesr := fun i a b ha => by simp [s5] at ha
theorem s5_ents : entsD s5 = [([1], 0, [5])] := by
  have : putV 5 = [5] := putV_small (by decide)
  simp [entsD, clockE, s5, subsD, quesD, flsD, idsD, this]
/-- A state that every program must know. -/
theorem f12_spec (T : TabOk w0) (w : Own w0 h B) (hk : ∀ h', Own w0 h' B → K (.bool true) h') : EvC Go.Proofs.Tryd.prog w0 12 #[] K h := by
  refine f12_go _ (f13_spec (s := s5) T w (fun h' D w' => s5_rd) (fun hn => absurd s5_may hn) fun _ h1 a c es o w1 => ⟨a, es.length, c, rfl, ?_⟩)
  have hd := o.dat
  rw [s5_ents] at hd
  obtain ⟨e, rfl⟩ : ∃ e, es = [e] := List.length_eq_one_iff.1 (by rw [o.len, s5_ents]; rfl)
  have hd1 : e.key = [1] ∧ e.til = 0 ∧ e.val = [5] := by simpa [EntM.dat] using hd
  obtain ⟨k1, k2, k3⟩ := hd1
  have ev := o.ev e (List.mem_singleton_self _)
  have rr : Rd w0 h1 a ([e].flatMap EntM.cells) := o.v.rd (cs := []) (bs := ownE [e] ++ B) (by simpa only [List.nil_append, outB, List.append_assoc] using w1)
  obtain ⟨ad, had, c0⟩ := rr 0 _ rfl
  obtain ⟨ad', had', c4⟩ := rr 4 _ rfl
  rw [had] at had'; injection had' with had'; subst had'
  have rk : Rd w0 h1 e.ka (u8s [1]) := by
    have := slv_rdm ev.key w1 fun p hp => by rw [Nat.mul_one] at hp; simp [outB, ownE]; exact .inr (.inr (.inl hp))
    rw [k1] at this; exact this
  have rv : Rd w0 h1 e.va (u8s [5]) := by
    have := slv_rdm ev.val w1 fun p hp => by rw [Nat.mul_one] at hp; simp [outB, ownE]; exact .inr (.inl hp)
    rw [k3] at this; exact this
  refine brB_of (fun _ => ⟨ad, had, by decide, by simp, e.ka, e.key.length, e.kc, by rw [Deep.add_add]; exact c0, rows8 rk (by rw [k1]) (brB_of (fun _ => ⟨ad, had, by decide, by simp, e.va, e.val.length, e.vc, by rw [Deep.add_add]; exact c4, rows8 rv (by rw [k3]) ?_⟩) fun z => ?_)⟩) fun z => by simp at z
  · exact hk h1 (Own.drop w1)
  · exact absurd rfl (of_decide_eq_false z)
end
end Go.G.YtilifcggegabfaaDoor
