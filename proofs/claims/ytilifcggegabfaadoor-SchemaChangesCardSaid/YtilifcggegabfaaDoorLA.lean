/- schema.Entries; a state that every program must know. -/
import Derived.Test.YtilifcggegabfaaDoorED
import Derived.Test.YtilifcggegabfaaDoorProg
set_option maxRecDepth 100000
namespace Go.G.YtilifcggegabfaaDoor
open Go.RowKit
open Value (string slice int bool agg)
def f13_J : Nat → List Nat × Nat := jOf []



theorem f13_go {w0 : World} {K : Value → AH → Prop} (a : Int) (b : Option Addr) (c : Nat) (d : Nat) (e : Option Addr) (g : Nat) (i : Nat) (h : AH)
  (hv : (EvC Proofs.Tryd.prog w0 11 #[(agg #[(int .i64 a), (slice b c d), (slice e g i)])] (fun q k => (∃ m : Bool, ((q = (bool m)) ∧ (brB (!m) (K (slice none 0 0) k) (EvC Proofs.Tryd.prog w0 30 #[(agg #[(int .i64 a), (slice b c d), (slice e g i)])] (fun r s => (∃ n : Option Addr, (∃ o : Nat, (∃ p : Nat, ((r = (slice n o p)) ∧ (K (slice n o p) s)))))) k))))) h)) :
  EvC Proofs.Tryd.prog w0 13 ([(.agg #[(.int .i64 a), (.slice b c d), (.slice e g i)])]).toArray K h := EvC_intro (P := Proofs.Tryd.prog) f13_J (Eq.mp (by kernel_rfl) hv)
def f12_J : Nat → List Nat × Nat := jOf []



theorem f12_go {w0 : World} {K : Value → AH → Prop}  (h : AH)
  (hv : (EvC Proofs.Tryd.prog w0 13 #[(agg #[(int .i64 (5 : Int)), (slice none 0 0), (slice none 0 0)])] (fun p a => (∃ c : Option Addr, (∃ b : Nat, (∃ q : Nat, ((p = (slice c b q)) ∧ (brB (((b : Nat) : Int) == (1 : Int)) (∃ d : Addr, ((c = (some d)) ∧ (((0 : Int) ≤ (0 : Int)) ∧ (((0 : Int) < ((b : Nat) : Int)) ∧ (∃ e : Option Addr, (∃ g : Nat, (∃ r : Nat, (((cellA w0 a (Addr.add (Addr.add d 0) 0)) = (some (slice e g r))) ∧ (rowsOf w0 a 1 e g (fun s => (∃ i : ByteArray, ((s = (intsOf i)) ∧ (brB (decide ((i = (ByteArray.mk #[(1 : UInt8)])))) (∃ k : Addr, ((c = (some k)) ∧ (((0 : Int) ≤ (0 : Int)) ∧ (((0 : Int) < ((b : Nat) : Int)) ∧ (∃ m : Option Addr, (∃ n : Nat, (∃ t : Nat, (((cellA w0 a (Addr.add (Addr.add k 0) 4)) = (some (slice m n t))) ∧ (rowsOf w0 a 1 m n (fun u => (∃ o : ByteArray, ((u = (intsOf o)) ∧ (K (bool (decide ((o = (ByteArray.mk #[(5 : UInt8)]))))) a))))))))))))) (K (bool false) a)))))))))))))) (K (bool false) a))))))) h)) :
  EvC Proofs.Tryd.prog w0 12 ([]).toArray K h := EvC_intro (P := Proofs.Tryd.prog) f12_J (Eq.mp (by kernel_rfl) hv)
/-! ### schema.Entries; a state that every program must know -/
section
variable {w0 : World} {K : Value → AH → Prop} {h : AH} {B : List (Nat × AB)}
/-- schema.Entries. -/
theorem f13_spec {s : StM} (T : TabOk w0) (w : Own w0 h B) (hR : ∀ h' D, Own w0 h' (D ++ B) → StRd w0 h' s) (hbad : ¬ MaySt s → ∀ h', Own w0 h' B → K (.slice none 0 0) h')
    (hk : MaySt s → ∀ h' a' c' es, Out (entsD s) a' c' es → Own w0 h' (outB a' c' es ++ B) → K (.slice a' es.length c') h') : EvC Go.Proofs.Tryd.prog w0 13 #[s.agg2] K h := by
  refine f13_go _ _ _ _ _ _ _ _ (f11_spec (s := s) T w (fun h' w' => hR h' [] w') fun t h1 ht w1 => ⟨t, rfl, brB_of (fun z => hbad (fun p => by have := ht.2 p; rw [this] at z; cases z) h1 w1) fun z => ?_⟩)
  have hm := ht.1 (by simpa using z)
  exact f30_spec (s := s) w1 hm hR fun h' a' c' es o w' => ⟨a', es.length, c', rfl, hk hm h' a' c' es o w'⟩
def s5 : StM := ⟨5, none, 0, [], none, 0, []⟩
theorem rd_nil {a : Option Addr} : Rd w0 h a [] := fun j y hj => by simp at hj
theorem s5_rd : StRd w0 h s5 := ⟨by simp [s5], ⟨rd_nil, fun m hm => by cases hm⟩, by simp [s5], rd_nil, fun x hx => by cases hx⟩
theorem s5_may : MaySt s5 where
  clock0 := by simp [s5]
  clock := by simp [s5]
  rl := by simp [s5]
  sl := by simp [s5]
  ret := fun m hm => by cases hm
  retr := fun i a b ha => by simp [s5] at ha
  ses := fun m hm => by cases hm
  sesr := fun i a b ha => by simp [s5] at ha
theorem s5_ents : entsD s5 = [([1], 0, [5])] := by
  have : putV 5 = [5] := putV_small (by decide)
  simp [entsD, clockE, s5, subsD, quesD, flsD, idsD, this]
/-- A state that every program must know. -/
theorem f12_spec (T : TabOk w0) (w : Own w0 h B) (hk : ∀ h', Own w0 h' B → K (.bool true) h') : EvC Go.Proofs.Tryd.prog w0 12 #[] K h := by
  refine f12_go _ (f13_spec (s := s5) T w (fun h' D w' => s5_rd) (fun hn => absurd s5_may hn) fun _ h1 a c es o w1 => ⟨a, es.length, c, rfl, ?_⟩)
  have hd := o.dat
  rw [s5_ents] at hd
  obtain ⟨e, rfl⟩ : ∃ e, es = [e] := List.length_eq_one_iff.1 (by rw [o.len, s5_ents]; rfl)
  have hd1 : e.key = [1] ∧ e.til = 0 ∧ e.val = [5] := by simpa [EntM.dat] using hd
  obtain ⟨k1, k2, k3⟩ := hd1
  have ev := o.ev e (List.mem_singleton_self _)
  have rr : Rd w0 h1 a ([e].flatMap EntM.cells) := o.v.rd (cs := []) (bs := ownE [e] ++ B) (by simpa only [List.nil_append, outB, List.append_assoc] using w1)
  obtain ⟨ad, had, c0⟩ := rr 0 _ rfl
  obtain ⟨ad', had', c4⟩ := rr 4 _ rfl
  rw [had] at had'; injection had' with had'; subst had'
  have rk : Rd w0 h1 e.ka (u8s [1]) := by
    have := slv_rdm ev.key w1 fun p hp => by rw [Nat.mul_one] at hp; simp [outB, ownE]; exact .inr (.inr (.inl hp))
    rw [k1] at this; exact this
  have rv : Rd w0 h1 e.va (u8s [5]) := by
    have := slv_rdm ev.val w1 fun p hp => by rw [Nat.mul_one] at hp; simp [outB, ownE]; exact .inr (.inl hp)
    rw [k3] at this; exact this
  refine brB_of (fun _ => ⟨ad, had, by decide, by simp, e.ka, e.key.length, e.kc, by rw [Deep.add_add]; exact c0, rows8 rk (by rw [k1]) (brB_of (fun _ => ⟨ad, had, by decide, by simp, e.va, e.val.length, e.vc, by rw [Deep.add_add]; exact c4, rows8 rv (by rw [k3]) ?_⟩) fun z => ?_)⟩) fun z => by simp at z
  · exact hk h1 (Own.drop w1)
  · exact absurd rfl (of_decide_eq_false z)
end
/-! ### arguments -/
theorem ses_arg {w0 : World} {h : AH} {m : SesM} (k : m.Ok w0) (b1 : m.subs.length ≤ 30) (b2 : m.queue.length ≤ 30) (b3 : m.fl.length ≤ 20) (b4 : m.ids.length ≤ 100) : SesRd w0 h m :=
  ⟨by omega, k.subs.rd h, by omega, ⟨k.queue.rd h, fun x hx => (k.queuek x hx).pay.rd h⟩, by omega, k.flc, k.fl.rd h, fun f hf => (k.flk f hf).msg.pay.rd h, by omega, k.ids.rd h⟩
/-- An argument is readable, whenever. -/
theorem st_arg {w0 : World} {h : AH} {m : StM} (k : m.Ok w0) (lt : LightS m) : StRd w0 h m :=
  have b1 := lt.ret
  have b2 := lt.ses
  ⟨by omega, ⟨k.ret.rd h, fun x hx => (k.retk x hx).pay.rd h⟩, by omega, k.ses.rd h, fun x hx => ses_arg (k.sesk x hx) (lt.each x hx).1 (lt.each x hx).2.1 (lt.each x hx).2.2.1 (lt.each x hx).2.2.2⟩
section
variable {w0 : World} {K : Value → AH → Prop} {h : AH} {B : List (Nat × AB)}
theorem awake_sc (T : TabOk w0) (w : Own w0 h B) (hk : ∀ h, K (.bool true) h) : EvC Go.Proofs.Tryd.prog w0 12 #[] (fun x'24 h'25 => (∃ t'26 : Bool, ((x'24 = (.bool t'26)) ∧ (K (.bool t'26) h'25)))) h := f12_spec T w fun h' _ => ⟨_, rfl, hk h'⟩
end
end Go.G.YtilifcggegabfaaDoor
