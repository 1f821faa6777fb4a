/- node.remove. -/
import Derived.Test.YtnmngjffebbbnaaDoorTV
import Derived.Test.YtnmngjffebbbnaaDoorProg
set_option maxRecDepth 100000
namespace Go.G.YtnmngjffebbbnaaDoor
open Go.RowKit
open Value (string slice int bool agg)
def f42_J : Nat → List Nat × Nat := jOf [(2, (rn 49 46 [99999]), 0), (3, (3 :: (4 :: (5 :: (rn 49 42 [99999])))), 0), (4, (2 :: (3 :: (4 :: (5 :: (rn 49 42 [99999]))))), 0), (5, (rn 41 39 (rn 49 7 [])), 0)]

def f42_2 (w0 : World) (K : Value → AH → Prop) (a b : Option Addr) (c d : Nat) (e : ByteArray) (h : AH) : Prop :=
  ∀ j : Nat → Value, LPk Proofs.Tryd.prog w0 (EvC Proofs.Tryd.prog w0) f42_J 42 K 2 (.v (.pointer a) :: (.v (.slice b c d) :: (.v (.string e) :: (jv j 49 46 [])))) [] h

def f42_3 (w0 : World) (K : Value → AH → Prop) (a b : Option Addr) (c d : Nat) (e : ByteArray) (g : Option Addr) (h : AH) : Prop :=
  ∀ j : Nat → Value, LPk Proofs.Tryd.prog w0 (EvC Proofs.Tryd.prog w0) f42_J 42 K 3 (.v (.pointer a) :: (.v (.slice b c d) :: (.v (.string e) :: (jv j 6 3 (.v (.pointer g) :: (jv j 49 42 [])))))) [] h

def f42_4 (w0 : World) (K : Value → AH → Prop) (a b : Option Addr) (c d : Nat) (e : Option Addr) (h : AH) : Prop :=
  ∀ j : Nat → Value, LPk Proofs.Tryd.prog w0 (EvC Proofs.Tryd.prog w0) f42_J 42 K 4 (.v (.pointer a) :: (.v (.slice b c d) :: (jv j 6 4 (.v (.pointer e) :: (jv j 49 42 []))))) [] h

def f42_5 (w0 : World) (K : Value → AH → Prop) (a b : Option Addr) (c d : Nat) (e : Bool) (h : AH) : Prop :=
  ∀ j : Nat → Value, LPk Proofs.Tryd.prog w0 (EvC Proofs.Tryd.prog w0) f42_J 42 K 5 (.v (.pointer a) :: (.v (.slice b c d) :: (jv j 41 39 (.v (.bool e) :: (jv j 49 7 []))))) [] h

theorem f42_2_in {w0 : World} {K : Value → AH → Prop} (a b : Option Addr) (c d : Nat) (e : ByteArray) (h : AH)
  (hv : (∃ g : Addr, ((a = (some g)) ∧ (∃ i : Addr, ((b = (some i)) ∧ (((0 : Int) ≤ (0 : Int)) ∧ (((0 : Int) < ((c : Nat) : Int)) ∧ ((∃ n : Option Nat, (((cellA w0 h (Addr.add g 1)) = (some (Value.map n))) ∧ (∃ k : ByteArray, (((cellA w0 h (Addr.add i 0)) = (some (string k))) ∧ (((plainKey Proofs.Tryd.prog 59 (string k)) = true) ∧ (mapAt Proofs.Tryd.prog w0 h n 59 (fun r => (∃ o : Option Addr, (((Value.pointer o) = (Option.getD (getM (string k) r) (Value.pointer none))) ∧ (f42_3 w0 K a b c d e o h)))))))))) ∧ (∃ m : ByteArray, (((cellA w0 h (Addr.add i 0)) = (some (string m))) ∧ (∃ p : Option Nat, (((cellA w0 h (Addr.add g 1)) = (some (Value.map p))) ∧ (((plainKey Proofs.Tryd.prog 59 (string m)) = true) ∧ (mapAt Proofs.Tryd.prog w0 h p 59 (fun s => (∃ q : Option Addr, (((Value.pointer q) = (Option.getD (getM (string m) s) (Value.pointer none))) ∧ (f42_3 w0 K a b c d e q h)))))))))))))))))) :
  f42_2 w0 K a b c d e h := fun j => LP_intro (P := Proofs.Tryd.prog) (Eq.mp (by kernel_rfl) hv)

theorem f42_3_in {w0 : World} {K : Value → AH → Prop} (e c : Option Addr) (a b : Nat) (g : ByteArray) (d : Option Addr) (h : AH)
  (hv : (((0 : Int) ≤ (1 : Int)) ∧ (((1 : Int) ≤ ((a : Nat) : Int)) ∧ (EvC Proofs.Tryd.prog w0 42 #[(Value.pointer d), (slice (cutA 1 c b 1) (a - 1) (b - 1)), (string g)] (fun i k => ((i = (Value.tuple #[])) ∧ (f42_4 w0 K e c a b d k))) h)))) :
  f42_3 w0 K e c a b g d h := fun j => LP_intro (P := Proofs.Tryd.prog) (Eq.mp (by kernel_rfl) hv)

theorem f42_4_in {w0 : World} {K : Value → AH → Prop} (a b : Option Addr) (c d : Nat) (e : Option Addr) (h : AH)
  (hv : (∃ g : Addr, ((e = (some g)) ∧ (∃ i : Option Nat, (((cellA w0 h (Addr.add g 0)) = (some (Value.map i))) ∧ (mapAt Proofs.Tryd.prog w0 h i 58 (fun n => (brB ((((List.length n) : Nat) : Int) == (0 : Int)) (∃ k : Addr, ((e = (some k)) ∧ (∃ m : Option Nat, (((cellA w0 h (Addr.add k 1)) = (some (Value.map m))) ∧ (mapAt Proofs.Tryd.prog w0 h m 59 (fun o => (f42_5 w0 K a b c d ((((List.length o) : Nat) : Int) == (0 : Int)) h))))))) (f42_5 w0 K a b c d false h))))))))) :
  f42_4 w0 K a b c d e h := fun j => LP_intro (P := Proofs.Tryd.prog) (Eq.mp (by kernel_rfl) hv)

theorem f42_5_in {w0 : World} {K : Value → AH → Prop} (i k : Option Addr) (m q : Nat) (n : Bool) (h : AH)
  (hv : (brB n (∃ c : Addr, ((i = (some c)) ∧ (∃ d : Addr, ((k = (some d)) ∧ (((0 : Int) ≤ (0 : Int)) ∧ (((0 : Int) < ((m : Nat) : Int)) ∧ ((∃ a : Option Nat, (((cellA w0 h (Addr.add c 1)) = (some (Value.map a))) ∧ (∃ e : ByteArray, (((cellA w0 h (Addr.add d 0)) = (some (string e))) ∧ (((plainKey Proofs.Tryd.prog 59 (string e)) = true) ∧ (mapAt Proofs.Tryd.prog w0 h a 59 (fun r => (((a = none) → (K (Value.tuple #[]) h)) ∧ (∀ o : Nat, ((a = (some o)) → (K (Value.tuple #[]) (AH.putm h o (delM (string e) r))))))))))))) ∧ (∃ g : ByteArray, (((cellA w0 h (Addr.add d 0)) = (some (string g))) ∧ (∃ b : Option Nat, (((cellA w0 h (Addr.add c 1)) = (some (Value.map b))) ∧ (((plainKey Proofs.Tryd.prog 59 (string g)) = true) ∧ (mapAt Proofs.Tryd.prog w0 h b 59 (fun s => (((b = none) → (K (Value.tuple #[]) h)) ∧ (∀ p : Nat, ((b = (some p)) → (K (Value.tuple #[]) (AH.putm h p (delM (string g) s)))))))))))))))))))) (K (Value.tuple #[]) h))) :
  f42_5 w0 K i k m q n h := fun j => LP_intro (P := Proofs.Tryd.prog) (Eq.mp (by kernel_rfl) hv)

theorem f42_go {w0 : World} {K : Value → AH → Prop} (c e : Option Addr) (d g : Nat) (a : ByteArray) (h : AH)
  (hv : (brB (((d : Nat) : Int) == (0 : Int)) (∃ i : Addr, ((c = (some i)) ∧ (∃ b : Option Nat, (((cellA w0 h (Addr.add i 0)) = (some (Value.map b))) ∧ (((plainKey Proofs.Tryd.prog 58 (string a)) = true) ∧ (mapAt Proofs.Tryd.prog w0 h b 58 (fun m => (((b = none) → (K (Value.tuple #[]) h)) ∧ (∀ k : Nat, ((b = (some k)) → (K (Value.tuple #[]) (AH.putm h k (delM (string a) m))))))))))))) (f42_2 w0 K c e d g a h))) :
  EvC Proofs.Tryd.prog w0 42 ([(.pointer c), (.slice e d g), (.string a)]).toArray K h := EvC_intro (P := Proofs.Tryd.prog) f42_J (Eq.mp (by kernel_rfl) hv)
/-! ### node.remove -/
section
variable {w0 : World} {rb : Nat} {client : ByteArray} {R : List (Nat × AB)}
theorem f42_spec : ∀ (l : List ByteArray) {N : List Nd} {n : Nd} {a : Option Addr} {c : Nat} {B : List (Nat × AB)} {h : AH} {K : Value → AH → Prop}, Tre N rb → n ∈ N → (∃ m ∈ N, m.p = n.p ++ l) → RdS w0 R a c l → R ⊆ B → Own w0 h (nds N ++ B) →
    (∀ h' N', Tre N' rb → (∀ m ∈ N, (∀ k r, m.p ≠ n.p ++ k :: r) → ∃ m' ∈ N', m'.p = m.p ∧ m'.b = m.b) → (∀ c' P q, Has N' P c' q ↔ Has N P c' q ∧ ¬ (P = n.p ++ l ∧ c' = client)) → Own w0 h' (nds N' ++ B) → K (.tuple #[]) h') →
    EvC Go.Proofs.Tryd.prog w0 42 #[.pointer (some ⟨n.b, 0, none⟩), .slice a l.length c, .string client] K h := fun l => by
  induction l with
  | nil =>
    intro N n a c B h K t hn _ r hs w hk
    obtain ⟨M, hp⟩ := front hn
    have t' := t.perm hp
    refine f42_go _ _ _ _ _ _ (brB_of (fun _ => ⟨_, rfl, _, nd_here w hn, pk58 _, map58 w (nd_in hn).2.1 ⟨fun z => (by cases z), fun x e => ?_⟩⟩) fun z => absurd z (by decide))
    injection e with e
    subst e
    rw [del_mV]
    have nk := t.hk n hn
    refine hk _ _ (t'.here (delA_nodup nk)) (fun m hm _ => ?_) (fun c' P q => ?_) (own_here w hp)
    · rcases List.mem_cons.1 (hp.mem_iff.1 hm) with rfl | hm
      · exact ⟨_, List.mem_cons_self .., rfl, rfl⟩
      · exact ⟨m, List.mem_cons_of_mem _ hm, rfl, rfl⟩
    · rw [Has.other t', Has.perm hp, List.append_nil]
      by_cases e : P = n.p
      · subst e
        rw [Has.front t', delA_mem nk]
        constructor
        · rintro (⟨z, _⟩ | ⟨_, g, m⟩)
          · exact absurd rfl z
          · exact ⟨m, fun z => g z.2⟩
        · rintro ⟨m, g⟩
          exact .inr ⟨rfl, fun z => g ⟨rfl, z⟩, m⟩
      · constructor
        · rintro (⟨_, m⟩ | ⟨z, _⟩)
          · exact ⟨m, fun z => e z.1⟩
          · exact absurd z e
        · rintro ⟨m, _⟩
          exact .inl ⟨e, m⟩
  | cons x l ih =>
    intro N n a c B h K t hn hm r hs w hk
    obtain ⟨m, hm, em⟩ := hm
    have inB : R ⊆ nds N ++ B := fun y hy => List.mem_append_right _ (hs hy)
    obtain ⟨b1, hb1, eb1⟩ := t.way l.length l (n.p ++ [x]) m rfl hm (by rw [em, List.append_assoc]; rfl)
    have get : getA x n.down = some b1.b := (getA_mem (t.dk n hn)).2 ((t.dn n hn x b1.b).2 ⟨b1, hb1, eb1, rfl⟩)
    obtain ⟨ad, rfl, hx⟩ := str0 r w inB
    have go : f42_3 w0 K (some ⟨n.b, 0, none⟩) (some ad) (x :: l).length c client (some ⟨b1.b, 0, none⟩) h := by
      refine f42_3_in _ _ _ _ _ _ _ ⟨by decide, by rw [List.length_cons]; omega, ?_⟩
      refine ih t hb1 ⟨m, hm, by rw [em, eb1, List.append_assoc]; rfl⟩ r.tail hs w fun h1 N1 t1 keep has1 w1 => ⟨rfl, ?_⟩
      have inB1 : R ⊆ nds N1 ++ B := fun y hy => List.mem_append_right _ (hs hy)
      obtain ⟨b2, hb2, eb2, bb2⟩ := keep b1 hb1 fun k r e => by have := congrArg List.length e; simp at this
      obtain ⟨n2, hn2, en2, bn2⟩ := keep n hn fun k r e => by rw [eb1] at e; have := congrArg List.length e; simp at this
      rw [eb1] at eb2
      have hasE : ∀ c' P q, Has N1 P c' q ↔ Has N P c' q ∧ ¬ (P = n.p ++ x :: l ∧ c' = client) := fun c' P q => by
        rw [has1, eb1, List.append_assoc]; rfl
      have keepE : ∀ m ∈ N, (∀ k r, m.p ≠ n.p ++ k :: r) → ∃ m' ∈ N1, m'.p = m.p ∧ m'.b = m.b := fun m hm g => keep m hm fun k r e => g x (k :: r) (by rw [e, eb1, List.append_assoc]; rfl)
      have stay : K (.tuple #[]) h1 := hk h1 N1 t1 keepE hasE w1
      rw [← bb2, ← bn2]
      have flag : ∀ z : Bool, (z = true → b2.here = [] ∧ b2.down = []) → f42_5 w0 K (some ⟨n2.b, 0, none⟩) (some ad) (x :: l).length c z h1 := fun z hz => by
        refine f42_5_in _ _ _ _ _ _ (brB_of (fun e => ?_) fun _ => stay)
        obtain ⟨z1, z2⟩ := hz e
        obtain ⟨ad2, e2, hx2⟩ := str0 r w1 inB1
        injection e2 with e2
        subst e2
        have p0 : (0 : Int) < (((x :: l).length : Nat) : Int) := by rw [List.length_cons]; omega
        have fin : K (.tuple #[]) (h1.putm n2.dm (delM (.string x) (mV pV n2.down))) := by
          obtain ⟨M, hp⟩ := front hn2
          have hbM : b2 ∈ M := by
            rcases List.mem_cons.1 (hp.mem_iff.1 hb2) with e | e
            · rw [e, en2] at eb2; have := congrArg List.length eb2; simp at this
            · exact e
          obtain ⟨M2, hp2⟩ := front hbM
          have hp3 : N1.Perm (n2 :: b2 :: M2) := hp.trans (hp2.cons _)
          have t3 := t1.perm hp3
          rw [del_mV]
          have w3 := own_down (H := delA x n2.down) w1 hp3
          have w4 : Own w0 _ (nds ({ n2 with down := delA x n2.down } :: M2) ++ B) :=
            Own.tail (Own.tail (Own.tail (w3.perm ((nds_perm (List.Perm.swap b2 { n2 with down := delA x n2.down } M2)).append_right B))))
          refine hk _ _ (t3.prune (k := x) (by rw [eb2, en2]) z2) (fun m hm g => ?_) (fun c' P q => ?_) w4
          · obtain ⟨m', h', e1, e2⟩ := keepE m hm g
            rcases List.mem_cons.1 (hp3.mem_iff.1 h') with e | h'
            · exact ⟨_, List.mem_cons_self .., by rw [← e1, e], by rw [← e2, e]⟩
            · rcases List.mem_cons.1 h' with e | h'
              · exact absurd (by rw [← e1, e, eb2]) (g x [])
              · exact ⟨m', List.mem_cons_of_mem _ h', e1, e2⟩
          · rw [Has.prune z1, ← Has.perm hp3, hasE]
        refine ⟨_, rfl, _, rfl, by decide, p0, ⟨_, nd_down w1 hn2, _, hx2, pk59 _, map59 w1 (nd_in hn2).2.2 ⟨fun z => (by cases z), fun y e => ?_⟩⟩, ⟨_, hx2, _, nd_down w1 hn2, pk59 _, map59 w1 (nd_in hn2).2.2 ⟨fun z => (by cases z), fun y e => ?_⟩⟩⟩
        · injection e with e; subst e; exact fin
        · injection e with e; subst e; exact fin
      refine f42_4_in _ _ _ _ _ _ ⟨_, rfl, _, nd_here w1 hb2, map58 w1 (nd_in hb2).2.1 (brB_of (fun z1 => ?_) fun _ => flag false fun z => by cases z)⟩
      refine ⟨_, rfl, _, nd_down w1 hb2, map59 w1 (nd_in hb2).2.2 (flag _ fun z2 => ⟨?_, ?_⟩)⟩
      · rw [mV_length] at z1
        exact List.eq_nil_of_length_eq_zero (by simpa using z1)
      · rw [mV_length] at z2
        exact List.eq_nil_of_length_eq_zero (by simpa using z2)
    have p0 : (0 : Int) < (((x :: l).length : Nat) : Int) := by rw [List.length_cons]; omega
    have gv : Value.pointer (some ⟨b1.b, 0, none⟩) = Option.getD (getM (.string x) (mV pV n.down)) (.pointer none) := by rw [pV_get, get]; rfl
    refine f42_go _ _ _ _ _ _ (brB_of (fun z => absurd z (by rw [List.length_cons]; simp <;> omega)) fun _ => f42_2_in _ _ _ _ _ _ ?_)
    exact ⟨_, rfl, _, rfl, by decide, p0, ⟨_, nd_down w hn, _, hx, pk59 _, map59 w (nd_in hn).2.2 ⟨_, gv, go⟩⟩, ⟨_, hx, _, nd_down w hn, pk59 _, map59 w (nd_in hn).2.2 ⟨_, gv, go⟩⟩⟩
end
end Go.G.YtnmngjffebbbnaaDoor
