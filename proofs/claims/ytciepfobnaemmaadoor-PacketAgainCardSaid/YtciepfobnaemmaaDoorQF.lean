/- PacketAgain. -/
import Derived.Test.YtciepfobnaemmaaDoorQE
import Derived.Test.YtciepfobnaemmaaDoorLB
import Derived.Test.YtciepfobnaemmaaDoorProg
set_option maxRecDepth 100000
namespace Go.G.YtciepfobnaemmaaDoor
open Go.RowKit
open Value (string slice int bool agg)
def f7_J : Nat → List Nat × Nat := jOf [(6, [1, 2, 4, 6, 7, 8, 9, 10, 11, 12, 13, 14, 15, 16, 17, 18, 19, 20, 21, 22, 23, 24, 25, 26, 27, 28, 29, 30, 31, 32, 33, 34, 35, 36, 37, 39, 40, 41, 42, 43, 44, 45, 46, 47, 48, 49, 50, 51, 52, 53, 54, 55, 56, 57, 58], 1)]

def f7_6 (w0 : World) (K : Value → AH → Prop) (a : Option Addr) (b c : Nat) (d : Option Addr) (e g : Nat) (i : Bool) (k m : Int) (n : Bool) (o : ByteArray) (p : Option Addr) (q r : Nat) (s : Int) (t : Bool) (u : Int) (x : ByteArray) (y : Bool) (z : Int) (A B : Bool) (C : Int) (D : Option Addr) (E F : Nat) (G : Option Addr) (L M : Nat) (h : AH) : Prop :=
  ∀ j : Nat → Value, LPk Proofs.Tryd.prog w0 (EvC Proofs.Tryd.prog w0) f7_J 7 K 6 (.v (.slice a b c) :: (jv j 3 2 (.bp 0 0 :: (jv j 5 1 (.v (.slice d e g) :: (jv j 38 32 (.v (.bool i) :: (jv j 59 20 [])))))))) [some [(.int .i64 k), (.int .i64 m), (.bool n), (.string o), (.slice p q r), (.int .i64 s), (.bool t), (.int .i64 u), (.string x), (.bool y), (.int .i64 z), (.bool A), (.bool B), (.int .i64 C), (.slice D E F), (.slice G L M)]] h

theorem f7_6_in {w0 : World} {K : Value → AH → Prop} (c : Option Addr) (a p : Nat) (d : Option Addr) (b q : Nat) (e : Bool) (g r : Int) (s : Bool) (t : ByteArray) (u : Option Addr) (v x : Nat) (y : Int) (z : Bool) (A : Int) (B : ByteArray) (C : Bool) (D : Int) (E F : Bool) (L : Int) (M : Option Addr) (N Q : Nat) (R : Option Addr) (T U : Nat) (h : AH)
  (hv : (brB e (K (bool false) h) (brB (g == (1 : Int)) (EvC Proofs.Tryd.prog w0 17 #[] (fun V Y => (∃ i : Bool, ((V = (bool i)) ∧ (K (bool i) Y)))) h) (brB (decide ((((b : Nat) : Int) < ((a : Nat) : Int)))) (EvC Proofs.Tryd.prog w0 17 #[] (fun Z a0 => (∃ k : Bool, ((Z = (bool k)) ∧ (K (bool k) a0)))) h) (rowsOf w0 h 1 d b (fun a1 => (∃ m : ByteArray, ((a1 = (intsOf m)) ∧ (rowsOf w0 h 1 c a (fun a2 => (∃ n : ByteArray, ((a2 = (intsOf n)) ∧ (brB (decide ((m = n))) (EvC Proofs.Tryd.prog w0 17 #[] (fun a3 a4 => (∃ o : Bool, ((a3 = (bool o)) ∧ (K (bool o) a4)))) h) (K (bool false) h)))))))))))))) :
  f7_6 w0 K c a p d b q e g r s t u v x y z A B C D E F L M N Q R T U h := fun j => LP_intro (P := Proofs.Tryd.prog) (Eq.mp (by kernel_rfl) hv)

theorem f7_go {w0 : World} {K : Value → AH → Prop} (C : Option Addr) (B D : Nat) (h : AH)
  (hv : (EvC Proofs.Tryd.prog w0 14 #[(slice C B D)] (fun Y M => (∃ a : Int, (∃ b : Int, (∃ c : Bool, (∃ d : ByteArray, (∃ e : Option Addr, (∃ g : Nat, (∃ i : Nat, (∃ k : Int, (∃ m : Bool, (∃ n : Int, (∃ o : ByteArray, (∃ p : Bool, (∃ q : Int, (∃ r : Bool, (∃ s : Bool, (∃ t : Int, (∃ u : Option Addr, (∃ v : Nat, (∃ x : Nat, (∃ y : Option Addr, (∃ z : Nat, (∃ A : Nat, (∃ N : Int, ((Y = (Value.tuple #[(agg #[(int .i64 a), (int .i64 b), (bool c), (string d), (slice e g i), (int .i64 k), (bool m), (int .i64 n), (string o), (bool p), (int .i64 q), (bool r), (bool s), (int .i64 t), (slice u v x), (slice y z A)]), (int .i64 N)])) ∧ (brB (N != (0 : Int)) (EvC Proofs.Tryd.prog w0 16 #[(agg #[(int .i64 a), (int .i64 b), (bool c), (string d), (slice e g i), (int .i64 k), (bool m), (int .i64 n), (string o), (bool p), (int .i64 q), (bool r), (bool s), (int .i64 t), (slice u v x), (slice y z A)]), (agg #[(int .i64 (0 : Int)), (int .i64 (0 : Int)), (bool false), (string (ByteArray.mk #[])), (slice none 0 0), (int .i64 (0 : Int)), (bool false), (int .i64 (0 : Int)), (string (ByteArray.mk #[])), (bool false), (int .i64 (0 : Int)), (bool false), (bool false), (int .i64 (0 : Int)), (slice none 0 0), (slice none 0 0)])] (fun Z Q => (∃ R : Bool, ((Z = (bool R)) ∧ (brB R (EvC Proofs.Tryd.prog w0 17 #[] (fun a0 a1 => (∃ T : Bool, ((a0 = (bool T)) ∧ (K (bool T) a1)))) Q) (K (bool false) Q))))) M) (EvC Proofs.Tryd.prog w0 22 #[(agg #[(int .i64 a), (int .i64 b), (bool c), (string d), (slice e g i), (int .i64 k), (bool m), (int .i64 n), (string o), (bool p), (int .i64 q), (bool r), (bool s), (int .i64 t), (slice u v x), (slice y z A)])] (fun a2 a3 => (∃ F : Option Addr, (∃ E : Nat, (∃ G : Nat, (∃ U : Int, ((a2 = (Value.tuple #[(slice F E G), (int .i64 U)])) ∧ (EvC Proofs.Tryd.prog w0 23 #[(agg #[(int .i64 a), (int .i64 b), (bool c), (string d), (slice e g i), (int .i64 k), (bool m), (int .i64 n), (string o), (bool p), (int .i64 q), (bool r), (bool s), (int .i64 t), (slice u v x), (slice y z A)])] (fun a4 L => (∃ V : Bool, ((a4 = (bool V)) ∧ (brB (!V) (f7_6 w0 K C B D F E G true a b c d e g i k m n o p q r s t u v x y z A L) (brB (U != (0 : Int)) (f7_6 w0 K C B D F E G true a b c d e g i k m n o p q r s t u v x y z A L) (f7_6 w0 K C B D F E G (decide ((((B : Nat) : Int) < ((E : Nat) : Int)))) a b c d e g i k m n o p q r s t u v x y z A L)))))) a3))))))) M))))))))))))))))))))))))))) h)) :
  EvC Proofs.Tryd.prog w0 7 ([(.slice C B D)]).toArray K h := EvC_intro (P := Proofs.Tryd.prog) f7_J (Eq.mp (by kernel_rfl) hv)
/-! ### PacketAgain -/
section
variable {w0 : World} {K : Value → AH → Prop} {c : Nat}
theorem zero_rd {h : AH} : PkRd w0 h (pk0 0) := ⟨Rd.nil, Rd.nil, Rd.nil, Nat.zero_le _, Nat.zero_le _⟩
theorem f7_spec {a : Option Addr} {l : List UInt8} (T : TabOk w0) (hr : Rd0 w0 a (u8s l)) (hc : l.length ≤ c) (hl : l.length ≤ 140737488355328) (hk : ∀ h, K (.bool true) h) : EvC Go.Proofs.Tryd.prog w0 7 #[.slice a l.length c] K (fun _ => none) := by
  have r : Rdr w0 [] a c l := ⟨fun h' _ => hr.rd h', hc, hl⟩
  have fin : ∀ h X, Own w0 h X → EvC Go.Proofs.Tryd.prog w0 17 #[] (fun x h29 => ∃ t : Bool, x = .bool t ∧ K (.bool t) h29) h := fun h X w => f17_spec T w fun h6 _ => ⟨_, rfl, hk h6⟩
  refine f7_go _ _ _ _ (f14_spec T Own.nil r (List.nil_subset _) fun h1 m e em v1 w1 => ⟨_, _, _, _, _, _, _, _, _, _, _, _, _, _, _, _, _, _, _, _, _, _, _, rfl, ?_⟩)
  have sm : smallP m.key := by have := decL_small l; rw [← em] at this; exact this
  have rm : ∀ {Y : List (Nat × AB)} h', Own w0 h' (Y ++ (ownP m ++ [])) → PkRd w0 h' m := fun {Y} h' w' => v1.rd w' (fun x hx => List.mem_append_right _ (List.mem_append_left _ hx)) sm
  refine brB_of (fun z => ?_) fun z => ?_
  · have e0 : (decL l).2 ≠ 0 := by
      rw [← em]
      intro q
      dsimp only at q
      rw [q] at z
      cases z
    have ek := decL_err e0
    rw [← em] at ek
    dsimp only at ek
    exact f16_spec (y := pk0 0) (rm (Y := []) h1 w1) zero_rd (ek.trans rfl) ⟨_, rfl, brB_of (fun _ => fin _ _ w1) fun z => by cases z⟩
  · have e0 : e = 0 := by simpa using z
    subst e0
    obtain ⟨hm, le, hq⟩ := dec_again em.symm
    refine f22_spec T w1 (fun h' w' => rm (Y := []) h' w') (fun _ h2 a2 c2 v2 w2 => ⟨_, _, _, _, rfl, f23_spec T w2 rm (fun _ h3 w3 => ⟨_, rfl, brB_of (fun z => by cases z) fun _ => brB_of (fun z => by cases z) fun _ => f7_6_in _ _ _ _ _ _ _ _ _ _ _ _ _ _ _ _ _ _ _ _ _ _ _ _ _ _ _ _ _ _ (brB_of (fun z => absurd (of_decide_eq_true z) (by omega)) fun _ => brB_of (fun _ => fin _ _ w3) fun z1 => brB_of (fun _ => fin _ _ w3) fun z2 => ?_)⟩) fun n => absurd hm n⟩) fun n => absurd hm n
    have z2 := of_decide_eq_false z2
    rcases hq with q | q | q
    · have q : m.kind = 1 := q
      rw [q] at z1; cases z1
    · exact absurd q (by omega)
    · exact rows8 (v2.rd (cs := []) w3) rfl (rows8 (hr.rd h3) rfl (brB_of (fun _ => fin _ _ w3) fun z => by rw [q] at z; simp at z))
end
end Go.G.YtciepfobnaemmaaDoor
