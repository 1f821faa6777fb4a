/- TrieCovers. -/
import Derived.Test.YtnmngjffebbbnaaDoorLDrops
import Derived.Test.YtnmngjffebbbnaaDoorTK
import Derived.Test.YtnmngjffebbbnaaDoorProg
set_option maxRecDepth 100000
namespace Go.G.YtnmngjffebbbnaaDoor
open Go.RowKit
open Value (string slice int bool agg)
def f4_J : Nat → List Nat × Nat := jOf [(2, (rn 32 27 (rn 113 80 [])), 0), (3, (rn 113 108 []), 0), (5, (rn 11 6 (rn 113 100 [])), 0), (8, (0 :: (rn 11 6 (rn 113 101 []))), 0), (16, (0 :: (rn 13 9 (rn 79 63 (rn 113 31 [])))), 0)]

def f4_2 (w0 : World) (K : Value → AH → Prop) (a : Option Addr) (b c : Nat) (d e : ByteArray) (g i : ByteArray) (k : Bool) (h : AH) : Prop :=
  ∀ j : Nat → Value, LPk Proofs.Tryd.prog w0 (EvC Proofs.Tryd.prog w0) f4_J 4 K 2 (.v (.slice a b c) :: (.v (.string d) :: (.v (.string e) :: (.v (.string g) :: (.v (.string i) :: (jv j 32 27 (.v (.bool k) :: (jv j 113 80 [])))))))) [] h

def f4_3 (w0 : World) (K : Value → AH → Prop) (a : Option Addr) (b c : Nat) (d e : ByteArray) (g i : ByteArray) (h : AH) : Prop :=
  ∀ j : Nat → Value, LPk Proofs.Tryd.prog w0 (EvC Proofs.Tryd.prog w0) f4_J 4 K 3 (.v (.slice a b c) :: (.v (.string d) :: (.v (.string e) :: (.v (.string g) :: (.v (.string i) :: (jv j 113 108 [])))))) [] h

def f4_5 (w0 : World) (K : Value → AH → Prop) (a : Option Addr) (b c : Nat) (d e : ByteArray) (g i : ByteArray) (k : Option Addr) (m : Int) (h : AH) : Prop :=
  ∀ j : Nat → Value, LPk Proofs.Tryd.prog w0 (EvC Proofs.Tryd.prog w0) f4_J 4 K 5 (.v (.slice a b c) :: (.v (.string d) :: (.v (.string e) :: (.v (.string g) :: (.v (.string i) :: (jv j 11 6 (.v (.pointer k) :: (.v (.int .i64 m) :: (jv j 113 100 []))))))))) [] h

def f4_8 (w0 : World) (K : Value → AH → Prop) (a b : ByteArray) (c d : ByteArray) (e : Option Addr) (h : AH) : Prop :=
  ∀ j : Nat → Value, LPk Proofs.Tryd.prog w0 (EvC Proofs.Tryd.prog w0) f4_J 4 K 8 (jv j 1 1 (.v (.string a) :: (.v (.string b) :: (.v (.string c) :: (.v (.string d) :: (jv j 11 6 (.v (.pointer e) :: (jv j 113 101 [])))))))) [] h

def f4_16 (w0 : World) (K : Value → AH → Prop) (a b c : ByteArray) (d : Int) (e : Option Addr) (g i : Nat) (k : Bool) (m : Option Addr) (n o : Nat) (p q : Int) (h : AH) : Prop :=
  ∀ j : Nat → Value, LPk Proofs.Tryd.prog w0 (EvC Proofs.Tryd.prog w0) f4_J 4 K 16 (jv j 1 1 (.v (.string a) :: (.v (.string b) :: (.v (.string c) :: (jv j 13 9 (.v (.int .i64 d) :: (.v (.slice e g i) :: (.v (.bool k) :: (jv j 79 63 (.v (.slice m n o) :: (.v (.int .i64 p) :: (.v (.int .i64 q) :: (jv j 113 31 []))))))))))))) [] h

theorem f4_2_in {w0 : World} {K : Value → AH → Prop} (a : Option Addr) (b c : Nat) (d e : ByteArray) (g i : ByteArray) (k : Bool) (h : AH)
  (hv : (brB k (EvC Proofs.Tryd.prog w0 10 #[] (fun n o => (∃ m : Bool, ((n = (bool m)) ∧ (K (bool m) o)))) h) (f4_3 w0 K a b c d e g i h))) :
  f4_2 w0 K a b c d e g i k h := fun j => LP_intro (P := Proofs.Tryd.prog) (Eq.mp (by kernel_rfl) hv)

theorem f4_3_in {w0 : World} {K : Value → AH → Prop} (a : Option Addr) (b c : Nat) (d e : ByteArray) (g i : ByteArray) (h : AH)
  (hv : (EvC Proofs.Tryd.prog w0 9 #[] (fun m n => (∃ k : Option Addr, ((m = (Value.pointer k)) ∧ (f4_5 w0 K a b c d e g i k (0 : Int) n)))) h)) :
  f4_3 w0 K a b c d e g i h := fun j => LP_intro (P := Proofs.Tryd.prog) (Eq.mp (by kernel_rfl) hv)

theorem f4_5_in {w0 : World} {K : Value → AH → Prop} (d : Option Addr) (c m : Nat) (e g : ByteArray) (i k : ByteArray) (b : Option Addr) (a : Int) (h : AH)
  (hv : (brB (decide ((a < ((c : Nat) : Int)))) (brB (decide ((a < (40 : Int)))) (∃ n : Addr, ((d = (some n)) ∧ (((0 : Int) ≤ a) ∧ ((a < ((c : Nat) : Int)) ∧ (∃ o : Addr, ((d = (some o)) ∧ (((0 : Int) ≤ a) ∧ ((a < ((c : Nat) : Int)) ∧ (∃ p : Addr, ((d = (some p)) ∧ (((0 : Int) ≤ a) ∧ ((a < ((c : Nat) : Int)) ∧ ((∃ q : ByteArray, (((cellA w0 h (Addr.add (Addr.add n ((Int.toNat a) * 4)) 1)) = (some (string q))) ∧ ((∃ t : ByteArray, (((cellA w0 h (Addr.add (Addr.add o ((Int.toNat a) * 4)) 2)) = (some (string t))) ∧ (∃ u : Int, (((cellA w0 h (Addr.add (Addr.add p ((Int.toNat a) * 4)) 3)) = (some (int .i64 u))) ∧ (EvC Proofs.Tryd.prog w0 11 #[(Value.pointer b), (string q), (string t), (int .i64 u)] (fun L M => (∃ N : Bool, ((L = (bool N)) ∧ (f4_5 w0 K d c m e g i k b (IntKind.wrap .i64 (a + (1 : Int))) M)))) h))))) ∧ (∃ v : Int, (((cellA w0 h (Addr.add (Addr.add p ((Int.toNat a) * 4)) 3)) = (some (int .i64 v))) ∧ (∃ x : ByteArray, (((cellA w0 h (Addr.add (Addr.add o ((Int.toNat a) * 4)) 2)) = (some (string x))) ∧ (EvC Proofs.Tryd.prog w0 11 #[(Value.pointer b), (string q), (string x), (int .i64 v)] (fun Q R => (∃ T : Bool, ((Q = (bool T)) ∧ (f4_5 w0 K d c m e g i k b (IntKind.wrap .i64 (a + (1 : Int))) R)))) h)))))))) ∧ ((∃ r : ByteArray, (((cellA w0 h (Addr.add (Addr.add o ((Int.toNat a) * 4)) 2)) = (some (string r))) ∧ ((∃ y : ByteArray, (((cellA w0 h (Addr.add (Addr.add n ((Int.toNat a) * 4)) 1)) = (some (string y))) ∧ (∃ z : Int, (((cellA w0 h (Addr.add (Addr.add p ((Int.toNat a) * 4)) 3)) = (some (int .i64 z))) ∧ (EvC Proofs.Tryd.prog w0 11 #[(Value.pointer b), (string y), (string r), (int .i64 z)] (fun U V => (∃ Y : Bool, ((U = (bool Y)) ∧ (f4_5 w0 K d c m e g i k b (IntKind.wrap .i64 (a + (1 : Int))) V)))) h))))) ∧ (∃ A : Int, (((cellA w0 h (Addr.add (Addr.add p ((Int.toNat a) * 4)) 3)) = (some (int .i64 A))) ∧ (∃ B : ByteArray, (((cellA w0 h (Addr.add (Addr.add n ((Int.toNat a) * 4)) 1)) = (some (string B))) ∧ (EvC Proofs.Tryd.prog w0 11 #[(Value.pointer b), (string B), (string r), (int .i64 A)] (fun Z a0 => (∃ a1 : Bool, ((Z = (bool a1)) ∧ (f4_5 w0 K d c m e g i k b (IntKind.wrap .i64 (a + (1 : Int))) a0)))) h)))))))) ∧ (∃ s : Int, (((cellA w0 h (Addr.add (Addr.add p ((Int.toNat a) * 4)) 3)) = (some (int .i64 s))) ∧ ((∃ C : ByteArray, (((cellA w0 h (Addr.add (Addr.add n ((Int.toNat a) * 4)) 1)) = (some (string C))) ∧ (∃ D : ByteArray, (((cellA w0 h (Addr.add (Addr.add o ((Int.toNat a) * 4)) 2)) = (some (string D))) ∧ (EvC Proofs.Tryd.prog w0 11 #[(Value.pointer b), (string C), (string D), (int .i64 s)] (fun a2 a3 => (∃ a4 : Bool, ((a2 = (bool a4)) ∧ (f4_5 w0 K d c m e g i k b (IntKind.wrap .i64 (a + (1 : Int))) a3)))) h))))) ∧ (∃ E : ByteArray, (((cellA w0 h (Addr.add (Addr.add o ((Int.toNat a) * 4)) 2)) = (some (string E))) ∧ (∃ F : ByteArray, (((cellA w0 h (Addr.add (Addr.add n ((Int.toNat a) * 4)) 1)) = (some (string F))) ∧ (EvC Proofs.Tryd.prog w0 11 #[(Value.pointer b), (string F), (string E), (int .i64 s)] (fun a5 a6 => (∃ a7 : Bool, ((a5 = (bool a7)) ∧ (f4_5 w0 K d c m e g i k b (IntKind.wrap .i64 (a + (1 : Int))) a6)))) h)))))))))))))))))))))) (f4_8 w0 K e g i k b h)) (f4_8 w0 K e g i k b h))) :
  f4_5 w0 K d c m e g i k b a h := fun j => LP_intro (P := Proofs.Tryd.prog) (Eq.mp (by kernel_rfl) hv)

theorem f4_8_in {w0 : World} {K : Value → AH → Prop} (d e : ByteArray) (b g : ByteArray) (a : Option Addr) (h : AH)
  (hv : (EvC Proofs.Tryd.prog w0 11 #[(Value.pointer a), (string d), (string b), (int .i64 (2 : Int))] (fun r m => (∃ n : Bool, ((r = (bool n)) ∧ (brB (!n) (K (bool false) m) (EvC Proofs.Tryd.prog w0 14 #[(Value.pointer a), (string g)] (fun s t => (∃ u : Option Addr, (∃ o : Nat, (∃ v : Nat, ((s = (slice u o v)) ∧ (EvC Proofs.Tryd.prog w0 11 #[(Value.pointer a), (string e), (string b), (int .i64 (0 : Int))] (fun x p => (∃ q : Bool, ((x = (bool q)) ∧ (brB (!q) (K (bool false) p) (EvC Proofs.Tryd.prog w0 14 #[(Value.pointer a), (string g)] (fun y z => (∃ i : Option Addr, (∃ c : Nat, (∃ k : Nat, ((y = (slice i c k)) ∧ (f4_16 w0 K d e b ((o : Nat) : Int) i c k false i c k ((c : Nat) : Int) (0 : Int) z)))))) p))))) t)))))) m))))) h)) :
  f4_8 w0 K d e b g a h := fun j => LP_intro (P := Proofs.Tryd.prog) (Eq.mp (by kernel_rfl) hv)

theorem f4_16_in {w0 : World} {K : Value → AH → Prop} (b c d : ByteArray) (e : Int) (n : Option Addr) (g o : Nat) (q : Bool) (i : Option Addr) (k p : Nat) (m a : Int) (h : AH)
  (hv : (brB (decide ((a < m))) (∃ t : Addr, ((i = (some t)) ∧ (((0 : Int) ≤ a) ∧ ((a < ((k : Nat) : Int)) ∧ (∃ r : ByteArray, (∃ s : Int, ((((Array.size #[(string r), (int .i64 s)]) = 2) ∧ (At w0 h (Addr.add t ((Int.toNat a) * 2)) [(string r), (int .i64 s)])) ∧ (brB q (f4_16 w0 K b c d e n g o true i k p m (IntKind.wrap .i64 (a + (1 : Int))) h) (brB (decide ((r = d))) (f4_16 w0 K b c d e n g o (s == (2 : Int)) i k p m (IntKind.wrap .i64 (a + (1 : Int))) h) (f4_16 w0 K b c d e n g o false i k p m (IntKind.wrap .i64 (a + (1 : Int))) h)))))))))) (brB (decide ((b = c))) (EvC Proofs.Tryd.prog w0 10 #[] (fun x y => (∃ u : Bool, ((x = (bool u)) ∧ (K (bool u) y)))) h) (brB q (brB (((g : Nat) : Int) == e) (EvC Proofs.Tryd.prog w0 10 #[] (fun z A => (∃ v : Bool, ((z = (bool v)) ∧ (K (bool v) A)))) h) (K (bool false) h)) (K (bool false) h))))) :
  f4_16 w0 K b c d e n g o q i k p m a h := fun j => LP_intro (P := Proofs.Tryd.prog) (Eq.mp (by kernel_rfl) hv)

theorem f4_go {w0 : World} {K : Value → AH → Prop} (e : Option Addr) (g i : Nat) (b a : ByteArray) (c d : ByteArray) (h : AH)
  (hv : (EvC Proofs.Tryd.prog w0 15 #[(string b), (string a)] (fun q k => (∃ m : Bool, ((q = (bool m)) ∧ (brB (!m) (f4_2 w0 K e g i b a c d true k) (EvC Proofs.Tryd.prog w0 16 #[(string a), (string d)] (fun r n => (∃ o : Bool, ((r = (bool o)) ∧ (brB (!o) (f4_2 w0 K e g i b a c d true n) (EvC Proofs.Tryd.prog w0 17 #[(string c)] (fun s t => (∃ p : Bool, ((s = (bool p)) ∧ (f4_2 w0 K e g i b a c d (!p) t)))) n))))) k))))) h)) :
  EvC Proofs.Tryd.prog w0 4 ([(.slice e g i), (.string b), (.string a), (.string c), (.string d)]).toArray K h := EvC_intro (P := Proofs.Tryd.prog) f4_J (Eq.mp (by kernel_rfl) hv)
/-! ### TrieCovers -/
theorem addP_so {c f : ByteArray} {q : Int} {S : List Sb} (h : S.Pairwise ltS) : (addP c f q S).Pairwise ltS := by
  unfold addP
  split
  · exact addS_so c f q h
  · exact h
section
variable {w0 : World} {K : Value → AH → Prop} {wide narrow client name : ByteArray}
theorem cover_same {S : List Sb} (so : S.Pairwise ltS) (h2 : ∀ s ∈ S, s.q ≤ 2) (hw : matchB wide name = true) (ne : wide ≠ narrow) :
    matchS name (addS client narrow 0 false (addS client wide 2 false S)) = matchS name (addS client wide 2 false S) ∧ (client, 2) ∈ matchS name (addS client narrow 0 false (addS client wide 2 false S)) := by
  have s1 := addS_so client wide 2 so
  have s2 := addS_so client narrow 0 s1
  have q1 : ∀ s ∈ addS client wide 2 false S, s.q ≤ 2 := fun s hs => by
    rcases (addS_mem _ _ _ _ s).1 hs with rfl | ⟨g, _⟩
    · exact Int.le_refl _
    · exact h2 s g
  have q2 : ∀ s ∈ addS client narrow 0 false (addS client wide 2 false S), s.q ≤ 2 := fun s hs => by
    rcases (addS_mem _ _ _ _ s).1 hs with rfl | ⟨g, _⟩
    · show (0 : Int) ≤ 2; omega
    · exact q1 s g
  have w1 : (⟨client, wide, 2⟩ : Sb) ∈ addS client wide 2 false S := (addS_mem _ _ _ _ _).2 (.inl rfl)
  have w2 : (⟨client, wide, 2⟩ : Sb) ∈ addS client narrow 0 false (addS client wide 2 false S) := (addS_mem _ _ _ _ _).2 (.inr ⟨w1, fun z => ne z.2⟩)
  refine ⟨same_out (matchS_so s2) (matchS_so s1) fun c v => ?_, ?_⟩
  · rw [matchS_low, matchS_low]
    by_cases hc : c = client
    · subst hc
      constructor
      · rintro ⟨s, hs, _, _, e3⟩
        exact ⟨_, w1, rfl, hw, by have := q2 s hs; show v ≤ 2; omega⟩
      · rintro ⟨s, hs, _, _, e3⟩
        exact ⟨_, w2, rfl, hw, by have := q1 s hs; show v ≤ 2; omega⟩
    · constructor
      · rintro ⟨s, hs, e1, e2, e3⟩
        rcases (addS_mem _ _ _ _ s).1 hs with rfl | ⟨g, _⟩
        · exact absurd e1.symm hc
        · exact ⟨s, g, e1, e2, e3⟩
      · rintro ⟨s, hs, e1, e2, e3⟩
        exact ⟨s, (addS_mem _ _ _ _ s).2 (.inr ⟨hs, fun z => hc (e1.symm.trans z.1)⟩), e1, e2, e3⟩
  · obtain ⟨q, hq, hv⟩ := matchS_low.2 (⟨_, w2, rfl, hw, Int.le_refl _⟩ : ∃ s ∈ addS client narrow 0 false (addS client wide 2 false S), s.c = client ∧ matchB s.f name = true ∧ (2 : Int) ≤ s.q)
    obtain ⟨s, hs, _, _, e3⟩ := matchS_low.1 (⟨q, hq, Int.le_refl _⟩ : low (matchS name (addS client narrow 0 false (addS client wide 2 false S))) client q)
    have := q2 s hs
    have : q = 2 := by omega
    subst this
    exact hq
theorem f4_spec {a : Option Addr} {cp : Nat} {l : List Cl} (T : TabOk w0) (hr : Rd0 w0 a (l.flatMap Cl.cells)) (hl : l.length ≤ 140737488355328) (hk : ∀ h', K (.bool true) h') : EvC Go.Proofs.Tryd.prog w0 4 #[.slice a l.length cp, .string wide, .string narrow, .string client, .string name] K (fun _ => none) := by
  have fin : ∀ h X, Own w0 h X → EvC Go.Proofs.Tryd.prog w0 10 #[] (fun x h29 => ∃ t : Bool, x = .bool t ∧ K (.bool t) h29) h := fun h X w => f10_spec T w fun h6 => ⟨_, rfl, hk h6⟩
  have no : ∀ h X, Own w0 h X → f4_2 w0 K a l.length cp wide narrow client name true h := fun h X w => f4_2_in _ _ _ _ _ _ _ _ _ (brB_of (fun _ => fin h X w) fun z => by cases z)
  refine f4_go _ _ _ _ _ _ _ _ (f15_spec (B := []) T Own.nil fun h1 w1 => ⟨_, rfl, brB_of (fun _ => no h1 _ w1) fun z1 => f16_spec T w1 fun h2 w2 => ⟨_, rfl, brB_of (fun _ => no h2 _ w2) fun z2 => f17_spec T w2 fun h3 w3 => ⟨_, rfl, ?_⟩⟩⟩)
  have hc : coversB wide narrow = true := by simpa using z1
  have hm : matchB narrow name = true := by simpa using z2
  cases cl : clientB client with
  | false => exact no h3 _ w3
  | true =>
  have hw := covers_match hc hm
  have fw : filterB wide = true := by simp only [coversB, Bool.and_eq_true] at hc; exact hc.1.1.1
  have fn : filterB narrow = true := by simp only [coversB, Bool.and_eq_true] at hc; exact hc.1.1.2
  have okw : okP client wide 2 = true := by unfold okP; rw [fw, cl]; rfl
  have okn : okP client narrow 0 = true := by unfold okP; rw [fn, cl]; rfl
  refine f4_2_in _ _ _ _ _ _ _ _ _ (brB_of (fun z => by cases z) fun _ => f4_3_in _ _ _ _ _ _ _ _ (f9_spec w3 fun h0 D0 r0 w0' => ⟨_, rfl, ?_⟩))
  have eight : ∀ (S : List Sb) (D : TD) h, Rep S D → D.tb = D0.tb → S.length ≤ 1000 → Own w0 h (D.own []) → f4_8 w0 K wide narrow client name (some ⟨D0.tb, 0, none⟩) h := fun S D h r et hS w => by
    rw [← et]
    have eP : addP client wide 2 S = addS client wide 2 false S := by unfold addP; rw [if_pos okw]
    have eP2 : ∀ S, addP client narrow 0 S = addS client narrow 0 false S := fun S => by unfold addP; rw [if_pos okn]
    have l1 : (addS client wide 2 false S).length ≤ S.length + 1 := addS_le client wide 2 S false
    have l2 : (addS client narrow 0 false (addS client wide 2 false S)).length ≤ (addS client wide 2 false S).length + 1 := addS_le client narrow 0 _ false
    have m1 := match_le name (addS client wide 2 false S)
    have m2 := match_le name (addS client narrow 0 false (addS client wide 2 false S))
    refine f4_8_in _ _ _ _ _ _ (f11_spec T r w fun h4 D4 r4 e4 w4 => ⟨_, rfl, ?_⟩)
    rw [okw, ← e4]
    rw [eP] at r4
    refine brB_of (fun z => by cases z) fun _ => f14_spec T r4 w4 (by omega) fun h5 a5 k5 v5 w5 => ⟨_, _, _, rfl, f11_spec T r4 w5.drop fun h6 D6 r6 e6 w6 => ⟨_, rfl, ?_⟩⟩
    rw [okn, ← e6]
    rw [eP2] at r6
    refine brB_of (fun z => by cases z) fun _ => f14_spec T r6 w6 (by omega) fun h7 a7 k7 v7 w7 => ⟨_, _, _, rfl, ?_⟩
    have loop : ∀ (k i : Nat) (z : Bool), i + k = (matchS name (addS client narrow 0 false (addS client wide 2 false S))).length → z = (((matchS name (addS client narrow 0 false (addS client wide 2 false S))).take i).any fun x => decide (x.1 = client) && decide (x.2 = 2)) →
        f4_16 w0 K wide narrow client (((matchS name (addS client wide 2 false S)).length : Nat) : Int) a7 (matchS name (addS client narrow 0 false (addS client wide 2 false S))).length k7 z a7 (matchS name (addS client narrow 0 false (addS client wide 2 false S))).length k7 (((matchS name (addS client narrow 0 false (addS client wide 2 false S))).length : Nat) : Int) ((i : Nat) : Int) h7 := fun k => by
      induction k with
      | zero =>
        intro i z hi hz
        rw [List.take_of_length_le (by omega)] at hz
        refine f4_16_in _ _ _ _ _ _ _ _ _ _ _ _ _ _ (brB_of (fun y => by have := of_decide_eq_true y; omega) fun _ => brB_of (fun _ => fin h7 _ w7) fun y => ?_)
        have ne : wide ≠ narrow := of_decide_eq_false y
        obtain ⟨g1, g2⟩ := cover_same (client := client) (narrow := narrow) (name := name) r.so (fun s hs => (r.ok s hs).2.2.2) hw ne
        have zt : z = true := by
          rw [hz, List.any_eq_true]
          exact ⟨_, g2, by simp⟩
        subst zt
        refine brB_of (fun _ => brB_of (fun _ => fin h7 _ w7) fun y => ?_) fun y => by cases y
        rw [g1] at y
        simp at y
      | succ k ih =>
        intro i z hi hz
        have gi := List.getElem?_eq_getElem (l := matchS name (addS client narrow 0 false (addS client wide 2 false S))) (i := i) (by omega)
        have tk : (matchS name (addS client narrow 0 false (addS client wide 2 false S))).take (i + 1) = (matchS name (addS client narrow 0 false (addS client wide 2 false S))).take i ++ [(matchS name (addS client narrow 0 false (addS client wide 2 false S)))[i]'(by omega)] := List.take_succ_eq_append_getElem (by omega)
        have nx := ih (i + 1)
        rw [tk] at nx
        generalize (matchS name (addS client narrow 0 false (addS client wide 2 false S)))[i]'(by omega) = x at gi nx
        obtain ⟨ad, had, hat⟩ := rowLoad (enc := prC) (k := 2) (fun _ => rfl) (by decide) (v7.rd (cs := []) w7) gi
        rw [List.any_append, ← hz] at nx
        refine f4_16_in _ _ _ _ _ _ _ _ _ _ _ _ _ _ (brB_of (fun _ => ⟨ad, had, by omega, by omega, x.1, x.2, ⟨rfl, hat⟩, ?_⟩) fun y => by have := of_decide_eq_false y; omega)
        rw [wrapS (by omega)]
        refine brB_of (fun y => nx true (by omega) (by rw [y]; rfl)) fun y => brB_of (fun y2 => nx _ (by omega) ?_) fun y2 => nx false (by omega) ?_
        · rw [y, List.any_cons, List.any_nil, y2]
          simp only [Bool.true_and, Bool.or_false, Bool.false_or]
          rw [Bool.eq_iff_iff]; simp
        · rw [y, List.any_cons, List.any_nil, y2]; rfl
    exact loop _ 0 false (Nat.zero_add _) rfl
  have loop : ∀ (k i : Nat), i + k = min l.length 40 → ∀ (D : TD) (h : AH), Rep (addL [] (l.take i)) D → D.tb = D0.tb → Own w0 h (D.own []) → f4_5 w0 K a l.length cp wide narrow client name (some ⟨D0.tb, 0, none⟩) ((i : Nat) : Int) h := fun k => by
    induction k with
    | zero =>
      intro i hi D h r et w
      have le : (addL [] (l.take i)).length ≤ 1000 := by have := addL_le (l.take i) []; rw [List.length_take] at this; simp at this; omega
      exact f4_5_in _ _ _ _ _ _ _ _ _ _ (brB_of (fun z => brB_of (fun z2 => by have := of_decide_eq_true z; have := of_decide_eq_true z2; omega) fun _ => eight _ D h r et le w) fun _ => eight _ D h r et le w)
    | succ k ih =>
      intro i hi D h r et w
      have il : i < l.length := by omega
      have gi : l[i]? = some (l[i]'il) := List.getElem?_eq_getElem _
      have tk : l.take (i + 1) = l.take i ++ [l[i]'il] := List.take_succ_eq_append_getElem il
      have nx := ih (i + 1) (by omega)
      rw [tk, addL_snoc] at nx
      generalize l[i]'il = x at gi nx
      obtain ⟨ad, had, hat⟩ := rowLoad (enc := Cl.cells) (k := 4) (fun _ => rfl) (by decide) (hr.rd h) gi
      have c1 := hat 1 _ rfl
      have c2 := hat 2 _ rfl
      have c3 := hat 3 _ rfl
      have step : EvC Go.Proofs.Tryd.prog w0 11 #[.pointer (some ⟨D0.tb, 0, none⟩), .string x.f, .string x.c, .int .i64 x.q] (fun y h1 => ∃ t : Bool, y = .bool t ∧ f4_5 w0 K a l.length cp wide narrow client name (some ⟨D0.tb, 0, none⟩) (IntKind.i64.wrap (((i : Nat) : Int) + 1)) h1) h := by
        rw [← et]
        refine f11_spec T r w fun h1 D1 r1 e1 w1 => ⟨_, rfl, ?_⟩
        rw [wrapS (by omega), et]
        exact nx D1 h1 r1 (e1.trans et) w1
      refine f4_5_in _ _ _ _ _ _ _ _ _ _ (brB_of (fun _ => brB_of (fun _ => ⟨ad, had, by omega, by omega, ad, had, by omega, by omega, ad, had, by omega, by omega, ?_⟩) fun z => by have := of_decide_eq_false z; omega) fun z => by have := of_decide_eq_false z; omega)
      repeat' first | exact step | exact ⟨_, c1, _, c2, _, c3, step⟩ | refine And.intro ?_ ?_ | refine ⟨_, c1, ?_⟩ | refine ⟨_, c2, ?_⟩ | refine ⟨_, c3, ?_⟩
  exact loop (min l.length 40) 0 (by omega) D0 h0 (by simpa [addL] using r0) rfl w0'
end
end Go.G.YtnmngjffebbbnaaDoor
