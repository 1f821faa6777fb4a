/- TrieGone. -/
import Derived.Test.YtnmngjffebbbnaaDoorLDrops
import Derived.Test.YtnmngjffebbbnaaDoorTK
import Derived.Test.YtnmngjffebbbnaaDoorProg
set_option maxRecDepth 100000
namespace Go.G.YtnmngjffebbbnaaDoor
open Go.RowKit
open Value (string slice int bool agg)
def f8_J : Nat → List Nat × Nat := jOf [(3, (rn 9 5 (rn 142 131 [])), 0), (6, (0 :: (rn 9 5 (rn 142 132 []))), 0), (8, (0 :: (rn 9 5 (10 :: (rn 54 41 (rn 142 85 []))))), 0), (12, (0 :: (rn 9 5 (10 :: (13 :: (rn 54 38 (rn 63 6 (rn 142 76 []))))))), 1), (22, (0 :: (rn 9 5 (10 :: (rn 18 5 (rn 85 66 (rn 142 54 [])))))), 0), (27, (0 :: (rn 9 5 (10 :: (rn 106 93 (rn 142 35 []))))), 0)]

def f8_3 (w0 : World) (K : Value → AH → Prop) (a : Option Addr) (b c : Nat) (d e g : ByteArray) (i : Option Addr) (k : Int) (h : AH) : Prop :=
  ∀ j : Nat → Value, LPk Proofs.Tryd.prog w0 (EvC Proofs.Tryd.prog w0) f8_J 8 K 3 (.v (.slice a b c) :: (.v (.string d) :: (.v (.string e) :: (.v (.string g) :: (jv j 9 5 (.v (.pointer i) :: (.v (.int .i64 k) :: (jv j 142 131 [])))))))) [] h

def f8_6 (w0 : World) (K : Value → AH → Prop) (a b c : ByteArray) (d : Option Addr) (h : AH) : Prop :=
  ∀ j : Nat → Value, LPk Proofs.Tryd.prog w0 (EvC Proofs.Tryd.prog w0) f8_J 8 K 6 (jv j 1 1 (.v (.string a) :: (.v (.string b) :: (.v (.string c) :: (jv j 9 5 (.v (.pointer d) :: (jv j 142 132 []))))))) [] h

def f8_8 (w0 : World) (K : Value → AH → Prop) (a b c : ByteArray) (d : Option Addr) (e : Int) (g : Option Addr) (i k : Nat) (m : Option Addr) (n o : Nat) (p q : Int) (h : AH) : Prop :=
  ∀ j : Nat → Value, LPk Proofs.Tryd.prog w0 (EvC Proofs.Tryd.prog w0) f8_J 8 K 8 (jv j 1 1 (.v (.string a) :: (.v (.string b) :: (.v (.string c) :: (jv j 9 5 (.v (.pointer d) :: (jv j 11 1 (.v (.int .i64 e) :: (.v (.slice g i k) :: (jv j 54 41 (.v (.slice m n o) :: (.v (.int .i64 p) :: (.v (.int .i64 q) :: (jv j 142 85 [])))))))))))))) [] h

def f8_12 (w0 : World) (K : Value → AH → Prop) (a b c : ByteArray) (d : Option Addr) (e : Int) (g : Option Addr) (i k : Nat) (m : Int) (n : Option Addr) (o p : Nat) (q r : Int) (s : Option Addr) (t u : Nat) (x y : Int) (z : ByteArray) (A : Int) (h : AH) : Prop :=
  ∀ j : Nat → Value, LPk Proofs.Tryd.prog w0 (EvC Proofs.Tryd.prog w0) f8_J 8 K 12 (jv j 1 1 (.v (.string a) :: (.v (.string b) :: (.v (.string c) :: (jv j 9 5 (.v (.pointer d) :: (jv j 11 1 (.v (.int .i64 e) :: (.v (.slice g i k) :: (jv j 14 1 (.bp 0 0 :: (.v (.int .i64 m) :: (jv j 54 38 (.v (.slice n o p) :: (.v (.int .i64 q) :: (.v (.int .i64 r) :: (jv j 63 6 (.v (.slice s t u) :: (.v (.int .i64 x) :: (.v (.int .i64 y) :: (jv j 142 76 []))))))))))))))))))))) [some [(.string z), (.int .i64 A)]] h

def f8_22 (w0 : World) (K : Value → AH → Prop) (a b c : ByteArray) (d : Option Addr) (e : Int) (g : Option Addr) (i k : Nat) (m : Bool) (n : Option Addr) (o p : Nat) (q r : Int) (h : AH) : Prop :=
  ∀ j : Nat → Value, LPk Proofs.Tryd.prog w0 (EvC Proofs.Tryd.prog w0) f8_J 8 K 22 (jv j 1 1 (.v (.string a) :: (.v (.string b) :: (.v (.string c) :: (jv j 9 5 (.v (.pointer d) :: (jv j 11 1 (.v (.int .i64 e) :: (.v (.slice g i k) :: (jv j 18 5 (.v (.bool m) :: (jv j 85 66 (.v (.slice n o p) :: (.v (.int .i64 q) :: (.v (.int .i64 r) :: (jv j 142 54 [])))))))))))))))) [] h

def f8_27 (w0 : World) (K : Value → AH → Prop) (a b c : ByteArray) (d : Option Addr) (e : Int) (g : Option Addr) (i k : Nat) (m : Bool) (h : AH) : Prop :=
  ∀ j : Nat → Value, LPk Proofs.Tryd.prog w0 (EvC Proofs.Tryd.prog w0) f8_J 8 K 27 (jv j 1 1 (.v (.string a) :: (.v (.string b) :: (.v (.string c) :: (jv j 9 5 (.v (.pointer d) :: (jv j 11 1 (.v (.int .i64 e) :: (.v (.slice g i k) :: (jv j 106 93 (.v (.bool m) :: (jv j 142 35 [])))))))))))) [] h

theorem f8_3_in {w0 : World} {K : Value → AH → Prop} (d : Option Addr) (c k : Nat) (e g i : ByteArray) (b : Option Addr) (a : Int) (h : AH)
  (hv : (brB (decide ((a < ((c : Nat) : Int)))) (brB (decide ((a < (60 : Int)))) (∃ m : Addr, ((d = (some m)) ∧ (((0 : Int) ≤ a) ∧ ((a < ((c : Nat) : Int)) ∧ (∃ n : Addr, ((d = (some n)) ∧ (((0 : Int) ≤ a) ∧ ((a < ((c : Nat) : Int)) ∧ (∃ o : Addr, ((d = (some o)) ∧ (((0 : Int) ≤ a) ∧ ((a < ((c : Nat) : Int)) ∧ ((∃ p : ByteArray, (((cellA w0 h (Addr.add (Addr.add m ((Int.toNat a) * 4)) 1)) = (some (string p))) ∧ ((∃ s : ByteArray, (((cellA w0 h (Addr.add (Addr.add n ((Int.toNat a) * 4)) 2)) = (some (string s))) ∧ (∃ t : Int, (((cellA w0 h (Addr.add (Addr.add o ((Int.toNat a) * 4)) 3)) = (some (int .i64 t))) ∧ (EvC Proofs.Tryd.prog w0 11 #[(Value.pointer b), (string p), (string s), (int .i64 t)] (fun F L => (∃ M : Bool, ((F = (bool M)) ∧ (f8_3 w0 K d c k e g i b (IntKind.wrap .i64 (a + (1 : Int))) L)))) h))))) ∧ (∃ u : Int, (((cellA w0 h (Addr.add (Addr.add o ((Int.toNat a) * 4)) 3)) = (some (int .i64 u))) ∧ (∃ v : ByteArray, (((cellA w0 h (Addr.add (Addr.add n ((Int.toNat a) * 4)) 2)) = (some (string v))) ∧ (EvC Proofs.Tryd.prog w0 11 #[(Value.pointer b), (string p), (string v), (int .i64 u)] (fun N Q => (∃ R : Bool, ((N = (bool R)) ∧ (f8_3 w0 K d c k e g i b (IntKind.wrap .i64 (a + (1 : Int))) Q)))) h)))))))) ∧ ((∃ q : ByteArray, (((cellA w0 h (Addr.add (Addr.add n ((Int.toNat a) * 4)) 2)) = (some (string q))) ∧ ((∃ x : ByteArray, (((cellA w0 h (Addr.add (Addr.add m ((Int.toNat a) * 4)) 1)) = (some (string x))) ∧ (∃ y : Int, (((cellA w0 h (Addr.add (Addr.add o ((Int.toNat a) * 4)) 3)) = (some (int .i64 y))) ∧ (EvC Proofs.Tryd.prog w0 11 #[(Value.pointer b), (string x), (string q), (int .i64 y)] (fun T U => (∃ V : Bool, ((T = (bool V)) ∧ (f8_3 w0 K d c k e g i b (IntKind.wrap .i64 (a + (1 : Int))) U)))) h))))) ∧ (∃ z : Int, (((cellA w0 h (Addr.add (Addr.add o ((Int.toNat a) * 4)) 3)) = (some (int .i64 z))) ∧ (∃ A : ByteArray, (((cellA w0 h (Addr.add (Addr.add m ((Int.toNat a) * 4)) 1)) = (some (string A))) ∧ (EvC Proofs.Tryd.prog w0 11 #[(Value.pointer b), (string A), (string q), (int .i64 z)] (fun Y Z => (∃ a0 : Bool, ((Y = (bool a0)) ∧ (f8_3 w0 K d c k e g i b (IntKind.wrap .i64 (a + (1 : Int))) Z)))) h)))))))) ∧ (∃ r : Int, (((cellA w0 h (Addr.add (Addr.add o ((Int.toNat a) * 4)) 3)) = (some (int .i64 r))) ∧ ((∃ B : ByteArray, (((cellA w0 h (Addr.add (Addr.add m ((Int.toNat a) * 4)) 1)) = (some (string B))) ∧ (∃ C : ByteArray, (((cellA w0 h (Addr.add (Addr.add n ((Int.toNat a) * 4)) 2)) = (some (string C))) ∧ (EvC Proofs.Tryd.prog w0 11 #[(Value.pointer b), (string B), (string C), (int .i64 r)] (fun a1 a2 => (∃ a3 : Bool, ((a1 = (bool a3)) ∧ (f8_3 w0 K d c k e g i b (IntKind.wrap .i64 (a + (1 : Int))) a2)))) h))))) ∧ (∃ D : ByteArray, (((cellA w0 h (Addr.add (Addr.add n ((Int.toNat a) * 4)) 2)) = (some (string D))) ∧ (∃ E : ByteArray, (((cellA w0 h (Addr.add (Addr.add m ((Int.toNat a) * 4)) 1)) = (some (string E))) ∧ (EvC Proofs.Tryd.prog w0 11 #[(Value.pointer b), (string E), (string D), (int .i64 r)] (fun a4 a5 => (∃ a6 : Bool, ((a4 = (bool a6)) ∧ (f8_3 w0 K d c k e g i b (IntKind.wrap .i64 (a + (1 : Int))) a5)))) h)))))))))))))))))))))) (f8_6 w0 K e g i b h)) (f8_6 w0 K e g i b h))) :
  f8_3 w0 K d c k e g i b a h := fun j => LP_intro (P := Proofs.Tryd.prog) (Eq.mp (by kernel_rfl) hv)

theorem f8_6_in {w0 : World} {K : Value → AH → Prop} (g i c : ByteArray) (a : Option Addr) (h : AH)
  (hv : (EvC Proofs.Tryd.prog w0 12 #[(Value.pointer a)] (fun m n => (∃ k : Int, ((m = (int .i64 k)) ∧ (EvC Proofs.Tryd.prog w0 14 #[(Value.pointer a), (string c)] (fun o p => (∃ d : Option Addr, (∃ b : Nat, (∃ e : Nat, ((o = (slice d b e)) ∧ (f8_8 w0 K g i c a k d b e d b e ((b : Nat) : Int) (0 : Int) p)))))) n)))) h)) :
  f8_6 w0 K g i c a h := fun j => LP_intro (P := Proofs.Tryd.prog) (Eq.mp (by kernel_rfl) hv)

theorem f8_8_in {w0 : World} {K : Value → AH → Prop} (e c g : ByteArray) (b : Option Addr) (i : Int) (k : Option Addr) (m n : Nat) (o : Option Addr) (p u : Nat) (q a : Int) (h : AH)
  (hv : (brB (decide ((a < q))) (∃ v : Addr, ((o = (some v)) ∧ (((0 : Int) ≤ a) ∧ ((a < ((p : Nat) : Int)) ∧ (∃ d : ByteArray, (∃ r : Int, ((((Array.size #[(string d), (int .i64 r)]) = 2) ∧ (At w0 h (Addr.add v ((Int.toNat a) * 2)) [(string d), (int .i64 r)])) ∧ (EvC Proofs.Tryd.prog w0 21 #[(Value.pointer b), (string d)] (fun B C => (∃ x : Option Addr, (∃ s : Nat, (∃ y : Nat, ((B = (slice x s y)) ∧ (f8_12 w0 K e c g b i k m n (-1 : Int) o p u q a x s y ((s : Nat) : Int) (0 : Int) d r C)))))) h)))))))) (EvC Proofs.Tryd.prog w0 21 #[(Value.pointer b), (string c)] (fun D E => (∃ z : Option Addr, (∃ t : Nat, (∃ A : Nat, ((D = (slice z t A)) ∧ (f8_22 w0 K e c g b i k m n false z t A ((t : Nat) : Int) (0 : Int) E)))))) h))) :
  f8_8 w0 K e c g b i k m n o p u q a h := fun j => LP_intro (P := Proofs.Tryd.prog) (Eq.mp (by kernel_rfl) hv)

theorem f8_12_in {w0 : World} {K : Value → AH → Prop} (d e b : ByteArray) (g : Option Addr) (i : Int) (k : Option Addr) (m n : Nat) (c : Int) (o : Option Addr) (p q : Nat) (r s : Int) (t : Option Addr) (u z : Nat) (v a : Int) (A : ByteArray) (x : Int) (h : AH)
  (hv : (brB (decide ((a < v))) (∃ C : Addr, ((t = (some C)) ∧ (((0 : Int) ≤ a) ∧ ((a < ((u : Nat) : Int)) ∧ (∃ B : ByteArray, (∃ y : Int, ((((Array.size #[(string B), (int .i64 y)]) = 2) ∧ (At w0 h (Addr.add C ((Int.toNat a) * 2)) [(string B), (int .i64 y)])) ∧ (EvC Proofs.Tryd.prog w0 16 #[(string B), (string b)] (fun F D => (∃ E : Bool, ((F = (bool E)) ∧ (brB E (f8_12 w0 K d e b g i k m n (if (c < y) then y else c) o p q r s t u z v (IntKind.wrap .i64 (a + (1 : Int))) A x D) (f8_12 w0 K d e b g i k m n c o p q r s t u z v (IntKind.wrap .i64 (a + (1 : Int))) A x D))))) h)))))))) (brB (c != x) (K (bool false) h) (f8_8 w0 K d e b g i k m n o p q r (IntKind.wrap .i64 (s + (1 : Int))) h)))) :
  f8_12 w0 K d e b g i k m n c o p q r s t u z v a A x h := fun j => LP_intro (P := Proofs.Tryd.prog) (Eq.mp (by kernel_rfl) hv)

theorem f8_22_in {w0 : World} {K : Value → AH → Prop} (a c e : ByteArray) (d : Option Addr) (g : Int) (i : Option Addr) (k m : Nat) (q : Bool) (n : Option Addr) (o r : Nat) (p b : Int) (h : AH)
  (hv : (brB (decide ((b < p))) (∃ t : Addr, ((n = (some t)) ∧ (((0 : Int) ≤ b) ∧ ((b < ((o : Nat) : Int)) ∧ (∃ s : ByteArray, (∃ u : Int, ((((Array.size #[(string s), (int .i64 u)]) = 2) ∧ (At w0 h (Addr.add t ((Int.toNat b) * 2)) [(string s), (int .i64 u)])) ∧ (brB q (f8_22 w0 K a c e d g i k m true n o r p (IntKind.wrap .i64 (b + (1 : Int))) h) (f8_22 w0 K a c e d g i k m (decide ((s = a))) n o r p (IntKind.wrap .i64 (b + (1 : Int))) h))))))))) (brB q (f8_27 w0 K a c e d g i k m true h) (EvC Proofs.Tryd.prog w0 11 #[(Value.pointer d), (string a), (string c), (int .i64 (2 : Int))] (fun x y => (∃ v : Bool, ((x = (bool v)) ∧ (f8_27 w0 K a c e d g i k m (!v) y)))) h)))) :
  f8_22 w0 K a c e d g i k m q n o r p b h := fun j => LP_intro (P := Proofs.Tryd.prog) (Eq.mp (by kernel_rfl) hv)

theorem f8_27_in {w0 : World} {K : Value → AH → Prop} (b c e : ByteArray) (a : Option Addr) (d : Int) (g : Option Addr) (i k : Nat) (m : Bool) (h : AH)
  (hv : (brB m (EvC Proofs.Tryd.prog w0 10 #[] (fun D E => (∃ n : Bool, ((D = (bool n)) ∧ (K (bool n) E)))) h) (EvC Proofs.Tryd.prog w0 12 #[(Value.pointer a)] (fun F o => (∃ p : Int, ((F = (int .i64 p)) ∧ (brB (p == (IntKind.wrap .i64 (d + (1 : Int)))) (EvC Proofs.Tryd.prog w0 23 #[(Value.pointer a), (string b), (string c)] (fun G q => (∃ r : Bool, ((G = (bool r)) ∧ (brB r (EvC Proofs.Tryd.prog w0 23 #[(Value.pointer a), (string b), (string c)] (fun L s => (∃ t : Bool, ((L = (bool t)) ∧ (brB (!t) (EvC Proofs.Tryd.prog w0 12 #[(Value.pointer a)] (fun M u => (∃ v : Int, ((M = (int .i64 v)) ∧ (brB (v == d) (EvC Proofs.Tryd.prog w0 14 #[(Value.pointer a), (string e)] (fun N Q => (∃ x : Option Addr, (∃ y : Nat, (∃ z : Nat, ((N = (slice x y z)) ∧ (EvC Proofs.Tryd.prog w0 13 #[(slice x y z), (slice g i k)] (fun R A => (∃ B : Bool, ((R = (bool B)) ∧ (brB B (EvC Proofs.Tryd.prog w0 10 #[] (fun T U => (∃ C : Bool, ((T = (bool C)) ∧ (K (bool C) U)))) A) (K (bool false) A))))) Q)))))) u) (K (bool false) u))))) s) (K (bool false) s))))) q) (K (bool false) q))))) o) (K (bool false) o))))) h))) :
  f8_27 w0 K b c e a d g i k m h := fun j => LP_intro (P := Proofs.Tryd.prog) (Eq.mp (by kernel_rfl) hv)

theorem f8_go {w0 : World} {K : Value → AH → Prop} (a : Option Addr) (b c : Nat) (d e g : ByteArray) (h : AH)
  (hv : (EvC Proofs.Tryd.prog w0 9 #[] (fun k m => (∃ i : Option Addr, ((k = (Value.pointer i)) ∧ (f8_3 w0 K a b c d e g i (0 : Int) m)))) h)) :
  EvC Proofs.Tryd.prog w0 8 ([(.slice a b c), (.string d), (.string e), (.string g)]).toArray K h := EvC_intro (P := Proofs.Tryd.prog) f8_J (Eq.mp (by kernel_rfl) hv)
/-! ### TrieGone -/
def bestF (n : ByteArray) : Int → List (ByteArray × Int) → Int
  | b, [] => b
  | b, w :: l => bestF n (if matchB w.1 n = true then (if b < w.2 then w.2 else b) else b) l
theorem bestF_low (n : ByteArray) (v : Int) : ∀ (l : List (ByteArray × Int)) (b : Int), v ≤ bestF n b l ↔ v ≤ b ∨ ∃ w ∈ l, matchB w.1 n = true ∧ v ≤ w.2
  | [], b => by simp [bestF]
  | w :: l, b => by
    rw [bestF, bestF_low n v l]
    have split : (∃ y ∈ w :: l, matchB y.1 n = true ∧ v ≤ y.2) ↔ (matchB w.1 n = true ∧ v ≤ w.2) ∨ ∃ y ∈ l, matchB y.1 n = true ∧ v ≤ y.2 := by
      constructor
      · rintro ⟨y, hy, h⟩
        rcases List.mem_cons.1 hy with rfl | hy
        · exact .inl h
        · exact .inr ⟨y, hy, h⟩
      · rintro (h | ⟨y, hy, h⟩)
        · exact ⟨w, List.mem_cons_self .., h⟩
        · exact ⟨y, List.mem_cons_of_mem _ hy, h⟩
    rw [split, ← or_assoc]
    refine or_congr_left ?_
    by_cases m : matchB w.1 n = true
    · rw [if_pos m]
      split <;> constructor
      · intro h; exact .inr ⟨m, h⟩
      · rintro (h | ⟨_, h⟩) <;> omega
      · intro h; exact .inl h
      · rintro (h | ⟨_, h⟩) <;> omega
    · rw [if_neg m]
      constructor
      · exact .inl
      · rintro (h | ⟨h, _⟩)
        · exact h
        · exact absurd h m
theorem best_match {S : List Sb} {n : ByteArray} (so : S.Pairwise ltS) (h0 : ∀ s ∈ S, 0 ≤ s.q) {x : ByteArray × Int} (hx : x ∈ matchS n S) : bestF n (-1) (listS x.1 S) = x.2 := by
  obtain ⟨c, q⟩ := x
  dsimp only
  have all : ∀ v, v ≤ bestF n (-1) (listS c S) ↔ v ≤ -1 ∨ v ≤ q := fun v => by
    rw [bestF_low]
    refine or_congr_right ?_
    have e : (∃ w ∈ listS c S, matchB w.1 n = true ∧ v ≤ w.2) ↔ low (matchS n S) c v := by
      rw [matchS_low]
      constructor
      · rintro ⟨⟨f, p⟩, hw, h1, h2⟩
        exact ⟨_, listS_mem.1 hw, rfl, h1, h2⟩
      · rintro ⟨s, hs, rfl, h1, h2⟩
        exact ⟨(s.f, s.q), listS_mem.2 hs, h1, h2⟩
    rw [e]
    constructor
    · rintro ⟨p, hp, hv⟩
      have := key_one (so_nodup (matchS_so so)) hx hp
      omega
    · exact fun h => ⟨q, hx, h⟩
  obtain ⟨s, hs, _, _, e3⟩ := matchS_low.1 (⟨q, hx, Int.le_refl _⟩ : low (matchS n S) c q)
  have g1 := (all q).2 (.inr (Int.le_refl _))
  have g2 := (all (bestF n (-1) (listS c S))).1 (Int.le_refl _)
  -- q is no less than 0
  have q0 : 0 ≤ q := by
    have := h0 s hs
    obtain ⟨p, hp, hv⟩ := matchS_low.2 (⟨s, hs, by assumption, by assumption, Int.le_refl _⟩ : ∃ t ∈ S, t.c = c ∧ matchB t.f n = true ∧ s.q ≤ t.q)
    have := key_one (so_nodup (matchS_so so)) hx hp
    omega
  omega
theorem add_len {c f : ByteArray} {q : Int} : ∀ (l : List Sb) (d : Bool), (∀ s ∈ l, ¬ (s.c = c ∧ s.f = f)) → (addS c f q d l).length = l.length + (if d then 0 else 1)
  | [], d, _ => by cases d <;> simp [addS]
  | s :: r, d, h => by
    have ih := fun d => add_len (c := c) (f := f) (q := q) r d fun t ht => h t (List.mem_cons_of_mem _ ht)
    have ns := h s (List.mem_cons_self ..)
    simp only [addS, List.length_append, List.length_cons, if_neg ns, ih]
    by_cases g : geS c f s
    · cases d <;> simp [g] <;> omega
    · cases d <;> simp [g] <;> omega
theorem add_without {c f : ByteArray} {q : Int} {S : List Sb} (so : S.Pairwise ltS) (h : hasP c f S = false) : withoutS c f true (addS c f q false S) = S :=
  subs_eq (withoutS_so (addS_so c f q so)) so fun x => by
    rw [withoutS_mem, addS_mem]
    constructor
    · rintro ⟨rfl | ⟨g, _⟩, g2⟩
      · exact absurd ⟨rfl, fun _ => rfl⟩ g2
      · exact g
    · intro g
      have ns : ¬ (x.c = c ∧ x.f = f) := fun z => by
        obtain ⟨xc, xf, xq⟩ := x
        obtain ⟨z1, z2⟩ := z
        dsimp only at z1 z2
        subst z1 z2
        rw [hasP_iff.2 ⟨xq, g⟩] at h; cases h
      exact ⟨.inr ⟨g, ns⟩, fun z => ns ⟨z.1, z.2 rfl⟩⟩
theorem any_has {c f : ByteArray} {S : List Sb} : ((listS c S).any fun w => decide (w.1 = f)) = hasP c f S := by
  rw [Bool.eq_iff_iff, hasP_iff, List.any_eq_true]
  constructor
  · rintro ⟨⟨g, q⟩, hw, e⟩
    have : g = f := by simpa using e
    subst this
    exact ⟨q, listS_mem.1 hw⟩
  · rintro ⟨q, hq⟩
    exact ⟨(f, q), listS_mem.2 hq, by simp⟩
section
variable {w0 : World} {K : Value → AH → Prop} {f c n : ByteArray}
theorem f8_spec {a : Option Addr} {cp : Nat} {l : List Cl} (T : TabOk w0) (hr : Rd0 w0 a (l.flatMap Cl.cells)) (hl : l.length ≤ 140737488355328) (hk : ∀ h', K (.bool true) h') : EvC Go.Proofs.Tryd.prog w0 8 #[.slice a l.length cp, .string f, .string c, .string n] K (fun _ => none) := by
  have fin : ∀ h X, Own w0 h X → EvC Go.Proofs.Tryd.prog w0 10 #[] (fun x h29 => ∃ t : Bool, x = .bool t ∧ K (.bool t) h29) h := fun h X w => f10_spec T w fun h6 => ⟨_, rfl, hk h6⟩
  refine f8_go _ _ _ _ _ _ _ (f9_spec (B := []) Own.nil fun h0 D0 r0 w0' => ⟨_, rfl, ?_⟩)
  have six : ∀ (S : List Sb) (D : TD) h, Rep S D → D.tb = D0.tb → S.length ≤ 1000 → Own w0 h (D.own []) → f8_6 w0 K f c n (some ⟨D0.tb, 0, none⟩) h := fun S D h r et hS w => by
    rw [← et]
    have lm := match_le n S
    refine f8_6_in _ _ _ _ _ (f12_spec r w (by omega) fun h1 w1 => ⟨_, rfl, f14_spec T r w1 (by omega) fun h2 a2 k2 v2 w2 => ⟨_, _, _, rfl, ?_⟩⟩)
    have w2' : Own w0 h2 (D.own (slB a2 (prs (matchS n S)) (k2 * 2) ++ [])) := own_mid (Y := []) w2
    have rd2 : ∀ {D' : TD} {h3 : AH} {X : List (Nat × AB)}, Own w0 h3 (X ++ D'.own (slB a2 (prs (matchS n S)) (k2 * 2) ++ [])) → Rd w0 h3 a2 (prs (matchS n S)) := fun {D' h3 X} w3 => by
      have w4 : Own w0 h3 (slB a2 (prs (matchS n S)) (k2 * 2) ++ (X ++ D'.own [])) := w3.perm (by
        classical
        rw [List.perm_iff_count]; intro z
        simp only [TD.own, TD.rest, List.count_append, List.count_cons, List.count_nil]
        omega)
      exact v2.rd (cs := []) w4
    -- the last part
    have end27 : ∀ z h3, Own w0 h3 (D.own (slB a2 (prs (matchS n S)) (k2 * 2) ++ [])) → z = true → f8_27 w0 K f c n (some ⟨D.tb, 0, none⟩) ((S.length : Nat) : Int) a2 (matchS n S).length k2 z h3 := fun z h3 w3 ez =>
      f8_27_in _ _ _ _ _ _ _ _ _ _ (brB_of (fun _ => fin h3 _ w3) fun y => by rw [ez] at y; cases y)
    have tail : ∀ h3, Own w0 h3 (D.own (slB a2 (prs (matchS n S)) (k2 * 2) ++ [])) → hasP c f S = false → EvC Go.Proofs.Tryd.prog w0 11 #[.pointer (some ⟨D.tb, 0, none⟩), .string f, .string c, .int .i64 2] (fun x h' => ∃ t : Bool, x = .bool t ∧ f8_27 w0 K f c n (some ⟨D.tb, 0, none⟩) ((S.length : Nat) : Int) a2 (matchS n S).length k2 (!t) h') h3 := fun h3 w3 hh => by
      refine f11_spec T r w3 fun h4 D4 r4 e4 w4 => ⟨_, rfl, ?_⟩
      cases ok : okP c f 2 with
      | false => exact f8_27_in _ _ _ _ _ _ _ _ _ _ (brB_of (fun _ => fin h4 _ w4) fun y => by cases y)
      | true =>
        have eP : addP c f 2 S = addS c f 2 false S := by unfold addP; rw [if_pos ok]
        rw [eP] at r4
        have l1 : (addS c f 2 false S).length = S.length + 1 := add_len S false fun s hs z => by
          obtain ⟨sc, sf, sq⟩ := s
          obtain ⟨z1, z2⟩ := z
          dsimp only at z1 z2
          subst z1 z2
          rw [hasP_iff.2 ⟨sq, hs⟩] at hh; cases hh
        have h1' : hasP c f (addS c f 2 false S) = true := hasP_iff.2 ⟨2, (addS_mem _ _ _ _ _).2 (.inl rfl)⟩
        have back := add_without (q := 2) r.so hh
        rw [← e4]
        refine f8_27_in _ _ _ _ _ _ _ _ _ _ (brB_of (fun y => by cases y) fun _ => f12_spec r4 w4 (by omega) fun h5 w5 => ⟨_, rfl, ?_⟩)
        rw [l1, wrapS (by omega)]
        refine brB_of (fun _ => f23_spec r4 w5 fun h6 D6 r6 e6 w6 => ⟨_, rfl, ?_⟩) fun y => by simp at y
        rw [h1', ← e6]
        rw [back] at r6
        refine brB_of (fun _ => f23_spec r6 w6 fun h7 D7 r7 e7 w7 => ⟨_, rfl, ?_⟩) fun y => by cases y
        rw [hh, ← e7]
        rw [without_none hh] at r7
        refine brB_of (fun _ => f12_spec r7 w7 (by omega) fun h8 w8 => ⟨_, rfl, brB_of (fun _ => f14_spec T r7 w8 (by omega) fun h9 a9 k9 v9 w9 => ⟨_, _, _, rfl, f13_same (by omega) (v9.rd (cs := []) w9) (rd2 w9) ⟨_, rfl, brB_of (fun _ => fin h9 _ w9) fun y => by cases y⟩⟩) fun y => by simp at y⟩) fun y => by cases y
    -- is it there?
    have there : ∀ h3, Own w0 h3 (D.own (slB a2 (prs (matchS n S)) (k2 * 2) ++ [])) → EvC Go.Proofs.Tryd.prog w0 21 #[.pointer (some ⟨D.tb, 0, none⟩), .string c] (fun x h' => ∃ (p : Option Addr) (m k : Nat), x = .slice p m k ∧ f8_22 w0 K f c n (some ⟨D.tb, 0, none⟩) ((S.length : Nat) : Int) a2 (matchS n S).length k2 false p m k ((m : Nat) : Int) 0 h') h3 := fun h3 w3 => by
      have le := listS_le c S
      refine f21_spec r w3 (by omega) fun h4 a4 k4 v4 w4 => ⟨_, _, _, rfl, ?_⟩
      have loop : ∀ (k i : Nat) (z : Bool), i + k = (listS c S).length → z = (((listS c S).take i).any fun w => decide (w.1 = f)) → f8_22 w0 K f c n (some ⟨D.tb, 0, none⟩) ((S.length : Nat) : Int) a2 (matchS n S).length k2 z a4 (listS c S).length k4 (((listS c S).length : Nat) : Int) ((i : Nat) : Int) h4 := fun k => by
        induction k with
        | zero =>
          intro i z hi hz
          rw [List.take_of_length_le (by omega), any_has] at hz
          refine f8_22_in _ _ _ _ _ _ _ _ _ _ _ _ _ _ _ (brB_of (fun y => by have := of_decide_eq_true y; omega) fun _ => brB_of (fun y => end27 true h4 w4.drop rfl) fun y => tail h4 w4.drop (by rw [← hz]; exact y))
        | succ k ih =>
          intro i z hi hz
          have gi : (listS c S)[i]? = some ((listS c S)[i]'(by omega)) := List.getElem?_eq_getElem _
          have tk : (listS c S).take (i + 1) = (listS c S).take i ++ [(listS c S)[i]'(by omega)] := List.take_succ_eq_append_getElem (by omega)
          have nx := ih (i + 1)
          rw [tk, List.any_append, ← hz] at nx
          generalize (listS c S)[i]'(by omega) = x at gi nx
          obtain ⟨ad, had, hat⟩ := rowLoad (enc := prC) (k := 2) (fun _ => rfl) (by decide) (v4.rd (cs := []) w4) gi
          refine f8_22_in _ _ _ _ _ _ _ _ _ _ _ _ _ _ _ (brB_of (fun _ => ⟨ad, had, by omega, by omega, x.1, x.2, ⟨rfl, hat⟩, ?_⟩) fun y => by have := of_decide_eq_false y; omega)
          rw [wrapS (by omega)]
          refine brB_of (fun y => nx true (by omega) (by rw [y]; rfl)) fun y => nx _ (by omega) (by rw [y]; simp)
      exact loop (listS c S).length 0 false (Nat.zero_add _) rfl
    have loop : ∀ (k i : Nat), i + k = (matchS n S).length → ∀ h3, Own w0 h3 (D.own (slB a2 (prs (matchS n S)) (k2 * 2) ++ [])) → f8_8 w0 K f c n (some ⟨D.tb, 0, none⟩) ((S.length : Nat) : Int) a2 (matchS n S).length k2 a2 (matchS n S).length k2 (((matchS n S).length : Nat) : Int) ((i : Nat) : Int) h3 := fun k => by
      induction k with
      | zero =>
        intro i hi h3 w3
        exact f8_8_in _ _ _ _ _ _ _ _ _ _ _ _ _ _ (brB_of (fun y => by have := of_decide_eq_true y; omega) fun _ => there h3 w3)
      | succ k ih =>
        intro i hi h3 w3
        have gi : (matchS n S)[i]? = some ((matchS n S)[i]'(by omega)) := List.getElem?_eq_getElem _
        generalize (matchS n S)[i]'(by omega) = x at gi
        have bm := best_match r.so (fun s hs => (r.ok s hs).2.2.1) (List.mem_of_getElem? gi)
        have le := listS_le x.1 S
        obtain ⟨ad, had, hat⟩ := rowLoad (enc := prC) (k := 2) (fun _ => rfl) (by decide) (rd2 (X := []) w3) gi
        refine f8_8_in _ _ _ _ _ _ _ _ _ _ _ _ _ _ (brB_of (fun _ => ⟨ad, had, by omega, by omega, x.1, x.2, ⟨rfl, hat⟩, f21_spec r w3 (by omega) fun h4 a4 k4 v4 w4 => ⟨_, _, _, rfl, ?_⟩⟩) fun y => by have := of_decide_eq_false y; omega)
        have inner : ∀ (k' j : Nat) (b : Int), j + k' = (listS x.1 S).length → bestF n b ((listS x.1 S).drop j) = x.2 → ∀ h5, Own w0 h5 (slB a4 (prs (listS x.1 S)) (k4 * 2) ++ D.own (slB a2 (prs (matchS n S)) (k2 * 2) ++ [])) → f8_12 w0 K f c n (some ⟨D.tb, 0, none⟩) ((S.length : Nat) : Int) a2 (matchS n S).length k2 b a2 (matchS n S).length k2 (((matchS n S).length : Nat) : Int) ((i : Nat) : Int) a4 (listS x.1 S).length k4 (((listS x.1 S).length : Nat) : Int) ((j : Nat) : Int) x.1 x.2 h5 := fun k' => by
          induction k' with
          | zero =>
            intro j b hj hb h5 w5
            rw [List.drop_eq_nil_of_le (by omega), bestF] at hb
            subst hb
            refine f8_12_in _ _ _ _ _ _ _ _ _ _ _ _ _ _ _ _ _ _ _ _ _ _ (brB_of (fun y => by have := of_decide_eq_true y; omega) fun _ => brB_of (fun y => by simp at y) fun _ => ?_)
            rw [wrapS (by omega)]
            exact ih (i + 1) (by omega) h5 w5.drop
          | succ k' ih' =>
            intro j b hj hb h5 w5
            have gj : (listS x.1 S)[j]? = some ((listS x.1 S)[j]'(by omega)) := List.getElem?_eq_getElem _
            have dr : (listS x.1 S).drop j = (listS x.1 S)[j]'(by omega) :: (listS x.1 S).drop (j + 1) := List.drop_eq_getElem_cons (by omega)
            rw [dr, bestF] at hb
            generalize (listS x.1 S)[j]'(by omega) = y at gj hb
            obtain ⟨bd, hbd, hbt⟩ := rowLoad (enc := prC) (k := 2) (fun _ => rfl) (by decide) (v4.rd (cs := []) w5) gj
            refine f8_12_in _ _ _ _ _ _ _ _ _ _ _ _ _ _ _ _ _ _ _ _ _ _ (brB_of (fun _ => ⟨bd, hbd, by omega, by omega, y.1, y.2, ⟨rfl, hbt⟩, f16_spec T w5 fun h6 w6 => ⟨_, rfl, brB_of (fun m => ?_) fun m => ?_⟩⟩) fun y => by have := of_decide_eq_false y; omega)
            · rw [if_pos m] at hb
              rw [wrapS (by omega)]
              exact ih' (j + 1) _ (by omega) hb h6 w6
            · rw [if_neg (by rw [m]; decide)] at hb
              rw [wrapS (by omega)]
              exact ih' (j + 1) _ (by omega) hb h6 w6
        exact inner (listS x.1 S).length 0 (-1) (Nat.zero_add _) bm h4 w4
    exact loop (matchS n S).length 0 (Nat.zero_add _) h2 w2'
  have loop : ∀ (k i : Nat), i + k = min l.length 60 → ∀ (D : TD) (h : AH), Rep (addL [] (l.take i)) D → D.tb = D0.tb → Own w0 h (D.own []) → f8_3 w0 K a l.length cp f c n (some ⟨D0.tb, 0, none⟩) ((i : Nat) : Int) h := fun k => by
    induction k with
    | zero =>
      intro i hi D h r et w
      have le : (addL [] (l.take i)).length ≤ 1000 := by have := addL_le (l.take i) []; rw [List.length_take] at this; simp at this; omega
      exact f8_3_in _ _ _ _ _ _ _ _ _ (brB_of (fun z => brB_of (fun z2 => by have := of_decide_eq_true z; have := of_decide_eq_true z2; omega) fun _ => six _ D h r et le w) fun _ => six _ D h r et le w)
    | succ k ih =>
      intro i hi D h r et w
      have il : i < l.length := by omega
      have gi : l[i]? = some (l[i]'il) := List.getElem?_eq_getElem _
      have tk : l.take (i + 1) = l.take i ++ [l[i]'il] := List.take_succ_eq_append_getElem il
      have nx := ih (i + 1) (by omega)
      rw [tk, addL_snoc] at nx
      generalize l[i]'il = x at gi nx
      obtain ⟨ad, had, hat⟩ := rowLoad (enc := Cl.cells) (k := 4) (fun _ => rfl) (by decide) (hr.rd h) gi
      have c1 := hat 1 _ rfl
      have c2 := hat 2 _ rfl
      have c3 := hat 3 _ rfl
      have step : EvC Go.Proofs.Tryd.prog w0 11 #[.pointer (some ⟨D0.tb, 0, none⟩), .string x.f, .string x.c, .int .i64 x.q] (fun y h1 => ∃ t : Bool, y = .bool t ∧ f8_3 w0 K a l.length cp f c n (some ⟨D0.tb, 0, none⟩) (IntKind.i64.wrap (((i : Nat) : Int) + 1)) h1) h := by
        rw [← et]
        refine f11_spec T r w fun h1 D1 r1 e1 w1 => ⟨_, rfl, ?_⟩
        rw [wrapS (by omega), et]
        exact nx D1 h1 r1 (e1.trans et) w1
      refine f8_3_in _ _ _ _ _ _ _ _ _ (brB_of (fun _ => brB_of (fun _ => ⟨ad, had, by omega, by omega, ad, had, by omega, by omega, ad, had, by omega, by omega, ?_⟩) fun z => by have := of_decide_eq_false z; omega) fun z => by have := of_decide_eq_false z; omega)
      repeat' first | exact step | exact ⟨_, c1, _, c2, _, c3, step⟩ | refine And.intro ?_ ?_ | refine ⟨_, c1, ?_⟩ | refine ⟨_, c2, ?_⟩ | refine ⟨_, c3, ?_⟩
  exact loop (min l.length 60) 0 (by omega) D0 h0 (by simpa [addL] using r0) rfl w0'
end
end Go.G.YtnmngjffebbbnaaDoor
