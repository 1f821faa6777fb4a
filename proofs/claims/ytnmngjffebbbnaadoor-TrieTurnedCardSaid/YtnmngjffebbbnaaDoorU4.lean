/- The document's subscriptions. -/
import Derived.Test.YtnmngjffebbbnaaDoorU3
import Derived.Test.YtnmngjffebbbnaaDoorProg
set_option maxRecDepth 100000
namespace Go.G.YtnmngjffebbbnaaDoor
open Go.RowKit
open Value (string slice int bool agg)
def f39_J : Nat → List Nat × Nat := jOf [(4, (0 :: (rn 9 5 (11 :: (12 :: (rn 71 55 []))))), 0), (7, (0 :: (rn 9 5 (11 :: (rn 38 22 (rn 71 32 []))))), 1), (9, (0 :: (rn 9 5 (11 :: (rn 71 55 [])))), 1), (10, (0 :: (rn 9 5 (11 :: (rn 55 39 (rn 71 15 []))))), 1)]

def f39_4 (w0 : World) (K : Value → AH → Prop) (a b : ByteArray) (c : Int) (d : Option Addr) (e g : Nat) (i : Bool) (k : Option Addr) (m n : Nat) (o p : Int) (h : AH) : Prop :=
  ∀ j : Nat → Value, LPk Proofs.Tryd.prog w0 (EvC Proofs.Tryd.prog w0) f39_J 39 K 4 (jv j 1 1 (.v (.string a) :: (.v (.string b) :: (.v (.int .i64 c) :: (jv j 9 5 (.v (.slice d e g) :: (.v (.bool i) :: (jv j 13 2 (.v (.slice k m n) :: (.v (.int .i64 o) :: (.v (.int .i64 p) :: (jv j 71 55 [])))))))))))) [] h

def f39_7 (w0 : World) (K : Value → AH → Prop) (a b : ByteArray) (c : Int) (d : Option Addr) (e g : Nat) (i : Bool) (k : Option Addr) (m n : Nat) (o p : Int) (q : Bool) (r s : ByteArray) (t : Int) (h : AH) : Prop :=
  ∀ j : Nat → Value, LPk Proofs.Tryd.prog w0 (EvC Proofs.Tryd.prog w0) f39_J 39 K 7 (jv j 1 1 (.v (.string a) :: (.v (.string b) :: (.v (.int .i64 c) :: (jv j 9 5 (.v (.slice d e g) :: (.v (.bool i) :: (jv j 12 1 (.bp 0 0 :: (.v (.slice k m n) :: (.v (.int .i64 o) :: (.v (.int .i64 p) :: (jv j 38 22 (.v (.bool q) :: (jv j 71 32 []))))))))))))))) [some [(.string r), (.string s), (.int .i64 t)]] h

def f39_9 (w0 : World) (K : Value → AH → Prop) (a b : ByteArray) (c : Int) (d : Option Addr) (e g : Nat) (i : Bool) (k : Option Addr) (m n : Nat) (o p : Int) (q r : ByteArray) (s : Int) (h : AH) : Prop :=
  ∀ j : Nat → Value, LPk Proofs.Tryd.prog w0 (EvC Proofs.Tryd.prog w0) f39_J 39 K 9 (jv j 1 1 (.v (.string a) :: (.v (.string b) :: (.v (.int .i64 c) :: (jv j 9 5 (.v (.slice d e g) :: (.v (.bool i) :: (jv j 12 1 (.bp 0 0 :: (.v (.slice k m n) :: (.v (.int .i64 o) :: (.v (.int .i64 p) :: (jv j 71 55 []))))))))))))) [some [(.string q), (.string r), (.int .i64 s)]] h

def f39_10 (w0 : World) (K : Value → AH → Prop) (a b : ByteArray) (c : Int) (d : Option Addr) (e g : Nat) (i : Bool) (k : Option Addr) (m n : Nat) (o p : Int) (q : Bool) (r s : ByteArray) (t : Int) (h : AH) : Prop :=
  ∀ j : Nat → Value, LPk Proofs.Tryd.prog w0 (EvC Proofs.Tryd.prog w0) f39_J 39 K 10 (jv j 1 1 (.v (.string a) :: (.v (.string b) :: (.v (.int .i64 c) :: (jv j 9 5 (.v (.slice d e g) :: (.v (.bool i) :: (jv j 12 1 (.bp 0 0 :: (.v (.slice k m n) :: (.v (.int .i64 o) :: (.v (.int .i64 p) :: (jv j 55 39 (.v (.bool q) :: (jv j 71 15 []))))))))))))))) [some [(.string r), (.string s), (.int .i64 t)]] h

theorem f39_4_in {w0 : World} {K : Value → AH → Prop} (e b : ByteArray) (n : Int) (g : Option Addr) (c i : Nat) (k : Bool) (o : Option Addr) (p s : Nat) (q a : Int) (h : AH)
  (hv : (brB (decide ((a < q))) (∃ t : Addr, ((o = (some t)) ∧ (((0 : Int) ≤ a) ∧ ((a < ((p : Nat) : Int)) ∧ (∃ d : ByteArray, (∃ m : ByteArray, (∃ r : Int, ((((Array.size #[(string d), (string m), (int .i64 r)]) = 3) ∧ (At w0 h (Addr.add t ((Int.toNat a) * 3)) [(string d), (string m), (int .i64 r)])) ∧ (brB (!k) (brB (Op.bytesLess (ByteArray.toList b) (ByteArray.toList d)) (f39_7 w0 K e b n g c i k o p s q a true d m r h) (brB (decide ((d = b))) (f39_7 w0 K e b n g c i k o p s q a (!(Op.bytesLess (ByteArray.toList m) (ByteArray.toList e))) d m r h) (f39_7 w0 K e b n g c i k o p s q a false d m r h))) (f39_7 w0 K e b n g c i k o p s q a false d m r h)))))))))) (brB (!k) (App w0 h 3 40 g c i 1 [(string b), (string e), (int .i64 n)] (fun u v x => (K (slice u (c + 1) v) x))) (K (slice g c i) h)))) :
  f39_4 w0 K e b n g c i k o p s q a h := fun j => LP_intro (P := Proofs.Tryd.prog) (Eq.mp (by kernel_rfl) hv)

theorem f39_7_in {w0 : World} {K : Value → AH → Prop} (a b : ByteArray) (c : Int) (e : Option Addr) (d g : Nat) (s : Bool) (i : Option Addr) (k m : Nat) (n o : Int) (t : Bool) (p q : ByteArray) (r : Int) (h : AH)
  (hv : (brB t (App w0 h 3 40 e d g 1 [(string b), (string a), (int .i64 c)] (fun u v x => (f39_9 w0 K a b c u (d + 1) v true i k m n o p q r x))) (f39_9 w0 K a b c e d g s i k m n o p q r h))) :
  f39_7 w0 K a b c e d g s i k m n o t p q r h := fun j => LP_intro (P := Proofs.Tryd.prog) (Eq.mp (by kernel_rfl) hv)

theorem f39_9_in {w0 : World} {K : Value → AH → Prop} (a b : ByteArray) (e : Int) (g : Option Addr) (i k : Nat) (m : Bool) (n : Option Addr) (o p : Nat) (q r : Int) (c d : ByteArray) (s : Int) (h : AH)
  (hv : (brB (!(decide ((c = b)))) (f39_10 w0 K a b e g i k m n o p q r true c d s h) (f39_10 w0 K a b e g i k m n o p q r (!(decide ((d = a)))) c d s h))) :
  f39_9 w0 K a b e g i k m n o p q r c d s h := fun j => LP_intro (P := Proofs.Tryd.prog) (Eq.mp (by kernel_rfl) hv)

theorem f39_10_in {w0 : World} {K : Value → AH → Prop} (b c : ByteArray) (d : Int) (e : Option Addr) (a g : Nat) (i : Bool) (k : Option Addr) (m n : Nat) (o p : Int) (q : Bool) (r s : ByteArray) (t : Int) (h : AH)
  (hv : (brB q (App w0 h 3 40 e a g 1 [(string r), (string s), (int .i64 t)] (fun u v x => (f39_4 w0 K b c d u (a + 1) v i k m n o (IntKind.wrap .i64 (p + (1 : Int))) x))) (f39_4 w0 K b c d e a g i k m n o (IntKind.wrap .i64 (p + (1 : Int))) h))) :
  f39_10 w0 K b c d e a g i k m n o p q r s t h := fun j => LP_intro (P := Proofs.Tryd.prog) (Eq.mp (by kernel_rfl) hv)

theorem f39_go {w0 : World} {K : Value → AH → Prop} (b : Option Addr) (a c : Nat) (d e : ByteArray) (g : Int) (h : AH)
  (hv : (f39_4 w0 K d e g none 0 0 false b a c ((a : Nat) : Int) (0 : Int) h)) :
  EvC Proofs.Tryd.prog w0 39 ([(.slice b a c), (.string d), (.string e), (.int .i64 g)]).toArray K h := EvC_intro (P := Proofs.Tryd.prog) f39_J (Eq.mp (by kernel_rfl) hv)
def f40_J : Nat → List Nat × Nat := jOf [(3, (0 :: (rn 9 5 (10 :: (11 :: (rn 37 22 []))))), 0), (6, (0 :: (rn 9 5 (10 :: (rn 30 15 (rn 37 6 []))))), 1)]

def f40_3 (w0 : World) (K : Value → AH → Prop) (a b : ByteArray) (c : Bool) (d : Option Addr) (e g : Nat) (i : Option Addr) (k m : Nat) (n o : Int) (h : AH) : Prop :=
  ∀ j : Nat → Value, LPk Proofs.Tryd.prog w0 (EvC Proofs.Tryd.prog w0) f40_J 40 K 3 (jv j 1 1 (.v (.string a) :: (.v (.string b) :: (.v (.bool c) :: (jv j 9 5 (.v (.slice d e g) :: (jv j 12 2 (.v (.slice i k m) :: (.v (.int .i64 n) :: (.v (.int .i64 o) :: (jv j 37 22 []))))))))))) [] h

def f40_6 (w0 : World) (K : Value → AH → Prop) (a b : ByteArray) (c : Bool) (d : Option Addr) (e g : Nat) (i : Option Addr) (k m : Nat) (n o : Int) (p : Bool) (q r : ByteArray) (s : Int) (h : AH) : Prop :=
  ∀ j : Nat → Value, LPk Proofs.Tryd.prog w0 (EvC Proofs.Tryd.prog w0) f40_J 40 K 6 (jv j 1 1 (.v (.string a) :: (.v (.string b) :: (.v (.bool c) :: (jv j 9 5 (.v (.slice d e g) :: (jv j 11 1 (.bp 0 0 :: (.v (.slice i k m) :: (.v (.int .i64 n) :: (.v (.int .i64 o) :: (jv j 30 15 (.v (.bool p) :: (jv j 37 6 [])))))))))))))) [some [(.string q), (.string r), (.int .i64 s)]] h

theorem f40_3_in {w0 : World} {K : Value → AH → Prop} (d e : ByteArray) (g : Bool) (i : Option Addr) (k m : Nat) (n : Option Addr) (o r : Nat) (p a : Int) (h : AH)
  (hv : (brB (decide ((a < p))) (∃ s : Addr, ((n = (some s)) ∧ (((0 : Int) ≤ a) ∧ ((a < ((o : Nat) : Int)) ∧ (∃ b : ByteArray, (∃ c : ByteArray, (∃ q : Int, ((((Array.size #[(string b), (string c), (int .i64 q)]) = 3) ∧ (At w0 h (Addr.add s ((Int.toNat a) * 3)) [(string b), (string c), (int .i64 q)])) ∧ (brB (!(decide ((b = d)))) (f40_6 w0 K d e g i k m n o r p a true b c q h) (brB g (f40_6 w0 K d e g i k m n o r p a (!(decide ((c = e)))) b c q h) (f40_6 w0 K d e g i k m n o r p a false b c q h))))))))))) (K (slice i k m) h))) :
  f40_3 w0 K d e g i k m n o r p a h := fun j => LP_intro (P := Proofs.Tryd.prog) (Eq.mp (by kernel_rfl) hv)

theorem f40_6_in {w0 : World} {K : Value → AH → Prop} (b c : ByteArray) (d : Bool) (e : Option Addr) (a g : Nat) (i : Option Addr) (k m : Nat) (n o : Int) (p : Bool) (q r : ByteArray) (s : Int) (h : AH)
  (hv : (brB p (App w0 h 3 40 e a g 1 [(string q), (string r), (int .i64 s)] (fun t u v => (f40_3 w0 K b c d t (a + 1) u i k m n (IntKind.wrap .i64 (o + (1 : Int))) v))) (f40_3 w0 K b c d e a g i k m n (IntKind.wrap .i64 (o + (1 : Int))) h))) :
  f40_6 w0 K b c d e a g i k m n o p q r s h := fun j => LP_intro (P := Proofs.Tryd.prog) (Eq.mp (by kernel_rfl) hv)

theorem f40_go {w0 : World} {K : Value → AH → Prop} (b : Option Addr) (a c : Nat) (d e : ByteArray) (g : Bool) (h : AH)
  (hv : (f40_3 w0 K d e g none 0 0 b a c ((a : Nat) : Int) (0 : Int) h)) :
  EvC Proofs.Tryd.prog w0 40 ([(.slice b a c), (.string d), (.string e), (.bool g)]).toArray K h := EvC_intro (P := Proofs.Tryd.prog) f40_J (Eq.mp (by kernel_rfl) hv)
def f22_J : Nat → List Nat × Nat := jOf [(3, (0 :: (2 :: (3 :: (4 :: (6 :: (7 :: (rn 28 17 []))))))), 0)]

def f22_3 (w0 : World) (K : Value → AH → Prop) (a : ByteArray) (b : Option Addr) (c d : Nat) (e : Option Addr) (g i : Nat) (k m : Int) (h : AH) : Prop :=
  ∀ j : Nat → Value, LPk Proofs.Tryd.prog w0 (EvC Proofs.Tryd.prog w0) f22_J 22 K 3 (jv j 1 1 (.v (.string a) :: (jv j 5 3 (.v (.slice b c d) :: (jv j 8 2 (.v (.slice e g i) :: (.v (.int .i64 k) :: (.v (.int .i64 m) :: (jv j 28 17 []))))))))) [] h

theorem f22_3_in {w0 : World} {K : Value → AH → Prop} (c : ByteArray) (d : Option Addr) (b e : Nat) (g : Option Addr) (i m : Nat) (k a : Int) (h : AH)
  (hv : (brB (decide ((a < k))) (∃ q : Addr, ((g = (some q)) ∧ (((0 : Int) ≤ a) ∧ ((a < ((i : Nat) : Int)) ∧ (∃ n : ByteArray, (∃ o : ByteArray, (∃ p : Int, ((((Array.size #[(string n), (string o), (int .i64 p)]) = 3) ∧ (At w0 h (Addr.add q ((Int.toNat a) * 3)) [(string n), (string o), (int .i64 p)])) ∧ (brB (decide ((n = c))) (App w0 h 2 24 d b e 1 [(string o), (int .i64 p)] (fun r s t => (f22_3 w0 K c r (b + 1) s g i m k (IntKind.wrap .i64 (a + (1 : Int))) t))) (f22_3 w0 K c d b e g i m k (IntKind.wrap .i64 (a + (1 : Int))) h)))))))))) (K (slice d b e) h))) :
  f22_3 w0 K c d b e g i m k a h := fun j => LP_intro (P := Proofs.Tryd.prog) (Eq.mp (by kernel_rfl) hv)

theorem f22_go {w0 : World} {K : Value → AH → Prop} (b : Option Addr) (a c : Nat) (d : ByteArray) (h : AH)
  (hv : (f22_3 w0 K d none 0 0 b a c ((a : Nat) : Int) (0 : Int) h)) :
  EvC Proofs.Tryd.prog w0 22 ([(.slice b a c), (.string d)]).toArray K h := EvC_intro (P := Proofs.Tryd.prog) f22_J (Eq.mp (by kernel_rfl) hv)
/-! ### subscriptions, as the document answers -/
def sbC (s : Sb) : List Value := [.string s.c, .string s.f, .int .i64 s.q]
def sbs (l : List Sb) : List Value := l.flatMap sbC
theorem sbs_snoc (l : List Sb) (s : Sb) : sbs (l ++ [s]) = sbs l ++ sbC s := by simp [sbs]
theorem sbC_cell (s : Sb) : ∀ y ∈ sbC s, y.oneCell' = true := fun y hy => by
  simp [sbC] at hy; rcases hy with rfl | rfl | rfl <;> rfl
theorem less_lt (a b : ByteArray) : Op.bytesLess a.toList b.toList = decide (ltB a b) := by unfold ltB; rw [Go.Proofs.bytesLess_eq, Lib.toList_data, Lib.toList_data]
theorem geS_dec (c f : ByteArray) (s : Sb) : decide (geS c f s) = (decide (ltB c s.c) || (decide (s.c = c) && !(decide (ltB s.f f)))) := by
  unfold geS
  by_cases a : ltB c s.c
  · simp [a]
  · by_cases b : s.c = c
    · by_cases d : ltB s.f f
      · simp [a, b, d]
      · simp [a, b, d]
    · simp [a, b]
theorem addS_le (c f : ByteArray) (q : Int) : ∀ (l : List Sb) (d : Bool), (addS c f q d l).length ≤ l.length + (if d then 0 else 1)
  | [], d => by cases d <;> simp [addS]
  | s :: r, d => by
    have ih := addS_le c f q r
    simp only [addS, List.length_append, List.length_cons]
    have l1 : (if s.c = c ∧ s.f = f then ([] : List Sb) else [s]).length ≤ 1 := by split <;> simp
    by_cases g : geS c f s
    · cases d with
      | true => have := ih true; simp [g] at this ⊢; omega
      | false => have := ih true; simp [g] at this ⊢; omega
    · cases d with
      | true => have := ih true; simp [g] at this ⊢; omega
      | false => have := ih false; simp [g] at this ⊢; omega
section
variable {w0 : World} {K : Value → AH → Prop} {h : AH} {B : List (Nat × AB)} {S : List Sb} {a : Option Addr} {cp : Nat} {c f n : ByteArray} {q : Int}
/-- Add, as the document answers. -/
theorem f39_spec (v : SlV 3 a S.length cp (sbs S)) (w : Own w0 h (slB a (sbs S) (cp * 3) ++ B)) (hS : S.length ≤ 1000000) (hk : ∀ h' a' c', SlV 3 a' (addS c f q false S).length c' (sbs (addS c f q false S)) → Own w0 h' (slB a' (sbs (addS c f q false S)) (c' * 3) ++ (slB a (sbs S) (cp * 3) ++ B)) → K (.slice a' (addS c f q false S).length c') h') :
    EvC Go.Proofs.Tryd.prog w0 39 #[.slice a S.length cp, .string f, .string c, .int .i64 q] K h := by
  have all : (addS c f q false S).length ≤ S.length + 1 := addS_le c f q S false
  have loop : ∀ (k i : Nat), i + k = S.length → ∀ (out : List Sb) (done : Bool) (a9 : Option Addr) (n9 c9 : Nat) (h1 : AH), n9 = out.length → out ++ addS c f q done (S.drop i) = addS c f q false S → SlV 3 a9 n9 c9 (sbs out) → Own w0 h1 (slB a9 (sbs out) (c9 * 3) ++ (slB a (sbs S) (cp * 3) ++ B)) →
      f39_4 w0 K f c q a9 n9 c9 done a S.length cp ((S.length : Nat) : Int) ((i : Nat) : Int) h1 := fun k => by
    induction k with
    | zero =>
      intro i hi out done a9 n9 c9 h1 en he v1 w1
      subst en
      have lo : out.length ≤ S.length + 1 := by have := congrArg List.length he; rw [List.length_append] at this; omega
      rw [List.drop_eq_nil_of_le (by omega)] at he
      refine f39_4_in _ _ _ _ _ _ _ _ _ _ _ _ _ (brB_of (fun z => by have := of_decide_eq_true z; omega) fun _ => ?_)
      cases done with
      | true =>
        have e : out = addS c f q false S := by rw [← he]; simp [addS]
        refine brB_of (fun z => by cases z) fun _ => ?_
        rw [e] at v1 w1 ⊢
        exact hk h1 a9 c9 v1 w1
      | false =>
        have e : out ++ [⟨c, f, q⟩] = addS c f q false S := by rw [← he]; simp [addS]
        refine brB_of (fun _ => App_slB (n := out.length) (m := 1) (by' := 40) (ys := sbC ⟨c, f, q⟩) v1 w1 (by omega) (by omega) rfl (sbC_cell _) fun a2 c2 h2 v2 w2 => ?_) fun z => by cases z
        rw [← sbs_snoc, e] at v2 w2
        have el : out.length + 1 = (addS c f q false S).length := by rw [← e, List.length_append, List.length_singleton]
        rw [el] at v2 ⊢
        exact hk h2 a2 c2 v2 w2
    | succ k ih =>
      intro i hi out done a9 n9 c9 h1 en he v1 w1
      subst en
      have gi : S[i]? = some (S[i]'(by omega)) := List.getElem?_eq_getElem _
      have dr : S.drop i = S[i]'(by omega) :: S.drop (i + 1) := List.drop_eq_getElem_cons (by omega)
      rw [dr] at he
      generalize S[i]'(by omega) = s at gi he
      obtain ⟨ad, had, hat⟩ := rowLoad (enc := sbC) (k := 3) (fun _ => rfl) (by decide) (v.rd w1) gi
      have ten : ∀ (z : Bool) (out : List Sb) (done : Bool) (a9 : Option Addr) (n9 c9 : Nat) (h1 : AH), z = !(decide (s.c = c ∧ s.f = f)) → n9 = out.length → out ++ ((if s.c = c ∧ s.f = f then [] else [s]) ++ addS c f q done (S.drop (i + 1))) = addS c f q false S → SlV 3 a9 n9 c9 (sbs out) → Own w0 h1 (slB a9 (sbs out) (c9 * 3) ++ (slB a (sbs S) (cp * 3) ++ B)) →
          f39_10 w0 K f c q a9 n9 c9 done a S.length cp ((S.length : Nat) : Int) ((i : Nat) : Int) z s.c s.f s.q h1 := fun z out done a9 n9 c9 h1 ez en he v1 w1 => by
        subst en
        have lo : out.length ≤ S.length + 1 := by have := congrArg List.length he; rw [List.length_append] at this; omega
        cases z with
        | true =>
          have ns : ¬ (s.c = c ∧ s.f = f) := fun y => by rw [decide_eq_true y] at ez; cases ez
          rw [if_neg ns, ← List.append_assoc] at he
          refine f39_10_in _ _ _ _ _ _ _ _ _ _ _ _ _ _ _ _ _ (brB_of (fun _ => App_slB (n := out.length) (m := 1) (by' := 40) (ys := sbC s) v1 w1 (by omega) (by omega) rfl (sbC_cell _) fun a2 c2 h2 v2 w2 => ?_) fun z => by cases z)
          rw [← sbs_snoc] at v2 w2
          rw [wrapS (by omega)]
          exact ih (i + 1) (by omega) (out ++ [s]) done a2 _ c2 h2 (by rw [List.length_append, List.length_singleton]) he v2 w2
        | false =>
          have ns : s.c = c ∧ s.f = f := Decidable.byContradiction fun y => by rw [decide_eq_false y] at ez; cases ez
          rw [if_pos ns, List.nil_append] at he
          refine f39_10_in _ _ _ _ _ _ _ _ _ _ _ _ _ _ _ _ _ (brB_of (fun z => by cases z) fun _ => ?_)
          rw [wrapS (by omega)]
          exact ih (i + 1) (by omega) out done a9 _ c9 h1 rfl he v1 w1
      have nine : ∀ (out : List Sb) (done : Bool) (a9 : Option Addr) (n9 c9 : Nat) (h1 : AH), n9 = out.length → out ++ ((if s.c = c ∧ s.f = f then [] else [s]) ++ addS c f q done (S.drop (i + 1))) = addS c f q false S → SlV 3 a9 n9 c9 (sbs out) → Own w0 h1 (slB a9 (sbs out) (c9 * 3) ++ (slB a (sbs S) (cp * 3) ++ B)) →
          f39_9 w0 K f c q a9 n9 c9 done a S.length cp ((S.length : Nat) : Int) ((i : Nat) : Int) s.c s.f s.q h1 := fun out done a9 n9 c9 h1 en he v1 w1 => by
        by_cases e1 : s.c = c
        · exact f39_9_in _ _ _ _ _ _ _ _ _ _ _ _ _ _ _ _ (brB_of (fun z => by simp [e1] at z) fun _ => ten _ out done a9 n9 c9 h1 (by simp [e1]) en he v1 w1)
        · exact f39_9_in _ _ _ _ _ _ _ _ _ _ _ _ _ _ _ _ (brB_of (fun _ => ten true out done a9 n9 c9 h1 (by simp [e1]) en he v1 w1) fun z => by simp [e1] at z)
      have seven : ∀ z : Bool, z = (!done && decide (geS c f s)) → f39_7 w0 K f c q a9 out.length c9 done a S.length cp ((S.length : Nat) : Int) ((i : Nat) : Int) z s.c s.f s.q h1 := fun z ez => by
        have lo : out.length ≤ S.length + 1 := by have := congrArg List.length he; rw [List.length_append] at this; omega
        rw [addS, ← ez] at he
        cases z with
        | true =>
          have eg : (done || decide (geS c f s)) = true := by
            cases done with
            | true => rfl
            | false => simpa using ez.symm
          rw [if_pos rfl, eg, ← List.append_assoc] at he
          refine f39_7_in _ _ _ _ _ _ _ _ _ _ _ _ _ _ _ _ _ (brB_of (fun _ => App_slB (n := out.length) (m := 1) (by' := 40) (ys := sbC ⟨c, f, q⟩) v1 w1 (by omega) (by omega) rfl (sbC_cell _) fun a2 c2 h2 v2 w2 => ?_) fun z => by cases z)
          rw [← sbs_snoc] at v2 w2
          exact nine (out ++ [⟨c, f, q⟩]) true a2 _ c2 h2 (by rw [List.length_append, List.length_singleton]) he v2 w2
        | false =>
          have eg : (done || decide (geS c f s)) = done := by
            cases done with
            | true => rfl
            | false => simpa using ez.symm
          rw [if_neg (by decide), eg, List.nil_append] at he
          exact f39_7_in _ _ _ _ _ _ _ _ _ _ _ _ _ _ _ _ _ (brB_of (fun z => by cases z) fun _ => nine out done a9 _ c9 h1 rfl he v1 w1)
      refine f39_4_in _ _ _ _ _ _ _ _ _ _ _ _ _ (brB_of (fun _ => ⟨ad, had, by omega, by omega, s.c, s.f, s.q, ⟨rfl, hat⟩, ?_⟩) fun z => by have := of_decide_eq_false z; omega)
      cases done with
      | true => exact brB_of (fun z => by cases z) fun _ => seven false rfl
      | false =>
        rw [less_lt, less_lt]
        have eg := geS_dec c f s
        refine brB_of (fun _ => brB_of (fun z => seven true (by rw [eg, z]; rfl)) fun z => brB_of (fun y => seven _ (by rw [eg, z, y]; rfl)) fun y => seven false (by rw [eg, z, y]; rfl)) fun z => by cases z
  exact f39_go _ _ _ _ _ _ _ (loop S.length 0 (by omega) [] false none 0 0 h rfl (by simp) SlV.nil w)
/-- Without, as the document answers. -/
theorem f40_spec {one : Bool} (v : SlV 3 a S.length cp (sbs S)) (w : Own w0 h (slB a (sbs S) (cp * 3) ++ B)) (hS : S.length ≤ 1000000) (hk : ∀ h' a' c', SlV 3 a' (withoutS c f one S).length c' (sbs (withoutS c f one S)) → Own w0 h' (slB a' (sbs (withoutS c f one S)) (c' * 3) ++ (slB a (sbs S) (cp * 3) ++ B)) → K (.slice a' (withoutS c f one S).length c') h') :
    EvC Go.Proofs.Tryd.prog w0 40 #[.slice a S.length cp, .string c, .string f, .bool one] K h := by
  have loop : ∀ (k i : Nat), i + k = S.length → ∀ (out : List Sb) (a9 : Option Addr) (n9 c9 : Nat) (h1 : AH), n9 = out.length → out.length ≤ i → out ++ withoutS c f one (S.drop i) = withoutS c f one S → SlV 3 a9 n9 c9 (sbs out) → Own w0 h1 (slB a9 (sbs out) (c9 * 3) ++ (slB a (sbs S) (cp * 3) ++ B)) →
      f40_3 w0 K c f one a9 n9 c9 a S.length cp ((S.length : Nat) : Int) ((i : Nat) : Int) h1 := fun k => by
    induction k with
    | zero =>
      intro i hi out a9 n9 c9 h1 en lo he v1 w1
      subst en
      rw [List.drop_eq_nil_of_le (by omega)] at he
      have e : out = withoutS c f one S := by rw [← he]; simp [withoutS]
      refine f40_3_in _ _ _ _ _ _ _ _ _ _ _ _ (brB_of (fun z => by have := of_decide_eq_true z; omega) fun _ => ?_)
      rw [e] at v1 w1 ⊢
      exact hk h1 a9 c9 v1 w1
    | succ k ih =>
      intro i hi out a9 n9 c9 h1 en lo he v1 w1
      subst en
      have gi : S[i]? = some (S[i]'(by omega)) := List.getElem?_eq_getElem _
      have dr : S.drop i = S[i]'(by omega) :: S.drop (i + 1) := List.drop_eq_getElem_cons (by omega)
      rw [dr] at he
      generalize S[i]'(by omega) = s at gi he
      obtain ⟨ad, had, hat⟩ := rowLoad (enc := sbC) (k := 3) (fun _ => rfl) (by decide) (v.rd w1) gi
      have six : ∀ z : Bool, z = !(goneS c f one s) → f40_6 w0 K c f one a9 out.length c9 a S.length cp ((S.length : Nat) : Int) ((i : Nat) : Int) z s.c s.f s.q h1 := fun z ez => by
        cases z with
        | true =>
          have e : withoutS c f one (s :: S.drop (i + 1)) = s :: withoutS c f one (S.drop (i + 1)) := by
            unfold withoutS
            rw [List.filter_cons, if_pos ez.symm]
          rw [e] at he
          refine f40_6_in _ _ _ _ _ _ _ _ _ _ _ _ _ _ _ _ (brB_of (fun _ => App_slB (n := out.length) (m := 1) (by' := 40) (ys := sbC s) v1 w1 (by omega) (by omega) rfl (sbC_cell _) fun a2 c2 h2 v2 w2 => ?_) fun z => by cases z)
          rw [← sbs_snoc] at v2 w2
          rw [wrapS (by omega)]
          exact ih (i + 1) (by omega) (out ++ [s]) a2 _ c2 h2 (by rw [List.length_append, List.length_singleton]) (by rw [List.length_append, List.length_singleton]; omega) (by rw [List.append_assoc]; exact he) v2 w2
        | false =>
          have e : withoutS c f one (s :: S.drop (i + 1)) = withoutS c f one (S.drop (i + 1)) := by
            unfold withoutS
            rw [List.filter_cons, if_neg (by rw [← ez]; decide)]
          rw [e] at he
          refine f40_6_in _ _ _ _ _ _ _ _ _ _ _ _ _ _ _ _ (brB_of (fun z => by cases z) fun _ => ?_)
          rw [wrapS (by omega)]
          exact ih (i + 1) (by omega) out a9 _ c9 h1 rfl (by omega) he v1 w1
      refine f40_3_in _ _ _ _ _ _ _ _ _ _ _ _ (brB_of (fun _ => ⟨ad, had, by omega, by omega, s.c, s.f, s.q, ⟨rfl, hat⟩, ?_⟩) fun z => by have := of_decide_eq_false z; omega)
      by_cases e1 : s.c = c
      · refine brB_of (fun z => by simp [e1] at z) fun _ => brB_of (fun z => six _ (by unfold goneS; simp [e1, z])) fun z => six false (by unfold goneS; simp [e1, z])
      · exact brB_of (fun _ => six true (by unfold goneS; simp [e1])) fun z => by simp [e1] at z
  exact f40_go _ _ _ _ _ _ _ (loop S.length 0 (by omega) [] none 0 0 h rfl (by simp) (by simp) SlV.nil w)
/-- List, as the document answers. -/
theorem f22_spec (v : SlV 3 a S.length cp (sbs S)) (w : Own w0 h (slB a (sbs S) (cp * 3) ++ B)) (hS : S.length ≤ 1000000) (hk : ∀ h' a' c', SlV 2 a' (listS c S).length c' (prs (listS c S)) → Own w0 h' (slB a' (prs (listS c S)) (c' * 2) ++ (slB a (sbs S) (cp * 3) ++ B)) → K (.slice a' (listS c S).length c') h') :
    EvC Go.Proofs.Tryd.prog w0 22 #[.slice a S.length cp, .string c] K h := by
  have loop : ∀ (k i : Nat), i + k = S.length → ∀ (out : List (ByteArray × Int)) (a9 : Option Addr) (n9 c9 : Nat) (h1 : AH), n9 = out.length → out.length ≤ i → out ++ listS c (S.drop i) = listS c S → SlV 2 a9 n9 c9 (prs out) → Own w0 h1 (slB a9 (prs out) (c9 * 2) ++ (slB a (sbs S) (cp * 3) ++ B)) →
      f22_3 w0 K c a9 n9 c9 a S.length cp ((S.length : Nat) : Int) ((i : Nat) : Int) h1 := fun k => by
    induction k with
    | zero =>
      intro i hi out a9 n9 c9 h1 en lo he v1 w1
      subst en
      rw [List.drop_eq_nil_of_le (by omega)] at he
      have e : out = listS c S := by rw [← he]; simp [listS]
      refine f22_3_in _ _ _ _ _ _ _ _ _ _ (brB_of (fun z => by have := of_decide_eq_true z; omega) fun _ => ?_)
      rw [e] at v1 w1 ⊢
      exact hk h1 a9 c9 v1 w1
    | succ k ih =>
      intro i hi out a9 n9 c9 h1 en lo he v1 w1
      subst en
      have gi : S[i]? = some (S[i]'(by omega)) := List.getElem?_eq_getElem _
      have dr : S.drop i = S[i]'(by omega) :: S.drop (i + 1) := List.drop_eq_getElem_cons (by omega)
      rw [dr] at he
      generalize S[i]'(by omega) = s at gi he
      obtain ⟨ad, had, hat⟩ := rowLoad (enc := sbC) (k := 3) (fun _ => rfl) (by decide) (v.rd w1) gi
      refine f22_3_in _ _ _ _ _ _ _ _ _ _ (brB_of (fun _ => ⟨ad, had, by omega, by omega, s.c, s.f, s.q, ⟨rfl, hat⟩, brB_of (fun z => ?_) fun z => ?_⟩) fun z => by have := of_decide_eq_false z; omega)
      · have e : listS c (s :: S.drop (i + 1)) = (s.f, s.q) :: listS c (S.drop (i + 1)) := by
          unfold listS
          rw [List.filter_cons, if_pos z, List.map_cons]
        rw [e] at he
        refine App_slB (n := out.length) (m := 1) (by' := 24) (ys := prC (s.f, s.q)) v1 w1 (by omega) (by omega) rfl (prC_cell _) fun a2 c2 h2 v2 w2 => ?_
        rw [← prs_snoc] at v2 w2
        rw [wrapS (by omega)]
        exact ih (i + 1) (by omega) (out ++ [(s.f, s.q)]) a2 _ c2 h2 (by rw [List.length_append, List.length_singleton]) (by rw [List.length_append, List.length_singleton]; omega) (by rw [List.append_assoc]; exact he) v2 w2
      · have e : listS c (s :: S.drop (i + 1)) = listS c (S.drop (i + 1)) := by
          unfold listS
          rw [List.filter_cons, if_neg (by rw [z]; decide)]
        rw [e] at he
        rw [wrapS (by omega)]
        exact ih (i + 1) (by omega) out a9 _ c9 h1 rfl (by omega) he v1 w1
  exact f22_go _ _ _ _ _ (loop S.length 0 (by omega) [] none 0 0 h rfl (by simp) (by simp) SlV.nil w)
end
end Go.G.YtnmngjffebbbnaaDoor
