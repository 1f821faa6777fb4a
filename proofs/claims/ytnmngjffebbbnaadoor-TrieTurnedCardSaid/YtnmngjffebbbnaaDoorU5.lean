/- The document's Match; the same; a call of both. -/
import Derived.Test.YtnmngjffebbbnaaDoorU4
import Derived.Test.YtnmngjffebbbnaaDoorProg
set_option maxRecDepth 100000
namespace Go.G.YtnmngjffebbbnaaDoor
open Go.RowKit
open Value (string slice int bool agg)
def f19_J : Nat → List Nat × Nat := jOf [(3, (0 :: (2 :: (3 :: (4 :: (6 :: (7 :: (8 :: (rn 59 47 [])))))))), 0), (8, (0 :: (2 :: (3 :: (4 :: (6 :: (rn 34 22 (rn 59 24 []))))))), 1)]

def f19_3 (w0 : World) (K : Value → AH → Prop) (a : ByteArray) (b : Option Addr) (c d : Nat) (e : Option Addr) (g i : Nat) (k m : Int) (h : AH) : Prop :=
  ∀ j : Nat → Value, LPk Proofs.Tryd.prog w0 (EvC Proofs.Tryd.prog w0) f19_J 19 K 3 (jv j 1 1 (.v (.string a) :: (jv j 5 3 (.v (.slice b c d) :: (jv j 9 3 (.v (.slice e g i) :: (.v (.int .i64 k) :: (.v (.int .i64 m) :: (jv j 59 47 []))))))))) [] h

def f19_8 (w0 : World) (K : Value → AH → Prop) (a : ByteArray) (b : Option Addr) (c d : Nat) (e : Int) (g : Option Addr) (i k : Nat) (m n : Int) (o : Bool) (p q : ByteArray) (r : Int) (h : AH) : Prop :=
  ∀ j : Nat → Value, LPk Proofs.Tryd.prog w0 (EvC Proofs.Tryd.prog w0) f19_J 19 K 8 (jv j 1 1 (.v (.string a) :: (jv j 5 3 (.v (.slice b c d) :: (jv j 7 1 (.bp 0 0 :: (.v (.int .i64 e) :: (.v (.slice g i k) :: (.v (.int .i64 m) :: (.v (.int .i64 n) :: (jv j 34 22 (.v (.bool o) :: (jv j 59 24 []))))))))))))) [some [(.string p), (.string q), (.int .i64 r)]] h

theorem f19_3_in {w0 : World} {K : Value → AH → Prop} (d : ByteArray) (c : Option Addr) (a e : Nat) (g : Option Addr) (i o : Nat) (k b : Int) (h : AH)
  (hv : (brB (decide ((b < k))) (∃ r : Addr, ((g = (some r)) ∧ (((0 : Int) ≤ b) ∧ ((b < ((i : Nat) : Int)) ∧ (∃ m : ByteArray, (∃ n : ByteArray, (∃ p : Int, ((((Array.size #[(string m), (string n), (int .i64 p)]) = 3) ∧ (At w0 h (Addr.add r ((Int.toNat b) * 3)) [(string m), (string n), (int .i64 p)])) ∧ (EvC Proofs.Tryd.prog w0 41 #[(string n), (string d)] (fun v q => (∃ s : Bool, ((v = (bool s)) ∧ (brB (!s) (f19_3 w0 K d c a e g i o k (IntKind.wrap .i64 (b + (1 : Int))) q) (brB (decide (((0 : Int) < ((a : Nat) : Int)))) (∃ t : Addr, ((c = (some t)) ∧ (((0 : Int) ≤ (IntKind.wrap .i64 (((a : Nat) : Int) - (1 : Int)))) ∧ (((IntKind.wrap .i64 (((a : Nat) : Int) - (1 : Int))) < ((a : Nat) : Int)) ∧ (∃ u : ByteArray, (((cellA w0 q (Addr.add (Addr.add t ((Int.toNat (IntKind.wrap .i64 (((a : Nat) : Int) - (1 : Int)))) * 2)) 0)) = (some (string u))) ∧ (f19_8 w0 K d c a e ((a : Nat) : Int) g i o k b (decide ((u = m))) m n p q))))))) (f19_8 w0 K d c a e ((a : Nat) : Int) g i o k b false m n p q)))))) h))))))))) (K (slice c a e) h))) :
  f19_3 w0 K d c a e g i o k b h := fun j => LP_intro (P := Proofs.Tryd.prog) (Eq.mp (by kernel_rfl) hv)

theorem f19_8_in {w0 : World} {K : Value → AH → Prop} (i : ByteArray) (e : Option Addr) (b k : Nat) (a : Int) (m : Option Addr) (n o : Nat) (p q : Int) (s : Bool) (t x : ByteArray) (c : Int) (h : AH)
  (hv : (brB s (∃ u : Addr, ((e = (some u)) ∧ (((0 : Int) ≤ (IntKind.wrap .i64 (a - (1 : Int)))) ∧ (((IntKind.wrap .i64 (a - (1 : Int))) < ((b : Nat) : Int)) ∧ (∃ g : Int, (((cellA w0 h (Addr.add (Addr.add u ((Int.toNat (IntKind.wrap .i64 (a - (1 : Int)))) * 2)) 1)) = (some (int .i64 g))) ∧ (∃ d : Addr, ((e = (some d)) ∧ (((0 : Int) ≤ (IntKind.wrap .i64 (a - (1 : Int)))) ∧ (((IntKind.wrap .i64 (a - (1 : Int))) < ((b : Nat) : Int)) ∧ (∃ r : List Go.Value, (∃ v : Nat, (((Array.size (Go.World.heap w0)) ≤ (Addr.block (Addr.add (Addr.add d ((Int.toNat (IntKind.wrap .i64 (a - (1 : Int)))) * 2)) 1))) ∧ (((none : Option Nat) = none) ∧ (((h (Addr.block (Addr.add (Addr.add d ((Int.toNat (IntKind.wrap .i64 (a - (1 : Int)))) * 2)) 1))) = (some (AB.cells r v))) ∧ ((((Addr.off (Addr.add (Addr.add d ((Int.toNat (IntKind.wrap .i64 (a - (1 : Int)))) * 2)) 1)) + (Array.size #[(int .i64 (if (g < c) then c else g))])) ≤ (List.length r)) ∧ (f19_3 w0 K i e b k m n o p (IntKind.wrap .i64 (q + (1 : Int))) (AH.put h (Addr.block (Addr.add (Addr.add d ((Int.toNat (IntKind.wrap .i64 (a - (1 : Int)))) * 2)) 1)) (AB.cells (setCells r (Addr.off (Addr.add (Addr.add d ((Int.toNat (IntKind.wrap .i64 (a - (1 : Int)))) * 2)) 1)) [(int .i64 (if (g < c) then c else g))]) v))))))))))))))))))) (App w0 h 2 24 e b k 1 [(string t), (int .i64 c)] (fun y z A => (f19_3 w0 K i y (b + 1) z m n o p (IntKind.wrap .i64 (q + (1 : Int))) A))))) :
  f19_8 w0 K i e b k a m n o p q s t x c h := fun j => LP_intro (P := Proofs.Tryd.prog) (Eq.mp (by kernel_rfl) hv)

theorem f19_go {w0 : World} {K : Value → AH → Prop} (b : Option Addr) (a c : Nat) (d : ByteArray) (h : AH)
  (hv : (f19_3 w0 K d none 0 0 b a c ((a : Nat) : Int) (0 : Int) h)) :
  EvC Proofs.Tryd.prog w0 19 ([(.slice b a c), (.string d)]).toArray K h := EvC_intro (P := Proofs.Tryd.prog) f19_J (Eq.mp (by kernel_rfl) hv)
def f13_J : Nat → List Nat × Nat := jOf [(4, (rn 12 10 (rn 26 12 [])), 0)]

def f13_4 (w0 : World) (K : Value → AH → Prop) (a : Option Addr) (b c : Nat) (d : Option Addr) (e g : Nat) (i k : Int) (h : AH) : Prop :=
  ∀ j : Nat → Value, LPk Proofs.Tryd.prog w0 (EvC Proofs.Tryd.prog w0) f13_J 13 K 4 (.v (.slice a b c) :: (.v (.slice d e g) :: (jv j 12 10 (.v (.int .i64 i) :: (.v (.int .i64 k) :: (jv j 26 12 [])))))) [] h

theorem f13_4_in {w0 : World} {K : Value → AH → Prop} (b : Option Addr) (c o : Nat) (d : Option Addr) (e p : Nat) (g a : Int) (h : AH)
  (hv : (brB (decide ((a < g))) (∃ q : Addr, ((b = (some q)) ∧ (((0 : Int) ≤ a) ∧ ((a < ((c : Nat) : Int)) ∧ (∃ i : ByteArray, (∃ k : Int, ((((Array.size #[(string i), (int .i64 k)]) = 2) ∧ (At w0 h (Addr.add q ((Int.toNat a) * 2)) [(string i), (int .i64 k)])) ∧ (∃ r : Addr, ((d = (some r)) ∧ (((0 : Int) ≤ a) ∧ ((a < ((e : Nat) : Int)) ∧ (∃ m : ByteArray, (∃ n : Int, ((((Array.size #[(string m), (int .i64 n)]) = 2) ∧ (At w0 h (Addr.add r ((Int.toNat a) * 2)) [(string m), (int .i64 n)])) ∧ (brB (!((true && (decide ((i = m)))) && (k == n))) (K (bool false) h) (f13_4 w0 K b c o d e p g (IntKind.wrap .i64 (a + (1 : Int))) h)))))))))))))))) (K (bool true) h))) :
  f13_4 w0 K b c o d e p g a h := fun j => LP_intro (P := Proofs.Tryd.prog) (Eq.mp (by kernel_rfl) hv)

theorem f13_go {w0 : World} {K : Value → AH → Prop} (c : Option Addr) (a d : Nat) (e : Option Addr) (b g : Nat) (h : AH)
  (hv : (brB (((a : Nat) : Int) != ((b : Nat) : Int)) (K (bool false) h) (f13_4 w0 K c a d e b g ((a : Nat) : Int) (0 : Int) h))) :
  EvC Proofs.Tryd.prog w0 13 ([(.slice c a d), (.slice e b g)]).toArray K h := EvC_intro (P := Proofs.Tryd.prog) f13_J (Eq.mp (by kernel_rfl) hv)
def f20_J : Nat → List Nat × Nat := jOf [(4, (rn 12 10 (rn 26 12 [])), 0)]

def f20_4 (w0 : World) (K : Value → AH → Prop) (a : Option Addr) (b c : Nat) (d : Option Addr) (e g : Nat) (i k : Int) (h : AH) : Prop :=
  ∀ j : Nat → Value, LPk Proofs.Tryd.prog w0 (EvC Proofs.Tryd.prog w0) f20_J 20 K 4 (.v (.slice a b c) :: (.v (.slice d e g) :: (jv j 12 10 (.v (.int .i64 i) :: (.v (.int .i64 k) :: (jv j 26 12 [])))))) [] h

theorem f20_4_in {w0 : World} {K : Value → AH → Prop} (b : Option Addr) (c o : Nat) (d : Option Addr) (e p : Nat) (g a : Int) (h : AH)
  (hv : (brB (decide ((a < g))) (∃ q : Addr, ((b = (some q)) ∧ (((0 : Int) ≤ a) ∧ ((a < ((c : Nat) : Int)) ∧ (∃ i : ByteArray, (∃ k : Int, ((((Array.size #[(string i), (int .i64 k)]) = 2) ∧ (At w0 h (Addr.add q ((Int.toNat a) * 2)) [(string i), (int .i64 k)])) ∧ (∃ r : Addr, ((d = (some r)) ∧ (((0 : Int) ≤ a) ∧ ((a < ((e : Nat) : Int)) ∧ (∃ m : ByteArray, (∃ n : Int, ((((Array.size #[(string m), (int .i64 n)]) = 2) ∧ (At w0 h (Addr.add r ((Int.toNat a) * 2)) [(string m), (int .i64 n)])) ∧ (brB (!((true && (decide ((i = m)))) && (k == n))) (K (bool false) h) (f20_4 w0 K b c o d e p g (IntKind.wrap .i64 (a + (1 : Int))) h)))))))))))))))) (K (bool true) h))) :
  f20_4 w0 K b c o d e p g a h := fun j => LP_intro (P := Proofs.Tryd.prog) (Eq.mp (by kernel_rfl) hv)

theorem f20_go {w0 : World} {K : Value → AH → Prop} (c : Option Addr) (a d : Nat) (e : Option Addr) (b g : Nat) (h : AH)
  (hv : (brB (((a : Nat) : Int) != ((b : Nat) : Int)) (K (bool false) h) (f20_4 w0 K c a d e b g ((a : Nat) : Int) (0 : Int) h))) :
  EvC Proofs.Tryd.prog w0 20 ([(.slice c a d), (.slice e b g)]).toArray K h := EvC_intro (P := Proofs.Tryd.prog) f20_J (Eq.mp (by kernel_rfl) hv)
def f18_J : Nat → List Nat × Nat := jOf [(4, (2 :: (3 :: (4 :: (6 :: (7 :: (rn 89 80 [])))))), 1)]

def f18_4 (w0 : World) (K : Value → AH → Prop) (a b : Option Addr) (c d : Nat) (e : Bool) (g : Int) (i k : ByteArray) (m : Int) (h : AH) : Prop :=
  ∀ j : Nat → Value, LPk Proofs.Tryd.prog w0 (EvC Proofs.Tryd.prog w0) f18_J 18 K 4 (.v (.pointer a) :: (.v (.slice b c d) :: (jv j 5 3 (.bp 0 0 :: (jv j 8 2 (.v (.bool e) :: (jv j 89 80 []))))))) [some [(.int .i64 g), (.string i), (.string k), (.int .i64 m)]] h

theorem f18_4_in {w0 : World} {K : Value → AH → Prop} (e g : Option Addr) (i k : Nat) (a : Bool) (r : Int) (b c : ByteArray) (d : Int) (h : AH)
  (hv : (brB a (EvC Proofs.Tryd.prog w0 39 #[(slice g i k), (string b), (string c), (int .i64 d)] (fun s t => (∃ m : Option Addr, (∃ n : Nat, (∃ o : Nat, ((s = (slice m n o)) ∧ (EvC Proofs.Tryd.prog w0 11 #[(Value.pointer e), (string b), (string c), (int .i64 d)] (fun u v => (∃ p : Bool, ((u = (bool p)) ∧ (K (Value.tuple #[(slice m n o), (bool (p == a))]) v)))) t)))))) h) (EvC Proofs.Tryd.prog w0 11 #[(Value.pointer e), (string b), (string c), (int .i64 d)] (fun x y => (∃ q : Bool, ((x = (bool q)) ∧ (K (Value.tuple #[(slice g i k), (bool (q == a))]) y)))) h))) :
  f18_4 w0 K e g i k a r b c d h := fun j => LP_intro (P := Proofs.Tryd.prog) (Eq.mp (by kernel_rfl) hv)

theorem f18_go {w0 : World} {K : Value → AH → Prop} (d e : Option Addr) (b g : Nat) (i : Int) (c a : ByteArray) (k : Int) (h : AH)
  (hv : (brB (i == (0 : Int)) (EvC Proofs.Tryd.prog w0 37 #[(string c)] (fun z p => (∃ q : Bool, ((z = (bool q)) ∧ (brB q (EvC Proofs.Tryd.prog w0 38 #[(string a)] (fun A m => (∃ r : Bool, ((A = (bool r)) ∧ (brB r (brB (decide (((0 : Int) ≤ k))) (f18_4 w0 K d e b g (decide ((k ≤ (2 : Int)))) i c a k m) (f18_4 w0 K d e b g false i c a k m)) (f18_4 w0 K d e b g false i c a k m))))) p) (f18_4 w0 K d e b g false i c a k p))))) h) (brB (i == (1 : Int)) (EvC Proofs.Tryd.prog w0 40 #[(slice e b g), (string a), (string c), (bool true)] (fun B C => (∃ s : Option Addr, (∃ n : Nat, (∃ t : Nat, ((B = (slice s n t)) ∧ (EvC Proofs.Tryd.prog w0 23 #[(Value.pointer d), (string c), (string a)] (fun D E => (∃ u : Bool, ((D = (bool u)) ∧ (K (Value.tuple #[(slice s n t), (bool (u == (decide ((((n : Nat) : Int) < ((b : Nat) : Int))))))]) E)))) C)))))) h) (EvC Proofs.Tryd.prog w0 40 #[(slice e b g), (string a), (string (ByteArray.mk #[])), (bool false)] (fun F G => (∃ v : Option Addr, (∃ o : Nat, (∃ x : Nat, ((F = (slice v o x)) ∧ (EvC Proofs.Tryd.prog w0 24 #[(Value.pointer d), (string a)] (fun L M => (∃ y : Int, ((L = (int .i64 y)) ∧ (K (Value.tuple #[(slice v o x), (bool (y == (IntKind.wrap .i64 (((b : Nat) : Int) - ((o : Nat) : Int)))))]) M)))) G)))))) h)))) :
  EvC Proofs.Tryd.prog w0 18 ([(.pointer d), (.slice e b g), (.agg #[(.int .i64 i), (.string c), (.string a), (.int .i64 k)])]).toArray K h := EvC_intro (P := Proofs.Tryd.prog) f18_J (Eq.mp (by kernel_rfl) hv)
/-! ### Match, as the document answers; the same; a call of both -/
theorem set_one (l : List Value) (i : Nat) (v : Value) : setCells l i [v] = l.set i v := by simp [setCells]
theorem prs_set {out : List (ByteArray × Int)} {e : ByteArray × Int} (eo : out = out.dropLast ++ [e]) (m : Int) : (prs out).set ((out.length - 1) * 2 + 1) (.int .i64 m) = prs (out.dropLast ++ [(e.1, m)]) := by
  have l1 : out.dropLast.length = out.length - 1 := List.length_dropLast
  generalize out.dropLast = d at *
  rw [eo, prs_snoc, prs_snoc, List.length_append, List.length_singleton, List.set_append_right _ _ (by rw [prs_length]; omega), prs_length]
  have : (d.length + 1 - 1) * 2 + 1 - d.length * 2 = 1 := by omega
  rw [this]
  rfl
section
variable {w0 : World} {K : Value → AH → Prop} {h : AH} {B : List (Nat × AB)} {S : List Sb} {a : Option Addr} {cp : Nat} {c f n : ByteArray} {q : Int}
theorem f19_spec (v : SlV 3 a S.length cp (sbs S)) (w : Own w0 h (slB a (sbs S) (cp * 3) ++ B)) (hS : S.length ≤ 1000000) (hk : ∀ h' a' c', SlV 2 a' (matchS n S).length c' (prs (matchS n S)) → Own w0 h' (slB a' (prs (matchS n S)) (c' * 2) ++ (slB a (sbs S) (cp * 3) ++ B)) → K (.slice a' (matchS n S).length c') h') :
    EvC Go.Proofs.Tryd.prog w0 19 #[.slice a S.length cp, .string n] K h := by
  have loop : ∀ (k i : Nat), i + k = S.length → ∀ (out : List (ByteArray × Int)) (a5 : Option Addr) (n5 c5 : Nat) (h1 : AH), n5 = out.length → out.length ≤ i → mS n out (S.drop i) = matchS n S → SlV 2 a5 n5 c5 (prs out) → Own w0 h1 (slB a5 (prs out) (c5 * 2) ++ (slB a (sbs S) (cp * 3) ++ B)) →
      f19_3 w0 K n a5 n5 c5 a S.length cp ((S.length : Nat) : Int) ((i : Nat) : Int) h1 := fun k => by
    induction k with
    | zero =>
      intro i hi out a5 n5 c5 h1 en lo he v1 w1
      subst en
      rw [List.drop_eq_nil_of_le (by omega), mS] at he
      refine f19_3_in _ _ _ _ _ _ _ _ _ _ (brB_of (fun z => by have := of_decide_eq_true z; omega) fun _ => ?_)
      rw [he] at v1 w1 ⊢
      exact hk h1 a5 c5 v1 w1
    | succ k ih =>
      intro i hi out a5 n5 c5 h1 en lo he v1 w1
      subst en
      have gi : S[i]? = some (S[i]'(by omega)) := List.getElem?_eq_getElem _
      have dr : S.drop i = S[i]'(by omega) :: S.drop (i + 1) := List.drop_eq_getElem_cons (by omega)
      rw [dr, mS] at he
      generalize S[i]'(by omega) = s at gi he
      obtain ⟨ad, had, hat⟩ := rowLoad (enc := sbC) (k := 3) (fun _ => rfl) (by decide) (v.rd w1) gi
      refine f19_3_in _ _ _ _ _ _ _ _ _ _ (brB_of (fun _ => ⟨ad, had, by omega, by omega, s.c, s.f, s.q, ⟨rfl, hat⟩, f41_spec w1 fun h2 w2 => ⟨_, rfl, ?_⟩⟩) fun z => by have := of_decide_eq_false z; omega)
      cases m : matchB s.f n with
      | false =>
        rw [m, if_neg (by decide)] at he
        refine brB_of (fun _ => ?_) fun z => by cases z
        rw [wrapS (by omega)]
        exact ih (i + 1) (by omega) out a5 _ c5 h2 rfl (by omega) he v1 w2
      | true =>
        rw [m, if_pos rfl] at he
        refine brB_of (fun z => by cases z) fun _ => ?_
        have new : mS n (out ++ [(s.c, s.q)]) (S.drop (i + 1)) = matchS n S → ∀ x8, f19_8 w0 K n a5 out.length c5 x8 a S.length cp ((S.length : Nat) : Int) ((i : Nat) : Int) false s.c s.f s.q h2 := fun he x8 => by
          refine f19_8_in _ _ _ _ _ _ _ _ _ _ _ _ _ _ _ (brB_of (fun z => by cases z) fun _ => App_slB (n := out.length) (m := 1) (by' := 24) (ys := prC (s.c, s.q)) v1 w2 (by omega) (by omega) rfl (prC_cell _) fun a2 c2 h3 v3 w3 => ?_)
          rw [← prs_snoc] at v3 w3
          rw [wrapS (by omega)]
          exact ih (i + 1) (by omega) (out ++ [(s.c, s.q)]) a2 _ c2 h3 (by rw [List.length_append, List.length_singleton]) (by rw [List.length_append, List.length_singleton]; omega) he v3 w3
        cases hg : out.getLast? with
        | none =>
          rw [hg] at he
          have e0 : out = [] := List.getLast?_eq_none_iff.1 hg
          refine brB_of (fun z => absurd z (by rw [e0]; decide)) fun _ => new he _
        | some e =>
          rw [hg] at he
          dsimp only at he
          have eo := last_of hg
          have l1 : 1 ≤ out.length := by rw [eo]; simp
          have ge : out[out.length - 1]? = some e := by rw [← List.getLast?_eq_getElem?]; exact hg
          cases a5 with
          | none =>
            obtain ⟨_, _, v0⟩ := v1
            exact absurd v0.1 (by omega)
          | some bd =>
            obtain ⟨vl, vc, vo⟩ := v1
            have hbd : bd = ⟨bd.block, 0, none⟩ := by obtain ⟨b1, b2, b3⟩ := bd; obtain ⟨o1, o2⟩ := vo; simp only at o1 o2; subst o1 o2; rfl
            have ew : IntKind.i64.wrap (((out.length : Nat) : Int) - 1) = ((out.length - 1 : Nat) : Int) := by rw [wrap64 (by omega) (by omega)]; omega
            have cell : ∀ j x, (prC e)[j]? = some x → cellA w0 h2 (Addr.add (Addr.add bd ((out.length - 1) * 2)) j) = some x := fun j x hx => by
              have := own_cell (j := (out.length - 1) * 2 + j) w2.ge w2.hd (flat_get (enc := prC) (k := 2) (fun _ => rfl) ge j x hx)
              rw [add_mul, hbd]; exact this
            refine brB_of (fun _ => ⟨bd, rfl, ?_⟩) fun z => by have := of_decide_eq_false z; omega
            rw [ew, Int.toNat_natCast]
            refine ⟨by omega, by omega, e.1, cell 0 _ rfl, ?_⟩
            by_cases ec : e.1 = s.c
            · rw [if_pos ec] at he
              rw [decide_eq_true ec]
              have ea : Addr.add (Addr.add bd ((out.length - 1) * 2)) 1 = ⟨bd.block, 0 + ((out.length - 1) * 2 + 1), none⟩ := by rw [add_mul, hbd, add_plain]
              refine f19_8_in _ _ _ _ _ _ _ _ _ _ _ _ _ _ _ (brB_of (fun _ => ⟨bd, rfl, ?_⟩) fun z => by cases z)
              rw [ew, Int.toNat_natCast]
              refine ⟨by omega, by omega, e.2, cell 1 _ rfl, bd, rfl, by omega, by omega, prs out, c5 * 2, by rw [ea]; exact w2.ge, by first | rfl | rw [ea], by rw [ea]; exact w2.hd, ?_, ?_⟩
              · rw [ea]; show 0 + ((out.length - 1) * 2 + 1) + 1 ≤ (prs out).length
                rw [prs_length]; omega
              · rw [ea, set_one, Nat.zero_add, wrapS (by omega)]
                have em : (if e.2 < s.q then s.q else e.2) = max e.2 s.q := by
                  split
                  · rw [Int.max_eq_right (by omega)]
                  · rw [Int.max_eq_left (by omega)]
                rw [em, prs_set eo]
                have l2 : (out.dropLast ++ [(e.1, max e.2 s.q)]).length = out.length := by rw [List.length_append, List.length_dropLast, List.length_singleton]; omega
                exact ih (i + 1) (by omega) (out.dropLast ++ [(e.1, max e.2 s.q)]) _ _ c5 _ l2.symm (by omega) he ⟨by rw [prs_length, l2], vc, vo⟩ (Own.put w2)
            · rw [if_neg ec] at he
              rw [decide_eq_false ec]
              exact new he _
  exact f19_go _ _ _ _ _ (loop S.length 0 (by omega) [] none 0 0 h rfl (by simp) rfl SlV.nil w)
/-- The same. -/
theorem f13_same {l : List (ByteArray × Int)} {a b : Option Addr} {c1 c2 : Nat} (hl : l.length ≤ 1000000) (r1 : Rd w0 h a (prs l)) (r2 : Rd w0 h b (prs l)) (hk : K (.bool true) h) : EvC Go.Proofs.Tryd.prog w0 13 #[.slice a l.length c1, .slice b l.length c2] K h := by
  have loop : ∀ (k i : Nat), i + k = l.length → f13_4 w0 K a l.length c1 b l.length c2 ((l.length : Nat) : Int) ((i : Nat) : Int) h := fun k => by
    induction k with
    | zero => intro i hi; exact f13_4_in _ _ _ _ _ _ _ _ _ (brB_of (fun z => by have := of_decide_eq_true z; omega) fun _ => hk)
    | succ k ih =>
      intro i hi
      have gi : l[i]? = some (l[i]'(by omega)) := List.getElem?_eq_getElem _
      generalize l[i]'(by omega) = e at gi
      obtain ⟨ad, had, hat⟩ := rowLoad (enc := prC) (k := 2) (fun _ => rfl) (by decide) r1 gi
      obtain ⟨bd, hbd, hbt⟩ := rowLoad (enc := prC) (k := 2) (fun _ => rfl) (by decide) r2 gi
      refine f13_4_in _ _ _ _ _ _ _ _ _ (brB_of (fun _ => ⟨ad, had, by omega, by omega, e.1, e.2, ⟨rfl, hat⟩, bd, hbd, by omega, by omega, e.1, e.2, ⟨rfl, hbt⟩, brB_of (fun z => by simp at z) fun _ => ?_⟩) fun z => by have := of_decide_eq_false z; omega)
      rw [wrapS (by omega)]
      exact ih (i + 1) (by omega)
  exact f13_go _ _ _ _ _ _ _ (brB_of (fun z => by simp at z) fun _ => loop l.length 0 (by omega))
theorem f20_same {l : List (ByteArray × Int)} {a b : Option Addr} {c1 c2 : Nat} (hl : l.length ≤ 1000000) (r1 : Rd w0 h a (prs l)) (r2 : Rd w0 h b (prs l)) (hk : K (.bool true) h) : EvC Go.Proofs.Tryd.prog w0 20 #[.slice a l.length c1, .slice b l.length c2] K h := by
  have loop : ∀ (k i : Nat), i + k = l.length → f20_4 w0 K a l.length c1 b l.length c2 ((l.length : Nat) : Int) ((i : Nat) : Int) h := fun k => by
    induction k with
    | zero => intro i hi; exact f20_4_in _ _ _ _ _ _ _ _ _ (brB_of (fun z => by have := of_decide_eq_true z; omega) fun _ => hk)
    | succ k ih =>
      intro i hi
      have gi : l[i]? = some (l[i]'(by omega)) := List.getElem?_eq_getElem _
      generalize l[i]'(by omega) = e at gi
      obtain ⟨ad, had, hat⟩ := rowLoad (enc := prC) (k := 2) (fun _ => rfl) (by decide) r1 gi
      obtain ⟨bd, hbd, hbt⟩ := rowLoad (enc := prC) (k := 2) (fun _ => rfl) (by decide) r2 gi
      refine f20_4_in _ _ _ _ _ _ _ _ _ (brB_of (fun _ => ⟨ad, had, by omega, by omega, e.1, e.2, ⟨rfl, hat⟩, bd, hbd, by omega, by omega, e.1, e.2, ⟨rfl, hbt⟩, brB_of (fun z => by simp at z) fun _ => ?_⟩) fun z => by have := of_decide_eq_false z; omega)
      rw [wrapS (by omega)]
      exact ih (i + 1) (by omega)
  exact f20_go _ _ _ _ _ _ _ (brB_of (fun z => by simp at z) fun _ => loop l.length 0 (by omega))
theorem filter_two {α : Type} (p : α → Bool) : ∀ l : List α, (l.filter p).length + (l.filter fun x => !(p x)).length = l.length
  | [] => rfl
  | x :: l => by
    have ih := filter_two p l
    cases h : p x <;> simp [List.filter_cons, h] <;> omega
theorem list_without (e : ByteArray) (S : List Sb) : (listS c S).length + (withoutS c e false S).length = S.length := by
  have := filter_two (fun s : Sb => decide (s.c = c)) S
  unfold listS withoutS goneS
  rw [List.length_map]
  simpa using this
theorem has_less (S : List Sb) : hasP c f S = decide ((withoutS c f true S).length < S.length) := by
  cases hh : hasP c f S with
  | false => rw [without_none hh]; simp
  | true =>
    have := filter_two (fun s : Sb => !(goneS c f true s)) S
    have l0 : 0 < (S.filter fun s => !(!(goneS c f true s))).length := by
      obtain ⟨q, hq⟩ := hasP_iff.1 hh
      exact List.length_pos_of_mem (List.mem_filter.2 ⟨hq, by simp [goneS]⟩)
    have e : (withoutS c f true S).length < S.length := by unfold withoutS; omega
    rw [decide_eq_true e]
def playS (d : Int) (f c : ByteArray) (q : Int) (S : List Sb) : List Sb := if d = 0 then addP c f q S else if d = 1 then withoutS c f true S else withoutS c ⟨#[]⟩ false S
theorem without_le (one : Bool) (S : List Sb) : (withoutS c f one S).length ≤ S.length := List.length_filter_le ..
theorem addP_le (S : List Sb) : (addP c f q S).length ≤ S.length + 1 := by
  unfold addP
  split
  · exact addS_le c f q S false
  · omega
theorem playS_le (d : Int) (S : List Sb) : (playS d f c q S).length ≤ S.length + 1 := by
  unfold playS
  split
  · exact addP_le S
  · split
    · have := without_le (c := c) (f := f) true S; omega
    · have := without_le (c := c) (f := ⟨#[]⟩) false S; omega
theorem own_mid {X Y : List (Nat × AB)} {D : TD} (w : Own w0 h (X ++ (Y ++ D.own B))) : Own w0 h (D.own (X ++ (Y ++ B))) := w.perm (by
  classical
  rw [List.perm_iff_count]; intro z
  simp only [TD.own, TD.rest, List.count_append, List.count_cons]
  omega)
theorem own_out {X Y : List (Nat × AB)} {D : TD} (w : Own w0 h (D.own (X ++ (Y ++ B)))) : Own w0 h (X ++ D.own B) := by
  have : Own w0 h (Y ++ (X ++ D.own B)) := w.perm (by
    classical
    rw [List.perm_iff_count]; intro z
    simp only [TD.own, TD.rest, List.count_append, List.count_cons]
    omega)
  exact this.drop
/-- play. -/
theorem f18_spec {D : TD} {d : Int} (T : TabOk w0) (r : Rep S D) (v : SlV 3 a S.length cp (sbs S)) (w : Own w0 h (slB a (sbs S) (cp * 3) ++ D.own B)) (hS : S.length ≤ 100000)
    (hk : ∀ h' D' a' c', Rep (playS d f c q S) D' → D'.tb = D.tb → SlV 3 a' (playS d f c q S).length c' (sbs (playS d f c q S)) → Own w0 h' (slB a' (sbs (playS d f c q S)) (c' * 3) ++ D'.own B) → K (.tuple #[.slice a' (playS d f c q S).length c', .bool true]) h') :
    EvC Go.Proofs.Tryd.prog w0 18 #[.pointer (some ⟨D.tb, 0, none⟩), .slice a S.length cp, .agg #[.int .i64 d, .string f, .string c, .int .i64 q]] K h := by
  unfold playS at hk
  by_cases d0 : d = 0
  · rw [if_pos d0] at hk
    have four : ∀ (z : Bool) h1, okP c f q = z → Own w0 h1 (slB a (sbs S) (cp * 3) ++ D.own B) → f18_4 w0 K (some ⟨D.tb, 0, none⟩) a S.length cp z d f c q h1 := fun z h1 ez w1 => by
      cases z with
      | true =>
        have e : addP c f q S = addS c f q false S := by unfold addP; rw [if_pos ez]
        rw [e] at hk
        refine f18_4_in _ _ _ _ _ _ _ _ _ _ (brB_of (fun _ => f39_spec v w1 (by omega) fun h2 a2 c2 v2 w2 => ⟨_, _, _, rfl, f11_spec T r (own_mid w2) fun h3 D3 r3 e3 w3 => ⟨_, rfl, ?_⟩⟩) fun z => by cases z)
        rw [e] at r3
        rw [ez]
        exact hk h3 D3 a2 c2 r3 e3 v2 (own_out w3)
      | false =>
        have e : addP c f q S = S := by unfold addP; rw [if_neg (by rw [ez]; decide)]
        rw [e] at hk
        refine f18_4_in _ _ _ _ _ _ _ _ _ _ (brB_of (fun z => by cases z) fun _ => f11_spec (c := c) (f := f) (q := q) T r (own_mid (Y := []) w1) fun h3 D3 r3 e3 w3 => ⟨_, rfl, ?_⟩)
        rw [e] at r3
        rw [ez]
        exact hk h3 D3 a cp r3 e3 v (own_out (Y := []) w3)
    refine f18_go _ _ _ _ _ _ _ _ _ (brB_of (fun _ => f37_spec w fun h1 w1 => ⟨_, rfl, brB_of (fun z1 => f38_spec w1 fun h2 w2 => ⟨_, rfl, brB_of (fun z2 => brB_of (fun z3 => four _ h2 ?_ w2) fun z3 => four false h2 ?_ w2) fun z2 => four false h2 ?_ w2⟩) fun z1 => four false h1 ?_ w1⟩) fun z => by rw [d0] at z; cases z)
    · unfold okP; rw [z1, z2, z3]; rfl
    · unfold okP; rw [z3]; simp
    · unfold okP; rw [z2]; simp
    · unfold okP; rw [z1]; simp
  · rw [if_neg d0] at hk
    refine f18_go _ _ _ _ _ _ _ _ _ (brB_of (fun z => absurd (by simpa using z) d0) fun _ => ?_)
    by_cases d1 : d = 1
    · rw [if_pos d1] at hk
      refine brB_of (fun _ => f40_spec v w (by omega) fun h2 a2 c2 v2 w2 => ⟨_, _, _, rfl, f23_spec r (own_mid w2) fun h3 D3 r3 e3 w3 => ⟨_, rfl, ?_⟩⟩) fun z => by rw [d1] at z; cases z
      have e : (hasP c f S == decide ((((withoutS c f true S).length : Nat) : Int) < ((S.length : Nat) : Int))) = true := by
        rw [has_less]
        simp
      rw [e]
      exact hk h3 D3 a2 c2 r3 e3 v2 (own_out w3)
    · rw [if_neg d1] at hk
      refine brB_of (fun z => absurd (by simpa using z) d1) fun _ => f40_spec v w (by omega) fun h2 a2 c2 v2 w2 => ⟨_, _, _, rfl, f24_spec ⟨#[]⟩ r (own_mid w2) (by omega) fun h3 D3 r3 e3 w3 => ⟨_, rfl, ?_⟩⟩
      have lw := list_without (c := c) ⟨#[]⟩ S
      have e : ((((listS c S).length : Nat) : Int) == IntKind.i64.wrap (((S.length : Nat) : Int) - (((withoutS c ⟨#[]⟩ false S).length : Nat) : Int))) = true := by
        rw [wrap64 (by omega) (by omega), beq_iff_eq]; omega
      rw [e]
      exact hk h3 D3 a2 c2 r3 e3 v2 (own_out w3)
end
end Go.G.YtnmngjffebbbnaaDoor
