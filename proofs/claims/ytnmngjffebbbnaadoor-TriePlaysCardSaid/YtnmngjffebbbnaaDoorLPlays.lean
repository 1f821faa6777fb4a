/- TriePlays. -/
import Derived.Test.YtnmngjffebbbnaaDoorU5
import Derived.Test.YtnmngjffebbbnaaDoorLT
import Derived.Test.YtnmngjffebbbnaaDoorProg
set_option maxRecDepth 100000
namespace Go.G.YtnmngjffebbbnaaDoor
open Go.RowKit
open Value (string slice int bool agg)
def f5_J : Nat → List Nat × Nat := jOf [(5, (3 :: (4 :: (5 :: (6 :: (rn 83 72 []))))), 0), (7, (3 :: (4 :: (5 :: (6 :: (9 :: (rn 83 72 [])))))), 0), (9, (3 :: (4 :: (5 :: (6 :: (rn 42 31 (rn 83 40 [])))))), 0), (10, (3 :: (4 :: (5 :: (6 :: (rn 83 72 []))))), 0), (11, (3 :: (4 :: (5 :: (6 :: (rn 78 67 [79, 80, 81, 82]))))), 0)]

def f5_5 (w0 : World) (K : Value → AH → Prop) (a : Option Addr) (b c : Nat) (d e : ByteArray) (g i : Option Addr) (k m : Nat) (n : Bool) (o : Int) (h : AH) : Prop :=
  ∀ j : Nat → Value, LPk Proofs.Tryd.prog w0 (EvC Proofs.Tryd.prog w0) f5_J 5 K 5 (.v (.slice a b c) :: (.v (.string d) :: (.v (.string e) :: (jv j 7 4 (.v (.pointer g) :: (.v (.slice i k m) :: (.v (.bool n) :: (.v (.int .i64 o) :: (jv j 83 72 []))))))))) [] h

def f5_7 (w0 : World) (K : Value → AH → Prop) (a : Option Addr) (b c : Nat) (d e : ByteArray) (g i : Option Addr) (k m : Nat) (n : Int) (h : AH) : Prop :=
  ∀ j : Nat → Value, LPk Proofs.Tryd.prog w0 (EvC Proofs.Tryd.prog w0) f5_J 5 K 7 (.v (.slice a b c) :: (.v (.string d) :: (.v (.string e) :: (jv j 7 4 (.v (.pointer g) :: (.v (.slice i k m) :: (jv j 10 1 (.v (.int .i64 n) :: (jv j 83 72 []))))))))) [] h

def f5_9 (w0 : World) (K : Value → AH → Prop) (a : Option Addr) (b c : Nat) (d e : ByteArray) (g i : Option Addr) (k m : Nat) (n : Bool) (o : Int) (p : Bool) (h : AH) : Prop :=
  ∀ j : Nat → Value, LPk Proofs.Tryd.prog w0 (EvC Proofs.Tryd.prog w0) f5_J 5 K 9 (.v (.slice a b c) :: (.v (.string d) :: (.v (.string e) :: (jv j 7 4 (.v (.pointer g) :: (.v (.slice i k m) :: (.v (.bool n) :: (.v (.int .i64 o) :: (jv j 42 31 (.v (.bool p) :: (jv j 83 40 []))))))))))) [] h

def f5_10 (w0 : World) (K : Value → AH → Prop) (a : Option Addr) (b c : Nat) (d e : ByteArray) (g i : Option Addr) (k m : Nat) (n : Bool) (o : Int) (h : AH) : Prop :=
  ∀ j : Nat → Value, LPk Proofs.Tryd.prog w0 (EvC Proofs.Tryd.prog w0) f5_J 5 K 10 (.v (.slice a b c) :: (.v (.string d) :: (.v (.string e) :: (jv j 7 4 (.v (.pointer g) :: (.v (.slice i k m) :: (.v (.bool n) :: (.v (.int .i64 o) :: (jv j 83 72 []))))))))) [] h

def f5_11 (w0 : World) (K : Value → AH → Prop) (a : Option Addr) (b c : Nat) (d e : ByteArray) (g i : Option Addr) (k m : Nat) (n : Bool) (o : Int) (p : Bool) (h : AH) : Prop :=
  ∀ j : Nat → Value, LPk Proofs.Tryd.prog w0 (EvC Proofs.Tryd.prog w0) f5_J 5 K 11 (.v (.slice a b c) :: (.v (.string d) :: (.v (.string e) :: (jv j 7 4 (.v (.pointer g) :: (.v (.slice i k m) :: (.v (.bool n) :: (.v (.int .i64 o) :: (jv j 78 67 (.v (.bool p) :: (jv j 83 4 []))))))))))) [] h

theorem f5_5_in {w0 : World} {K : Value → AH → Prop} (d : Option Addr) (b e : Nat) (g i : ByteArray) (k m : Option Addr) (n o : Nat) (c : Bool) (a : Int) (h : AH)
  (hv : (brB (decide ((a < ((b : Nat) : Int)))) (brB (decide ((a < (100 : Int)))) (f5_7 w0 K d b e g i k m n o a h) (brB c (EvC Proofs.Tryd.prog w0 10 #[] (fun r s => (∃ p : Bool, ((r = (bool p)) ∧ (K (bool p) s)))) h) (K (bool false) h))) (brB c (EvC Proofs.Tryd.prog w0 10 #[] (fun t u => (∃ q : Bool, ((t = (bool q)) ∧ (K (bool q) u)))) h) (K (bool false) h)))) :
  f5_5 w0 K d b e g i k m n o c a h := fun j => LP_intro (P := Proofs.Tryd.prog) (Eq.mp (by kernel_rfl) hv)

theorem f5_7_in {w0 : World} {K : Value → AH → Prop} (c : Option Addr) (d i : Nat) (k m : ByteArray) (b t : Option Addr) (u v : Nat) (a : Int) (h : AH)
  (hv : (∃ x : Addr, ((c = (some x)) ∧ (((0 : Int) ≤ a) ∧ ((a < ((d : Nat) : Int)) ∧ (∃ n : Int, (∃ o : ByteArray, (∃ p : ByteArray, (∃ q : Int, ((((Array.size #[(int .i64 n), (string o), (string p), (int .i64 q)]) = 4) ∧ (At w0 h (Addr.add x ((Int.toNat a) * 4)) [(int .i64 n), (string o), (string p), (int .i64 q)])) ∧ (EvC Proofs.Tryd.prog w0 18 #[(Value.pointer b), (slice t u v), (agg #[(int .i64 n), (string o), (string p), (int .i64 q)])] (fun A y => (∃ r : Option Addr, (∃ e : Nat, (∃ s : Nat, (∃ g : Bool, ((A = (Value.tuple #[(slice r e s), (bool g)])) ∧ (brB (!g) (f5_9 w0 K c d i k m b r e s g a true y) (EvC Proofs.Tryd.prog w0 12 #[(Value.pointer b)] (fun B C => (∃ z : Int, ((B = (int .i64 z)) ∧ (f5_9 w0 K c d i k m b r e s g a (z != ((e : Nat) : Int)) C)))) y)))))))) h))))))))))) :
  f5_7 w0 K c d i k m b t u v a h := fun j => LP_intro (P := Proofs.Tryd.prog) (Eq.mp (by kernel_rfl) hv)

theorem f5_9_in {w0 : World} {K : Value → AH → Prop} (a : Option Addr) (b c : Nat) (d e : ByteArray) (g i : Option Addr) (k m : Nat) (n : Bool) (o : Int) (p : Bool) (h : AH)
  (hv : (brB p (K (bool false) h) (f5_10 w0 K a b c d e g i k m n o h))) :
  f5_9 w0 K a b c d e g i k m n o p h := fun j => LP_intro (P := Proofs.Tryd.prog) (Eq.mp (by kernel_rfl) hv)

theorem f5_10_in {w0 : World} {K : Value → AH → Prop} (g : Option Addr) (i o : Nat) (k m : ByteArray) (b c : Option Addr) (d e : Nat) (p : Bool) (a : Int) (h : AH)
  (hv : (EvC Proofs.Tryd.prog w0 14 #[(Value.pointer b), (string k)] (fun b9 c0 => (∃ t : Option Addr, (∃ u : Nat, (∃ v : Nat, ((b9 = (slice t u v)) ∧ (EvC Proofs.Tryd.prog w0 19 #[(slice c d e), (string k)] (fun c1 c2 => (∃ x : Option Addr, (∃ y : Nat, (∃ z : Nat, ((c1 = (slice x y z)) ∧ (EvC Proofs.Tryd.prog w0 13 #[(slice t u v), (slice x y z)] (fun c3 A => (∃ B : Bool, ((c3 = (bool B)) ∧ (brB (!B) (f5_11 w0 K g i o k m b c d e p a true A) (EvC Proofs.Tryd.prog w0 21 #[(Value.pointer b), (string m)] (fun c4 c5 => (∃ C : Option Addr, (∃ D : Nat, (∃ E : Nat, ((c4 = (slice C D E)) ∧ (EvC Proofs.Tryd.prog w0 22 #[(slice c d e), (string m)] (fun c6 c7 => (∃ F : Option Addr, (∃ L : Nat, (∃ M : Nat, ((c6 = (slice F L M)) ∧ (EvC Proofs.Tryd.prog w0 20 #[(slice C D E), (slice F L M)] (fun c8 n => (∃ N : Bool, ((c8 = (bool N)) ∧ (brB (!N) (f5_11 w0 K g i o k m b c d e p a true n) (∃ r : Addr, ((g = (some r)) ∧ (((0 : Int) ≤ a) ∧ ((a < ((i : Nat) : Int)) ∧ (∃ q : Addr, ((g = (some q)) ∧ (((0 : Int) ≤ a) ∧ ((a < ((i : Nat) : Int)) ∧ ((∃ s : ByteArray, (((cellA w0 n (Addr.add (Addr.add r ((Int.toNat a) * 4)) 2)) = (some (string s))) ∧ ((EvC Proofs.Tryd.prog w0 21 #[(Value.pointer b), (string s)] (fun c9 Q => (∃ R : Option Addr, (∃ T : Nat, (∃ U : Nat, ((c9 = (slice R T U)) ∧ (∃ V : ByteArray, (((cellA w0 Q (Addr.add (Addr.add q ((Int.toNat a) * 4)) 2)) = (some (string V))) ∧ (EvC Proofs.Tryd.prog w0 22 #[(slice c d e), (string V)] (fun d0 d1 => (∃ Y : Option Addr, (∃ Z : Nat, (∃ a0 : Nat, ((d0 = (slice Y Z a0)) ∧ (EvC Proofs.Tryd.prog w0 20 #[(slice R T U), (slice Y Z a0)] (fun d2 d3 => (∃ a1 : Bool, ((d2 = (bool a1)) ∧ (f5_11 w0 K g i o k m b c d e p a (!a1) d3)))) d1)))))) Q)))))))) n) ∧ (∃ a2 : ByteArray, (((cellA w0 n (Addr.add (Addr.add q ((Int.toNat a) * 4)) 2)) = (some (string a2))) ∧ (EvC Proofs.Tryd.prog w0 21 #[(Value.pointer b), (string s)] (fun d4 d5 => (∃ a3 : Option Addr, (∃ a4 : Nat, (∃ a5 : Nat, ((d4 = (slice a3 a4 a5)) ∧ (EvC Proofs.Tryd.prog w0 22 #[(slice c d e), (string a2)] (fun d6 d7 => (∃ a6 : Option Addr, (∃ a7 : Nat, (∃ a8 : Nat, ((d6 = (slice a6 a7 a8)) ∧ (EvC Proofs.Tryd.prog w0 20 #[(slice a3 a4 a5), (slice a6 a7 a8)] (fun d8 d9 => (∃ a9 : Bool, ((d8 = (bool a9)) ∧ (f5_11 w0 K g i o k m b c d e p a (!a9) d9)))) d7)))))) d5)))))) n)))))) ∧ (∃ b0 : ByteArray, (((cellA w0 n (Addr.add (Addr.add q ((Int.toNat a) * 4)) 2)) = (some (string b0))) ∧ (∃ b1 : ByteArray, (((cellA w0 n (Addr.add (Addr.add r ((Int.toNat a) * 4)) 2)) = (some (string b1))) ∧ (EvC Proofs.Tryd.prog w0 21 #[(Value.pointer b), (string b1)] (fun e0 e1 => (∃ b2 : Option Addr, (∃ b3 : Nat, (∃ b4 : Nat, ((e0 = (slice b2 b3 b4)) ∧ (EvC Proofs.Tryd.prog w0 22 #[(slice c d e), (string b0)] (fun e2 e3 => (∃ b5 : Option Addr, (∃ b6 : Nat, (∃ b7 : Nat, ((e2 = (slice b5 b6 b7)) ∧ (EvC Proofs.Tryd.prog w0 20 #[(slice b2 b3 b4), (slice b5 b6 b7)] (fun e4 e5 => (∃ b8 : Bool, ((e4 = (bool b8)) ∧ (f5_11 w0 K g i o k m b c d e p a (!b8) e5)))) e3)))))) e1)))))) n)))))))))))))))))) c7)))))) c5)))))) A))))) c2)))))) c0)))))) h)) :
  f5_10 w0 K g i o k m b c d e p a h := fun j => LP_intro (P := Proofs.Tryd.prog) (Eq.mp (by kernel_rfl) hv)

theorem f5_11_in {w0 : World} {K : Value → AH → Prop} (a : Option Addr) (b c : Nat) (d e : ByteArray) (g i : Option Addr) (k m : Nat) (n : Bool) (o : Int) (p : Bool) (h : AH)
  (hv : (brB p (K (bool false) h) (f5_5 w0 K a b c d e g i k m n (IntKind.wrap .i64 (o + (1 : Int))) h))) :
  f5_11 w0 K a b c d e g i k m n o p h := fun j => LP_intro (P := Proofs.Tryd.prog) (Eq.mp (by kernel_rfl) hv)

theorem f5_go {w0 : World} {K : Value → AH → Prop} (b : Option Addr) (c d : Nat) (e g : ByteArray) (h : AH)
  (hv : (EvC Proofs.Tryd.prog w0 9 #[] (fun i k => (∃ a : Option Addr, ((i = (Value.pointer a)) ∧ (f5_5 w0 K b c d e g a none 0 0 (Option.isSome a) (0 : Int) k)))) h)) :
  EvC Proofs.Tryd.prog w0 5 ([(.slice b c d), (.string e), (.string g)]).toArray K h := EvC_intro (P := Proofs.Tryd.prog) f5_J (Eq.mp (by kernel_rfl) hv)
/-! ### TriePlays -/
section
variable {w0 : World} {K : Value → AH → Prop} {h : AH} {B : List (Nat × AB)} {S : List Sb} {a8 : Option Addr} {c8 : Nat} {c n : ByteArray} {D : TD}
theorem own_move {X Y : List (Nat × AB)} (w : Own w0 h (X ++ D.own (Y ++ B))) : Own w0 h (Y ++ (X ++ D.own B)) := w.perm (by
  classical
  rw [List.perm_iff_count]; intro z
  simp only [TD.own, TD.rest, List.count_append, List.count_cons]
  omega)
theorem own_back {X Y Z : List (Nat × AB)} (w : Own w0 h (Z ++ (Y ++ (X ++ D.own B)))) : Own w0 h (D.own (Y ++ B)) := by
  have : Own w0 h ((Z ++ X) ++ D.own (Y ++ B)) := w.perm (by
    classical
    rw [List.perm_iff_count]; intro z
    simp only [TD.own, TD.rest, List.count_append, List.count_cons]
    omega)
  exact this.drop
theorem second22 (v8 : SlV 3 a8 S.length c8 (sbs S)) {a1 : Option Addr} {k1 : Nat} (v1 : SlV 2 a1 (listS c S).length k1 (prs (listS c S))) (w : Own w0 h (slB a1 (prs (listS c S)) (k1 * 2) ++ D.own (slB a8 (sbs S) (c8 * 3) ++ B))) (hS : S.length ≤ 1000)
    (hk : ∀ h', Own w0 h' (D.own (slB a8 (sbs S) (c8 * 3) ++ B)) → K (.bool true) h') :
    EvC Go.Proofs.Tryd.prog w0 22 #[.slice a8 S.length c8, .string c] (fun x h => ∃ (p : Option Addr) (n k : Nat), x = .slice p n k ∧ EvC Go.Proofs.Tryd.prog w0 20 #[.slice a1 (listS c S).length k1, .slice p n k] K h) h := by
  have le := listS_le c S
  refine f22_spec v8 (own_move w) (by omega) fun h2 a2 c2 v2 w2 => ⟨_, _, _, rfl, f20_same (by omega) ?_ (v2.rd (cs := []) w2) (hk h2 (own_back w2))⟩
  exact v1.rd (cs := slB a2 (prs (listS c S)) (c2 * 2) ++ slB a8 (sbs S) (c8 * 3)) (by rw [List.append_assoc]; exact w2)
theorem cmpList (r : Rep S D) (v8 : SlV 3 a8 S.length c8 (sbs S)) (w : Own w0 h (D.own (slB a8 (sbs S) (c8 * 3) ++ B))) (hS : S.length ≤ 1000)
    (hk : ∀ h', Own w0 h' (D.own (slB a8 (sbs S) (c8 * 3) ++ B)) → K (.bool true) h') :
    EvC Go.Proofs.Tryd.prog w0 21 #[.pointer (some ⟨D.tb, 0, none⟩), .string c] (fun x h => ∃ (p : Option Addr) (n k : Nat), x = .slice p n k ∧ EvC Go.Proofs.Tryd.prog w0 22 #[.slice a8 S.length c8, .string c] (fun x h => ∃ (p2 : Option Addr) (n2 k2 : Nat), x = .slice p2 n2 k2 ∧ EvC Go.Proofs.Tryd.prog w0 20 #[.slice p n k, .slice p2 n2 k2] K h) h) h :=
  f21_spec r w (by omega) fun h1 a1 k1 v1 w1 => ⟨_, _, _, rfl, second22 v8 v1 w1 hS hk⟩
theorem cmpMatch (T : TabOk w0) (r : Rep S D) (v8 : SlV 3 a8 S.length c8 (sbs S)) (w : Own w0 h (D.own (slB a8 (sbs S) (c8 * 3) ++ B))) (hS : S.length ≤ 1000)
    (hk : ∀ h', Own w0 h' (D.own (slB a8 (sbs S) (c8 * 3) ++ B)) → K (.bool true) h') :
    EvC Go.Proofs.Tryd.prog w0 14 #[.pointer (some ⟨D.tb, 0, none⟩), .string n] (fun x h => ∃ (p : Option Addr) (m k : Nat), x = .slice p m k ∧ EvC Go.Proofs.Tryd.prog w0 19 #[.slice a8 S.length c8, .string n] (fun x h => ∃ (p2 : Option Addr) (n2 k2 : Nat), x = .slice p2 n2 k2 ∧ EvC Go.Proofs.Tryd.prog w0 13 #[.slice p m k, .slice p2 n2 k2] K h) h) h := by
  have le := match_le n S
  refine f14_spec T r w (by omega) fun h1 a1 k1 v1 w1 => ⟨_, _, _, rfl, f19_spec v8 (own_move w1) (by omega) fun h2 a2 c2 v2 w2 => ⟨_, _, _, rfl, f13_same (by omega) ?_ (v2.rd (cs := []) w2) (hk h2 (own_back w2))⟩⟩
  exact v1.rd (cs := slB a2 (prs (matchS n S)) (c2 * 2) ++ slB a8 (sbs S) (c8 * 3)) (by rw [List.append_assoc]; exact w2)
theorem f5_spec {a : Option Addr} {cp : Nat} {l : List Cl} (T : TabOk w0) (hr : Rd0 w0 a (l.flatMap Cl.cells)) (hl : l.length ≤ 140737488355328) (hk : ∀ h', K (.bool true) h') : EvC Go.Proofs.Tryd.prog w0 5 #[.slice a l.length cp, .string n, .string c] K (fun _ => none) := by
  have fin : ∀ h X, Own w0 h X → EvC Go.Proofs.Tryd.prog w0 10 #[] (fun x h29 => ∃ t : Bool, x = .bool t ∧ K (.bool t) h29) h := fun h X w => f10_spec T w fun h6 => ⟨_, rfl, hk h6⟩
  refine f5_go _ _ _ _ _ _ (f9_spec Own.nil fun h0 D0 r0 w0' => ⟨_, rfl, ?_⟩)
  have loop : ∀ (k i : Nat), i + k = min l.length 100 → ∀ (S : List Sb) (D : TD) (a8 : Option Addr) (n8 c8 : Nat) (h : AH), Rep S D → D.tb = D0.tb → S.length ≤ i → n8 = S.length → SlV 3 a8 n8 c8 (sbs S) → Own w0 h (D.own (slB a8 (sbs S) (c8 * 3) ++ [])) →
      f5_5 w0 K a l.length cp n c (some ⟨D0.tb, 0, none⟩) a8 n8 c8 true ((i : Nat) : Int) h := fun k => by
    induction k with
    | zero =>
      intro i hi S D a8 n8 c8 h r et lo en v w
      refine f5_5_in _ _ _ _ _ _ _ _ _ _ _ _ (brB_of (fun z => brB_of (fun z2 => ?_) fun _ => brB_of (fun _ => fin h _ w) fun z => by cases z) fun _ => brB_of (fun _ => fin h _ w) fun z => by cases z)
      have z := of_decide_eq_true z
      have z2 := of_decide_eq_true z2
      omega
    | succ k ih =>
      intro i hi S D a8 n8 c8 h r et lo en v w
      subst en
      have il : i < l.length := by omega
      have gi : l[i]? = some (l[i]'il) := List.getElem?_eq_getElem _
      generalize l[i]'il = x at gi
      have row : ∀ h, ∃ ad, a = some ad ∧ At w0 h (Addr.add ad ((Int.toNat ((i : Nat) : Int)) * 4)) x.cells := fun h => rowLoad (enc := Cl.cells) (k := 4) (fun _ => rfl) (by decide) (hr.rd h) gi
      obtain ⟨ad, had, hat⟩ := row h
      have cc : ∀ h, cellA w0 h (Addr.add (Addr.add ad ((Int.toNat ((i : Nat) : Int)) * 4)) 2) = some (.string x.c) := fun h => by
        obtain ⟨ad2, had2, hat2⟩ := row h
        rw [had] at had2
        injection had2 with had2
        rw [had2]
        exact hat2 2 _ rfl
      have pl := playS_le (f := x.f) (c := x.c) (q := x.q) x.d S
      refine f5_5_in _ _ _ _ _ _ _ _ _ _ _ _ (brB_of (fun _ => brB_of (fun _ => f5_7_in _ _ _ _ _ _ _ _ _ _ _ ⟨ad, had, by omega, by omega, x.d, x.f, x.c, x.q, ⟨rfl, hat⟩, ?_⟩) fun z => by have := of_decide_eq_false z; omega) fun z => by have := of_decide_eq_false z; omega)
      rw [← et]
      refine f18_spec T r v (own_move (X := []) w) (by omega) fun h1 D1 a1 c1 r1 e1 v1 w1 => ⟨_, _, _, _, rfl, brB_of (fun z => by cases z) fun _ => ?_⟩
      have w1' : Own w0 h1 (D1.own (slB a1 (sbs (playS x.d x.f x.c x.q S)) (c1 * 3) ++ [])) := own_mid (Y := []) w1
      rw [← e1]
      refine f12_spec r1 w1' (by omega) fun h2 w2 => ⟨_, rfl, f5_9_in _ _ _ _ _ _ _ _ _ _ _ _ _ (brB_of (fun z => by simp at z) fun _ => f5_10_in _ _ _ _ _ _ _ _ _ _ _ _ ?_)⟩
      have nx : ∀ h3, Own w0 h3 (D1.own (slB a1 (sbs (playS x.d x.f x.c x.q S)) (c1 * 3) ++ [])) → f5_11 w0 K a l.length cp n c (some ⟨D1.tb, 0, none⟩) a1 (playS x.d x.f x.c x.q S).length c1 true ((i : Nat) : Int) false h3 := fun h3 w3 => by
        refine f5_11_in _ _ _ _ _ _ _ _ _ _ _ _ _ (brB_of (fun z => by cases z) fun _ => ?_)
        rw [wrapS (by omega), e1, et]
        exact ih (i + 1) (by omega) _ D1 a1 _ c1 h3 r1 (e1.trans et) (by omega) rfl v1 w3
      have s1000 : (playS x.d x.f x.c x.q S).length ≤ 1000 := by omega
      refine cmpMatch T r1 v1 w2 s1000 fun h3 w3 => ⟨_, rfl, brB_of (fun z => by cases z) fun _ => cmpList r1 v1 w3 s1000 fun h4 w4 => ⟨_, rfl, brB_of (fun z => by cases z) fun _ => ⟨ad, had, by omega, by omega, ad, had, by omega, by omega, ?_⟩⟩⟩
      have last : ∀ h5, Own w0 h5 (D1.own (slB a1 (sbs (playS x.d x.f x.c x.q S)) (c1 * 3) ++ [])) → ∃ t : Bool, Value.bool true = .bool t ∧ f5_11 w0 K a l.length cp n c (some ⟨D1.tb, 0, none⟩) a1 (playS x.d x.f x.c x.q S).length c1 true ((i : Nat) : Int) (!t) h5 := fun h5 w5 => ⟨_, rfl, nx h5 w5⟩
      refine ⟨⟨x.c, cc h4, ⟨f21_spec r1 w4 (by omega) fun h5 a5 k5 v5 w5 => ⟨_, _, _, rfl, x.c, cc h5, second22 v1 v5 w5 s1000 last⟩, x.c, cc h4, cmpList r1 v1 w4 s1000 last⟩⟩, x.c, cc h4, x.c, cc h4, cmpList r1 v1 w4 s1000 last⟩
  exact loop (min l.length 100) 0 (by omega) [] D0 none 0 0 h0 r0 rfl (by simp) rfl SlV.nil w0'
end
end Go.G.YtnmngjffebbbnaaDoor
