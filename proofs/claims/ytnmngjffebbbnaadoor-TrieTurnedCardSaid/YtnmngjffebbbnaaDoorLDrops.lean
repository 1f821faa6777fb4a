/- TrieDrops. -/
import Derived.Test.YtnmngjffebbbnaaDoorU5
import Derived.Test.YtnmngjffebbbnaaDoorLT
import Derived.Test.YtnmngjffebbbnaaDoorProg
set_option maxRecDepth 100000
namespace Go.G.YtnmngjffebbbnaaDoor
open Go.RowKit
open Value (string slice int bool agg)
def f7_J : Nat → List Nat × Nat := jOf [(3, (3 :: (4 :: (5 :: (6 :: (rn 121 112 []))))), 0), (6, (0 :: (3 :: (4 :: (5 :: (6 :: (rn 121 113 [])))))), 0), (8, (0 :: (3 :: (4 :: (5 :: (6 :: (8 :: (rn 78 68 (rn 121 42 [])))))))), 0), (9, (0 :: (3 :: (4 :: (5 :: (6 :: (8 :: (rn 121 111 []))))))), 0), (12, (0 :: (3 :: (4 :: (5 :: (6 :: (8 :: (9 :: (10 :: (11 :: (rn 82 68 (rn 121 36 []))))))))))), 0), (16, (0 :: (3 :: (4 :: (5 :: (6 :: (8 :: (9 :: (10 :: (11 :: (rn 82 68 (rn 103 18 (rn 121 17 [])))))))))))), 0)]

def f7_3 (w0 : World) (K : Value → AH → Prop) (a : Option Addr) (b c : Nat) (d e : ByteArray) (g : Option Addr) (i : Int) (h : AH) : Prop :=
  ∀ j : Nat → Value, LPk Proofs.Tryd.prog w0 (EvC Proofs.Tryd.prog w0) f7_J 7 K 3 (.v (.slice a b c) :: (.v (.string d) :: (.v (.string e) :: (jv j 7 4 (.v (.pointer g) :: (.v (.int .i64 i) :: (jv j 121 112 []))))))) [] h

def f7_6 (w0 : World) (K : Value → AH → Prop) (a b : ByteArray) (c : Option Addr) (h : AH) : Prop :=
  ∀ j : Nat → Value, LPk Proofs.Tryd.prog w0 (EvC Proofs.Tryd.prog w0) f7_J 7 K 6 (jv j 1 1 (.v (.string a) :: (.v (.string b) :: (jv j 7 4 (.v (.pointer c) :: (jv j 121 113 [])))))) [] h

def f7_8 (w0 : World) (K : Value → AH → Prop) (a b : ByteArray) (c d : Option Addr) (e g : Nat) (i : Bool) (h : AH) : Prop :=
  ∀ j : Nat → Value, LPk Proofs.Tryd.prog w0 (EvC Proofs.Tryd.prog w0) f7_J 7 K 8 (jv j 1 1 (.v (.string a) :: (.v (.string b) :: (jv j 7 4 (.v (.pointer c) :: (jv j 9 1 (.v (.slice d e g) :: (jv j 78 68 (.v (.bool i) :: (jv j 121 42 [])))))))))) [] h

def f7_9 (w0 : World) (K : Value → AH → Prop) (a b : ByteArray) (c d : Option Addr) (e g : Nat) (h : AH) : Prop :=
  ∀ j : Nat → Value, LPk Proofs.Tryd.prog w0 (EvC Proofs.Tryd.prog w0) f7_J 7 K 9 (jv j 1 1 (.v (.string a) :: (.v (.string b) :: (jv j 7 4 (.v (.pointer c) :: (jv j 9 1 (.v (.slice d e g) :: (jv j 121 111 [])))))))) [] h

def f7_12 (w0 : World) (K : Value → AH → Prop) (a b : ByteArray) (c d : Option Addr) (e g : Nat) (i : Int) (k : Option Addr) (m n : Nat) (o p : Int) (h : AH) : Prop :=
  ∀ j : Nat → Value, LPk Proofs.Tryd.prog w0 (EvC Proofs.Tryd.prog w0) f7_J 7 K 12 (jv j 1 1 (.v (.string a) :: (.v (.string b) :: (jv j 7 4 (.v (.pointer c) :: (jv j 12 4 (.v (.slice d e g) :: (.v (.int .i64 i) :: (jv j 82 68 (.v (.slice k m n) :: (.v (.int .i64 o) :: (.v (.int .i64 p) :: (jv j 121 36 []))))))))))))) [] h

def f7_16 (w0 : World) (K : Value → AH → Prop) (a b : ByteArray) (c d : Option Addr) (e g : Nat) (i : Int) (k : Option Addr) (m n : Nat) (o p : Int) (q : Bool) (h : AH) : Prop :=
  ∀ j : Nat → Value, LPk Proofs.Tryd.prog w0 (EvC Proofs.Tryd.prog w0) f7_J 7 K 16 (jv j 1 1 (.v (.string a) :: (.v (.string b) :: (jv j 7 4 (.v (.pointer c) :: (jv j 12 4 (.v (.slice d e g) :: (.v (.int .i64 i) :: (jv j 82 68 (.v (.slice k m n) :: (.v (.int .i64 o) :: (.v (.int .i64 p) :: (jv j 103 18 (.v (.bool q) :: (jv j 121 17 []))))))))))))))) [] h

theorem f7_3_in {w0 : World} {K : Value → AH → Prop} (d : Option Addr) (c i : Nat) (e g : ByteArray) (b : Option Addr) (a : Int) (h : AH)
  (hv : (brB (decide ((a < ((c : Nat) : Int)))) (brB (decide ((a < (60 : Int)))) (∃ k : Addr, ((d = (some k)) ∧ (((0 : Int) ≤ a) ∧ ((a < ((c : Nat) : Int)) ∧ (∃ m : Addr, ((d = (some m)) ∧ (((0 : Int) ≤ a) ∧ ((a < ((c : Nat) : Int)) ∧ (∃ n : Addr, ((d = (some n)) ∧ (((0 : Int) ≤ a) ∧ ((a < ((c : Nat) : Int)) ∧ ((∃ o : ByteArray, (((cellA w0 h (Addr.add (Addr.add k ((Int.toNat a) * 4)) 1)) = (some (string o))) ∧ ((∃ r : ByteArray, (((cellA w0 h (Addr.add (Addr.add m ((Int.toNat a) * 4)) 2)) = (some (string r))) ∧ (∃ s : Int, (((cellA w0 h (Addr.add (Addr.add n ((Int.toNat a) * 4)) 3)) = (some (int .i64 s))) ∧ (EvC Proofs.Tryd.prog w0 11 #[(Value.pointer b), (string o), (string r), (int .i64 s)] (fun E F => (∃ L : Bool, ((E = (bool L)) ∧ (f7_3 w0 K d c i e g b (IntKind.wrap .i64 (a + (1 : Int))) F)))) h))))) ∧ (∃ t : Int, (((cellA w0 h (Addr.add (Addr.add n ((Int.toNat a) * 4)) 3)) = (some (int .i64 t))) ∧ (∃ u : ByteArray, (((cellA w0 h (Addr.add (Addr.add m ((Int.toNat a) * 4)) 2)) = (some (string u))) ∧ (EvC Proofs.Tryd.prog w0 11 #[(Value.pointer b), (string o), (string u), (int .i64 t)] (fun M N => (∃ Q : Bool, ((M = (bool Q)) ∧ (f7_3 w0 K d c i e g b (IntKind.wrap .i64 (a + (1 : Int))) N)))) h)))))))) ∧ ((∃ p : ByteArray, (((cellA w0 h (Addr.add (Addr.add m ((Int.toNat a) * 4)) 2)) = (some (string p))) ∧ ((∃ v : ByteArray, (((cellA w0 h (Addr.add (Addr.add k ((Int.toNat a) * 4)) 1)) = (some (string v))) ∧ (∃ x : Int, (((cellA w0 h (Addr.add (Addr.add n ((Int.toNat a) * 4)) 3)) = (some (int .i64 x))) ∧ (EvC Proofs.Tryd.prog w0 11 #[(Value.pointer b), (string v), (string p), (int .i64 x)] (fun R T => (∃ U : Bool, ((R = (bool U)) ∧ (f7_3 w0 K d c i e g b (IntKind.wrap .i64 (a + (1 : Int))) T)))) h))))) ∧ (∃ y : Int, (((cellA w0 h (Addr.add (Addr.add n ((Int.toNat a) * 4)) 3)) = (some (int .i64 y))) ∧ (∃ z : ByteArray, (((cellA w0 h (Addr.add (Addr.add k ((Int.toNat a) * 4)) 1)) = (some (string z))) ∧ (EvC Proofs.Tryd.prog w0 11 #[(Value.pointer b), (string z), (string p), (int .i64 y)] (fun V Y => (∃ Z : Bool, ((V = (bool Z)) ∧ (f7_3 w0 K d c i e g b (IntKind.wrap .i64 (a + (1 : Int))) Y)))) h)))))))) ∧ (∃ q : Int, (((cellA w0 h (Addr.add (Addr.add n ((Int.toNat a) * 4)) 3)) = (some (int .i64 q))) ∧ ((∃ A : ByteArray, (((cellA w0 h (Addr.add (Addr.add k ((Int.toNat a) * 4)) 1)) = (some (string A))) ∧ (∃ B : ByteArray, (((cellA w0 h (Addr.add (Addr.add m ((Int.toNat a) * 4)) 2)) = (some (string B))) ∧ (EvC Proofs.Tryd.prog w0 11 #[(Value.pointer b), (string A), (string B), (int .i64 q)] (fun a0 a1 => (∃ a2 : Bool, ((a0 = (bool a2)) ∧ (f7_3 w0 K d c i e g b (IntKind.wrap .i64 (a + (1 : Int))) a1)))) h))))) ∧ (∃ C : ByteArray, (((cellA w0 h (Addr.add (Addr.add m ((Int.toNat a) * 4)) 2)) = (some (string C))) ∧ (∃ D : ByteArray, (((cellA w0 h (Addr.add (Addr.add k ((Int.toNat a) * 4)) 1)) = (some (string D))) ∧ (EvC Proofs.Tryd.prog w0 11 #[(Value.pointer b), (string D), (string C), (int .i64 q)] (fun a3 a4 => (∃ a5 : Bool, ((a3 = (bool a5)) ∧ (f7_3 w0 K d c i e g b (IntKind.wrap .i64 (a + (1 : Int))) a4)))) h)))))))))))))))))))))) (f7_6 w0 K e g b h)) (f7_6 w0 K e g b h))) :
  f7_3 w0 K d c i e g b a h := fun j => LP_intro (P := Proofs.Tryd.prog) (Eq.mp (by kernel_rfl) hv)

theorem f7_6_in {w0 : World} {K : Value → AH → Prop} (b c : ByteArray) (a : Option Addr) (h : AH)
  (hv : (EvC Proofs.Tryd.prog w0 14 #[(Value.pointer a), (string c)] (fun t u => (∃ d : Option Addr, (∃ e : Nat, (∃ g : Nat, ((t = (slice d e g)) ∧ (EvC Proofs.Tryd.prog w0 12 #[(Value.pointer a)] (fun v x => (∃ k : Int, ((v = (int .i64 k)) ∧ (EvC Proofs.Tryd.prog w0 21 #[(Value.pointer a), (string b)] (fun y z => (∃ A : Option Addr, (∃ i : Nat, (∃ B : Nat, ((y = (slice A i B)) ∧ (EvC Proofs.Tryd.prog w0 24 #[(Value.pointer a), (string b)] (fun C m => (∃ n : Int, ((C = (int .i64 n)) ∧ (brB (n != ((i : Nat) : Int)) (f7_8 w0 K b c a d e g true m) (EvC Proofs.Tryd.prog w0 12 #[(Value.pointer a)] (fun D o => (∃ p : Int, ((D = (int .i64 p)) ∧ (brB (p != (IntKind.wrap .i64 (k - ((i : Nat) : Int)))) (f7_8 w0 K b c a d e g true o) (EvC Proofs.Tryd.prog w0 21 #[(Value.pointer a), (string b)] (fun E q => (∃ F : Option Addr, (∃ r : Nat, (∃ G : Nat, ((E = (slice F r G)) ∧ (brB (decide (((0 : Int) < ((r : Nat) : Int)))) (f7_8 w0 K b c a d e g true q) (EvC Proofs.Tryd.prog w0 24 #[(Value.pointer a), (string b)] (fun L M => (∃ s : Int, ((L = (int .i64 s)) ∧ (f7_8 w0 K b c a d e g (s != (0 : Int)) M)))) q))))))) o))))) m))))) z)))))) x)))) u)))))) h)) :
  f7_6 w0 K b c a h := fun j => LP_intro (P := Proofs.Tryd.prog) (Eq.mp (by kernel_rfl) hv)

theorem f7_8_in {w0 : World} {K : Value → AH → Prop} (a b : ByteArray) (c d : Option Addr) (e g : Nat) (i : Bool) (h : AH)
  (hv : (brB i (K (bool false) h) (f7_9 w0 K a b c d e g h))) :
  f7_8 w0 K a b c d e g i h := fun j => LP_intro (P := Proofs.Tryd.prog) (Eq.mp (by kernel_rfl) hv)

theorem f7_9_in {w0 : World} {K : Value → AH → Prop} (d a : ByteArray) (b e : Option Addr) (c g : Nat) (h : AH)
  (hv : (EvC Proofs.Tryd.prog w0 14 #[(Value.pointer b), (string a)] (fun n o => (∃ i : Option Addr, (∃ k : Nat, (∃ m : Nat, ((n = (slice i k m)) ∧ (f7_12 w0 K d a b i k m (0 : Int) e c g ((c : Nat) : Int) (0 : Int) o)))))) h)) :
  f7_9 w0 K d a b e c g h := fun j => LP_intro (P := Proofs.Tryd.prog) (Eq.mp (by kernel_rfl) hv)

theorem f7_12_in {w0 : World} {K : Value → AH → Prop} (e g : ByteArray) (i d : Option Addr) (b k : Nat) (a : Int) (m : Option Addr) (n p : Nat) (o c : Int) (h : AH)
  (hv : (brB (decide ((c < o))) (∃ u : Addr, ((m = (some u)) ∧ (((0 : Int) ≤ c) ∧ ((c < ((n : Nat) : Int)) ∧ (∃ q : ByteArray, (∃ r : Int, ((((Array.size #[(string q), (int .i64 r)]) = 2) ∧ (At w0 h (Addr.add u ((Int.toNat c) * 2)) [(string q), (int .i64 r)])) ∧ (brB (decide ((q = e))) (f7_12 w0 K e g i d b k a m n p o (IntKind.wrap .i64 (c + (1 : Int))) h) (brB (decide ((((b : Nat) : Int) ≤ a))) (f7_16 w0 K e g i d b k a m n p o c true h) (∃ v : Addr, ((d = (some v)) ∧ (((0 : Int) ≤ a) ∧ ((a < ((b : Nat) : Int)) ∧ (∃ s : ByteArray, (∃ t : Int, ((((Array.size #[(string s), (int .i64 t)]) = 2) ∧ (At w0 h (Addr.add v ((Int.toNat a) * 2)) [(string s), (int .i64 t)])) ∧ (f7_16 w0 K e g i d b k a m n p o c (!((true && (decide ((s = q)))) && (t == r))) h))))))))))))))))) (brB (a == ((b : Nat) : Int)) (EvC Proofs.Tryd.prog w0 14 #[(Value.pointer i), (string g)] (fun D E => (∃ x : Option Addr, (∃ y : Nat, (∃ z : Nat, ((D = (slice x y z)) ∧ (EvC Proofs.Tryd.prog w0 13 #[(slice d b k), (slice x y z)] (fun F A => (∃ B : Bool, ((F = (bool B)) ∧ (brB B (EvC Proofs.Tryd.prog w0 10 #[] (fun G L => (∃ C : Bool, ((G = (bool C)) ∧ (K (bool C) L)))) A) (K (bool false) A))))) E)))))) h) (K (bool false) h)))) :
  f7_12 w0 K e g i d b k a m n p o c h := fun j => LP_intro (P := Proofs.Tryd.prog) (Eq.mp (by kernel_rfl) hv)

theorem f7_16_in {w0 : World} {K : Value → AH → Prop} (a b : ByteArray) (c d : Option Addr) (e g : Nat) (i : Int) (k : Option Addr) (m n : Nat) (o p : Int) (q : Bool) (h : AH)
  (hv : (brB q (K (bool false) h) (f7_12 w0 K a b c d e g (IntKind.wrap .i64 (i + (1 : Int))) k m n o (IntKind.wrap .i64 (p + (1 : Int))) h))) :
  f7_16 w0 K a b c d e g i k m n o p q h := fun j => LP_intro (P := Proofs.Tryd.prog) (Eq.mp (by kernel_rfl) hv)

theorem f7_go {w0 : World} {K : Value → AH → Prop} (a : Option Addr) (b c : Nat) (d e : ByteArray) (h : AH)
  (hv : (EvC Proofs.Tryd.prog w0 9 #[] (fun i k => (∃ g : Option Addr, ((i = (Value.pointer g)) ∧ (f7_3 w0 K a b c d e g (0 : Int) k)))) h)) :
  EvC Proofs.Tryd.prog w0 7 ([(.slice a b c), (.string d), (.string e)]).toArray K h := EvC_intro (P := Proofs.Tryd.prog) f7_J (Eq.mp (by kernel_rfl) hv)
/-! ### TrieDrops -/
def addL (S : List Sb) : List Cl → List Sb
  | [] => S
  | x :: l => addL (addP x.c x.f x.q S) l
theorem addL_snoc (S : List Sb) (l : List Cl) (x : Cl) : addL S (l ++ [x]) = addP x.c x.f x.q (addL S l) := by
  induction l generalizing S with
  | nil => rfl
  | cons y l ih => exact ih _
theorem addL_le (l : List Cl) : ∀ S : List Sb, (addL S l).length ≤ S.length + l.length := by
  induction l with
  | nil => exact fun S => Nat.le_refl _
  | cons x l ih =>
    intro S
    have := ih (addP x.c x.f x.q S)
    have := addP_le (c := x.c) (f := x.f) (q := x.q) S
    rw [addL, List.length_cons]; omega
section
variable {w0 : World} {K : Value → AH → Prop} {c n : ByteArray}
/-- What a client that is dropped leaves. -/
theorem match_drop (e : ByteArray) {S : List Sb} (so : S.Pairwise ltS) : matchS n (withoutS c e false S) = (matchS n S).filter fun x => !(decide (x.1 = c)) := by
  have s1 := matchS_so (n := n) (withoutS_so (c := c) (f := e) (one := false) so)
  have s2 := matchS_so (n := n) so
  have s3 : (keys ((matchS n S).filter fun x => !(decide (x.1 = c)))).Pairwise ltB := by
    unfold keys at s2 ⊢
    exact s2.sublist (List.filter_sublist.map _)
  refine same_out s1 s3 fun d v => ?_
  rw [matchS_low]
  constructor
  · rintro ⟨s, hs, e1, e2, e3⟩
    obtain ⟨h1, h2⟩ := withoutS_mem.1 hs
    have nc : s.c ≠ c := fun z => h2 ⟨z, fun z => by cases z⟩
    obtain ⟨q, hq, hv⟩ := matchS_low.2 ⟨s, h1, e1, e2, e3⟩
    refine ⟨q, List.mem_filter.2 ⟨hq, ?_⟩, hv⟩
    rw [← e1, decide_eq_false nc]; rfl
  · rintro ⟨q, hq, hv⟩
    obtain ⟨h1, h2⟩ := List.mem_filter.1 hq
    have nc : d ≠ c := by simpa using h2
    obtain ⟨s, hs, e1, e2, e3⟩ := matchS_low.1 (⟨q, h1, hv⟩ : low (matchS n S) d v)
    exact ⟨s, withoutS_mem.2 ⟨hs, fun z => nc (e1.symm.trans z.1)⟩, e1, e2, e3⟩
theorem list_drop (e : ByteArray) (S : List Sb) : listS c (withoutS c e false S) = [] := by
  rw [List.eq_nil_iff_forall_not_mem]
  rintro ⟨f, q⟩ hx
  exact (withoutS_mem.1 (listS_mem.1 hx)).2 ⟨rfl, fun z => by cases z⟩
theorem without_again (e : ByteArray) (S : List Sb) : withoutS c e false (withoutS c e false S) = withoutS c e false S := by
  unfold withoutS
  rw [List.filter_filter]
  simp
theorem f7_spec {a : Option Addr} {cp : Nat} {l : List Cl} (T : TabOk w0) (hr : Rd0 w0 a (l.flatMap Cl.cells)) (hl : l.length ≤ 140737488355328) (hk : ∀ h', K (.bool true) h') : EvC Go.Proofs.Tryd.prog w0 7 #[.slice a l.length cp, .string c, .string n] K (fun _ => none) := by
  have fin : ∀ h X, Own w0 h X → EvC Go.Proofs.Tryd.prog w0 10 #[] (fun x h29 => ∃ t : Bool, x = .bool t ∧ K (.bool t) h29) h := fun h X w => f10_spec T w fun h6 => ⟨_, rfl, hk h6⟩
  refine f7_go _ _ _ _ _ _ (f9_spec (B := []) Own.nil fun h0 D0 r0 w0' => ⟨_, rfl, ?_⟩)
  have six : ∀ (S : List Sb) (D : TD) h, Rep S D → D.tb = D0.tb → S.length ≤ 1000 → Own w0 h (D.own []) → f7_6 w0 K c n (some ⟨D0.tb, 0, none⟩) h := fun S D h r et hS w => by
    rw [← et]
    have le := listS_le c S
    have lw := list_without (c := c) ⟨#[]⟩ S
    have lm := match_le n S
    refine f7_6_in _ _ _ _ (f14_spec T r w (by omega) fun h1 a1 k1 v1 w1 => ⟨_, _, _, rfl, ?_⟩)
    have w1 := own_mid (Y := []) w1
    refine f12_spec r w1 (by omega) fun h2 w2 => ⟨_, rfl, f21_spec r w2 (by omega) fun h3 a3 k3 v3 w3 => ⟨_, _, _, rfl, f24_spec ⟨#[]⟩ r w3.drop (by omega) fun h4 D4 r4 e4 w4 => ⟨_, rfl, ?_⟩⟩⟩
    rw [← e4]
    refine brB_of (fun z => by simp at z) fun _ => f12_spec r4 w4 (by omega) fun h5 w5 => ⟨_, rfl, ?_⟩
    have e5 : IntKind.i64.wrap (((S.length : Nat) : Int) - (((listS c S).length : Nat) : Int)) = (((withoutS c ⟨#[]⟩ false S).length : Nat) : Int) := by rw [wrap64 (by omega) (by omega)]; omega
    rw [e5]
    have l0 := list_drop (c := c) ⟨#[]⟩ S
    refine brB_of (fun z => by simp at z) fun _ => f21_spec r4 w5 (by omega) fun h6 a6 k6 v6 w6 => ⟨_, _, _, rfl, ?_⟩
    rw [l0]
    refine brB_of (fun z => absurd z (by decide)) fun _ => f24_spec ⟨#[]⟩ r4 w6.drop (by omega) fun h7 D7 r7 e7 w7 => ⟨_, rfl, ?_⟩
    rw [l0]
    rw [without_again] at r7
    refine f7_8_in _ _ _ _ _ _ _ _ (brB_of (fun z => absurd z (by decide)) fun _ => f7_9_in _ _ _ _ _ _ _ ?_)
    rw [← e7]
    have md := match_drop (n := n) (c := c) ⟨#[]⟩ r.so
    have lf : (matchS n (withoutS c ⟨#[]⟩ false S)).length ≤ 1000 := by have := match_le n (withoutS c ⟨#[]⟩ false S); omega
    refine f14_spec T r7 w7 (by omega) fun h8 a8 k8 v8 w8 => ⟨_, _, _, rfl, ?_⟩
    have loop : ∀ (k i j : Nat), i + k = (matchS n S).length → j = (((matchS n S).take i).filter fun x => !(decide (x.1 = c))).length → f7_12 w0 K c n (some ⟨D7.tb, 0, none⟩) a8 (matchS n (withoutS c ⟨#[]⟩ false S)).length k8 ((j : Nat) : Int) a1 (matchS n S).length k1 (((matchS n S).length : Nat) : Int) ((i : Nat) : Int) h8 := fun k => by
      induction k with
      | zero =>
        intro i j hi hj
        rw [List.take_of_length_le (by omega), ← md] at hj
        subst hj
        refine f7_12_in _ _ _ _ _ _ _ _ _ _ _ _ _ (brB_of (fun z => by have := of_decide_eq_true z; omega) fun _ => brB_of (fun _ => f14_spec T r7 (own_mid (Y := []) w8) (by omega) fun h9 a9 k9 v9 w9 => ⟨_, _, _, rfl, f13_same (by omega) ?_ (v9.rd (cs := []) w9) ⟨_, rfl, brB_of (fun _ => fin h9 _ w9) fun z => by cases z⟩⟩) fun z => by simp at z)
        have w10 : Own w0 h9 (slB a8 (prs (matchS n (withoutS c ⟨#[]⟩ false S))) (k8 * 2) ++ (slB a9 (prs (matchS n (withoutS c ⟨#[]⟩ false S))) (k9 * 2) ++ D7.own (slB a1 (prs (matchS n S)) (k1 * 2) ++ []))) := w9.perm (by
          classical
          rw [List.perm_iff_count]; intro z
          simp only [TD.own, TD.rest, List.count_append, List.count_cons, List.count_nil]
          omega)
        exact v8.rd (cs := []) w10
      | succ k ih =>
        intro i j hi hj
        have gi : (matchS n S)[i]? = some ((matchS n S)[i]'(by omega)) := List.getElem?_eq_getElem _
        have tk : (matchS n S).take (i + 1) = (matchS n S).take i ++ [(matchS n S)[i]'(by omega)] := List.take_succ_eq_append_getElem (by omega)
        have dr : matchS n S = (matchS n S).take i ++ ((matchS n S)[i]'(by omega) :: (matchS n S).drop (i + 1)) := by rw [← List.drop_eq_getElem_cons (by omega), List.take_append_drop]
        have nx := ih (i + 1)
        rw [tk] at nx
        generalize (matchS n S)[i]'(by omega) = x at gi nx dr
        have r1 : Rd w0 h8 a1 (prs (matchS n S)) := by
          have w10 : Own w0 h8 (slB a1 (prs (matchS n S)) (k1 * 2) ++ (slB a8 (prs (matchS n (withoutS c ⟨#[]⟩ false S))) (k8 * 2) ++ D7.own [])) := w8.perm (by
            classical
            rw [List.perm_iff_count]; intro z
            simp only [TD.own, TD.rest, List.count_append, List.count_cons, List.append_nil, List.count_nil]
            omega)
          exact v1.rd (cs := []) w10
        obtain ⟨ad, had, hat⟩ := rowLoad (enc := prC) (k := 2) (fun _ => rfl) (by decide) r1 gi
        refine f7_12_in _ _ _ _ _ _ _ _ _ _ _ _ _ (brB_of (fun _ => ⟨ad, had, by omega, by omega, x.1, x.2, ⟨rfl, hat⟩, ?_⟩) fun z => by have := of_decide_eq_false z; omega)
        rw [List.filter_append, List.length_append] at nx
        by_cases xc : x.1 = c
        · refine brB_of (fun _ => ?_) fun z => absurd xc (of_decide_eq_false z)
          rw [wrapS (by omega)]
          refine nx j (by omega) ?_
          rw [List.filter_cons, if_neg (by simp [xc]), ← hj]; rfl
        · refine brB_of (fun z => absurd (of_decide_eq_true z) xc) fun _ => ?_
          have gj : (matchS n (withoutS c ⟨#[]⟩ false S))[j]? = some x := by
            rw [md, dr, List.filter_append, List.getElem?_append_right (by omega), List.filter_cons, if_pos (by simp [xc]), hj]
            simp
          have jl : j < (matchS n (withoutS c ⟨#[]⟩ false S)).length := (List.getElem?_eq_some_iff.1 gj).1
          obtain ⟨bd, hbd, hbt⟩ := rowLoad (enc := prC) (k := 2) (fun _ => rfl) (by decide) (v8.rd (cs := []) w8) gj
          refine brB_of (fun z => by have := of_decide_eq_true z; omega) fun _ => ⟨bd, hbd, by omega, by omega, x.1, x.2, ⟨rfl, hbt⟩, f7_16_in _ _ _ _ _ _ _ _ _ _ _ _ _ _ (brB_of (fun z => by simp at z) fun _ => ?_)⟩
          rw [wrapS (by omega), wrapS (by omega)]
          refine nx (j + 1) (by omega) ?_
          rw [List.filter_cons, if_pos (by simp [xc]), ← hj]; rfl
    exact loop (matchS n S).length 0 0 (by omega) rfl
  have loop : ∀ (k i : Nat), i + k = min l.length 60 → ∀ (D : TD) (h : AH), Rep (addL [] (l.take i)) D → D.tb = D0.tb → Own w0 h (D.own []) → f7_3 w0 K a l.length cp c n (some ⟨D0.tb, 0, none⟩) ((i : Nat) : Int) h := fun k => by
    induction k with
    | zero =>
      intro i hi D h r et w
      have le : (addL [] (l.take i)).length ≤ 1000 := by have := addL_le (l.take i) []; rw [List.length_take] at this; simp at this; omega
      exact f7_3_in _ _ _ _ _ _ _ _ (brB_of (fun z => brB_of (fun z2 => by have := of_decide_eq_true z; have := of_decide_eq_true z2; omega) fun _ => six _ D h r et le w) fun _ => six _ D h r et le w)
    | succ k ih =>
      intro i hi D h r et w
      have il : i < l.length := by omega
      have gi : l[i]? = some (l[i]'il) := List.getElem?_eq_getElem _
      have tk : l.take (i + 1) = l.take i ++ [l[i]'il] := List.take_succ_eq_append_getElem il
      have nx := ih (i + 1) (by omega)
      rw [tk, addL_snoc] at nx
      generalize l[i]'il = x at gi nx
      obtain ⟨ad, had, hat⟩ := rowLoad (enc := Cl.cells) (k := 4) (fun _ => rfl) (by decide) (hr.rd h) gi
      have c1 := hat 1 _ rfl
      have c2 := hat 2 _ rfl
      have c3 := hat 3 _ rfl
      have step : EvC Go.Proofs.Tryd.prog w0 11 #[.pointer (some ⟨D0.tb, 0, none⟩), .string x.f, .string x.c, .int .i64 x.q] (fun y h1 => ∃ t : Bool, y = .bool t ∧ f7_3 w0 K a l.length cp c n (some ⟨D0.tb, 0, none⟩) (IntKind.i64.wrap (((i : Nat) : Int) + 1)) h1) h := by
        rw [← et]
        refine f11_spec T r w fun h1 D1 r1 e1 w1 => ⟨_, rfl, ?_⟩
        rw [wrapS (by omega), et]
        exact nx D1 h1 r1 (e1.trans et) w1
      refine f7_3_in _ _ _ _ _ _ _ _ (brB_of (fun _ => brB_of (fun _ => ⟨ad, had, by omega, by omega, ad, had, by omega, by omega, ad, had, by omega, by omega, ?_⟩) fun z => by have := of_decide_eq_false z; omega) fun z => by have := of_decide_eq_false z; omega)
      repeat' first | exact step | exact ⟨_, c1, _, c2, _, c3, step⟩ | refine And.intro ?_ ?_ | refine ⟨_, c1, ?_⟩ | refine ⟨_, c2, ?_⟩ | refine ⟨_, c3, ?_⟩
  exact loop (min l.length 60) 0 (by omega) D0 h0 (by simpa [addL] using r0) rfl w0'
end
end Go.G.YtnmngjffebbbnaaDoor
