/- PacketBack. -/
import Derived.Test.YtciepfobnaemmaaDoorQC
import Derived.Test.YtciepfobnaemmaaDoorLB
import Derived.Test.YtciepfobnaemmaaDoorProg
set_option maxRecDepth 100000
namespace Go.G.YtciepfobnaemmaaDoor
open Go.RowKit
open Value (string slice int bool agg)
def f6_J : Nat → List Nat × Nat := jOf [(2, [0, 3, 4, 5, 6, 7, 8, 9, 10, 11, 12, 13, 14, 15, 16, 17, 19, 20, 21, 22, 23, 24, 25, 26, 27, 28, 29, 30, 31, 32, 33, 34, 35, 36, 37, 38, 39, 40, 41, 42, 43, 44, 45, 46, 47, 48, 49, 50, 51, 52, 53, 54, 55, 56, 57, 58, 59, 60, 61, 62, 63, 64, 65], 1), (3, [0, 3, 4, 5, 6, 7, 8, 9, 10, 11, 12, 13, 14, 15, 16, 17, 18, 19, 20, 21, 22, 23, 24, 25, 26, 27, 28, 29, 30, 31, 32, 33, 34, 35, 36, 37, 38, 39, 40, 41, 42, 43, 44, 45, 46, 47, 48, 49, 50, 51, 52, 53, 54, 55, 56, 57, 58, 59, 60, 61, 62, 63, 64, 65], 1), (6, [0, 2, 3, 4, 6, 7, 8, 9, 10, 11, 12, 13, 14, 15, 16, 17, 18, 19, 20, 21, 22, 23, 24, 25, 26, 27, 28, 29, 30, 31, 32, 33, 34, 35, 36, 37, 38, 39, 40, 41, 42, 43, 44, 45, 47, 48, 49, 50, 51, 52, 53, 54, 55, 56, 57, 58, 59, 60, 61, 62, 63, 64, 65], 0), (7, [0, 2, 3, 4, 6, 7, 8, 9, 10, 11, 12, 13, 14, 15, 16, 17, 18, 19, 20, 21, 22, 23, 24, 25, 26, 27, 28, 29, 30, 31, 32, 33, 34, 35, 36, 37, 38, 39, 40, 41, 42, 43, 44, 45, 46, 47, 48, 49, 50, 51, 52, 53, 54, 55, 56, 57, 58, 59, 60, 61, 62, 63, 64, 65], 0)]

def f6_2 (w0 : World) (K : Value → AH → Prop) (a : Int) (b : Bool) (c d : Int) (e : Bool) (g : ByteArray) (i : Option Addr) (k m : Nat) (n : Int) (o : Bool) (p : Int) (q : ByteArray) (r : Bool) (s : Int) (t u : Bool) (x : Int) (y : Option Addr) (z A : Nat) (B : Option Addr) (C D : Nat) (h : AH) : Prop :=
  ∀ j : Nat → Value, LPk Proofs.Tryd.prog w0 (EvC Proofs.Tryd.prog w0) f6_J 6 K 2 (jv j 1 1 (.v (.int .i64 a) :: (.bp 0 0 :: (jv j 18 15 (.v (.bool b) :: (jv j 66 47 [])))))) [some [(.int .i64 c), (.int .i64 d), (.bool e), (.string g), (.slice i k m), (.int .i64 n), (.bool o), (.int .i64 p), (.string q), (.bool r), (.int .i64 s), (.bool t), (.bool u), (.int .i64 x), (.slice y z A), (.slice B C D)]] h

def f6_3 (w0 : World) (K : Value → AH → Prop) (a b c : Int) (d : Bool) (e : ByteArray) (g : Option Addr) (i k : Nat) (m : Int) (n : Bool) (o : Int) (p : ByteArray) (q : Bool) (r : Int) (s t : Bool) (u : Int) (x : Option Addr) (y z : Nat) (A : Option Addr) (B C : Nat) (h : AH) : Prop :=
  ∀ j : Nat → Value, LPk Proofs.Tryd.prog w0 (EvC Proofs.Tryd.prog w0) f6_J 6 K 3 (jv j 1 1 (.v (.int .i64 a) :: (.bp 0 0 :: (jv j 66 63 [])))) [some [(.int .i64 b), (.int .i64 c), (.bool d), (.string e), (.slice g i k), (.int .i64 m), (.bool n), (.int .i64 o), (.string p), (.bool q), (.int .i64 r), (.bool s), (.bool t), (.int .i64 u), (.slice x y z), (.slice A B C)]] h

def f6_6 (w0 : World) (K : Value → AH → Prop) (a : Int) (b : Option Addr) (c d : Nat) (e : Bool) (h : AH) : Prop :=
  ∀ j : Nat → Value, LPk Proofs.Tryd.prog w0 (EvC Proofs.Tryd.prog w0) f6_J 6 K 6 (jv j 1 1 (.v (.int .i64 a) :: (jv j 5 3 (.v (.slice b c d) :: (jv j 46 40 (.v (.bool e) :: (jv j 66 19 []))))))) [] h

def f6_7 (w0 : World) (K : Value → AH → Prop) (a : Int) (b : Option Addr) (c d : Nat) (h : AH) : Prop :=
  ∀ j : Nat → Value, LPk Proofs.Tryd.prog w0 (EvC Proofs.Tryd.prog w0) f6_J 6 K 7 (jv j 1 1 (.v (.int .i64 a) :: (jv j 5 3 (.v (.slice b c d) :: (jv j 66 60 []))))) [] h

theorem f6_2_in {w0 : World} {K : Value → AH → Prop} (a : Int) (b : Bool) (c d : Int) (e : Bool) (g : ByteArray) (i : Option Addr) (k m : Nat) (n : Int) (o : Bool) (p : Int) (q : ByteArray) (r : Bool) (s : Int) (t u : Bool) (v : Int) (x : Option Addr) (y z : Nat) (A : Option Addr) (B C : Nat) (h : AH)
  (hv : (brB b (EvC Proofs.Tryd.prog w0 17 #[] (fun E F => (∃ D : Bool, ((E = (bool D)) ∧ (K (bool D) F)))) h) (f6_3 w0 K a c d e g i k m n o p q r s t u v x y z A B C h))) :
  f6_2 w0 K a b c d e g i k m n o p q r s t u v x y z A B C h := fun j => LP_intro (P := Proofs.Tryd.prog) (Eq.mp (by kernel_rfl) hv)

theorem f6_3_in {w0 : World} {K : Value → AH → Prop} (d e g : Int) (i : Bool) (k : ByteArray) (m : Option Addr) (n o : Nat) (p : Int) (q : Bool) (r : Int) (s : ByteArray) (t : Bool) (u : Int) (v x : Bool) (y : Int) (z : Option Addr) (A B : Nat) (C : Option Addr) (D E : Nat) (h : AH)
  (hv : (EvC Proofs.Tryd.prog w0 22 #[(agg #[(int .i64 e), (int .i64 g), (bool i), (string k), (slice m n o), (int .i64 p), (bool q), (int .i64 r), (string s), (bool t), (int .i64 u), (bool v), (bool x), (int .i64 y), (slice z A B), (slice C D E)])] (fun b5 b6 => (∃ b : Option Addr, (∃ a : Nat, (∃ c : Nat, (∃ G : Int, ((b5 = (Value.tuple #[(slice b a c), (int .i64 G)])) ∧ (EvC Proofs.Tryd.prog w0 14 #[(slice b a c)] (fun b7 F => (∃ L : Int, (∃ M : Int, (∃ N : Bool, (∃ Q : ByteArray, (∃ R : Option Addr, (∃ T : Nat, (∃ U : Nat, (∃ V : Int, (∃ Y : Bool, (∃ Z : Int, (∃ a0 : ByteArray, (∃ a1 : Bool, (∃ a2 : Int, (∃ a3 : Bool, (∃ a4 : Bool, (∃ a5 : Int, (∃ a6 : Option Addr, (∃ a7 : Nat, (∃ a8 : Nat, (∃ a9 : Option Addr, (∃ b0 : Nat, (∃ b1 : Nat, (∃ b2 : Int, ((b7 = (Value.tuple #[(agg #[(int .i64 L), (int .i64 M), (bool N), (string Q), (slice R T U), (int .i64 V), (bool Y), (int .i64 Z), (string a0), (bool a1), (int .i64 a2), (bool a3), (bool a4), (int .i64 a5), (slice a6 a7 a8), (slice a9 b0 b1)]), (int .i64 b2)])) ∧ (brB (G != (0 : Int)) (f6_6 w0 K d b a c true F) (brB (b2 != (0 : Int)) (f6_6 w0 K d b a c true F) (EvC Proofs.Tryd.prog w0 16 #[(agg #[(int .i64 e), (int .i64 g), (bool i), (string k), (slice m n o), (int .i64 p), (bool q), (int .i64 r), (string s), (bool t), (int .i64 u), (bool v), (bool x), (int .i64 y), (slice z A B), (slice C D E)]), (agg #[(int .i64 L), (int .i64 M), (bool N), (string Q), (slice R T U), (int .i64 V), (bool Y), (int .i64 Z), (string a0), (bool a1), (int .i64 a2), (bool a3), (bool a4), (int .i64 a5), (slice a6 a7 a8), (slice a9 b0 b1)])] (fun b8 b3 => (∃ b4 : Bool, ((b8 = (bool b4)) ∧ (brB (!b4) (f6_6 w0 K d b a c true b3) (f6_6 w0 K d b a c (decide ((((a : Nat) : Int) < (2 : Int)))) b3))))) F)))))))))))))))))))))))))))) b6))))))) h)) :
  f6_3 w0 K d e g i k m n o p q r s t u v x y z A B C D E h := fun j => LP_intro (P := Proofs.Tryd.prog) (Eq.mp (by kernel_rfl) hv)

theorem f6_6_in {w0 : World} {K : Value → AH → Prop} (a : Int) (b : Option Addr) (c d : Nat) (e : Bool) (h : AH)
  (hv : (brB e (K (bool false) h) (f6_7 w0 K a b c d h))) :
  f6_6 w0 K a b c d e h := fun j => LP_intro (P := Proofs.Tryd.prog) (Eq.mp (by kernel_rfl) hv)

theorem f6_7_in {w0 : World} {K : Value → AH → Prop} (b : Int) (d : Option Addr) (a c : Nat) (h : AH)
  (hv : (((IntKind.wrap .u64 ((a : Nat) : Int)) ≠ (0 : Int)) ∧ (((0 : Int) ≤ (IntKind.wrap .i64 (Int.tmod (IntKind.wrap .u64 b) (IntKind.wrap .u64 ((a : Nat) : Int))))) ∧ (((IntKind.wrap .i64 (Int.tmod (IntKind.wrap .u64 b) (IntKind.wrap .u64 ((a : Nat) : Int)))) ≤ ((c : Nat) : Int)) ∧ (EvC Proofs.Tryd.prog w0 14 #[(slice d (Int.toNat (IntKind.wrap .i64 (Int.tmod (IntKind.wrap .u64 b) (IntKind.wrap .u64 ((a : Nat) : Int))))) c)] (fun k e => (∃ m : Int, (∃ n : Int, (∃ o : Bool, (∃ p : ByteArray, (∃ q : Option Addr, (∃ r : Nat, (∃ s : Nat, (∃ t : Int, (∃ u : Bool, (∃ v : Int, (∃ x : ByteArray, (∃ y : Bool, (∃ z : Int, (∃ A : Bool, (∃ B : Bool, (∃ C : Int, (∃ D : Option Addr, (∃ E : Nat, (∃ F : Nat, (∃ G : Option Addr, (∃ L : Nat, (∃ M : Nat, (∃ g : Int, ((k = (Value.tuple #[(agg #[(int .i64 m), (int .i64 n), (bool o), (string p), (slice q r s), (int .i64 t), (bool u), (int .i64 v), (string x), (bool y), (int .i64 z), (bool A), (bool B), (int .i64 C), (slice D E F), (slice G L M)]), (int .i64 g)])) ∧ (brB (g == (5 : Int)) (EvC Proofs.Tryd.prog w0 17 #[] (fun N Q => (∃ i : Bool, ((N = (bool i)) ∧ (K (bool i) Q)))) e) (K (bool false) e))))))))))))))))))))))))))) h))))) :
  f6_7 w0 K b d a c h := fun j => LP_intro (P := Proofs.Tryd.prog) (Eq.mp (by kernel_rfl) hv)

theorem f6_go {w0 : World} {K : Value → AH → Prop} (a b : Int) (c : Bool) (d : ByteArray) (e : Option Addr) (g i : Nat) (k : Int) (m : Bool) (n : Int) (o : ByteArray) (p : Bool) (q : Int) (r s : Bool) (t : Int) (u : Option Addr) (v x : Nat) (y : Option Addr) (z A : Nat) (B : Int) (h : AH)
  (hv : (EvC Proofs.Tryd.prog w0 19 #[(agg #[(int .i64 a), (int .i64 b), (bool c), (string d), (slice e g i), (int .i64 k), (bool m), (int .i64 n), (string o), (bool p), (int .i64 q), (bool r), (bool s), (int .i64 t), (slice u v x), (slice y z A)])] (fun F C => (∃ D : Bool, ((F = (bool D)) ∧ (brB (!D) (f6_2 w0 K B true a b c d e g i k m n o p q r s t u v x y z A C) (EvC Proofs.Tryd.prog w0 23 #[(agg #[(int .i64 a), (int .i64 b), (bool c), (string d), (slice e g i), (int .i64 k), (bool m), (int .i64 n), (string o), (bool p), (int .i64 q), (bool r), (bool s), (int .i64 t), (slice u v x), (slice y z A)])] (fun G L => (∃ E : Bool, ((G = (bool E)) ∧ (f6_2 w0 K B (!E) a b c d e g i k m n o p q r s t u v x y z A L)))) C))))) h)) :
  EvC Proofs.Tryd.prog w0 6 ([(.agg #[(.int .i64 a), (.int .i64 b), (.bool c), (.string d), (.slice e g i), (.int .i64 k), (.bool m), (.int .i64 n), (.string o), (.bool p), (.int .i64 q), (.bool r), (.bool s), (.int .i64 t), (.slice u v x), (.slice y z A)]), (.int .i64 B)]).toArray K h := EvC_intro (P := Proofs.Tryd.prog) f6_J (Eq.mp (by kernel_rfl) hv)
/-! ### PacketBack -/
theorem own_rdr {w0 : World} {a : Option Addr} {c : Nat} {l : List UInt8} (v : SlV 1 a l.length c (u8s l)) (hl : l.length ≤ 140737488355328) : Rdr w0 (slB a (u8s l) (c * 1)) a c l := ⟨fun h' hx => by
  obtain ⟨h1, h2, h3⟩ := v
  have s : Sl w0 h' 1 a l.length c (u8s l) := by
    refine ⟨h1, h2, ?_⟩
    cases a with
    | none => exact h3
    | some ad => exact ⟨h3.1, h3.2, hx _ (List.mem_singleton_self _)⟩
  exact s.rd, v.2.1, hl⟩
theorem take_rdr {w0 : World} {R : List (Nat × AB)} {p : Option Addr} {c : Nat} {l : List UInt8} (r : Rdr w0 R p c l) {n : Nat} : Rdr w0 R p c (l.take n) :=
  ⟨fun h' hx => rd8_take (r.rd h' hx) n, Nat.le_trans (List.length_take_le' ..) r.cap, Nat.le_trans (List.length_take_le' ..) r.len⟩
theorem enc_le {k : Pk} (h : MayK k) : (encP k).length ≤ 1003 := by
  have := rest_le h
  have := (putV_len 1 (restP k).1.length (by omega)).2
  unfold encP
  rw [List.length_cons, List.length_append]
  omega
/-- A place below a length, of any number. -/
theorem u64_mod (x : Int) {n : Nat} (h : 1 ≤ n) (h2 : n ≤ 100000) : ∃ r : Nat, IntKind.i64.wrap (Int.tmod (IntKind.u64.wrap x) (IntKind.u64.wrap ((n : Nat) : Int))) = ((r : Nat) : Int) ∧ r < n := by
  have hu : 0 ≤ IntKind.u64.wrap x ∧ IntKind.u64.wrap x < 18446744073709551616 := by
    unfold IntKind.wrap; simp [IntKind.signed, IntKind.bits]; omega
  have ht : Int.tmod (IntKind.u64.wrap x) ((n : Nat) : Int) = (((IntKind.u64.wrap x).toNat % n : Nat) : Int) := by
    rw [Int.tmod_eq_emod_of_nonneg hu.1, Int.natCast_emod, Int.toNat_of_nonneg hu.1]
  have hm : (IntKind.u64.wrap x).toNat % n < n := Nat.mod_lt _ (by omega)
  rw [wrap64u (n := ((n : Nat) : Int)) (by omega) (by omega), ht, wrap64 (by omega) (by omega)]
  exact ⟨_, rfl, hm⟩
section
variable {w0 : World} {K : Value → AH → Prop} {h : AH} {R X : List (Nat × AB)} {c : Nat}
theorem dec_spec {l : List UInt8} {a : Option Addr} {n : Nat} (hn : n = l.length) (T : TabOk w0) (w : Own w0 h X) (r : Rdr w0 R a c l) (hs : R ⊆ X)
    (hk : ∀ h' m' e, (m'.key, e) = decL l → PkV m' → Own w0 h' (ownP m' ++ X) → K (.tuple #[m'.agg, .int .i64 e]) h') :
    EvC Go.Proofs.Tryd.prog w0 14 #[.slice a n c] K h := by subst hn; exact f14_spec T w r hs hk
theorem f6_spec {m : PkM} {cut : Int} (T : TabOk w0) (k : m.Ok w0) (hk : ∀ h', K (.bool true) h') : EvC Go.Proofs.Tryd.prog w0 6 #[m.agg, .int .i64 cut] K (fun _ => none) := by
  have w1 : Own w0 (fun _ => none) [] := Own.nil
  have fin : ∀ h X, Own w0 h X → EvC Go.Proofs.Tryd.prog w0 17 #[] (fun x h29 => ∃ t : Bool, x = .bool t ∧ K (.bool t) h29) h := fun h X w => f17_spec T w fun h6 _ => ⟨_, rfl, hk h6⟩
  have no : ∀ h X, Own w0 h X → f6_2 w0 K cut true m.kind m.id m.dup m.topic m.pa m.pay.length m.pc m.qos m.ret m.til m.client m.clean m.alive m.will m.present m.code m.wa m.wants.length m.wc m.ca m.codes.length m.cc h := fun h X w => f6_2_in _ _ _ _ _ _ _ _ _ _ _ _ _ _ _ _ _ _ _ _ _ _ _ _ _ (brB_of (fun _ => fin h X w) fun z => by cases z)
  refine f6_go _ _ _ _ _ _ _ _ _ _ _ _ _ _ _ _ _ _ _ _ _ _ _ _ (f19_spec (fun l => ⟨_, rfl, brB_of (fun z => by cases z) fun _ => ?_⟩) ⟨_, rfl, brB_of (fun _ => no _ _ w1) fun z => by cases z⟩)
  have rm : ∀ {Y : List (Nat × AB)} h', Own w0 h' Y → PkRd w0 h' m := fun h' _ => k.rd l h'
  refine f23_spec T w1 rm (fun hm h2 w2 => ⟨_, rfl, ?_⟩) fun _ h2 w2 => ⟨_, rfl, no _ _ w2⟩
  refine f6_2_in _ _ _ _ _ _ _ _ _ _ _ _ _ _ _ _ _ _ _ _ _ _ _ _ _ (brB_of (fun z => by cases z) fun _ => f6_3_in _ _ _ _ _ _ _ _ _ _ _ _ _ _ _ _ _ _ _ _ _ _ _ _ (f22_spec T w2 rm (fun _ h3 a c v w3 => ⟨_, _, _, _, rfl, ?_⟩) fun n => absurd hm n))
  have le := enc_le hm
  have ge := enc_two hm
  have r := own_rdr (w0 := w0) v (by omega)
  refine f14_spec T w3 r (List.subset_append_left ..) fun h4 m4 e4 em v4 w4 => ⟨_, _, _, _, _, _, _, _, _, _, _, _, _, _, _, _, _, _, _, _, _, _, _, rfl, ?_⟩
  rw [enc_back hm] at em
  have ek : m4.key = m.key := congrArg Prod.fst em
  obtain rfl : e4 = 0 := congrArg Prod.snd em
  have sm : smallP m4.key := by have := decL_small (encP m.key); rw [enc_back hm] at this; rw [ek]; exact this
  refine brB_of (fun z => by cases z) fun _ => brB_of (fun z => by cases z) fun _ => f16_spec (rm h4 w4) (v4.rd w4 (List.subset_append_left ..) sm) ek.symm ⟨_, rfl, brB_of (fun z => by cases z) fun _ => ?_⟩
  refine f6_6_in _ _ _ _ _ _ (brB_of (fun z => absurd (of_decide_eq_true z) (by omega)) fun _ => f6_7_in _ _ _ _ _ ?_)
  obtain ⟨q, eq, hq⟩ := u64_mod cut (n := (encP m.key).length) (by omega) (by omega)
  have cp := v.2.1
  rw [eq, Int.toNat_natCast]
  refine ⟨by rw [wrap64u (by omega) (by omega)]; omega, by omega, by omega, ?_⟩
  refine dec_spec (l := (encP m.key).take q) (by rw [List.length_take]; omega) T w4 (take_rdr r) (List.subset_append_of_subset_right _ (List.subset_append_left ..)) fun h5 m5 e5 em5 v5 w5 => ⟨_, _, _, _, _, _, _, _, _, _, _, _, _, _, _, _, _, _, _, _, _, _, _, rfl, ?_⟩
  rw [enc_cut hm hq] at em5
  obtain rfl : e5 = 5 := congrArg Prod.snd em5
  exact brB_of (fun _ => fin _ _ w5) fun z => by cases z
end
end Go.G.YtciepfobnaemmaaDoor
