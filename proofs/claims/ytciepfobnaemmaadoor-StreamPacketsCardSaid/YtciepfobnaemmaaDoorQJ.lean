/- StreamPackets. -/
import Derived.Test.YtciepfobnaemmaaDoorQC
import Derived.Test.YtciepfobnaemmaaDoorPN
import Derived.Test.YtciepfobnaemmaaDoorPT
import Derived.Test.YtciepfobnaemmaaDoorProg
set_option maxRecDepth 100000
namespace Go.G.YtciepfobnaemmaaDoor
open Go.RowKit
open Value (string slice int bool agg)
def f13_J : Nat → List Nat × Nat := jOf [(4, (0 :: (2 :: (3 :: (4 :: (rn 16 9 (rn 82 63 [])))))), 0), (12, (0 :: (2 :: (3 :: (4 :: (rn 82 75 []))))), 0), (15, (0 :: (rn 11 9 (rn 59 47 (rn 82 22 [])))), 0)]

def f13_4 (w0 : World) (K : Value → AH → Prop) (a : Int) (b : Option Addr) (c d : Nat) (e : Option Addr) (g i : Nat) (k : Option Addr) (m n : Nat) (o p : Int) (h : AH) : Prop :=
  ∀ j : Nat → Value, LPk Proofs.Tryd.prog w0 (EvC Proofs.Tryd.prog w0) f13_J 13 K 4 (jv j 1 1 (.v (.int .u8 a) :: (jv j 5 3 (.v (.slice b c d) :: (.v (.slice e g i) :: (jv j 16 9 (.v (.slice k m n) :: (.v (.int .i64 o) :: (.v (.int .i64 p) :: (jv j 82 63 [])))))))))) [] h

def f13_12 (w0 : World) (K : Value → AH → Prop) (a : Int) (b : Option Addr) (c d : Nat) (e : Option Addr) (g i : Nat) (h : AH) : Prop :=
  ∀ j : Nat → Value, LPk Proofs.Tryd.prog w0 (EvC Proofs.Tryd.prog w0) f13_J 13 K 12 (jv j 1 1 (.v (.int .u8 a) :: (jv j 5 3 (.v (.slice b c d) :: (.v (.slice e g i) :: (jv j 82 75 [])))))) [] h

def f13_15 (w0 : World) (K : Value → AH → Prop) (a : Int) (b : Option Addr) (c : Bool) (h : AH) : Prop :=
  ∀ j : Nat → Value, LPk Proofs.Tryd.prog w0 (EvC Proofs.Tryd.prog w0) f13_J 13 K 15 (jv j 1 1 (.v (.int .u8 a) :: (jv j 11 9 (.v (.pointer b) :: (jv j 59 47 (.v (.bool c) :: (jv j 82 22 []))))))) [] h

theorem f13_4_in {w0 : World} {K : Value → AH → Prop} (d : Int) (e : Option Addr) (b g : Nat) (i : Option Addr) (c k : Nat) (m : Option Addr) (n U : Nat) (o a : Int) (h : AH)
  (hv : (brB (decide ((a < o))) (∃ Y : Addr, ((m = (some Y)) ∧ (((0 : Int) ≤ a) ∧ ((a < ((n : Nat) : Int)) ∧ (∃ p : Int, (∃ q : Int, (∃ r : Bool, (∃ s : ByteArray, (∃ t : Option Addr, (∃ u : Nat, (∃ v : Nat, (∃ x : Int, (∃ y : Bool, (∃ z : Int, (∃ A : ByteArray, (∃ B : Bool, (∃ C : Int, (∃ D : Bool, (∃ E : Bool, (∃ F : Int, (∃ G : Option Addr, (∃ L : Nat, (∃ M : Nat, (∃ N : Option Addr, (∃ Q : Nat, (∃ R : Nat, ((((Array.size #[(int .i64 p), (int .i64 q), (bool r), (string s), (slice t u v), (int .i64 x), (bool y), (int .i64 z), (string A), (bool B), (int .i64 C), (bool D), (bool E), (int .i64 F), (slice G L M), (slice N Q R)]) = 16) ∧ (At w0 h (Addr.add Y ((Int.toNat a) * 16)) [(int .i64 p), (int .i64 q), (bool r), (string s), (slice t u v), (int .i64 x), (bool y), (int .i64 z), (string A), (bool B), (int .i64 C), (bool D), (bool E), (int .i64 F), (slice G L M), (slice N Q R)])) ∧ (brB (decide (((20 : Int) ≤ a))) (f13_12 w0 K d e b g i c k h) (EvC Proofs.Tryd.prog w0 18 #[(agg #[(int .i64 p), (int .i64 q), (bool r), (string s), (slice t u v), (int .i64 x), (bool y), (int .i64 z), (string A), (bool B), (int .i64 C), (bool D), (bool E), (int .i64 F), (slice G L M), (slice N Q R)])] (fun a1 V => (∃ Z : Option Addr, (∃ T : Nat, (∃ a2 : Nat, (∃ a0 : Int, ((a1 = (Value.tuple #[(slice Z T a2), (int .i64 a0)])) ∧ (brB (a0 == (0 : Int)) (rowsOf w0 V 1 Z T (fun a3 => (App w0 V 1 1 e b g T a3 (fun a4 a5 a6 => (App w0 a6 16 184 i c k 1 [(int .i64 p), (int .i64 q), (bool r), (string s), (slice t u v), (int .i64 x), (bool y), (int .i64 z), (string A), (bool B), (int .i64 C), (bool D), (bool E), (int .i64 F), (slice G L M), (slice N Q R)] (fun a7 a8 a9 => (f13_4 w0 K d a4 (b + T) a5 a7 (c + 1) a8 m n U o (IntKind.wrap .i64 (a + (1 : Int))) a9))))))) (f13_4 w0 K d e b g i c k m n U o (IntKind.wrap .i64 (a + (1 : Int))) V)))))))) h))))))))))))))))))))))))))))) (f13_12 w0 K d e b g i c k h))) :
  f13_4 w0 K d e b g i c k m n U o a h := fun j => LP_intro (P := Proofs.Tryd.prog) (Eq.mp (by kernel_rfl) hv)

theorem f13_12_in {w0 : World} {K : Value → AH → Prop} (b : Int) (c : Option Addr) (d e : Nat) (g : Option Addr) (i k : Nat) (h : AH)
  (hv : (EvC Proofs.Tryd.prog w0 26 #[] (fun u v => (∃ a : Option Addr, ((u = (Value.pointer a)) ∧ (EvC Proofs.Tryd.prog w0 27 #[(Value.pointer a), (slice c d e)] (fun x m => (∃ n : Option Addr, (∃ o : Nat, (∃ p : Nat, (∃ q : Int, ((x = (Value.tuple #[(slice n o p), (int .i64 q)])) ∧ (brB (q != (0 : Int)) (f13_15 w0 K b a true m) (EvC Proofs.Tryd.prog w0 29 #[(slice n o p), (slice g i k)] (fun y r => (∃ s : Bool, ((y = (bool s)) ∧ (brB (!s) (f13_15 w0 K b a true r) (EvC Proofs.Tryd.prog w0 30 #[(Value.pointer a)] (fun z A => (∃ t : Int, ((z = (int .i64 t)) ∧ (f13_15 w0 K b a (t != (0 : Int)) A)))) r))))) m)))))))) v)))) h)) :
  f13_12 w0 K b c d e g i k h := fun j => LP_intro (P := Proofs.Tryd.prog) (Eq.mp (by kernel_rfl) hv)

theorem f13_15_in {w0 : World} {K : Value → AH → Prop} (a : Int) (b : Option Addr) (d : Bool) (h : AH)
  (hv : (brB d (K (bool false) h) (newB w0 h (AB.cells [(int .u8 a)] (List.length [(int .u8 a)])) (fun n o => (EvC Proofs.Tryd.prog w0 27 #[(Value.pointer b), (slice (some (Addr.mk n 0 none)) 1 1)] (fun p c => (∃ q : Option Addr, (∃ e : Nat, (∃ r : Nat, (∃ g : Int, ((p = (Value.tuple #[(slice q e r), (int .i64 g)])) ∧ (brB (g == (0 : Int)) (brB (((e : Nat) : Int) == (0 : Int)) (EvC Proofs.Tryd.prog w0 30 #[(Value.pointer b)] (fun s i => (∃ k : Int, ((s = (int .i64 k)) ∧ (brB (k == (1 : Int)) (EvC Proofs.Tryd.prog w0 31 #[] (fun t u => (∃ m : Bool, ((t = (bool m)) ∧ (K (bool m) u)))) i) (K (bool false) i))))) c) (K (bool false) c)) (K (bool false) c)))))))) o))))) :
  f13_15 w0 K a b d h := fun j => LP_intro (P := Proofs.Tryd.prog) (Eq.mp (by kernel_rfl) hv)

theorem f13_go {w0 : World} {K : Value → AH → Prop} (b : Option Addr) (a c : Nat) (d : Int) (h : AH)
  (hv : (f13_4 w0 K d none 0 0 none 0 0 b a c ((a : Nat) : Int) (0 : Int) h)) :
  EvC Proofs.Tryd.prog w0 13 ([(.slice b a c), (.int .u8 d)]).toArray K h := EvC_intro (P := Proofs.Tryd.prog) f13_J (Eq.mp (by kernel_rfl) hv)
/-! ### StreamPackets -/
theorem whole_enc {k : Pk} (h : MayK k) (rest : List UInt8) : wholeL (encP k ++ rest) = ((encP k).length, 0) := by
  have rl := rest_le h
  unfold encP
  rw [List.cons_append, whole_cons, List.append_assoc, len_put (by omega)]
  dsimp only
  rw [if_neg (by decide), if_neg (fun z => z rfl), if_neg (by omega), if_neg (by simp only [List.length_append]; omega)]
  congr 1
  rw [List.length_cons, List.length_append]; omega
theorem feed_encs : ∀ (ks : List Pk) (f : Nat), (∀ k ∈ ks, MayK k) → (ks.flatMap encP).length ≤ f → feedF f (ks.flatMap encP) = (ks, 0, [])
  | [], 0, _, _ => rfl
  | [], _ + 1, _, _ => rfl
  | k :: ks, f, hm, hl => by
    have h := hm k (List.mem_cons_self ..)
    have ge := enc_two h
    rw [List.flatMap_cons, List.length_append] at hl
    cases f with
    | zero => omega
    | succ f =>
      have ih := feed_encs ks f (fun x hx => hm x (List.mem_cons_of_mem _ hx)) (by omega)
      rw [List.flatMap_cons, feedF, whole_enc h]
      dsimp only
      rw [if_neg (fun z => z rfl), if_neg (by omega), List.take_left' rfl, List.drop_left' rfl, enc_back h, ih]
      rfl
theorem feed_one (x : UInt8) : feedL ([] ++ [x]) = ([], 0, [x]) := rfl
theorem PkM.Ok.rdb {w0 : World} {m : PkM} (k : m.Ok w0) (h : AH) : PkRd w0 h m := ⟨k.pay.rd h, k.wants.rd h, k.codes.rd h, k.wl, k.kl⟩
section
variable {w0 : World} {K : Value → AH → Prop} {c : Nat}
theorem f13_15s {h : AH} {B : List (Nat × AB)} {s : Nat} {p : Option Addr} {d : Nat} {x : UInt8} (T : TabOk w0) (v : SlV 1 p ([] : List UInt8).length d (u8s [])) (w : Own w0 h (stB s p ([] : List UInt8).length d false :: (slB p (u8s []) (d * 1) ++ B))) (hk : ∀ h', K (.bool true) h') : f13_15 w0 K ((x.toNat : Nat) : Int) (some ⟨s, 0, none⟩) false h := by
  refine f13_15_in _ _ _ _ (brB_of (fun z => by cases z) fun _ => fun b hb hn => ?_)
  have w2 := Own.new (o := .cells (u8s [x]) 1) w hb hn
  have w3 : Own w0 _ (stB s p ([] : List UInt8).length d false :: (slB p (u8s []) (d * 1) ++ ((b, .cells (u8s [x]) 1) :: B))) := w2.perm (by
    classical
    rw [List.perm_iff_count]
    intro t
    simp only [List.count_append, List.count_cons]
    omega)
  refine f27_spec (buf := []) (x := [x]) T v w3 (lit_rdr rfl (by decide)) (sing_sub (List.mem_cons_self ..)) (by simp) fun h4 a4 c4 ms p4 d4 ek v4 vp w4 => ?_
  rw [feed_one] at ek vp w4 ⊢
  have m0 : ms = [] := by simpa using ek
  subst m0
  exact ⟨_, _, _, _, rfl, brB_of (fun _ => brB_of (fun _ => f30_spec w4 ⟨_, rfl, brB_of (fun _ => f31_spec T w4 fun h' => ⟨_, rfl, hk h'⟩) fun z => by simp at z⟩) fun z => by simp at z) fun z => by simp at z⟩
theorem f13_12s {h : AH} {a5 a6 : Option Addr} {c5 c6 : Nat} {ms : List PkM} {x : UInt8} (T : TabOk w0) (hm : ∀ m ∈ ms, m.Ok w0 ∧ MayK m.key) (v5 : SlV 1 a5 ((ms.map PkM.key).flatMap encP).length c5 (u8s ((ms.map PkM.key).flatMap encP))) (v6 : SlV 16 a6 ms.length c6 (ms.flatMap PkM.cells))
    (w : Own w0 h (slB a5 (u8s ((ms.map PkM.key).flatMap encP)) (c5 * 1) ++ (slB a6 (ms.flatMap PkM.cells) (c6 * 16) ++ []))) (hl : ms.length ≤ 20) (hk : ∀ h', K (.bool true) h') :
    f13_12 w0 K ((x.toNat : Nat) : Int) a5 ((ms.map PkM.key).flatMap encP).length c5 a6 ms.length c6 h := by
  have eb : ((ms.map PkM.key).flatMap encP).length ≤ (ms.map PkM.key).length * 1003 := flatMap_le fun k hx => by
    obtain ⟨m, h1, rfl⟩ := List.mem_map.1 hx
    exact enc_le (hm m h1).2
  rw [List.length_map] at eb
  have ef : feedL ([] ++ (ms.map PkM.key).flatMap encP) = (ms.map PkM.key, 0, []) := feed_encs _ _ (fun k hx => by
    obtain ⟨m, h1, rfl⟩ := List.mem_map.1 hx
    exact (hm m h1).2) (Nat.le_refl _)
  refine f13_12_in _ _ _ _ _ _ _ _ (f26_spec w fun h1 s w1 => ⟨_, rfl, ?_⟩)
  refine f27_spec (buf := []) (p := none) (c := 0) T SlV.nil w1 (own_rdr v5 (by omega)) (List.subset_append_left ..) (by rw [List.length_nil]; omega) fun h2 a2 c2 ns p2 d2 ek v2 vp w2 => ?_
  rw [ef] at ek vp w2 ⊢
  dsimp only at ek vp w2 ⊢
  refine ⟨_, _, _, _, rfl, brB_of (fun z => by cases z) fun _ => ?_⟩
  have w2' : Own w0 h2 (stB s p2 ([] : List UInt8).length d2 false :: (slB p2 (u8s []) (d2 * 1) ++ (outP a2 c2 ns ++ (slB a5 (u8s ((ms.map PkM.key).flatMap encP)) (c5 * 1) ++ (slB a6 (ms.flatMap PkM.cells) (c6 * 16) ++ []))))) := w2
  have nl : ns.length = ms.length := by have := congrArg List.length ek; simpa using this
  have sub : ∀ {y : Nat × AB}, y ∈ outP a2 c2 ns → y ∈ (stB s p2 ([] : List UInt8).length d2 false :: (slB p2 (u8s []) (d2 * 1) ++ (outP a2 c2 ns ++ (slB a5 (u8s ((ms.map PkM.key).flatMap encP)) (c5 * 1) ++ (slB a6 (ms.flatMap PkM.cells) (c6 * 16) ++ []))))) := fun hy => List.mem_cons_of_mem _ (List.mem_append_right _ (List.mem_append_left _ hy))
  refine f29_spec (v2.rd w2' fun y hy => sub hy) (v6.rd (cs := stB s p2 ([] : List UInt8).length d2 false :: (slB p2 (u8s []) (d2 * 1) ++ (outP a2 c2 ns ++ slB a5 (u8s ((ms.map PkM.key).flatMap encP)) (c5 * 1)))) (by simpa only [List.append_assoc, List.cons_append] using w2')) (by omega) ek (v2.each_rd w2' (fun y hy => sub (List.mem_append_right _ hy)) fun k hx => ?_) (fun m hx => (hm m hx).1.rdb h2) ⟨_, rfl, brB_of (fun z => by cases z) fun _ => f30_spec w2' ⟨_, rfl, ?_⟩⟩
  · have := feedF_small ((ms.map PkM.key).flatMap encP).length ((ms.map PkM.key).flatMap encP) k
    rw [show feedF ((ms.map PkM.key).flatMap encP).length ((ms.map PkM.key).flatMap encP) = (ms.map PkM.key, 0, []) from ef] at this
    exact this (ek ▸ hx)
  · exact f13_15s T vp w2' hk
theorem f13_spec {a : Option Addr} {l : List PkM} {x : UInt8} (T : TabOk w0) (hr : Rd0 w0 a (l.flatMap PkM.cells)) (hl : l.length ≤ 140737488355328) (hok : ∀ m ∈ l, m.Ok w0) (hk : ∀ h', K (.bool true) h') : EvC Go.Proofs.Tryd.prog w0 13 #[.slice a l.length c, .int .u8 ((x.toNat : Nat) : Int)] K (fun _ => none) := by
  have loop : ∀ (n i : Nat), i + n = l.length → ∀ (ms : List PkM) (a5 a6 : Option Addr) (c5 c6 nB nM : Nat) (h : AH), nB = ((ms.map PkM.key).flatMap encP).length → nM = ms.length → ms.length ≤ i → ms.length ≤ 20 → (∀ m ∈ ms, m.Ok w0 ∧ MayK m.key) → SlV 1 a5 nB c5 (u8s ((ms.map PkM.key).flatMap encP)) → SlV 16 a6 nM c6 (ms.flatMap PkM.cells) →
      Own w0 h (slB a5 (u8s ((ms.map PkM.key).flatMap encP)) (c5 * 1) ++ (slB a6 (ms.flatMap PkM.cells) (c6 * 16) ++ [])) → f13_4 w0 K ((x.toNat : Nat) : Int) a5 nB c5 a6 nM c6 a l.length c ((l.length : Nat) : Int) ((i : Nat) : Int) h := fun n => by
    induction n with
    | zero =>
      intro i hi ms a5 a6 c5 c6 nB nM h e1 e2 h1 h2 hm v5 v6 w
      subst e1 e2
      exact f13_4_in _ _ _ _ _ _ _ _ _ _ _ _ _ (brB_of (fun z => by have := of_decide_eq_true z; omega) fun _ => f13_12s T hm v5 v6 w h2 hk)
    | succ n ih =>
      intro i hi ms a5 a6 c5 c6 nB nM h e1 e2 h1 h2 hm v5 v6 w
      have g1 : l[i]? = some l[i] := List.getElem?_eq_getElem _
      have r1 := hok _ (List.mem_of_getElem? g1)
      obtain ⟨ad, had, hat⟩ := rowLoad (enc := PkM.cells) (k := 16) (fun _ => rfl) (by decide) (hr.rd h) g1
      generalize l[i] = m at *
      have rm : ∀ {Y : List (Nat × AB)} h', Own w0 h' Y → PkRd w0 h' m := fun h' _ => r1.rdb h'
      have eb : ((ms.map PkM.key).flatMap encP).length ≤ (ms.map PkM.key).length * 1003 := flatMap_le fun k hx => by
        obtain ⟨m, h1, rfl⟩ := List.mem_map.1 hx
        exact enc_le (hm m h1).2
      rw [List.length_map] at eb
      refine f13_4_in _ _ _ _ _ _ _ _ _ _ _ _ _ (brB_of (fun _ => ⟨ad, had, by omega, by omega, _, _, _, _, _, _, _, _, _, _, _, _, _, _, _, _, _, _, _, _, _, _, ⟨rfl, hat⟩, brB_of (fun z => ?_) fun z => ?_⟩) fun z => by have := of_decide_eq_false z; omega)
      · subst e1 e2
        exact f13_12s T hm v5 v6 w h2 hk
      have z := of_decide_eq_false z
      refine f18_spec w rm (fun mk h3 a3 c3 v3 w3 => ⟨_, _, _, _, rfl, brB_of (fun _ => ?_) fun z => by cases z⟩) fun nm h3 w3 => ⟨_, _, _, _, rfl, brB_of (fun z => by cases z) fun _ => ?_⟩
      · subst e1 e2
        have le := enc_le mk
        refine rowsOf_of (v3.rd (cs := []) w3) (by rw [u8s_length]; omega) ?_
        refine App_bytes v5 w3.front (by omega) fun a7 c7 h7 v7 w7 => ?_
        have w8 := Own.front (cs := slB a7 (u8s ((ms.map PkM.key).flatMap encP ++ encP m.key)) (c7 * 1)) (ds := slB a6 (ms.flatMap PkM.cells) (c6 * 16)) (bs := []) (Own.cut w7)
        refine App_slB v6 w8 (by omega) (by omega) rfl (pk_cell m) fun a9 c9 h9 v9 w9 => ?_
        have e3 : (ms ++ [m]).flatMap PkM.cells = ms.flatMap PkM.cells ++ m.cells := by rw [List.flatMap_append, List.flatMap_cons, List.flatMap_nil, List.append_nil]
        have e4 : ((ms ++ [m]).map PkM.key).flatMap encP = (ms.map PkM.key).flatMap encP ++ encP m.key := by rw [List.map_append, List.flatMap_append]; simp
        rw [wrapS (by omega)]
        refine ih (i + 1) (by omega) (ms ++ [m]) a7 a9 c7 c9 _ _ h9 (by rw [e4, List.length_append]) (by rw [List.length_append, List.length_singleton]) (by rw [List.length_append, List.length_singleton]; omega) (by rw [List.length_append, List.length_singleton]; omega) (fun y hy => ?_) (by rw [e4, ← List.length_append]; exact v7) (by rw [e3]; exact v9) (by rw [e3, e4]; exact w9.front)
        rcases List.mem_append.1 hy with hy | hy
        · exact hm y hy
        · rw [List.mem_singleton] at hy; subst hy; exact ⟨r1, mk⟩
      · rw [wrapS (by omega)]
        exact ih (i + 1) (by omega) ms a5 a6 c5 c6 nB nM h3 e1 e2 (by omega) h2 hm v5 v6 w3
  exact f13_go _ _ _ _ _ (loop l.length 0 (by omega) [] none none 0 0 0 0 _ rfl rfl (Nat.le_refl _) (by simp) (fun _ h => by cases h) SlV.nil SlV.nil Own.nil)
theorem f13_specI {a : Option Addr} {l : List PkM} {x : Int} (hx : 0 ≤ x ∧ x ≤ 255) (T : TabOk w0) (hr : Rd0 w0 a (l.flatMap PkM.cells)) (hl : l.length ≤ 140737488355328) (hok : ∀ m ∈ l, m.Ok w0) (hk : ∀ h', K (.bool true) h') : EvC Go.Proofs.Tryd.prog w0 13 #[.slice a l.length c, .int .u8 x] K (fun _ => none) := by
  obtain ⟨n, rfl, hn⟩ := nat_of hx
  have := f13_spec (x := UInt8.ofNat n) (c := c) T hr hl hok hk
  rwa [UInt8.toNat_ofNat', Nat.mod_eq_of_lt (by omega)] at this
end
end Go.G.YtciepfobnaemmaaDoor
