/- StreamFeeds. -/
import Derived.Test.YtciepfobnaemmaaDoorPN
import Derived.Test.YtciepfobnaemmaaDoorPT
import Derived.Test.YtciepfobnaemmaaDoorProg
set_option maxRecDepth 100000
namespace Go.G.YtciepfobnaemmaaDoor
open Go.RowKit
open Value (string slice int bool agg)
def f10_J : Nat → List Nat × Nat := jOf [(4, [1, 2, 6, 7, 8, 9, 10, 11, 12, 13, 14, 15, 16, 17, 18, 19, 20, 21, 22, 23, 24, 25, 26, 27, 28, 29, 30, 31, 32, 33, 34, 35, 36, 37, 38, 39, 40, 41, 42, 43, 44, 45, 46, 47, 48, 49, 50, 51, 52, 53, 54, 55, 56, 57, 58, 59, 60, 61, 62, 63, 64, 65, 66, 67, 68, 69, 70, 100004], 0), (6, [1, 2, 6, 7, 8, 9, 10, 11, 12, 13, 14, 15, 16, 17, 18, 19, 20, 21, 22, 23, 24, 25, 26, 27, 28, 29, 30, 31, 32, 33, 34, 35, 36, 37, 38, 39, 40, 41, 42, 43, 44, 45, 46, 47, 48, 49, 50, 51, 52, 53, 54, 55, 56, 57, 58, 59, 60, 61, 62, 63, 64, 65, 66, 67, 68, 69, 70, 100004], 0), (10, [1, 2, 6, 7, 8, 9, 10, 11, 12, 13, 14, 15, 16, 17, 18, 19, 20, 21, 22, 23, 24, 25, 26, 27, 28, 29, 30, 31, 32, 33, 34, 35, 36, 37, 38, 39, 40, 41, 42, 43, 44, 45, 46, 47, 48, 49, 50, 51, 52, 53, 54, 55, 56, 57, 58, 59, 60, 61, 62, 63, 64, 66, 67, 68, 69, 70, 100004], 0)]

def f10_4 (w0 : World) (K : Value → AH → Prop) (a : Option Addr) (b : Nat) (c : Nat) (d : Option Addr) (e : Addr) (g : Int) (h : AH) : Prop :=
  ∀ j : Nat → Value, LPk Proofs.Tryd.prog w0 (EvC Proofs.Tryd.prog w0) f10_J 10 K 4 [.v (.slice a b c), .v (j 1), .v (j 2), .v (.pointer d), .v (.pointer (some e)), .v (.int .i64 g), .v (j 6), .v (j 7), .v (j 8), .v (j 9), .v (j 10), .v (j 11), .v (j 12), .v (j 13), .v (j 14), .v (j 15), .v (j 16), .v (j 17), .v (j 18), .v (j 19), .v (j 20), .v (j 21), .v (j 22), .v (j 23), .v (j 24), .v (j 25), .v (j 26), .v (j 27), .v (j 28), .v (j 29), .v (j 30), .v (j 31), .v (j 32), .v (j 33), .v (j 34), .v (j 35), .v (j 36), .v (j 37), .v (j 38), .v (j 39), .v (j 40), .v (j 41), .v (j 42), .v (j 43), .v (j 44), .v (j 45), .v (j 46), .v (j 47), .v (j 48), .v (j 49), .v (j 50), .v (j 51), .v (j 52), .v (j 53), .v (j 54), .v (j 55), .v (j 56), .v (j 57), .v (j 58), .v (j 59), .v (j 60), .v (j 61), .v (j 62), .v (j 63), .v (j 64), .v (j 65), .v (j 66), .v (j 67), .v (j 68), .v (j 69), .v (j 70)] [] h

def f10_6 (w0 : World) (K : Value → AH → Prop) (a : Option Addr) (b : Nat) (c : Nat) (d : Option Addr) (e : Addr) (g : Int) (h : AH) : Prop :=
  ∀ j : Nat → Value, LPk Proofs.Tryd.prog w0 (EvC Proofs.Tryd.prog w0) f10_J 10 K 6 [.v (.slice a b c), .v (j 1), .v (j 2), .v (.pointer d), .v (.pointer (some e)), .v (.int .i64 g), .v (j 6), .v (j 7), .v (j 8), .v (j 9), .v (j 10), .v (j 11), .v (j 12), .v (j 13), .v (j 14), .v (j 15), .v (j 16), .v (j 17), .v (j 18), .v (j 19), .v (j 20), .v (j 21), .v (j 22), .v (j 23), .v (j 24), .v (j 25), .v (j 26), .v (j 27), .v (j 28), .v (j 29), .v (j 30), .v (j 31), .v (j 32), .v (j 33), .v (j 34), .v (j 35), .v (j 36), .v (j 37), .v (j 38), .v (j 39), .v (j 40), .v (j 41), .v (j 42), .v (j 43), .v (j 44), .v (j 45), .v (j 46), .v (j 47), .v (j 48), .v (j 49), .v (j 50), .v (j 51), .v (j 52), .v (j 53), .v (j 54), .v (j 55), .v (j 56), .v (j 57), .v (j 58), .v (j 59), .v (j 60), .v (j 61), .v (j 62), .v (j 63), .v (j 64), .v (j 65), .v (j 66), .v (j 67), .v (j 68), .v (j 69), .v (j 70)] [] h

def f10_10 (w0 : World) (K : Value → AH → Prop) (a : Option Addr) (b : Nat) (c : Nat) (d : Option Addr) (e : Addr) (g : Int) (i : Bool) (h : AH) : Prop :=
  ∀ j : Nat → Value, LPk Proofs.Tryd.prog w0 (EvC Proofs.Tryd.prog w0) f10_J 10 K 10 [.v (.slice a b c), .v (j 1), .v (j 2), .v (.pointer d), .v (.pointer (some e)), .v (.int .i64 g), .v (j 6), .v (j 7), .v (j 8), .v (j 9), .v (j 10), .v (j 11), .v (j 12), .v (j 13), .v (j 14), .v (j 15), .v (j 16), .v (j 17), .v (j 18), .v (j 19), .v (j 20), .v (j 21), .v (j 22), .v (j 23), .v (j 24), .v (j 25), .v (j 26), .v (j 27), .v (j 28), .v (j 29), .v (j 30), .v (j 31), .v (j 32), .v (j 33), .v (j 34), .v (j 35), .v (j 36), .v (j 37), .v (j 38), .v (j 39), .v (j 40), .v (j 41), .v (j 42), .v (j 43), .v (j 44), .v (j 45), .v (j 46), .v (j 47), .v (j 48), .v (j 49), .v (j 50), .v (j 51), .v (j 52), .v (j 53), .v (j 54), .v (j 55), .v (j 56), .v (j 57), .v (j 58), .v (j 59), .v (j 60), .v (j 61), .v (j 62), .v (j 63), .v (j 64), .v (.bool i), .v (j 66), .v (j 67), .v (j 68), .v (j 69), .v (j 70)] [] h

theorem f10_4_in {w0 : World} {K : Value → AH → Prop} (d : Option Addr) (c : Nat) (e : Nat) (a : Option Addr) (g : Addr) (b : Int) (h : AH)
  (hv : (brB (decide ((b < ((c : Nat) : Int)))) (brB (decide ((b < (50 : Int)))) (f10_6 w0 K d c e a g b h) (brB (Option.isSome a) (EvC Proofs.Tryd.prog w0 31 #[] (fun m n => (∃ i : Bool, ((m = (bool i)) ∧ (K (bool i) n)))) h) (K (bool false) h))) (brB (Option.isSome a) (EvC Proofs.Tryd.prog w0 31 #[] (fun o p => (∃ k : Bool, ((o = (bool k)) ∧ (K (bool k) p)))) h) (K (bool false) h)))) :
  f10_4 w0 K d c e a g b h := fun j => LP_intro (P := Proofs.Tryd.prog) (Eq.mp (by kernel_rfl) hv)

theorem f10_6_in {w0 : World} {K : Value → AH → Prop} (b : Option Addr) (c : Nat) (g : Nat) (d : Option Addr) (e : Addr) (a : Int) (h : AH)
  (hv : (∃ m : Addr, ((b = (some m)) ∧ (((0 : Int) ≤ a) ∧ ((a < ((c : Nat) : Int)) ∧ (∃ V : Option Addr, (∃ n : Nat, (∃ Y : Nat, (((cellA w0 h (Addr.add m ((Int.toNat a) * 1))) = (some (slice V n Y))) ∧ (brB (decide (((3000 : Int) < ((n : Nat) : Int)))) (f10_4 w0 K b c g d e (IntKind.wrap .i64 (a + (1 : Int))) h) (∃ o : Addr, ((b = (some o)) ∧ (((0 : Int) ≤ a) ∧ ((a < ((c : Nat) : Int)) ∧ (∃ p : Option Addr, (∃ q : Nat, (∃ r : Nat, (((cellA w0 h (Addr.add o ((Int.toNat a) * 1))) = (some (slice p q r))) ∧ (EvC Proofs.Tryd.prog w0 27 #[(Value.pointer d), (slice p q r)] (fun Z s => (∃ t : Option Addr, (∃ u : Nat, (∃ v : Nat, (∃ x : Int, ((Z = (Value.tuple #[(slice t u v), (int .i64 x)])) ∧ (∃ y : Addr, ((b = (some y)) ∧ (((0 : Int) ≤ a) ∧ ((a < ((c : Nat) : Int)) ∧ (∃ z : Option Addr, (∃ A : Nat, (∃ B : Nat, (((cellA w0 s (Addr.add y ((Int.toNat a) * 1))) = (some (slice z A B))) ∧ (EvC Proofs.Tryd.prog w0 28 #[(Value.pointer (some e)), (slice z A B)] (fun a0 C => (∃ D : Option Addr, (∃ E : Nat, (∃ F : Nat, (∃ L : Int, ((a0 = (Value.tuple #[(slice D E F), (int .i64 L)])) ∧ (brB (x != L) (f10_10 w0 K b c g d e a true C) (EvC Proofs.Tryd.prog w0 29 #[(slice t u v), (slice D E F)] (fun a1 i => (∃ M : Bool, ((a1 = (bool M)) ∧ (brB (!M) (f10_10 w0 K b c g d e a true i) (∃ k : Addr, (((some e) = (some k)) ∧ ((EvC Proofs.Tryd.prog w0 30 #[(Value.pointer d)] (fun a2 N => (∃ Q : Int, ((a2 = (int .i64 Q)) ∧ (∃ a3 : Option Addr, (∃ R : Nat, (∃ a4 : Nat, (((cellA w0 N (Addr.add k 0)) = (some (slice a3 R a4))) ∧ (f10_10 w0 K b c g d e a (Q != ((R : Nat) : Int)) N)))))))) i) ∧ (∃ a5 : Option Addr, (∃ T : Nat, (∃ a6 : Nat, (((cellA w0 i (Addr.add k 0)) = (some (slice a5 T a6))) ∧ (EvC Proofs.Tryd.prog w0 30 #[(Value.pointer d)] (fun a7 a8 => (∃ U : Int, ((a7 = (int .i64 U)) ∧ (f10_10 w0 K b c g d e a (U != ((T : Nat) : Int)) a8)))) i)))))))))))) C)))))))) s))))))))))))))) h))))))))))))))))))) :
  f10_6 w0 K b c g d e a h := fun j => LP_intro (P := Proofs.Tryd.prog) (Eq.mp (by kernel_rfl) hv)

theorem f10_10_in {w0 : World} {K : Value → AH → Prop} (a : Option Addr) (b : Nat) (c : Nat) (d : Option Addr) (e : Addr) (g : Int) (i : Bool) (h : AH)
  (hv : (brB i (K (bool false) h) (f10_4 w0 K a b c d e (IntKind.wrap .i64 (g + (1 : Int))) h))) :
  f10_10 w0 K a b c d e g i h := fun j => LP_intro (P := Proofs.Tryd.prog) (Eq.mp (by kernel_rfl) hv)

theorem f10_go {w0 : World} {K : Value → AH → Prop} (a : Option Addr) (b : Nat) (c : Nat) (h : AH)
  (hv : (EvC Proofs.Tryd.prog w0 26 #[] (fun e g => (∃ d : Option Addr, ((e = (Value.pointer d)) ∧ (newB w0 g (AB.cells [(slice none 0 0), (bool false)] 2) (fun i k => (f10_4 w0 K a b c d (Addr.mk i 0 none) (0 : Int) k)))))) h)) :
  EvC Proofs.Tryd.prog w0 10 ([(.slice a b c)]).toArray K h := EvC_intro (P := Proofs.Tryd.prog) f10_J (Eq.mp (by kernel_rfl) hv)
/-! ### StreamFeeds -/
/-- Two streams with the same bytes. -/
def twoSt (s m : Nat) (p p2 : Option Addr) (buf : List UInt8) (c c2 : Nat) (bad : Bool) (R2 : List (Nat × AB)) : List (Nat × AB) :=
  stB s p buf.length c bad :: (slB p (u8s buf) (c * 1) ++ (stB m p2 buf.length c2 bad :: R2))
section
variable {w0 : World} {K : Value → AH → Prop} {h : AH} {c : Nat}
theorem f10_spec {a : Option Addr} {l : List BsM} (T : TabOk w0) (hr : Rd0 w0 a (l.flatMap BsM.cells)) (hl : l.length ≤ 140737488355328) (hok : ∀ x ∈ l, x.Ok w0) (hk : ∀ h', K (.bool true) h') : EvC Go.Proofs.Tryd.prog w0 10 #[.slice a l.length c] K (fun _ => none) := by
  refine f10_go _ _ _ _ (f26_spec (X := []) Own.nil fun h1 s w1 => ⟨_, rfl, fun m hm hn => ?_⟩)
  have w2 := Own.new (o := .cells [.slice none 0 0, .bool false] 2) w1 hm hn
  have done : ∀ h', brB (Option.isSome (some (⟨s, 0, none⟩ : Addr))) (EvC Go.Proofs.Tryd.prog w0 31 #[] (fun x h'' => ∃ t : Bool, x = .bool t ∧ K (.bool t) h'') h') (K (.bool false) h') := fun h' => brB_of (fun _ => f31_spec T (X := []) ⟨List.nodup_nil, (fun _ z => by cases z), fun _ z => by cases z⟩ fun h'' => ⟨_, rfl, hk h''⟩) fun z => by cases z
  have loop : ∀ (n i : Nat), i + n = 50 → ∀ (h : AH) (p p2 : Option Addr) (buf : List UInt8) (c1 c2 : Nat) (bad : Bool) (R2 : List (Nat × AB)), buf.length ≤ 3000 * i → (bad = true → buf = []) → SlV 1 p buf.length c1 (u8s buf) → Rdr w0 R2 p2 c2 buf → Own w0 h (twoSt s m p p2 buf c1 c2 bad R2) →
      f10_4 w0 K a l.length c (some ⟨s, 0, none⟩) ⟨m, 0, none⟩ ((i : Nat) : Int) h := fun n => by
    induction n with
    | zero =>
      intro i hi h p p2 buf c1 c2 bad R2 _ _ _ _ w
      refine f10_4_in _ _ _ _ _ _ _ (brB_of (fun _ => brB_of (fun z => by have := of_decide_eq_true z; omega) fun _ => done h) fun _ => done h)
    | succ n ih =>
      intro i hi h p p2 buf c1 c2 bad R2 hb hbad vp r2 w
      refine f10_4_in _ _ _ _ _ _ _ (brB_of (fun z => brB_of (fun _ => ?_) fun _ => done h) fun _ => done h)
      have hil : i < l.length := by have := of_decide_eq_true z; omega
      have g1 : l[i]? = some l[i] := List.getElem?_eq_getElem hil
      have ok := hok _ (List.mem_of_getElem? g1)
      have ld : ∀ h', ∃ ad, a = some ad ∧ cellA w0 h' (Addr.add ad ((Int.toNat ((i : Nat) : Int)) * 1)) = some (.slice (l[i]).a (l[i]).l.length (l[i]).c) := fun h' => by
        obtain ⟨ad, had, hat⟩ := rowLoad (enc := BsM.cells) (k := 1) (fun _ => rfl) (by decide) (hr.rd h') g1
        exact ⟨ad, had, hat 0 _ rfl⟩
      generalize l[i] = x at ok ld g1
      obtain ⟨ad, had, hc⟩ := ld h
      have nxt : ∀ h' p p2 buf c1 c2 bad R2, buf.length ≤ 3000 * (i + 1) → (bad = true → buf = []) → SlV 1 p buf.length c1 (u8s buf) → Rdr w0 R2 p2 c2 buf → Own w0 h' (twoSt s m p p2 buf c1 c2 bad R2) → f10_4 w0 K a l.length c (some ⟨s, 0, none⟩) ⟨m, 0, none⟩ (IntKind.i64.wrap (((i : Nat) : Int) + 1)) h' := fun h' p p2 buf c1 c2 bad R2 g1 g2 g3 g4 g5 => by
        rw [wrapS (by omega)]
        exact ih (i + 1) (by omega) h' p p2 buf c1 c2 bad R2 g1 g2 g3 g4 g5
      refine f10_6_in _ _ _ _ _ _ _ ⟨ad, had, by omega, by omega, _, _, _, hc, brB_of (fun y => nxt h p p2 buf c1 c2 bad R2 (by omega) hbad vp r2 w) fun y => ⟨ad, had, by omega, by omega, _, _, _, hc, ?_⟩⟩
      have hx : x.l.length ≤ 3000 := by have := of_decide_eq_false y; omega
      -- behind both: the same packets, the same error, the same left
      have fin : ∀ h' (p p2 : Option Addr) (buf : List UInt8) (c1 c2 : Nat) (bad : Bool) (R2 : List (Nat × AB)) (a1 a2 : Option Addr) (d1 d2 : Nat) (ms ns : List PkM) (e : Int), buf.length ≤ 3000 * (i + 1) → (bad = true → buf = []) → SlV 1 p buf.length c1 (u8s buf) → Rdr w0 R2 p2 c2 buf → ms.map PkM.key = ns.map PkM.key → PksV a1 d1 ms → PksV a2 d2 ns → (∀ k ∈ ms.map PkM.key, smallP k) → ms.length ≤ 1000000000000 → Own w0 h' (twoSt s m p p2 buf c1 c2 bad (R2 ++ (outP a1 d1 ms ++ outP a2 d2 ns))) →
          brB (e != e) (f10_10 w0 K a l.length c (some ⟨s, 0, none⟩) ⟨m, 0, none⟩ ((i : Nat) : Int) true h') (EvC Go.Proofs.Tryd.prog w0 29 #[.slice a1 ms.length d1, .slice a2 ns.length d2] (fun x35 h36 => ∃ t37 : Bool, x35 = .bool t37 ∧ brB (!t37) (f10_10 w0 K a l.length c (some ⟨s, 0, none⟩) ⟨m, 0, none⟩ ((i : Nat) : Int) true h36)
            (∃ a38 : Addr, some (⟨m, 0, none⟩ : Addr) = some a38 ∧ (EvC Go.Proofs.Tryd.prog w0 30 #[.pointer (some ⟨s, 0, none⟩)] (fun x39 h40 => ∃ i41 : Int, x39 = .int .i64 i41 ∧ ∃ (p42 : Option Addr) (n43 n44 : Nat), cellA w0 h40 (Addr.add a38 0) = some (.slice p42 n43 n44) ∧ f10_10 w0 K a l.length c (some ⟨s, 0, none⟩) ⟨m, 0, none⟩ ((i : Nat) : Int) (i41 != ((n43 : Nat) : Int)) h40) h36) ∧
              ∃ (p45 : Option Addr) (n46 n47 : Nat), cellA w0 h36 (Addr.add a38 0) = some (.slice p45 n46 n47) ∧ EvC Go.Proofs.Tryd.prog w0 30 #[.pointer (some ⟨s, 0, none⟩)] (fun x48 h49 => ∃ i50 : Int, x48 = .int .i64 i50 ∧ f10_10 w0 K a l.length c (some ⟨s, 0, none⟩) ⟨m, 0, none⟩ ((i : Nat) : Int) (i50 != ((n46 : Nat) : Int)) h49) h36)) h') := fun h' p p2 buf c1 c2 bad R2 a1 a2 d1 d2 ms ns e g1 g2 g3 g4 gk v1 v2 gs gm w => by
        refine brB_of (fun z => by simp at z) fun _ => ?_
        have s1 : outP a1 d1 ms ⊆ twoSt s m p p2 buf c1 c2 bad (R2 ++ (outP a1 d1 ms ++ outP a2 d2 ns)) := fun y hy => List.mem_cons_of_mem _ (List.mem_append_right _ (List.mem_cons_of_mem _ (List.mem_append_right _ (List.mem_append_left _ hy))))
        have s2 : outP a2 d2 ns ⊆ twoSt s m p p2 buf c1 c2 bad (R2 ++ (outP a1 d1 ms ++ outP a2 d2 ns)) := fun y hy => List.mem_cons_of_mem _ (List.mem_append_right _ (List.mem_cons_of_mem _ (List.mem_append_right _ (List.mem_append_right _ hy))))
        refine f29_spec (v1.rd w s1) (v2.rd w s2) gm gk (v1.each_rd w (fun y hy => s1 (List.mem_append_right _ hy)) gs) (v2.each_rd w (fun y hy => s2 (List.mem_append_right _ hy)) (by rw [← gk]; exact gs)) ⟨_, rfl, brB_of (fun z => by cases z) fun _ => ?_⟩
        have w' : Own w0 h' (stB s p buf.length c1 bad :: (slB p (u8s buf) (c1 * 1) ++ (stB m p2 buf.length c2 bad :: (R2 ++ (outP a1 d1 ms ++ outP a2 d2 ns))))) := w
        have cm : cellA w0 h' (Addr.add ⟨m, 0, none⟩ 0) = some (.slice p2 buf.length c2) := Own.cell w' (List.mem_cons_of_mem _ (List.mem_append_right _ (List.mem_cons_self ..))) rfl
        have ten : ∀ t, t = false → f10_10 w0 K a l.length c (some ⟨s, 0, none⟩) ⟨m, 0, none⟩ ((i : Nat) : Int) t h' := fun t ht => f10_10_in _ _ _ _ _ _ _ _ (brB_of (fun z => by rw [ht] at z; cases z) fun _ => nxt h' p p2 buf c1 c2 bad R2 g1 g2 g3 g4 ((w.perm (by
          classical
          rw [List.perm_iff_count]
          intro t
          simp only [twoSt, List.count_append, List.count_cons]
          omega : (twoSt s m p p2 buf c1 c2 bad (R2 ++ (outP a1 d1 ms ++ outP a2 d2 ns))).Perm ((outP a1 d1 ms ++ outP a2 d2 ns) ++ twoSt s m p p2 buf c1 c2 bad R2))).drop))
        exact ⟨_, rfl, f30_spec w' ⟨_, rfl, _, _, _, cm, ten _ (by simp)⟩, _, _, _, cm, f30_spec w' ⟨_, rfl, ten _ (by simp)⟩⟩
      cases bad with
      | true =>
        have w' : Own w0 h (stB s p buf.length c1 true :: (slB p (u8s buf) (c1 * 1) ++ (stB m p2 buf.length c2 true :: R2))) := w
        have w'' := (Own.drop (cs := stB s p buf.length c1 true :: slB p (u8s buf) (c1 * 1)) w')
        exact f27_bad w' ⟨_, _, _, _, rfl, ad, had, by omega, by omega, _, _, _, hc, f28_bad w'' ⟨_, _, _, _, rfl, fin h p p2 buf c1 c2 true R2 none none 0 0 [] [] 16 (by omega) hbad vp r2 rfl PksV.nil PksV.nil (fun _ z => by cases z) (Nat.zero_le _) (by
          show Own w0 h (twoSt s m p p2 buf c1 c2 true (R2 ++ []))
          rw [List.append_nil]; exact w)⟩⟩
      | false =>
        have w' : Own w0 h (stB s p buf.length c1 false :: (slB p (u8s buf) (c1 * 1) ++ (stB m p2 buf.length c2 false :: R2))) := w
        refine f27_spec T vp w' ok.rdr (List.nil_subset _) (by omega) fun h3 a3 d3 ms p3 e3 ek v3 vp3 w3 => ⟨_, _, _, _, rfl, ?_⟩
        obtain ⟨ad3, had3, hc3⟩ := ld h3
        refine ⟨ad3, had3, by omega, by omega, _, _, _, hc3, ?_⟩
        have hcount := feedF_count (buf ++ x.l).length (buf ++ x.l)
        have hrest := feedF_rest (buf ++ x.l).length (buf ++ x.l)
        have hsm := feedF_small (buf ++ x.l).length (buf ++ x.l)
        have herr := feedF_err (buf ++ x.l).length (buf ++ x.l)
        rw [List.length_append] at hcount hrest
        have w4 : Own w0 h3 (stB m p2 buf.length c2 false :: (R2 ++ (outP a3 d3 ms ++ (stB s p3 (feedL (buf ++ x.l)).2.2.length e3 (decide ((feedL (buf ++ x.l)).2.1 ≠ 0)) :: slB p3 (u8s (feedL (buf ++ x.l)).2.2) (e3 * 1))))) := w3.perm (by
          classical
          rw [List.perm_iff_count]
          intro t
          simp only [List.count_append, List.count_cons]
          omega)
        refine f28_spec T r2 w4 ok.rdr (List.nil_subset _) (by omega) fun h5 a5 d5 ns R5 p5 e5 ek5 v5 r5 w5 => ⟨_, _, _, _, rfl, ?_⟩
        refine fin h5 p3 p5 (feedL (buf ++ x.l)).2.2 e3 e5 (decide ((feedL (buf ++ x.l)).2.1 ≠ 0)) R5 a3 a5 d3 d5 ms ns (feedL (buf ++ x.l)).2.1 (by unfold feedL; rw [List.length_append]; omega) (fun z => herr (of_decide_eq_true z)) vp3 r5 (ek.trans ek5.symm) v3 v5 (by rw [ek]; exact hsm) (by
          have := congrArg List.length ek
          rw [List.length_map] at this
          unfold feedL at this
          rw [List.length_append] at this
          omega) (w5.perm (by
          classical
          rw [List.perm_iff_count]
          intro t
          simp only [twoSt, List.count_append, List.count_cons]
          omega))
  exact loop 50 0 rfl _ none none [] 0 0 false [] (by simp) (fun _ => rfl) SlV.nil Rdr.nil (Own.sw w2)
end
end Go.G.YtciepfobnaemmaaDoor
