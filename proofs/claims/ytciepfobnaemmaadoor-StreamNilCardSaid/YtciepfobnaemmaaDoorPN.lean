/- x -/
import Derived.Test.YtciepfobnaemmaaDoorPM
import Derived.Test.YtciepfobnaemmaaDoorProg
set_option maxRecDepth 100000
namespace Go.G.YtciepfobnaemmaaDoor
open Go.RowKit
open Value (string slice int bool agg)
def f31_J : Nat → List Nat × Nat := jOf []



theorem f31_go {w0 : World} {K : Value → AH → Prop}  (h : AH)
  (hv : (EvC Proofs.Tryd.prog w0 26 #[] (fun o p => (∃ b : Option Addr, ((o = (Value.pointer b)) ∧ (newB w0 p (AB.cells [(int .u8 (192 : Int))] 1) (fun q r => (EvC Proofs.Tryd.prog w0 27 #[(Value.pointer b), (slice (some (Addr.mk q 0 none)) 1 1)] (fun s t => (∃ u : Option Addr, (∃ d : Nat, (∃ v : Nat, (∃ e : Int, ((s = (Value.tuple #[(slice u d v), (int .i64 e)])) ∧ (newB w0 t (AB.cells [(int .u8 (0 : Int)), (int .u8 (192 : Int))] 2) (fun x y => (EvC Proofs.Tryd.prog w0 27 #[(Value.pointer b), (slice (some (Addr.mk x 0 none)) 2 2)] (fun z a => (∃ g : Option Addr, (∃ c : Nat, (∃ A : Nat, (∃ i : Int, ((z = (Value.tuple #[(slice g c A), (int .i64 i)])) ∧ (brB (e == (0 : Int)) (brB (i == (0 : Int)) (brB (((d : Nat) : Int) == (0 : Int)) (brB (((c : Nat) : Int) == (1 : Int)) (∃ k : Addr, ((g = (some k)) ∧ (((0 : Int) ≤ (0 : Int)) ∧ (((0 : Int) < ((c : Nat) : Int)) ∧ (∃ m : Int, (((cellA w0 a (Addr.add (Addr.add k 0) 0)) = (some (int .i64 m))) ∧ (brB (m == (12 : Int)) (EvC Proofs.Tryd.prog w0 30 #[(Value.pointer b)] (fun B C => (∃ n : Int, ((B = (int .i64 n)) ∧ (K (bool (n == (1 : Int))) C)))) a) (K (bool false) a)))))))) (K (bool false) a)) (K (bool false) a)) (K (bool false) a)) (K (bool false) a)))))))) y))))))))) r)))))) h)) :
  EvC Proofs.Tryd.prog w0 31 ([]).toArray K h := EvC_intro (P := Proofs.Tryd.prog) f31_J (Eq.mp (by kernel_rfl) hv)
def f11_J : Nat → List Nat × Nat := jOf []



theorem f11_go {w0 : World} {K : Value → AH → Prop} (b : Option Addr) (c : Nat) (d : Nat) (h : AH)
  (hv : (EvC Proofs.Tryd.prog w0 27 #[(Value.pointer none), (slice b c d)] (fun n a => (∃ o : Option Addr, (∃ e : Nat, (∃ p : Nat, (∃ g : Int, ((n = (Value.tuple #[(slice o e p), (int .i64 g)])) ∧ (brB (((e : Nat) : Int) == (0 : Int)) (brB (g == (1 : Int)) (EvC Proofs.Tryd.prog w0 30 #[(Value.pointer none)] (fun q i => (∃ k : Int, ((q = (int .i64 k)) ∧ (brB (k == (0 : Int)) (EvC Proofs.Tryd.prog w0 31 #[] (fun r s => (∃ m : Bool, ((r = (bool m)) ∧ (K (bool m) s)))) i) (K (bool false) i))))) a) (K (bool false) a)) (K (bool false) a)))))))) h)) :
  EvC Proofs.Tryd.prog w0 11 ([(.slice b c d)]).toArray K h := EvC_intro (P := Proofs.Tryd.prog) f11_J (Eq.mp (by kernel_rfl) hv)
/-! ### bytes that every program must know; StreamNil; StreamFeeds -/
theorem feedF_err : ∀ (f : Nat) (l : List UInt8), (feedF f l).2.1 ≠ 0 → (feedF f l).2.2 = []
  | 0, l, h => absurd rfl h
  | f + 1, l, h => by
    rw [feedF] at h ⊢
    split
    · rfl
    · rename_i h1
      rw [if_neg h1] at h
      split
      · rename_i h2
        rw [if_pos h2] at h
        exact absurd rfl h
      · rename_i h2
        rw [if_neg h2] at h
        split
        · rfl
        · rename_i h3
          rw [if_neg h3] at h
          exact feedF_err f _ h
theorem feedF_small : ∀ (f : Nat) (l : List UInt8), ∀ k ∈ (feedF f l).1, smallP k
  | 0, l, k, h => by cases h
  | f + 1, l, k, h => by
    rw [feedF] at h
    split at h
    · cases h
    split at h
    · cases h
    split at h
    · cases h
    · rcases List.mem_cons.1 h with rfl | h
      · exact decL_small _
      · exact feedF_small f _ k h
theorem feedF_count : ∀ (f : Nat) (l : List UInt8), (feedF f l).1.length ≤ l.length
  | 0, l => Nat.zero_le _
  | f + 1, l => by
    rw [feedF]
    split
    · exact Nat.zero_le _
    split
    · exact Nat.zero_le _
    split
    · exact Nat.zero_le _
    · rename_i h2 _
      have := feedF_count f (l.drop (wholeL l).1)
      rw [List.length_drop] at this
      have w := whole_le l
      rw [List.length_cons]
      show (feedF f (l.drop (wholeL l).1)).1.length + 1 ≤ _
      omega
theorem feedF_rest : ∀ (f : Nat) (l : List UInt8), (feedF f l).2.2.length ≤ l.length
  | 0, l => Nat.le_refl _
  | f + 1, l => by
    rw [feedF]
    split
    · exact Nat.zero_le _
    split
    · exact Nat.le_refl _
    split
    · exact Nat.zero_le _
    · have := feedF_rest f (l.drop (wholeL l).1)
      rw [List.length_drop] at this
      show (feedF f (l.drop (wholeL l).1)).2.2.length ≤ _
      omega
section
variable {w0 : World} {K : Value → AH → Prop} {h : AH} {R X : List (Nat × AB)} {c b : Nat}
theorem lit_rdr {xs : List UInt8} {b n : Nat} (hn : xs.length = n) (hs : n ≤ 1000) : Rdr w0 [(b, .cells (u8s xs) n)] (some ⟨b, 0, none⟩) n xs := ⟨fun h' hx => by
  obtain ⟨g1, g2⟩ := hx _ (List.mem_singleton_self _)
  exact fun j x hj => ⟨_, rfl, own_cell g1 g2 hj⟩, by omega, by omega⟩
theorem sing_sub {x : Nat × AB} {B : List (Nat × AB)} (h : x ∈ B) : [x] ⊆ B := fun y hy => by rw [List.mem_singleton] at hy; subst hy; exact h
theorem PksV.rd {a : Option Addr} {c : Nat} {ms : List PkM} {B : List (Nat × AB)} (v : PksV a c ms) (w : Own w0 h B) (hs : outP a c ms ⊆ B) : Rd w0 h a (ms.flatMap PkM.cells) := by
  obtain ⟨h1, h2, h3⟩ := v.sl
  have s : Sl w0 h 16 a ms.length c (ms.flatMap PkM.cells) := by
    refine ⟨h1, h2, ?_⟩
    cases a with
    | none => exact h3
    | some ad => exact ⟨h3.1, h3.2, (w.mem (hs (List.mem_append_left _ (List.mem_singleton_self _)))).1, (w.mem (hs (List.mem_append_left _ (List.mem_singleton_self _)))).2⟩
  exact s.rd
theorem PksV.each_rd {a : Option Addr} {c : Nat} {ms : List PkM} {B : List (Nat × AB)} (v : PksV a c ms) (w : Own w0 h B) (hs : ownPs ms ⊆ B) (hm : ∀ k ∈ ms.map PkM.key, smallP k) : ∀ m ∈ ms, PkRd w0 h m := fun m hx =>
  (v.each m hx).rd w (fun y hy => hs (List.mem_flatMap.2 ⟨m, hx, hy⟩)) (hm _ (List.mem_map_of_mem hx))
theorem feed_awake1 : feedL [192] = ([], 0, [192]) := by kernel_rfl
theorem feed_awake2 : feedL [192, 0, 192] = ([{ kind := 12 }], 0, [192]) := by kernel_rfl
theorem f31_spec (T : TabOk w0) (w : Own w0 h X) (hk : ∀ h', K (.bool true) h') : EvC Go.Proofs.Tryd.prog w0 31 #[] K h := by
  refine f31_go _ (f26_spec w fun h1 s w1 => ⟨_, rfl, fun b hb hn => ?_⟩)
  have w2 := Own.new (o := .cells (u8s [192]) 1) w1 hb hn
  refine f27_spec (buf := []) (x := [192]) (p := none) (c := 0) T SlV.nil (X := (b, .cells (u8s [192]) 1) :: X) (Own.sw w2) (lit_rdr rfl (by decide)) (sing_sub (List.mem_cons_self ..)) (by simp) fun h3 a3 c3 ms p3 d3 ek v3 vp w3 => ?_
  rw [List.nil_append] at ek vp w3 ⊢
  have e1 := feed_awake1
  generalize feedL [192] = F at *
  subst e1
  dsimp only at ek vp w3 ⊢
  refine ⟨_, _, _, _, rfl, fun b2 hb2 hn2 => ?_⟩
  have m0 : ms = [] := by simpa using ek
  subst m0
  have w4 := Own.new (o := .cells (u8s [0, 192]) 2) w3 hb2 hn2
  have w5 : Own w0 _ (stB s p3 ([192] : List UInt8).length d3 false :: (slB p3 (u8s [192]) (d3 * 1) ++ ((b2, .cells (u8s [0, 192]) 2) :: (outP a3 c3 [] ++ ((b, .cells (u8s [192]) 1) :: X))))) := w4.perm (by
    rw [decide_eq_false (by simp)]
    classical
    rw [List.perm_iff_count]
    intro t
    simp only [List.count_append, List.count_cons]
    omega)
  refine f27_spec (buf := [192]) (x := [0, 192]) T vp w5 (lit_rdr rfl (by decide)) (sing_sub (List.mem_cons_self ..)) (by simp) fun h6 a6 c6 ms p6 d6 ek v6 vp6 w6 => ?_
  have e2 : feedL ([192] ++ [0, 192]) = ([{ kind := 12 }], 0, [192]) := feed_awake2
  generalize feedL ([192] ++ [0, 192]) = F at *
  subst e2
  dsimp only at ek vp6 w6 ⊢
  have one : ∃ m, ms = [m] := by
    cases ms with
    | nil => cases ek
    | cons m t =>
      cases t with
      | nil => exact ⟨m, rfl⟩
      | cons _ _ => have := congrArg List.length ek; simp at this
  obtain ⟨m, rfl⟩ := one
  have k0 : m.kind = 12 := by
    exact congrArg Pk.kind (List.head_eq_of_cons_eq ek)
  have rd := v6.rd w6 fun x hx => List.mem_cons_of_mem _ (List.mem_append_right _ (List.mem_append_left _ hx))
  obtain ⟨ad, had, hat⟩ := rowLoad (enc := PkM.cells) (k := 16) (l := [m]) (i := 0) (fun _ => rfl) (by decide) rd rfl
  have hc := hat 0 _ rfl
  refine ⟨_, _, _, _, rfl, brB_of (fun _ => brB_of (fun _ => brB_of (fun _ => brB_of (fun _ => ⟨ad, had, by decide, by simp, m.kind, ?_, ?_⟩) fun z => by simp at z) fun z => by simp at z) fun z => by simp at z) fun z => by simp at z⟩
  · exact hc
  · rw [k0]
    exact brB_of (fun _ => f30_spec w6 ⟨_, rfl, hk _⟩) fun z => by simp at z
/-- StreamNil. -/
theorem f11_spec {a : Option Addr} {n : Nat} (T : TabOk w0) (hk : ∀ h', K (.bool true) h') : EvC Go.Proofs.Tryd.prog w0 11 #[.slice a n c] K (fun _ => none) :=
  f11_go _ _ _ _ (f27_nil ⟨_, _, _, _, rfl, brB_of (fun _ => brB_of (fun _ => f30_nil ⟨_, rfl, brB_of (fun _ => f31_spec T (X := []) Own.nil fun h' => ⟨_, rfl, hk h'⟩) fun z => by simp at z⟩) fun z => by simp at z) fun z => by simp at z⟩)
end
end Go.G.YtciepfobnaemmaaDoor
