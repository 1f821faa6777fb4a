/- The laws' own light of layer 15. -/
import Derived.Test.YtpnhlgghpciofaaLP
import Derived.Test.YtpnhlgghpciofaaProg
set_option maxRecDepth 100000
namespace Go.G.Ytpnhlgghpciofaa
open Go.RowKit
def f59_J : Nat → List Nat × Nat := jOf []



theorem f59_go {w0 : World} {K : Value → AH → Prop} (a0 : Option Go.Addr) (n0 : Nat) (c0 : Nat) (h : AH)
  (hv : (EvC Go.Proofs.Try.prog w0 72 #[(Go.Value.slice a0 n0 c0), (Go.Value.int .i64 ((n0 : Nat) : Int)), (Go.Value.func (Go.Fn.func 53) #[] #[])] (fun x'0 h'1 => ((x'0 = (Go.Value.tuple #[])) ∧ (K (Go.Value.tuple #[]) h'1))) h)) :
  EvC Go.Proofs.Try.prog w0 59 ([(.slice a0 n0 c0), (.func (.func 53) #[] #[])]).toArray K h := EvC_intro (P := Go.Proofs.Try.prog) f59_J (Eq.mp (by kernel_rfl) hv)
def f72_J : Nat → List Nat × Nat := jOf [(2, [3, 4, 5, 9, 10, 11, 12, 13, 14, 15, 16, 17, 18, 19, 20, 21, 22, 23, 24, 25, 26, 27, 28, 29, 30, 31, 32, 33, 34, 35, 36, 37, 38, 39, 40, 41, 42, 43, 44, 45, 46, 47, 48, 49, 50, 51, 52, 53, 54, 55, 56, 57, 58, 59, 60, 61, 62], 0), (7, [3, 4, 5, 7, 8, 9, 10, 11, 12, 13, 14, 15, 16, 17, 18, 19, 20, 21, 22, 23, 24, 25, 26, 27, 28, 29, 30, 31, 32, 33, 34, 35, 36, 37, 38, 39, 40, 41, 42, 43, 44, 45, 46, 47, 48, 49, 50, 51, 52, 53, 54, 55, 56, 57, 58, 59, 60, 61, 62], 0), (9, [3, 4, 5, 9, 10, 11, 12, 13, 14, 15, 16, 17, 18, 19, 20, 21, 22, 23, 24, 25, 26, 27, 28, 29, 30, 31, 32, 33, 34, 35, 36, 37, 38, 39, 40, 41, 42, 43, 44, 45, 46, 47, 48, 49, 50, 51, 52, 53, 54, 55, 56, 57, 58, 59, 60, 61, 62], 0)]

def f72_2 (w0 : World) (K : Value → AH → Prop) (a0 : Option Go.Addr) (n0 : Nat) (c0 : Nat) (x1 : Int) (x6 : Int) (x7 : Int) (x8 : Int) (h : AH) : Prop :=
  ∀ j : Nat → Value, LPk Go.Proofs.Try.prog w0 (EvC Go.Proofs.Try.prog w0) f72_J 72 K 2 [.v (.slice a0 n0 c0), .v (.int .i64 x1), .v (.func (Go.Fn.func 53) #[] #[]), .v (j 3), .v (j 4), .v (j 5), .v (.int .i64 x6), .v (.int .i64 x7), .v (.int .i64 x8), .v (j 9), .v (j 10), .v (j 11), .v (j 12), .v (j 13), .v (j 14), .v (j 15), .v (j 16), .v (j 17), .v (j 18), .v (j 19), .v (j 20), .v (j 21), .v (j 22), .v (j 23), .v (j 24), .v (j 25), .v (j 26), .v (j 27), .v (j 28), .v (j 29), .v (j 30), .v (j 31), .v (j 32), .v (j 33), .v (j 34), .v (j 35), .v (j 36), .v (j 37), .v (j 38), .v (j 39), .v (j 40), .v (j 41), .v (j 42), .v (j 43), .v (j 44), .v (j 45), .v (j 46), .v (j 47), .v (j 48), .v (j 49), .v (j 50), .v (j 51), .v (j 52), .v (j 53), .v (j 54), .v (j 55), .v (j 56), .v (j 57), .v (j 58), .v (j 59), .v (j 60), .v (j 61), .v (j 62)] [] h

def f72_7 (w0 : World) (K : Value → AH → Prop) (a0 : Option Go.Addr) (n0 : Nat) (c0 : Nat) (x1 : Int) (x6 : Int) (h : AH) : Prop :=
  ∀ j : Nat → Value, LPk Go.Proofs.Try.prog w0 (EvC Go.Proofs.Try.prog w0) f72_J 72 K 7 [.v (.slice a0 n0 c0), .v (.int .i64 x1), .v (.func (Go.Fn.func 53) #[] #[]), .v (j 3), .v (j 4), .v (j 5), .v (.int .i64 x6), .v (j 7), .v (j 8), .v (j 9), .v (j 10), .v (j 11), .v (j 12), .v (j 13), .v (j 14), .v (j 15), .v (j 16), .v (j 17), .v (j 18), .v (j 19), .v (j 20), .v (j 21), .v (j 22), .v (j 23), .v (j 24), .v (j 25), .v (j 26), .v (j 27), .v (j 28), .v (j 29), .v (j 30), .v (j 31), .v (j 32), .v (j 33), .v (j 34), .v (j 35), .v (j 36), .v (j 37), .v (j 38), .v (j 39), .v (j 40), .v (j 41), .v (j 42), .v (j 43), .v (j 44), .v (j 45), .v (j 46), .v (j 47), .v (j 48), .v (j 49), .v (j 50), .v (j 51), .v (j 52), .v (j 53), .v (j 54), .v (j 55), .v (j 56), .v (j 57), .v (j 58), .v (j 59), .v (j 60), .v (j 61), .v (j 62)] [] h

def f72_9 (w0 : World) (K : Value → AH → Prop) (a0 : Option Go.Addr) (n0 : Nat) (c0 : Nat) (x1 : Int) (x6 : Int) (x7 : Int) (x8 : Int) (h : AH) : Prop :=
  ∀ j : Nat → Value, LPk Go.Proofs.Try.prog w0 (EvC Go.Proofs.Try.prog w0) f72_J 72 K 9 [.v (.slice a0 n0 c0), .v (.int .i64 x1), .v (.func (Go.Fn.func 53) #[] #[]), .v (j 3), .v (j 4), .v (j 5), .v (.int .i64 x6), .v (.int .i64 x7), .v (.int .i64 x8), .v (j 9), .v (j 10), .v (j 11), .v (j 12), .v (j 13), .v (j 14), .v (j 15), .v (j 16), .v (j 17), .v (j 18), .v (j 19), .v (j 20), .v (j 21), .v (j 22), .v (j 23), .v (j 24), .v (j 25), .v (j 26), .v (j 27), .v (j 28), .v (j 29), .v (j 30), .v (j 31), .v (j 32), .v (j 33), .v (j 34), .v (j 35), .v (j 36), .v (j 37), .v (j 38), .v (j 39), .v (j 40), .v (j 41), .v (j 42), .v (j 43), .v (j 44), .v (j 45), .v (j 46), .v (j 47), .v (j 48), .v (j 49), .v (j 50), .v (j 51), .v (j 52), .v (j 53), .v (j 54), .v (j 55), .v (j 56), .v (j 57), .v (j 58), .v (j 59), .v (j 60), .v (j 61), .v (j 62)] [] h

theorem f72_2_in {w0 : World} {K : Value → AH → Prop} (a0 : Option Go.Addr) (n0 : Nat) (c0 : Nat) (x1 : Int) (x6 : Int) (x7 : Int) (x8 : Int) (h : AH)
  (hv : (brB (decide ((x8 ≤ x1))) (EvC Go.Proofs.Try.prog w0 80 #[(Go.Value.slice a0 n0 c0), (Go.Value.int .i64 x7), (Go.Value.int .i64 x8), (Go.Value.func (Go.Fn.func 53) #[] #[])] (fun x'0 h'1 => ((x'0 = (Go.Value.tuple #[])) ∧ (f72_2 w0 K a0 n0 c0 x1 x6 x8 (Go.IntKind.wrap .i64 (x8 + x6)) h'1))) h) (EvC Go.Proofs.Try.prog w0 80 #[(Go.Value.slice a0 n0 c0), (Go.Value.int .i64 x7), (Go.Value.int .i64 x1), (Go.Value.func (Go.Fn.func 53) #[] #[])] (fun x'2 h'3 => ((x'2 = (Go.Value.tuple #[])) ∧ (f72_7 w0 K a0 n0 c0 x1 x6 h'3))) h))) :
  f72_2 w0 K a0 n0 c0 x1 x6 x7 x8 h := fun j => LP_intro (P := Go.Proofs.Try.prog) (Eq.mp (by kernel_rfl) hv)

theorem f72_7_in {w0 : World} {K : Value → AH → Prop} (a0 : Option Go.Addr) (n0 : Nat) (c0 : Nat) (x1 : Int) (x6 : Int) (h : AH)
  (hv : (brB (decide ((x6 < x1))) (f72_9 w0 K a0 n0 c0 x1 x6 (0 : Int) (Go.IntKind.wrap .i64 ((2 : Int) * x6)) h) (K (Go.Value.tuple #[]) h))) :
  f72_7 w0 K a0 n0 c0 x1 x6 h := fun j => LP_intro (P := Go.Proofs.Try.prog) (Eq.mp (by kernel_rfl) hv)

theorem f72_9_in {w0 : World} {K : Value → AH → Prop} (a0 : Option Go.Addr) (n0 : Nat) (c0 : Nat) (x1 : Int) (x6 : Int) (x7 : Int) (x8 : Int) (h : AH)
  (hv : (brB (decide ((x8 ≤ x1))) (EvC Go.Proofs.Try.prog w0 81 #[(Go.Value.slice a0 n0 c0), (Go.Value.int .i64 x7), (Go.Value.int .i64 (Go.IntKind.wrap .i64 (x7 + x6))), (Go.Value.int .i64 x8), (Go.Value.func (Go.Fn.func 53) #[] #[])] (fun x'4 h'5 => ((x'4 = (Go.Value.tuple #[])) ∧ (f72_9 w0 K a0 n0 c0 x1 x6 x8 (Go.IntKind.wrap .i64 (x8 + (Go.IntKind.wrap .i64 ((2 : Int) * x6)))) h'5))) h) (brB (decide (((Go.IntKind.wrap .i64 (x7 + x6)) < x1))) (EvC Go.Proofs.Try.prog w0 81 #[(Go.Value.slice a0 n0 c0), (Go.Value.int .i64 x7), (Go.Value.int .i64 (Go.IntKind.wrap .i64 (x7 + x6))), (Go.Value.int .i64 x1), (Go.Value.func (Go.Fn.func 53) #[] #[])] (fun x'6 h'7 => ((x'6 = (Go.Value.tuple #[])) ∧ (f72_7 w0 K a0 n0 c0 x1 (Go.IntKind.wrap .i64 (x6 * (2 : Int))) h'7))) h) (f72_7 w0 K a0 n0 c0 x1 (Go.IntKind.wrap .i64 (x6 * (2 : Int))) h)))) :
  f72_9 w0 K a0 n0 c0 x1 x6 x7 x8 h := fun j => LP_intro (P := Go.Proofs.Try.prog) (Eq.mp (by kernel_rfl) hv)

theorem f72_go {w0 : World} {K : Value → AH → Prop} (a0 : Option Go.Addr) (n0 : Nat) (c0 : Nat) (x1 : Int) (h : AH)
  (hv : (f72_2 w0 K a0 n0 c0 x1 (20 : Int) (0 : Int) (20 : Int) h)) :
  EvC Go.Proofs.Try.prog w0 72 ([(.slice a0 n0 c0), (.int .i64 x1), (.func (.func 53) #[] #[])]).toArray K h := EvC_intro (P := Go.Proofs.Try.prog) f72_J (Eq.mp (by kernel_rfl) hv)
/-- slices.SortStableFunc, of a single table. -/
theorem f59_one {w0 : World} {d : Dat} : SortsTo w0 [d] := fun K h a n c us so hok hl hdat hk => by
  have hl5 := so.len5
  have hlen := congrArg List.length hdat
  simp only [List.length_map, List.length_cons, List.length_nil] at hlen
  have hs : Sorted us := fun i t u ht hu => by
    have := (List.getElem?_eq_some_iff.1 hu).1
    omega
  have hko := hk us h (List.Perm.refl _) hs so (Ext.refl _ _) fun t ht => (hok t ht).ok
  have s : TS w0 h a n c us := so.ts (by omega) fun t ht => (hok t ht).ok
  cases a with
  | none => have := so.2.2; omega
  | some ad =>
    refine f59_go _ _ _ _ (f72_go _ _ _ _ _ (f72_2_in _ _ _ _ _ _ _ _ (brB_of (fun q => by simp at q; omega) fun _ => ?_)))
    have hsub : TS w0 h (some ad) n c us := s
    refine f80_sorted (lo := 0) (hi := n) hsub hs ⟨rfl, f72_7_in _ _ _ _ _ _ (brB_of (fun q => by simp at q; omega) fun _ => ⟨rfl, hko⟩)⟩ (by omega) (by omega)
def f30_J : Nat → List Nat × Nat := jOf []



theorem f30_go {w0 : World} {K : Value → AH → Prop}  (h : AH)
  (hv : (newB w0 h (Go.G.AB.cells [(Go.Value.int .u8 (97 : Int))] 1) (fun b'0 h'1 => (newB w0 h'1 (Go.G.AB.cells [(Go.Value.int .u8 (99 : Int))] 1) (fun b'2 h'3 => (newB w0 h'3 (Go.G.AB.cells [(Go.Value.int .i64 (1 : Int)), (Go.Value.int .i64 (0 : Int)), (Go.Value.int .i64 (9 : Int)), (Go.Value.slice (some (Go.Addr.mk b'0 0 none)) 1 1), (Go.Value.slice (some (Go.Addr.mk b'2 0 none)) 1 1)] (List.length [(Go.Value.int .i64 (1 : Int)), (Go.Value.int .i64 (0 : Int)), (Go.Value.int .i64 (9 : Int)), (Go.Value.slice (some (Go.Addr.mk b'0 0 none)) 1 1), (Go.Value.slice (some (Go.Addr.mk b'2 0 none)) 1 1)])) (fun b'4 h'5 => (EvC Go.Proofs.Try.prog w0 33 #[(Go.Value.agg #[(Go.Value.int .i64 (0 : Int)), (Go.Value.int .i64 (0 : Int)), (Go.Value.int .i64 (0 : Int)), (Go.Value.slice none 0 0)]), (Go.Value.agg #[(Go.Value.int .i64 (0 : Int)), (Go.Value.int .i64 (2 : Int)), (Go.Value.int .i64 (0 : Int)), (Go.Value.slice (some (Go.Addr.mk b'4 0 none)) 1 1), (Go.Value.slice none 0 0)])] (fun x'6 h'7 => (∃ i'8 : Int, (∃ i'9 : Int, (∃ i'10 : Int, (∃ p'11 : Option Go.Addr, (∃ n'12 : Nat, (∃ n'13 : Nat, (∃ i'14 : Int, ((x'6 = (Go.Value.tuple #[(Go.Value.agg #[(Go.Value.int .i64 i'8), (Go.Value.int .i64 i'9), (Go.Value.int .i64 i'10), (Go.Value.slice p'11 n'12 n'13)]), (Go.Value.int .i64 i'14)])) ∧ (brB (i'14 == (0 : Int)) (brB (((n'12 : Nat) : Int) == (1 : Int)) (EvC Go.Proofs.Try.prog w0 40 #[(Go.Value.agg #[(Go.Value.int .i64 i'8), (Go.Value.int .i64 i'9), (Go.Value.int .i64 i'10), (Go.Value.slice p'11 n'12 n'13)]), (Go.Value.int .i64 (0 : Int))] (fun x'15 h'16 => (∃ i'17 : Int, ((x'15 = (Go.Value.int .i64 i'17)) ∧ (K (Go.Value.bool (i'17 == (9 : Int))) h'16)))) h'7) (K (Go.Value.bool false) h'7)) (K (Go.Value.bool false) h'7))))))))))) h'5)))))))) :
  EvC Go.Proofs.Try.prog w0 30 ([]).toArray K h := EvC_intro (P := Go.Proofs.Try.prog) f30_J (Eq.mp (by kernel_rfl) hv)
/-- The laws' own light (layer 15): an edit of nothing, and its size. -/
theorem f30_spec {w0 : World} {K : Value → AH → Prop} {h : AH} (hk : ∀ h', Ext h h' none → K (.bool true) h') : EvC Go.Proofs.Try.prog w0 30 #[] K h := by
  refine f30_go _ fun b0 hb0 n0 b1 hb1 n1 b2 hb2 n2 => ?_
  have s0 : Sl w0 (h.put b0 (.cells (u8s [97]) 1)) 1 (some ⟨b0, 0, none⟩) 1 1 (u8s [97]) := Sl.lit (n := 1) (e := 1) hb0 rfl
  have s1 : Sl w0 ((h.put b0 (.cells (u8s [97]) 1)).put b1 (.cells (u8s [99]) 1)) 1 (some ⟨b1, 0, none⟩) 1 1 (u8s [99]) := Sl.lit (n := 1) (e := 1) hb1 rfl
  let t : Tab := ⟨1, 0, 9, some ⟨b0, 0, none⟩, 1, 1, some ⟨b1, 0, none⟩, 1, 1, [97], [99]⟩
  have s2 : Sl w0 (((h.put b0 (.cells (u8s [97]) 1)).put b1 (.cells (u8s [99]) 1)).put b2 (.cells (tabs [t]) 5)) 5 (some ⟨b2, 0, none⟩) 1 1 (tabs [t]) := Sl.lit (n := 1) (e := 5) hb2 rfl
  have x0 := Ext_put (o := .cells (u8s [97]) 1) n0
  have x1 := Ext_put (o := .cells (u8s [99]) 1) n1
  have x2 := Ext_put (o := .cells (tabs [t]) 5) n2
  have ot : t.Ok w0 (((h.put b0 (.cells (u8s [97]) 1)).put b1 (.cells (u8s [99]) 1)).put b2 (.cells (tabs [t]) 5)) := ⟨(by show (-9223372036854775808 : Int) ≤ 1 ∧ (1 : Int) ≤ 9223372036854775807; decide), (by show (-9223372036854775808 : Int) ≤ 0 ∧ (0 : Int) ≤ 9223372036854775807; decide), (by show (-9223372036854775808 : Int) ≤ 9 ∧ (9 : Int) ≤ 9223372036854775807; decide), ((s0.ext x1).ext x2).rs, (s1.ext x2).rs, rfl, rfl, (by show 1 ≤ 140737488355328; decide), (by show 1 ≤ 140737488355328; decide)⟩
  have tt : TS w0 (((h.put b0 (.cells (u8s [97]) 1)).put b1 (.cells (u8s [99]) 1)).put b2 (.cells (tabs [t]) 5)) (some ⟨b2, 0, none⟩) 1 1 [t] := s2.ts (by omega) fun u hu => by obtain rfl := List.mem_singleton.1 hu; exact ot
  have hcm : cmpL [97] [99] ≤ 0 := by decide
  have hmt : mayT t = true := by simp [mayT, t, hcm]
  have hr : applyR ⟨0, 0, 0, []⟩ 0 2 0 [t] [] = (⟨0, 2, 0, [t]⟩, 0) := by
    simp [applyR, mayV, mayE, mayL, uniqT, uniqN, in62, hmt, putR, nextTo, t]
  have x012 := (x0.trans x1).trans x2
  refine f33_spec (v := ⟨0, 0, 0, []⟩) (lo := 0) (nx := 2) (sq := 0) (add := [t]) (rem := []) (fun a' n' c' h' ts' s' d' x' => ⟨_, _, _, _, _, _, _, rfl, ?_⟩) TS.none0 tt IS.none0 (fun _ => f59_one) (fun _ us S hd hp hs => ?_)
  · rw [hr] at d' ⊢
    have hl := s'.len
    have hlen := congrArg List.length d'
    simp only [List.length_map, List.length_cons, List.length_nil] at hlen
    have hn' : n' = 1 := by omega
    subst hn'
    match ts', hlen with
    | [u], _ =>
      simp only [List.map_cons, List.map_nil, List.cons.injEq, and_true] at d'
      obtain ⟨g1, g2, g3, g4, g5⟩ := dat_ok d'
      have hlev : u.lev = 0 := g2
      have hsiz : u.siz = 9 := g3
      refine brB_of (fun _ => brB_of (fun _ => ?_) fun q => by simp at q) fun q => by simp at q
      refine f40_spec s' (by omega) (fun w hw => by obtain rfl := List.mem_singleton.1 hw; omega) fun h2 x3 => ⟨_, rfl, ?_⟩
      have : sizes ([u].filter fun t => t.lev == 0) = 9 := by simp [sizes, hlev, hsiz]
      rw [this]
      exact hk h2 ((x012.trans x').trans x3)
  · have hlen := congrArg List.length hd
    simp only [List.filter_nil, List.nil_append, List.length_map, List.length_cons, List.length_nil] at hlen
    match us, hlen with
    | [u], _ =>
      have hS : S = [u] := List.perm_singleton.1 hp
      subst hS
      simp only [List.filter_nil, List.nil_append] at hd
      have e : ([t].foldl (fun l t => putR t l) (([] : List Tab).filter fun t => !(([] : List Int).any fun m => m == t.num))) = [t] := rfl
      rw [e]
      exact ⟨mayV_dat hd, fun _ => hd⟩
end Go.G.Ytpnhlgghpciofaa
