/- LevelDiffs by the evaluator. -/
import Derived.Test.YtpnhlgghpciofaaLZ2
import Derived.Test.YtpnhlgghpciofaaProg
set_option maxRecDepth 100000
namespace Go.G.Ytpnhlgghpciofaa
open Go.RowKit
def f48_J : Nat → List Nat × Nat := jOf []



theorem f48_go {w0 : World} {K : Value → AH → Prop} (x0_0 : Int) (x0_1 : Int) (x0_2 : Int) (a0_3 : Option Go.Addr) (n0_3 : Nat) (c0_3 : Nat) (a0_4 : Option Go.Addr) (n0_4 : Nat) (c0_4 : Nat) (x1_0 : Int) (x1_1 : Int) (x1_2 : Int) (a1_3 : Option Go.Addr) (n1_3 : Nat) (c1_3 : Nat) (a1_4 : Option Go.Addr) (n1_4 : Nat) (c1_4 : Nat) (h : AH)
  (hv : (brB (x0_0 == x1_0) (brB (x0_1 == x1_1) (brB (x0_2 == x1_2) (EvC Go.Proofs.Try.prog w0 37 #[(Go.Value.slice a0_3 n0_3 c0_3), (Go.Value.slice a1_3 n1_3 c1_3)] (fun x'0 h'1 => (∃ t'2 : Bool, ((x'0 = (Go.Value.bool t'2)) ∧ (brB t'2 (EvC Go.Proofs.Try.prog w0 51 #[(Go.Value.slice a0_4 n0_4 c0_4), (Go.Value.slice a1_4 n1_4 c1_4)] (fun x'3 h'4 => (∃ t'5 : Bool, ((x'3 = (Go.Value.bool t'5)) ∧ (K (Go.Value.bool t'5) h'4)))) h'1) (K (Go.Value.bool false) h'1))))) h) (K (Go.Value.bool false) h)) (K (Go.Value.bool false) h)) (K (Go.Value.bool false) h))) :
  EvC Go.Proofs.Try.prog w0 48 ([(.agg #[(.int .i64 x0_0), (.int .i64 x0_1), (.int .i64 x0_2), (.slice a0_3 n0_3 c0_3), (.slice a0_4 n0_4 c0_4)]), (.agg #[(.int .i64 x1_0), (.int .i64 x1_1), (.int .i64 x1_2), (.slice a1_3 n1_3 c1_3), (.slice a1_4 n1_4 c1_4)])]).toArray K h := EvC_intro (P := Go.Proofs.Try.prog) f48_J (Eq.mp (by kernel_rfl) hv)
def f28_J : Nat → List Nat × Nat := jOf []



theorem f28_go {w0 : World} {K : Value → AH → Prop} (x0_0 : Int) (x0_1 : Int) (a0_2 : Option Go.Addr) (n0_2 : Nat) (c0_2 : Nat) (x1_0 : Int) (x1_1 : Int) (a1_2 : Option Go.Addr) (n1_2 : Nat) (c1_2 : Nat) (h : AH)
  (hv : (brB (x0_0 == x1_0) (brB (x0_1 == x1_1) (EvC Go.Proofs.Try.prog w0 51 #[(Go.Value.slice a0_2 n0_2 c0_2), (Go.Value.slice a1_2 n1_2 c1_2)] (fun x'0 h'1 => (∃ t'2 : Bool, ((x'0 = (Go.Value.bool t'2)) ∧ (K (Go.Value.bool t'2) h'1)))) h) (K (Go.Value.bool false) h)) (K (Go.Value.bool false) h))) :
  EvC Go.Proofs.Try.prog w0 28 ([(.agg #[(.int .i64 x0_0), (.int .i64 x0_1), (.slice a0_2 n0_2 c0_2)]), (.agg #[(.int .i64 x1_0), (.int .i64 x1_1), (.slice a1_2 n1_2 c1_2)])]).toArray K h := EvC_intro (P := Go.Proofs.Try.prog) f28_J (Eq.mp (by kernel_rfl) hv)
def f51_J : Nat → List Nat × Nat := jOf [(4, [2, 3, 4, 5, 6, 7, 8, 9, 10, 11, 14, 15, 16, 17, 18, 19, 20, 21, 22, 23, 24, 25], 0)]

def f51_4 (w0 : World) (K : Value → AH → Prop) (a0 : Option Go.Addr) (n0 : Nat) (c0 : Nat) (a1 : Option Go.Addr) (n1 : Nat) (c1 : Nat) (x12 : Int) (x13 : Int) (h : AH) : Prop :=
  ∀ j : Nat → Value, LPk Go.Proofs.Try.prog w0 (EvC Go.Proofs.Try.prog w0) f51_J 51 K 4 [.v (.slice a0 n0 c0), .v (.slice a1 n1 c1), .v (j 2), .v (j 3), .v (j 4), .v (j 5), .v (j 6), .v (j 7), .v (j 8), .v (j 9), .v (j 10), .v (j 11), .v (.int .i64 x12), .v (.int .i64 x13), .v (j 14), .v (j 15), .v (j 16), .v (j 17), .v (j 18), .v (j 19), .v (j 20), .v (j 21), .v (j 22), .v (j 23), .v (j 24), .v (j 25)] [] h

theorem f51_4_in {w0 : World} {K : Value → AH → Prop} (a0 : Option Go.Addr) (n0 : Nat) (c0 : Nat) (a1 : Option Go.Addr) (n1 : Nat) (c1 : Nat) (x12 : Int) (x13 : Int) (h : AH)
  (hv : (brB (decide ((x13 < x12))) (∃ a'0 : Go.Addr, ((a0 = (some a'0)) ∧ (((0 : Int) ≤ x13) ∧ ((x13 < ((n0 : Nat) : Int)) ∧ (∃ i'1 : Int, (((Go.G.cellA w0 h (Go.Addr.add a'0 ((Int.toNat x13) * 1))) = (some (Go.Value.int .i64 i'1))) ∧ (∃ a'2 : Go.Addr, ((a1 = (some a'2)) ∧ (((0 : Int) ≤ x13) ∧ ((x13 < ((n1 : Nat) : Int)) ∧ (∃ i'3 : Int, (((Go.G.cellA w0 h (Go.Addr.add a'2 ((Int.toNat x13) * 1))) = (some (Go.Value.int .i64 i'3))) ∧ (brB (i'1 != i'3) (K (Go.Value.bool false) h) (f51_4 w0 K a0 n0 c0 a1 n1 c1 x12 (Go.IntKind.wrap .i64 (x13 + (1 : Int))) h)))))))))))))) (K (Go.Value.bool true) h))) :
  f51_4 w0 K a0 n0 c0 a1 n1 c1 x12 x13 h := fun j => LP_intro (P := Go.Proofs.Try.prog) (Eq.mp (by kernel_rfl) hv)

theorem f51_go {w0 : World} {K : Value → AH → Prop} (a0 : Option Go.Addr) (n0 : Nat) (c0 : Nat) (a1 : Option Go.Addr) (n1 : Nat) (c1 : Nat) (h : AH)
  (hv : (brB (((n0 : Nat) : Int) != ((n1 : Nat) : Int)) (K (Go.Value.bool false) h) (f51_4 w0 K a0 n0 c0 a1 n1 c1 ((n0 : Nat) : Int) (0 : Int) h))) :
  EvC Go.Proofs.Try.prog w0 51 ([(.slice a0 n0 c0), (.slice a1 n1 c1)]).toArray K h := EvC_intro (P := Go.Proofs.Try.prog) f51_J (Eq.mp (by kernel_rfl) hv)
section
variable {w0 : World} {K : Value → AH → Prop} {h : AH} {a b : Option Addr} {n c m d : Nat} {xs : List Int}
theorem f51_4_ok (s : Sl w0 h 1 a n c (ints xs)) (r : Sl w0 h 1 b m d (ints xs)) (hsm : xs.length ≤ 1000000) (hk : K (.bool true) h) :
    ∀ (rest : List Int) (i : Nat), xs.drop i = rest → i ≤ n → f51_4 w0 K a n c b m d ((n : Nat) : Int) ((i : Nat) : Int) h := by
  have hl : n = xs.length := by have := s.1; simp [ints] at this; omega
  have hm : m = xs.length := by have := r.1; simp [ints] at this; omega
  intro rest
  induction rest with
  | nil =>
    intro i hd hi
    have := drop_done hd
    exact f51_4_in _ _ _ _ _ _ _ _ _ (brB_of (fun q => by simp at q; omega) fun _ => hk)
  | cons x t ih =>
    intro i hd hi
    obtain ⟨hget, hd', hlt⟩ := drop_step hd
    refine f51_4_in _ _ _ _ _ _ _ _ _ (brB_of (fun _ => intLoad s.rd hl hget (intLoad r.rd hm hget (brB_of (fun q => by simp at q) fun _ => ?_))) fun q => by simp at q; omega)
    rw [wrapS (by omega)]
    exact ih (i + 1) hd' (by omega)
/-- ref SameNumbers, of the same. -/
theorem f51_spec (s : Sl w0 h 1 a n c (ints xs)) (r : Sl w0 h 1 b m d (ints xs)) (hsm : xs.length ≤ 1000000) (hk : K (.bool true) h) : EvC Go.Proofs.Try.prog w0 51 #[.slice a n c, .slice b m d] K h := by
  have hl : n = xs.length := by have := s.1; simp [ints] at this; omega
  have hm : m = xs.length := by have := r.1; simp [ints] at this; omega
  exact f51_go _ _ _ _ _ _ _ (brB_of (fun q => by simp at q; omega) fun _ => f51_4_ok s r hsm hk xs 0 rfl (by omega))
/-- The law's same, of the same. -/
theorem f28_spec {x y : Int} (s : Sl w0 h 1 a n c (ints xs)) (r : Sl w0 h 1 b m d (ints xs)) (hsm : xs.length ≤ 1000000) (hk : K (.bool true) h) :
    EvC Go.Proofs.Try.prog w0 28 #[.agg #[.int .i64 x, .int .i64 y, .slice a n c], .agg #[.int .i64 x, .int .i64 y, .slice b m d]] K h :=
  f28_go _ _ _ _ _ _ _ _ _ _ _ (brB_of (fun _ => brB_of (fun _ => f51_spec s r hsm ⟨_, rfl, hk⟩) fun q => by simp at q) fun q => by simp at q)
end
def f13_J : Nat → List Nat × Nat := jOf [(2, [0, 1, 2, 3, 4, 5, 6, 7, 8, 9, 10, 11, 12, 13, 14, 15, 16, 17, 18, 19, 20, 21, 22, 25, 26, 27, 28, 29, 30, 31, 32, 33, 34, 35, 36, 37, 38, 39, 40, 41, 42, 43, 44, 45, 46, 47, 48, 49, 50, 51, 52, 53, 54, 55, 56, 57, 58, 59, 60, 61, 62, 63, 64, 65], 0), (5, [0, 1, 2, 3, 4, 5, 6, 7, 8, 9, 11, 12, 13, 14, 15, 16, 17, 18, 19, 20, 21, 22, 25, 26, 27, 28, 29, 30, 31, 32, 33, 34, 35, 36, 37, 38, 39, 40, 41, 42, 43, 44, 45, 46, 47, 48, 49, 50, 51, 52, 53, 54, 55, 56, 57, 58, 59, 60, 61, 62, 63, 64, 65], 1), (8, [0, 1, 2, 3, 4, 5, 6, 7, 8, 9, 10, 11, 12, 13, 14, 15, 16, 17, 18, 19, 20, 21, 22, 25, 26, 27, 28, 29, 30, 31, 32, 33, 34, 35, 36, 37, 38, 39, 40, 41, 42, 43, 44, 45, 46, 47, 48, 49, 50, 51, 52, 53, 54, 55, 56, 57, 58, 59, 60, 61, 62, 64, 65], 0)]

def f13_2 (w0 : World) (K : Value → AH → Prop) (x23_0 : Int) (x23_1 : Int) (x23_2 : Int) (a23_3 : Option Go.Addr) (n23_3 : Nat) (c23_3 : Nat) (x23_4 : Int) (x23_5 : Int) (x23_6 : Int) (a23_7 : Option Go.Addr) (n23_7 : Nat) (c23_7 : Nat) (x23_8 : Int) (x23_9 : Int) (x23_10 : Int) (a23_11 : Option Go.Addr) (n23_11 : Nat) (c23_11 : Nat) (x23_12 : Int) (x23_13 : Int) (x23_14 : Int) (a23_15 : Option Go.Addr) (n23_15 : Nat) (c23_15 : Nat) (x24 : Int) (h : AH) : Prop :=
  ∀ j : Nat → Value, LPk Go.Proofs.Try.prog w0 (EvC Go.Proofs.Try.prog w0) f13_J 13 K 2 [.v (j 0), .v (j 1), .v (j 2), .v (j 3), .v (j 4), .v (j 5), .v (j 6), .v (j 7), .v (j 8), .v (j 9), .v (j 10), .v (j 11), .v (j 12), .v (j 13), .v (j 14), .v (j 15), .v (j 16), .v (j 17), .v (j 18), .v (j 19), .v (j 20), .v (j 21), .v (j 22), .v (.agg #[(.int .i64 x23_0), (.int .i64 x23_1), (.int .i64 x23_2), (.slice a23_3 n23_3 c23_3), (.int .i64 x23_4), (.int .i64 x23_5), (.int .i64 x23_6), (.slice a23_7 n23_7 c23_7), (.int .i64 x23_8), (.int .i64 x23_9), (.int .i64 x23_10), (.slice a23_11 n23_11 c23_11), (.int .i64 x23_12), (.int .i64 x23_13), (.int .i64 x23_14), (.slice a23_15 n23_15 c23_15)]), .v (.int .i64 x24), .v (j 25), .v (j 26), .v (j 27), .v (j 28), .v (j 29), .v (j 30), .v (j 31), .v (j 32), .v (j 33), .v (j 34), .v (j 35), .v (j 36), .v (j 37), .v (j 38), .v (j 39), .v (j 40), .v (j 41), .v (j 42), .v (j 43), .v (j 44), .v (j 45), .v (j 46), .v (j 47), .v (j 48), .v (j 49), .v (j 50), .v (j 51), .v (j 52), .v (j 53), .v (j 54), .v (j 55), .v (j 56), .v (j 57), .v (j 58), .v (j 59), .v (j 60), .v (j 61), .v (j 62), .v (j 63), .v (j 64), .v (j 65)] [] h

def f13_5 (w0 : World) (K : Value → AH → Prop) (x23_0 : Int) (x23_1 : Int) (x23_2 : Int) (a23_3 : Option Go.Addr) (n23_3 : Nat) (c23_3 : Nat) (x23_4 : Int) (x23_5 : Int) (x23_6 : Int) (a23_7 : Option Go.Addr) (n23_7 : Nat) (c23_7 : Nat) (x23_8 : Int) (x23_9 : Int) (x23_10 : Int) (a23_11 : Option Go.Addr) (n23_11 : Nat) (c23_11 : Nat) (x23_12 : Int) (x23_13 : Int) (x23_14 : Int) (a23_15 : Option Go.Addr) (n23_15 : Nat) (c23_15 : Nat) (x24 : Int) (xb0_0 : Int) (xb0_1 : Int) (xb0_2 : Int) (ab0_3 : Option Go.Addr) (nb0_3 : Nat) (cb0_3 : Nat) (xb0_4 : Int) (xb0_5 : Int) (xb0_6 : Int) (ab0_7 : Option Go.Addr) (nb0_7 : Nat) (cb0_7 : Nat) (h : AH) : Prop :=
  ∀ j : Nat → Value, LPk Go.Proofs.Try.prog w0 (EvC Go.Proofs.Try.prog w0) f13_J 13 K 5 [.v (j 0), .v (j 1), .v (j 2), .v (j 3), .v (j 4), .v (j 5), .v (j 6), .v (j 7), .v (j 8), .v (j 9), .bp 0 0, .v (j 11), .v (j 12), .v (j 13), .v (j 14), .v (j 15), .v (j 16), .v (j 17), .v (j 18), .v (j 19), .v (j 20), .v (j 21), .v (j 22), .v (.agg #[(.int .i64 x23_0), (.int .i64 x23_1), (.int .i64 x23_2), (.slice a23_3 n23_3 c23_3), (.int .i64 x23_4), (.int .i64 x23_5), (.int .i64 x23_6), (.slice a23_7 n23_7 c23_7), (.int .i64 x23_8), (.int .i64 x23_9), (.int .i64 x23_10), (.slice a23_11 n23_11 c23_11), (.int .i64 x23_12), (.int .i64 x23_13), (.int .i64 x23_14), (.slice a23_15 n23_15 c23_15)]), .v (.int .i64 x24), .v (j 25), .v (j 26), .v (j 27), .v (j 28), .v (j 29), .v (j 30), .v (j 31), .v (j 32), .v (j 33), .v (j 34), .v (j 35), .v (j 36), .v (j 37), .v (j 38), .v (j 39), .v (j 40), .v (j 41), .v (j 42), .v (j 43), .v (j 44), .v (j 45), .v (j 46), .v (j 47), .v (j 48), .v (j 49), .v (j 50), .v (j 51), .v (j 52), .v (j 53), .v (j 54), .v (j 55), .v (j 56), .v (j 57), .v (j 58), .v (j 59), .v (j 60), .v (j 61), .v (j 62), .v (j 63), .v (j 64), .v (j 65)] [some [(.int .i64 xb0_0), (.int .i64 xb0_1), (.int .i64 xb0_2), (.slice ab0_3 nb0_3 cb0_3), (.int .i64 xb0_4), (.int .i64 xb0_5), (.int .i64 xb0_6), (.slice ab0_7 nb0_7 cb0_7)]] h

def f13_8 (w0 : World) (K : Value → AH → Prop) (x23_0 : Int) (x23_1 : Int) (x23_2 : Int) (a23_3 : Option Go.Addr) (n23_3 : Nat) (c23_3 : Nat) (x23_4 : Int) (x23_5 : Int) (x23_6 : Int) (a23_7 : Option Go.Addr) (n23_7 : Nat) (c23_7 : Nat) (x23_8 : Int) (x23_9 : Int) (x23_10 : Int) (a23_11 : Option Go.Addr) (n23_11 : Nat) (c23_11 : Nat) (x23_12 : Int) (x23_13 : Int) (x23_14 : Int) (a23_15 : Option Go.Addr) (n23_15 : Nat) (c23_15 : Nat) (x24 : Int) (x63 : Bool) (h : AH) : Prop :=
  ∀ j : Nat → Value, LPk Go.Proofs.Try.prog w0 (EvC Go.Proofs.Try.prog w0) f13_J 13 K 8 [.v (j 0), .v (j 1), .v (j 2), .v (j 3), .v (j 4), .v (j 5), .v (j 6), .v (j 7), .v (j 8), .v (j 9), .v (j 10), .v (j 11), .v (j 12), .v (j 13), .v (j 14), .v (j 15), .v (j 16), .v (j 17), .v (j 18), .v (j 19), .v (j 20), .v (j 21), .v (j 22), .v (.agg #[(.int .i64 x23_0), (.int .i64 x23_1), (.int .i64 x23_2), (.slice a23_3 n23_3 c23_3), (.int .i64 x23_4), (.int .i64 x23_5), (.int .i64 x23_6), (.slice a23_7 n23_7 c23_7), (.int .i64 x23_8), (.int .i64 x23_9), (.int .i64 x23_10), (.slice a23_11 n23_11 c23_11), (.int .i64 x23_12), (.int .i64 x23_13), (.int .i64 x23_14), (.slice a23_15 n23_15 c23_15)]), .v (.int .i64 x24), .v (j 25), .v (j 26), .v (j 27), .v (j 28), .v (j 29), .v (j 30), .v (j 31), .v (j 32), .v (j 33), .v (j 34), .v (j 35), .v (j 36), .v (j 37), .v (j 38), .v (j 39), .v (j 40), .v (j 41), .v (j 42), .v (j 43), .v (j 44), .v (j 45), .v (j 46), .v (j 47), .v (j 48), .v (j 49), .v (j 50), .v (j 51), .v (j 52), .v (j 53), .v (j 54), .v (j 55), .v (j 56), .v (j 57), .v (j 58), .v (j 59), .v (j 60), .v (j 61), .v (j 62), .v (.bool x63), .v (j 64), .v (j 65)] [] h

theorem f13_2_in {w0 : World} {K : Value → AH → Prop} (x23_0 : Int) (x23_1 : Int) (x23_2 : Int) (a23_3 : Option Go.Addr) (n23_3 : Nat) (c23_3 : Nat) (x23_4 : Int) (x23_5 : Int) (x23_6 : Int) (a23_7 : Option Go.Addr) (n23_7 : Nat) (c23_7 : Nat) (x23_8 : Int) (x23_9 : Int) (x23_10 : Int) (a23_11 : Option Go.Addr) (n23_11 : Nat) (c23_11 : Nat) (x23_12 : Int) (x23_13 : Int) (x23_14 : Int) (a23_15 : Option Go.Addr) (n23_15 : Nat) (c23_15 : Nat) (x24 : Int) (h : AH)
  (hv : (brB (decide ((x24 < (2 : Int)))) (((0 : Int) ≤ x24) ∧ ((x24 < (2 : Int)) ∧ (∃ i'16 : Int, (∃ i'17 : Int, (∃ i'18 : Int, (∃ p'19 : Option Go.Addr, (∃ n'20 : Nat, (∃ n'21 : Nat, (∃ i'22 : Int, (∃ i'23 : Int, (∃ i'24 : Int, (∃ p'25 : Option Go.Addr, (∃ n'26 : Nat, (∃ n'27 : Nat, ((Go.G.elemIs Go.Proofs.Try.prog 67 [(Go.Value.int .i64 x23_0), (Go.Value.int .i64 x23_1), (Go.Value.int .i64 x23_2), (Go.Value.slice a23_3 n23_3 c23_3), (Go.Value.int .i64 x23_4), (Go.Value.int .i64 x23_5), (Go.Value.int .i64 x23_6), (Go.Value.slice a23_7 n23_7 c23_7), (Go.Value.int .i64 x23_8), (Go.Value.int .i64 x23_9), (Go.Value.int .i64 x23_10), (Go.Value.slice a23_11 n23_11 c23_11), (Go.Value.int .i64 x23_12), (Go.Value.int .i64 x23_13), (Go.Value.int .i64 x23_14), (Go.Value.slice a23_15 n23_15 c23_15)] (Int.toNat x24) (Go.Value.agg #[(Go.Value.int .i64 i'16), (Go.Value.int .i64 i'17), (Go.Value.int .i64 i'18), (Go.Value.slice p'19 n'20 n'21), (Go.Value.int .i64 i'22), (Go.Value.int .i64 i'23), (Go.Value.int .i64 i'24), (Go.Value.slice p'25 n'26 n'27)])) ∧ (((0 : Int) ≤ (0 : Int)) ∧ (((0 : Int) < (2 : Int)) ∧ (EvC Go.Proofs.Try.prog w0 29 #[(Go.Value.slice p'19 n'20 n'21)] (fun x'28 h'29 => (∃ t'30 : Bool, ((x'28 = (Go.Value.bool t'30)) ∧ (brB (!t'30) (f13_2 w0 K x23_0 x23_1 x23_2 a23_3 n23_3 c23_3 x23_4 x23_5 x23_6 a23_7 n23_7 c23_7 x23_8 x23_9 x23_10 a23_11 n23_11 c23_11 x23_12 x23_13 x23_14 a23_15 n23_15 c23_15 (Go.IntKind.wrap .i64 (x24 + (1 : Int))) h'29) (((0 : Int) ≤ (1 : Int)) ∧ (((1 : Int) < (2 : Int)) ∧ (EvC Go.Proofs.Try.prog w0 29 #[(Go.Value.slice p'25 n'26 n'27)] (fun x'31 h'32 => (∃ t'33 : Bool, ((x'31 = (Go.Value.bool t'33)) ∧ (brB (!t'33) (f13_2 w0 K x23_0 x23_1 x23_2 a23_3 n23_3 c23_3 x23_4 x23_5 x23_6 a23_7 n23_7 c23_7 x23_8 x23_9 x23_10 a23_11 n23_11 c23_11 x23_12 x23_13 x23_14 a23_15 n23_15 c23_15 (Go.IntKind.wrap .i64 (x24 + (1 : Int))) h'32) (f13_5 w0 K x23_0 x23_1 x23_2 a23_3 n23_3 c23_3 x23_4 x23_5 x23_6 a23_7 n23_7 c23_7 x23_8 x23_9 x23_10 a23_11 n23_11 c23_11 x23_12 x23_13 x23_14 a23_15 n23_15 c23_15 x24 i'16 i'17 i'18 p'19 n'20 n'21 i'22 i'23 i'24 p'25 n'26 n'27 h'32))))) h'29))))))) h)))))))))))))))))) (EvC Go.Proofs.Try.prog w0 30 #[] (fun x'34 h'35 => (∃ t'36 : Bool, ((x'34 = (Go.Value.bool t'36)) ∧ (K (Go.Value.bool t'36) h'35)))) h))) :
  f13_2 w0 K x23_0 x23_1 x23_2 a23_3 n23_3 c23_3 x23_4 x23_5 x23_6 a23_7 n23_7 c23_7 x23_8 x23_9 x23_10 a23_11 n23_11 c23_11 x23_12 x23_13 x23_14 a23_15 n23_15 c23_15 x24 h := fun j => LP_intro (P := Go.Proofs.Try.prog) (Eq.mp (by kernel_rfl) hv)

theorem f13_5_in {w0 : World} {K : Value → AH → Prop} (x23_0 : Int) (x23_1 : Int) (x23_2 : Int) (a23_3 : Option Go.Addr) (n23_3 : Nat) (c23_3 : Nat) (x23_4 : Int) (x23_5 : Int) (x23_6 : Int) (a23_7 : Option Go.Addr) (n23_7 : Nat) (c23_7 : Nat) (x23_8 : Int) (x23_9 : Int) (x23_10 : Int) (a23_11 : Option Go.Addr) (n23_11 : Nat) (c23_11 : Nat) (x23_12 : Int) (x23_13 : Int) (x23_14 : Int) (a23_15 : Option Go.Addr) (n23_15 : Nat) (c23_15 : Nat) (x24 : Int) (xb0_0 : Int) (xb0_1 : Int) (xb0_2 : Int) (ab0_3 : Option Go.Addr) (nb0_3 : Nat) (cb0_3 : Nat) (xb0_4 : Int) (xb0_5 : Int) (xb0_6 : Int) (ab0_7 : Option Go.Addr) (nb0_7 : Nat) (cb0_7 : Nat) (h : AH)
  (hv : (((0 : Int) ≤ (0 : Int)) ∧ (((0 : Int) < (2 : Int)) ∧ (((0 : Int) ≤ (1 : Int)) ∧ (((1 : Int) < (2 : Int)) ∧ (EvC Go.Proofs.Try.prog w0 46 #[(Go.Value.agg #[(Go.Value.int .i64 xb0_0), (Go.Value.int .i64 xb0_1), (Go.Value.int .i64 xb0_2), (Go.Value.slice ab0_3 nb0_3 cb0_3)]), (Go.Value.agg #[(Go.Value.int .i64 xb0_4), (Go.Value.int .i64 xb0_5), (Go.Value.int .i64 xb0_6), (Go.Value.slice ab0_7 nb0_7 cb0_7)])] (fun x'37 h'38 => (∃ i'39 : Int, (∃ i'40 : Int, (∃ i'41 : Int, (∃ p'42 : Option Go.Addr, (∃ n'43 : Nat, (∃ n'44 : Nat, (∃ p'45 : Option Go.Addr, (∃ n'46 : Nat, (∃ n'47 : Nat, (∃ i'48 : Int, ((x'37 = (Go.Value.tuple #[(Go.Value.agg #[(Go.Value.int .i64 i'39), (Go.Value.int .i64 i'40), (Go.Value.int .i64 i'41), (Go.Value.slice p'42 n'43 n'44), (Go.Value.slice p'45 n'46 n'47)]), (Go.Value.int .i64 i'48)])) ∧ (((0 : Int) ≤ (0 : Int)) ∧ (((0 : Int) < (2 : Int)) ∧ (((0 : Int) ≤ (1 : Int)) ∧ (((1 : Int) < (2 : Int)) ∧ (EvC Go.Proofs.Try.prog w0 47 #[(Go.Value.agg #[(Go.Value.int .i64 xb0_0), (Go.Value.int .i64 xb0_1), (Go.Value.int .i64 xb0_2), (Go.Value.slice ab0_3 nb0_3 cb0_3)]), (Go.Value.agg #[(Go.Value.int .i64 xb0_4), (Go.Value.int .i64 xb0_5), (Go.Value.int .i64 xb0_6), (Go.Value.slice ab0_7 nb0_7 cb0_7)])] (fun x'49 h'50 => (∃ i'51 : Int, (∃ i'52 : Int, (∃ i'53 : Int, (∃ p'54 : Option Go.Addr, (∃ n'55 : Nat, (∃ n'56 : Nat, (∃ p'57 : Option Go.Addr, (∃ n'58 : Nat, (∃ n'59 : Nat, (∃ i'60 : Int, ((x'49 = (Go.Value.tuple #[(Go.Value.agg #[(Go.Value.int .i64 i'51), (Go.Value.int .i64 i'52), (Go.Value.int .i64 i'53), (Go.Value.slice p'54 n'55 n'56), (Go.Value.slice p'57 n'58 n'59)]), (Go.Value.int .i64 i'60)])) ∧ (brB (i'48 != i'60) (f13_8 w0 K x23_0 x23_1 x23_2 a23_3 n23_3 c23_3 x23_4 x23_5 x23_6 a23_7 n23_7 c23_7 x23_8 x23_9 x23_10 a23_11 n23_11 c23_11 x23_12 x23_13 x23_14 a23_15 n23_15 c23_15 x24 true h'50) (EvC Go.Proofs.Try.prog w0 48 #[(Go.Value.agg #[(Go.Value.int .i64 i'39), (Go.Value.int .i64 i'40), (Go.Value.int .i64 i'41), (Go.Value.slice p'42 n'43 n'44), (Go.Value.slice p'45 n'46 n'47)]), (Go.Value.agg #[(Go.Value.int .i64 i'51), (Go.Value.int .i64 i'52), (Go.Value.int .i64 i'53), (Go.Value.slice p'54 n'55 n'56), (Go.Value.slice p'57 n'58 n'59)])] (fun x'61 h'62 => (∃ t'63 : Bool, ((x'61 = (Go.Value.bool t'63)) ∧ (f13_8 w0 K x23_0 x23_1 x23_2 a23_3 n23_3 c23_3 x23_4 x23_5 x23_6 a23_7 n23_7 c23_7 x23_8 x23_9 x23_10 a23_11 n23_11 c23_11 x23_12 x23_13 x23_14 a23_15 n23_15 c23_15 x24 (!t'63) h'62)))) h'50)))))))))))))) h'38))))))))))))))))) h)))))) :
  f13_5 w0 K x23_0 x23_1 x23_2 a23_3 n23_3 c23_3 x23_4 x23_5 x23_6 a23_7 n23_7 c23_7 x23_8 x23_9 x23_10 a23_11 n23_11 c23_11 x23_12 x23_13 x23_14 a23_15 n23_15 c23_15 x24 xb0_0 xb0_1 xb0_2 ab0_3 nb0_3 cb0_3 xb0_4 xb0_5 xb0_6 ab0_7 nb0_7 cb0_7 h := fun j => LP_intro (P := Go.Proofs.Try.prog) (Eq.mp (by kernel_rfl) hv)

theorem f13_8_in {w0 : World} {K : Value → AH → Prop} (x23_0 : Int) (x23_1 : Int) (x23_2 : Int) (a23_3 : Option Go.Addr) (n23_3 : Nat) (c23_3 : Nat) (x23_4 : Int) (x23_5 : Int) (x23_6 : Int) (a23_7 : Option Go.Addr) (n23_7 : Nat) (c23_7 : Nat) (x23_8 : Int) (x23_9 : Int) (x23_10 : Int) (a23_11 : Option Go.Addr) (n23_11 : Nat) (c23_11 : Nat) (x23_12 : Int) (x23_13 : Int) (x23_14 : Int) (a23_15 : Option Go.Addr) (n23_15 : Nat) (c23_15 : Nat) (x24 : Int) (x63 : Bool) (h : AH)
  (hv : (brB x63 (K (Go.Value.bool false) h) (f13_2 w0 K x23_0 x23_1 x23_2 a23_3 n23_3 c23_3 x23_4 x23_5 x23_6 a23_7 n23_7 c23_7 x23_8 x23_9 x23_10 a23_11 n23_11 c23_11 x23_12 x23_13 x23_14 a23_15 n23_15 c23_15 (Go.IntKind.wrap .i64 (x24 + (1 : Int))) h))) :
  f13_8 w0 K x23_0 x23_1 x23_2 a23_3 n23_3 c23_3 x23_4 x23_5 x23_6 a23_7 n23_7 c23_7 x23_8 x23_9 x23_10 a23_11 n23_11 c23_11 x23_12 x23_13 x23_14 a23_15 n23_15 c23_15 x24 x63 h := fun j => LP_intro (P := Go.Proofs.Try.prog) (Eq.mp (by kernel_rfl) hv)

theorem f13_go {w0 : World} {K : Value → AH → Prop} (a0 : Option Go.Addr) (n0 : Nat) (c0 : Nat) (a1 : Option Go.Addr) (n1 : Nat) (c1 : Nat) (x2_0 : Int) (x2_1 : Int) (x2_2 : Int) (a2_3 : Option Go.Addr) (n2_3 : Nat) (c2_3 : Nat) (x3_0 : Int) (x3_1 : Int) (x3_2 : Int) (a3_3 : Option Go.Addr) (n3_3 : Nat) (c3_3 : Nat) (h : AH)
  (hv : (EvC Go.Proofs.Try.prog w0 36 #[(Go.Value.slice a0 n0 c0)] (fun x'0 h'1 => (∃ i'2 : Int, (∃ i'3 : Int, (∃ i'4 : Int, (∃ p'5 : Option Go.Addr, (∃ n'6 : Nat, (∃ n'7 : Nat, ((x'0 = (Go.Value.agg #[(Go.Value.int .i64 i'2), (Go.Value.int .i64 i'3), (Go.Value.int .i64 i'4), (Go.Value.slice p'5 n'6 n'7)])) ∧ (EvC Go.Proofs.Try.prog w0 36 #[(Go.Value.slice a1 n1 c1)] (fun x'8 h'9 => (∃ i'10 : Int, (∃ i'11 : Int, (∃ i'12 : Int, (∃ p'13 : Option Go.Addr, (∃ n'14 : Nat, (∃ n'15 : Nat, ((x'8 = (Go.Value.agg #[(Go.Value.int .i64 i'10), (Go.Value.int .i64 i'11), (Go.Value.int .i64 i'12), (Go.Value.slice p'13 n'14 n'15)])) ∧ (f13_2 w0 K i'2 i'3 i'4 p'5 n'6 n'7 i'10 i'11 i'12 p'13 n'14 n'15 x2_0 x2_1 x2_2 a2_3 n2_3 c2_3 x3_0 x3_1 x3_2 a3_3 n3_3 c3_3 (0 : Int) h'9))))))))) h'1))))))))) h)) :
  EvC Go.Proofs.Try.prog w0 13 ([(.slice a0 n0 c0), (.slice a1 n1 c1), (.agg #[(.int .i64 x2_0), (.int .i64 x2_1), (.int .i64 x2_2), (.slice a2_3 n2_3 c2_3)]), (.agg #[(.int .i64 x3_0), (.int .i64 x3_1), (.int .i64 x3_2), (.slice a3_3 n3_3 c3_3)])]).toArray K h := EvC_intro (P := Go.Proofs.Try.prog) f13_J (Eq.mp (by kernel_rfl) hv)
/-! ### the plain law of Diff -/
theorem insR_perm (x : Int) (l : List Int) : (insR x l).Perm (x :: l) := by
  have := List.takeWhile_append_dropWhile (p := fun y => decide (y < x)) (l := l)
  conv => rhs; rw [← this]
  exact List.perm_middle
theorem insR_so {x : Int} : ∀ {l : List Int}, l.Pairwise (fun a b => a ≤ b) → (insR x l).Pairwise fun a b => a ≤ b
  | [], _ => by simp [insR]
  | y :: l, h => by
    rw [List.pairwise_cons] at h
    by_cases q : y < x
    · have ih := insR_so (x := x) h.2
      have e : insR x (y :: l) = y :: insR x l := by simp [insR, q]
      rw [e, List.pairwise_cons]
      refine ⟨fun z hz => ?_, ih⟩
      rcases List.mem_cons.1 ((insR_perm x l).mem_iff.1 hz) with rfl | hz
      · omega
      · exact h.1 z hz
    · have e : insR x (y :: l) = x :: y :: l := by simp [insR, q]
      rw [e, List.pairwise_cons, List.pairwise_cons]
      refine ⟨fun z hz => ?_, h⟩
      rcases List.mem_cons.1 hz with rfl | hz
      · omega
      · have := h.1 z hz; omega
theorem ins_fold : ∀ (l : List Tab) (zs : List Int), zs.Pairwise (fun a b => a ≤ b) → ((l.foldl (fun l t => insR t.num l) zs).Pairwise fun a b => a ≤ b) ∧ (l.foldl (fun l t => insR t.num l) zs).Perm (zs ++ l.map Tab.num)
  | [], zs, h => ⟨h, by simp⟩
  | t :: l, zs, h => by
    obtain ⟨h1, h2⟩ := ins_fold l (insR t.num zs) (insR_so h)
    refine ⟨h1, h2.trans ?_⟩
    refine ((insR_perm t.num zs).append_right _).trans ?_
    rw [List.map_cons]
    exact List.perm_middle.symm
theorem miss_eq {us : List Tab} (hn : (us.map Tab.num).Nodup) (t : Tab) : missR us t = !(us.any fun u => decide (t.dat = u.dat)) := by
  unfold missR
  cases hf : us.find? (fun u => u.num == t.num) with
  | none =>
    have : us.any (fun u => decide (t.dat = u.dat)) = false := by
      rw [List.any_eq_false]
      intro u hu q
      have h1 := List.find?_eq_none.1 hf u hu
      have h2 := (dat_ok (of_decide_eq_true q)).1
      simp [h2] at h1
    rw [this]; rfl
  | some u =>
    have hu := List.mem_of_find?_eq_some hf
    have hnum : u.num = t.num := by have := List.find?_some hf; simpa using this
    have : us.any (fun v => decide (t.dat = v.dat)) = decide (t.dat = u.dat) := by
      rw [Bool.eq_iff_iff, List.any_eq_true]
      refine ⟨fun ⟨v, hv, e⟩ => ?_, fun e => ⟨u, hu, e⟩⟩
      have h2 := (dat_ok (of_decide_eq_true e)).1
      have := num_inj hn hu hv (by rw [hnum, h2])
      subst this; exact e
    rw [this]
theorem filter_miss {us : List Tab} (hn : (us.map Tab.num).Nodup) (l : List Tab) : l.filter (missR us) = withoutR l us := by
  unfold withoutR
  exact List.filter_congr fun t _ => miss_eq hn t
theorem rem_eq {x y : List Tab} (hn : (y.map Tab.num).Nodup) : remR x y = sortL ((withoutR x y).map Tab.num) := by
  unfold remR
  rw [filter_miss hn]
  obtain ⟨h1, h2⟩ := ins_fold (withoutR x y) [] List.Pairwise.nil
  exact (sortL_eq (by simpa using h2) h1).symm
theorem f48_spec {w0 : World} {K : Value → AH → Prop} {h : AH} {lo nx sq : Int} {a b a2 b2 : Option Addr} {n c d n2 c2 d2 : Nat} {us ws : List Tab} {zs : List Int} (s : TS w0 h a n c us) (r : TS w0 h a2 n2 c2 ws) (hd : us.map Tab.dat = ws.map Tab.dat)
    (s4 : Sl w0 h 1 b zs.length d (ints zs)) (r4 : Sl w0 h 1 b2 zs.length d2 (ints zs)) (hz : zs.length ≤ 1000000) (hk : K (.bool true) h) :
    EvC Go.Proofs.Try.prog w0 48 #[.agg #[.int .i64 lo, .int .i64 nx, .int .i64 sq, .slice a n c, .slice b zs.length d], .agg #[.int .i64 lo, .int .i64 nx, .int .i64 sq, .slice a2 n2 c2, .slice b2 zs.length d2]] K h :=
  f48_go _ _ _ _ _ _ _ _ _ _ _ _ _ _ _ _ _ _ _ (brB_of (fun _ => brB_of (fun _ => brB_of (fun _ => f37_spec s r hd ⟨_, rfl, brB_of (fun _ => f51_spec s4 r4 hz ⟨_, rfl, hk⟩) fun q => by cases q⟩) fun q => by simp at q) fun q => by simp at q) fun q => by simp at q)
/-- LevelDiffs holds. -/
theorem f13_spec {w0 : World} {K : Value → AH → Prop} {h0 : AH} {e0 e1 a b : Option Addr} {m0 g0 m1 g1 n c m d : Nat} {es fs : List Edi} {x y : Ver} (se : ES w0 h0 e0 m0 g0 es) (sf : ES w0 h0 e1 m1 g1 fs) (s : TS w0 h0 a n c x.ts) (r : TS w0 h0 b m d y.ts)
    (hk : ∀ h', Ext h0 h' none → K (.bool true) h') :
    EvC Go.Proofs.Try.prog w0 13 #[.slice e0 m0 g0, .slice e1 m1 g1, .agg #[.int .i64 x.lo, .int .i64 x.nx, .int .i64 x.sq, .slice a n c], .agg #[.int .i64 y.lo, .int .i64 y.nx, .int .i64 y.sq, .slice b m d]] K h0 := by
  refine f13_go _ _ _ _ _ _ _ _ _ _ _ _ _ _ _ _ _ _ _ (f36_spec se fun a0 n0 c0 h1 s0 x1 => ⟨_, _, _, _, _, _, rfl, f36_spec (sf.ext x1) fun a1 n1 c1 h2 s1 x2 => ⟨_, _, _, _, _, _, rfl, ?_⟩⟩)
  have hx2 := x1.trans x2
  have s0' := s0.ext x2
  have s' := s.ext hx2
  have r' := r.ext hx2
  generalize builtR es = p at s0' ⊢
  generalize builtR fs = q at s1 ⊢
  have cmp : ∀ (u v : Ver) (ua : Option Addr) (un uc : Nat) (va : Option Addr) (vn vc : Nat) (i : Int) (h3 : AH), TS w0 h3 ua un uc u.ts → TS w0 h3 va vn vc v.ts → Ext h2 h3 none →
      (∀ h4, Ext h2 h4 none → f13_2 w0 K p.lo p.nx p.sq a0 n0 c0 q.lo q.nx q.sq a1 n1 c1 x.lo x.nx x.sq a n c y.lo y.nx y.sq b m d (IntKind.i64.wrap (i + 1)) h4) →
      f13_5 w0 K p.lo p.nx p.sq a0 n0 c0 q.lo q.nx q.sq a1 n1 c1 x.lo x.nx x.sq a n c y.lo y.nx y.sq b m d i u.lo u.nx u.sq ua un uc v.lo v.nx v.sq va vn vc h3 := fun u v ua un uc va vn vc i h3 su sv hx hn => by
    have eight : ∀ h4, Ext h2 h4 none → f13_8 w0 K p.lo p.nx p.sq a0 n0 c0 q.lo q.nx q.sq a1 n1 c1 x.lo x.nx x.sq a n c y.lo y.nx y.sq b m d i false h4 := fun h4 hx4 =>
      f13_8_in _ _ _ _ _ _ _ _ _ _ _ _ _ _ _ _ _ _ _ _ _ _ _ _ _ _ _ (brB_of (fun z => by cases z) fun _ => hn h4 hx4)
    refine f13_5_in _ _ _ _ _ _ _ _ _ _ _ _ _ _ _ _ _ _ _ _ _ _ _ _ _ _ _ _ _ _ _ _ _ _ _ _ _ _ ⟨by decide, by decide, by decide, by decide, ?_⟩
    refine f46_spec su sv mayV_len mayV_len (fun a5 n5 c5 h5 ts5 b5 d5 hd s5 e5 o5 z5 x5 => ⟨_, _, _, _, _, _, _, _, _, _, rfl, by decide, by decide, by decide, by decide, ?_⟩) fun h5 hd x5 => ⟨_, _, _, _, _, _, _, _, _, _, rfl, by decide, by decide, by decide, by decide, ?_⟩
    · obtain ⟨mu, mv, _⟩ := diffB_may hd
      have hlen5 := s5.len5
      have hl5 := congrArg List.length e5
      simp only [List.length_map] at hl5
      have := withoutR_le v.ts u.ts
      have := withoutR_le u.ts v.ts
      have lu := mayV_len mu
      have lv := mayV_len mv
      refine f47_spec (su.ext x5) (sv.ext x5) mayV_len mayV_len (fun a6 n6 c6 h6 b6 d6 _ s6 o6 z6 x6 => ⟨_, _, _, _, _, _, _, _, _, _, rfl, brB_of (fun z => by simp at z) fun _ => ?_⟩) fun h6 hd6 _ => by rw [hd] at hd6; cases hd6
      have t5 : TS w0 h6 a5 n5 c5 ts5 := (s5.ext x6).ts (by omega) fun t ht => (o5 t ht).ext x6
      have hlen6 := s6.len5
      rw [filter_miss (mayV_nodup mu)] at s6 o6 hlen6
      have t6 : TS w0 h6 a6 n6 c6 (withoutR v.ts u.ts) := s6.ts (by omega) o6
      rw [rem_eq (mayV_nodup mv)] at z6 ⊢
      have ez : (sortL ((withoutR u.ts v.ts).map Tab.num)).length = (withoutR u.ts v.ts).length := by rw [sortL_len, List.length_map]
      have z5' := z5.ext x6
      rw [← ez] at z5' ⊢
      exact f48_spec t5 t6 e5 z5' z6 (by rw [ez]; omega) ⟨_, rfl, eight h6 ((hx.trans x5).trans x6)⟩
    · refine f47_spec (su.ext x5) (sv.ext x5) mayV_len mayV_len (fun a6 n6 c6 h6 b6 d6 hd6 => by rw [hd] at hd6; cases hd6) fun h6 _ x6 => ⟨_, _, _, _, _, _, _, _, _, _, rfl, brB_of (fun z => by simp at z) fun _ => ?_⟩
      exact f48_spec (zs := []) TS.none0 TS.none0 rfl (by simpa [ints] using Sl.nil) (by simpa [ints] using Sl.nil) (by simp) ⟨_, rfl, eight h6 ((hx.trans x5).trans x6)⟩
  have fin : ∀ h3, Ext h2 h3 none → f13_2 w0 K p.lo p.nx p.sq a0 n0 c0 q.lo q.nx q.sq a1 n1 c1 x.lo x.nx x.sq a n c y.lo y.nx y.sq b m d (2 : Int) h3 := fun h3 hx3 =>
    f13_2_in _ _ _ _ _ _ _ _ _ _ _ _ _ _ _ _ _ _ _ _ _ _ _ _ _ _ (brB_of (fun z => by cases z) fun _ => f30_spec fun h' x' => ⟨_, rfl, hk h' ((hx2.trans hx3).trans x')⟩)
  have snd : ∀ h3, Ext h2 h3 none → f13_2 w0 K p.lo p.nx p.sq a0 n0 c0 q.lo q.nx q.sq a1 n1 c1 x.lo x.nx x.sq a n c y.lo y.nx y.sq b m d (1 : Int) h3 := fun h3 hx3 => by
    refine f13_2_in _ _ _ _ _ _ _ _ _ _ _ _ _ _ _ _ _ _ _ _ _ _ _ _ _ _ (brB_of (fun _ => ⟨by decide, by decide, x.lo, x.nx, x.sq, a, n, c, y.lo, y.nx, y.sq, b, m, d, Eq.mp (by kernel_rfl) (Eq.refl [Value.int .i64 x.lo, Value.int .i64 x.nx, Value.int .i64 x.sq, Value.slice a n c, Value.int .i64 y.lo, Value.int .i64 y.nx, Value.int .i64 y.sq, Value.slice b m d]), by decide, by decide, f29_spec (s'.ext hx3) ⟨_, rfl, brB_of (fun _ => fin h3 hx3) fun _ => ⟨by decide, by decide, f29_spec (r'.ext hx3) ⟨_, rfl, brB_of (fun _ => fin h3 hx3) fun _ => ?_⟩⟩⟩⟩) fun z => by cases z)
    exact cmp x y a n c b m d 1 h3 (s'.ext hx3) (r'.ext hx3) hx3 fun h4 hx4 => fin h4 hx4
  refine f13_2_in _ _ _ _ _ _ _ _ _ _ _ _ _ _ _ _ _ _ _ _ _ _ _ _ _ _ (brB_of (fun _ => ⟨by decide, by decide, p.lo, p.nx, p.sq, a0, n0, c0, q.lo, q.nx, q.sq, a1, n1, c1, Eq.mp (by kernel_rfl) (Eq.refl [Value.int .i64 p.lo, Value.int .i64 p.nx, Value.int .i64 p.sq, Value.slice a0 n0 c0, Value.int .i64 q.lo, Value.int .i64 q.nx, Value.int .i64 q.sq, Value.slice a1 n1 c1]), by decide, by decide, f29_spec s0' ⟨_, rfl, brB_of (fun _ => snd h2 (Ext.refl _ _)) fun _ => ⟨by decide, by decide, f29_spec s1 ⟨_, rfl, brB_of (fun _ => snd h2 (Ext.refl _ _)) fun _ => ?_⟩⟩⟩⟩) fun z => by cases z)
  exact cmp p q a0 n0 c0 a1 n1 c1 0 h2 s0' s1 (Ext.refl _ _) fun h4 hx4 => snd h4 hx4
end Go.G.Ytpnhlgghpciofaa
