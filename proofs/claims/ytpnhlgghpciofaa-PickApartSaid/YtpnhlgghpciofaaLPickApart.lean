/- PickApart by the evaluator. -/
import Derived.Test.YtpnhlgghpciofaaLL
import Derived.Test.YtpnhlgghpciofaaLA
import Derived.Test.YtpnhlgghpciofaaProg
set_option maxRecDepth 100000
namespace Go.G.Ytpnhlgghpciofaa
open Go.RowKit
def f22_J : Nat → List Nat × Nat := jOf [(3, [1, 2, 3, 5, 6, 7, 11, 12, 13, 14, 15, 16, 17, 18, 19, 20, 21], 0)]

def f22_3 (w0 : World) (K : Value → AH → Prop) (x0 : Int) (x4 : Int) (a8 : Option Go.Addr) (n8 : Nat) (c8 : Nat) (x9 : Int) (x10 : Int) (h : AH) : Prop :=
  ∀ j : Nat → Value, LPk Go.Proofs.Try.prog w0 (EvC Go.Proofs.Try.prog w0) f22_J 22 K 3 [.v (.int .i64 x0), .v (j 1), .v (j 2), .v (j 3), .v (.int .i64 x4), .v (j 5), .v (j 6), .v (j 7), .v (.slice a8 n8 c8), .v (.int .i64 x9), .v (.int .i64 x10), .v (j 11), .v (j 12), .v (j 13), .v (j 14), .v (j 15), .v (j 16), .v (j 17), .v (j 18), .v (j 19), .v (j 20), .v (j 21)] [] h

theorem f22_3_in {w0 : World} {K : Value → AH → Prop} (x0 : Int) (x4 : Int) (a8 : Option Go.Addr) (n8 : Nat) (c8 : Nat) (x9 : Int) (x10 : Int) (h : AH)
  (hv : (brB (decide ((x10 < x9))) (∃ a'3 : Go.Addr, ((a8 = (some a'3)) ∧ (((0 : Int) ≤ x10) ∧ ((x10 < ((n8 : Nat) : Int)) ∧ (∃ i'4 : Int, (((Go.G.cellA w0 h (Go.Addr.add a'3 ((Int.toNat x10) * 1))) = (some (Go.Value.int .i64 i'4))) ∧ (brB (i'4 == x0) (f22_3 w0 K x0 (Go.IntKind.wrap .i64 (x4 + (1 : Int))) a8 n8 c8 x9 (Go.IntKind.wrap .i64 (x10 + (1 : Int))) h) (f22_3 w0 K x0 x4 a8 n8 c8 x9 (Go.IntKind.wrap .i64 (x10 + (1 : Int))) h)))))))) (K (Go.Value.bool (x4 == (1 : Int))) h))) :
  f22_3 w0 K x0 x4 a8 n8 c8 x9 x10 h := fun j => LP_intro (P := Go.Proofs.Try.prog) (Eq.mp (by kernel_rfl) hv)

theorem f22_go {w0 : World} {K : Value → AH → Prop} (x0 : Int) (xf0 : Go.Addr) (h : AH)
  (hv : (∃ p'0 : Option Go.Addr, (∃ n'1 : Nat, (∃ n'2 : Nat, (((Go.G.cellA w0 h (Go.Addr.add xf0 2)) = (some (Go.Value.slice p'0 n'1 n'2))) ∧ (f22_3 w0 K x0 (0 : Int) p'0 n'1 n'2 ((n'1 : Nat) : Int) (0 : Int) h)))))) :
  EvC Go.Proofs.Try.prog w0 22 ([(.int .i64 x0), (.pointer (some xf0))]).toArray K h := EvC_intro (P := Go.Proofs.Try.prog) f22_J (Eq.mp (by kernel_rfl) hv)
theorem f22_loop {w0 : World} {K : Value → AH → Prop} {h : AH} {a : Option Addr} {n c : Nat} {xs : List Int} {x : Int} (s : Sl w0 h 1 a n c (ints xs)) (hsm : xs.length ≤ 1000000) (hk : K (.bool (((xs.countP fun y => y == x : Nat) : Int) == 1)) h) :
    ∀ (rest : List Int) (i k : Nat), xs.drop i = rest → i ≤ n → k ≤ i → (xs.countP fun y => y == x) = k + rest.countP (fun y => y == x) → f22_3 w0 K x ((k : Nat) : Int) a n c ((n : Nat) : Int) ((i : Nat) : Int) h := by
  have hl : n = xs.length := by have := s.1; simp [ints] at this; omega
  intro rest
  induction rest with
  | nil =>
    intro i k hd hi hki he
    have := drop_done hd
    have he' : (xs.countP fun y => y == x) = k := by rw [he]; rfl
    rw [he'] at hk
    exact f22_3_in _ _ _ _ _ _ _ _ (brB_of (fun q => by simp at q; omega) fun _ => hk)
  | cons y r ih =>
    intro i k hd hi hki he
    obtain ⟨hget, hd', hlt⟩ := drop_step hd
    refine f22_3_in _ _ _ _ _ _ _ _ (brB_of (fun _ => intLoad s.rd hl hget (brB_of (fun q => ?_) fun q => ?_)) fun q => by simp at q; omega)
    · rw [wrapS (by omega), wrapS (by omega)]
      exact ih (i + 1) (k + 1) hd' (by omega) (by omega) (by rw [he, List.countP_cons, if_pos q]; omega)
    · rw [wrapS (by omega)]
      exact ih (i + 1) k hd' (by omega) (by omega) (by rw [he, List.countP_cons, if_neg (by rw [q]; simp)]; omega)

/-- The law's in: is the number there once? -/
theorem f22_spec {w0 : World} {K : Value → AH → Prop} {h : AH} {a : Option Addr} {n c : Nat} {xs : List Int} {x : Int} {ad : Addr} (hc : cellA w0 h (ad.add 2) = some (.slice a n c)) (s : Sl w0 h 1 a n c (ints xs)) (hsm : xs.length ≤ 1000000)
    (hnd : xs.Nodup) (hk : K (.bool (decide (x ∈ xs))) h) : EvC Go.Proofs.Try.prog w0 22 #[.int .i64 x, .pointer (some ad)] K h := by
  refine f22_go _ _ _ ⟨_, _, _, hc, f22_loop s hsm ?_ xs 0 0 rfl (by omega) (by omega) (by omega)⟩
  rw [cnt1 hnd]
  by_cases e : x ∈ xs
  · simpa [e] using hk
  · simpa [e] using hk
def f6_J : Nat → List Nat × Nat := jOf [(5, [0, 1, 2, 5, 6, 7, 8, 9, 10, 11, 12, 13, 14, 15, 16, 17, 18, 19, 20, 21, 23, 24, 25, 26, 27, 28, 29, 30, 31, 32, 33, 34, 35, 36, 37, 38, 39, 40, 41, 42, 43, 44, 45, 46, 47, 48, 49, 50, 51, 52, 53, 54, 55, 56, 57, 58, 59, 60, 61, 62, 63, 64, 65, 66, 67, 68, 69, 70, 71, 72, 73, 74, 75, 76, 77, 78, 79, 80, 81, 82, 83, 84, 85, 86, 87, 88, 89, 90, 91, 92, 93, 94, 95, 96, 97, 98, 99, 100, 101, 102, 103, 104, 105, 106, 107, 108, 109, 110, 111, 112, 113, 114], 2), (12, [0, 1, 2, 5, 6, 7, 8, 9, 10, 11, 12, 13, 14, 15, 16, 17, 18, 19, 20, 21, 22, 23, 24, 25, 26, 27, 28, 29, 30, 31, 32, 33, 34, 35, 36, 37, 38, 39, 40, 41, 42, 43, 44, 45, 46, 47, 49, 50, 51, 52, 53, 54, 55, 56, 57, 58, 59, 60, 61, 62, 63, 64, 65, 66, 67, 68, 69, 70, 71, 72, 73, 74, 75, 76, 77, 78, 79, 80, 81, 82, 83, 84, 85, 86, 87, 88, 89, 90, 91, 92, 93, 94, 95, 96, 97, 98, 99, 100, 101, 102, 103, 104, 105, 106, 107, 108, 109, 110, 111, 112, 113, 114], 2), (13, [0, 1, 2, 5, 6, 7, 8, 9, 10, 11, 12, 13, 14, 15, 16, 17, 18, 19, 20, 21, 22, 23, 24, 25, 26, 27, 28, 29, 30, 31, 32, 33, 34, 35, 36, 37, 38, 39, 40, 41, 42, 43, 44, 45, 46, 47, 48, 49, 50, 51, 52, 53, 54, 55, 56, 57, 58, 59, 60, 61, 62, 63, 64, 65, 66, 67, 68, 69, 70, 71, 72, 73, 74, 75, 76, 77, 78, 79, 80, 81, 82, 83, 84, 85, 86, 87, 88, 89, 90, 91, 92, 93, 94, 95, 96, 97, 98, 99, 100, 101, 102, 103, 104, 105, 106, 107, 108, 109, 110, 111, 112, 113, 114], 2), (16, [0, 1, 2, 5, 6, 9, 10, 11, 12, 13, 14, 15, 16, 17, 18, 19, 20, 21, 22, 23, 24, 25, 26, 27, 28, 29, 30, 31, 32, 33, 34, 35, 36, 37, 38, 39, 40, 41, 42, 43, 44, 45, 46, 47, 48, 49, 50, 54, 55, 56, 57, 58, 59, 60, 61, 62, 63, 64, 65, 66, 67, 68, 69, 70, 71, 72, 73, 74, 75, 76, 77, 78, 79, 80, 81, 82, 83, 84, 85, 86, 87, 88, 89, 90, 91, 92, 93, 94, 95, 96, 97, 98, 99, 100, 101, 102, 103, 104, 105, 106, 107, 108, 109, 110, 111, 112, 113, 114], 1), (21, [0, 1, 2, 5, 6, 9, 11, 12, 13, 14, 15, 16, 17, 18, 19, 20, 21, 22, 23, 24, 25, 26, 27, 28, 29, 30, 31, 32, 33, 34, 35, 36, 37, 38, 39, 40, 41, 42, 43, 44, 45, 46, 47, 48, 49, 50, 54, 55, 56, 57, 58, 59, 60, 61, 62, 63, 64, 65, 66, 67, 68, 69, 70, 71, 72, 73, 74, 76, 77, 78, 79, 80, 81, 82, 83, 84, 85, 86, 87, 88, 89, 90, 91, 92, 93, 94, 95, 96, 97, 98, 99, 100, 101, 102, 103, 104, 105, 106, 107, 108, 109, 110, 111, 112, 113, 114], 2), (22, [0, 1, 2, 5, 6, 9, 11, 12, 13, 14, 15, 16, 17, 18, 19, 20, 21, 22, 23, 24, 25, 26, 27, 28, 29, 30, 31, 32, 33, 34, 35, 36, 37, 38, 39, 40, 41, 42, 43, 44, 45, 46, 47, 48, 49, 50, 54, 55, 56, 57, 58, 59, 60, 61, 62, 63, 64, 65, 66, 67, 68, 69, 70, 71, 72, 73, 74, 75, 76, 77, 78, 79, 80, 81, 82, 83, 84, 85, 86, 87, 88, 89, 90, 91, 92, 93, 94, 95, 96, 97, 98, 99, 100, 101, 102, 103, 104, 105, 106, 107, 108, 109, 110, 111, 112, 113, 114], 2), (23, [0, 1, 2, 5, 6, 9, 11, 12, 13, 14, 15, 16, 17, 18, 19, 20, 21, 22, 23, 24, 25, 26, 27, 28, 29, 30, 31, 32, 33, 34, 35, 36, 37, 38, 39, 40, 41, 42, 43, 44, 45, 46, 47, 48, 49, 50, 54, 55, 56, 57, 58, 59, 60, 61, 62, 63, 64, 65, 66, 67, 68, 69, 70, 71, 72, 73, 74, 75, 76, 77, 78, 79, 80, 81, 82, 86, 87, 88, 89, 90, 91, 92, 93, 94, 95, 96, 97, 98, 99, 100, 101, 102, 103, 104, 105, 106, 107, 108, 109, 110, 111, 112, 113, 114], 2), (26, [0, 1, 2, 5, 6, 9, 11, 12, 13, 14, 15, 16, 17, 18, 19, 20, 21, 22, 23, 24, 25, 26, 27, 28, 29, 30, 31, 32, 33, 34, 35, 36, 37, 38, 39, 40, 41, 42, 43, 44, 45, 46, 47, 48, 49, 50, 54, 55, 56, 57, 58, 59, 60, 61, 62, 63, 64, 65, 66, 67, 68, 69, 70, 71, 72, 73, 74, 75, 76, 77, 78, 79, 80, 81, 82, 86, 87, 88, 89, 90, 91, 92, 93, 94, 95, 96, 97, 98, 99, 101, 102, 103, 104, 105, 106, 107, 108, 109, 110, 111, 112, 113, 114], 2)]

def f6_5 (w0 : World) (K : Value → AH → Prop) (x22 : Int) (xb0_0 : Int) (xb0_1 : Int) (xb0_2 : Int) (ab0_3 : Option Go.Addr) (nb0_3 : Nat) (cb0_3 : Nat) (xb1_0 : Int) (xb1_1 : Int) (ab1_2 : Option Go.Addr) (nb1_2 : Nat) (cb1_2 : Nat) (h : AH) : Prop :=
  ∀ j : Nat → Value, LPk Go.Proofs.Try.prog w0 (EvC Go.Proofs.Try.prog w0) f6_J 6 K 5 [.v (j 0), .v (j 1), .v (j 2), .bp 0 0, .bp 1 0, .v (j 5), .v (j 6), .v (j 7), .v (j 8), .v (j 9), .v (j 10), .v (j 11), .v (j 12), .v (j 13), .v (j 14), .v (j 15), .v (j 16), .v (j 17), .v (j 18), .v (j 19), .v (j 20), .v (j 21), .v (.int .i64 x22), .v (j 23), .v (j 24), .v (j 25), .v (j 26), .v (j 27), .v (j 28), .v (j 29), .v (j 30), .v (j 31), .v (j 32), .v (j 33), .v (j 34), .v (j 35), .v (j 36), .v (j 37), .v (j 38), .v (j 39), .v (j 40), .v (j 41), .v (j 42), .v (j 43), .v (j 44), .v (j 45), .v (j 46), .v (j 47), .v (j 48), .v (j 49), .v (j 50), .v (j 51), .v (j 52), .v (j 53), .v (j 54), .v (j 55), .v (j 56), .v (j 57), .v (j 58), .v (j 59), .v (j 60), .v (j 61), .v (j 62), .v (j 63), .v (j 64), .v (j 65), .v (j 66), .v (j 67), .v (j 68), .v (j 69), .v (j 70), .v (j 71), .v (j 72), .v (j 73), .v (j 74), .v (j 75), .v (j 76), .v (j 77), .v (j 78), .v (j 79), .v (j 80), .v (j 81), .v (j 82), .v (j 83), .v (j 84), .v (j 85), .v (j 86), .v (j 87), .v (j 88), .v (j 89), .v (j 90), .v (j 91), .v (j 92), .v (j 93), .v (j 94), .v (j 95), .v (j 96), .v (j 97), .v (j 98), .v (j 99), .v (j 100), .v (j 101), .v (j 102), .v (j 103), .v (j 104), .v (j 105), .v (j 106), .v (j 107), .v (j 108), .v (j 109), .v (j 110), .v (j 111), .v (j 112), .v (j 113), .v (j 114)] [some [(.int .i64 xb0_0), (.int .i64 xb0_1), (.int .i64 xb0_2), (.slice ab0_3 nb0_3 cb0_3)], some [(.int .i64 xb1_0), (.int .i64 xb1_1), (.slice ab1_2 nb1_2 cb1_2)]] h

def f6_12 (w0 : World) (K : Value → AH → Prop) (x48 : Bool) (xb0_0 : Int) (xb0_1 : Int) (xb0_2 : Int) (ab0_3 : Option Go.Addr) (nb0_3 : Nat) (cb0_3 : Nat) (xb1_0 : Int) (xb1_1 : Int) (ab1_2 : Option Go.Addr) (nb1_2 : Nat) (cb1_2 : Nat) (h : AH) : Prop :=
  ∀ j : Nat → Value, LPk Go.Proofs.Try.prog w0 (EvC Go.Proofs.Try.prog w0) f6_J 6 K 12 [.v (j 0), .v (j 1), .v (j 2), .bp 0 0, .bp 1 0, .v (j 5), .v (j 6), .v (j 7), .v (j 8), .v (j 9), .v (j 10), .v (j 11), .v (j 12), .v (j 13), .v (j 14), .v (j 15), .v (j 16), .v (j 17), .v (j 18), .v (j 19), .v (j 20), .v (j 21), .v (j 22), .v (j 23), .v (j 24), .v (j 25), .v (j 26), .v (j 27), .v (j 28), .v (j 29), .v (j 30), .v (j 31), .v (j 32), .v (j 33), .v (j 34), .v (j 35), .v (j 36), .v (j 37), .v (j 38), .v (j 39), .v (j 40), .v (j 41), .v (j 42), .v (j 43), .v (j 44), .v (j 45), .v (j 46), .v (j 47), .v (.bool x48), .v (j 49), .v (j 50), .v (j 51), .v (j 52), .v (j 53), .v (j 54), .v (j 55), .v (j 56), .v (j 57), .v (j 58), .v (j 59), .v (j 60), .v (j 61), .v (j 62), .v (j 63), .v (j 64), .v (j 65), .v (j 66), .v (j 67), .v (j 68), .v (j 69), .v (j 70), .v (j 71), .v (j 72), .v (j 73), .v (j 74), .v (j 75), .v (j 76), .v (j 77), .v (j 78), .v (j 79), .v (j 80), .v (j 81), .v (j 82), .v (j 83), .v (j 84), .v (j 85), .v (j 86), .v (j 87), .v (j 88), .v (j 89), .v (j 90), .v (j 91), .v (j 92), .v (j 93), .v (j 94), .v (j 95), .v (j 96), .v (j 97), .v (j 98), .v (j 99), .v (j 100), .v (j 101), .v (j 102), .v (j 103), .v (j 104), .v (j 105), .v (j 106), .v (j 107), .v (j 108), .v (j 109), .v (j 110), .v (j 111), .v (j 112), .v (j 113), .v (j 114)] [some [(.int .i64 xb0_0), (.int .i64 xb0_1), (.int .i64 xb0_2), (.slice ab0_3 nb0_3 cb0_3)], some [(.int .i64 xb1_0), (.int .i64 xb1_1), (.slice ab1_2 nb1_2 cb1_2)]] h

def f6_13 (w0 : World) (K : Value → AH → Prop) (xb0_0 : Int) (xb0_1 : Int) (xb0_2 : Int) (ab0_3 : Option Go.Addr) (nb0_3 : Nat) (cb0_3 : Nat) (xb1_0 : Int) (xb1_1 : Int) (ab1_2 : Option Go.Addr) (nb1_2 : Nat) (cb1_2 : Nat) (h : AH) : Prop :=
  ∀ j : Nat → Value, LPk Go.Proofs.Try.prog w0 (EvC Go.Proofs.Try.prog w0) f6_J 6 K 13 [.v (j 0), .v (j 1), .v (j 2), .bp 0 0, .bp 1 0, .v (j 5), .v (j 6), .v (j 7), .v (j 8), .v (j 9), .v (j 10), .v (j 11), .v (j 12), .v (j 13), .v (j 14), .v (j 15), .v (j 16), .v (j 17), .v (j 18), .v (j 19), .v (j 20), .v (j 21), .v (j 22), .v (j 23), .v (j 24), .v (j 25), .v (j 26), .v (j 27), .v (j 28), .v (j 29), .v (j 30), .v (j 31), .v (j 32), .v (j 33), .v (j 34), .v (j 35), .v (j 36), .v (j 37), .v (j 38), .v (j 39), .v (j 40), .v (j 41), .v (j 42), .v (j 43), .v (j 44), .v (j 45), .v (j 46), .v (j 47), .v (j 48), .v (j 49), .v (j 50), .v (j 51), .v (j 52), .v (j 53), .v (j 54), .v (j 55), .v (j 56), .v (j 57), .v (j 58), .v (j 59), .v (j 60), .v (j 61), .v (j 62), .v (j 63), .v (j 64), .v (j 65), .v (j 66), .v (j 67), .v (j 68), .v (j 69), .v (j 70), .v (j 71), .v (j 72), .v (j 73), .v (j 74), .v (j 75), .v (j 76), .v (j 77), .v (j 78), .v (j 79), .v (j 80), .v (j 81), .v (j 82), .v (j 83), .v (j 84), .v (j 85), .v (j 86), .v (j 87), .v (j 88), .v (j 89), .v (j 90), .v (j 91), .v (j 92), .v (j 93), .v (j 94), .v (j 95), .v (j 96), .v (j 97), .v (j 98), .v (j 99), .v (j 100), .v (j 101), .v (j 102), .v (j 103), .v (j 104), .v (j 105), .v (j 106), .v (j 107), .v (j 108), .v (j 109), .v (j 110), .v (j 111), .v (j 112), .v (j 113), .v (j 114)] [some [(.int .i64 xb0_0), (.int .i64 xb0_1), (.int .i64 xb0_2), (.slice ab0_3 nb0_3 cb0_3)], some [(.int .i64 xb1_0), (.int .i64 xb1_1), (.slice ab1_2 nb1_2 cb1_2)]] h

def f6_16 (w0 : World) (K : Value → AH → Prop) (x4 : Go.Addr) (x7c0 : Go.Addr) (x8 : Int) (a51 : Option Go.Addr) (n51 : Nat) (c51 : Nat) (x52 : Int) (x53 : Int) (xb0_0 : Int) (xb0_1 : Int) (xb0_2 : Int) (ab0_3 : Option Go.Addr) (nb0_3 : Nat) (cb0_3 : Nat) (h : AH) : Prop :=
  ∀ j : Nat → Value, LPk Go.Proofs.Try.prog w0 (EvC Go.Proofs.Try.prog w0) f6_J 6 K 16 [.v (j 0), .v (j 1), .v (j 2), .bp 0 0, .v (.pointer (some x4)), .v (j 5), .v (j 6), .v (.func (Go.Fn.func 22) #[] #[(.pointer (some x7c0))]), .v (.int .i64 x8), .v (j 9), .v (j 10), .v (j 11), .v (j 12), .v (j 13), .v (j 14), .v (j 15), .v (j 16), .v (j 17), .v (j 18), .v (j 19), .v (j 20), .v (j 21), .v (j 22), .v (j 23), .v (j 24), .v (j 25), .v (j 26), .v (j 27), .v (j 28), .v (j 29), .v (j 30), .v (j 31), .v (j 32), .v (j 33), .v (j 34), .v (j 35), .v (j 36), .v (j 37), .v (j 38), .v (j 39), .v (j 40), .v (j 41), .v (j 42), .v (j 43), .v (j 44), .v (j 45), .v (j 46), .v (j 47), .v (j 48), .v (j 49), .v (j 50), .v (.slice a51 n51 c51), .v (.int .i64 x52), .v (.int .i64 x53), .v (j 54), .v (j 55), .v (j 56), .v (j 57), .v (j 58), .v (j 59), .v (j 60), .v (j 61), .v (j 62), .v (j 63), .v (j 64), .v (j 65), .v (j 66), .v (j 67), .v (j 68), .v (j 69), .v (j 70), .v (j 71), .v (j 72), .v (j 73), .v (j 74), .v (j 75), .v (j 76), .v (j 77), .v (j 78), .v (j 79), .v (j 80), .v (j 81), .v (j 82), .v (j 83), .v (j 84), .v (j 85), .v (j 86), .v (j 87), .v (j 88), .v (j 89), .v (j 90), .v (j 91), .v (j 92), .v (j 93), .v (j 94), .v (j 95), .v (j 96), .v (j 97), .v (j 98), .v (j 99), .v (j 100), .v (j 101), .v (j 102), .v (j 103), .v (j 104), .v (j 105), .v (j 106), .v (j 107), .v (j 108), .v (j 109), .v (j 110), .v (j 111), .v (j 112), .v (j 113), .v (j 114)] [some [(.int .i64 xb0_0), (.int .i64 xb0_1), (.int .i64 xb0_2), (.slice ab0_3 nb0_3 cb0_3)]] h

def f6_21 (w0 : World) (K : Value → AH → Prop) (x4 : Go.Addr) (x7c0 : Go.Addr) (x8 : Int) (a51 : Option Go.Addr) (n51 : Nat) (c51 : Nat) (x52 : Int) (x53 : Int) (x75 : Bool) (xb0_0 : Int) (xb0_1 : Int) (xb0_2 : Int) (ab0_3 : Option Go.Addr) (nb0_3 : Nat) (cb0_3 : Nat) (xb1_0 : Int) (xb1_1 : Int) (xb1_2 : Int) (ab1_3 : Option Go.Addr) (nb1_3 : Nat) (cb1_3 : Nat) (ab1_4 : Option Go.Addr) (nb1_4 : Nat) (cb1_4 : Nat) (h : AH) : Prop :=
  ∀ j : Nat → Value, LPk Go.Proofs.Try.prog w0 (EvC Go.Proofs.Try.prog w0) f6_J 6 K 21 [.v (j 0), .v (j 1), .v (j 2), .bp 0 0, .v (.pointer (some x4)), .v (j 5), .v (j 6), .v (.func (Go.Fn.func 22) #[] #[(.pointer (some x7c0))]), .v (.int .i64 x8), .v (j 9), .bp 1 0, .v (j 11), .v (j 12), .v (j 13), .v (j 14), .v (j 15), .v (j 16), .v (j 17), .v (j 18), .v (j 19), .v (j 20), .v (j 21), .v (j 22), .v (j 23), .v (j 24), .v (j 25), .v (j 26), .v (j 27), .v (j 28), .v (j 29), .v (j 30), .v (j 31), .v (j 32), .v (j 33), .v (j 34), .v (j 35), .v (j 36), .v (j 37), .v (j 38), .v (j 39), .v (j 40), .v (j 41), .v (j 42), .v (j 43), .v (j 44), .v (j 45), .v (j 46), .v (j 47), .v (j 48), .v (j 49), .v (j 50), .v (.slice a51 n51 c51), .v (.int .i64 x52), .v (.int .i64 x53), .v (j 54), .v (j 55), .v (j 56), .v (j 57), .v (j 58), .v (j 59), .v (j 60), .v (j 61), .v (j 62), .v (j 63), .v (j 64), .v (j 65), .v (j 66), .v (j 67), .v (j 68), .v (j 69), .v (j 70), .v (j 71), .v (j 72), .v (j 73), .v (j 74), .v (.bool x75), .v (j 76), .v (j 77), .v (j 78), .v (j 79), .v (j 80), .v (j 81), .v (j 82), .v (j 83), .v (j 84), .v (j 85), .v (j 86), .v (j 87), .v (j 88), .v (j 89), .v (j 90), .v (j 91), .v (j 92), .v (j 93), .v (j 94), .v (j 95), .v (j 96), .v (j 97), .v (j 98), .v (j 99), .v (j 100), .v (j 101), .v (j 102), .v (j 103), .v (j 104), .v (j 105), .v (j 106), .v (j 107), .v (j 108), .v (j 109), .v (j 110), .v (j 111), .v (j 112), .v (j 113), .v (j 114)] [some [(.int .i64 xb0_0), (.int .i64 xb0_1), (.int .i64 xb0_2), (.slice ab0_3 nb0_3 cb0_3)], some [(.int .i64 xb1_0), (.int .i64 xb1_1), (.int .i64 xb1_2), (.slice ab1_3 nb1_3 cb1_3), (.slice ab1_4 nb1_4 cb1_4)]] h

def f6_22 (w0 : World) (K : Value → AH → Prop) (x4 : Go.Addr) (x7c0 : Go.Addr) (x8 : Int) (a51 : Option Go.Addr) (n51 : Nat) (c51 : Nat) (x52 : Int) (x53 : Int) (xb0_0 : Int) (xb0_1 : Int) (xb0_2 : Int) (ab0_3 : Option Go.Addr) (nb0_3 : Nat) (cb0_3 : Nat) (xb1_0 : Int) (xb1_1 : Int) (xb1_2 : Int) (ab1_3 : Option Go.Addr) (nb1_3 : Nat) (cb1_3 : Nat) (ab1_4 : Option Go.Addr) (nb1_4 : Nat) (cb1_4 : Nat) (h : AH) : Prop :=
  ∀ j : Nat → Value, LPk Go.Proofs.Try.prog w0 (EvC Go.Proofs.Try.prog w0) f6_J 6 K 22 [.v (j 0), .v (j 1), .v (j 2), .bp 0 0, .v (.pointer (some x4)), .v (j 5), .v (j 6), .v (.func (Go.Fn.func 22) #[] #[(.pointer (some x7c0))]), .v (.int .i64 x8), .v (j 9), .bp 1 0, .v (j 11), .v (j 12), .v (j 13), .v (j 14), .v (j 15), .v (j 16), .v (j 17), .v (j 18), .v (j 19), .v (j 20), .v (j 21), .v (j 22), .v (j 23), .v (j 24), .v (j 25), .v (j 26), .v (j 27), .v (j 28), .v (j 29), .v (j 30), .v (j 31), .v (j 32), .v (j 33), .v (j 34), .v (j 35), .v (j 36), .v (j 37), .v (j 38), .v (j 39), .v (j 40), .v (j 41), .v (j 42), .v (j 43), .v (j 44), .v (j 45), .v (j 46), .v (j 47), .v (j 48), .v (j 49), .v (j 50), .v (.slice a51 n51 c51), .v (.int .i64 x52), .v (.int .i64 x53), .v (j 54), .v (j 55), .v (j 56), .v (j 57), .v (j 58), .v (j 59), .v (j 60), .v (j 61), .v (j 62), .v (j 63), .v (j 64), .v (j 65), .v (j 66), .v (j 67), .v (j 68), .v (j 69), .v (j 70), .v (j 71), .v (j 72), .v (j 73), .v (j 74), .v (j 75), .v (j 76), .v (j 77), .v (j 78), .v (j 79), .v (j 80), .v (j 81), .v (j 82), .v (j 83), .v (j 84), .v (j 85), .v (j 86), .v (j 87), .v (j 88), .v (j 89), .v (j 90), .v (j 91), .v (j 92), .v (j 93), .v (j 94), .v (j 95), .v (j 96), .v (j 97), .v (j 98), .v (j 99), .v (j 100), .v (j 101), .v (j 102), .v (j 103), .v (j 104), .v (j 105), .v (j 106), .v (j 107), .v (j 108), .v (j 109), .v (j 110), .v (j 111), .v (j 112), .v (j 113), .v (j 114)] [some [(.int .i64 xb0_0), (.int .i64 xb0_1), (.int .i64 xb0_2), (.slice ab0_3 nb0_3 cb0_3)], some [(.int .i64 xb1_0), (.int .i64 xb1_1), (.int .i64 xb1_2), (.slice ab1_3 nb1_3 cb1_3), (.slice ab1_4 nb1_4 cb1_4)]] h

def f6_23 (w0 : World) (K : Value → AH → Prop) (x4 : Go.Addr) (x7c0 : Go.Addr) (x8 : Int) (a51 : Option Go.Addr) (n51 : Nat) (c51 : Nat) (x52 : Int) (x53 : Int) (a83 : Option Go.Addr) (n83 : Nat) (c83 : Nat) (x84 : Int) (x85 : Int) (xb0_0 : Int) (xb0_1 : Int) (xb0_2 : Int) (ab0_3 : Option Go.Addr) (nb0_3 : Nat) (cb0_3 : Nat) (xb1_0 : Int) (xb1_1 : Int) (xb1_2 : Int) (ab1_3 : Option Go.Addr) (nb1_3 : Nat) (cb1_3 : Nat) (ab1_4 : Option Go.Addr) (nb1_4 : Nat) (cb1_4 : Nat) (h : AH) : Prop :=
  ∀ j : Nat → Value, LPk Go.Proofs.Try.prog w0 (EvC Go.Proofs.Try.prog w0) f6_J 6 K 23 [.v (j 0), .v (j 1), .v (j 2), .bp 0 0, .v (.pointer (some x4)), .v (j 5), .v (j 6), .v (.func (Go.Fn.func 22) #[] #[(.pointer (some x7c0))]), .v (.int .i64 x8), .v (j 9), .bp 1 0, .v (j 11), .v (j 12), .v (j 13), .v (j 14), .v (j 15), .v (j 16), .v (j 17), .v (j 18), .v (j 19), .v (j 20), .v (j 21), .v (j 22), .v (j 23), .v (j 24), .v (j 25), .v (j 26), .v (j 27), .v (j 28), .v (j 29), .v (j 30), .v (j 31), .v (j 32), .v (j 33), .v (j 34), .v (j 35), .v (j 36), .v (j 37), .v (j 38), .v (j 39), .v (j 40), .v (j 41), .v (j 42), .v (j 43), .v (j 44), .v (j 45), .v (j 46), .v (j 47), .v (j 48), .v (j 49), .v (j 50), .v (.slice a51 n51 c51), .v (.int .i64 x52), .v (.int .i64 x53), .v (j 54), .v (j 55), .v (j 56), .v (j 57), .v (j 58), .v (j 59), .v (j 60), .v (j 61), .v (j 62), .v (j 63), .v (j 64), .v (j 65), .v (j 66), .v (j 67), .v (j 68), .v (j 69), .v (j 70), .v (j 71), .v (j 72), .v (j 73), .v (j 74), .v (j 75), .v (j 76), .v (j 77), .v (j 78), .v (j 79), .v (j 80), .v (j 81), .v (j 82), .v (.slice a83 n83 c83), .v (.int .i64 x84), .v (.int .i64 x85), .v (j 86), .v (j 87), .v (j 88), .v (j 89), .v (j 90), .v (j 91), .v (j 92), .v (j 93), .v (j 94), .v (j 95), .v (j 96), .v (j 97), .v (j 98), .v (j 99), .v (j 100), .v (j 101), .v (j 102), .v (j 103), .v (j 104), .v (j 105), .v (j 106), .v (j 107), .v (j 108), .v (j 109), .v (j 110), .v (j 111), .v (j 112), .v (j 113), .v (j 114)] [some [(.int .i64 xb0_0), (.int .i64 xb0_1), (.int .i64 xb0_2), (.slice ab0_3 nb0_3 cb0_3)], some [(.int .i64 xb1_0), (.int .i64 xb1_1), (.int .i64 xb1_2), (.slice ab1_3 nb1_3 cb1_3), (.slice ab1_4 nb1_4 cb1_4)]] h

def f6_26 (w0 : World) (K : Value → AH → Prop) (x4 : Go.Addr) (x7c0 : Go.Addr) (x8 : Int) (a51 : Option Go.Addr) (n51 : Nat) (c51 : Nat) (x52 : Int) (x53 : Int) (a83 : Option Go.Addr) (n83 : Nat) (c83 : Nat) (x84 : Int) (x85 : Int) (x100 : Bool) (xb0_0 : Int) (xb0_1 : Int) (xb0_2 : Int) (ab0_3 : Option Go.Addr) (nb0_3 : Nat) (cb0_3 : Nat) (xb1_0 : Int) (xb1_1 : Int) (xb1_2 : Int) (ab1_3 : Option Go.Addr) (nb1_3 : Nat) (cb1_3 : Nat) (ab1_4 : Option Go.Addr) (nb1_4 : Nat) (cb1_4 : Nat) (h : AH) : Prop :=
  ∀ j : Nat → Value, LPk Go.Proofs.Try.prog w0 (EvC Go.Proofs.Try.prog w0) f6_J 6 K 26 [.v (j 0), .v (j 1), .v (j 2), .bp 0 0, .v (.pointer (some x4)), .v (j 5), .v (j 6), .v (.func (Go.Fn.func 22) #[] #[(.pointer (some x7c0))]), .v (.int .i64 x8), .v (j 9), .bp 1 0, .v (j 11), .v (j 12), .v (j 13), .v (j 14), .v (j 15), .v (j 16), .v (j 17), .v (j 18), .v (j 19), .v (j 20), .v (j 21), .v (j 22), .v (j 23), .v (j 24), .v (j 25), .v (j 26), .v (j 27), .v (j 28), .v (j 29), .v (j 30), .v (j 31), .v (j 32), .v (j 33), .v (j 34), .v (j 35), .v (j 36), .v (j 37), .v (j 38), .v (j 39), .v (j 40), .v (j 41), .v (j 42), .v (j 43), .v (j 44), .v (j 45), .v (j 46), .v (j 47), .v (j 48), .v (j 49), .v (j 50), .v (.slice a51 n51 c51), .v (.int .i64 x52), .v (.int .i64 x53), .v (j 54), .v (j 55), .v (j 56), .v (j 57), .v (j 58), .v (j 59), .v (j 60), .v (j 61), .v (j 62), .v (j 63), .v (j 64), .v (j 65), .v (j 66), .v (j 67), .v (j 68), .v (j 69), .v (j 70), .v (j 71), .v (j 72), .v (j 73), .v (j 74), .v (j 75), .v (j 76), .v (j 77), .v (j 78), .v (j 79), .v (j 80), .v (j 81), .v (j 82), .v (.slice a83 n83 c83), .v (.int .i64 x84), .v (.int .i64 x85), .v (j 86), .v (j 87), .v (j 88), .v (j 89), .v (j 90), .v (j 91), .v (j 92), .v (j 93), .v (j 94), .v (j 95), .v (j 96), .v (j 97), .v (j 98), .v (j 99), .v (.bool x100), .v (j 101), .v (j 102), .v (j 103), .v (j 104), .v (j 105), .v (j 106), .v (j 107), .v (j 108), .v (j 109), .v (j 110), .v (j 111), .v (j 112), .v (j 113), .v (j 114)] [some [(.int .i64 xb0_0), (.int .i64 xb0_1), (.int .i64 xb0_2), (.slice ab0_3 nb0_3 cb0_3)], some [(.int .i64 xb1_0), (.int .i64 xb1_1), (.int .i64 xb1_2), (.slice ab1_3 nb1_3 cb1_3), (.slice ab1_4 nb1_4 cb1_4)]] h

theorem f6_5_in {w0 : World} {K : Value → AH → Prop} (x22 : Int) (xb0_0 : Int) (xb0_1 : Int) (xb0_2 : Int) (ab0_3 : Option Go.Addr) (nb0_3 : Nat) (cb0_3 : Nat) (xb1_0 : Int) (xb1_1 : Int) (ab1_2 : Option Go.Addr) (nb1_2 : Nat) (cb1_2 : Nat) (h : AH)
  (hv : (brB (decide ((x22 < (4 : Int)))) (EvC Go.Proofs.Try.prog w0 19 #[(Go.Value.agg #[(Go.Value.int .i64 xb0_0), (Go.Value.int .i64 xb0_1), (Go.Value.int .i64 xb0_2), (Go.Value.slice ab0_3 nb0_3 cb0_3)]), (Go.Value.int .i64 x22)] (fun x'19 h'20 => (∃ t'21 : Bool, ((x'19 = (Go.Value.bool t'21)) ∧ (brB t'21 (K (Go.Value.bool false) h'20) (f6_5 w0 K (Go.IntKind.wrap .i64 (x22 + (1 : Int))) xb0_0 xb0_1 xb0_2 ab0_3 nb0_3 cb0_3 xb1_0 xb1_1 ab1_2 nb1_2 cb1_2 h'20))))) h) (brB (((nb1_2 : Nat) : Int) == (0 : Int)) (EvC Go.Proofs.Try.prog w0 17 #[] (fun x'22 h'23 => (∃ t'24 : Bool, ((x'22 = (Go.Value.bool t'24)) ∧ (K (Go.Value.bool t'24) h'23)))) h) (K (Go.Value.bool false) h)))) :
  f6_5 w0 K x22 xb0_0 xb0_1 xb0_2 ab0_3 nb0_3 cb0_3 xb1_0 xb1_1 ab1_2 nb1_2 cb1_2 h := fun j => LP_intro (P := Go.Proofs.Try.prog) (Eq.mp (by kernel_rfl) hv)

theorem f6_12_in {w0 : World} {K : Value → AH → Prop} (x48 : Bool) (xb0_0 : Int) (xb0_1 : Int) (xb0_2 : Int) (ab0_3 : Option Go.Addr) (nb0_3 : Nat) (cb0_3 : Nat) (xb1_0 : Int) (xb1_1 : Int) (ab1_2 : Option Go.Addr) (nb1_2 : Nat) (cb1_2 : Nat) (h : AH)
  (hv : (brB x48 (K (Go.Value.bool false) h) (f6_13 w0 K xb0_0 xb0_1 xb0_2 ab0_3 nb0_3 cb0_3 xb1_0 xb1_1 ab1_2 nb1_2 cb1_2 h))) :
  f6_12 w0 K x48 xb0_0 xb0_1 xb0_2 ab0_3 nb0_3 cb0_3 xb1_0 xb1_1 ab1_2 nb1_2 cb1_2 h := fun j => LP_intro (P := Go.Proofs.Try.prog) (Eq.mp (by kernel_rfl) hv)

theorem f6_13_in {w0 : World} {K : Value → AH → Prop} (xb0_0 : Int) (xb0_1 : Int) (xb0_2 : Int) (ab0_3 : Option Go.Addr) (nb0_3 : Nat) (cb0_3 : Nat) (xb1_0 : Int) (xb1_1 : Int) (ab1_2 : Option Go.Addr) (nb1_2 : Nat) (cb1_2 : Nat) (h : AH)
  (hv : (newB w0 h (Go.G.AB.cells [(Go.Value.int .i64 xb1_0), (Go.Value.int .i64 xb1_1), (Go.Value.slice ab1_2 nb1_2 cb1_2)] (List.length [(Go.Value.int .i64 xb1_0), (Go.Value.int .i64 xb1_1), (Go.Value.slice ab1_2 nb1_2 cb1_2)])) (fun b'25 h'26 => (f6_16 w0 K (Go.Addr.mk b'25 0 none) (Go.Addr.mk b'25 0 none) (0 : Int) ab0_3 nb0_3 cb0_3 ((nb0_3 : Nat) : Int) (0 : Int) xb0_0 xb0_1 xb0_2 ab0_3 nb0_3 cb0_3 h'26)))) :
  f6_13 w0 K xb0_0 xb0_1 xb0_2 ab0_3 nb0_3 cb0_3 xb1_0 xb1_1 ab1_2 nb1_2 cb1_2 h := fun j => LP_intro (P := Go.Proofs.Try.prog) (Eq.mp (by kernel_rfl) hv)

theorem f6_16_in {w0 : World} {K : Value → AH → Prop} (x4 : Go.Addr) (x7c0 : Go.Addr) (x8 : Int) (a51 : Option Go.Addr) (n51 : Nat) (c51 : Nat) (x52 : Int) (x53 : Int) (xb0_0 : Int) (xb0_1 : Int) (xb0_2 : Int) (ab0_3 : Option Go.Addr) (nb0_3 : Nat) (cb0_3 : Nat) (h : AH)
  (hv : (brB (decide ((x53 < x52))) (∃ a'27 : Go.Addr, ((a51 = (some a'27)) ∧ (((0 : Int) ≤ x53) ∧ ((x53 < ((n51 : Nat) : Int)) ∧ (∃ i'28 : Int, (∃ i'29 : Int, (∃ i'30 : Int, (∃ p'31 : Option Go.Addr, (∃ n'32 : Nat, (∃ n'33 : Nat, (∃ p'34 : Option Go.Addr, (∃ n'35 : Nat, (∃ n'36 : Nat, ((((Array.size #[(Go.Value.int .i64 i'28), (Go.Value.int .i64 i'29), (Go.Value.int .i64 i'30), (Go.Value.slice p'31 n'32 n'33), (Go.Value.slice p'34 n'35 n'36)]) = 5) ∧ (At w0 h (Go.Addr.add a'27 ((Int.toNat x53) * 5)) [(Go.Value.int .i64 i'28), (Go.Value.int .i64 i'29), (Go.Value.int .i64 i'30), (Go.Value.slice p'31 n'32 n'33), (Go.Value.slice p'34 n'35 n'36)])) ∧ (EvC Go.Proofs.Try.prog w0 22 #[(Go.Value.int .i64 i'28), (Go.Value.pointer (some x7c0))] (fun x'37 h'38 => (∃ t'39 : Bool, ((x'37 = (Go.Value.bool t'39)) ∧ (brB (!t'39) (f6_16 w0 K x4 x7c0 x8 a51 n51 c51 x52 (Go.IntKind.wrap .i64 (x53 + (1 : Int))) xb0_0 xb0_1 xb0_2 ab0_3 nb0_3 cb0_3 h'38) (∃ i'40 : Int, (((Go.G.cellA w0 h'38 (Go.Addr.add x4 0)) = (some (Go.Value.int .i64 i'40))) ∧ (brB (i'29 != i'40) (∃ i'41 : Int, (((Go.G.cellA w0 h'38 (Go.Addr.add x4 1)) = (some (Go.Value.int .i64 i'41))) ∧ (f6_21 w0 K x4 x7c0 (Go.IntKind.wrap .i64 (x8 + (1 : Int))) a51 n51 c51 x52 x53 (i'29 != i'41) xb0_0 xb0_1 xb0_2 ab0_3 nb0_3 cb0_3 i'28 i'29 i'30 p'31 n'32 n'33 p'34 n'35 n'36 h'38))) (f6_21 w0 K x4 x7c0 (Go.IntKind.wrap .i64 (x8 + (1 : Int))) a51 n51 c51 x52 x53 false xb0_0 xb0_1 xb0_2 ab0_3 nb0_3 cb0_3 i'28 i'29 i'30 p'31 n'32 n'33 p'34 n'35 n'36 h'38)))))))) h))))))))))))))) (∃ p'42 : Option Go.Addr, (∃ n'43 : Nat, (∃ n'44 : Nat, (((Go.G.cellA w0 h (Go.Addr.add x4 2)) = (some (Go.Value.slice p'42 n'43 n'44))) ∧ (brB (x8 == ((n'43 : Nat) : Int)) (brB (decide (((0 : Int) < x8))) (EvC Go.Proofs.Try.prog w0 17 #[] (fun x'45 h'46 => (∃ t'47 : Bool, ((x'45 = (Go.Value.bool t'47)) ∧ (K (Go.Value.bool t'47) h'46)))) h) (K (Go.Value.bool false) h)) (K (Go.Value.bool false) h)))))))) :
  f6_16 w0 K x4 x7c0 x8 a51 n51 c51 x52 x53 xb0_0 xb0_1 xb0_2 ab0_3 nb0_3 cb0_3 h := fun j => LP_intro (P := Go.Proofs.Try.prog) (Eq.mp (by kernel_rfl) hv)

theorem f6_21_in {w0 : World} {K : Value → AH → Prop} (x4 : Go.Addr) (x7c0 : Go.Addr) (x8 : Int) (a51 : Option Go.Addr) (n51 : Nat) (c51 : Nat) (x52 : Int) (x53 : Int) (x75 : Bool) (xb0_0 : Int) (xb0_1 : Int) (xb0_2 : Int) (ab0_3 : Option Go.Addr) (nb0_3 : Nat) (cb0_3 : Nat) (xb1_0 : Int) (xb1_1 : Int) (xb1_2 : Int) (ab1_3 : Option Go.Addr) (nb1_3 : Nat) (cb1_3 : Nat) (ab1_4 : Option Go.Addr) (nb1_4 : Nat) (cb1_4 : Nat) (h : AH)
  (hv : (brB x75 (K (Go.Value.bool false) h) (f6_22 w0 K x4 x7c0 x8 a51 n51 c51 x52 x53 xb0_0 xb0_1 xb0_2 ab0_3 nb0_3 cb0_3 xb1_0 xb1_1 xb1_2 ab1_3 nb1_3 cb1_3 ab1_4 nb1_4 cb1_4 h))) :
  f6_21 w0 K x4 x7c0 x8 a51 n51 c51 x52 x53 x75 xb0_0 xb0_1 xb0_2 ab0_3 nb0_3 cb0_3 xb1_0 xb1_1 xb1_2 ab1_3 nb1_3 cb1_3 ab1_4 nb1_4 cb1_4 h := fun j => LP_intro (P := Go.Proofs.Try.prog) (Eq.mp (by kernel_rfl) hv)

theorem f6_22_in {w0 : World} {K : Value → AH → Prop} (x4 : Go.Addr) (x7c0 : Go.Addr) (x8 : Int) (a51 : Option Go.Addr) (n51 : Nat) (c51 : Nat) (x52 : Int) (x53 : Int) (xb0_0 : Int) (xb0_1 : Int) (xb0_2 : Int) (ab0_3 : Option Go.Addr) (nb0_3 : Nat) (cb0_3 : Nat) (xb1_0 : Int) (xb1_1 : Int) (xb1_2 : Int) (ab1_3 : Option Go.Addr) (nb1_3 : Nat) (cb1_3 : Nat) (ab1_4 : Option Go.Addr) (nb1_4 : Nat) (cb1_4 : Nat) (h : AH)
  (hv : (∃ i'48 : Int, (((Go.G.cellA w0 h (Go.Addr.add x4 1)) = (some (Go.Value.int .i64 i'48))) ∧ (EvC Go.Proofs.Try.prog w0 23 #[(Go.Value.agg #[(Go.Value.int .i64 xb0_0), (Go.Value.int .i64 xb0_1), (Go.Value.int .i64 xb0_2), (Go.Value.slice ab0_3 nb0_3 cb0_3)]), (Go.Value.int .i64 i'48), (Go.Value.slice ab1_3 nb1_3 cb1_3), (Go.Value.slice ab1_4 nb1_4 cb1_4)] (fun x'49 h'50 => (∃ p'51 : Option Go.Addr, (∃ n'52 : Nat, (∃ n'53 : Nat, ((x'49 = (Go.Value.slice p'51 n'52 n'53)) ∧ (f6_23 w0 K x4 x7c0 x8 a51 n51 c51 x52 x53 p'51 n'52 n'53 ((n'52 : Nat) : Int) (0 : Int) xb0_0 xb0_1 xb0_2 ab0_3 nb0_3 cb0_3 xb1_0 xb1_1 xb1_2 ab1_3 nb1_3 cb1_3 ab1_4 nb1_4 cb1_4 h'50)))))) h)))) :
  f6_22 w0 K x4 x7c0 x8 a51 n51 c51 x52 x53 xb0_0 xb0_1 xb0_2 ab0_3 nb0_3 cb0_3 xb1_0 xb1_1 xb1_2 ab1_3 nb1_3 cb1_3 ab1_4 nb1_4 cb1_4 h := fun j => LP_intro (P := Go.Proofs.Try.prog) (Eq.mp (by kernel_rfl) hv)

theorem f6_23_in {w0 : World} {K : Value → AH → Prop} (x4 : Go.Addr) (x7c0 : Go.Addr) (x8 : Int) (a51 : Option Go.Addr) (n51 : Nat) (c51 : Nat) (x52 : Int) (x53 : Int) (a83 : Option Go.Addr) (n83 : Nat) (c83 : Nat) (x84 : Int) (x85 : Int) (xb0_0 : Int) (xb0_1 : Int) (xb0_2 : Int) (ab0_3 : Option Go.Addr) (nb0_3 : Nat) (cb0_3 : Nat) (xb1_0 : Int) (xb1_1 : Int) (xb1_2 : Int) (ab1_3 : Option Go.Addr) (nb1_3 : Nat) (cb1_3 : Nat) (ab1_4 : Option Go.Addr) (nb1_4 : Nat) (cb1_4 : Nat) (h : AH)
  (hv : (brB (decide ((x85 < x84))) (∃ a'54 : Go.Addr, ((a83 = (some a'54)) ∧ (((0 : Int) ≤ x85) ∧ ((x85 < ((n83 : Nat) : Int)) ∧ (∃ i'55 : Int, (∃ i'56 : Int, (∃ i'57 : Int, (∃ p'58 : Option Go.Addr, (∃ n'59 : Nat, (∃ n'60 : Nat, (∃ p'61 : Option Go.Addr, (∃ n'62 : Nat, (∃ n'63 : Nat, ((((Array.size #[(Go.Value.int .i64 i'55), (Go.Value.int .i64 i'56), (Go.Value.int .i64 i'57), (Go.Value.slice p'58 n'59 n'60), (Go.Value.slice p'61 n'62 n'63)]) = 5) ∧ (At w0 h (Go.Addr.add a'54 ((Int.toNat x85) * 5)) [(Go.Value.int .i64 i'55), (Go.Value.int .i64 i'56), (Go.Value.int .i64 i'57), (Go.Value.slice p'58 n'59 n'60), (Go.Value.slice p'61 n'62 n'63)])) ∧ (∃ i'64 : Int, (((Go.G.cellA w0 h (Go.Addr.add x4 0)) = (some (Go.Value.int .i64 i'64))) ∧ (brB (xb1_1 == i'64) (EvC Go.Proofs.Try.prog w0 22 #[(Go.Value.int .i64 i'55), (Go.Value.pointer (some x7c0))] (fun x'65 h'66 => (∃ t'67 : Bool, ((x'65 = (Go.Value.bool t'67)) ∧ (f6_26 w0 K x4 x7c0 x8 a51 n51 c51 x52 x53 a83 n83 c83 x84 x85 (!t'67) xb0_0 xb0_1 xb0_2 ab0_3 nb0_3 cb0_3 xb1_0 xb1_1 xb1_2 ab1_3 nb1_3 cb1_3 ab1_4 nb1_4 cb1_4 h'66)))) h) (f6_26 w0 K x4 x7c0 x8 a51 n51 c51 x52 x53 a83 n83 c83 x84 x85 false xb0_0 xb0_1 xb0_2 ab0_3 nb0_3 cb0_3 xb1_0 xb1_1 xb1_2 ab1_3 nb1_3 cb1_3 ab1_4 nb1_4 cb1_4 h)))))))))))))))))) (f6_16 w0 K x4 x7c0 x8 a51 n51 c51 x52 (Go.IntKind.wrap .i64 (x53 + (1 : Int))) xb0_0 xb0_1 xb0_2 ab0_3 nb0_3 cb0_3 h))) :
  f6_23 w0 K x4 x7c0 x8 a51 n51 c51 x52 x53 a83 n83 c83 x84 x85 xb0_0 xb0_1 xb0_2 ab0_3 nb0_3 cb0_3 xb1_0 xb1_1 xb1_2 ab1_3 nb1_3 cb1_3 ab1_4 nb1_4 cb1_4 h := fun j => LP_intro (P := Go.Proofs.Try.prog) (Eq.mp (by kernel_rfl) hv)

theorem f6_26_in {w0 : World} {K : Value → AH → Prop} (x4 : Go.Addr) (x7c0 : Go.Addr) (x8 : Int) (a51 : Option Go.Addr) (n51 : Nat) (c51 : Nat) (x52 : Int) (x53 : Int) (a83 : Option Go.Addr) (n83 : Nat) (c83 : Nat) (x84 : Int) (x85 : Int) (x100 : Bool) (xb0_0 : Int) (xb0_1 : Int) (xb0_2 : Int) (ab0_3 : Option Go.Addr) (nb0_3 : Nat) (cb0_3 : Nat) (xb1_0 : Int) (xb1_1 : Int) (xb1_2 : Int) (ab1_3 : Option Go.Addr) (nb1_3 : Nat) (cb1_3 : Nat) (ab1_4 : Option Go.Addr) (nb1_4 : Nat) (cb1_4 : Nat) (h : AH)
  (hv : (brB x100 (K (Go.Value.bool false) h) (f6_23 w0 K x4 x7c0 x8 a51 n51 c51 x52 x53 a83 n83 c83 x84 (Go.IntKind.wrap .i64 (x85 + (1 : Int))) xb0_0 xb0_1 xb0_2 ab0_3 nb0_3 cb0_3 xb1_0 xb1_1 xb1_2 ab1_3 nb1_3 cb1_3 ab1_4 nb1_4 cb1_4 h))) :
  f6_26 w0 K x4 x7c0 x8 a51 n51 c51 x52 x53 a83 n83 c83 x84 x85 x100 xb0_0 xb0_1 xb0_2 ab0_3 nb0_3 cb0_3 xb1_0 xb1_1 xb1_2 ab1_3 nb1_3 cb1_3 ab1_4 nb1_4 cb1_4 h := fun j => LP_intro (P := Go.Proofs.Try.prog) (Eq.mp (by kernel_rfl) hv)

theorem f6_go {w0 : World} {K : Value → AH → Prop} (a0 : Option Go.Addr) (n0 : Nat) (c0 : Nat) (h : AH)
  (hv : (EvC Go.Proofs.Try.prog w0 18 #[(Go.Value.slice a0 n0 c0)] (fun x'0 h'1 => (∃ i'2 : Int, (∃ i'3 : Int, (∃ i'4 : Int, (∃ p'5 : Option Go.Addr, (∃ n'6 : Nat, (∃ n'7 : Nat, ((x'0 = (Go.Value.agg #[(Go.Value.int .i64 i'2), (Go.Value.int .i64 i'3), (Go.Value.int .i64 i'4), (Go.Value.slice p'5 n'6 n'7)])) ∧ (EvC Go.Proofs.Try.prog w0 21 #[(Go.Value.agg #[(Go.Value.int .i64 i'2), (Go.Value.int .i64 i'3), (Go.Value.int .i64 i'4), (Go.Value.slice p'5 n'6 n'7)])] (fun x'8 h'9 => (∃ i'10 : Int, (∃ i'11 : Int, (∃ p'12 : Option Go.Addr, (∃ n'13 : Nat, (∃ n'14 : Nat, (∃ t'15 : Bool, ((x'8 = (Go.Value.tuple #[(Go.Value.agg #[(Go.Value.int .i64 i'10), (Go.Value.int .i64 i'11), (Go.Value.slice p'12 n'13 n'14)]), (Go.Value.bool t'15)])) ∧ (brB (!t'15) (f6_5 w0 K (0 : Int) i'2 i'3 i'4 p'5 n'6 n'7 i'10 i'11 p'12 n'13 n'14 h'9) (brB (i'11 != (Go.IntKind.wrap .i64 (i'10 + (1 : Int)))) (f6_12 w0 K true i'2 i'3 i'4 p'5 n'6 n'7 i'10 i'11 p'12 n'13 n'14 h'9) (EvC Go.Proofs.Try.prog w0 19 #[(Go.Value.agg #[(Go.Value.int .i64 i'2), (Go.Value.int .i64 i'3), (Go.Value.int .i64 i'4), (Go.Value.slice p'5 n'6 n'7)]), (Go.Value.int .i64 i'10)] (fun x'16 h'17 => (∃ t'18 : Bool, ((x'16 = (Go.Value.bool t'18)) ∧ (f6_12 w0 K (!t'18) i'2 i'3 i'4 p'5 n'6 n'7 i'10 i'11 p'12 n'13 n'14 h'17)))) h'9))))))))))) h'1))))))))) h)) :
  EvC Go.Proofs.Try.prog w0 6 ([(.slice a0 n0 c0)]).toArray K h := EvC_intro (P := Go.Proofs.Try.prog) f6_J (Eq.mp (by kernel_rfl) hv)
section
variable {w0 : World} {K : Value → AH → Prop} {h1 : AH} {a aj : Option Addr} {n c nj cj b : Nat} {ts : List Tab} {lo nx sq x : Int}
variable (hk : ∀ h', Ext h1 h' none → K (.bool true) h') (s : TS w0 h1 a n c ts) (hn : n ≤ 200) (hnd : ((ts.map Tab.dat).map Dat.num).Nodup) (hne : atD (ts.map Tab.dat) x ≠ [])
  (hJn : (jobD (ts.map Tab.dat) x).Nodup) (hJl : (jobD (ts.map Tab.dat) x).length ≤ 1000000)
  (hj : Sl w0 h1 1 (some ⟨b, 0, none⟩) 3 3 [.int .i64 x, .int .i64 (x + 1), .slice aj nj cj]) (sj : Sl w0 h1 1 aj nj cj (ints (jobD (ts.map Tab.dat) x)))
include hnd hne hJn hJl hj sj

theorem f6_23_ok {t : Tab} (ht : t ∈ ts) (hin : t.num ∈ jobD (ts.map Tab.dat) x) {k : Int} {y : Option Addr} {y1 y2 : Nat} {y3 y4 : Int} {a2 : Option Addr} {n2 c2 : Nat} {us : List Tab} (hn2 : n2 ≤ 1000000)
    (hdat : us.map Tab.dat = overD (ts.map Tab.dat) (x + 1) t.lb t.mb)
    {h2 : AH} (x2 : Ext h1 h2 none) (s2 : TS w0 h2 a2 n2 c2 us)
    (hnext : ∀ h', Ext h1 h' none → f6_16 w0 K ⟨b, 0, none⟩ ⟨b, 0, none⟩ k y y1 y2 y3 (IntKind.i64.wrap (y4 + 1)) lo nx sq a n c h') :
    ∀ (rest : List Tab) (i : Nat) (h : AH), us.drop i = rest → i ≤ n2 → Ext h2 h none →
      f6_23 w0 K ⟨b, 0, none⟩ ⟨b, 0, none⟩ k y y1 y2 y3 y4 a2 n2 c2 ((n2 : Nat) : Int) ((i : Nat) : Int) lo nx sq a n c t.num t.lev t.siz t.lp t.ln t.lc t.mp t.mn t.mc h := by
  have hl := s2.len
  intro rest
  induction rest with
  | nil =>
    intro i h hd hi hx
    have := drop_done hd
    exact f6_23_in _ _ _ _ _ _ _ _ _ _ _ _ _ _ _ _ _ _ _ _ _ _ _ _ _ _ _ _ _ (brB_of (fun q => by simp at q; omega) fun _ => hnext h (x2.trans hx))
  | cons u r ih =>
    intro i h hd hi hx
    obtain ⟨hget, hd', hlt⟩ := drop_step hd
    have hxx := x2.trans hx
    have fin : ∀ (q : Bool), q = false → f6_26 w0 K ⟨b, 0, none⟩ ⟨b, 0, none⟩ k y y1 y2 y3 y4 a2 n2 c2 ((n2 : Nat) : Int) ((i : Nat) : Int) q lo nx sq a n c t.num t.lev t.siz t.lp t.ln t.lc t.mp t.mn t.mc h := fun q hq => by
      refine f6_26_in _ _ _ _ _ _ _ _ _ _ _ _ _ _ _ _ _ _ _ _ _ _ _ _ _ _ _ _ _ _ (brB_of (fun e => by rw [hq] at e; cases e) fun _ => ?_)
      rw [wrapS (by omega)]
      exact ih (i + 1) h hd' (by omega) hx
    refine f6_23_in _ _ _ _ _ _ _ _ _ _ _ _ _ _ _ _ _ _ _ _ _ _ _ _ _ _ _ _ _ (brB_of (fun _ => tabLoad (s2.ext hx).rs.rd hl hget ⟨x, (hj.ext hxx).cell (j := 0) rfl, brB_of (fun q => ?_) fun q => fin _ rfl⟩) fun q => by simp at q; omega)
    refine f22_spec (xs := jobD (ts.map Tab.dat) x) ((hj.ext hxx).cell (j := 2) rfl) (sj.ext hxx) hJl hJn ⟨_, rfl, fin _ ?_⟩
    have hu : u.dat ∈ overD (ts.map Tab.dat) (x + 1) t.lb t.mb := by rw [← hdat]; exact List.mem_map_of_mem (List.mem_of_getElem? hget)
    have : Dat.num u.dat ∈ jobD (ts.map Tab.dat) x := job_over hnd hne (d := t.dat) (List.mem_map_of_mem ht) hin (show t.lev = x by simpa using q) hu
    have : u.num ∈ jobD (ts.map Tab.dat) x := this
    simp [this]

include hk s hn
theorem f6_16_ok (hcnt : (ts.countP fun t => decide (t.num ∈ jobD (ts.map Tab.dat) x)) = nj) (hpos : 0 < nj) :
    ∀ (rest : List Tab) (i k : Nat) (h : AH), ts.drop i = rest → i ≤ n → k ≤ i → nj = k + rest.countP (fun t => decide (t.num ∈ jobD (ts.map Tab.dat) x)) → Ext h1 h none →
      f6_16 w0 K ⟨b, 0, none⟩ ⟨b, 0, none⟩ ((k : Nat) : Int) a n c ((n : Nat) : Int) ((i : Nat) : Int) lo nx sq a n c h := by
  have hl := s.len
  intro rest
  induction rest with
  | nil =>
    intro i k h hd hi hki he hx
    have := drop_done hd
    have he' : nj = k := he
    subst he'
    refine f6_16_in _ _ _ _ _ _ _ _ _ _ _ _ _ _ _ (brB_of (fun q => by simp at q; omega) fun _ => ⟨_, _, _, (hj.ext hx).cell (j := 2) rfl, brB_of (fun _ => brB_of (fun _ => f17_spec fun h' x' => ⟨_, rfl, hk h' (hx.trans x')⟩) fun q => by simp at q; omega) fun q => by simp at q⟩)
  | cons t r ih =>
    intro i k h hd hi hki he hx
    obtain ⟨hget, hd', hlt⟩ := drop_step hd
    have ht := List.mem_of_getElem? hget
    have o := (s.ext hx).ok t ht
    refine f6_16_in _ _ _ _ _ _ _ _ _ _ _ _ _ _ _ (brB_of (fun _ => tabLoad (s.ext hx).rs.rd hl hget ?_) fun q => by simp at q; omega)
    refine f22_spec (xs := jobD (ts.map Tab.dat) x) ((hj.ext hx).cell (j := 2) rfl) (sj.ext hx) hJl hJn ⟨_, rfl, brB_of (fun q => ?_) fun q => ⟨x, (hj.ext hx).cell (j := 0) rfl, ?_⟩⟩
    · have q' : ¬ t.num ∈ jobD (ts.map Tab.dat) x := by simpa using q
      rw [wrapS (by omega)]
      exact ih (i + 1) k h hd' (by omega) (by omega) (by rw [he, List.countP_cons, if_neg (by simpa using q')]; omega) hx
    have q' : t.num ∈ jobD (ts.map Tab.dat) x := by simpa using q
    have hlev : t.lev = x ∨ t.lev = x + 1 := job_lev hnd hne (d := t.dat) (List.mem_map_of_mem ht) q'
    have go : ∀ v : Bool, v = false → f6_21 w0 K ⟨b, 0, none⟩ ⟨b, 0, none⟩ (IntKind.i64.wrap (((k : Nat) : Int) + 1)) a n c ((n : Nat) : Int) ((i : Nat) : Int) v lo nx sq a n c t.num t.lev t.siz t.lp t.ln t.lc t.mp t.mn t.mc h := fun v hv => by
      refine f6_21_in _ _ _ _ _ _ _ _ _ _ _ _ _ _ _ _ _ _ _ _ _ _ _ _ _ (brB_of (fun e => by rw [hv] at e; cases e) fun _ => f6_22_in _ _ _ _ _ _ _ _ _ _ _ _ _ _ _ _ _ _ _ _ _ _ _ _ ⟨x + 1, (hj.ext hx).cell (j := 1) rfl, ?_⟩)
      refine f23_spec (s.ext hx) (by omega) o.lb o.mb o.ln o.mn fun a2 n2 c2 h2 us s2 hdat hok x2 _ => ⟨_, _, _, rfl, ?_⟩
      have hl2 := s2.len5
      have hlen := congrArg List.length hdat
      have := overD_le (ds := ts.map Tab.dat) (x := x + 1) (lo := t.lb) (mo := t.mb)
      simp only [List.length_map] at hlen this
      rw [wrapS (by omega)]
      refine f6_23_ok hnd hne hJn hJl hj sj ht q' (by omega) hdat (hx.trans x2) (s2.ts (by omega) hok) (fun h' x' => ?_) us 0 h2 rfl (by omega) (Ext.refl _ _)
      rw [wrapS (by omega)]
      exact ih (i + 1) (k + 1) h' hd' (by omega) (by omega) (by rw [he, List.countP_cons, if_pos (by simpa using q')]; omega) x'
    refine brB_of (fun e => ⟨x + 1, (hj.ext hx).cell (j := 1) rfl, go _ ?_⟩) fun e => go _ rfl
    have : ¬ t.lev = x := by simpa using e
    have : t.lev = x + 1 := by omega
    simp [this]
end

/-- PickApart holds. -/
theorem f6_spec {w0 : World} {K : Value → AH → Prop} {h0 : AH} {a : Option Addr} {n c : Nat} {ts : List Tab} (s : TS w0 h0 a n c ts) (hk : ∀ h', Ext h0 h' none → K (.bool true) h') : EvC Go.Proofs.Try.prog w0 6 #[.slice a n c] K h0 := by
  refine f6_go _ _ _ _ (f18_spec s fun a1 n1 c1 h1 s1 x1 => ⟨_, _, _, _, _, _, rfl, ?_⟩)
  have hm := laidR_may ts
  generalize laidR ts = v at *
  have hlen := mayV_len hm
  have hl := s1.len
  have hsz : ∀ t ∈ v.ts, 1 ≤ t.siz ∧ t.siz ≤ 4194304 := fun t ht => mayT_siz (mayV_all hm t ht)
  refine f21_spec s1 (fun h2 e2 x2 => ⟨_, _, _, _, _, _, rfl, brB_of (fun _ => ?_) fun q => by cases q⟩) fun x a2 n2 c2 h2 e2 s2 x2 => ⟨_, _, _, _, _, _, rfl, brB_of (fun q => by cases q) fun _ => ?_⟩
  · -- no level is full
    have nf : ∀ i : Int, 0 ≤ i → fullR v.ts i = false := fun i hi => by
      unfold nextR at e2
      rw [hm] at e2
      by_cases h0 : fullR v.ts 0 = true
      · simp [h0] at e2
      by_cases h1 : fullR v.ts 1 = true
      · simp [h0, h1] at e2
      by_cases h2 : fullR v.ts 2 = true
      · simp [h0, h1, h2] at e2
      by_cases j0 : i = 0
      · subst j0; simpa using h0
      by_cases j1 : i = 1
      · subst j1; simpa using h1
      by_cases j2 : i = 2
      · subst j2; simpa using h2
      simp [fullR, j0, j1, j2]
    have loop : ∀ (k i : Nat) (h : AH), i + k = 4 → Ext h1 h none → f6_5 w0 K ((i : Nat) : Int) v.lo v.nx v.sq a1 n1 c1 0 0 none 0 0 h := by
      intro k
      induction k with
      | zero =>
        intro i h hi hx
        exact f6_5_in _ _ _ _ _ _ _ _ _ _ _ _ _ (brB_of (fun q => by simp at q; omega) fun _ => brB_of (fun _ => f17_spec fun h' x' => ⟨_, rfl, hk h' ((x1.trans hx).trans x')⟩) fun q => by simp at q)
      | succ k ih =>
        intro i h hi hx
        refine f6_5_in _ _ _ _ _ _ _ _ _ _ _ _ _ (brB_of (fun _ => f19_spec (s1.ext hx) (by omega) hsz fun h' x' => ⟨_, rfl, brB_of (fun q => by rw [nf _ (by omega)] at q; cases q) fun _ => ?_⟩) fun q => by simp at q; omega)
        rw [wrapS (by omega)]
        exact ih (i + 1) h' (by omega) (hx.trans x')
    exact loop 4 0 h2 rfl x2
  · have hx : (0 ≤ x ∧ x ≤ 4) ∧ fullR v.ts x = true := by
      unfold nextR at e2
      rw [hm] at e2
      simp only [if_true] at e2
      split at e2
      · injection e2 with e2; subst e2; exact ⟨by omega, by assumption⟩
      split at e2
      · injection e2 with e2; subst e2; exact ⟨by omega, by assumption⟩
      split at e2
      · injection e2 with e2; subst e2; exact ⟨by omega, by assumption⟩
      · cases e2
    have hne := fullR_ne hx.2
    have hnd : ((v.ts.map Tab.dat).map Dat.num).Nodup := by
      have : (v.ts.map Tab.dat).map Dat.num = v.ts.map Tab.num := by rw [List.map_map]; rfl
      rw [this]
      simp only [mayV, Bool.and_eq_true] at hm
      exact (mayL_nodup hm.2).1
    obtain ⟨O, LO, HI, _, _, _, hJn, hJs, hJp⟩ := jobD_facts hnd hne
    have hJl : (jobD (v.ts.map Tab.dat) x).length ≤ 1000000 := by
      have := jobD_le (ds := v.ts.map Tab.dat) (x := x)
      simp at this; omega
    have hnj : n2 = (jobD (v.ts.map Tab.dat) x).length := by have := s2.1; simp [ints] at this; omega
    have hcnt : (v.ts.countP fun t => decide (t.num ∈ jobD (v.ts.map Tab.dat) x)) = n2 := by
      have := cnt_sub hnd hJn hJs
      rw [List.map_map, List.countP_map] at this
      rw [hnj, ← this]
      rfl
    have e1 : IntKind.i64.wrap (x + 1) = x + 1 := wrap64 (by omega) (by omega)
    have tail : ∀ (h3 : AH), Ext h2 h3 none → ∀ q : Bool, q = false → f6_12 w0 K q v.lo v.nx v.sq a1 n1 c1 x (x + 1) a2 n2 c2 h3 := fun h3 x3 q hq => by
      refine f6_12_in _ _ _ _ _ _ _ _ _ _ _ _ _ (brB_of (fun e => by rw [hq] at e; cases e) fun _ => f6_13_in _ _ _ _ _ _ _ _ _ _ _ _ fun b hb hbn => ?_)
      have hs : Sl w0 (h3.put b (.cells [.int .i64 x, .int .i64 (x + 1), .slice a2 n2 c2] (3 * 1))) 1 (some ⟨b, 0, none⟩) 3 3 [.int .i64 x, .int .i64 (x + 1), .slice a2 n2 c2] := Sl.lit hb rfl
      have x4 : Ext h3 (h3.put b (.cells [.int .i64 x, .int .i64 (x + 1), .slice a2 n2 c2] (3 * 1))) none := Ext_put hbn
      exact f6_16_ok (fun h' x' => hk h' ((((x1.trans x2).trans x3).trans x4).trans x')) (s1.ext ((x2.trans x3).trans x4)) (by omega) hnd hne hJn hJl hs (s2.ext (x3.trans x4)) hcnt (by omega) v.ts 0 0 _ rfl (by omega) (by omega) (by rw [hcnt]; omega) (Ext.refl _ _)
    rw [e1]
    refine brB_of (fun e => by simp at e) fun _ => f19_spec ((s1.ext x2)) (by omega) hsz fun h3 x3 => ⟨_, rfl, tail h3 x3 _ ?_⟩
    rw [hx.2]; rfl
end Go.G.Ytpnhlgghpciofaa
