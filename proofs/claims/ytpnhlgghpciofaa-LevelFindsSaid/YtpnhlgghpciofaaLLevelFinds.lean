/- LevelFinds by the evaluator. -/
import Derived.Test.YtpnhlgghpciofaaLV
import Derived.Test.YtpnhlgghpciofaaProg
set_option maxRecDepth 100000
namespace Go.G.Ytpnhlgghpciofaa
open Go.RowKit
/-! ### the plain law of Find -/
/-- Of what Find tells: rising levels, one of each but 0, there the newest first. -/
def After (a b : Dat) : Prop := Dat.lev a ≤ Dat.lev b ∧ (Dat.lev a = Dat.lev b → ¬ 0 < Dat.lev b ∧ ¬ Dat.num a < Dat.num b)
theorem overD_mem {ds : List Dat} {x : Int} {lo mo : List UInt8} {d : Dat} (h : d ∈ overD ds x lo mo) : Dat.lev d = x ∧ 0 ≤ cmpL (Dat.mb d) lo ∧ cmpL (Dat.lb d) mo ≤ 0 := by
  have h1 := List.mem_filter.1 h
  have h2 := List.mem_filter.1 h1.1
  have h3 : ovD lo mo d = true := h1.2
  simp only [ovD, Bool.and_eq_true, decide_eq_true_eq] at h3
  exact ⟨by simpa using h2.2, h3.1, h3.2⟩
theorem overD_after {ds : List Dat} {x : Int} {key : List UInt8} (hx : 0 ≤ x) (hp : ds.Pairwise Before) : (overD ds x key key).Pairwise After := by
  have h1 : (overD ds x key key).Pairwise Before := hp.sublist overD_sub
  refine List.Pairwise.imp_of_mem (fun {a b} ha hb hab => ?_) h1
  obtain ⟨la, ma, _⟩ := overD_mem ha
  obtain ⟨lb, _, nb⟩ := overD_mem hb
  have hpos : ¬ 0 < Dat.lev b := fun hpos => by
    have h2 := hab.2 (by omega) hpos
    have h3 := cmpL_lt_le h2 nb
    omega
  refine ⟨by omega, fun _ => ⟨hpos, ?_⟩⟩
  have h2 := hab.1
  unfold ordD at h2
  rw [if_neg (by simp; omega), if_pos (by omega), cmpI_neg] at h2
  omega
theorem findD_after {ds : List Dat} {key : List UInt8} (hp : ds.Pairwise Before) : (findD ds key).Pairwise After := by
  have cross : ∀ {x y : Int}, x < y → ∀ a ∈ overD ds x key key, ∀ b ∈ overD ds y key key, After a b := fun hxy a ha b hb => by
    have h1 := (overD_mem ha).1
    have h2 := (overD_mem hb).1
    exact ⟨by omega, fun e => by omega⟩
  unfold findD
  rw [List.pairwise_append, List.pairwise_append, List.pairwise_append]
  refine ⟨overD_after (by omega) hp, ⟨overD_after (by omega) hp, ⟨overD_after (by omega) hp, overD_after (by omega) hp, cross (by omega)⟩, fun a ha b hb => ?_⟩, fun a ha b hb => ?_⟩
  · rcases List.mem_append.1 hb with hb | hb
    · exact cross (by omega) a ha b hb
    · exact cross (by omega) a ha b hb
  · rcases List.mem_append.1 hb with hb | hb
    · exact cross (by omega) a ha b hb
    · rcases List.mem_append.1 hb with hb | hb
      · exact cross (by omega) a ha b hb
      · exact cross (by omega) a ha b hb
def insideD (key : List UInt8) (d : Dat) : Bool := decide (cmpL (Dat.lb d) key ≤ 0) && decide (0 ≤ cmpL (Dat.mb d) key)
theorem findD_len {key : List UInt8} : ∀ {ds : List Dat}, (∀ d ∈ ds, 0 ≤ Dat.lev d ∧ Dat.lev d < 4) → (findD ds key).length = ds.countP (insideD key)
  | [], _ => rfl
  | d :: ds, h => by
    have ih := findD_len (key := key) (ds := ds) fun e he => h e (.tail _ he)
    have hd := h d (.head _)
    have hov : ∀ x, (overD (d :: ds) x key key).length = (if Dat.lev d = x ∧ insideD key d = true then 1 else 0) + (overD ds x key key).length := fun x => by
      unfold overD atD
      rw [List.filter_cons]
      by_cases e : Dat.lev d = x
      · rw [if_pos (by simpa using e), List.filter_cons]
        have : ovD key key d = insideD key d := by unfold ovD insideD; rw [Bool.and_comm]
        rw [this]
        cases insideD key d <;> simp [e] <;> omega
      · rw [if_neg (by simpa using e)]
        simp [e]
    simp only [findD, List.length_append] at ih ⊢
    rw [hov, hov, hov, hov, List.countP_cons, ← ih]
    cases hin : insideD key d
    · simp
    · have : Dat.lev d = 0 ∨ Dat.lev d = 1 ∨ Dat.lev d = 2 ∨ Dat.lev d = 3 := by omega
      rcases this with e | e | e | e <;> simp [e] <;> omega
def f12_J : Nat → List Nat × Nat := jOf [(5, [0, 2, 3, 4, 5, 8, 9, 10, 11, 12, 13, 14, 15, 16, 17, 21, 22, 23, 24, 25, 26, 27, 28, 29, 30, 31, 32, 33, 34, 35, 36, 37, 38, 39, 40, 41, 42, 43, 44, 45, 46, 47, 48, 49, 50, 51, 52, 53, 54, 55, 56, 57, 58, 59, 60, 61, 62, 63, 64, 65, 66, 67, 68, 69, 70, 71, 72, 73, 74, 75, 76, 77, 78, 79, 80, 81, 82, 83, 84, 85, 86, 87, 88, 89, 90, 91, 92, 93], 0), (8, [0, 2, 3, 4, 5, 8, 9, 10, 11, 12, 13, 14, 15, 16, 17, 21, 22, 23, 24, 25, 26, 27, 28, 29, 30, 31, 32, 33, 34, 36, 37, 38, 39, 40, 41, 42, 43, 44, 45, 46, 47, 48, 49, 50, 51, 52, 53, 54, 55, 56, 57, 58, 59, 60, 61, 62, 63, 64, 65, 66, 67, 68, 69, 70, 71, 72, 73, 74, 75, 76, 77, 78, 79, 80, 81, 82, 83, 84, 85, 86, 87, 88, 89, 90, 91, 92, 93], 0), (11, [0, 1, 2, 3, 4, 5, 8, 9, 10, 11, 12, 13, 14, 15, 16, 17, 18, 19, 20, 21, 22, 23, 24, 25, 26, 27, 28, 29, 30, 31, 32, 33, 34, 35, 36, 37, 38, 42, 43, 44, 45, 46, 47, 48, 49, 50, 51, 52, 53, 54, 55, 56, 57, 58, 59, 60, 61, 62, 63, 64, 65, 66, 67, 68, 69, 70, 71, 72, 73, 74, 75, 76, 77, 78, 79, 80, 81, 82, 83, 84, 85, 86, 87, 88, 89, 90, 91, 92, 93], 0), (14, [0, 1, 2, 3, 4, 5, 8, 9, 10, 11, 12, 13, 14, 15, 16, 17, 18, 19, 20, 21, 22, 23, 24, 25, 26, 27, 28, 29, 30, 31, 32, 33, 34, 35, 36, 37, 38, 42, 43, 44, 45, 46, 47, 48, 49, 50, 51, 52, 53, 54, 55, 56, 57, 58, 59, 60, 61, 62, 63, 64, 65, 66, 67, 68, 69, 70, 71, 72, 73, 74, 75, 76, 77, 78, 79, 80, 81, 82, 83, 84, 86, 87, 88, 89, 90, 91, 92, 93], 0)]

def f12_5 (w0 : World) (K : Value → AH → Prop) (a1 : Option Go.Addr) (n1 : Nat) (c1 : Nat) (a6 : Option Go.Addr) (n6 : Nat) (c6 : Nat) (x7 : Int) (a18 : Option Go.Addr) (n18 : Nat) (c18 : Nat) (x19 : Int) (x20 : Int) (h : AH) : Prop :=
  ∀ j : Nat → Value, LPk Go.Proofs.Try.prog w0 (EvC Go.Proofs.Try.prog w0) f12_J 12 K 5 [.v (j 0), .v (.slice a1 n1 c1), .v (j 2), .v (j 3), .v (j 4), .v (j 5), .v (.slice a6 n6 c6), .v (.int .i64 x7), .v (j 8), .v (j 9), .v (j 10), .v (j 11), .v (j 12), .v (j 13), .v (j 14), .v (j 15), .v (j 16), .v (j 17), .v (.slice a18 n18 c18), .v (.int .i64 x19), .v (.int .i64 x20), .v (j 21), .v (j 22), .v (j 23), .v (j 24), .v (j 25), .v (j 26), .v (j 27), .v (j 28), .v (j 29), .v (j 30), .v (j 31), .v (j 32), .v (j 33), .v (j 34), .v (j 35), .v (j 36), .v (j 37), .v (j 38), .v (j 39), .v (j 40), .v (j 41), .v (j 42), .v (j 43), .v (j 44), .v (j 45), .v (j 46), .v (j 47), .v (j 48), .v (j 49), .v (j 50), .v (j 51), .v (j 52), .v (j 53), .v (j 54), .v (j 55), .v (j 56), .v (j 57), .v (j 58), .v (j 59), .v (j 60), .v (j 61), .v (j 62), .v (j 63), .v (j 64), .v (j 65), .v (j 66), .v (j 67), .v (j 68), .v (j 69), .v (j 70), .v (j 71), .v (j 72), .v (j 73), .v (j 74), .v (j 75), .v (j 76), .v (j 77), .v (j 78), .v (j 79), .v (j 80), .v (j 81), .v (j 82), .v (j 83), .v (j 84), .v (j 85), .v (j 86), .v (j 87), .v (j 88), .v (j 89), .v (j 90), .v (j 91), .v (j 92), .v (j 93)] [] h

def f12_8 (w0 : World) (K : Value → AH → Prop) (a1 : Option Go.Addr) (n1 : Nat) (c1 : Nat) (a6 : Option Go.Addr) (n6 : Nat) (c6 : Nat) (x7 : Int) (a18 : Option Go.Addr) (n18 : Nat) (c18 : Nat) (x19 : Int) (x20 : Int) (x35 : Bool) (h : AH) : Prop :=
  ∀ j : Nat → Value, LPk Go.Proofs.Try.prog w0 (EvC Go.Proofs.Try.prog w0) f12_J 12 K 8 [.v (j 0), .v (.slice a1 n1 c1), .v (j 2), .v (j 3), .v (j 4), .v (j 5), .v (.slice a6 n6 c6), .v (.int .i64 x7), .v (j 8), .v (j 9), .v (j 10), .v (j 11), .v (j 12), .v (j 13), .v (j 14), .v (j 15), .v (j 16), .v (j 17), .v (.slice a18 n18 c18), .v (.int .i64 x19), .v (.int .i64 x20), .v (j 21), .v (j 22), .v (j 23), .v (j 24), .v (j 25), .v (j 26), .v (j 27), .v (j 28), .v (j 29), .v (j 30), .v (j 31), .v (j 32), .v (j 33), .v (j 34), .v (.bool x35), .v (j 36), .v (j 37), .v (j 38), .v (j 39), .v (j 40), .v (j 41), .v (j 42), .v (j 43), .v (j 44), .v (j 45), .v (j 46), .v (j 47), .v (j 48), .v (j 49), .v (j 50), .v (j 51), .v (j 52), .v (j 53), .v (j 54), .v (j 55), .v (j 56), .v (j 57), .v (j 58), .v (j 59), .v (j 60), .v (j 61), .v (j 62), .v (j 63), .v (j 64), .v (j 65), .v (j 66), .v (j 67), .v (j 68), .v (j 69), .v (j 70), .v (j 71), .v (j 72), .v (j 73), .v (j 74), .v (j 75), .v (j 76), .v (j 77), .v (j 78), .v (j 79), .v (j 80), .v (j 81), .v (j 82), .v (j 83), .v (j 84), .v (j 85), .v (j 86), .v (j 87), .v (j 88), .v (j 89), .v (j 90), .v (j 91), .v (j 92), .v (j 93)] [] h

def f12_11 (w0 : World) (K : Value → AH → Prop) (a6 : Option Go.Addr) (n6 : Nat) (c6 : Nat) (x7 : Int) (a39 : Option Go.Addr) (n39 : Nat) (c39 : Nat) (x40 : Int) (x41 : Int) (h : AH) : Prop :=
  ∀ j : Nat → Value, LPk Go.Proofs.Try.prog w0 (EvC Go.Proofs.Try.prog w0) f12_J 12 K 11 [.v (j 0), .v (j 1), .v (j 2), .v (j 3), .v (j 4), .v (j 5), .v (.slice a6 n6 c6), .v (.int .i64 x7), .v (j 8), .v (j 9), .v (j 10), .v (j 11), .v (j 12), .v (j 13), .v (j 14), .v (j 15), .v (j 16), .v (j 17), .v (j 18), .v (j 19), .v (j 20), .v (j 21), .v (j 22), .v (j 23), .v (j 24), .v (j 25), .v (j 26), .v (j 27), .v (j 28), .v (j 29), .v (j 30), .v (j 31), .v (j 32), .v (j 33), .v (j 34), .v (j 35), .v (j 36), .v (j 37), .v (j 38), .v (.slice a39 n39 c39), .v (.int .i64 x40), .v (.int .i64 x41), .v (j 42), .v (j 43), .v (j 44), .v (j 45), .v (j 46), .v (j 47), .v (j 48), .v (j 49), .v (j 50), .v (j 51), .v (j 52), .v (j 53), .v (j 54), .v (j 55), .v (j 56), .v (j 57), .v (j 58), .v (j 59), .v (j 60), .v (j 61), .v (j 62), .v (j 63), .v (j 64), .v (j 65), .v (j 66), .v (j 67), .v (j 68), .v (j 69), .v (j 70), .v (j 71), .v (j 72), .v (j 73), .v (j 74), .v (j 75), .v (j 76), .v (j 77), .v (j 78), .v (j 79), .v (j 80), .v (j 81), .v (j 82), .v (j 83), .v (j 84), .v (j 85), .v (j 86), .v (j 87), .v (j 88), .v (j 89), .v (j 90), .v (j 91), .v (j 92), .v (j 93)] [] h

def f12_14 (w0 : World) (K : Value → AH → Prop) (a6 : Option Go.Addr) (n6 : Nat) (c6 : Nat) (x7 : Int) (a39 : Option Go.Addr) (n39 : Nat) (c39 : Nat) (x40 : Int) (x41 : Int) (x85 : Bool) (h : AH) : Prop :=
  ∀ j : Nat → Value, LPk Go.Proofs.Try.prog w0 (EvC Go.Proofs.Try.prog w0) f12_J 12 K 14 [.v (j 0), .v (j 1), .v (j 2), .v (j 3), .v (j 4), .v (j 5), .v (.slice a6 n6 c6), .v (.int .i64 x7), .v (j 8), .v (j 9), .v (j 10), .v (j 11), .v (j 12), .v (j 13), .v (j 14), .v (j 15), .v (j 16), .v (j 17), .v (j 18), .v (j 19), .v (j 20), .v (j 21), .v (j 22), .v (j 23), .v (j 24), .v (j 25), .v (j 26), .v (j 27), .v (j 28), .v (j 29), .v (j 30), .v (j 31), .v (j 32), .v (j 33), .v (j 34), .v (j 35), .v (j 36), .v (j 37), .v (j 38), .v (.slice a39 n39 c39), .v (.int .i64 x40), .v (.int .i64 x41), .v (j 42), .v (j 43), .v (j 44), .v (j 45), .v (j 46), .v (j 47), .v (j 48), .v (j 49), .v (j 50), .v (j 51), .v (j 52), .v (j 53), .v (j 54), .v (j 55), .v (j 56), .v (j 57), .v (j 58), .v (j 59), .v (j 60), .v (j 61), .v (j 62), .v (j 63), .v (j 64), .v (j 65), .v (j 66), .v (j 67), .v (j 68), .v (j 69), .v (j 70), .v (j 71), .v (j 72), .v (j 73), .v (j 74), .v (j 75), .v (j 76), .v (j 77), .v (j 78), .v (j 79), .v (j 80), .v (j 81), .v (j 82), .v (j 83), .v (j 84), .v (.bool x85), .v (j 86), .v (j 87), .v (j 88), .v (j 89), .v (j 90), .v (j 91), .v (j 92), .v (j 93)] [] h

theorem f12_5_in {w0 : World} {K : Value → AH → Prop} (a1 : Option Go.Addr) (n1 : Nat) (c1 : Nat) (a6 : Option Go.Addr) (n6 : Nat) (c6 : Nat) (x7 : Int) (a18 : Option Go.Addr) (n18 : Nat) (c18 : Nat) (x19 : Int) (x20 : Int) (h : AH)
  (hv : (brB (decide ((x20 < x19))) (∃ a'13 : Go.Addr, ((a18 = (some a'13)) ∧ (((0 : Int) ≤ x20) ∧ ((x20 < ((n18 : Nat) : Int)) ∧ (∃ i'14 : Int, (∃ i'15 : Int, (∃ i'16 : Int, (∃ p'17 : Option Go.Addr, (∃ n'18 : Nat, (∃ n'19 : Nat, (∃ p'20 : Option Go.Addr, (∃ n'21 : Nat, (∃ n'22 : Nat, ((((Array.size #[(Go.Value.int .i64 i'14), (Go.Value.int .i64 i'15), (Go.Value.int .i64 i'16), (Go.Value.slice p'17 n'18 n'19), (Go.Value.slice p'20 n'21 n'22)]) = 5) ∧ (At w0 h (Go.Addr.add a'13 ((Int.toNat x20) * 5)) [(Go.Value.int .i64 i'14), (Go.Value.int .i64 i'15), (Go.Value.int .i64 i'16), (Go.Value.slice p'17 n'18 n'19), (Go.Value.slice p'20 n'21 n'22)])) ∧ (EvC Go.Proofs.Try.prog w0 45 #[(Go.Value.slice p'17 n'18 n'19), (Go.Value.slice a1 n1 c1)] (fun x'23 h'24 => (∃ i'25 : Int, ((x'23 = (Go.Value.int .i64 i'25)) ∧ (brB (decide ((i'25 ≤ (0 : Int)))) (EvC Go.Proofs.Try.prog w0 45 #[(Go.Value.slice p'20 n'21 n'22), (Go.Value.slice a1 n1 c1)] (fun x'26 h'27 => (∃ i'28 : Int, ((x'26 = (Go.Value.int .i64 i'28)) ∧ (f12_8 w0 K a1 n1 c1 a6 n6 c6 x7 a18 n18 c18 x19 x20 (decide (((0 : Int) ≤ i'28))) h'27)))) h'24) (f12_8 w0 K a1 n1 c1 a6 n6 c6 x7 a18 n18 c18 x19 x20 false h'24))))) h))))))))))))))) (f12_11 w0 K a6 n6 c6 x7 a6 n6 c6 ((n6 : Nat) : Int) (0 : Int) h))) :
  f12_5 w0 K a1 n1 c1 a6 n6 c6 x7 a18 n18 c18 x19 x20 h := fun j => LP_intro (P := Go.Proofs.Try.prog) (Eq.mp (by kernel_rfl) hv)

theorem f12_8_in {w0 : World} {K : Value → AH → Prop} (a1 : Option Go.Addr) (n1 : Nat) (c1 : Nat) (a6 : Option Go.Addr) (n6 : Nat) (c6 : Nat) (x7 : Int) (a18 : Option Go.Addr) (n18 : Nat) (c18 : Nat) (x19 : Int) (x20 : Int) (x35 : Bool) (h : AH)
  (hv : (brB x35 (f12_5 w0 K a1 n1 c1 a6 n6 c6 (Go.IntKind.wrap .i64 (x7 + (1 : Int))) a18 n18 c18 x19 (Go.IntKind.wrap .i64 (x20 + (1 : Int))) h) (f12_5 w0 K a1 n1 c1 a6 n6 c6 x7 a18 n18 c18 x19 (Go.IntKind.wrap .i64 (x20 + (1 : Int))) h))) :
  f12_8 w0 K a1 n1 c1 a6 n6 c6 x7 a18 n18 c18 x19 x20 x35 h := fun j => LP_intro (P := Go.Proofs.Try.prog) (Eq.mp (by kernel_rfl) hv)

theorem f12_11_in {w0 : World} {K : Value → AH → Prop} (a6 : Option Go.Addr) (n6 : Nat) (c6 : Nat) (x7 : Int) (a39 : Option Go.Addr) (n39 : Nat) (c39 : Nat) (x40 : Int) (x41 : Int) (h : AH)
  (hv : (brB (decide ((x41 < x40))) (∃ a'29 : Go.Addr, ((a39 = (some a'29)) ∧ (((0 : Int) ≤ x41) ∧ ((x41 < ((n39 : Nat) : Int)) ∧ (∃ i'30 : Int, (∃ i'31 : Int, (∃ i'32 : Int, (∃ p'33 : Option Go.Addr, (∃ n'34 : Nat, (∃ n'35 : Nat, (∃ p'36 : Option Go.Addr, (∃ n'37 : Nat, (∃ n'38 : Nat, ((((Array.size #[(Go.Value.int .i64 i'30), (Go.Value.int .i64 i'31), (Go.Value.int .i64 i'32), (Go.Value.slice p'33 n'34 n'35), (Go.Value.slice p'36 n'37 n'38)]) = 5) ∧ (At w0 h (Go.Addr.add a'29 ((Int.toNat x41) * 5)) [(Go.Value.int .i64 i'30), (Go.Value.int .i64 i'31), (Go.Value.int .i64 i'32), (Go.Value.slice p'33 n'34 n'35), (Go.Value.slice p'36 n'37 n'38)])) ∧ (brB (decide (((0 : Int) < x41))) (∃ a'39 : Go.Addr, ((a6 = (some a'39)) ∧ (((0 : Int) ≤ (Go.IntKind.wrap .i64 (x41 - (1 : Int)))) ∧ (((Go.IntKind.wrap .i64 (x41 - (1 : Int))) < ((n6 : Nat) : Int)) ∧ (∃ i'40 : Int, (((Go.G.cellA w0 h (Go.Addr.add (Go.Addr.add a'39 ((Int.toNat (Go.IntKind.wrap .i64 (x41 - (1 : Int)))) * 5)) 1)) = (some (Go.Value.int .i64 i'40))) ∧ (brB (decide ((i'31 < i'40))) (f12_14 w0 K a6 n6 c6 x7 a39 n39 c39 x40 x41 true h) (∃ a'41 : Go.Addr, ((a6 = (some a'41)) ∧ (((0 : Int) ≤ (Go.IntKind.wrap .i64 (x41 - (1 : Int)))) ∧ (((Go.IntKind.wrap .i64 (x41 - (1 : Int))) < ((n6 : Nat) : Int)) ∧ (∃ i'42 : Int, (((Go.G.cellA w0 h (Go.Addr.add (Go.Addr.add a'41 ((Int.toNat (Go.IntKind.wrap .i64 (x41 - (1 : Int)))) * 5)) 1)) = (some (Go.Value.int .i64 i'42))) ∧ (brB (i'42 == i'31) (brB (decide (((0 : Int) < i'31))) (f12_14 w0 K a6 n6 c6 x7 a39 n39 c39 x40 x41 true h) (∃ a'43 : Go.Addr, ((a6 = (some a'43)) ∧ (((0 : Int) ≤ (Go.IntKind.wrap .i64 (x41 - (1 : Int)))) ∧ (((Go.IntKind.wrap .i64 (x41 - (1 : Int))) < ((n6 : Nat) : Int)) ∧ (∃ i'44 : Int, (((Go.G.cellA w0 h (Go.Addr.add (Go.Addr.add a'43 ((Int.toNat (Go.IntKind.wrap .i64 (x41 - (1 : Int)))) * 5)) 0)) = (some (Go.Value.int .i64 i'44))) ∧ (f12_14 w0 K a6 n6 c6 x7 a39 n39 c39 x40 x41 (decide ((i'44 < i'30))) h)))))))) (f12_14 w0 K a6 n6 c6 x7 a39 n39 c39 x40 x41 false h))))))))))))))) (f12_14 w0 K a6 n6 c6 x7 a39 n39 c39 x40 x41 false h)))))))))))))))) (brB (((n6 : Nat) : Int) == x7) (EvC Go.Proofs.Try.prog w0 30 #[] (fun x'45 h'46 => (∃ t'47 : Bool, ((x'45 = (Go.Value.bool t'47)) ∧ (K (Go.Value.bool t'47) h'46)))) h) (K (Go.Value.bool false) h)))) :
  f12_11 w0 K a6 n6 c6 x7 a39 n39 c39 x40 x41 h := fun j => LP_intro (P := Go.Proofs.Try.prog) (Eq.mp (by kernel_rfl) hv)

theorem f12_14_in {w0 : World} {K : Value → AH → Prop} (a6 : Option Go.Addr) (n6 : Nat) (c6 : Nat) (x7 : Int) (a39 : Option Go.Addr) (n39 : Nat) (c39 : Nat) (x40 : Int) (x41 : Int) (x85 : Bool) (h : AH)
  (hv : (brB x85 (K (Go.Value.bool false) h) (f12_11 w0 K a6 n6 c6 x7 a39 n39 c39 x40 (Go.IntKind.wrap .i64 (x41 + (1 : Int))) h))) :
  f12_14 w0 K a6 n6 c6 x7 a39 n39 c39 x40 x41 x85 h := fun j => LP_intro (P := Go.Proofs.Try.prog) (Eq.mp (by kernel_rfl) hv)

theorem f12_go {w0 : World} {K : Value → AH → Prop} (a0 : Option Go.Addr) (n0 : Nat) (c0 : Nat) (a1 : Option Go.Addr) (n1 : Nat) (c1 : Nat) (h : AH)
  (hv : (EvC Go.Proofs.Try.prog w0 36 #[(Go.Value.slice a0 n0 c0)] (fun x'0 h'1 => (∃ i'2 : Int, (∃ i'3 : Int, (∃ i'4 : Int, (∃ p'5 : Option Go.Addr, (∃ n'6 : Nat, (∃ n'7 : Nat, ((x'0 = (Go.Value.agg #[(Go.Value.int .i64 i'2), (Go.Value.int .i64 i'3), (Go.Value.int .i64 i'4), (Go.Value.slice p'5 n'6 n'7)])) ∧ (EvC Go.Proofs.Try.prog w0 43 #[(Go.Value.agg #[(Go.Value.int .i64 i'2), (Go.Value.int .i64 i'3), (Go.Value.int .i64 i'4), (Go.Value.slice p'5 n'6 n'7)]), (Go.Value.slice a1 n1 c1)] (fun x'8 h'9 => (∃ p'10 : Option Go.Addr, (∃ n'11 : Nat, (∃ n'12 : Nat, ((x'8 = (Go.Value.slice p'10 n'11 n'12)) ∧ (f12_5 w0 K a1 n1 c1 p'10 n'11 n'12 (0 : Int) p'5 n'6 n'7 ((n'6 : Nat) : Int) (0 : Int) h'9)))))) h'1))))))))) h)) :
  EvC Go.Proofs.Try.prog w0 12 ([(.slice a0 n0 c0), (.slice a1 n1 c1)]).toArray K h := EvC_intro (P := Go.Proofs.Try.prog) f12_J (Eq.mp (by kernel_rfl) hv)
theorem levLoad {w0 : World} {h : AH} {a : Option Addr} {n i k : Nat} {x : Int} {ts : List Tab} {t : Tab} {B : Int → Prop} (hr : Rd w0 h a (tabs ts)) (hn : n = ts.length) (hi : ts[i]? = some t) (hk : k = i * 5) (hx : x = ((i : Nat) : Int)) (hb : B t.lev) :
    ∃ a' : Addr, (a = some a' ∧ ((0 : Int) ≤ x ∧ (x < ((n : Nat) : Int) ∧ ∃ v : Int, (cellA w0 h ((a'.add k).add 1) = some (Value.int .i64 v) ∧ B v)))) := by
  obtain ⟨ad, had, hat⟩ := tab_at hr hi
  have := (List.getElem?_eq_some_iff.1 hi).1
  subst hk hx
  exact ⟨ad, had, by omega, by omega, _, hat 1 _ rfl, hb⟩

section
variable {w0 : World} {K : Value → AH → Prop} {h0 : AH} {a b : Option Addr} {n c nb cb : Nat} {fs : List Tab} {key : List UInt8}

theorem f12_11_ok (s : TS w0 h0 a n c fs) (hn : n ≤ 1000000) (hp : (fs.map Tab.dat).Pairwise After) (hk : ∀ h', Ext h0 h' none → K (.bool true) h') :
    ∀ (rest : List Tab) (i : Nat), fs.drop i = rest → i ≤ n → f12_11 w0 K a n c ((n : Nat) : Int) a n c ((n : Nat) : Int) ((i : Nat) : Int) h0 := by
  have hl := s.len
  intro rest
  induction rest with
  | nil =>
    intro i hd hi
    have := drop_done hd
    exact f12_11_in _ _ _ _ _ _ _ _ _ _ (brB_of (fun q => by simp at q; omega) fun _ => brB_of (fun _ => f30_spec fun h' x' => ⟨_, rfl, hk h' x'⟩) fun q => by simp at q)
  | cons t r ih =>
    intro i hd hi
    obtain ⟨hget, hd', hlt⟩ := drop_step hd
    have fin : ∀ z : Bool, z = false → f12_14 w0 K a n c ((n : Nat) : Int) a n c ((n : Nat) : Int) ((i : Nat) : Int) z h0 := fun z hz => by
      refine f12_14_in _ _ _ _ _ _ _ _ _ _ _ (brB_of (fun e => by rw [hz] at e; cases e) fun _ => ?_)
      rw [wrapS (by omega)]
      exact ih (i + 1) hd' (by omega)
    refine f12_11_in _ _ _ _ _ _ _ _ _ _ (brB_of (fun _ => tabLoad s.rs.rd hl hget (brB_of (fun q => ?_) fun _ => fin _ rfl)) fun q => by simp at q; omega)
    have hpos : 1 ≤ i := by simp at q; omega
    have hgp : fs[i - 1]? = some fs[i - 1] := List.getElem?_eq_getElem (by omega)
    have hpair : After (fs[i - 1]).dat t.dat := by
      have := List.pairwise_iff_getElem.1 hp (i - 1) i (by simp; omega) (by simpa using hlt) (by omega)
      have ht : fs[i] = t := by rw [List.getElem?_eq_getElem hlt] at hget; injection hget
      simpa [ht] using this
    generalize fs[i - 1] = p at hgp hpair
    have h1 : p.lev ≤ t.lev := hpair.1
    have h2 : p.lev = t.lev → ¬ 0 < t.lev ∧ ¬ p.num < t.num := hpair.2
    rw [predS (by omega) hpos]
    refine levLoad s.rs.rd hl hgp (by simp) rfl (brB_of (fun e => by simp at e; omega) fun _ => levLoad s.rs.rd hl hgp (by simp) rfl (brB_of (fun e => ?_) fun _ => fin _ rfl))
    have e' : p.lev = t.lev := by simpa using e
    obtain ⟨g1, g2⟩ := h2 e'
    refine brB_of (fun e2 => absurd (by simpa using e2) g1) fun _ => numLoad s.rs.rd hl hgp (by simp) rfl (fin _ ?_)
    simpa using g2

theorem f12_5_ok {av : Option Addr} {nv cv : Nat} {ts : List Tab} (sv : TS w0 h0 av nv cv ts) (hnv : nv ≤ 1000000) (hkey : Rs w0 h0 b (u8s key)) (hnb : nb = key.length) (s : TS w0 h0 a n c fs) (hn : n ≤ 1000000)
    (hp : (fs.map Tab.dat).Pairwise After) (hcnt : n = (ts.map Tab.dat).countP (insideD key)) (hk : ∀ h', Ext h0 h' none → K (.bool true) h') :
    ∀ (rest : List Tab) (i k : Nat), ts.drop i = rest → i ≤ nv → k ≤ i → n = k + (rest.map Tab.dat).countP (insideD key) → f12_5 w0 K b nb cb a n c ((k : Nat) : Int) av nv cv ((nv : Nat) : Int) ((i : Nat) : Int) h0 := by
  have hl := sv.len
  intro rest
  induction rest with
  | nil =>
    intro i k hd hi hki he
    have := drop_done hd
    have he' : n = k := he
    subst he'
    exact f12_5_in _ _ _ _ _ _ _ _ _ _ _ _ _ (brB_of (fun q => by simp at q; omega) fun _ => f12_11_ok s hn hp hk fs 0 rfl (by omega))
  | cons t r ih =>
    intro i k hd hi hki he
    obtain ⟨hget, hd', hlt⟩ := drop_step hd
    have o := sv.ok t (List.mem_of_getElem? hget)
    rw [List.map_cons, List.countP_cons] at he
    have fin : ∀ z : Bool, z = insideD key t.dat → f12_8 w0 K b nb cb a n c ((k : Nat) : Int) av nv cv ((nv : Nat) : Int) ((i : Nat) : Int) z h0 := fun z hz => by
      refine f12_8_in _ _ _ _ _ _ _ _ _ _ _ _ _ _ (brB_of (fun e => ?_) fun e => ?_)
      · rw [wrapS (by omega), wrapS (by omega)]
        exact ih (i + 1) (k + 1) hd' (by omega) (by omega) (by rw [if_pos (by rw [← hz, e])] at he; omega)
      · rw [wrapS (by omega)]
        exact ih (i + 1) k hd' (by omega) (by omega) (by rw [if_neg (by rw [← hz, e]; simp)] at he; omega)
    have hin : insideD key t.dat = (decide (cmpL t.lb key ≤ 0) && decide (0 ≤ cmpL t.mb key)) := rfl
    refine f12_5_in _ _ _ _ _ _ _ _ _ _ _ _ _ (brB_of (fun _ => tabLoad sv.rs.rd hl hget ?_) fun q => by simp at q; omega)
    refine f45_spec o.lb.rd hkey.rd o.ln hnb ⟨_, rfl, brB_of (fun q => f45_spec o.mb.rd hkey.rd o.mn hnb ⟨_, rfl, fin _ ?_⟩) fun q => fin _ ?_⟩
    · rw [hin, q, Bool.true_and]
    · rw [hin, q, Bool.false_and]
end

/-- LevelFinds holds. -/
theorem f12_spec {w0 : World} {K : Value → AH → Prop} {h0 : AH} {a b : Option Addr} {n c nb cb : Nat} {es : List Edi} {key : List UInt8} (s : ES w0 h0 a n c es) (hkey : Rs w0 h0 b (u8s key)) (hnb : nb = key.length)
    (hk : ∀ h', Ext h0 h' none → K (.bool true) h') : EvC Go.Proofs.Try.prog w0 12 #[.slice a n c, .slice b nb cb] K h0 := by
  refine f12_go _ _ _ _ _ _ _ (f36_spec s fun av nv cv h1 sv x1 => ⟨_, _, _, _, _, _, rfl, ?_⟩)
  have hm := builtR_may es
  generalize builtR es = v at *
  have hlen := mayV_len hm
  have hl := sv.len
  have hp : (v.ts.map Tab.dat).Pairwise Before := by
    simp only [mayV, Bool.and_eq_true] at hm
    exact (mayL_before hm.2).2
  have hlv : ∀ d ∈ v.ts.map Tab.dat, 0 ≤ Dat.lev d ∧ Dat.lev d < 4 := fun d hd => by
    obtain ⟨t, ht, rfl⟩ := List.mem_map.1 hd
    exact mayT_lev (mayV_all hm t ht)
  refine f43_spec sv (by omega) (hkey.ext x1) hnb (fun a5 n5 c5 h2 us5 s5 d5 o5 x2 => ⟨_, _, _, rfl, ?_⟩) hp
  have l5 := s5.len5
  have e5 := congrArg List.length d5
  have hcnt := findD_len (key := key) hlv
  have hle := List.countP_le_length (p := insideD key) (l := v.ts.map Tab.dat)
  simp only [List.length_map] at e5 hle
  exact f12_5_ok (sv.ext x2) (by omega) (hkey.ext (x1.trans x2)) hnb (s5.ts (by omega) o5) (by omega) (by rw [d5]; exact findD_after hp) (by omega) (fun h' x' => hk h' ((x1.trans x2).trans x')) v.ts 0 0 rfl (by omega) (by omega) (by rw [← hcnt]; omega)
end Go.G.Ytpnhlgghpciofaa
