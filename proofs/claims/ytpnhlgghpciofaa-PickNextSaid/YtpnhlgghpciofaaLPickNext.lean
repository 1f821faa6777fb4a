/- PickNext by the evaluator. -/
import Derived.Test.YtpnhlgghpciofaaLK
import Derived.Test.YtpnhlgghpciofaaLL
import Derived.Test.YtpnhlgghpciofaaLA
import Derived.Test.YtpnhlgghpciofaaProg
set_option maxRecDepth 100000
namespace Go.G.Ytpnhlgghpciofaa
open Go.RowKit
def f7_J : Nat → List Nat × Nat := jOf [(2, [0, 1, 2, 3, 4, 5, 6, 7, 8, 9, 10, 11, 12, 13, 14, 15, 16, 17, 21, 22, 23, 24, 25, 26, 27, 28, 29, 30, 31, 32, 33, 34, 35, 36, 37, 38, 39, 40, 41, 42, 43, 44, 45, 46, 47, 48, 49, 50, 51, 52, 53, 54, 55, 56, 57, 58, 59, 60, 61, 62, 63, 64, 65, 66, 67, 68, 69], 0), (10, [0, 1, 2, 3, 4, 5, 6, 7, 8, 9, 10, 11, 12, 13, 14, 15, 16, 17, 21, 22, 23, 24, 25, 26, 27, 28, 29, 30, 31, 32, 33, 34, 35, 36, 37, 38, 39, 40, 41, 42, 43, 44, 45, 46, 47, 48, 49, 50, 51, 52, 53, 54, 55, 56, 57, 58, 59, 60, 61, 62, 63, 64, 65, 66, 68, 69], 0)]

def f7_2 (w0 : World) (K : Value → AH → Prop) (a18 : Option Go.Addr) (n18 : Nat) (c18 : Nat) (x19 : Int) (x20 : Int) (h : AH) : Prop :=
  ∀ j : Nat → Value, LPk Go.Proofs.Try.prog w0 (EvC Go.Proofs.Try.prog w0) f7_J 7 K 2 [.v (j 0), .v (j 1), .v (j 2), .v (j 3), .v (j 4), .v (j 5), .v (j 6), .v (j 7), .v (j 8), .v (j 9), .v (j 10), .v (j 11), .v (j 12), .v (j 13), .v (j 14), .v (j 15), .v (j 16), .v (j 17), .v (.slice a18 n18 c18), .v (.int .i64 x19), .v (.int .i64 x20), .v (j 21), .v (j 22), .v (j 23), .v (j 24), .v (j 25), .v (j 26), .v (j 27), .v (j 28), .v (j 29), .v (j 30), .v (j 31), .v (j 32), .v (j 33), .v (j 34), .v (j 35), .v (j 36), .v (j 37), .v (j 38), .v (j 39), .v (j 40), .v (j 41), .v (j 42), .v (j 43), .v (j 44), .v (j 45), .v (j 46), .v (j 47), .v (j 48), .v (j 49), .v (j 50), .v (j 51), .v (j 52), .v (j 53), .v (j 54), .v (j 55), .v (j 56), .v (j 57), .v (j 58), .v (j 59), .v (j 60), .v (j 61), .v (j 62), .v (j 63), .v (j 64), .v (j 65), .v (j 66), .v (j 67), .v (j 68), .v (j 69)] [] h

def f7_10 (w0 : World) (K : Value → AH → Prop) (a18 : Option Go.Addr) (n18 : Nat) (c18 : Nat) (x19 : Int) (x20 : Int) (x67 : Bool) (h : AH) : Prop :=
  ∀ j : Nat → Value, LPk Go.Proofs.Try.prog w0 (EvC Go.Proofs.Try.prog w0) f7_J 7 K 10 [.v (j 0), .v (j 1), .v (j 2), .v (j 3), .v (j 4), .v (j 5), .v (j 6), .v (j 7), .v (j 8), .v (j 9), .v (j 10), .v (j 11), .v (j 12), .v (j 13), .v (j 14), .v (j 15), .v (j 16), .v (j 17), .v (.slice a18 n18 c18), .v (.int .i64 x19), .v (.int .i64 x20), .v (j 21), .v (j 22), .v (j 23), .v (j 24), .v (j 25), .v (j 26), .v (j 27), .v (j 28), .v (j 29), .v (j 30), .v (j 31), .v (j 32), .v (j 33), .v (j 34), .v (j 35), .v (j 36), .v (j 37), .v (j 38), .v (j 39), .v (j 40), .v (j 41), .v (j 42), .v (j 43), .v (j 44), .v (j 45), .v (j 46), .v (j 47), .v (j 48), .v (j 49), .v (j 50), .v (j 51), .v (j 52), .v (j 53), .v (j 54), .v (j 55), .v (j 56), .v (j 57), .v (j 58), .v (j 59), .v (j 60), .v (j 61), .v (j 62), .v (j 63), .v (j 64), .v (j 65), .v (j 66), .v (.bool x67), .v (j 68), .v (j 69)] [] h

theorem f7_2_in {w0 : World} {K : Value → AH → Prop} (a18 : Option Go.Addr) (n18 : Nat) (c18 : Nat) (x19 : Int) (x20 : Int) (h : AH)
  (hv : (brB (decide ((x20 < x19))) (∃ a'10 : Go.Addr, ((a18 = (some a'10)) ∧ (((0 : Int) ≤ x20) ∧ ((x20 < ((n18 : Nat) : Int)) ∧ (∃ i'11 : Int, (∃ i'12 : Int, (∃ i'13 : Int, (∃ p'14 : Option Go.Addr, (∃ n'15 : Nat, (∃ n'16 : Nat, ((((Array.size #[(Go.Value.int .i64 i'11), (Go.Value.int .i64 i'12), (Go.Value.int .i64 i'13), (Go.Value.slice p'14 n'15 n'16)]) = 4) ∧ (At w0 h (Go.Addr.add a'10 ((Int.toNat x20) * 4)) [(Go.Value.int .i64 i'11), (Go.Value.int .i64 i'12), (Go.Value.int .i64 i'13), (Go.Value.slice p'14 n'15 n'16)])) ∧ (EvC Go.Proofs.Try.prog w0 24 #[(Go.Value.slice p'14 n'15 n'16)] (fun x'17 h'18 => (∃ t'19 : Bool, ((x'17 = (Go.Value.bool t'19)) ∧ (brB (!t'19) (f7_2 w0 K a18 n18 c18 x19 (Go.IntKind.wrap .i64 (x20 + (1 : Int))) h'18) (EvC Go.Proofs.Try.prog w0 21 #[(Go.Value.agg #[(Go.Value.int .i64 i'11), (Go.Value.int .i64 i'12), (Go.Value.int .i64 i'13), (Go.Value.slice p'14 n'15 n'16)])] (fun x'20 h'21 => (∃ i'22 : Int, (∃ i'23 : Int, (∃ p'24 : Option Go.Addr, (∃ n'25 : Nat, (∃ n'26 : Nat, (∃ t'27 : Bool, ((x'20 = (Go.Value.tuple #[(Go.Value.agg #[(Go.Value.int .i64 i'22), (Go.Value.int .i64 i'23), (Go.Value.slice p'24 n'25 n'26)]), (Go.Value.bool t'27)])) ∧ (EvC Go.Proofs.Try.prog w0 25 #[(Go.Value.agg #[(Go.Value.int .i64 i'11), (Go.Value.int .i64 i'12), (Go.Value.int .i64 i'13), (Go.Value.slice p'14 n'15 n'16)])] (fun x'28 h'29 => (∃ i'30 : Int, (∃ i'31 : Int, (∃ p'32 : Option Go.Addr, (∃ n'33 : Nat, (∃ n'34 : Nat, (∃ t'35 : Bool, ((x'28 = (Go.Value.tuple #[(Go.Value.agg #[(Go.Value.int .i64 i'30), (Go.Value.int .i64 i'31), (Go.Value.slice p'32 n'33 n'34)]), (Go.Value.bool t'35)])) ∧ (EvC Go.Proofs.Try.prog w0 26 #[(Go.Value.agg #[(Go.Value.int .i64 i'11), (Go.Value.int .i64 i'12), (Go.Value.int .i64 i'13), (Go.Value.slice p'14 n'15 n'16)])] (fun x'36 h'37 => (∃ i'38 : Int, (∃ i'39 : Int, (∃ p'40 : Option Go.Addr, (∃ n'41 : Nat, (∃ n'42 : Nat, (∃ t'43 : Bool, ((x'36 = (Go.Value.tuple #[(Go.Value.agg #[(Go.Value.int .i64 i'38), (Go.Value.int .i64 i'39), (Go.Value.slice p'40 n'41 n'42)]), (Go.Value.bool t'43)])) ∧ (EvC Go.Proofs.Try.prog w0 27 #[(Go.Value.agg #[(Go.Value.int .i64 i'11), (Go.Value.int .i64 i'12), (Go.Value.int .i64 i'13), (Go.Value.slice p'14 n'15 n'16)])] (fun x'44 h'45 => (∃ i'46 : Int, (∃ i'47 : Int, (∃ p'48 : Option Go.Addr, (∃ n'49 : Nat, (∃ n'50 : Nat, (∃ t'51 : Bool, ((x'44 = (Go.Value.tuple #[(Go.Value.agg #[(Go.Value.int .i64 i'46), (Go.Value.int .i64 i'47), (Go.Value.slice p'48 n'49 n'50)]), (Go.Value.bool t'51)])) ∧ (brB (t'27 != t'35) (f7_10 w0 K a18 n18 c18 x19 x20 true h'45) (EvC Go.Proofs.Try.prog w0 28 #[(Go.Value.agg #[(Go.Value.int .i64 i'22), (Go.Value.int .i64 i'23), (Go.Value.slice p'24 n'25 n'26)]), (Go.Value.agg #[(Go.Value.int .i64 i'30), (Go.Value.int .i64 i'31), (Go.Value.slice p'32 n'33 n'34)])] (fun x'52 h'53 => (∃ t'54 : Bool, ((x'52 = (Go.Value.bool t'54)) ∧ (brB (!t'54) (f7_10 w0 K a18 n18 c18 x19 x20 true h'53) (brB (t'43 != t'51) (f7_10 w0 K a18 n18 c18 x19 x20 true h'53) (EvC Go.Proofs.Try.prog w0 28 #[(Go.Value.agg #[(Go.Value.int .i64 i'38), (Go.Value.int .i64 i'39), (Go.Value.slice p'40 n'41 n'42)]), (Go.Value.agg #[(Go.Value.int .i64 i'46), (Go.Value.int .i64 i'47), (Go.Value.slice p'48 n'49 n'50)])] (fun x'55 h'56 => (∃ t'57 : Bool, ((x'55 = (Go.Value.bool t'57)) ∧ (f7_10 w0 K a18 n18 c18 x19 x20 (!t'57) h'56)))) h'53)))))) h'45)))))))))) h'37))))))))) h'29))))))))) h'21))))))))) h'18))))) h)))))))))))) (EvC Go.Proofs.Try.prog w0 17 #[] (fun x'58 h'59 => (∃ t'60 : Bool, ((x'58 = (Go.Value.bool t'60)) ∧ (K (Go.Value.bool t'60) h'59)))) h))) :
  f7_2 w0 K a18 n18 c18 x19 x20 h := fun j => LP_intro (P := Go.Proofs.Try.prog) (Eq.mp (by kernel_rfl) hv)

theorem f7_10_in {w0 : World} {K : Value → AH → Prop} (a18 : Option Go.Addr) (n18 : Nat) (c18 : Nat) (x19 : Int) (x20 : Int) (x67 : Bool) (h : AH)
  (hv : (brB x67 (K (Go.Value.bool false) h) (f7_2 w0 K a18 n18 c18 x19 (Go.IntKind.wrap .i64 (x20 + (1 : Int))) h))) :
  f7_10 w0 K a18 n18 c18 x19 x20 x67 h := fun j => LP_intro (P := Go.Proofs.Try.prog) (Eq.mp (by kernel_rfl) hv)

theorem f7_go {w0 : World} {K : Value → AH → Prop} (a0 : Option Go.Addr) (n0 : Nat) (c0 : Nat) (x1_0 : Int) (x1_1 : Int) (x1_2 : Int) (a1_3 : Option Go.Addr) (n1_3 : Nat) (c1_3 : Nat) (h : AH)
  (hv : (EvC Go.Proofs.Try.prog w0 18 #[(Go.Value.slice a0 n0 c0)] (fun x'0 h'1 => (∃ i'2 : Int, (∃ i'3 : Int, (∃ i'4 : Int, (∃ p'5 : Option Go.Addr, (∃ n'6 : Nat, (∃ n'7 : Nat, ((x'0 = (Go.Value.agg #[(Go.Value.int .i64 i'2), (Go.Value.int .i64 i'3), (Go.Value.int .i64 i'4), (Go.Value.slice p'5 n'6 n'7)])) ∧ (newB w0 h'1 (Go.G.AB.cells [(Go.Value.int .i64 i'2), (Go.Value.int .i64 i'3), (Go.Value.int .i64 i'4), (Go.Value.slice p'5 n'6 n'7), (Go.Value.int .i64 x1_0), (Go.Value.int .i64 x1_1), (Go.Value.int .i64 x1_2), (Go.Value.slice a1_3 n1_3 c1_3)] (List.length [(Go.Value.int .i64 i'2), (Go.Value.int .i64 i'3), (Go.Value.int .i64 i'4), (Go.Value.slice p'5 n'6 n'7), (Go.Value.int .i64 x1_0), (Go.Value.int .i64 x1_1), (Go.Value.int .i64 x1_2), (Go.Value.slice a1_3 n1_3 c1_3)])) (fun b'8 h'9 => (f7_2 w0 K (some (Go.Addr.mk b'8 0 none)) 2 2 (2 : Int) (0 : Int) h'9))))))))))) h)) :
  EvC Go.Proofs.Try.prog w0 7 ([(.slice a0 n0 c0), (.agg #[(.int .i64 x1_0), (.int .i64 x1_1), (.int .i64 x1_2), (.slice a1_3 n1_3 c1_3)])]).toArray K h := EvC_intro (P := Go.Proofs.Try.prog) f7_J (Eq.mp (by kernel_rfl) hv)
section
variable {w0 : World} {K : Value → AH → Prop} {h0 : AH} {a : Option Addr} {n c : Nat} {ts : List Tab} {lo nx sq : Int}

theorem f7_one (s : TS w0 h0 a n c ts) {b : Option Addr} {m d : Nat} {y i : Int} (hk : ∀ h', Ext h0 h' none → f7_2 w0 K b m d y (IntKind.i64.wrap (i + 1)) h') :
    EvC Go.Proofs.Try.prog w0 24 #[.slice a n c] (fun x h => ∃ t : Bool, x = .bool t ∧ brB (!t) (f7_2 w0 K b m d y (IntKind.i64.wrap (i + 1)) h)
      (EvC Go.Proofs.Try.prog w0 21 #[.agg #[.int .i64 lo, .int .i64 nx, .int .i64 sq, .slice a n c]] (fun x h => ∃ i1 i2 : Int, ∃ p3 : Option Addr, ∃ n4 n5 : Nat, ∃ t6 : Bool, x = .tuple #[.agg #[.int .i64 i1, .int .i64 i2, .slice p3 n4 n5], .bool t6] ∧
        EvC Go.Proofs.Try.prog w0 25 #[.agg #[.int .i64 lo, .int .i64 nx, .int .i64 sq, .slice a n c]] (fun x h => ∃ j1 j2 : Int, ∃ q3 : Option Addr, ∃ m4 m5 : Nat, ∃ u6 : Bool, x = .tuple #[.agg #[.int .i64 j1, .int .i64 j2, .slice q3 m4 m5], .bool u6] ∧
        EvC Go.Proofs.Try.prog w0 26 #[.agg #[.int .i64 lo, .int .i64 nx, .int .i64 sq, .slice a n c]] (fun x h => ∃ k1 k2 : Int, ∃ r3 : Option Addr, ∃ l4 l5 : Nat, ∃ v6 : Bool, x = .tuple #[.agg #[.int .i64 k1, .int .i64 k2, .slice r3 l4 l5], .bool v6] ∧
        EvC Go.Proofs.Try.prog w0 27 #[.agg #[.int .i64 lo, .int .i64 nx, .int .i64 sq, .slice a n c]] (fun x h => ∃ g1 g2 : Int, ∃ o3 : Option Addr, ∃ e4 e5 : Nat, ∃ w6 : Bool, x = .tuple #[.agg #[.int .i64 g1, .int .i64 g2, .slice o3 e4 e5], .bool w6] ∧
          brB (t6 != u6) (f7_10 w0 K b m d y i true h) (EvC Go.Proofs.Try.prog w0 28 #[.agg #[.int .i64 i1, .int .i64 i2, .slice p3 n4 n5], .agg #[.int .i64 j1, .int .i64 j2, .slice q3 m4 m5]] (fun x h => ∃ t : Bool, x = .bool t ∧
            brB (!t) (f7_10 w0 K b m d y i true h) (brB (v6 != w6) (f7_10 w0 K b m d y i true h) (EvC Go.Proofs.Try.prog w0 28 #[.agg #[.int .i64 k1, .int .i64 k2, .slice r3 l4 l5], .agg #[.int .i64 g1, .int .i64 g2, .slice o3 e4 e5]] (fun x h => ∃ t : Bool, x = .bool t ∧
              f7_10 w0 K b m d y i (!t) h) h))) h)) h) h) h) h)) h0 := by
  refine f24_spec s ⟨_, rfl, brB_of (fun _ => hk h0 (Ext.refl _ _)) fun q => ?_⟩
  have light : n ≤ 210 := by
    have hq : lightL 0 ts = true := by simpa using q
    have : ∀ (l : List Tab) (i : Nat), lightL i l = true → i + l.length ≤ 210 ∨ l = [] := by
      intro l
      induction l with
      | nil => intro i _; exact .inr rfl
      | cons t r ih =>
        intro i h
        simp only [lightL, Bool.and_eq_true, Bool.not_eq_true', decide_eq_false_iff_not] at h
        rcases ih (i + 1) h.2 with g | g
        · left; simp; omega
        · subst g; left; simp; omega
    have hl := s.len
    rcases this ts 0 hq with g | g
    · omega
    · subst g; simp at hl; omega
  have hjl : ∀ x, (jobD (ts.map Tab.dat) x).length ≤ 1000000 := fun x => by
    have := jobD_le (ds := ts.map Tab.dat) (x := x)
    have := s.len
    simp at *; omega
  have hal : (ts.map Tab.num).length ≤ 1000000 := by have := s.len; simp; omega
  have fin : ∀ {h : AH}, Ext h0 h none → f7_10 w0 K b m d y i (!true) h := fun hx => f7_10_in _ _ _ _ _ _ _ (brB_of (fun e => by cases e) fun _ => hk _ hx)
  -- the last stretch, the first two answers known
  have tail : ∀ {h : AH} {f1 f2 : Int} {p q : Option Addr} {n4 n5 m4 m5 : Nat} {xs : List Int} {t : Bool}, Ext h0 h none → Sl w0 h 1 p n4 n5 (ints xs) → Sl w0 h 1 q m4 m5 (ints xs) → xs.length ≤ 1000000 →
      EvC Go.Proofs.Try.prog w0 26 #[.agg #[.int .i64 lo, .int .i64 nx, .int .i64 sq, .slice a n c]] (fun x h => ∃ k1 k2 : Int, ∃ r3 : Option Addr, ∃ l4 l5 : Nat, ∃ v6 : Bool, x = .tuple #[.agg #[.int .i64 k1, .int .i64 k2, .slice r3 l4 l5], .bool v6] ∧
        EvC Go.Proofs.Try.prog w0 27 #[.agg #[.int .i64 lo, .int .i64 nx, .int .i64 sq, .slice a n c]] (fun x h => ∃ g1 g2 : Int, ∃ o3 : Option Addr, ∃ e4 e5 : Nat, ∃ w6 : Bool, x = .tuple #[.agg #[.int .i64 g1, .int .i64 g2, .slice o3 e4 e5], .bool w6] ∧
          brB (t != t) (f7_10 w0 K b m d y i true h) (EvC Go.Proofs.Try.prog w0 28 #[.agg #[.int .i64 f1, .int .i64 f2, .slice p n4 n5], .agg #[.int .i64 f1, .int .i64 f2, .slice q m4 m5]] (fun x h => ∃ t : Bool, x = .bool t ∧
            brB (!t) (f7_10 w0 K b m d y i true h) (brB (v6 != w6) (f7_10 w0 K b m d y i true h) (EvC Go.Proofs.Try.prog w0 28 #[.agg #[.int .i64 k1, .int .i64 k2, .slice r3 l4 l5], .agg #[.int .i64 g1, .int .i64 g2, .slice o3 e4 e5]] (fun x h => ∃ t : Bool, x = .bool t ∧
              f7_10 w0 K b m d y i (!t) h) h))) h)) h) h := fun {h f1 f2 p q n4 n5 m4 m5 xs t} hx sp sq' hxs => by
    have last : ∀ {h' : AH} {g1 g2 : Int} {p' q' : Option Addr} {n4' n5' m4' m5' : Nat} {ys : List Int} {t' : Bool}, Ext h0 h' none → Sl w0 h' 1 p n4 n5 (ints xs) → Sl w0 h' 1 q m4 m5 (ints xs) → Sl w0 h' 1 p' n4' n5' (ints ys) → Sl w0 h' 1 q' m4' m5' (ints ys) → ys.length ≤ 1000000 →
        brB (t != t) (f7_10 w0 K b m d y i true h') (EvC Go.Proofs.Try.prog w0 28 #[.agg #[.int .i64 f1, .int .i64 f2, .slice p n4 n5], .agg #[.int .i64 f1, .int .i64 f2, .slice q m4 m5]] (fun x h => ∃ t : Bool, x = .bool t ∧
            brB (!t) (f7_10 w0 K b m d y i true h) (brB (t' != t') (f7_10 w0 K b m d y i true h) (EvC Go.Proofs.Try.prog w0 28 #[.agg #[.int .i64 g1, .int .i64 g2, .slice p' n4' n5'], .agg #[.int .i64 g1, .int .i64 g2, .slice q' m4' m5']] (fun x h => ∃ t : Bool, x = .bool t ∧
              f7_10 w0 K b m d y i (!t) h) h))) h') := fun {h' g1 g2 p' q' n4' n5' m4' m5' ys t'} hx' s1 s2 s3 s4 hys =>
      brB_of (fun e => by simp at e) fun _ => f28_spec s1 s2 hxs ⟨_, rfl, brB_of (fun e => by cases e) fun _ => brB_of (fun e => by simp at e) fun _ => f28_spec s3 s4 hys ⟨_, rfl, fin hx'⟩⟩
    refine f26_spec (s.ext hx) (fun h1 e1 x1 => ⟨_, _, _, _, _, _, rfl, f27_spec ((s.ext hx).ext x1) (fun h2 e2 x2 => ⟨_, _, _, _, _, _, rfl, ?_⟩) fun a2 n2 c2 h2 e2 s2 x2 => ?_⟩)
      fun a1 n1 c1 h1 e1 s1 x1 => ⟨_, _, _, _, _, _, rfl, f27_spec ((s.ext hx).ext x1) (fun h2 e2 x2 => ?_) fun a2 n2 c2 h2 e2 s2 x2 => ⟨_, _, _, _, _, _, rfl, ?_⟩⟩
    · exact last ((hx.trans x1).trans x2) (sp.ext (x1.trans x2)) (sq'.ext (x1.trans x2)) (ys := []) Sl.nil Sl.nil (by simp)
    · rw [e1] at e2; cases e2
    · rw [e1] at e2; cases e2
    · exact last ((hx.trans x1).trans x2) (sp.ext (x1.trans x2)) (sq'.ext (x1.trans x2)) (s1.ext x2) s2 hal
  refine f21_spec s (fun h1 e1 x1 => ⟨_, _, _, _, _, _, rfl, f25_spec (s.ext x1) (fun h2 e2 x2 => ⟨_, _, _, _, _, _, rfl, ?_⟩) fun x a2 n2 c2 h2 e2 s2 x2 => ?_⟩)
    fun x a1 n1 c1 h1 e1 s1 x1 => ⟨_, _, _, _, _, _, rfl, f25_spec (s.ext x1) (fun h2 e2 x2 => ?_) fun x' a2 n2 c2 h2 e2 s2 x2 => ?_⟩
  · exact tail (x1.trans x2) (xs := []) Sl.nil Sl.nil (by simp)
  · rw [e1] at e2; cases e2
  · rw [e1] at e2; cases e2
  · rw [e1] at e2
    injection e2 with e2
    subst e2
    exact ⟨_, _, _, _, _, _, rfl, tail (x1.trans x2) (s1.ext x2) s2 (hjl x)⟩
end

/-- PickNext holds. -/
theorem f7_spec {w0 : World} {K : Value → AH → Prop} {h0 : AH} {a b : Option Addr} {n c m d : Nat} {ts us : List Tab} {lo nx sq : Int} (s : TS w0 h0 a n c ts) (r : TS w0 h0 b m d us) (hk : ∀ h', Ext h0 h' none → K (.bool true) h') :
    EvC Go.Proofs.Try.prog w0 7 #[.slice a n c, .agg #[.int .i64 lo, .int .i64 nx, .int .i64 sq, .slice b m d]] K h0 := by
  refine f7_go _ _ _ _ _ _ _ _ _ _ (f18_spec s fun a1 n1 c1 h1 s1 x1 => ⟨_, _, _, _, _, _, rfl, fun bb hb hbn => ?_⟩)
  have hs := Sl.lit (w0 := w0) (h := h1) (b := bb) (n := 2) (e := 4) (xs := [.int .i64 (laidR ts).lo, .int .i64 (laidR ts).nx, .int .i64 (laidR ts).sq, .slice a1 n1 c1, .int .i64 lo, .int .i64 nx, .int .i64 sq, .slice b m d]) hb rfl
  have hx2 := x1.trans (Ext_put (o := .cells [.int .i64 (laidR ts).lo, .int .i64 (laidR ts).nx, .int .i64 (laidR ts).sq, .slice a1 n1 c1, .int .i64 lo, .int .i64 nx, .int .i64 sq, .slice b m d] 8) hbn)
  have cell : ∀ {h' : AH} (j k : Nat) (x : Value), Ext _ h' none → ([.int .i64 (laidR ts).lo, .int .i64 (laidR ts).nx, .int .i64 (laidR ts).sq, .slice a1 n1 c1, .int .i64 lo, .int .i64 nx, .int .i64 sq, .slice b m d] : List Value)[k + j]? = some x → cellA w0 h' (((⟨bb, 0, none⟩ : Addr).add k).add j) = some x := fun j k x hx hj => by
    rw [Deep.add_add]
    exact (hs.ext hx).cell hj
  have e1 : IntKind.i64.wrap ((0 : Int) + 1) = 1 := wrap64 (by omega) (by omega)
  have e2 : IntKind.i64.wrap ((1 : Int) + 1) = 2 := wrap64 (by omega) (by omega)
  refine f7_2_in _ _ _ _ _ _ (brB_of (fun _ => ⟨_, rfl, by omega, by omega, (laidR ts).lo, (laidR ts).nx, (laidR ts).sq, a1, n1, c1, ⟨rfl, fun j x hj => ?_⟩, f7_one (s1.ext (Ext_put hbn)) fun h2 x2 => ?_⟩) fun q => by simp at q)
  · match j, hj with
    | 0, hj => exact cell 0 0 x (Ext.refl _ _) hj
    | 1, hj => exact cell 1 0 x (Ext.refl _ _) hj
    | 2, hj => exact cell 2 0 x (Ext.refl _ _) hj
    | 3, hj => exact cell 3 0 x (Ext.refl _ _) hj
  rw [e1]
  refine f7_2_in _ _ _ _ _ _ (brB_of (fun _ => ⟨_, rfl, by omega, by omega, lo, nx, sq, b, m, d, ⟨rfl, fun j x hj => ?_⟩, f7_one (r.ext (hx2.trans x2)) fun h3 x3 => ?_⟩) fun q => by simp at q)
  · match j, hj with
    | 0, hj => exact cell 0 4 x x2 hj
    | 1, hj => exact cell 1 4 x x2 hj
    | 2, hj => exact cell 2 4 x x2 hj
    | 3, hj => exact cell 3 4 x x2 hj
  rw [e2]
  exact f7_2_in _ _ _ _ _ _ (brB_of (fun q => by simp at q) fun _ => f17_spec fun h4 x4 => ⟨_, rfl, hk h4 (((hx2.trans x2).trans x3).trans x4)⟩)
end Go.G.Ytpnhlgghpciofaa
