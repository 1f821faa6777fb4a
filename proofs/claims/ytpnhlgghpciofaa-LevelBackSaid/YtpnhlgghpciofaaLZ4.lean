/- LevelBack: the plain law; by the evaluator. -/
import Derived.Test.YtpnhlgghpciofaaLZ1
import Derived.Test.YtpnhlgghpciofaaLLevelApplies
import Derived.Test.YtpnhlgghpciofaaProg
set_option maxRecDepth 100000
namespace Go.G.Ytpnhlgghpciofaa
open Go.RowKit
/-! ### the plain law of Diff -/
theorem sortL_so (zs : List Int) : (sortL zs).Pairwise (fun a b => a ≤ b) := by
  have := List.pairwise_mergeSort (le := fun a b : Int => decide (a ≤ b)) (fun a b c h1 h2 => by simp only [decide_eq_true_eq] at h1 h2 ⊢; omega) (fun a b => by simp only [Bool.or_eq_true, decide_eq_true_eq]; omega) zs
  exact this.imp fun h => by simpa using h
theorem sortL_eq {zs ss : List Int} (hp : ss.Perm zs) (hs : ss.Pairwise fun a b => a ≤ b) : sortL zs = ss :=
  List.Perm.eq_of_pairwise (le := fun a b : Int => a ≤ b) (fun a b _ _ h1 h2 => by omega) (sortL_so zs) hs ((sortL_perm zs).trans hp.symm)
theorem mayV_nodup {lo nx sq : Int} {ts : List Tab} (h : mayV lo nx sq ts = true) : (ts.map Tab.num).Nodup := by
  unfold mayV at h
  simp only [Bool.and_eq_true] at h
  exact (mayL_nodup h.2).1
theorem num_inj : ∀ {us : List Tab}, (us.map Tab.num).Nodup → ∀ {u v : Tab}, u ∈ us → v ∈ us → u.num = v.num → u = v
  | [], _, _, _, h, _, _ => by cases h
  | a :: us, hn, u, v, hu, hv, e => by
    rw [List.map_cons, List.nodup_cons] at hn
    rcases List.mem_cons.1 hu with hu1 | hu2 <;> rcases List.mem_cons.1 hv with hv1 | hv2
    · rw [hu1, hv1]
    · exact absurd (List.mem_map.2 ⟨v, hv2, by rw [← e, hu1]⟩) hn.1
    · exact absurd (List.mem_map.2 ⟨u, hu2, by rw [e, hv1]⟩) hn.1
    · exact num_inj hn.2 hu2 hv2 e
theorem diffB_may {x y : Ver} (h : diffB x y = true) : mayV x.lo x.nx x.sq x.ts = true ∧ mayV y.lo y.nx y.sq y.ts = true ∧ x.lo ≤ y.lo ∧ x.nx ≤ y.nx ∧ x.sq ≤ y.sq := by
  simp only [diffB, Bool.and_eq_true, Bool.not_eq_true', decide_eq_false_iff_not] at h
  obtain ⟨⟨⟨⟨h1, h2⟩, h3⟩, h4⟩, h5⟩ := h
  exact ⟨h1, h2, by omega, by omega, by omega⟩
def f14_J : Nat → List Nat × Nat := jOf [(8, [0, 1, 2, 3, 4, 6, 7, 8, 9, 10, 11, 12, 13, 14, 15, 16, 17, 18, 19, 20, 21, 22, 23, 24, 25, 26, 27, 28, 29, 30, 31, 32, 33, 34, 35, 36, 37, 38, 39, 40, 41, 42, 43, 44, 45, 46, 47, 48, 49, 50, 51, 52, 53, 54, 55, 57, 58, 59, 60, 61, 62, 63, 64, 65, 66, 67, 68, 69, 70, 71, 72, 73, 74, 75, 76, 77, 78, 79], 1)]

def f14_8 (w0 : World) (K : Value → AH → Prop) (x56 : Bool) (xb0_0 : Int) (xb0_1 : Int) (xb0_2 : Int) (ab0_3 : Option Go.Addr) (nb0_3 : Nat) (cb0_3 : Nat) (h : AH) : Prop :=
  ∀ j : Nat → Value, LPk Go.Proofs.Try.prog w0 (EvC Go.Proofs.Try.prog w0) f14_J 14 K 8 [.v (j 0), .v (j 1), .v (j 2), .v (j 3), .v (j 4), .bp 0 0, .v (j 6), .v (j 7), .v (j 8), .v (j 9), .v (j 10), .v (j 11), .v (j 12), .v (j 13), .v (j 14), .v (j 15), .v (j 16), .v (j 17), .v (j 18), .v (j 19), .v (j 20), .v (j 21), .v (j 22), .v (j 23), .v (j 24), .v (j 25), .v (j 26), .v (j 27), .v (j 28), .v (j 29), .v (j 30), .v (j 31), .v (j 32), .v (j 33), .v (j 34), .v (j 35), .v (j 36), .v (j 37), .v (j 38), .v (j 39), .v (j 40), .v (j 41), .v (j 42), .v (j 43), .v (j 44), .v (j 45), .v (j 46), .v (j 47), .v (j 48), .v (j 49), .v (j 50), .v (j 51), .v (j 52), .v (j 53), .v (j 54), .v (j 55), .v (.bool x56), .v (j 57), .v (j 58), .v (j 59), .v (j 60), .v (j 61), .v (j 62), .v (j 63), .v (j 64), .v (j 65), .v (j 66), .v (j 67), .v (j 68), .v (j 69), .v (j 70), .v (j 71), .v (j 72), .v (j 73), .v (j 74), .v (j 75), .v (j 76), .v (j 77), .v (j 78), .v (j 79)] [some [(.int .i64 xb0_0), (.int .i64 xb0_1), (.int .i64 xb0_2), (.slice ab0_3 nb0_3 cb0_3)]] h

theorem f14_8_in {w0 : World} {K : Value → AH → Prop} (x56 : Bool) (xb0_0 : Int) (xb0_1 : Int) (xb0_2 : Int) (ab0_3 : Option Go.Addr) (nb0_3 : Nat) (cb0_3 : Nat) (h : AH)
  (hv : (brB x56 (K (Go.Value.bool false) h) (EvC Go.Proofs.Try.prog w0 46 #[(Go.Value.agg #[(Go.Value.int .i64 xb0_0), (Go.Value.int .i64 xb0_1), (Go.Value.int .i64 xb0_2), (Go.Value.slice ab0_3 nb0_3 cb0_3)]), (Go.Value.agg #[(Go.Value.int .i64 xb0_0), (Go.Value.int .i64 xb0_1), (Go.Value.int .i64 xb0_2), (Go.Value.slice ab0_3 nb0_3 cb0_3)])] (fun x'160 h'161 => (∃ i'162 : Int, (∃ i'163 : Int, (∃ i'164 : Int, (∃ p'165 : Option Go.Addr, (∃ n'166 : Nat, (∃ n'167 : Nat, (∃ p'168 : Option Go.Addr, (∃ n'169 : Nat, (∃ n'170 : Nat, (∃ i'171 : Int, ((x'160 = (Go.Value.tuple #[(Go.Value.agg #[(Go.Value.int .i64 i'162), (Go.Value.int .i64 i'163), (Go.Value.int .i64 i'164), (Go.Value.slice p'165 n'166 n'167), (Go.Value.slice p'168 n'169 n'170)]), (Go.Value.int .i64 i'171)])) ∧ (brB (i'171 == (0 : Int)) (brB (((n'166 : Nat) : Int) == (0 : Int)) (brB (((n'169 : Nat) : Int) == (0 : Int)) (EvC Go.Proofs.Try.prog w0 30 #[] (fun x'172 h'173 => (∃ t'174 : Bool, ((x'172 = (Go.Value.bool t'174)) ∧ (K (Go.Value.bool t'174) h'173)))) h'161) (K (Go.Value.bool false) h'161)) (K (Go.Value.bool false) h'161)) (K (Go.Value.bool false) h'161)))))))))))))) h))) :
  f14_8 w0 K x56 xb0_0 xb0_1 xb0_2 ab0_3 nb0_3 cb0_3 h := fun j => LP_intro (P := Go.Proofs.Try.prog) (Eq.mp (by kernel_rfl) hv)

theorem f14_go {w0 : World} {K : Value → AH → Prop} (a0 : Option Go.Addr) (n0 : Nat) (c0 : Nat) (a1 : Option Go.Addr) (n1 : Nat) (c1 : Nat) (h : AH)
  (hv : (EvC Go.Proofs.Try.prog w0 36 #[(Go.Value.slice a0 n0 c0)] (fun x'0 h'1 => (∃ i'2 : Int, (∃ i'3 : Int, (∃ i'4 : Int, (∃ p'5 : Option Go.Addr, (∃ n'6 : Nat, (∃ n'7 : Nat, ((x'0 = (Go.Value.agg #[(Go.Value.int .i64 i'2), (Go.Value.int .i64 i'3), (Go.Value.int .i64 i'4), (Go.Value.slice p'5 n'6 n'7)])) ∧ (EvC Go.Proofs.Try.prog w0 36 #[(Go.Value.slice a1 n1 c1)] (fun x'8 h'9 => (∃ i'10 : Int, (∃ i'11 : Int, (∃ i'12 : Int, (∃ p'13 : Option Go.Addr, (∃ n'14 : Nat, (∃ n'15 : Nat, ((x'8 = (Go.Value.agg #[(Go.Value.int .i64 i'10), (Go.Value.int .i64 i'11), (Go.Value.int .i64 i'12), (Go.Value.slice p'13 n'14 n'15)])) ∧ (((EvC Go.Proofs.Try.prog w0 46 #[(Go.Value.agg #[(Go.Value.int .i64 i'2), (Go.Value.int .i64 i'3), (Go.Value.int .i64 i'4), (Go.Value.slice p'5 n'6 n'7)]), (Go.Value.agg #[(Go.Value.int .i64 (if (i'2 < i'10) then i'10 else i'2)), (Go.Value.int .i64 (if (i'3 < i'11) then i'11 else i'3)), (Go.Value.int .i64 (if (i'4 < i'12) then i'12 else i'4)), (Go.Value.slice p'13 n'14 n'15)])] (fun x'16 h'17 => (∃ i'18 : Int, (∃ i'19 : Int, (∃ i'20 : Int, (∃ p'21 : Option Go.Addr, (∃ n'22 : Nat, (∃ n'23 : Nat, (∃ p'24 : Option Go.Addr, (∃ n'25 : Nat, (∃ n'26 : Nat, (∃ i'27 : Int, ((x'16 = (Go.Value.tuple #[(Go.Value.agg #[(Go.Value.int .i64 i'18), (Go.Value.int .i64 i'19), (Go.Value.int .i64 i'20), (Go.Value.slice p'21 n'22 n'23), (Go.Value.slice p'24 n'25 n'26)]), (Go.Value.int .i64 i'27)])) ∧ (brB (i'27 != (0 : Int)) (K (Go.Value.bool false) h'17) (EvC Go.Proofs.Try.prog w0 33 #[(Go.Value.agg #[(Go.Value.int .i64 i'2), (Go.Value.int .i64 i'3), (Go.Value.int .i64 i'4), (Go.Value.slice p'5 n'6 n'7)]), (Go.Value.agg #[(Go.Value.int .i64 i'18), (Go.Value.int .i64 i'19), (Go.Value.int .i64 i'20), (Go.Value.slice p'21 n'22 n'23), (Go.Value.slice p'24 n'25 n'26)])] (fun x'28 h'29 => (∃ i'30 : Int, (∃ i'31 : Int, (∃ i'32 : Int, (∃ p'33 : Option Go.Addr, (∃ n'34 : Nat, (∃ n'35 : Nat, (∃ i'36 : Int, ((x'28 = (Go.Value.tuple #[(Go.Value.agg #[(Go.Value.int .i64 i'30), (Go.Value.int .i64 i'31), (Go.Value.int .i64 i'32), (Go.Value.slice p'33 n'34 n'35)]), (Go.Value.int .i64 i'36)])) ∧ (brB (i'36 != (0 : Int)) (f14_8 w0 K true i'2 i'3 i'4 p'5 n'6 n'7 h'29) (EvC Go.Proofs.Try.prog w0 35 #[(Go.Value.agg #[(Go.Value.int .i64 i'30), (Go.Value.int .i64 i'31), (Go.Value.int .i64 i'32), (Go.Value.slice p'33 n'34 n'35)]), (Go.Value.agg #[(Go.Value.int .i64 (if (i'2 < i'10) then i'10 else i'2)), (Go.Value.int .i64 (if (i'3 < i'11) then i'11 else i'3)), (Go.Value.int .i64 (if (i'4 < i'12) then i'12 else i'4)), (Go.Value.slice p'13 n'14 n'15)])] (fun x'37 h'38 => (∃ t'39 : Bool, ((x'37 = (Go.Value.bool t'39)) ∧ (f14_8 w0 K (!t'39) i'2 i'3 i'4 p'5 n'6 n'7 h'38)))) h'29))))))))))) h'17)))))))))))))) h'9) ∧ (EvC Go.Proofs.Try.prog w0 46 #[(Go.Value.agg #[(Go.Value.int .i64 i'2), (Go.Value.int .i64 i'3), (Go.Value.int .i64 i'4), (Go.Value.slice p'5 n'6 n'7)]), (Go.Value.agg #[(Go.Value.int .i64 (if (i'2 < i'10) then i'10 else i'2)), (Go.Value.int .i64 (if (i'3 < i'11) then i'11 else i'3)), (Go.Value.int .i64 (if (i'4 < i'12) then i'12 else i'4)), (Go.Value.slice p'13 n'14 n'15)])] (fun x'40 h'41 => (∃ i'42 : Int, (∃ i'43 : Int, (∃ i'44 : Int, (∃ p'45 : Option Go.Addr, (∃ n'46 : Nat, (∃ n'47 : Nat, (∃ p'48 : Option Go.Addr, (∃ n'49 : Nat, (∃ n'50 : Nat, (∃ i'51 : Int, ((x'40 = (Go.Value.tuple #[(Go.Value.agg #[(Go.Value.int .i64 i'42), (Go.Value.int .i64 i'43), (Go.Value.int .i64 i'44), (Go.Value.slice p'45 n'46 n'47), (Go.Value.slice p'48 n'49 n'50)]), (Go.Value.int .i64 i'51)])) ∧ (brB (i'51 != (0 : Int)) (K (Go.Value.bool false) h'41) (EvC Go.Proofs.Try.prog w0 33 #[(Go.Value.agg #[(Go.Value.int .i64 i'2), (Go.Value.int .i64 i'3), (Go.Value.int .i64 i'4), (Go.Value.slice p'5 n'6 n'7)]), (Go.Value.agg #[(Go.Value.int .i64 i'42), (Go.Value.int .i64 i'43), (Go.Value.int .i64 i'44), (Go.Value.slice p'45 n'46 n'47), (Go.Value.slice p'48 n'49 n'50)])] (fun x'52 h'53 => (∃ i'54 : Int, (∃ i'55 : Int, (∃ i'56 : Int, (∃ p'57 : Option Go.Addr, (∃ n'58 : Nat, (∃ n'59 : Nat, (∃ i'60 : Int, ((x'52 = (Go.Value.tuple #[(Go.Value.agg #[(Go.Value.int .i64 i'54), (Go.Value.int .i64 i'55), (Go.Value.int .i64 i'56), (Go.Value.slice p'57 n'58 n'59)]), (Go.Value.int .i64 i'60)])) ∧ (brB (i'60 != (0 : Int)) (f14_8 w0 K true i'2 i'3 i'4 p'5 n'6 n'7 h'53) (EvC Go.Proofs.Try.prog w0 35 #[(Go.Value.agg #[(Go.Value.int .i64 i'54), (Go.Value.int .i64 i'55), (Go.Value.int .i64 i'56), (Go.Value.slice p'57 n'58 n'59)]), (Go.Value.agg #[(Go.Value.int .i64 (if (i'2 < i'10) then i'10 else i'2)), (Go.Value.int .i64 (if (i'3 < i'11) then i'11 else i'3)), (Go.Value.int .i64 (if (i'4 < i'12) then i'12 else i'4)), (Go.Value.slice p'13 n'14 n'15)])] (fun x'61 h'62 => (∃ t'63 : Bool, ((x'61 = (Go.Value.bool t'63)) ∧ (f14_8 w0 K (!t'63) i'2 i'3 i'4 p'5 n'6 n'7 h'62)))) h'53))))))))))) h'41)))))))))))))) h'9)) ∧ (((EvC Go.Proofs.Try.prog w0 46 #[(Go.Value.agg #[(Go.Value.int .i64 i'2), (Go.Value.int .i64 i'3), (Go.Value.int .i64 i'4), (Go.Value.slice p'5 n'6 n'7)]), (Go.Value.agg #[(Go.Value.int .i64 (if (i'2 < i'10) then i'10 else i'2)), (Go.Value.int .i64 (if (i'3 < i'11) then i'11 else i'3)), (Go.Value.int .i64 (if (i'4 < i'12) then i'12 else i'4)), (Go.Value.slice p'13 n'14 n'15)])] (fun x'64 h'65 => (∃ i'66 : Int, (∃ i'67 : Int, (∃ i'68 : Int, (∃ p'69 : Option Go.Addr, (∃ n'70 : Nat, (∃ n'71 : Nat, (∃ p'72 : Option Go.Addr, (∃ n'73 : Nat, (∃ n'74 : Nat, (∃ i'75 : Int, ((x'64 = (Go.Value.tuple #[(Go.Value.agg #[(Go.Value.int .i64 i'66), (Go.Value.int .i64 i'67), (Go.Value.int .i64 i'68), (Go.Value.slice p'69 n'70 n'71), (Go.Value.slice p'72 n'73 n'74)]), (Go.Value.int .i64 i'75)])) ∧ (brB (i'75 != (0 : Int)) (K (Go.Value.bool false) h'65) (EvC Go.Proofs.Try.prog w0 33 #[(Go.Value.agg #[(Go.Value.int .i64 i'2), (Go.Value.int .i64 i'3), (Go.Value.int .i64 i'4), (Go.Value.slice p'5 n'6 n'7)]), (Go.Value.agg #[(Go.Value.int .i64 i'66), (Go.Value.int .i64 i'67), (Go.Value.int .i64 i'68), (Go.Value.slice p'69 n'70 n'71), (Go.Value.slice p'72 n'73 n'74)])] (fun x'76 h'77 => (∃ i'78 : Int, (∃ i'79 : Int, (∃ i'80 : Int, (∃ p'81 : Option Go.Addr, (∃ n'82 : Nat, (∃ n'83 : Nat, (∃ i'84 : Int, ((x'76 = (Go.Value.tuple #[(Go.Value.agg #[(Go.Value.int .i64 i'78), (Go.Value.int .i64 i'79), (Go.Value.int .i64 i'80), (Go.Value.slice p'81 n'82 n'83)]), (Go.Value.int .i64 i'84)])) ∧ (brB (i'84 != (0 : Int)) (f14_8 w0 K true i'2 i'3 i'4 p'5 n'6 n'7 h'77) (EvC Go.Proofs.Try.prog w0 35 #[(Go.Value.agg #[(Go.Value.int .i64 i'78), (Go.Value.int .i64 i'79), (Go.Value.int .i64 i'80), (Go.Value.slice p'81 n'82 n'83)]), (Go.Value.agg #[(Go.Value.int .i64 (if (i'2 < i'10) then i'10 else i'2)), (Go.Value.int .i64 (if (i'3 < i'11) then i'11 else i'3)), (Go.Value.int .i64 (if (i'4 < i'12) then i'12 else i'4)), (Go.Value.slice p'13 n'14 n'15)])] (fun x'85 h'86 => (∃ t'87 : Bool, ((x'85 = (Go.Value.bool t'87)) ∧ (f14_8 w0 K (!t'87) i'2 i'3 i'4 p'5 n'6 n'7 h'86)))) h'77))))))))))) h'65)))))))))))))) h'9) ∧ (EvC Go.Proofs.Try.prog w0 46 #[(Go.Value.agg #[(Go.Value.int .i64 i'2), (Go.Value.int .i64 i'3), (Go.Value.int .i64 i'4), (Go.Value.slice p'5 n'6 n'7)]), (Go.Value.agg #[(Go.Value.int .i64 (if (i'2 < i'10) then i'10 else i'2)), (Go.Value.int .i64 (if (i'3 < i'11) then i'11 else i'3)), (Go.Value.int .i64 (if (i'4 < i'12) then i'12 else i'4)), (Go.Value.slice p'13 n'14 n'15)])] (fun x'88 h'89 => (∃ i'90 : Int, (∃ i'91 : Int, (∃ i'92 : Int, (∃ p'93 : Option Go.Addr, (∃ n'94 : Nat, (∃ n'95 : Nat, (∃ p'96 : Option Go.Addr, (∃ n'97 : Nat, (∃ n'98 : Nat, (∃ i'99 : Int, ((x'88 = (Go.Value.tuple #[(Go.Value.agg #[(Go.Value.int .i64 i'90), (Go.Value.int .i64 i'91), (Go.Value.int .i64 i'92), (Go.Value.slice p'93 n'94 n'95), (Go.Value.slice p'96 n'97 n'98)]), (Go.Value.int .i64 i'99)])) ∧ (brB (i'99 != (0 : Int)) (K (Go.Value.bool false) h'89) (EvC Go.Proofs.Try.prog w0 33 #[(Go.Value.agg #[(Go.Value.int .i64 i'2), (Go.Value.int .i64 i'3), (Go.Value.int .i64 i'4), (Go.Value.slice p'5 n'6 n'7)]), (Go.Value.agg #[(Go.Value.int .i64 i'90), (Go.Value.int .i64 i'91), (Go.Value.int .i64 i'92), (Go.Value.slice p'93 n'94 n'95), (Go.Value.slice p'96 n'97 n'98)])] (fun x'100 h'101 => (∃ i'102 : Int, (∃ i'103 : Int, (∃ i'104 : Int, (∃ p'105 : Option Go.Addr, (∃ n'106 : Nat, (∃ n'107 : Nat, (∃ i'108 : Int, ((x'100 = (Go.Value.tuple #[(Go.Value.agg #[(Go.Value.int .i64 i'102), (Go.Value.int .i64 i'103), (Go.Value.int .i64 i'104), (Go.Value.slice p'105 n'106 n'107)]), (Go.Value.int .i64 i'108)])) ∧ (brB (i'108 != (0 : Int)) (f14_8 w0 K true i'2 i'3 i'4 p'5 n'6 n'7 h'101) (EvC Go.Proofs.Try.prog w0 35 #[(Go.Value.agg #[(Go.Value.int .i64 i'102), (Go.Value.int .i64 i'103), (Go.Value.int .i64 i'104), (Go.Value.slice p'105 n'106 n'107)]), (Go.Value.agg #[(Go.Value.int .i64 (if (i'2 < i'10) then i'10 else i'2)), (Go.Value.int .i64 (if (i'3 < i'11) then i'11 else i'3)), (Go.Value.int .i64 (if (i'4 < i'12) then i'12 else i'4)), (Go.Value.slice p'13 n'14 n'15)])] (fun x'109 h'110 => (∃ t'111 : Bool, ((x'109 = (Go.Value.bool t'111)) ∧ (f14_8 w0 K (!t'111) i'2 i'3 i'4 p'5 n'6 n'7 h'110)))) h'101))))))))))) h'89)))))))))))))) h'9)) ∧ ((EvC Go.Proofs.Try.prog w0 46 #[(Go.Value.agg #[(Go.Value.int .i64 i'2), (Go.Value.int .i64 i'3), (Go.Value.int .i64 i'4), (Go.Value.slice p'5 n'6 n'7)]), (Go.Value.agg #[(Go.Value.int .i64 (if (i'2 < i'10) then i'10 else i'2)), (Go.Value.int .i64 (if (i'3 < i'11) then i'11 else i'3)), (Go.Value.int .i64 (if (i'4 < i'12) then i'12 else i'4)), (Go.Value.slice p'13 n'14 n'15)])] (fun x'112 h'113 => (∃ i'114 : Int, (∃ i'115 : Int, (∃ i'116 : Int, (∃ p'117 : Option Go.Addr, (∃ n'118 : Nat, (∃ n'119 : Nat, (∃ p'120 : Option Go.Addr, (∃ n'121 : Nat, (∃ n'122 : Nat, (∃ i'123 : Int, ((x'112 = (Go.Value.tuple #[(Go.Value.agg #[(Go.Value.int .i64 i'114), (Go.Value.int .i64 i'115), (Go.Value.int .i64 i'116), (Go.Value.slice p'117 n'118 n'119), (Go.Value.slice p'120 n'121 n'122)]), (Go.Value.int .i64 i'123)])) ∧ (brB (i'123 != (0 : Int)) (K (Go.Value.bool false) h'113) (EvC Go.Proofs.Try.prog w0 33 #[(Go.Value.agg #[(Go.Value.int .i64 i'2), (Go.Value.int .i64 i'3), (Go.Value.int .i64 i'4), (Go.Value.slice p'5 n'6 n'7)]), (Go.Value.agg #[(Go.Value.int .i64 i'114), (Go.Value.int .i64 i'115), (Go.Value.int .i64 i'116), (Go.Value.slice p'117 n'118 n'119), (Go.Value.slice p'120 n'121 n'122)])] (fun x'124 h'125 => (∃ i'126 : Int, (∃ i'127 : Int, (∃ i'128 : Int, (∃ p'129 : Option Go.Addr, (∃ n'130 : Nat, (∃ n'131 : Nat, (∃ i'132 : Int, ((x'124 = (Go.Value.tuple #[(Go.Value.agg #[(Go.Value.int .i64 i'126), (Go.Value.int .i64 i'127), (Go.Value.int .i64 i'128), (Go.Value.slice p'129 n'130 n'131)]), (Go.Value.int .i64 i'132)])) ∧ (brB (i'132 != (0 : Int)) (f14_8 w0 K true i'2 i'3 i'4 p'5 n'6 n'7 h'125) (EvC Go.Proofs.Try.prog w0 35 #[(Go.Value.agg #[(Go.Value.int .i64 i'126), (Go.Value.int .i64 i'127), (Go.Value.int .i64 i'128), (Go.Value.slice p'129 n'130 n'131)]), (Go.Value.agg #[(Go.Value.int .i64 (if (i'2 < i'10) then i'10 else i'2)), (Go.Value.int .i64 (if (i'3 < i'11) then i'11 else i'3)), (Go.Value.int .i64 (if (i'4 < i'12) then i'12 else i'4)), (Go.Value.slice p'13 n'14 n'15)])] (fun x'133 h'134 => (∃ t'135 : Bool, ((x'133 = (Go.Value.bool t'135)) ∧ (f14_8 w0 K (!t'135) i'2 i'3 i'4 p'5 n'6 n'7 h'134)))) h'125))))))))))) h'113)))))))))))))) h'9) ∧ (EvC Go.Proofs.Try.prog w0 46 #[(Go.Value.agg #[(Go.Value.int .i64 i'2), (Go.Value.int .i64 i'3), (Go.Value.int .i64 i'4), (Go.Value.slice p'5 n'6 n'7)]), (Go.Value.agg #[(Go.Value.int .i64 (if (i'2 < i'10) then i'10 else i'2)), (Go.Value.int .i64 (if (i'3 < i'11) then i'11 else i'3)), (Go.Value.int .i64 (if (i'4 < i'12) then i'12 else i'4)), (Go.Value.slice p'13 n'14 n'15)])] (fun x'136 h'137 => (∃ i'138 : Int, (∃ i'139 : Int, (∃ i'140 : Int, (∃ p'141 : Option Go.Addr, (∃ n'142 : Nat, (∃ n'143 : Nat, (∃ p'144 : Option Go.Addr, (∃ n'145 : Nat, (∃ n'146 : Nat, (∃ i'147 : Int, ((x'136 = (Go.Value.tuple #[(Go.Value.agg #[(Go.Value.int .i64 i'138), (Go.Value.int .i64 i'139), (Go.Value.int .i64 i'140), (Go.Value.slice p'141 n'142 n'143), (Go.Value.slice p'144 n'145 n'146)]), (Go.Value.int .i64 i'147)])) ∧ (brB (i'147 != (0 : Int)) (K (Go.Value.bool false) h'137) (EvC Go.Proofs.Try.prog w0 33 #[(Go.Value.agg #[(Go.Value.int .i64 i'2), (Go.Value.int .i64 i'3), (Go.Value.int .i64 i'4), (Go.Value.slice p'5 n'6 n'7)]), (Go.Value.agg #[(Go.Value.int .i64 i'138), (Go.Value.int .i64 i'139), (Go.Value.int .i64 i'140), (Go.Value.slice p'141 n'142 n'143), (Go.Value.slice p'144 n'145 n'146)])] (fun x'148 h'149 => (∃ i'150 : Int, (∃ i'151 : Int, (∃ i'152 : Int, (∃ p'153 : Option Go.Addr, (∃ n'154 : Nat, (∃ n'155 : Nat, (∃ i'156 : Int, ((x'148 = (Go.Value.tuple #[(Go.Value.agg #[(Go.Value.int .i64 i'150), (Go.Value.int .i64 i'151), (Go.Value.int .i64 i'152), (Go.Value.slice p'153 n'154 n'155)]), (Go.Value.int .i64 i'156)])) ∧ (brB (i'156 != (0 : Int)) (f14_8 w0 K true i'2 i'3 i'4 p'5 n'6 n'7 h'149) (EvC Go.Proofs.Try.prog w0 35 #[(Go.Value.agg #[(Go.Value.int .i64 i'150), (Go.Value.int .i64 i'151), (Go.Value.int .i64 i'152), (Go.Value.slice p'153 n'154 n'155)]), (Go.Value.agg #[(Go.Value.int .i64 (if (i'2 < i'10) then i'10 else i'2)), (Go.Value.int .i64 (if (i'3 < i'11) then i'11 else i'3)), (Go.Value.int .i64 (if (i'4 < i'12) then i'12 else i'4)), (Go.Value.slice p'13 n'14 n'15)])] (fun x'157 h'158 => (∃ t'159 : Bool, ((x'157 = (Go.Value.bool t'159)) ∧ (f14_8 w0 K (!t'159) i'2 i'3 i'4 p'5 n'6 n'7 h'158)))) h'149))))))))))) h'137)))))))))))))) h'9)))))))))))) h'1))))))))) h)) :
  EvC Go.Proofs.Try.prog w0 14 ([(.slice a0 n0 c0), (.slice a1 n1 c1)]).toArray K h := EvC_intro (P := Go.Proofs.Try.prog) f14_J (Eq.mp (by kernel_rfl) hv)
/-! ### LevelBack: what lies between two versions makes the one of the other -/
theorem uniqT_of : ∀ {r pre : List Tab}, (∀ t ∈ r, mayT t = true) → (r.map Tab.num).Nodup → (∀ t ∈ r, ∀ u ∈ pre, u.num ≠ t.num) → uniqT pre r = true
  | [], _, _, _, _ => rfl
  | t :: r, pre, h1, h2, h3 => by
    rw [List.map_cons, List.nodup_cons] at h2
    have ha : (pre.any fun u => u.num == t.num) = false := by
      rw [List.any_eq_false]
      intro u hu q
      exact h3 t (List.mem_cons_self ..) u hu (by simpa using q)
    unfold uniqT
    rw [h1 t (List.mem_cons_self ..), ha]
    suffices key : ∀ u ∈ r, ∀ v ∈ pre ++ [t], v.num ≠ u.num by
      simpa using uniqT_of (r := r) (pre := pre ++ [t]) (fun u hu => h1 u (List.mem_cons_of_mem _ hu)) h2.2 key
    intro u hu v hv
    rcases List.mem_append.1 hv with hv | hv
    · exact h3 u (List.mem_cons_of_mem _ hu) v hv
    · rw [List.mem_singleton] at hv; subst hv
      exact fun e => h2.1 (List.mem_map.2 ⟨u, hu, e.symm⟩)
theorem uniqN_of : ∀ {r pre : List Int}, (∀ x ∈ r, 1 ≤ x ∧ x ≤ 1099511627776) → r.Nodup → (∀ x ∈ r, ∀ y ∈ pre, y ≠ x) → uniqN pre r = true
  | [], _, _, _, _ => rfl
  | x :: r, pre, h1, h2, h3 => by
    rw [List.nodup_cons] at h2
    have ha : (pre.any fun u => u == x) = false := by
      rw [List.any_eq_false]
      intro u hu q
      exact h3 x (List.mem_cons_self ..) u hu (by simpa using q)
    obtain ⟨g1, g2⟩ := h1 x (List.mem_cons_self ..)
    unfold uniqN
    rw [ha, decide_eq_true g1, decide_eq_true g2]
    suffices key : ∀ u ∈ r, ∀ v ∈ pre ++ [x], v ≠ u by
      simpa using uniqN_of (r := r) (pre := pre ++ [x]) (fun u hu => h1 u (List.mem_cons_of_mem _ hu)) h2.2 key
    intro u hu v hv
    rcases List.mem_append.1 hv with hv | hv
    · exact h3 u (List.mem_cons_of_mem _ hu) v hv
    · rw [List.mem_singleton] at hv; subst hv
      exact fun e => h2.1 (e ▸ hu)
theorem mayL_nx {nx nx' : Int} (hn : nx ≤ nx') : ∀ {r pre : List Tab}, mayL nx pre r = true → mayL nx' pre r = true
  | [], _, _ => rfl
  | t :: r, pre, h => by
    simp only [mayL, Bool.and_eq_true, decide_eq_true_eq] at h ⊢
    exact ⟨⟨⟨⟨h.1.1.1.1, by omega⟩, h.1.1.2⟩, h.1.2⟩, mayL_nx hn h.2⟩
theorem dat_num {t u : Tab} (h : t.dat = u.dat) : t.num = u.num := (dat_ok h).1
theorem dat_nodup {ts : List Tab} (h : (ts.map Tab.num).Nodup) : (ts.map Tab.dat).Nodup := by
  have e : ts.map Tab.num = (ts.map Tab.dat).map fun d => d.1 := by rw [List.map_map]; rfl
  rw [e] at h
  exact (List.pairwise_map.1 h).imp fun h e => h (by rw [e])
theorem mem_dat {ts : List Tab} {d : Int × Int × Int × List UInt8 × List UInt8} : d ∈ ts.map Tab.dat ↔ ∃ t ∈ ts, t.dat = d := by rw [List.mem_map]
theorem any_dt {us : List Tab} {t : Tab} : us.any (fun u => decide (t.dat = u.dat)) = true ↔ ∃ u ∈ us, t.dat = u.dat := by
  rw [List.any_eq_true]
  exact ⟨fun ⟨u, hu, e⟩ => ⟨u, hu, of_decide_eq_true e⟩, fun ⟨u, hu, e⟩ => ⟨u, hu, decide_eq_true e⟩⟩
theorem mem_without {l m : List Tab} {t : Tab} : t ∈ withoutR l m ↔ t ∈ l ∧ ∀ u ∈ m, t.dat ≠ u.dat := by
  unfold withoutR
  rw [List.mem_filter]
  constructor
  · rintro ⟨h1, h2⟩
    refine ⟨h1, fun u hu e => ?_⟩
    have : m.any (fun u => decide (t.dat = u.dat)) = true := any_dt.2 ⟨u, hu, e⟩
    rw [this] at h2; cases h2
  · rintro ⟨h1, h2⟩
    refine ⟨h1, ?_⟩
    have : m.any (fun u => decide (t.dat = u.dat)) = false := by
      cases q : m.any (fun u => decide (t.dat = u.dat)) with
      | false => rfl
      | true => obtain ⟨u, hu, e⟩ := any_dt.1 q; exact absurd e (h2 u hu)
    rw [this]; rfl
theorem filter_cnt {α : Type} (p : α → Bool) : ∀ l : List α, (l.filter fun t => !(p t)).length + (l.filter p).length = l.length
  | [] => rfl
  | t :: l => by
    have := filter_cnt p l
    cases q : p t <;> simp [q] <;> omega
theorem apply_back {v w : Ver} {add : List Tab} (hd : diffB v w = true) (ha : add.map Tab.dat = (withoutR w.ts v.ts).map Tab.dat) :
    (applyR v w.lo w.nx w.sq add (sortL ((withoutR v.ts w.ts).map Tab.num))).2 = 0 ∧ (applyR v w.lo w.nx w.sq add (sortL ((withoutR v.ts w.ts).map Tab.num))).1.lo = w.lo ∧ (applyR v w.lo w.nx w.sq add (sortL ((withoutR v.ts w.ts).map Tab.num))).1.nx = w.nx ∧
    (applyR v w.lo w.nx w.sq add (sortL ((withoutR v.ts w.ts).map Tab.num))).1.sq = w.sq ∧ (applyR v w.lo w.nx w.sq add (sortL ((withoutR v.ts w.ts).map Tab.num))).1.ts.map Tab.dat = w.ts.map Tab.dat := by
  obtain ⟨mv, mw, hlo, hnx, hsq⟩ := diffB_may hd
  have nv := mayV_nodup mv
  have nw := mayV_nodup mw
  have rm : ∀ x : Int, (sortL ((withoutR v.ts w.ts).map Tab.num)).any (fun m => m == x) = true ↔ ∃ t ∈ withoutR v.ts w.ts, t.num = x := fun x => by
    rw [List.any_eq_true]
    constructor
    · rintro ⟨m, hm, e⟩
      obtain ⟨t, ht, e2⟩ := List.mem_map.1 ((sortL_perm _).mem_iff.1 hm)
      exact ⟨t, ht, by rw [e2]; simpa using e⟩
    · rintro ⟨t, ht, e⟩
      exact ⟨x, (sortL_perm _).mem_iff.2 (List.mem_map.2 ⟨t, ht, e⟩), by simp⟩
  have hrl : (sortL ((withoutR v.ts w.ts).map Tab.num)).length = (withoutR v.ts w.ts).length := by rw [sortL_len, List.length_map]
  -- what stays
  have hkept : v.ts.filter (fun t => !((sortL ((withoutR v.ts w.ts).map Tab.num)).any fun m => m == t.num)) = v.ts.filter fun t => w.ts.any fun u => decide (t.dat = u.dat) := by
    refine List.filter_congr fun t ht => ?_
    cases q : w.ts.any fun u => decide (t.dat = u.dat) with
    | true =>
      have : ¬ (sortL ((withoutR v.ts w.ts).map Tab.num)).any (fun m => m == t.num) = true := fun h => by
        obtain ⟨u, hu, e⟩ := (rm t.num).1 h
        have hu' := mem_without.1 hu
        have : u = t := num_inj nv hu'.1 ht e
        subst this
        obtain ⟨x, hx, ex⟩ := any_dt.1 q
        exact hu'.2 x hx ex
      simp only [Bool.not_eq_true] at this
      rw [this]; rfl
    | false =>
      have : (sortL ((withoutR v.ts w.ts).map Tab.num)).any (fun m => m == t.num) = true := (rm t.num).2 ⟨t, mem_without.2 ⟨ht, fun u hu e => by
        have := any_dt.2 ⟨u, hu, e⟩
        rw [q] at this; cases this⟩, rfl⟩
      rw [this]; rfl
  have hadd : ∀ t ∈ add, ∃ t' ∈ withoutR w.ts v.ts, t'.dat = t.dat := fun t ht => by
    have : t.dat ∈ (withoutR w.ts v.ts).map Tab.dat := by rw [← ha]; exact List.mem_map.2 ⟨t, ht, rfl⟩
    exact mem_dat.1 this
  have hal : add.length = (withoutR w.ts v.ts).length := by have := congrArg List.length ha; simpa using this
  have hanum : add.map Tab.num = (withoutR w.ts v.ts).map Tab.num := by
    have := congrArg (List.map fun z : Int × Int × Int × List UInt8 × List UInt8 => z.1) ha
    simpa [List.map_map, Tab.dat, Function.comp_def] using this
  have subw : ((withoutR w.ts v.ts).map Tab.num).Nodup := List.Nodup.sublist (List.Sublist.map _ List.filter_sublist) nw
  have subv : ((withoutR v.ts w.ts).map Tab.num).Nodup := List.Nodup.sublist (List.Sublist.map _ List.filter_sublist) nv
  have lv := mayV_len mv
  have lw := mayV_len mw
  have l1 := withoutR_le w.ts v.ts
  have l2 := withoutR_le v.ts w.ts
  -- the edit may be
  have he : mayE w.lo w.nx w.sq add (sortL ((withoutR v.ts w.ts).map Tab.num)) = true := by
    have mw' := mw
    simp only [mayV, Bool.and_eq_true] at mw'
    have u1 : uniqT [] add = true := uniqT_of (fun t ht => by
      obtain ⟨t', ht', e⟩ := hadd t ht
      rw [← mayT_dat e]; exact mayV_all mw t' (mem_without.1 ht').1) (by rw [hanum]; exact subw) (fun _ _ _ hu => by cases hu)
    have u2 : uniqN [] (sortL ((withoutR v.ts w.ts).map Tab.num)) = true := uniqN_of (fun x hx => by
      obtain ⟨t, ht, e⟩ := List.mem_map.1 ((sortL_perm _).mem_iff.1 hx)
      have := mayV_all mv t (mem_without.1 ht).1
      simp only [mayT, Bool.and_eq_true, decide_eq_true_eq] at this
      rw [← e]; omega) ((sortL_perm _).nodup_iff.2 subv) (fun _ _ _ hu => by cases hu)
    simp only [mayE, Bool.and_eq_true, decide_eq_true_eq]
    exact ⟨⟨⟨⟨⟨⟨mw'.1.1.1.1, mw'.1.1.1.2⟩, mw'.1.1.2⟩, by omega⟩, by omega⟩, u1⟩, u2⟩
  have h2 : ((sortL ((withoutR v.ts w.ts).map Tab.num)).any fun n => !(v.ts.any fun t => t.num == n)) = false := by
    rw [List.any_eq_false]
    intro x hx q
    obtain ⟨t, ht, e⟩ := List.mem_map.1 ((sortL_perm _).mem_iff.1 hx)
    have : v.ts.any (fun t => t.num == x) = true := List.any_eq_true.2 ⟨t, (mem_without.1 ht).1, by simp [e]⟩
    rw [this] at q; cases q
  have h3 : (add.any fun t => (v.ts.any fun u => u.num == t.num) && !((sortL ((withoutR v.ts w.ts).map Tab.num)).any fun m => m == t.num)) = false := by
    rw [List.any_eq_false]
    intro t ht q
    rw [Bool.and_eq_true] at q
    obtain ⟨u, hu, e⟩ := List.any_eq_true.1 q.1
    have e' : u.num = t.num := by simpa using e
    obtain ⟨t', ht', et⟩ := hadd t ht
    obtain ⟨ht1, ht2⟩ := mem_without.1 ht'
    have : (sortL ((withoutR v.ts w.ts).map Tab.num)).any (fun m => m == t.num) = true := (rm t.num).2 ⟨u, mem_without.2 ⟨hu, fun x hx ex => by
      have : x = t' := num_inj nw hx ht1 (by rw [← dat_num ex, e', dat_num et])
      subst this
      exact ht2 u hu ex.symm⟩, e'⟩
    rw [this] at q; cases q.2
  -- the new tables are the other version's
  have kd : ((v.ts.filter fun t => w.ts.any fun u => decide (t.dat = u.dat)).map Tab.dat).Nodup := dat_nodup (List.Nodup.sublist (List.Sublist.map _ List.filter_sublist) nv)
  have ad : (add.map Tab.dat).Nodup := by rw [ha]; exact dat_nodup subw
  have hperm : ((v.ts.filter fun t => w.ts.any fun u => decide (t.dat = u.dat)) ++ add).map Tab.dat |>.Perm (w.ts.map Tab.dat) := by
    rw [List.map_append]
    refine (List.perm_ext_iff_of_nodup ?_ (dat_nodup nw)).2 fun d => ?_
    · rw [List.nodup_append]
      refine ⟨kd, ad, fun x hx y hy e => ?_⟩
      subst e
      rw [ha] at hy
      obtain ⟨t, ht, e1⟩ := mem_dat.1 hx
      obtain ⟨u, hu, e2⟩ := mem_dat.1 hy
      exact (mem_without.1 hu).2 t (List.mem_filter.1 ht).1 (by rw [e1, e2])
    · rw [List.mem_append, ha]
      constructor
      · rintro (h | h)
        · obtain ⟨t, ht, e⟩ := mem_dat.1 h
          obtain ⟨u, hu, e2⟩ := any_dt.1 (List.mem_filter.1 ht).2
          exact mem_dat.2 ⟨u, hu, by rw [← e2, e]⟩
        · obtain ⟨t, ht, e⟩ := mem_dat.1 h
          exact mem_dat.2 ⟨t, (mem_without.1 ht).1, e⟩
      · intro h
        obtain ⟨t, ht, e⟩ := mem_dat.1 h
        cases q : v.ts.any fun u => decide (t.dat = u.dat) with
        | true =>
          obtain ⟨u, hu, e2⟩ := any_dt.1 q
          exact .inl (mem_dat.2 ⟨u, List.mem_filter.2 ⟨hu, any_dt.2 ⟨t, ht, e2.symm⟩⟩, by rw [← e2, e]⟩)
        | false => exact .inr (mem_dat.2 ⟨t, mem_without.2 ⟨ht, fun u hu e2 => by have := any_dt.2 ⟨u, hu, e2⟩; rw [q] at this; cases this⟩, e⟩)
  have hplen := hperm.length_eq
  simp only [List.length_map, List.length_append] at hplen
  have hcnt : (withoutR v.ts w.ts).length + (v.ts.filter fun t => w.ts.any fun u => decide (t.dat = u.dat)).length = v.ts.length := by
    unfold withoutR
    exact filter_cnt (fun t => w.ts.any fun u => decide (t.dat = u.dat)) v.ts
  have mv' := mv
  simp only [mayV, Bool.and_eq_true] at mv'
  have mw' := mw
  simp only [mayV, Bool.and_eq_true] at mw'
  have hkle : ((v.ts.filter fun t => w.ts.any fun u => decide (t.dat = u.dat)).map Tab.dat).Pairwise LeD := lt_le (before_lt ((mayL_before mv'.2).2.sublist (List.filter_sublist.map Tab.dat)))
  have hR := foldl_le (add := add) hkle
  have hout : (add.foldl (fun l t => putR t l) (v.ts.filter fun t => w.ts.any fun u => decide (t.dat = u.dat))).map Tab.dat = w.ts.map Tab.dat :=
    (same_of_perm (((foldl_perm.map Tab.dat).trans hperm).symm) (before_lt (mayL_before mw'.2).2) hR).symm
  have hmo : mayV w.lo w.nx w.sq (add.foldl (fun l t => putR t l) (v.ts.filter fun t => w.ts.any fun u => decide (t.dat = u.dat))) = true := by rw [mayV_dat hout]; exact mw
  have e : applyR v w.lo w.nx w.sq add (sortL ((withoutR v.ts w.ts).map Tab.num)) = (⟨w.lo, w.nx, w.sq, add.foldl (fun l t => putR t l) (v.ts.filter fun t => w.ts.any fun u => decide (t.dat = u.dat))⟩, 0) := by
    unfold applyR
    rw [mv, he, h2, h3, hrl, hkept]
    rw [if_neg (by simp), if_neg (by simp), if_neg (by simp), if_neg (by omega), if_neg (by omega)]
    simp only [hmo, if_true]
  rw [e]
  exact ⟨rfl, rfl, rfl, rfl, hout⟩
theorem without_self (l : List Tab) : withoutR l l = [] := by
  unfold withoutR
  rw [List.filter_eq_nil_iff]
  intro t ht q
  have := any_dt.2 ⟨t, ht, rfl⟩
  rw [this] at q; cases q
theorem max_in62 {a b : Int} (ha : in62 a = true) (hb : in62 b = true) : in62 (if a < b then b else a) = true := by split; exact hb; exact ha
/-- LevelBack holds. -/
theorem f14_spec {w0 : World} {K : Value → AH → Prop} {h0 : AH} {e0 e1 : Option Addr} {m0 g0 m1 g1 : Nat} {es fs : List Edi} (se : ES w0 h0 e0 m0 g0 es) (sf : ES w0 h0 e1 m1 g1 fs) (hk : ∀ h', Ext h0 h' none → K (.bool true) h') :
    EvC Go.Proofs.Try.prog w0 14 #[.slice e0 m0 g0, .slice e1 m1 g1] K h0 := by
  refine f14_go _ _ _ _ _ _ _ (f36_spec se fun a0 n0 c0 h1 s0 x1 => ⟨_, _, _, _, _, _, rfl, f36_spec (sf.ext x1) fun a1 n1 c1 h2 s1 x2 => ⟨_, _, _, _, _, _, rfl, ?_⟩⟩)
  have hx2 := x1.trans x2
  have s0' := s0.ext x2
  have hp := builtR_may es
  have hq := builtR_may fs
  generalize builtR es = p at s0' hp ⊢
  generalize builtR fs = q at s1 hq ⊢
  generalize hw : (⟨if p.lo < q.lo then q.lo else p.lo, if p.nx < q.nx then q.nx else p.nx, if p.sq < q.sq then q.sq else p.sq, q.ts⟩ : Ver) = w
  have hmw : mayV w.lo w.nx w.sq w.ts = true := by
    rw [← hw]
    simp only [mayV, Bool.and_eq_true] at hp hq ⊢
    exact ⟨⟨⟨⟨max_in62 hp.1.1.1.1 hq.1.1.1.1, max_in62 hp.1.1.1.2 hq.1.1.1.2⟩, max_in62 hp.1.1.2 hq.1.1.2⟩, hq.1.2⟩, mayL_nx (by split <;> omega) hq.2⟩
  have hd : diffB p w = true := by
    have g1 : p.lo ≤ w.lo := by rw [← hw]; dsimp only; split <;> omega
    have g2 : p.nx ≤ w.nx := by rw [← hw]; dsimp only; split <;> omega
    have g3 : p.sq ≤ w.sq := by rw [← hw]; dsimp only; split <;> omega
    simp only [diffB, hp, hmw, Bool.true_and, Bool.and_eq_true, Bool.not_eq_true', decide_eq_false_iff_not]
    exact ⟨⟨by omega, by omega⟩, by omega⟩
  have hdd : diffB p p = true := by
    simp only [diffB, hp, Bool.true_and, Bool.and_eq_true, Bool.not_eq_true', decide_eq_false_iff_not]
    exact ⟨⟨by omega, by omega⟩, by omega⟩
  have e1 : w.lo = if p.lo < q.lo then q.lo else p.lo := by rw [← hw]
  have e2 : w.nx = if p.nx < q.nx then q.nx else p.nx := by rw [← hw]
  have e3 : w.sq = if p.sq < q.sq then q.sq else p.sq := by rw [← hw]
  have e4 : w.ts = q.ts := by rw [← hw]
  rw [← e4] at s1
  have eight : ∀ h3, Ext h2 h3 none → f14_8 w0 K false p.lo p.nx p.sq a0 n0 c0 h3 := fun h3 hx3 => by
    refine f14_8_in _ _ _ _ _ _ _ _ (brB_of (fun z => by cases z) fun _ => f46_spec (s0'.ext hx3) (s0'.ext hx3) mayV_len mayV_len (fun a5 n5 c5 h5 ts5 b5 d5 _ s5 e5 o5 z5 x5 => ⟨_, _, _, _, _, _, _, _, _, _, rfl, brB_of (fun _ => brB_of (fun _ => brB_of (fun _ => f30_spec fun h' x' => ⟨_, rfl, hk h' (((hx2.trans hx3).trans x5).trans x')⟩) fun z => ?_) fun z => ?_) fun z => by cases z⟩) fun h5 hz _ => by rw [hdd] at hz; cases hz)
    · rw [without_self] at z; simp at z
    · have h5l := s5.len5
      have := congrArg List.length e5
      rw [without_self] at this
      simp at this
      rw [h5l, this] at z
      simp at z
  have main : EvC Go.Proofs.Try.prog w0 46 #[.agg #[.int .i64 p.lo, .int .i64 p.nx, .int .i64 p.sq, .slice a0 n0 c0], .agg #[.int .i64 w.lo, .int .i64 w.nx, .int .i64 w.sq, .slice a1 n1 c1]] (fun x'16 h'17 => ∃ i'18 : Int, ∃ i'19 : Int, ∃ i'20 : Int, ∃ p'21 : Option Addr, ∃ n'22 : Nat, ∃ n'23 : Nat, ∃ p'24 : Option Addr, ∃ n'25 : Nat, ∃ n'26 : Nat, ∃ i'27 : Int,
      (x'16 = (.tuple #[(.agg #[(.int .i64 i'18), (.int .i64 i'19), (.int .i64 i'20), (.slice p'21 n'22 n'23), (.slice p'24 n'25 n'26)]), (.int .i64 i'27)])) ∧ brB (i'27 != (0 : Int)) (K (.bool false) h'17)
        (EvC Go.Proofs.Try.prog w0 33 #[.agg #[.int .i64 p.lo, .int .i64 p.nx, .int .i64 p.sq, .slice a0 n0 c0], .agg #[(.int .i64 i'18), (.int .i64 i'19), (.int .i64 i'20), (.slice p'21 n'22 n'23), (.slice p'24 n'25 n'26)]] (fun x'28 h'29 => ∃ i'30 : Int, ∃ i'31 : Int, ∃ i'32 : Int, ∃ p'33 : Option Addr, ∃ n'34 : Nat, ∃ n'35 : Nat, ∃ i'36 : Int,
          (x'28 = (.tuple #[(.agg #[(.int .i64 i'30), (.int .i64 i'31), (.int .i64 i'32), (.slice p'33 n'34 n'35)]), (.int .i64 i'36)])) ∧ brB (i'36 != (0 : Int)) (f14_8 w0 K true p.lo p.nx p.sq a0 n0 c0 h'29)
            (EvC Go.Proofs.Try.prog w0 35 #[.agg #[(.int .i64 i'30), (.int .i64 i'31), (.int .i64 i'32), (.slice p'33 n'34 n'35)], .agg #[.int .i64 w.lo, .int .i64 w.nx, .int .i64 w.sq, .slice a1 n1 c1]] (fun x'37 h'38 => ∃ t'39 : Bool, (x'37 = (.bool t'39)) ∧ (f14_8 w0 K (!t'39) p.lo p.nx p.sq a0 n0 c0 h'38)) h'29)) h'17)) h2 := by
    refine f46_spec s0' s1 mayV_len mayV_len (fun a5 n5 c5 h5 ts5 b5 d5 _ s5 e5 o5 z5 x5 => ⟨_, _, _, _, _, _, _, _, _, _, rfl, brB_of (fun z => by cases z) fun _ => ?_⟩) fun h5 hz _ => by rw [hd] at hz; cases hz
    have h5l := s5.len5
    have h5e := congrArg List.length e5
    simp only [List.length_map] at h5e
    have l1 := withoutR_le w.ts p.ts
    have l2 := withoutR_le p.ts w.ts
    have lw := mayV_len hmw
    have lp := mayV_len hp
    have t5 : TS w0 h5 a5 n5 c5 ts5 := s5.ts (by omega) o5
    obtain ⟨q1, q2, q3, q4, q5⟩ := apply_back hd e5
    have zl : (withoutR p.ts w.ts).length = (sortL ((withoutR p.ts w.ts).map Tab.num)).length := by rw [sortL_len, List.length_map]
    have r5 : IS w0 h5 b5 (withoutR p.ts w.ts).length d5 (sortL ((withoutR p.ts w.ts).map Tab.num)) := by
      refine ⟨z5.rs, zl, z5.2.1, by omega, fun x hx => ?_⟩
      obtain ⟨t, ht, e⟩ := List.mem_map.1 ((sortL_perm _).mem_iff.1 hx)
      have := (s0'.ok t (mem_without.1 ht).1).num
      rw [← e]; exact this
    refine f33_apply (v := p) (fun a6 n6 c6 h6 us6 s6 d6 x6 => ⟨_, _, _, _, _, _, _, rfl, brB_of (fun z => by rw [q1] at z; cases z) fun _ => ?_⟩) (s0'.ext x5) t5 r5
    rw [q2, q3, q4]
    exact f35_spec s6 ((s1.ext x5).ext x6) (by rw [d6, q5]) ⟨_, rfl, eight h6 (x5.trans x6)⟩
  rw [e1, e2, e3] at main
  repeat' first
    | exact main
    | refine ⟨?_, ?_⟩
end Go.G.Ytpnhlgghpciofaa
