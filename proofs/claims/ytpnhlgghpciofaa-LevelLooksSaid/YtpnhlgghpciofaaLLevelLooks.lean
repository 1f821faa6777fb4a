/- LevelLooks by the evaluator. -/
import Derived.Test.YtpnhlgghpciofaaLV
import Derived.Test.YtpnhlgghpciofaaProg
set_option maxRecDepth 100000
namespace Go.G.Ytpnhlgghpciofaa
open Go.RowKit
def f11_J : Nat → List Nat × Nat := jOf []



theorem f11_go {w0 : World} {K : Value → AH → Prop} (a0 : Option Go.Addr) (n0 : Nat) (c0 : Nat) (x1 : Int) (a2 : Option Go.Addr) (n2 : Nat) (c2 : Nat) (a3 : Option Go.Addr) (n3 : Nat) (c3 : Nat) (h : AH)
  (hv : (EvC Go.Proofs.Try.prog w0 36 #[(Go.Value.slice a0 n0 c0)] (fun x'0 h'1 => (∃ i'2 : Int, (∃ i'3 : Int, (∃ i'4 : Int, (∃ p'5 : Option Go.Addr, (∃ n'6 : Nat, (∃ n'7 : Nat, ((x'0 = (Go.Value.agg #[(Go.Value.int .i64 i'2), (Go.Value.int .i64 i'3), (Go.Value.int .i64 i'4), (Go.Value.slice p'5 n'6 n'7)])) ∧ (EvC Go.Proofs.Try.prog w0 38 #[(Go.Value.agg #[(Go.Value.int .i64 i'2), (Go.Value.int .i64 i'3), (Go.Value.int .i64 i'4), (Go.Value.slice p'5 n'6 n'7)]), (Go.Value.int .i64 x1)] (fun x'8 h'9 => (∃ p'10 : Option Go.Addr, (∃ n'11 : Nat, (∃ n'12 : Nat, ((x'8 = (Go.Value.slice p'10 n'11 n'12)) ∧ (EvC Go.Proofs.Try.prog w0 39 #[(Go.Value.agg #[(Go.Value.int .i64 i'2), (Go.Value.int .i64 i'3), (Go.Value.int .i64 i'4), (Go.Value.slice p'5 n'6 n'7)]), (Go.Value.int .i64 x1)] (fun x'13 h'14 => (∃ p'15 : Option Go.Addr, (∃ n'16 : Nat, (∃ n'17 : Nat, ((x'13 = (Go.Value.slice p'15 n'16 n'17)) ∧ (EvC Go.Proofs.Try.prog w0 37 #[(Go.Value.slice p'10 n'11 n'12), (Go.Value.slice p'15 n'16 n'17)] (fun x'18 h'19 => (∃ t'20 : Bool, ((x'18 = (Go.Value.bool t'20)) ∧ (brB t'20 (EvC Go.Proofs.Try.prog w0 40 #[(Go.Value.agg #[(Go.Value.int .i64 i'2), (Go.Value.int .i64 i'3), (Go.Value.int .i64 i'4), (Go.Value.slice p'5 n'6 n'7)]), (Go.Value.int .i64 x1)] (fun x'21 h'22 => (∃ i'23 : Int, ((x'21 = (Go.Value.int .i64 i'23)) ∧ (EvC Go.Proofs.Try.prog w0 41 #[(Go.Value.agg #[(Go.Value.int .i64 i'2), (Go.Value.int .i64 i'3), (Go.Value.int .i64 i'4), (Go.Value.slice p'5 n'6 n'7)]), (Go.Value.int .i64 x1)] (fun x'24 h'25 => (∃ i'26 : Int, ((x'24 = (Go.Value.int .i64 i'26)) ∧ (brB (i'23 == i'26) (EvC Go.Proofs.Try.prog w0 23 #[(Go.Value.agg #[(Go.Value.int .i64 i'2), (Go.Value.int .i64 i'3), (Go.Value.int .i64 i'4), (Go.Value.slice p'5 n'6 n'7)]), (Go.Value.int .i64 x1), (Go.Value.slice a2 n2 c2), (Go.Value.slice a3 n3 c3)] (fun x'27 h'28 => (∃ p'29 : Option Go.Addr, (∃ n'30 : Nat, (∃ n'31 : Nat, ((x'27 = (Go.Value.slice p'29 n'30 n'31)) ∧ (EvC Go.Proofs.Try.prog w0 42 #[(Go.Value.agg #[(Go.Value.int .i64 i'2), (Go.Value.int .i64 i'3), (Go.Value.int .i64 i'4), (Go.Value.slice p'5 n'6 n'7)]), (Go.Value.int .i64 x1), (Go.Value.slice a2 n2 c2), (Go.Value.slice a3 n3 c3)] (fun x'32 h'33 => (∃ p'34 : Option Go.Addr, (∃ n'35 : Nat, (∃ n'36 : Nat, ((x'32 = (Go.Value.slice p'34 n'35 n'36)) ∧ (EvC Go.Proofs.Try.prog w0 37 #[(Go.Value.slice p'29 n'30 n'31), (Go.Value.slice p'34 n'35 n'36)] (fun x'37 h'38 => (∃ t'39 : Bool, ((x'37 = (Go.Value.bool t'39)) ∧ (brB t'39 (EvC Go.Proofs.Try.prog w0 43 #[(Go.Value.agg #[(Go.Value.int .i64 i'2), (Go.Value.int .i64 i'3), (Go.Value.int .i64 i'4), (Go.Value.slice p'5 n'6 n'7)]), (Go.Value.slice a2 n2 c2)] (fun x'40 h'41 => (∃ p'42 : Option Go.Addr, (∃ n'43 : Nat, (∃ n'44 : Nat, ((x'40 = (Go.Value.slice p'42 n'43 n'44)) ∧ (EvC Go.Proofs.Try.prog w0 44 #[(Go.Value.agg #[(Go.Value.int .i64 i'2), (Go.Value.int .i64 i'3), (Go.Value.int .i64 i'4), (Go.Value.slice p'5 n'6 n'7)]), (Go.Value.slice a2 n2 c2)] (fun x'45 h'46 => (∃ p'47 : Option Go.Addr, (∃ n'48 : Nat, (∃ n'49 : Nat, ((x'45 = (Go.Value.slice p'47 n'48 n'49)) ∧ (EvC Go.Proofs.Try.prog w0 37 #[(Go.Value.slice p'42 n'43 n'44), (Go.Value.slice p'47 n'48 n'49)] (fun x'50 h'51 => (∃ t'52 : Bool, ((x'50 = (Go.Value.bool t'52)) ∧ (brB t'52 (EvC Go.Proofs.Try.prog w0 30 #[] (fun x'53 h'54 => (∃ t'55 : Bool, ((x'53 = (Go.Value.bool t'55)) ∧ (K (Go.Value.bool t'55) h'54)))) h'51) (K (Go.Value.bool false) h'51))))) h'46)))))) h'41)))))) h'38) (K (Go.Value.bool false) h'38))))) h'33)))))) h'28)))))) h'25) (K (Go.Value.bool false) h'25))))) h'22)))) h'19) (K (Go.Value.bool false) h'19))))) h'14)))))) h'9)))))) h'1))))))))) h)) :
  EvC Go.Proofs.Try.prog w0 11 ([(.slice a0 n0 c0), (.int .i64 x1), (.slice a2 n2 c2), (.slice a3 n3 c3)]).toArray K h := EvC_intro (P := Go.Proofs.Try.prog) f11_J (Eq.mp (by kernel_rfl) hv)
/-- LevelLooks holds. -/
theorem f11_spec {w0 : World} {K : Value → AH → Prop} {h0 : AH} {a b d : Option Addr} {n c nb cb nd cd : Nat} {es : List Edi} {x : Int} {lo mo : List UInt8} (s : ES w0 h0 a n c es)
    (hlo : Rs w0 h0 b (u8s lo)) (hmo : Rs w0 h0 d (u8s mo)) (hnb : nb = lo.length) (hnd : nd = mo.length) (hk : ∀ h', Ext h0 h' none → K (.bool true) h') :
    EvC Go.Proofs.Try.prog w0 11 #[.slice a n c, .int .i64 x, .slice b nb cb, .slice d nd cd] K h0 := by
  refine f11_go _ _ _ _ _ _ _ _ _ _ _ (f36_spec s fun av nv cv h1 sv x1 => ⟨_, _, _, _, _, _, rfl, ?_⟩)
  have hm := builtR_may es
  generalize builtR es = v at *
  have hlen := mayV_len hm
  have hl := sv.len
  have hsz : ∀ t ∈ v.ts, 1 ≤ t.siz ∧ t.siz ≤ 4194304 := fun t ht => mayT_siz (mayV_all hm t ht)
  have hp : (v.ts.map Tab.dat).Pairwise Before := by
    simp only [mayV, Bool.and_eq_true] at hm
    exact (mayL_before hm.2).2
  have hfl := List.length_filter_le (fun t : Tab => t.lev == x) v.ts
  have hol := overD_le (ds := v.ts.map Tab.dat) (x := x) (lo := lo) (mo := mo)
  rw [List.length_map] at hol
  refine f38_spec sv (by omega) fun a1 n1 c1 h2 us s1 d1 o1 x2 _ => ⟨_, _, _, rfl, f39d_spec (sv.ext x2) (by omega) fun a2 n2 c2 h3 ws s2 d2 o2 x3 _ => ⟨_, _, _, rfl, ?_⟩⟩
  have l1 := s1.len5
  have l2 := s2.len5
  have e1 := congrArg List.length d1
  have e2 := congrArg List.length d2
  simp only [List.length_map] at e1 e2
  refine f37_spec ((s1.ts (by omega) o1).ext x3) (s2.ts (by omega) o2) (by rw [d1, d2]) ⟨_, rfl, brB_of (fun _ => ?_) fun q => by cases q⟩
  refine f40_spec (sv.ext (x2.trans x3)) (by omega) hsz fun h4 x4 => ⟨_, rfl, f41_spec (sv.ext ((x2.trans x3).trans x4)) (by omega) hsz fun h5 x5 => ⟨_, rfl, brB_of (fun _ => ?_) fun q => by simp at q⟩⟩
  have y5 := ((x2.trans x3).trans x4).trans x5
  refine f23_spec (sv.ext y5) (by omega) (hlo.ext (x1.trans y5)) (hmo.ext (x1.trans y5)) hnb hnd fun a3 n3 c3 h6 us3 s3 d3 o3 x6 _ => ⟨_, _, _, rfl, ?_⟩
  refine f42_spec (sv.ext (y5.trans x6)) (by omega) (hlo.ext (x1.trans (y5.trans x6))) (hmo.ext (x1.trans (y5.trans x6))) hnb hnd fun a4 n4 c4 h7 us4 s4 d4 o4 x7 _ => ⟨_, _, _, rfl, ?_⟩
  have l3 := s3.len5
  have l4 := s4.len5
  have e3 := congrArg List.length d3
  have e4 := congrArg List.length d4
  simp only [List.length_map] at e3 e4
  refine f37_spec ((s3.ts (by omega) o3).ext x7) (s4.ts (by omega) o4) (by rw [d3, d4]) ⟨_, rfl, brB_of (fun _ => ?_) fun q => by cases q⟩
  have y7 := (y5.trans x6).trans x7
  refine f43_spec (sv.ext y7) (by omega) (hlo.ext (x1.trans y7)) hnb (fun a5 n5 c5 h8 us5 s5 d5 o5 x8 => ⟨_, _, _, rfl, ?_⟩) hp
  refine f44_spec (sv.ext (y7.trans x8)) (by omega) (hlo.ext (x1.trans (y7.trans x8))) hnb fun a6 n6 c6 h9 us6 s6 d6 o6 x9 => ⟨_, _, _, rfl, ?_⟩
  have l5 := s5.len5
  have l6 := s6.len5
  have e5 := congrArg List.length d5
  have e6 := congrArg List.length d6
  have g0 := overD_le (ds := v.ts.map Tab.dat) (x := 0) (lo := lo) (mo := lo)
  have g1 := overD_le (ds := v.ts.map Tab.dat) (x := 1) (lo := lo) (mo := lo)
  have g2 := overD_le (ds := v.ts.map Tab.dat) (x := 2) (lo := lo) (mo := lo)
  have g3 := overD_le (ds := v.ts.map Tab.dat) (x := 3) (lo := lo) (mo := lo)
  simp only [List.length_map, findD, List.length_append] at e5 e6 g0 g1 g2 g3
  exact f37_spec ((s5.ts (by omega) o5).ext x9) (s6.ts (by omega) o6) (by rw [d5, d6]) ⟨_, rfl, brB_of (fun _ => f30_spec fun h10 x10 => ⟨_, rfl, hk h10 (((x1.trans y7).trans x8).trans x9 |>.trans x10)⟩) fun q => by cases q⟩
end Go.G.Ytpnhlgghpciofaa
