/- Edits, the versions that they make; the same tables. -/
import Derived.Test.YtpnhlgghpciofaaLLevelMay
import Derived.Test.YtpnhlgghpciofaaLT
import Derived.Test.YtpnhlgghpciofaaProg
set_option maxRecDepth 100000
namespace Go.G.Ytpnhlgghpciofaa
open Go.RowKit
/-! ### api.Edit as it lies in memory -/
structure Edi where
  lo : Int
  nx : Int
  sq : Int
  ap : Option Addr
  an : Nat
  ac : Nat
  rp : Option Addr
  rn : Nat
  rc : Nat
  add : List Tab
  rem : List Int
def Edi.cells (e : Edi) : List Value := [.int .i64 e.lo, .int .i64 e.nx, .int .i64 e.sq, .slice e.ap e.an e.ac, .slice e.rp e.rn e.rc]
def eds (l : List Edi) : List Value := l.flatMap Edi.cells
theorem eds_get : ∀ {l : List Edi} {i : Nat} {t : Edi} {j : Nat} {x : Value}, l[i]? = some t → t.cells[j]? = some x → (eds l)[i * 5 + j]? = some x
  | [], i, t, j, x, h, _ => by simp at h
  | u :: l, 0, t, j, x, h, hj => by
    simp at h
    subst h
    have := (List.getElem?_eq_some_iff.1 hj).1
    simp only [eds, List.flatMap_cons, Nat.zero_mul, Nat.zero_add]
    rw [List.getElem?_append_left this]
    exact hj
  | u :: l, i + 1, t, j, x, h, hj => by
    have ih := eds_get (l := l) (i := i) (by simpa using h) hj
    have hu : u.cells.length = 5 := rfl
    simp only [eds, List.flatMap_cons]
    rw [List.getElem?_append_right (by omega), hu, show (i + 1) * 5 + j - 5 = i * 5 + j by omega]
    exact ih
/-- A slice of edits. -/
structure ES (w0 : World) (h : AH) (a : Option Addr) (n c : Nat) (es : List Edi) : Prop where
  rs : Rs w0 h a (eds es)
  len : n = es.length
  cap : n ≤ c
  sm : n ≤ 1000000000000000
  add : ∀ e ∈ es, TS w0 h e.ap e.an e.ac e.add
  rem : ∀ e ∈ es, IS w0 h e.rp e.rn e.rc e.rem
theorem ES.ext {w0 : World} {h h' : AH} {a : Option Addr} {n c : Nat} {es : List Edi} (s : ES w0 h a n c es) (hx : Ext h h' none) : ES w0 h' a n c es :=
  ⟨s.rs.ext hx, s.len, s.cap, s.sm, fun e he => (s.add e he).ext hx, fun e he => (s.rem e he).ext hx⟩
theorem ed_at {w0 : World} {h : AH} {a : Option Addr} {l : List Edi} {i : Nat} {t : Edi} (hr : Rd w0 h a (eds l)) (hi : l[i]? = some t) :
    ∃ ad, a = some ad ∧ At w0 h (ad.add (i * 5)) t.cells := by
  obtain ⟨ad, ha, _⟩ := hr (i * 5 + 0) _ (eds_get hi (j := 0) rfl)
  refine ⟨ad, ha, fun j x hj => ?_⟩
  obtain ⟨ad', ha', hc⟩ := hr _ _ (eds_get hi hj)
  rw [ha] at ha'
  injection ha' with ha'
  subst ha'
  rw [Deep.add_add]
  exact hc

/-- A version of edits, each as far as it is taken. -/
def builtStep (v : Ver) (e : Edi) : Ver := if lightL 0 e.add && decide (e.rem.length ≤ 300) then (if (applyR v e.lo e.nx e.sq e.add e.rem).2 = 0 then (applyR v e.lo e.nx e.sq e.add e.rem).1 else v) else v
def builtR (es : List Edi) : Ver := (es.take 12).foldl builtStep ⟨0, 0, 0, []⟩
theorem builtStep_may {v : Ver} {e : Edi} (h : mayV v.lo v.nx v.sq v.ts = true) : mayV (builtStep v e).lo (builtStep v e).nx (builtStep v e).sq (builtStep v e).ts = true := by
  unfold builtStep
  split
  · split
    · rename_i q; exact applyR_may q
    · exact h
  · exact h
theorem built_fold_may : ∀ (l : List Edi) (v : Ver), mayV v.lo v.nx v.sq v.ts = true → mayV (l.foldl builtStep v).lo (l.foldl builtStep v).nx (l.foldl builtStep v).sq (l.foldl builtStep v).ts = true
  | [], _, h => h
  | _ :: l, _, h => built_fold_may l _ (builtStep_may h)
theorem builtR_may (es : List Edi) : mayV (builtR es).lo (builtR es).nx (builtR es).sq (builtR es).ts = true := built_fold_may _ _ (by decide)
def f36_J : Nat → List Nat × Nat := jOf [(3, [1, 5, 6, 7, 8, 9, 10, 11, 12, 13, 14, 15, 16, 17, 18, 19, 20, 21, 22, 23, 24, 25, 26, 27, 28, 29, 30, 31, 32, 33, 34, 35, 36, 37, 38, 39, 40, 41, 42, 43, 44, 45], 2), (5, [1, 5, 6, 7, 8, 9, 10, 11, 12, 13, 14, 15, 16, 17, 18, 19, 20, 21, 22, 23, 24, 25, 26, 27, 28, 29, 30, 31, 32, 33, 34, 35, 36, 37, 38, 39, 40, 41, 42, 43, 44, 45], 2), (6, [1, 5, 6, 7, 8, 9, 10, 11, 12, 13, 14, 15, 16, 17, 18, 19, 20, 21, 22, 23, 24, 25, 26, 27, 28, 29, 30, 31, 33, 34, 35, 36, 37, 38, 39, 40, 41, 42, 43, 44, 45], 2)]

def f36_3 (w0 : World) (K : Value → AH → Prop) (a0 : Option Go.Addr) (n0 : Nat) (c0 : Nat) (x4 : Int) (xb0_0 : Int) (xb0_1 : Int) (xb0_2 : Int) (ab0_3 : Option Go.Addr) (nb0_3 : Nat) (cb0_3 : Nat) (xb1_0 : Int) (xb1_1 : Int) (xb1_2 : Int) (ab1_3 : Option Go.Addr) (nb1_3 : Nat) (cb1_3 : Nat) (h : AH) : Prop :=
  ∀ j : Nat → Value, LPk Go.Proofs.Try.prog w0 (EvC Go.Proofs.Try.prog w0) f36_J 36 K 3 [.v (.slice a0 n0 c0), .v (j 1), .bp 0 0, .bp 1 0, .v (.int .i64 x4), .v (j 5), .v (j 6), .v (j 7), .v (j 8), .v (j 9), .v (j 10), .v (j 11), .v (j 12), .v (j 13), .v (j 14), .v (j 15), .v (j 16), .v (j 17), .v (j 18), .v (j 19), .v (j 20), .v (j 21), .v (j 22), .v (j 23), .v (j 24), .v (j 25), .v (j 26), .v (j 27), .v (j 28), .v (j 29), .v (j 30), .v (j 31), .v (j 32), .v (j 33), .v (j 34), .v (j 35), .v (j 36), .v (j 37), .v (j 38), .v (j 39), .v (j 40), .v (j 41), .v (j 42), .v (j 43), .v (j 44), .v (j 45)] [some [(.int .i64 xb0_0), (.int .i64 xb0_1), (.int .i64 xb0_2), (.slice ab0_3 nb0_3 cb0_3)], some [(.int .i64 xb1_0), (.int .i64 xb1_1), (.int .i64 xb1_2), (.slice ab1_3 nb1_3 cb1_3)]] h

def f36_5 (w0 : World) (K : Value → AH → Prop) (a0 : Option Go.Addr) (n0 : Nat) (c0 : Nat) (x4 : Int) (xb0_0 : Int) (xb0_1 : Int) (xb0_2 : Int) (ab0_3 : Option Go.Addr) (nb0_3 : Nat) (cb0_3 : Nat) (xb1_0 : Int) (xb1_1 : Int) (xb1_2 : Int) (ab1_3 : Option Go.Addr) (nb1_3 : Nat) (cb1_3 : Nat) (h : AH) : Prop :=
  ∀ j : Nat → Value, LPk Go.Proofs.Try.prog w0 (EvC Go.Proofs.Try.prog w0) f36_J 36 K 5 [.v (.slice a0 n0 c0), .v (j 1), .bp 0 0, .bp 1 0, .v (.int .i64 x4), .v (j 5), .v (j 6), .v (j 7), .v (j 8), .v (j 9), .v (j 10), .v (j 11), .v (j 12), .v (j 13), .v (j 14), .v (j 15), .v (j 16), .v (j 17), .v (j 18), .v (j 19), .v (j 20), .v (j 21), .v (j 22), .v (j 23), .v (j 24), .v (j 25), .v (j 26), .v (j 27), .v (j 28), .v (j 29), .v (j 30), .v (j 31), .v (j 32), .v (j 33), .v (j 34), .v (j 35), .v (j 36), .v (j 37), .v (j 38), .v (j 39), .v (j 40), .v (j 41), .v (j 42), .v (j 43), .v (j 44), .v (j 45)] [some [(.int .i64 xb0_0), (.int .i64 xb0_1), (.int .i64 xb0_2), (.slice ab0_3 nb0_3 cb0_3)], some [(.int .i64 xb1_0), (.int .i64 xb1_1), (.int .i64 xb1_2), (.slice ab1_3 nb1_3 cb1_3)]] h

def f36_6 (w0 : World) (K : Value → AH → Prop) (a0 : Option Go.Addr) (n0 : Nat) (c0 : Nat) (x4 : Int) (x32 : Bool) (xb0_0 : Int) (xb0_1 : Int) (xb0_2 : Int) (ab0_3 : Option Go.Addr) (nb0_3 : Nat) (cb0_3 : Nat) (xb1_0 : Int) (xb1_1 : Int) (xb1_2 : Int) (ab1_3 : Option Go.Addr) (nb1_3 : Nat) (cb1_3 : Nat) (h : AH) : Prop :=
  ∀ j : Nat → Value, LPk Go.Proofs.Try.prog w0 (EvC Go.Proofs.Try.prog w0) f36_J 36 K 6 [.v (.slice a0 n0 c0), .v (j 1), .bp 0 0, .bp 1 0, .v (.int .i64 x4), .v (j 5), .v (j 6), .v (j 7), .v (j 8), .v (j 9), .v (j 10), .v (j 11), .v (j 12), .v (j 13), .v (j 14), .v (j 15), .v (j 16), .v (j 17), .v (j 18), .v (j 19), .v (j 20), .v (j 21), .v (j 22), .v (j 23), .v (j 24), .v (j 25), .v (j 26), .v (j 27), .v (j 28), .v (j 29), .v (j 30), .v (j 31), .v (.bool x32), .v (j 33), .v (j 34), .v (j 35), .v (j 36), .v (j 37), .v (j 38), .v (j 39), .v (j 40), .v (j 41), .v (j 42), .v (j 43), .v (j 44), .v (j 45)] [some [(.int .i64 xb0_0), (.int .i64 xb0_1), (.int .i64 xb0_2), (.slice ab0_3 nb0_3 cb0_3)], some [(.int .i64 xb1_0), (.int .i64 xb1_1), (.int .i64 xb1_2), (.slice ab1_3 nb1_3 cb1_3)]] h

theorem f36_3_in {w0 : World} {K : Value → AH → Prop} (a0 : Option Go.Addr) (n0 : Nat) (c0 : Nat) (x4 : Int) (xb0_0 : Int) (xb0_1 : Int) (xb0_2 : Int) (ab0_3 : Option Go.Addr) (nb0_3 : Nat) (cb0_3 : Nat) (xb1_0 : Int) (xb1_1 : Int) (xb1_2 : Int) (ab1_3 : Option Go.Addr) (nb1_3 : Nat) (cb1_3 : Nat) (h : AH)
  (hv : (brB (decide ((x4 < ((n0 : Nat) : Int)))) (brB (decide ((x4 < (12 : Int)))) (f36_5 w0 K a0 n0 c0 x4 xb0_0 xb0_1 xb0_2 ab0_3 nb0_3 cb0_3 xb1_0 xb1_1 xb1_2 ab1_3 nb1_3 cb1_3 h) (K (Go.Value.agg #[(Go.Value.int .i64 xb1_0), (Go.Value.int .i64 xb1_1), (Go.Value.int .i64 xb1_2), (Go.Value.slice ab1_3 nb1_3 cb1_3)]) h)) (K (Go.Value.agg #[(Go.Value.int .i64 xb1_0), (Go.Value.int .i64 xb1_1), (Go.Value.int .i64 xb1_2), (Go.Value.slice ab1_3 nb1_3 cb1_3)]) h))) :
  f36_3 w0 K a0 n0 c0 x4 xb0_0 xb0_1 xb0_2 ab0_3 nb0_3 cb0_3 xb1_0 xb1_1 xb1_2 ab1_3 nb1_3 cb1_3 h := fun j => LP_intro (P := Go.Proofs.Try.prog) (Eq.mp (by kernel_rfl) hv)

theorem f36_5_in {w0 : World} {K : Value → AH → Prop} (a0 : Option Go.Addr) (n0 : Nat) (c0 : Nat) (x4 : Int) (xb0_0 : Int) (xb0_1 : Int) (xb0_2 : Int) (ab0_3 : Option Go.Addr) (nb0_3 : Nat) (cb0_3 : Nat) (xb1_0 : Int) (xb1_1 : Int) (xb1_2 : Int) (ab1_3 : Option Go.Addr) (nb1_3 : Nat) (cb1_3 : Nat) (h : AH)
  (hv : (∃ a'0 : Go.Addr, ((a0 = (some a'0)) ∧ (((0 : Int) ≤ x4) ∧ ((x4 < ((n0 : Nat) : Int)) ∧ (∃ p'1 : Option Go.Addr, (∃ n'2 : Nat, (∃ n'3 : Nat, (((Go.G.cellA w0 h (Go.Addr.add (Go.Addr.add a'0 ((Int.toNat x4) * 5)) 3)) = (some (Go.Value.slice p'1 n'2 n'3))) ∧ (EvC Go.Proofs.Try.prog w0 29 #[(Go.Value.slice p'1 n'2 n'3)] (fun x'4 h'5 => (∃ t'6 : Bool, ((x'4 = (Go.Value.bool t'6)) ∧ (brB t'6 (∃ a'7 : Go.Addr, ((a0 = (some a'7)) ∧ (((0 : Int) ≤ x4) ∧ ((x4 < ((n0 : Nat) : Int)) ∧ (∃ p'8 : Option Go.Addr, (∃ n'9 : Nat, (∃ n'10 : Nat, (((Go.G.cellA w0 h'5 (Go.Addr.add (Go.Addr.add a'7 ((Int.toNat x4) * 5)) 4)) = (some (Go.Value.slice p'8 n'9 n'10))) ∧ (f36_6 w0 K a0 n0 c0 x4 (decide ((((n'9 : Nat) : Int) ≤ (300 : Int)))) xb0_0 xb0_1 xb0_2 ab0_3 nb0_3 cb0_3 xb1_0 xb1_1 xb1_2 ab1_3 nb1_3 cb1_3 h'5))))))))) (f36_6 w0 K a0 n0 c0 x4 false xb0_0 xb0_1 xb0_2 ab0_3 nb0_3 cb0_3 xb1_0 xb1_1 xb1_2 ab1_3 nb1_3 cb1_3 h'5))))) h)))))))))) :
  f36_5 w0 K a0 n0 c0 x4 xb0_0 xb0_1 xb0_2 ab0_3 nb0_3 cb0_3 xb1_0 xb1_1 xb1_2 ab1_3 nb1_3 cb1_3 h := fun j => LP_intro (P := Go.Proofs.Try.prog) (Eq.mp (by kernel_rfl) hv)

theorem f36_6_in {w0 : World} {K : Value → AH → Prop} (a0 : Option Go.Addr) (n0 : Nat) (c0 : Nat) (x4 : Int) (x32 : Bool) (xb0_0 : Int) (xb0_1 : Int) (xb0_2 : Int) (ab0_3 : Option Go.Addr) (nb0_3 : Nat) (cb0_3 : Nat) (xb1_0 : Int) (xb1_1 : Int) (xb1_2 : Int) (ab1_3 : Option Go.Addr) (nb1_3 : Nat) (cb1_3 : Nat) (h : AH)
  (hv : (brB x32 (∃ a'11 : Go.Addr, ((a0 = (some a'11)) ∧ (((0 : Int) ≤ x4) ∧ ((x4 < ((n0 : Nat) : Int)) ∧ ((∃ i'12 : Int, (∃ i'13 : Int, (∃ i'14 : Int, (∃ p'15 : Option Go.Addr, (∃ n'16 : Nat, (∃ n'17 : Nat, (∃ p'18 : Option Go.Addr, (∃ n'19 : Nat, (∃ n'20 : Nat, ((((Array.size #[(Go.Value.int .i64 i'12), (Go.Value.int .i64 i'13), (Go.Value.int .i64 i'14), (Go.Value.slice p'15 n'16 n'17), (Go.Value.slice p'18 n'19 n'20)]) = 5) ∧ (At w0 h (Go.Addr.add a'11 ((Int.toNat x4) * 5)) [(Go.Value.int .i64 i'12), (Go.Value.int .i64 i'13), (Go.Value.int .i64 i'14), (Go.Value.slice p'15 n'16 n'17), (Go.Value.slice p'18 n'19 n'20)])) ∧ ((EvC Go.Proofs.Try.prog w0 34 #[(Go.Value.agg #[(Go.Value.int .i64 xb1_0), (Go.Value.int .i64 xb1_1), (Go.Value.int .i64 xb1_2), (Go.Value.slice ab1_3 nb1_3 cb1_3)]), (Go.Value.agg #[(Go.Value.int .i64 i'12), (Go.Value.int .i64 i'13), (Go.Value.int .i64 i'14), (Go.Value.slice p'15 n'16 n'17), (Go.Value.slice p'18 n'19 n'20)])] (fun x'21 h'22 => (∃ i'23 : Int, (∃ i'24 : Int, (∃ i'25 : Int, (∃ p'26 : Option Go.Addr, (∃ n'27 : Nat, (∃ n'28 : Nat, (∃ i'29 : Int, ((x'21 = (Go.Value.tuple #[(Go.Value.agg #[(Go.Value.int .i64 i'23), (Go.Value.int .i64 i'24), (Go.Value.int .i64 i'25), (Go.Value.slice p'26 n'27 n'28)]), (Go.Value.int .i64 i'29)])) ∧ (brB (i'29 == (0 : Int)) (f36_3 w0 K a0 n0 c0 (Go.IntKind.wrap .i64 (x4 + (1 : Int))) xb0_0 xb0_1 xb0_2 ab0_3 nb0_3 cb0_3 i'23 i'24 i'25 p'26 n'27 n'28 h'22) (f36_3 w0 K a0 n0 c0 (Go.IntKind.wrap .i64 (x4 + (1 : Int))) xb0_0 xb0_1 xb0_2 ab0_3 nb0_3 cb0_3 xb1_0 xb1_1 xb1_2 ab1_3 nb1_3 cb1_3 h'22))))))))))) h) ∧ (EvC Go.Proofs.Try.prog w0 34 #[(Go.Value.agg #[(Go.Value.int .i64 xb1_0), (Go.Value.int .i64 xb1_1), (Go.Value.int .i64 xb1_2), (Go.Value.slice ab1_3 nb1_3 cb1_3)]), (Go.Value.agg #[(Go.Value.int .i64 i'12), (Go.Value.int .i64 i'13), (Go.Value.int .i64 i'14), (Go.Value.slice p'15 n'16 n'17), (Go.Value.slice p'18 n'19 n'20)])] (fun x'30 h'31 => (∃ i'32 : Int, (∃ i'33 : Int, (∃ i'34 : Int, (∃ p'35 : Option Go.Addr, (∃ n'36 : Nat, (∃ n'37 : Nat, (∃ i'38 : Int, ((x'30 = (Go.Value.tuple #[(Go.Value.agg #[(Go.Value.int .i64 i'32), (Go.Value.int .i64 i'33), (Go.Value.int .i64 i'34), (Go.Value.slice p'35 n'36 n'37)]), (Go.Value.int .i64 i'38)])) ∧ (brB (i'38 == (0 : Int)) (f36_3 w0 K a0 n0 c0 (Go.IntKind.wrap .i64 (x4 + (1 : Int))) xb0_0 xb0_1 xb0_2 ab0_3 nb0_3 cb0_3 i'32 i'33 i'34 p'35 n'36 n'37 h'31) (f36_3 w0 K a0 n0 c0 (Go.IntKind.wrap .i64 (x4 + (1 : Int))) xb0_0 xb0_1 xb0_2 ab0_3 nb0_3 cb0_3 xb1_0 xb1_1 xb1_2 ab1_3 nb1_3 cb1_3 h'31))))))))))) h)))))))))))) ∧ (∃ i'39 : Int, (∃ i'40 : Int, (∃ i'41 : Int, (∃ p'42 : Option Go.Addr, (∃ n'43 : Nat, (∃ n'44 : Nat, (∃ p'45 : Option Go.Addr, (∃ n'46 : Nat, (∃ n'47 : Nat, ((((Array.size #[(Go.Value.int .i64 i'39), (Go.Value.int .i64 i'40), (Go.Value.int .i64 i'41), (Go.Value.slice p'42 n'43 n'44), (Go.Value.slice p'45 n'46 n'47)]) = 5) ∧ (At w0 h (Go.Addr.add a'11 ((Int.toNat x4) * 5)) [(Go.Value.int .i64 i'39), (Go.Value.int .i64 i'40), (Go.Value.int .i64 i'41), (Go.Value.slice p'42 n'43 n'44), (Go.Value.slice p'45 n'46 n'47)])) ∧ (EvC Go.Proofs.Try.prog w0 34 #[(Go.Value.agg #[(Go.Value.int .i64 xb1_0), (Go.Value.int .i64 xb1_1), (Go.Value.int .i64 xb1_2), (Go.Value.slice ab1_3 nb1_3 cb1_3)]), (Go.Value.agg #[(Go.Value.int .i64 i'39), (Go.Value.int .i64 i'40), (Go.Value.int .i64 i'41), (Go.Value.slice p'42 n'43 n'44), (Go.Value.slice p'45 n'46 n'47)])] (fun x'48 h'49 => (∃ i'50 : Int, (∃ i'51 : Int, (∃ i'52 : Int, (∃ p'53 : Option Go.Addr, (∃ n'54 : Nat, (∃ n'55 : Nat, (∃ i'56 : Int, ((x'48 = (Go.Value.tuple #[(Go.Value.agg #[(Go.Value.int .i64 i'50), (Go.Value.int .i64 i'51), (Go.Value.int .i64 i'52), (Go.Value.slice p'53 n'54 n'55)]), (Go.Value.int .i64 i'56)])) ∧ (brB (i'56 == (0 : Int)) (f36_3 w0 K a0 n0 c0 (Go.IntKind.wrap .i64 (x4 + (1 : Int))) xb0_0 xb0_1 xb0_2 ab0_3 nb0_3 cb0_3 i'50 i'51 i'52 p'53 n'54 n'55 h'49) (f36_3 w0 K a0 n0 c0 (Go.IntKind.wrap .i64 (x4 + (1 : Int))) xb0_0 xb0_1 xb0_2 ab0_3 nb0_3 cb0_3 xb1_0 xb1_1 xb1_2 ab1_3 nb1_3 cb1_3 h'49))))))))))) h)))))))))))))))) (f36_3 w0 K a0 n0 c0 (Go.IntKind.wrap .i64 (x4 + (1 : Int))) xb0_0 xb0_1 xb0_2 ab0_3 nb0_3 cb0_3 xb1_0 xb1_1 xb1_2 ab1_3 nb1_3 cb1_3 h))) :
  f36_6 w0 K a0 n0 c0 x4 x32 xb0_0 xb0_1 xb0_2 ab0_3 nb0_3 cb0_3 xb1_0 xb1_1 xb1_2 ab1_3 nb1_3 cb1_3 h := fun j => LP_intro (P := Go.Proofs.Try.prog) (Eq.mp (by kernel_rfl) hv)

theorem f36_go {w0 : World} {K : Value → AH → Prop} (a0 : Option Go.Addr) (n0 : Nat) (c0 : Nat) (h : AH)
  (hv : (f36_3 w0 K a0 n0 c0 (0 : Int) (0 : Int) (0 : Int) (0 : Int) none 0 0 (0 : Int) (0 : Int) (0 : Int) none 0 0 h)) :
  EvC Go.Proofs.Try.prog w0 36 ([(.slice a0 n0 c0)]).toArray K h := EvC_intro (P := Go.Proofs.Try.prog) f36_J (Eq.mp (by kernel_rfl) hv)
theorem f36_loop {w0 : World} {K : Value → AH → Prop} {h0 : AH} {a : Option Addr} {n c : Nat} {es : List Edi} (s : ES w0 h0 a n c es)
    (hk : ∀ a' n' c' h', TS w0 h' a' n' c' (builtR es).ts → Ext h0 h' none → K (.agg #[.int .i64 (builtR es).lo, .int .i64 (builtR es).nx, .int .i64 (builtR es).sq, .slice a' n' c']) h') :
    ∀ (k i : Nat) (v : Ver) (a3 : Option Addr) (n3 c3 : Nat) (h : AH) (y0 y1 y2 : Int) (b : Option Addr) (y3 y4 : Nat), i + k = min n 12 → Ext h0 h none → TS w0 h a3 n3 c3 v.ts → builtR es = ((es.take 12).drop i).foldl builtStep v →
      f36_3 w0 K a n c ((i : Nat) : Int) y0 y1 y2 b y3 y4 v.lo v.nx v.sq a3 n3 c3 h := by
  have hl := s.len
  have hsm := s.sm
  intro k
  induction k with
  | zero =>
    intro i v a3 n3 c3 h y0 y1 y2 b y3 y4 hi hx so he
    have hv : builtR es = v := by rw [he, List.drop_eq_nil_of_le (by simp; omega)]; rfl
    have hk' := hk a3 n3 c3 h (by rw [hv]; exact so) hx
    rw [hv] at hk'
    exact f36_3_in _ _ _ _ _ _ _ _ _ _ _ _ _ _ _ _ _ (brB_of (fun q => brB_of (fun q2 => by simp at q q2; omega) fun _ => hk') fun _ => hk')
  | succ k ih =>
    intro i v a3 n3 c3 h y0 y1 y2 b y3 y4 hi hx so he
    have hget : es[i]? = some es[i] := List.getElem?_eq_getElem (by omega)
    generalize htd : es[i] = e at hget
    have hdrop : (es.take 12).drop i = e :: (es.take 12).drop (i + 1) := by
      rw [List.drop_eq_getElem_cons (by simp; omega)]
      simp [htd]
    rw [hdrop, List.foldl_cons] at he
    have hmem := List.mem_of_getElem? hget
    have sx := s.ext hx
    have sa := sx.add e hmem
    have sr := sx.rem e hmem
    obtain ⟨ad, had, hat⟩ := ed_at sx.rs.rd hget
    have hadd := sa.len
    have hrem := sr.len
    have step : ∀ z : Bool, z = (lightL 0 e.add && decide (e.rem.length ≤ 300)) → f36_6 w0 K a n c ((i : Nat) : Int) z y0 y1 y2 b y3 y4 v.lo v.nx v.sq a3 n3 c3 h := fun z hz => by
      refine f36_6_in _ _ _ _ _ _ _ _ _ _ _ _ _ _ _ _ _ _ (brB_of (fun e1 => ?_) fun e1 => ?_)
      · have call : EvC Go.Proofs.Try.prog w0 34 #[.agg #[.int .i64 v.lo, .int .i64 v.nx, .int .i64 v.sq, .slice a3 n3 c3], .agg #[.int .i64 e.lo, .int .i64 e.nx, .int .i64 e.sq, .slice e.ap e.an e.ac, .slice e.rp e.rn e.rc]] (fun x h => ∃ i1 i2 i3 : Int, ∃ p4 : Option Addr, ∃ n5 n6 : Nat, ∃ i7 : Int, x = .tuple #[.agg #[.int .i64 i1, .int .i64 i2, .int .i64 i3, .slice p4 n5 n6], .int .i64 i7] ∧
            brB (i7 == (0 : Int)) (f36_3 w0 K a n c (IntKind.i64.wrap (((i : Nat) : Int) + 1)) y0 y1 y2 b y3 y4 i1 i2 i3 p4 n5 n6 h) (f36_3 w0 K a n c (IntKind.i64.wrap (((i : Nat) : Int) + 1)) y0 y1 y2 b y3 y4 v.lo v.nx v.sq a3 n3 c3 h)) h := by
          refine f34_spec (v := v) (add := e.add) (rem := e.rem) (fun a' n' c' h' s' x' => ⟨_, _, _, _, _, _, _, rfl, brB_of (fun e2 => ?_) fun e2 => ?_⟩) so sa sr
          all_goals rw [wrapS (by omega)]
          · have e' : (applyR v e.lo e.nx e.sq e.add e.rem).2 = 0 := by simpa using e2
            refine ih (i + 1) _ a' n' c' h' _ _ _ _ _ _ (by omega) (hx.trans x') s' ?_
            rw [he]; simp only [builtStep]; rw [if_pos (by rw [← hz, e1]), if_pos e']
          · have e' : ¬ (applyR v e.lo e.nx e.sq e.add e.rem).2 = 0 := by simpa using e2
            refine ih (i + 1) v a3 n3 c3 h' _ _ _ _ _ _ (by omega) (hx.trans x') (so.ext x') ?_
            rw [he]; simp only [builtStep]; rw [if_pos (by rw [← hz, e1]), if_neg e']
        have hat' : At w0 h (ad.add (Int.toNat ((i : Nat) : Int) * 5)) e.cells := by rw [Int.toNat_natCast]; exact hat
        exact ⟨ad, had, by omega, by omega, ⟨_, _, _, _, _, _, _, _, _, ⟨rfl, hat'⟩, dup call⟩, ⟨_, _, _, _, _, _, _, _, _, ⟨rfl, hat'⟩, call⟩⟩
      · rw [wrapS (by omega)]
        refine ih (i + 1) v a3 n3 c3 h _ _ _ _ _ _ (by omega) hx so ?_
        rw [he]; simp only [builtStep]; rw [if_neg (by rw [← hz, e1]; simp)]
    refine f36_3_in _ _ _ _ _ _ _ _ _ _ _ _ _ _ _ _ _ (brB_of (fun _ => brB_of (fun _ => ?_) fun q => by simp at q; omega) fun q => by simp at q; omega)
    refine f36_5_in _ _ _ _ _ _ _ _ _ _ _ _ _ _ _ _ _ ⟨ad, had, by omega, by omega, e.ap, e.an, e.ac, ?_, f29_spec sa ⟨_, rfl, brB_of (fun q => ⟨ad, had, by omega, by omega, e.rp, e.rn, e.rc, ?_, step _ ?_⟩) fun q => step _ ?_⟩⟩
    · rw [Int.toNat_natCast]; exact hat 3 _ rfl
    · rw [Int.toNat_natCast]; exact hat 4 _ rfl
    · rw [q, Bool.true_and]; exact decide_eq_decide.2 (by omega)
    · rw [q, Bool.false_and]

/-- built. -/
theorem f36_spec {w0 : World} {K : Value → AH → Prop} {h0 : AH} {a : Option Addr} {n c : Nat} {es : List Edi} (s : ES w0 h0 a n c es)
    (hk : ∀ a' n' c' h', TS w0 h' a' n' c' (builtR es).ts → Ext h0 h' none → K (.agg #[.int .i64 (builtR es).lo, .int .i64 (builtR es).nx, .int .i64 (builtR es).sq, .slice a' n' c']) h') : EvC Go.Proofs.Try.prog w0 36 #[.slice a n c] K h0 :=
  f36_go _ _ _ _ (f36_loop s hk (min n 12) 0 ⟨0, 0, 0, []⟩ none 0 0 h0 _ _ _ _ _ _ (by omega) (Ext.refl _ _) TS.none0 rfl)
def f37_J : Nat → List Nat × Nat := jOf [(4, [0, 2, 3, 4, 5, 6, 7, 8, 9, 10, 11, 12, 16, 17, 18, 19, 20, 21, 22, 23, 24, 25, 26, 27, 28, 29, 30, 31, 32, 33, 34, 35, 36, 37, 38, 39, 40, 41, 42, 43, 44, 45, 46, 47, 48, 49, 50, 51, 52, 53, 54, 55, 56, 57, 58, 59, 60, 61], 0), (8, [0, 2, 3, 4, 5, 6, 7, 8, 9, 10, 11, 12, 16, 17, 18, 19, 20, 21, 22, 23, 24, 25, 26, 27, 28, 29, 30, 31, 32, 33, 34, 35, 36, 37, 38, 39, 40, 41, 42, 43, 44, 45, 46, 47, 48, 49, 50, 51, 52, 53, 54, 55, 56, 57, 58, 59, 61], 0)]

def f37_4 (w0 : World) (K : Value → AH → Prop) (a1 : Option Go.Addr) (n1 : Nat) (c1 : Nat) (a13 : Option Go.Addr) (n13 : Nat) (c13 : Nat) (x14 : Int) (x15 : Int) (h : AH) : Prop :=
  ∀ j : Nat → Value, LPk Go.Proofs.Try.prog w0 (EvC Go.Proofs.Try.prog w0) f37_J 37 K 4 [.v (j 0), .v (.slice a1 n1 c1), .v (j 2), .v (j 3), .v (j 4), .v (j 5), .v (j 6), .v (j 7), .v (j 8), .v (j 9), .v (j 10), .v (j 11), .v (j 12), .v (.slice a13 n13 c13), .v (.int .i64 x14), .v (.int .i64 x15), .v (j 16), .v (j 17), .v (j 18), .v (j 19), .v (j 20), .v (j 21), .v (j 22), .v (j 23), .v (j 24), .v (j 25), .v (j 26), .v (j 27), .v (j 28), .v (j 29), .v (j 30), .v (j 31), .v (j 32), .v (j 33), .v (j 34), .v (j 35), .v (j 36), .v (j 37), .v (j 38), .v (j 39), .v (j 40), .v (j 41), .v (j 42), .v (j 43), .v (j 44), .v (j 45), .v (j 46), .v (j 47), .v (j 48), .v (j 49), .v (j 50), .v (j 51), .v (j 52), .v (j 53), .v (j 54), .v (j 55), .v (j 56), .v (j 57), .v (j 58), .v (j 59), .v (j 60), .v (j 61)] [] h

def f37_8 (w0 : World) (K : Value → AH → Prop) (a1 : Option Go.Addr) (n1 : Nat) (c1 : Nat) (a13 : Option Go.Addr) (n13 : Nat) (c13 : Nat) (x14 : Int) (x15 : Int) (x60 : Bool) (h : AH) : Prop :=
  ∀ j : Nat → Value, LPk Go.Proofs.Try.prog w0 (EvC Go.Proofs.Try.prog w0) f37_J 37 K 8 [.v (j 0), .v (.slice a1 n1 c1), .v (j 2), .v (j 3), .v (j 4), .v (j 5), .v (j 6), .v (j 7), .v (j 8), .v (j 9), .v (j 10), .v (j 11), .v (j 12), .v (.slice a13 n13 c13), .v (.int .i64 x14), .v (.int .i64 x15), .v (j 16), .v (j 17), .v (j 18), .v (j 19), .v (j 20), .v (j 21), .v (j 22), .v (j 23), .v (j 24), .v (j 25), .v (j 26), .v (j 27), .v (j 28), .v (j 29), .v (j 30), .v (j 31), .v (j 32), .v (j 33), .v (j 34), .v (j 35), .v (j 36), .v (j 37), .v (j 38), .v (j 39), .v (j 40), .v (j 41), .v (j 42), .v (j 43), .v (j 44), .v (j 45), .v (j 46), .v (j 47), .v (j 48), .v (j 49), .v (j 50), .v (j 51), .v (j 52), .v (j 53), .v (j 54), .v (j 55), .v (j 56), .v (j 57), .v (j 58), .v (j 59), .v (.bool x60), .v (j 61)] [] h

theorem f37_4_in {w0 : World} {K : Value → AH → Prop} (a1 : Option Go.Addr) (n1 : Nat) (c1 : Nat) (a13 : Option Go.Addr) (n13 : Nat) (c13 : Nat) (x14 : Int) (x15 : Int) (h : AH)
  (hv : (brB (decide ((x15 < x14))) (∃ a'0 : Go.Addr, ((a13 = (some a'0)) ∧ (((0 : Int) ≤ x15) ∧ ((x15 < ((n13 : Nat) : Int)) ∧ (∃ i'1 : Int, (∃ i'2 : Int, (∃ i'3 : Int, (∃ p'4 : Option Go.Addr, (∃ n'5 : Nat, (∃ n'6 : Nat, (∃ p'7 : Option Go.Addr, (∃ n'8 : Nat, (∃ n'9 : Nat, ((((Array.size #[(Go.Value.int .i64 i'1), (Go.Value.int .i64 i'2), (Go.Value.int .i64 i'3), (Go.Value.slice p'4 n'5 n'6), (Go.Value.slice p'7 n'8 n'9)]) = 5) ∧ (At w0 h (Go.Addr.add a'0 ((Int.toNat x15) * 5)) [(Go.Value.int .i64 i'1), (Go.Value.int .i64 i'2), (Go.Value.int .i64 i'3), (Go.Value.slice p'4 n'5 n'6), (Go.Value.slice p'7 n'8 n'9)])) ∧ (∃ a'10 : Go.Addr, ((a1 = (some a'10)) ∧ (((0 : Int) ≤ x15) ∧ ((x15 < ((n1 : Nat) : Int)) ∧ (∃ i'11 : Int, (∃ i'12 : Int, (∃ i'13 : Int, (∃ p'14 : Option Go.Addr, (∃ n'15 : Nat, (∃ n'16 : Nat, (∃ p'17 : Option Go.Addr, (∃ n'18 : Nat, (∃ n'19 : Nat, ((((Array.size #[(Go.Value.int .i64 i'11), (Go.Value.int .i64 i'12), (Go.Value.int .i64 i'13), (Go.Value.slice p'14 n'15 n'16), (Go.Value.slice p'17 n'18 n'19)]) = 5) ∧ (At w0 h (Go.Addr.add a'10 ((Int.toNat x15) * 5)) [(Go.Value.int .i64 i'11), (Go.Value.int .i64 i'12), (Go.Value.int .i64 i'13), (Go.Value.slice p'14 n'15 n'16), (Go.Value.slice p'17 n'18 n'19)])) ∧ (brB (i'1 != i'11) (f37_8 w0 K a1 n1 c1 a13 n13 c13 x14 x15 true h) (brB (i'2 != i'12) (f37_8 w0 K a1 n1 c1 a13 n13 c13 x14 x15 true h) (brB (i'3 != i'13) (f37_8 w0 K a1 n1 c1 a13 n13 c13 x14 x15 true h) (rowsOf w0 h 1 p'4 n'5 (fun ys'20 => (∃ s'21 : ByteArray, ((ys'20 = (Go.G.intsOf s'21)) ∧ (rowsOf w0 h 1 p'14 n'15 (fun ys'22 => (∃ s'23 : ByteArray, ((ys'22 = (Go.G.intsOf s'23)) ∧ (brB (!(decide ((s'21 = s'23)))) (f37_8 w0 K a1 n1 c1 a13 n13 c13 x14 x15 true h) (rowsOf w0 h 1 p'7 n'8 (fun ys'24 => (∃ s'25 : ByteArray, ((ys'24 = (Go.G.intsOf s'25)) ∧ (rowsOf w0 h 1 p'17 n'18 (fun ys'26 => (∃ s'27 : ByteArray, ((ys'26 = (Go.G.intsOf s'27)) ∧ (f37_8 w0 K a1 n1 c1 a13 n13 c13 x14 x15 (!(decide ((s'25 = s'27)))) h))))))))))))))))))))))))))))))))))))))))))))))))) (K (Go.Value.bool true) h))) :
  f37_4 w0 K a1 n1 c1 a13 n13 c13 x14 x15 h := fun j => LP_intro (P := Go.Proofs.Try.prog) (Eq.mp (by kernel_rfl) hv)

theorem f37_8_in {w0 : World} {K : Value → AH → Prop} (a1 : Option Go.Addr) (n1 : Nat) (c1 : Nat) (a13 : Option Go.Addr) (n13 : Nat) (c13 : Nat) (x14 : Int) (x15 : Int) (x60 : Bool) (h : AH)
  (hv : (brB x60 (K (Go.Value.bool false) h) (f37_4 w0 K a1 n1 c1 a13 n13 c13 x14 (Go.IntKind.wrap .i64 (x15 + (1 : Int))) h))) :
  f37_8 w0 K a1 n1 c1 a13 n13 c13 x14 x15 x60 h := fun j => LP_intro (P := Go.Proofs.Try.prog) (Eq.mp (by kernel_rfl) hv)

theorem f37_go {w0 : World} {K : Value → AH → Prop} (a0 : Option Go.Addr) (n0 : Nat) (c0 : Nat) (a1 : Option Go.Addr) (n1 : Nat) (c1 : Nat) (h : AH)
  (hv : (brB (((n0 : Nat) : Int) != ((n1 : Nat) : Int)) (K (Go.Value.bool false) h) (f37_4 w0 K a1 n1 c1 a0 n0 c0 ((n0 : Nat) : Int) (0 : Int) h))) :
  EvC Go.Proofs.Try.prog w0 37 ([(.slice a0 n0 c0), (.slice a1 n1 c1)]).toArray K h := EvC_intro (P := Go.Proofs.Try.prog) f37_J (Eq.mp (by kernel_rfl) hv)
section
variable {w0 : World} {K : Value → AH → Prop} {h : AH} {a b : Option Addr} {n c m d : Nat} {us ws : List Tab}

theorem f37_4_ok (s : TS w0 h a n c us) (r : TS w0 h b m d ws) (hd0 : us.map Tab.dat = ws.map Tab.dat) (hk : K (.bool true) h) :
    ∀ (rest : List Tab) (i : Nat), us.drop i = rest → i ≤ n → f37_4 w0 K b m d a n c ((n : Nat) : Int) ((i : Nat) : Int) h := by
  have hl := s.len
  have hl2 := r.len
  have hsm := s.sm
  have hlen := congrArg List.length hd0
  simp only [List.length_map] at hlen
  intro rest
  induction rest with
  | nil =>
    intro i hd hi
    have := drop_done hd
    exact f37_4_in _ _ _ _ _ _ _ _ _ (brB_of (fun q => by simp at q; omega) fun _ => hk)
  | cons t rs ih =>
    intro i hd hi
    obtain ⟨hget, hd', hlt⟩ := drop_step hd
    have hget2 : ws[i]? = some ws[i] := List.getElem?_eq_getElem (by omega)
    generalize ws[i] = u at hget2
    have hdt : t.dat = u.dat := by
      have h1 : (us.map Tab.dat)[i]? = some t.dat := by rw [List.getElem?_map, hget]; rfl
      have h2 : (ws.map Tab.dat)[i]? = some u.dat := by rw [List.getElem?_map, hget2]; rfl
      rw [hd0, h2] at h1
      injection h1 with h1
      exact h1.symm
    obtain ⟨g1, g2, g3, g4, g5⟩ := dat_ok hdt
    have ot := s.ok t (List.mem_of_getElem? hget)
    have ou := r.ok u (List.mem_of_getElem? hget2)
    have fin : ∀ z : Bool, z = false → f37_8 w0 K b m d a n c ((n : Nat) : Int) ((i : Nat) : Int) z h := fun z hz => by
      refine f37_8_in _ _ _ _ _ _ _ _ _ _ (brB_of (fun e => by rw [hz] at e; cases e) fun _ => ?_)
      rw [wrapS (by omega)]
      exact ih (i + 1) hd' (by omega)
    refine f37_4_in _ _ _ _ _ _ _ _ _ (brB_of (fun _ => tabLoad s.rs.rd hl hget (tabLoad r.rs.rd hl2 hget2 ?_)) fun q => by simp at q; omega)
    refine brB_of (fun e => by rw [g1] at e; simp at e) fun _ => brB_of (fun e => by rw [g2] at e; simp at e) fun _ => brB_of (fun e => by rw [g3] at e; simp at e) fun _ => ?_
    refine rows8 ot.lb.rd ot.ln (rows8 ou.lb.rd ou.ln (brB_of (fun e => by rw [g4] at e; simp at e) fun _ => rows8 ot.mb.rd ot.mn (rows8 ou.mb.rd ou.mn (fin _ ?_))))
    rw [g5]; simp

/-- ref SameTables, of the same. -/
theorem f37_spec (s : TS w0 h a n c us) (r : TS w0 h b m d ws) (hd0 : us.map Tab.dat = ws.map Tab.dat) (hk : K (.bool true) h) : EvC Go.Proofs.Try.prog w0 37 #[.slice a n c, .slice b m d] K h := by
  have hlen := congrArg List.length hd0
  simp only [List.length_map] at hlen
  have := s.len
  have := r.len
  exact f37_go _ _ _ _ _ _ _ (brB_of (fun q => by simp at q; omega) fun _ => f37_4_ok s r hd0 hk us 0 rfl (by omega))
end
theorem ints_of4 {W : World} {cs : List Value} (h : OkT Go.Proofs.Try.prog W 4 22 cs) : ∃ (a : Option Addr) (n c : Nat) (l : List Int), cs = [.slice a n c] ∧ ∀ h, IS W h a n c l := by
  obtain ⟨a, n, c, l, h1, h2, h3, h4, h5, h6⟩ := h.slice (e := 2) (k := 1) (by kernel_rfl) (by kernel_rfl) (enc := fun x : Int => [.int .i64 x]) (Q := fun x => -9223372036854775808 ≤ x ∧ x ≤ 9223372036854775807) (fun _ => rfl) fun ys hy _ => by
    obtain ⟨x, rfl, hw⟩ := hy.int (k := .i64) (by kernel_rfl)
    exact ⟨x, rfl, wf64 hw⟩
  have h7 : Go.Proofs.Try.prog.bytesOf 2 = 8 := by kernel_rfl
  rw [h7] at h4
  have h8 : ints l = l.flatMap fun x : Int => [Value.int .i64 x] := by
    clear h2 h5 h6
    induction l with
    | nil => rfl
    | cons b l ih => rw [List.flatMap_cons, ← ih]; rfl
  exact ⟨a, n, c, l, h1, fun h => ⟨by rw [h8]; exact h5.rs h, h2, h3, by omega, h6⟩⟩

theorem edit_ed {W : World} {cs : List Value} (h : OkT Go.Proofs.Try.prog W 5 51 cs) : ∃ e : Edi, cs = e.cells ∧ ∀ h, TS W h e.ap e.an e.ac e.add ∧ IS W h e.rp e.rn e.rc e.rem := by
  have hl := h.cells (k := 5) (by kernel_rfl) (by kernel_rfl)
  obtain ⟨x0, e0, w0⟩ := (h.field (i := 0) (ty := 2) (off := 0) (k := 1) (by kernel_rfl) (by kernel_rfl)).int (k := .i64) (by kernel_rfl)
  obtain ⟨x1, e1, w1⟩ := (h.field (i := 1) (ty := 2) (off := 1) (k := 1) (by kernel_rfl) (by kernel_rfl)).int (k := .i64) (by kernel_rfl)
  obtain ⟨x2, e2, w2⟩ := (h.field (i := 2) (ty := 2) (off := 2) (k := 1) (by kernel_rfl) (by kernel_rfl)).int (k := .i64) (by kernel_rfl)
  obtain ⟨a, n, c, ts, e3, hts⟩ := tabs_of (h.field (i := 3) (ty := 30) (off := 3) (k := 1) (by kernel_rfl) (by kernel_rfl))
  have hr := h.field (i := 4) (ty := 22) (off := 4) (k := 1) (by kernel_rfl) (by kernel_rfl)
  obtain ⟨b, m, d, l, e4, hl4⟩ := ints_of4 hr
  refine ⟨⟨x0, x1, x2, a, n, c, b, m, d, ts, l⟩, ?_, fun h => ⟨hts h, hl4 h⟩⟩
  match cs, hl with
  | [y0, y1, y2, y3, y4], _ =>
    simp at e0 e1 e2 e3 e4
    rw [e0, e1, e2, e3, e4]
    rfl
theorem edits_of {W : World} {cs : List Value} (h : OkT Go.Proofs.Try.prog W 6 57 cs) : ∃ (a : Option Addr) (n c : Nat) (es : List Edi), cs = [.slice a n c] ∧ ∀ h, ES W h a n c es := by
  obtain ⟨a, n, c, l, h1, h2, h3, h4, h5, h6⟩ := h.slice (e := 51) (k := 5) (by kernel_rfl) (by kernel_rfl) (enc := Edi.cells) (Q := fun e => ∀ h, TS W h e.ap e.an e.ac e.add ∧ IS W h e.rp e.rn e.rc e.rem) (fun _ => rfl) fun ys hy _ => edit_ed hy
  have h7 : Go.Proofs.Try.prog.bytesOf 51 = 72 := by kernel_rfl
  rw [h7] at h4
  exact ⟨a, n, c, l, h1, fun h => ⟨h5.rs h, h2, h3, by omega, fun e he => (h6 e he h).1, fun e he => (h6 e he h).2⟩⟩
end Go.G.Ytpnhlgghpciofaa
