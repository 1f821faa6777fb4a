/- light, next, may. -/
import Derived.Test.YtlghmjehibikeaaWK
import Derived.Test.YtlghmjehibikeaaLU
import Derived.Test.YtlghmjehibikeaaProg
set_option maxRecDepth 100000
namespace Go.G.Ytlghmjehibikeaa
open Go.RowKit
def f19_J : Nat → List Nat × Nat := jOf [(3, [0, 1, 2, 4, 5, 6, 10, 11, 12, 13, 14, 15, 16, 17, 18, 19, 20, 21, 22, 23, 24, 25, 26, 27, 28, 29, 30, 31, 32, 33, 34, 35, 36, 37, 38, 39], 0), (6, [0, 1, 2, 4, 6, 10, 11, 12, 13, 14, 15, 16, 17, 18, 19, 20, 21, 22, 23, 24, 25, 26, 28, 29, 30, 31, 32, 33, 34, 35, 36, 37, 38, 39], 1), (7, [0, 1, 2, 4, 6, 10, 11, 12, 13, 14, 15, 16, 17, 18, 19, 20, 21, 22, 23, 24, 25, 26, 27, 28, 29, 30, 31, 32, 33, 34, 35, 36, 37, 38, 39], 1)]

def f19_3 (w0 : World) (K : Value → AH → Prop) (x3 : Int) (a7 : Option Go.Addr) (n7 : Nat) (c7 : Nat) (x8 : Int) (x9 : Int) (h : AH) : Prop :=
  ∀ j : Nat → Value, LPk Go.Proofs.Try.prog w0 (EvC Go.Proofs.Try.prog w0) f19_J 19 K 3 [.v (j 0), .v (j 1), .v (j 2), .v (.int .i64 x3), .v (j 4), .v (j 5), .v (j 6), .v (.slice a7 n7 c7), .v (.int .i64 x8), .v (.int .i64 x9), .v (j 10), .v (j 11), .v (j 12), .v (j 13), .v (j 14), .v (j 15), .v (j 16), .v (j 17), .v (j 18), .v (j 19), .v (j 20), .v (j 21), .v (j 22), .v (j 23), .v (j 24), .v (j 25), .v (j 26), .v (j 27), .v (j 28), .v (j 29), .v (j 30), .v (j 31), .v (j 32), .v (j 33), .v (j 34), .v (j 35), .v (j 36), .v (j 37), .v (j 38), .v (j 39)] [] h

def f19_6 (w0 : World) (K : Value → AH → Prop) (x3 : Int) (a7 : Option Go.Addr) (n7 : Nat) (c7 : Nat) (x8 : Int) (x9 : Int) (x27 : Bool) (ab0_0 : Option Go.Addr) (nb0_0 : Nat) (cb0_0 : Nat) (xb0_1 : Bool) (xb0_2 : Int) (ab0_3 : Option Go.Addr) (nb0_3 : Nat) (cb0_3 : Nat) (h : AH) : Prop :=
  ∀ j : Nat → Value, LPk Go.Proofs.Try.prog w0 (EvC Go.Proofs.Try.prog w0) f19_J 19 K 6 [.v (j 0), .v (j 1), .v (j 2), .v (.int .i64 x3), .v (j 4), .bp 0 0, .v (j 6), .v (.slice a7 n7 c7), .v (.int .i64 x8), .v (.int .i64 x9), .v (j 10), .v (j 11), .v (j 12), .v (j 13), .v (j 14), .v (j 15), .v (j 16), .v (j 17), .v (j 18), .v (j 19), .v (j 20), .v (j 21), .v (j 22), .v (j 23), .v (j 24), .v (j 25), .v (j 26), .v (.bool x27), .v (j 28), .v (j 29), .v (j 30), .v (j 31), .v (j 32), .v (j 33), .v (j 34), .v (j 35), .v (j 36), .v (j 37), .v (j 38), .v (j 39)] [some [(.slice ab0_0 nb0_0 cb0_0), (.bool xb0_1), (.int .i64 xb0_2), (.slice ab0_3 nb0_3 cb0_3)]] h

def f19_7 (w0 : World) (K : Value → AH → Prop) (x3 : Int) (a7 : Option Go.Addr) (n7 : Nat) (c7 : Nat) (x8 : Int) (x9 : Int) (ab0_0 : Option Go.Addr) (nb0_0 : Nat) (cb0_0 : Nat) (xb0_1 : Bool) (xb0_2 : Int) (ab0_3 : Option Go.Addr) (nb0_3 : Nat) (cb0_3 : Nat) (h : AH) : Prop :=
  ∀ j : Nat → Value, LPk Go.Proofs.Try.prog w0 (EvC Go.Proofs.Try.prog w0) f19_J 19 K 7 [.v (j 0), .v (j 1), .v (j 2), .v (.int .i64 x3), .v (j 4), .bp 0 0, .v (j 6), .v (.slice a7 n7 c7), .v (.int .i64 x8), .v (.int .i64 x9), .v (j 10), .v (j 11), .v (j 12), .v (j 13), .v (j 14), .v (j 15), .v (j 16), .v (j 17), .v (j 18), .v (j 19), .v (j 20), .v (j 21), .v (j 22), .v (j 23), .v (j 24), .v (j 25), .v (j 26), .v (j 27), .v (j 28), .v (j 29), .v (j 30), .v (j 31), .v (j 32), .v (j 33), .v (j 34), .v (j 35), .v (j 36), .v (j 37), .v (j 38), .v (j 39)] [some [(.slice ab0_0 nb0_0 cb0_0), (.bool xb0_1), (.int .i64 xb0_2), (.slice ab0_3 nb0_3 cb0_3)]] h

theorem f19_3_in {w0 : World} {K : Value → AH → Prop} (x3 : Int) (a7 : Option Go.Addr) (n7 : Nat) (c7 : Nat) (x8 : Int) (x9 : Int) (h : AH)
  (hv : (brB (decide ((x9 < x8))) (∃ a'0 : Go.Addr, ((a7 = (some a'0)) ∧ (((0 : Int) ≤ x9) ∧ ((x9 < ((n7 : Nat) : Int)) ∧ (∃ p'1 : Option Go.Addr, (∃ n'2 : Nat, (∃ n'3 : Nat, (∃ t'4 : Bool, (∃ i'5 : Int, (∃ p'6 : Option Go.Addr, (∃ n'7 : Nat, (∃ n'8 : Nat, ((((Array.size #[(Go.Value.slice p'1 n'2 n'3), (Go.Value.bool t'4), (Go.Value.int .i64 i'5), (Go.Value.slice p'6 n'7 n'8)]) = 4) ∧ (At w0 h (Go.Addr.add a'0 ((Int.toNat x9) * 4)) [(Go.Value.slice p'1 n'2 n'3), (Go.Value.bool t'4), (Go.Value.int .i64 i'5), (Go.Value.slice p'6 n'7 n'8)])) ∧ (brB (decide (((410 : Int) ≤ x9))) (f19_6 w0 K x3 a7 n7 c7 x8 x9 true p'1 n'2 n'3 t'4 i'5 p'6 n'7 n'8 h) (brB (decide (((600 : Int) < ((n'2 : Nat) : Int)))) (f19_6 w0 K x3 a7 n7 c7 x8 x9 true p'1 n'2 n'3 t'4 i'5 p'6 n'7 n'8 h) (f19_6 w0 K x3 a7 n7 c7 x8 x9 (decide (((2100 : Int) < ((n'7 : Nat) : Int)))) p'1 n'2 n'3 t'4 i'5 p'6 n'7 n'8 h)))))))))))))))) (K (Go.Value.bool true) h))) :
  f19_3 w0 K x3 a7 n7 c7 x8 x9 h := fun j => LP_intro (P := Go.Proofs.Try.prog) (Eq.mp (by kernel_rfl) hv)

theorem f19_6_in {w0 : World} {K : Value → AH → Prop} (x3 : Int) (a7 : Option Go.Addr) (n7 : Nat) (c7 : Nat) (x8 : Int) (x9 : Int) (x27 : Bool) (ab0_0 : Option Go.Addr) (nb0_0 : Nat) (cb0_0 : Nat) (xb0_1 : Bool) (xb0_2 : Int) (ab0_3 : Option Go.Addr) (nb0_3 : Nat) (cb0_3 : Nat) (h : AH)
  (hv : (brB x27 (K (Go.Value.bool false) h) (f19_7 w0 K x3 a7 n7 c7 x8 x9 ab0_0 nb0_0 cb0_0 xb0_1 xb0_2 ab0_3 nb0_3 cb0_3 h))) :
  f19_6 w0 K x3 a7 n7 c7 x8 x9 x27 ab0_0 nb0_0 cb0_0 xb0_1 xb0_2 ab0_3 nb0_3 cb0_3 h := fun j => LP_intro (P := Go.Proofs.Try.prog) (Eq.mp (by kernel_rfl) hv)

theorem f19_7_in {w0 : World} {K : Value → AH → Prop} (x3 : Int) (a7 : Option Go.Addr) (n7 : Nat) (c7 : Nat) (x8 : Int) (x9 : Int) (ab0_0 : Option Go.Addr) (nb0_0 : Nat) (cb0_0 : Nat) (xb0_1 : Bool) (xb0_2 : Int) (ab0_3 : Option Go.Addr) (nb0_3 : Nat) (cb0_3 : Nat) (h : AH)
  (hv : (brB (decide (((40000 : Int) < (Go.IntKind.wrap .i64 (x3 + (Go.IntKind.wrap .i64 (((nb0_0 : Nat) : Int) + ((nb0_3 : Nat) : Int)))))))) (K (Go.Value.bool false) h) (f19_3 w0 K (Go.IntKind.wrap .i64 (x3 + (Go.IntKind.wrap .i64 (((nb0_0 : Nat) : Int) + ((nb0_3 : Nat) : Int))))) a7 n7 c7 x8 (Go.IntKind.wrap .i64 (x9 + (1 : Int))) h))) :
  f19_7 w0 K x3 a7 n7 c7 x8 x9 ab0_0 nb0_0 cb0_0 xb0_1 xb0_2 ab0_3 nb0_3 cb0_3 h := fun j => LP_intro (P := Go.Proofs.Try.prog) (Eq.mp (by kernel_rfl) hv)

theorem f19_go {w0 : World} {K : Value → AH → Prop} (x0_0 : Int) (a0_1 : Option Go.Addr) (n0_1 : Nat) (c0_1 : Nat) (h : AH)
  (hv : (f19_3 w0 K (0 : Int) a0_1 n0_1 c0_1 ((n0_1 : Nat) : Int) (0 : Int) h)) :
  EvC Go.Proofs.Try.prog w0 19 ([(.agg #[(.int .i64 x0_0), (.slice a0_1 n0_1 c0_1)])]).toArray K h := EvC_intro (P := Go.Proofs.Try.prog) f19_J (Eq.mp (by kernel_rfl) hv)
def f20_J : Nat → List Nat × Nat := jOf [(2, [0, 2, 4, 5, 7, 8, 9, 10, 11, 12, 13, 15, 16, 17, 18, 19, 20, 21], 2)]

def f20_2 (w0 : World) (K : Value → AH → Prop) (x1 : Option Go.Addr) (x14 : Bool) (xb0_0 : Int) (ab0_1 : Option Go.Addr) (nb0_1 : Nat) (cb0_1 : Nat) (xb1_0 : Int) (ab1_1 : Option Go.Addr) (nb1_1 : Nat) (cb1_1 : Nat) (h : AH) : Prop :=
  ∀ j : Nat → Value, LPk Go.Proofs.Try.prog w0 (EvC Go.Proofs.Try.prog w0) f20_J 20 K 2 [.v (j 0), .v (.pointer x1), .v (j 2), .bp 0 0, .v (j 4), .v (j 5), .bp 1 0, .v (j 7), .v (j 8), .v (j 9), .v (j 10), .v (j 11), .v (j 12), .v (j 13), .v (.bool x14), .v (j 15), .v (j 16), .v (j 17), .v (j 18), .v (j 19), .v (j 20), .v (j 21)] [some [(.int .i64 xb0_0), (.slice ab0_1 nb0_1 cb0_1)], some [(.int .i64 xb1_0), (.slice ab1_1 nb1_1 cb1_1)]] h

theorem f20_2_in {w0 : World} {K : Value → AH → Prop} (x1 : Option Go.Addr) (x14 : Bool) (xb0_0 : Int) (ab0_1 : Option Go.Addr) (nb0_1 : Nat) (cb0_1 : Nat) (xb1_0 : Int) (ab1_1 : Option Go.Addr) (nb1_1 : Nat) (cb1_1 : Nat) (h : AH)
  (hv : (brB x14 (∃ a'2 : Go.Addr, ((x1 = (some a'2)) ∧ (∃ i'3 : Int, (((Go.G.cellA w0 h (Go.Addr.add a'2 1)) = (some (Go.Value.int .i64 i'3))) ∧ (K (Go.Value.agg #[(Go.Value.int .i64 (Go.IntKind.wrap .i64 (i'3 + (1 : Int)))), (Go.Value.slice ab0_1 nb0_1 cb0_1)]) h))))) (K (Go.Value.agg #[(Go.Value.int .i64 xb0_0), (Go.Value.slice ab0_1 nb0_1 cb0_1)]) h))) :
  f20_2 w0 K x1 x14 xb0_0 ab0_1 nb0_1 cb0_1 xb1_0 ab1_1 nb1_1 cb1_1 h := fun j => LP_intro (P := Go.Proofs.Try.prog) (Eq.mp (by kernel_rfl) hv)

theorem f20_go {w0 : World} {K : Value → AH → Prop} (x0_0 : Int) (a0_1 : Option Go.Addr) (n0_1 : Nat) (c0_1 : Nat) (x1 : Option Go.Addr) (x2 : Bool) (h : AH)
  (hv : (brB x2 (∃ a'0 : Go.Addr, ((x1 = (some a'0)) ∧ (∃ i'1 : Int, (((Go.G.cellA w0 h (Go.Addr.add a'0 1)) = (some (Go.Value.int .i64 i'1))) ∧ (f20_2 w0 K x1 (decide (((0 : Int) < i'1))) x0_0 a0_1 n0_1 c0_1 (0 : Int) none 0 0 h))))) (f20_2 w0 K x1 false x0_0 a0_1 n0_1 c0_1 (0 : Int) none 0 0 h))) :
  EvC Go.Proofs.Try.prog w0 20 ([(.agg #[(.int .i64 x0_0), (.slice a0_1 n0_1 c0_1)]), (.pointer x1), (.bool x2)]).toArray K h := EvC_intro (P := Go.Proofs.Try.prog) f20_J (Eq.mp (by kernel_rfl) hv)
def f21_J : Nat → List Nat × Nat := jOf [(4, [1, 2, 3, 4, 5, 6, 7, 8, 10, 11, 12, 13, 14, 15, 16, 17, 18, 19, 20, 21, 22, 23, 24, 25, 26, 27, 28, 29, 30, 31, 32, 33, 34], 0)]

def f21_4 (w0 : World) (K : Value → AH → Prop) (x0 : Option Go.Addr) (x9 : Bool) (h : AH) : Prop :=
  ∀ j : Nat → Value, LPk Go.Proofs.Try.prog w0 (EvC Go.Proofs.Try.prog w0) f21_J 21 K 4 [.v (.pointer x0), .v (j 1), .v (j 2), .v (j 3), .v (j 4), .v (j 5), .v (j 6), .v (j 7), .v (j 8), .v (.bool x9), .v (j 10), .v (j 11), .v (j 12), .v (j 13), .v (j 14), .v (j 15), .v (j 16), .v (j 17), .v (j 18), .v (j 19), .v (j 20), .v (j 21), .v (j 22), .v (j 23), .v (j 24), .v (j 25), .v (j 26), .v (j 27), .v (j 28), .v (j 29), .v (j 30), .v (j 31), .v (j 32), .v (j 33), .v (j 34)] [] h

theorem f21_4_in {w0 : World} {K : Value → AH → Prop} (x0 : Option Go.Addr) (x9 : Bool) (h : AH)
  (hv : (brB x9 (K (Go.Value.int .i64 (11 : Int)) h) (∃ a'7 : Go.Addr, ((x0 = (some a'7)) ∧ (∃ t'8 : Bool, (((Go.G.cellA w0 h (Go.Addr.add a'7 3)) = (some (Go.Value.bool t'8))) ∧ (brB t'8 (K (Go.Value.int .i64 (16 : Int)) h) (∃ a'9 : Go.Addr, ((x0 = (some a'9)) ∧ (∃ t'10 : Bool, (((Go.G.cellA w0 h (Go.Addr.add a'9 2)) = (some (Go.Value.bool t'10))) ∧ (brB t'10 (K (Go.Value.int .i64 (12 : Int)) h) (K (Go.Value.int .i64 (0 : Int)) h))))))))))))) :
  f21_4 w0 K x0 x9 h := fun j => LP_intro (P := Go.Proofs.Try.prog) (Eq.mp (by kernel_rfl) hv)

theorem f21_go {w0 : World} {K : Value → AH → Prop} (x0 : Option Go.Addr) (x1_0 : Int) (a1_1 : Option Go.Addr) (n1_1 : Nat) (c1_1 : Nat) (h : AH)
  (hv : (EvC Go.Proofs.Try.prog w0 39 #[(Go.Value.agg #[(Go.Value.int .i64 x1_0), (Go.Value.slice a1_1 n1_1 c1_1)])] (fun x'0 h'1 => (∃ i'2 : Int, ((x'0 = (Go.Value.int .i64 i'2)) ∧ (brB (i'2 != (0 : Int)) (K (Go.Value.int .i64 (1 : Int)) h'1) (∃ a'3 : Go.Addr, ((x0 = (some a'3)) ∧ (∃ i'4 : Int, (((Go.G.cellA w0 h'1 (Go.Addr.add a'3 1)) = (some (Go.Value.int .i64 i'4))) ∧ (brB (decide (((0 : Int) < i'4))) (∃ a'5 : Go.Addr, ((x0 = (some a'5)) ∧ (∃ i'6 : Int, (((Go.G.cellA w0 h'1 (Go.Addr.add a'5 1)) = (some (Go.Value.int .i64 i'6))) ∧ (f21_4 w0 K x0 (x1_0 != (Go.IntKind.wrap .i64 (i'6 + (1 : Int)))) h'1))))) (f21_4 w0 K x0 false h'1)))))))))) h)) :
  EvC Go.Proofs.Try.prog w0 21 ([(.pointer x0), (.agg #[(.int .i64 x1_0), (.slice a1_1 n1_1 c1_1)])]).toArray K h := EvC_intro (P := Go.Proofs.Try.prog) f21_J (Eq.mp (by kernel_rfl) hv)
/-! ### WalPlays -/
def kvS : List Op → Nat
  | [] => 0
  | o :: r => o.key.length + o.val.length + kvS r
theorem kv_enc : ∀ (l : List Op), (∀ o ∈ l, mayO o = 0) → (l.flatMap encO).length ≤ kvS l + 31 * l.length
  | [], _ => by simp [kvS]
  | o :: r, h => by
    have ih := kv_enc r fun x hx => h x (List.mem_cons_of_mem _ hx)
    obtain ⟨o1, o2, o3, o4, o5, o6⟩ := mayO_zero (h o (List.mem_cons_self ..))
    have kp := putV_len10 (n := o.key.length) (by omega)
    have tp := putV_len10 (n := o.til.toNat) (by omega)
    have vp := putV_len10 (n := o.val.length) (by omega)
    rw [List.flatMap_cons, List.length_append, List.length_cons]
    have : (encO o).length ≤ o.key.length + o.val.length + 31 := by unfold encO; split <;> simp <;> omega
    unfold kvS; omega
theorem light_len {seq : Int} {l : List Op} (hm : mayB seq l = 0) (hl : kvS l ≤ 40000) : (encB seq l).length ≤ 53000 ∧ (frameB (encB seq l)).length ≤ 54000 := by
  obtain ⟨h1, h2, h3, h4, h5⟩ := mayB_zero hm
  have p1 := putV_len10 (n := seq.toNat) (by omega)
  have p2 := putV_len10 (n := l.length) (by omega)
  have p3 := kv_enc l h5
  have e : (encB seq l).length ≤ 53000 := by unfold encB; rw [List.length_append, List.length_append]; omega
  have := frameB_len (encB seq l) (by omega)
  exact ⟨e, by omega⟩
section
variable {w0 : World} {K : Value → AH → Prop} {h : AH} {B : List (Nat × AB)}
/-- light. -/
theorem f19_spec {x : Int} {m : BaM} (r : m.Rok w0) (hf : K (.bool false) h) (ht : kvS (m.os.map OpM.o) ≤ 40000 → K (.bool true) h) : EvC Go.Proofs.Try.prog w0 19 #[.agg #[.int .i64 x, .slice m.a m.os.length m.c]] K h := by
  have ol := r.ol
  have loop : ∀ (rest : List OpM) (i : Nat) (n : Nat), m.os.drop i = rest → i ≤ m.os.length → n ≤ 40000 → n + kvS (rest.map OpM.o) = kvS (m.os.map OpM.o) → f19_3 w0 K ((n : Nat) : Int) m.a m.os.length m.c ((m.os.length : Nat) : Int) ((i : Nat) : Int) h := by
    intro rest
    induction rest with
    | nil =>
      intro i n hd hi hn hs
      have := drop_done hd
      exact f19_3_in _ _ _ _ _ _ _ (brB_of (fun q => by simp at q; omega) fun _ => ht (by simp [kvS] at hs; omega))
    | cons o rest ih =>
      intro i n hd hi hn hs
      obtain ⟨hget, hd', hlt⟩ := drop_step hd
      have ok := r.os o (List.mem_of_getElem? hget)
      have kl := ok.kl
      have vl := ok.vl
      obtain ⟨ad, had, hat⟩ := rowLoad (enc := OpM.cells) (k := 4) (fun _ => rfl) (by decide) (r.rd.rd h) hget
      have six : ∀ b : Bool, f19_6 w0 K ((n : Nat) : Int) m.a m.os.length m.c ((m.os.length : Nat) : Int) ((i : Nat) : Int) b o.ka o.o.key.length o.kc o.o.gone o.o.til o.va o.o.val.length o.vc h := fun b => by
        refine f19_6_in _ _ _ _ _ _ _ _ _ _ _ _ _ _ _ _ (brB_of (fun _ => hf) fun _ => f19_7_in _ _ _ _ _ _ _ _ _ _ _ _ _ _ _ ?_)
        rw [wrap64 (x := ((o.o.key.length : Nat) : Int) + ((o.o.val.length : Nat) : Int)) (by omega) (by omega), wrap64 (by omega) (by omega)]
        refine brB_of (fun _ => hf) fun q => ?_
        have := of_decide_eq_false q
        rw [wrapS (by omega), show ((n : Nat) : Int) + (((o.o.key.length : Nat) : Int) + ((o.o.val.length : Nat) : Int)) = ((n + (o.o.key.length + o.o.val.length) : Nat) : Int) by omega]
        refine ih (i + 1) _ hd' (by omega) (by omega) ?_
        have e5 : kvS ((o :: rest).map OpM.o) = o.o.key.length + o.o.val.length + kvS (rest.map OpM.o) := rfl
        rw [← hs, e5]; omega
      refine f19_3_in _ _ _ _ _ _ _ (brB_of (fun _ => ⟨ad, had, by omega, by omega, _, _, _, _, _, _, _, _, ⟨rfl, hat⟩, ?_⟩) fun q => by simp at q; omega)
      exact brB_of (fun _ => six _) fun _ => brB_of (fun _ => six _) fun _ => six _
  exact f19_go _ _ _ _ _ (loop m.os 0 0 rfl (Nat.zero_le _) (Nat.zero_le _) (Nat.zero_add _))
abbrev MdO (mb : Nat) (a : Option Addr) (n c : Nat) (last : Int) : Nat × AB := (mb, .cells [.slice a n c, .int .i64 last, .bool false, .bool false] 4)
/-- next. -/
theorem f20_spec {mb n c n' c' : Nat} {a a' : Option Addr} {last seq : Int} {t : Bool} (w : Own w0 h (MdO mb a n c last :: B)) (hl : 0 ≤ last ∧ last ≤ 4611686018427387904) (hk : K (.agg #[.int .i64 (if t = true ∧ 0 < last then last + 1 else seq), .slice a' n' c']) h) :
    EvC Go.Proofs.Try.prog w0 20 #[.agg #[.int .i64 seq, .slice a' n' c'], .pointer (some ⟨mb, 0, none⟩), .bool t] K h := by
  have c1 : cellA w0 h (Addr.add ⟨mb, 0, none⟩ 1) = some (.int .i64 last) := w.cell0 rfl
  refine f20_go _ _ _ _ _ _ _ (brB_of (fun q => ⟨_, rfl, _, c1, f20_2_in _ _ _ _ _ _ _ _ _ _ _ (brB_of (fun q2 => ⟨_, rfl, _, c1, ?_⟩) fun q2 => ?_)⟩) fun q => f20_2_in _ _ _ _ _ _ _ _ _ _ _ (brB_of (fun z => by cases z) fun _ => ?_))
  · rw [if_pos ⟨q, of_decide_eq_true q2⟩] at hk
    rw [wrap64 (by omega) (by omega)]; exact hk
  · rw [if_neg (fun z => of_decide_eq_false q2 z.2)] at hk; exact hk
  · rw [if_neg (fun z => by rw [z.1] at q; cases q)] at hk; exact hk
def wantW (last seq : Int) (ops : List Op) : Int := if mayB seq ops ≠ 0 then 1 else if 0 < last ∧ seq ≠ last + 1 then 11 else 0
/-- may. -/
theorem f21_spec {mb n c : Nat} {a : Option Addr} {last seq : Int} {m : BaM} (r : m.Rok w0) (w : Own w0 h (MdO mb a n c last :: B)) (hl : 0 ≤ last ∧ last ≤ 4611686018427387904) (hk : K (.int .i64 (wantW last seq (m.os.map OpM.o))) h) :
    EvC Go.Proofs.Try.prog w0 21 #[.pointer (some ⟨mb, 0, none⟩), .agg #[.int .i64 seq, .slice m.a m.os.length m.c]] K h := by
  have c1 : cellA w0 h (Addr.add ⟨mb, 0, none⟩ 1) = some (.int .i64 last) := w.cell0 rfl
  have c2 : cellA w0 h (Addr.add ⟨mb, 0, none⟩ 2) = some (.bool false) := w.cell0 rfl
  have c3 : cellA w0 h (Addr.add ⟨mb, 0, none⟩ 3) = some (.bool false) := w.cell0 rfl
  unfold wantW at hk
  refine f21_go _ _ _ _ _ _ (f39_spec (r.rd.rd h) ⟨_, rfl, brB_of (fun q => ?_) fun q => ?_⟩)
  · rw [if_pos (by simpa using q)] at hk; exact hk
  rw [if_neg (by simpa using q)] at hk
  have four : ∀ t : Bool, (t = true ↔ (0 < last ∧ seq ≠ last + 1)) → f21_4 w0 K (some ⟨mb, 0, none⟩) t h := fun t ht => by
    refine f21_4_in _ _ _ (brB_of (fun z => ?_) fun z => ⟨_, rfl, _, c3, brB_of (fun y => by cases y) fun _ => ⟨_, rfl, _, c2, brB_of (fun y => by cases y) fun _ => ?_⟩⟩)
    · rw [if_pos (ht.1 z)] at hk; exact hk
    · rw [if_neg (fun y => by rw [ht.2 y] at z; cases z)] at hk; exact hk
  refine ⟨_, rfl, _, c1, brB_of (fun z => ⟨_, rfl, _, c1, four _ ?_⟩) fun z => four _ ?_⟩
  · have := of_decide_eq_true z
    rw [wrap64 (by omega) (by omega)]
    simp [this]
  · have := of_decide_eq_false z
    simp; omega
end
end Go.G.Ytlghmjehibikeaa
