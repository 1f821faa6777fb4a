/- play, alter. -/
import Derived.Test.YtpjklfmfgmicaaaDI
import Derived.Test.YtpjklfmfgmicaaaProg
set_option maxRecDepth 100000
namespace Go.G.Ytpjklfmfgmicaaa
open Go.RowKit
def f55_J : Nat → List Nat × Nat := jOf [(3, [0, 3, 4, 5, 6, 7, 8, 9, 10, 11, 12, 13, 14, 15, 16, 17], 1)]

def f55_3 (w0 : World) (K : Value → AH → Prop) (x1 : Option Nat) (xb0_0 : ByteArray) (xb0_1 : ByteArray) (xb0_2 : Option Go.Addr) (h : AH) : Prop :=
  ∀ j : Nat → Value, LPk Go.Proofs.Try.prog w0 (EvC Go.Proofs.Try.prog w0) f55_J 55 K 3 [.v (j 0), .v (.map x1), .bp 0 0, .v (j 3), .v (j 4), .v (j 5), .v (j 6), .v (j 7), .v (j 8), .v (j 9), .v (j 10), .v (j 11), .v (j 12), .v (j 13), .v (j 14), .v (j 15), .v (j 16), .v (j 17)] [some [(.string xb0_0), (.string xb0_1), (.pointer xb0_2)]] h

theorem f55_3_in {w0 : World} {K : Value → AH → Prop} (x1 : Option Nat) (xb0_0 : ByteArray) (xb0_1 : ByteArray) (xb0_2 : Option Go.Addr) (h : AH)
  (hv : (brB (Option.isSome xb0_2) (((Go.G.plainKey Go.Proofs.Try.prog 65 (Go.Value.string xb0_1)) = true) ∧ (∃ n'2 : Nat, ((x1 = (some n'2)) ∧ (mapAt Go.Proofs.Try.prog w0 h (some n'2) 65 (fun es'3 => (K (Go.Value.tuple #[]) (Go.G.AH.putm h n'2 (Go.G.putM (Go.Value.string xb0_1) (Go.Value.pointer xb0_2) es'3)))))))) (K (Go.Value.tuple #[]) h))) :
  f55_3 w0 K x1 xb0_0 xb0_1 xb0_2 h := fun j => LP_intro (P := Go.Proofs.Try.prog) (Eq.mp (by kernel_rfl) hv)

theorem f55_go {w0 : World} {K : Value → AH → Prop} (x0_0 : ByteArray) (x0_1 : ByteArray) (x0_2 : Option Go.Addr) (x1 : Option Nat) (h : AH)
  (hv : (brB (!(decide ((x0_0 = (ByteArray.mk #[]))))) (((Go.G.plainKey Go.Proofs.Try.prog 65 (Go.Value.string x0_0)) = true) ∧ (mapAt Go.Proofs.Try.prog w0 h x1 65 (fun es'0 => (((x1 = none) → (f55_3 w0 K x1 x0_0 x0_1 x0_2 h)) ∧ (∀ n'1 : Nat, ((x1 = (some n'1)) → (f55_3 w0 K x1 x0_0 x0_1 x0_2 (Go.G.AH.putm h n'1 (Go.G.delM (Go.Value.string x0_0) es'0))))))))) (f55_3 w0 K x1 x0_0 x0_1 x0_2 h))) :
  EvC Go.Proofs.Try.prog w0 55 ([(.agg #[(.string x0_0), (.string x0_1), (.pointer x0_2)]), (.map x1)]).toArray K h := EvC_intro (P := Go.Proofs.Try.prog) f55_J (Eq.mp (by kernel_rfl) hv)
def f44_J : Nat → List Nat × Nat := jOf []



theorem f44_go {w0 : World} {K : Value → AH → Prop} (x0 : Option Go.Addr) (x1_0 : ByteArray) (x1_1 : ByteArray) (x1_2 : Option Go.Addr) (h : AH)
  (hv : (∃ a'0 : Go.Addr, ((x0 = (some a'0)) ∧ ((∃ p'1 : Option Go.Addr, (∃ n'2 : Nat, (∃ n'3 : Nat, (((Go.G.cellA w0 h (Go.Addr.add a'0 3)) = (some (Go.Value.slice p'1 n'2 n'3))) ∧ (App w0 h 3 40 p'1 n'2 n'3 1 [(Go.Value.string x1_0), (Go.Value.string x1_1), (Go.Value.pointer x1_2)] (fun a'4 c'5 h'6 => (∃ a'7 : Go.Addr, ((x0 = (some a'7)) ∧ (∃ l'8 : List Go.Value, (∃ n'9 : Nat, (((Array.size (Go.World.heap w0)) ≤ (Go.Addr.block (Go.Addr.add a'7 3))) ∧ (((none : Option Nat) = none) ∧ (((h'6 (Go.Addr.block (Go.Addr.add a'7 3))) = (some (Go.G.AB.cells l'8 n'9))) ∧ ((((Go.Addr.off (Go.Addr.add a'7 3)) + (Array.size #[(Go.Value.slice a'4 (n'2 + 1) c'5)])) ≤ (List.length l'8)) ∧ (∃ a'10 : Go.Addr, ((x0 = (some a'10)) ∧ (∃ p'11 : Option Nat, (((Go.G.cellA w0 (Go.G.AH.put h'6 (Go.Addr.block (Go.Addr.add a'7 3)) (Go.G.AB.cells (Go.G.setCells l'8 (Go.Addr.off (Go.Addr.add a'7 3)) [(Go.Value.slice a'4 (n'2 + 1) c'5)]) n'9)) (Go.Addr.add a'10 1)) = (some (Go.Value.map p'11))) ∧ (EvC Go.Proofs.Try.prog w0 55 #[(Go.Value.agg #[(Go.Value.string x1_0), (Go.Value.string x1_1), (Go.Value.pointer x1_2)]), (Go.Value.map p'11)] (fun x'12 h'13 => ((x'12 = (Go.Value.tuple #[])) ∧ (K (Go.Value.tuple #[]) h'13))) (Go.G.AH.put h'6 (Go.Addr.block (Go.Addr.add a'7 3)) (Go.G.AB.cells (Go.G.setCells l'8 (Go.Addr.off (Go.Addr.add a'7 3)) [(Go.Value.slice a'4 (n'2 + 1) c'5)]) n'9))))))))))))))))))))) ∧ (∃ p'14 : Option Go.Addr, (∃ n'15 : Nat, (∃ n'16 : Nat, (((Go.G.cellA w0 h (Go.Addr.add a'0 3)) = (some (Go.Value.slice p'14 n'15 n'16))) ∧ (App w0 h 3 40 p'14 n'15 n'16 1 [(Go.Value.string x1_0), (Go.Value.string x1_1), (Go.Value.pointer x1_2)] (fun a'17 c'18 h'19 => (∃ a'20 : Go.Addr, ((x0 = (some a'20)) ∧ (∃ l'21 : List Go.Value, (∃ n'22 : Nat, (((Array.size (Go.World.heap w0)) ≤ (Go.Addr.block (Go.Addr.add a'20 3))) ∧ (((none : Option Nat) = none) ∧ (((h'19 (Go.Addr.block (Go.Addr.add a'20 3))) = (some (Go.G.AB.cells l'21 n'22))) ∧ ((((Go.Addr.off (Go.Addr.add a'20 3)) + (Array.size #[(Go.Value.slice a'17 (n'15 + 1) c'18)])) ≤ (List.length l'21)) ∧ (∃ a'23 : Go.Addr, ((x0 = (some a'23)) ∧ (∃ p'24 : Option Nat, (((Go.G.cellA w0 (Go.G.AH.put h'19 (Go.Addr.block (Go.Addr.add a'20 3)) (Go.G.AB.cells (Go.G.setCells l'21 (Go.Addr.off (Go.Addr.add a'20 3)) [(Go.Value.slice a'17 (n'15 + 1) c'18)]) n'22)) (Go.Addr.add a'23 1)) = (some (Go.Value.map p'24))) ∧ (EvC Go.Proofs.Try.prog w0 55 #[(Go.Value.agg #[(Go.Value.string x1_0), (Go.Value.string x1_1), (Go.Value.pointer x1_2)]), (Go.Value.map p'24)] (fun x'25 h'26 => ((x'25 = (Go.Value.tuple #[])) ∧ (K (Go.Value.tuple #[]) h'26))) (Go.G.AH.put h'19 (Go.Addr.block (Go.Addr.add a'20 3)) (Go.G.AB.cells (Go.G.setCells l'21 (Go.Addr.off (Go.Addr.add a'20 3)) [(Go.Value.slice a'17 (n'15 + 1) c'18)]) n'22))))))))))))))))))))))))) :
  EvC Go.Proofs.Try.prog w0 44 ([(.pointer x0), (.agg #[(.string x1_0), (.string x1_1), (.pointer x1_2)])]).toArray K h := EvC_intro (P := Go.Proofs.Try.prog) f44_J (Eq.mp (by kernel_rfl) hv)
theorem rowC_append (F : List FO) (r q : List Chg) : rowC F (r ++ q) = rowC F r ++ rowC F q := by simp [rowC]
def chgV (F : List FO) (c : Chg) : Value := .agg #[.string c.old, .string c.name, .pointer (match c.f with | none => none | some i => ptrF F i)]
/-- play. -/
theorem f55_spec {w0 : World} {K : Value → AH → Prop} {h : AH} {A B : List (Nat × AB)} {F : List FO} {d : Dir} {r : Nat} {c : Chg} (w : Own w0 h (A ++ (r, .map (mapC F d)) :: B))
    (hk : ∀ h', Own w0 h' (A ++ (r, .map (mapC F (c.playL d))) :: B) → K (.tuple #[]) h') : EvC Go.Proofs.Try.prog w0 55 #[chgV F c, .map (some r)] K h := by
  have mm : ∀ {x : Dir}, (r, AB.map (mapC F x)) ∈ A ++ (r, .map (mapC F x)) :: B := by simp
  have three : ∀ (x : Dir) (h' : AH), (match c.f with | none => x | some i => putL c.name i x) = c.playL d → Own w0 h' (A ++ (r, .map (mapC F x)) :: B) →
      f55_3 w0 K (some r) c.old c.name (match c.f with | none => none | some i => ptrF F i) h' := fun x h' e w' => by
    cases hf : c.f with
    | none =>
      rw [hf] at e
      dsimp only at e ⊢
      rw [e] at w'
      exact f55_3_in _ _ _ _ _ (brB_of (fun q => by cases q) fun _ => hk h' w')
    | some i =>
      rw [hf] at e
      dsimp only at e ⊢
      refine f55_3_in _ _ _ _ _ (brB_of (fun _ => ⟨by kernel_rfl, r, rfl, mapAt_D w' mm (hk _ ?_)⟩) fun q => by cases q)
      rw [putM_L, e]
      exact w'.updm
  refine f55_go _ _ _ _ _ (brB_of (fun q => ⟨by kernel_rfl, mapAt_D w mm ⟨fun e => (by cases e), fun r' e => ?_⟩⟩) fun q => ?_)
  · injection e with e
    subst e
    have q' : ¬ c.old = ⟨#[]⟩ := by simpa using q
    refine three (delL c.old d) _ ?_ ?_
    · unfold Chg.playL; rw [if_neg q']; rfl
    · rw [delM_L]; exact w.updm
  · have q' : c.old = ⟨#[]⟩ := by simpa using q
    refine three d _ ?_ w
    unfold Chg.playL; rw [if_pos q']; rfl

theorem chg_cell (F : List FO) (c : Chg) : ∀ y ∈ chgC F c, y.oneCell' = true := by
  intro y hy
  simp [chgC] at hy
  rcases hy with rfl | rfl | rfl <;> rfl
/-- alter. -/
theorem f44_spec {w0 : World} {K : Value → AH → Prop} {h : AH} {B : List (Nat × AB)} {s : Ds} {D : PD} {F : List FO} {c : Chg} {M : AB}
    (w : Own w0 h ((D.bd, .cells (pcells s D) 9) :: (D.md, .map (mapC F D.ed)) :: (D.ms, M) :: (slB D.ra (rowC F D.row) (D.rc * 3) ++ B)))
    (rv : SlV 3 D.ra D.row.length D.rc (rowC F D.row)) (hr : D.row.length ≤ 10000000000)
    (hk : ∀ h' ra' rc', SlV 3 ra' (D.row ++ [c]).length rc' (rowC F (D.row ++ [c])) →
      Own w0 h' ((D.bd, .cells (pc s.room D.md D.ms ra' (D.row ++ [c]).length rc' s.off s.calls s.fuse s.wait s.fails) 9) :: (D.md, .map (mapC F (c.playL D.ed))) :: (D.ms, M) :: (slB ra' (rowC F (D.row ++ [c])) (rc' * 3) ++ B)) → K (.tuple #[]) h') :
    EvC Go.Proofs.Try.prog w0 44 #[.pointer (some ⟨D.bd, 0, none⟩), chgV F c] K h := by
  refine f44_go _ _ _ _ _ ⟨_, rfl, dup ⟨_, _, _, w.cell0 rfl, App_mid (cs := [_, _, _]) rv w (by omega) (by omega) rfl (chg_cell F c) fun a' c' h' v w' => ?_⟩⟩
  have e1 : rowC F D.row ++ [.string c.old, .string c.name, .pointer (match c.f with | none => none | some i => ptrF F i)] = rowC F (D.row ++ [c]) := by rw [rowC_append]; rfl
  rw [e1] at v w'
  rw [show D.row.length + 1 = (D.row ++ [c]).length by simp] at v ⊢
  refine ⟨_, rfl, _, 9, Own.ge w', rfl, Own.hd w', by simp [pcells, pc, Addr.add], ?_⟩
  have w2 : Own w0 (h'.put D.bd (.cells (pc s.room D.md D.ms a' (D.row ++ [c]).length c' s.off s.calls s.fuse s.wait s.fails) 9)) ((D.bd, .cells (pc s.room D.md D.ms a' (D.row ++ [c]).length c' s.off s.calls s.fuse s.wait s.fails) 9) :: (D.md, .map (mapC F D.ed)) :: (D.ms, M) :: (slB a' (rowC F (D.row ++ [c])) (c' * 3) ++ B)) := Own.put w'
  exact ⟨_, rfl, _, w2.cell0 rfl, f55_spec (A := [_]) w2 fun h3 w3 => ⟨rfl, hk h3 a' c' v w3⟩⟩
end Go.G.Ytpjklfmfgmicaaa
