/- The law TrieTurned holds: In which order subscriptions come makes no difference, but for two of one client and filter. No condition. The frame follows the guide's worked texts; the walk is the evaluator's (G). -/
import Derived.Test.YtnmngjffebbbnaaDoorRows
import Derived.Test.YtnmngjffebbbnaaDoorCards
import Derived.Test.YtnmngjffebbbnaaDoorTie
import Derived.Test.YtnmngjffebbbnaaDoorLW
import Derived.Test.YtnmngjffebbbnaaDoorLTurned
import Derived.WalkKit
import Derived.ProofKit
import Derived.OpenShut
import Derived.ShutString
import Derived.ChangeOld
import Derived.Below
import Derived.SizedLaws
import Derived.LaidLaws
import Derived.Handed
import Derived.SevenTiedAt
namespace Go.Proofs.YtnmngjffebbbnaaDoor.trieTurned
open Go.ChangeShapes Go.WideShapes Go.ChangeAt Go.RowKit
theorem own : ownKnob Tryd.prog.godebug = none := by kernel_rfl
theorem laidOut : laidOutB Tryd.prog = true := by kernel_rfl
set_option maxRecDepth 100000 in
theorem lifted (os : Os) (started : os.Started) (H : Type) (enc : TypeId × Value → H) :
    ReturnsInHanded {} Tryd.checked os 3 .any (fun w args => (Rows.trieTurnedSpec.pre enc Tryd.prog Tryd.f3 Rows.trieTurnedRow.domain false w args ∧ laidMet Tryd.prog Rows.trieTurnedRow.laid w) ∧ sizedMet enc Tryd.prog Tryd.f3 (OpenSpec.ofChange Rows.trieTurnedSpec) false w args)
      (Rows.trieTurnedSpec.post enc Tryd.prog Tryd.f3 false true false false) := by
  refine returnsInHanded_of_change_and (C := Tryd.checked) (X := fun w _ => laidMet Tryd.prog Rows.trieTurnedRow.laid w) (fun _ _ _ hh h => h.of_heap hh) own started (by kernel_rfl) Tryd.func3
    (ChangeSpec.witness_at (enc := enc) (C := Tryd.checked) (os := os) (X := fun w _ => laidMet Tryd.prog Rows.trieTurnedRow.laid w) false (Go.G.YtnmngjffebbbnaaDoor.laidWorld os) #[.slice none 0 0, .string ⟨#[]⟩] 8 rfl (by kernel_rfl) (by kernel_rfl) (by kernel_rfl) (by kernel_rfl) (by kernel_rfl) (Go.G.YtnmngjffebbbnaaDoor.laid_met os _)) ?_
  intro W base args ds gs before hval0 hW hcnd hsz0 hL _
  have T : Go.G.YtnmngjffebbbnaaDoor.TabOk W := Go.G.YtnmngjffebbbnaaDoor.tab_of_laid hL
  have hsz : (DataW.weightsEach Tryd.prog (Tryd.f3.params.toList ++ Rows.trieTurnedSpec.plain.varTypes Tryd.prog) (ds ++ gs)).all (· ≤ reachBytes) = true := hsz0
  have hval : ∀ (j : Nat) t v, Tryd.f3.params[j]? = some t → args[j]? = some v → Value.okWide Tryd.prog W .any base t v := hval0
  have hW' := hW
  obtain ⟨p, q, hA0, hV, rfl, hfz, hnd⟩ := hW
  have hA : DataW.TrodAll enc Tryd.prog W 0 (fun _ => true) true Tryd.f3.params.toList args.toList ds p := hA0
  rw [Tryd.params3] at hA hval hsz
  obtain ⟨v0, vs0, d0, ds0, p0, q0, hargs, rfl, rfl, h0, r0⟩ := trodAll_cons hA
  obtain ⟨v1, vs1, d1, ds1, p1, q1, rfl, rfl, rfl, h1, r1⟩ := trodAll_cons r0
  obtain ⟨rfl, rfl, rfl⟩ := trodAll_nil r1
  obtain rfl : args = #[v0, v1] := by cases args; simp_all
  obtain ⟨rfl, rfl⟩ := trodVars_none hV
  have k0 := h0
  have lt0 : ∀ x ∈ p0, x.block < W.heap.size := by obtain ⟨m, hm⟩ := k0; exact DataW.trod_lt m _ _ _ hm
  have o0 : Go.G.OkT Tryd.prog W 4 22 v0.cells.toList := Go.G.okT_arg 4 h0 hsz (j := 0) rfl rfl
  obtain ⟨a0, n0, c0, rfl⟩ := okWide_slice Tryd.underlying22 (hval 0 22 v0 rfl rfl)
  obtain ⟨a0', n0', c0', x0, e0, s0, s0c, s0m, s0r, s0k⟩ := Go.G.YtnmngjffebbbnaaDoor.calls_of (v := 0) o0
  simp [Value.cells] at e0
  obtain ⟨rfl, rfl, rfl⟩ := e0
  have k1 := h1
  have lt1 : ∀ x ∈ p1, x.block < W.heap.size := by obtain ⟨m, hm⟩ := k1; exact DataW.trod_lt m _ _ _ hm
  have o1 : Go.G.OkT Tryd.prog W 1 9 v1.cells.toList := Go.G.okT_arg 1 h1 hsz (j := 1) rfl rfl
  obtain ⟨x1, rfl⟩ := okWide_string Tryd.underlying9 (hval 1 9 v1 rfl rfl)
  obtain ⟨y1, e1, w1⟩ := o1.string (by kernel_rfl)
  simp [Value.cells] at e1
  obtain rfl := e1
  have hev : Go.G.EvC Tryd.prog W 3 #[.slice a0 n0 c0, .string x1] (fun x _ => x = .bool true) (fun _ => none) :=
    by subst s0; exact Go.G.YtnmngjffebbbnaaDoor.f3_spec (K := fun x _ => x = .bool true) T s0r s0m s0c fun h => rfl
  refine (Go.G.law_holds (by kernel_rfl) hev).mono fun e W' ⟨he, bel⟩ => ?_
  subst he
  exact ⟨_, rfl, _, _, _, [], _, [], hW', trodAll_mk1 (shut_bool Tryd.underlying4 _), (trodAll_cons_mk (Below.trod laidOut (by kernel_rfl) (of_decide_eq_true (by kernel_rfl)) k0 bel lt0) (trodAll_cons_mk (Below.trod laidOut (by kernel_rfl) (of_decide_eq_true (by kernel_rfl)) k1 bel lt1) trodAll_mk0)), rfl, bel.frame _, fun h => by cases h⟩
theorem over : Rows.trieTurnedRow.holds Tryd.pinned (OpenSpec.ofChange Rows.trieTurnedSpec) :=
  OpenClaim.holds_of_wide 3 Tryd.f3 rfl rfl rfl rfl rfl rfl rfl ⟨rfl, rfl, rfl, rfl, rfl⟩ rfl rfl rfl rfl rfl (by kernel_rfl) Tryd.func3 (by kernel_rfl)
    (of_decide_eq_true (by kernel_rfl)) (by unfold Func.isWrapper; first | (rw [if_pos (by decide +kernel)]; kernel_rfl) | (rw [if_neg (by decide +kernel)]; exact ⟨rfl, rfl⟩))
    (fun os started H enc _ => lifted os started H enc)
/-- The row's tied card. -/
theorem proved : Rows.TrieTurnedCardSaid :=
  Claim7.holds_tied_plain_at .later [] [.data, .pinned] true (true, "077bb4ee311e4e12f670baa190a16d91e993ef83ccc181d6a24d8e661ba11a92") false
    over (fun _ h => by cases h) (by kernel_rfl) (fun _ h => by cases h) trieTurned_row_tie rfl ⟨rfl, rfl⟩ (by kernel_rfl) rfl
    (fun f fn hf hfn => by
      obtain rfl : f = 3 := Option.some.inj ((show Tryd.prog.funcNamed "halyard/halyardlaw22.TrieTurned" = some 3 by kernel_rfl).symm.trans hf) |>.symm
      obtain rfl : fn = Tryd.f3 := (Option.some.inj (Tryd.func3.symm.trans hfn)).symm
      exact ⟨by kernel_rfl, fun j t ht => by
        rw [Tryd.params3] at ht
        have hm : t = 22 ∨ t = 9 := by
          have := Array.mem_of_getElem? ht
          simpa using this
        rcases hm with rfl | rfl
        · exact (show Tryd.prog.wantsStandIn 22 = false by kernel_rfl)
        · exact (show Tryd.prog.wantsStandIn 9 = false by kernel_rfl)⟩)
    (by kernel_rfl)
end Go.Proofs.YtnmngjffebbbnaaDoor.trieTurned
namespace Go.Proofs.YtnmngjffebbbnaaDoor
/-- The card, under a short name, for the claim. -/
theorem trieTurned_holds : Rows.TrieTurnedCardSaid := trieTurned.proved
end Go.Proofs.YtnmngjffebbbnaaDoor
