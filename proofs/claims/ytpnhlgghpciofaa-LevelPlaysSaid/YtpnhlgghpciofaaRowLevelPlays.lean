/- The law LevelPlays holds: any edits, one behind the other: level.Apply answers as the document does. No condition. The frame began as the text of print.sh; the walk is the evaluator's (G). -/
import Derived.Test.YtpnhlgghpciofaaRows
import Derived.Test.YtpnhlgghpciofaaLLevelPlays
import Derived.Test.YtpnhlgghpciofaaLT
import Derived.WalkKit
import Derived.ProofKit
import Derived.OpenShut
import Derived.ShutString
import Derived.ChangeOld
import Derived.Below
import Derived.SizedLaws
namespace Go.Proofs.Ytpnhlgghpciofaa.levelPlays
open Go.ChangeShapes Go.WideShapes Go.ChangeAt Go.RowKit
theorem own : ownKnob Try.prog.godebug = none := by kernel_rfl
theorem laidOut : laidOutB Try.prog = true := by kernel_rfl
set_option maxRecDepth 100000 in
theorem lifted (os : Os) (started : os.Started) (H : Type) (enc : TypeId × Value → H) :
    ReturnsInHanded {} Try.checked os 10 .any (Rows.levelPlaysSpec.pre6 enc Try.prog Try.f10 Rows.levelPlaysRow.domain false) (Rows.levelPlaysSpec.post enc Try.prog Try.f10 false true false false) := by
  refine returnsInHanded_of_change_sized (C := Try.checked) own started (by kernel_rfl) Try.func10
    (ChangeSpec.witness6 (enc := enc) (C := Try.checked) false ⟨#[], #[.slice none 0 0], []⟩ 8 (by kernel_rfl) (by kernel_rfl) (by kernel_rfl) (by kernel_rfl)) ?_
  intro W base args ds gs before hval0 hW hcnd hsz0 _
  have hsz : (DataW.weightsEach Try.prog (Try.f10.params.toList ++ Rows.levelPlaysSpec.plain.varTypes Try.prog) (ds ++ gs)).all (· ≤ reachBytes) = true := hsz0
  have hval : ∀ (j : Nat) t v, Try.f10.params[j]? = some t → args[j]? = some v → Value.okWide Try.prog W .any base t v := hval0
  have hW' := hW
  obtain ⟨p, q, hA0, hV, rfl, hfz, hnd⟩ := hW
  have hA : DataW.TrodAll enc Try.prog W 0 (fun _ => true) true Try.f10.params.toList args.toList ds p := hA0
  rw [Try.params10] at hA hval hsz
  obtain ⟨v0, vs0, d0, ds0, p0, q0, hargs, rfl, rfl, h0, r0⟩ := trodAll_cons hA
  obtain ⟨rfl, rfl, rfl⟩ := trodAll_nil r0
  obtain rfl : args = #[v0] := by cases args; simp_all
  obtain ⟨rfl, rfl⟩ := trodVars_none hV
  have k0 := h0
  have lt0 : ∀ x ∈ p0, x.block < W.heap.size := by obtain ⟨m, hm⟩ := k0; exact DataW.trod_lt m _ _ _ hm
  have o0 : Go.G.OkT Try.prog W 6 57 v0.cells.toList := Go.G.okT_arg 6 h0 hsz (j := 0) rfl rfl
  obtain ⟨a0, n0, c0, rfl⟩ := okWide_slice Try.underlying57 (hval 0 57 v0 rfl rfl)
  obtain ⟨a0', n0', c0', x0, e0, s0⟩ := Go.G.Ytpnhlgghpciofaa.edits_of o0
  simp [Value.cells] at e0
  obtain ⟨rfl, rfl, rfl⟩ := e0
  have hev : Go.G.EvC Try.prog W 10 #[.slice a0 n0 c0] (fun x _ => x = .bool true) (fun _ => none) :=
    Go.G.Ytpnhlgghpciofaa.f10_spec (s0 _) fun _ _ => rfl
  refine (Go.G.law_holds (by kernel_rfl) hev).mono fun e W' ⟨he, bel⟩ => ?_
  subst he
  exact ⟨_, rfl, _, _, _, [], _, [], hW', trodAll_mk1 (shut_bool Try.underlying4 _), (trodAll_cons_mk (Below.trod laidOut (by kernel_rfl) (of_decide_eq_true (by kernel_rfl)) k0 bel lt0) trodAll_mk0), rfl, bel.frame _, fun h => by cases h⟩
theorem over : Rows.levelPlaysRow.holds Try.pinned (OpenSpec.ofChange Rows.levelPlaysSpec) :=
  OpenClaim.holds_of_wide 10 Try.f10 rfl rfl rfl rfl rfl rfl rfl ⟨rfl, rfl, rfl, rfl, rfl⟩ rfl rfl rfl rfl rfl (by kernel_rfl) Try.func10 (by kernel_rfl)
    (of_decide_eq_true (by kernel_rfl)) (by unfold Func.isWrapper; first | (rw [if_pos (by decide +kernel)]; kernel_rfl) | (rw [if_neg (by decide +kernel)]; exact ⟨rfl, rfl⟩))
    (fun os started H enc _ => lifted os started H enc)
theorem proved : Rows.LevelPlaysSaid := over
end Go.Proofs.Ytpnhlgghpciofaa.levelPlays
namespace Go.Proofs.Ytpnhlgghpciofaa
/-- The row, under a short name, for the claim. -/
theorem levelPlays_holds : Rows.LevelPlaysSaid := levelPlays.proved
end Go.Proofs.Ytpnhlgghpciofaa
