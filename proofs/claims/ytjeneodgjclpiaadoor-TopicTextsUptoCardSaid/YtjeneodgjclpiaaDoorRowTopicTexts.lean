/- The law TopicTexts holds: any bytes as a text, a topic, a client's name. Condition: the arguments hold at most 1048576 values and letters (the second form). The frame follows the guide's worked texts; the walk is the evaluator's (G). -/
import Derived.Test.YtjeneodgjclpiaaDoorRows
import Derived.Test.YtjeneodgjclpiaaDoorCards
import Derived.Test.YtjeneodgjclpiaaDoorTie
import Derived.Test.YtjeneodgjclpiaaDoorLW
import Derived.Test.YtjeneodgjclpiaaDoorLD
import Derived.WalkKit
import Derived.ProofKit
import Derived.OpenShut
import Derived.ShutString
import Derived.ChangeOld
import Derived.Below
import Derived.SizedLaws
import Derived.LaidLaws
import Derived.Handed
import Derived.SevenTiedAt
import Derived.Deep.DeepHandedRow
import Derived.Lib.LaidTab
import Derived.ChangeMaps
namespace Go.Proofs.YtjeneodgjclpiaaDoor.topicTextsUpto
open Go.ChangeShapes Go.WideShapes Go.ChangeAt Go.RowKit
open Go.ChangeMaps (open_string)
theorem own : ownKnob Tryd.prog.godebug = none := by kernel_rfl
theorem laidOut : laidOutB Tryd.prog = true := by kernel_rfl
theorem reads (os : Os) {H : Type} (enc : TypeId × Value → H) : ∃ places, DataW.whole enc Tryd.prog ((Go.G.YtjeneodgjclpiaaDoor.laidWorld os).forCall (fun _ _ => 0) ⟨#[], #[.slice none 0 0], []⟩).memory Tryd.f6.params.toList Rows.topicTextsSpec.vars false (#[.slice none 0 0] : Array Value).toList 8 = some ([.nil], [], places) :=
  ⟨[], by kernel_rfl⟩
set_option maxRecDepth 100000 in
theorem lifted (os : Os) (started : os.Started) (H : Type) (enc : TypeId × Value → H) (F : Stop.Interp) :
    ReturnsInHanded {} Tryd.checked os 6 .any ((Rows.OpenSpec.upto Rows.topicTextsSpec).preRow enc Tryd.prog Tryd.f6 Rows.topicTextsUptoRow.domain false Rows.topicTextsUptoRow.laid) (((Rows.OpenSpec.upto Rows.topicTextsSpec).at F).post enc Tryd.prog Tryd.f6 false true false false) := by
  obtain ⟨places, hx⟩ := reads os enc
  refine returnsInHanded_of_row (C := Tryd.checked) (s := Rows.OpenSpec.upto Rows.topicTextsSpec) own started (by kernel_rfl) Tryd.func6
    (witness_row_at (enc := enc) (C := Tryd.checked) false (Go.G.YtjeneodgjclpiaaDoor.laidWorld os) #[.slice none 0 0] rfl (by kernel_rfl) (by kernel_rfl) (by kernel_rfl)
      (OpenSpec.preRow_of_cond 8 hx (by kernel_rfl) (fun k hk => by cases hk; kernel_rfl) (by kernel_rfl) (Go.G.YtjeneodgjclpiaaDoor.laid_met os _))) ?_
  intro W base args ds gs before hval0 hW hcnd hcond hsz0 hL _ _
  have T : Go.G.YtjeneodgjclpiaaDoor.TabOk W := Go.G.YtjeneodgjclpiaaDoor.tab_of_laid hL
  have hbulk := Go.G.YtjeneodgjclpiaaDoor.upto_bound (hcond _ rfl)
  have hsz : (DataW.weightsEach Tryd.prog (Tryd.f6.params.toList ++ Rows.topicTextsSpec.plain.varTypes Tryd.prog) (ds ++ gs)).all (· ≤ reachBytes) = true := hsz0
  have hval : ∀ (j : Nat) t v, Tryd.f6.params[j]? = some t → args[j]? = some v → Value.okWide Tryd.prog W .any base t v := hval0
  have hW' := hW
  obtain ⟨p, q, hA0, hV, rfl, hfz, hnd⟩ := hW
  have hA : DataW.TrodAll enc Tryd.prog W 0 (fun _ => true) true Tryd.f6.params.toList args.toList ds p := hA0
  rw [Tryd.params6] at hA hval hsz
  obtain ⟨v0, vs0, d0, ds0, p0, q0, hargs, rfl, rfl, h0, r0⟩ := trodAll_cons hA
  obtain ⟨rfl, rfl, rfl⟩ := trodAll_nil r0
  obtain rfl : args = #[v0] := by cases args; simp_all
  obtain ⟨rfl, rfl⟩ := trodVars_none hV
  have k0 := h0
  have lt0 : ∀ x ∈ p0, x.block < W.heap.size := by obtain ⟨m, hm⟩ := k0; exact DataW.trod_lt m _ _ _ hm
  have o0 : Go.G.OkT Tryd.prog W 2 28 v0.cells.toList := Go.G.okT_arg 2 h0 hsz (j := 0) rfl rfl
  obtain ⟨a0, n0, c0, rfl⟩ := okWide_slice Tryd.underlying28 (hval 0 28 v0 rfl rfl)
  obtain ⟨a0', n0', c0', x0, e0, s0, s0c, s0m, s0r⟩ := Go.G.YtjeneodgjclpiaaDoor.bytes_of o0
  simp [Value.cells] at e0
  obtain ⟨rfl, rfl, rfl⟩ := e0
  have bk0 : n0 ≤ 1048576 := Go.G.YtjeneodgjclpiaaDoor.upto_bytes h0 (Go.G.YtjeneodgjclpiaaDoor.upto_part (d := d0) (by simp) hbulk)
  have hev : Go.G.EvC Tryd.prog W 6 #[.slice a0 n0 c0] (fun x _ => x = .bool true) (fun _ => none) :=
    by subst s0; exact Go.G.YtjeneodgjclpiaaDoor.f6_spec T s0r s0c (by omega) fun _ => rfl
  refine (Go.G.law_holds (by kernel_rfl) hev).mono fun e W' ⟨he, bel⟩ => ?_
  subst he
  exact ⟨_, rfl, _, _, _, [], _, [], hW', trodAll_mk1 (shut_bool Tryd.underlying4 _), (trodAll_cons_mk (Below.trod laidOut (by kernel_rfl) (of_decide_eq_true (by kernel_rfl)) k0 bel lt0) trodAll_mk0), rfl, bel.frame _, fun h => by cases h⟩
theorem over : Rows.topicTextsUptoRow.holds Tryd.pinned (Rows.OpenSpec.upto Rows.topicTextsSpec) :=
  OpenClaim.holds_of_cond 6 Tryd.f6 rfl rfl rfl rfl rfl rfl rfl ⟨rfl, rfl, rfl, rfl, rfl⟩ rfl rfl rfl rfl rfl (by kernel_rfl) Tryd.func6 (by kernel_rfl)
    (of_decide_eq_true (by kernel_rfl)) (by unfold Func.isWrapper; first | (rw [if_pos (by decide +kernel)]; kernel_rfl) | (rw [if_neg (by decide +kernel)]; exact ⟨rfl, rfl⟩))
    (fun os started H enc _ F => by rw [OpenClaim.pre_eq_preRow]; exact lifted os started H enc F)
/-- The row's tied card. -/
theorem proved : Rows.TopicTextsUptoCardSaid :=
  Claim7.holds_tied_plain_at .later [] [.data, .pinned] true (true, "6262f6b94dc12841c3cab848c5284519410b90538aa0db5da7d82b3ed3094aa3") false
    over (fun _ h => by cases h) (by kernel_rfl) (fun _ h => by cases h) topicTextsUpto_row_tie rfl ⟨rfl, rfl⟩ (by kernel_rfl) rfl
    (fun f fn hf hfn => by
      obtain rfl : f = 6 := Option.some.inj ((show Tryd.prog.funcNamed "halyard/halyardlaw4.TopicTexts" = some 6 by kernel_rfl).symm.trans hf) |>.symm
      obtain rfl : fn = Tryd.f6 := (Option.some.inj (Tryd.func6.symm.trans hfn)).symm
      exact ⟨by kernel_rfl, fun j t ht => by
        rw [Tryd.params6] at ht
        have hm : t = 28 := by
          have := Array.mem_of_getElem? ht
          simpa using this
        rcases hm with rfl
        · exact (show Tryd.prog.wantsStandIn 28 = false by kernel_rfl)⟩)
    (by kernel_rfl)
end Go.Proofs.YtjeneodgjclpiaaDoor.topicTextsUpto
namespace Go.Proofs.YtjeneodgjclpiaaDoor
/-- The card, under a short name, for the claim. -/
theorem topicTextsUpto_holds : Rows.TopicTextsUptoCardSaid := topicTextsUpto.proved
end Go.Proofs.YtjeneodgjclpiaaDoor
