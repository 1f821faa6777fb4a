/- The law StreamPackets holds: Packets, encoded one behind the other, come out as they are. No condition. The frame follows the guide's worked texts; the walk is the evaluator's (G). -/
import Derived.Test.YtciepfobnaemmaaDoorRows
import Derived.Test.YtciepfobnaemmaaDoorCards
import Derived.Test.YtciepfobnaemmaaDoorTie
import Derived.Test.YtciepfobnaemmaaDoorLW
import Derived.Test.YtciepfobnaemmaaDoorPT
import Derived.Test.YtciepfobnaemmaaDoorQJ
import Derived.WalkKit
import Derived.ProofKit
import Derived.OpenShut
import Derived.ShutString
import Derived.ChangeOld
import Derived.Below
import Derived.SizedLaws
import Derived.LaidLaws
import Derived.Handed
import Derived.SevenTiedAt
namespace Go.Proofs.YtciepfobnaemmaaDoor.streamPackets
open Go.ChangeShapes Go.WideShapes Go.ChangeAt Go.RowKit
theorem own : ownKnob Tryd.prog.godebug = none := by kernel_rfl
theorem laidOut : laidOutB Tryd.prog = true := by kernel_rfl
set_option maxRecDepth 100000 in
theorem lifted (os : Os) (started : os.Started) (H : Type) (enc : TypeId × Value → H) :
    ReturnsInHanded {} Tryd.checked os 13 .any (fun w args => (Rows.streamPacketsSpec.pre enc Tryd.prog Tryd.f13 Rows.streamPacketsRow.domain false w args ∧ laidMet Tryd.prog Rows.streamPacketsRow.laid w) ∧ sizedMet enc Tryd.prog Tryd.f13 (OpenSpec.ofChange Rows.streamPacketsSpec) false w args)
      (Rows.streamPacketsSpec.post enc Tryd.prog Tryd.f13 false true false false) := by
  refine returnsInHanded_of_change_and (C := Tryd.checked) (X := fun w _ => laidMet Tryd.prog Rows.streamPacketsRow.laid w) (fun _ _ _ hh h => h.of_heap hh) own started (by kernel_rfl) Tryd.func13
    (ChangeSpec.witness_at (enc := enc) (C := Tryd.checked) (os := os) (X := fun w _ => laidMet Tryd.prog Rows.streamPacketsRow.laid w) false (Go.G.YtciepfobnaemmaaDoor.laidWorld os) #[.slice none 0 0, .int .u8 0] 8 rfl (by kernel_rfl) (by kernel_rfl) (by kernel_rfl) (by kernel_rfl) (by kernel_rfl) (Go.G.YtciepfobnaemmaaDoor.laid_met os _)) ?_
  intro W base args ds gs before hval0 hW hcnd hsz0 hL _
  have T : Go.G.YtciepfobnaemmaaDoor.TabOk W := Go.G.YtciepfobnaemmaaDoor.tab_of_laid hL
  have hsz : (DataW.weightsEach Tryd.prog (Tryd.f13.params.toList ++ Rows.streamPacketsSpec.plain.varTypes Tryd.prog) (ds ++ gs)).all (· ≤ reachBytes) = true := hsz0
  have hval : ∀ (j : Nat) t v, Tryd.f13.params[j]? = some t → args[j]? = some v → Value.okWide Tryd.prog W .any base t v := hval0
  have hW' := hW
  obtain ⟨p, q, hA0, hV, rfl, hfz, hnd⟩ := hW
  have hA : DataW.TrodAll enc Tryd.prog W 0 (fun _ => true) true Tryd.f13.params.toList args.toList ds p := hA0
  rw [Tryd.params13] at hA hval hsz
  obtain ⟨v0, vs0, d0, ds0, p0, q0, hargs, rfl, rfl, h0, r0⟩ := trodAll_cons hA
  obtain ⟨v1, vs1, d1, ds1, p1, q1, rfl, rfl, rfl, h1, r1⟩ := trodAll_cons r0
  obtain ⟨rfl, rfl, rfl⟩ := trodAll_nil r1
  obtain rfl : args = #[v0, v1] := by cases args; simp_all
  obtain ⟨rfl, rfl⟩ := trodVars_none hV
  have k0 := h0
  have lt0 : ∀ x ∈ p0, x.block < W.heap.size := by obtain ⟨m, hm⟩ := k0; exact DataW.trod_lt m _ _ _ hm
  have o0 : Go.G.OkT Tryd.prog W 6 54 v0.cells.toList := Go.G.okT_arg 6 h0 hsz (j := 0) rfl rfl
  obtain ⟨a0, n0, c0, rfl⟩ := okWide_slice Tryd.underlying54 (hval 0 54 v0 rfl rfl)
  obtain ⟨a0', n0', c0', x0, e0, s0, s0c, s0m, s0r, s0k⟩ := Go.G.YtciepfobnaemmaaDoor.packets_of (v := 0) o0
  simp [Value.cells] at e0
  obtain ⟨rfl, rfl, rfl⟩ := e0
  have k1 := h1
  have lt1 : ∀ x ∈ p1, x.block < W.heap.size := by obtain ⟨m, hm⟩ := k1; exact DataW.trod_lt m _ _ _ hm
  have o1 : Go.G.OkT Tryd.prog W 1 5 v1.cells.toList := Go.G.okT_arg 1 h1 hsz (j := 1) rfl rfl
  obtain ⟨x1, rfl⟩ := okWide_int Tryd.underlying5 (hval 1 5 v1 rfl rfl)
  obtain ⟨y1, e1, w1⟩ := o1.int (k := .u8) (by kernel_rfl)
  simp [Value.cells] at e1
  obtain rfl := e1
  have hev : Go.G.EvC Tryd.prog W 13 #[.slice a0 n0 c0, .int .u8 x1] (fun x _ => x = .bool true) (fun _ => none) :=
    by subst s0; exact Go.G.YtciepfobnaemmaaDoor.f13_specI (K := fun x _ => x = .bool true) (by simpa [Lit.wf, IntKind.min, IntKind.max, IntKind.signed, IntKind.bits] using w1) T s0r s0m s0k fun h => rfl
  refine (Go.G.law_holds (by kernel_rfl) hev).mono fun e W' ⟨he, bel⟩ => ?_
  subst he
  exact ⟨_, rfl, _, _, _, [], _, [], hW', trodAll_mk1 (shut_bool Tryd.underlying4 _), (trodAll_cons_mk (Below.trod laidOut (by kernel_rfl) (of_decide_eq_true (by kernel_rfl)) k0 bel lt0) (trodAll_cons_mk (Below.trod laidOut (by kernel_rfl) (of_decide_eq_true (by kernel_rfl)) k1 bel lt1) trodAll_mk0)), rfl, bel.frame _, fun h => by cases h⟩
theorem over : Rows.streamPacketsRow.holds Tryd.pinned (OpenSpec.ofChange Rows.streamPacketsSpec) :=
  OpenClaim.holds_of_wide 13 Tryd.f13 rfl rfl rfl rfl rfl rfl rfl ⟨rfl, rfl, rfl, rfl, rfl⟩ rfl rfl rfl rfl rfl (by kernel_rfl) Tryd.func13 (by kernel_rfl)
    (of_decide_eq_true (by kernel_rfl)) (by unfold Func.isWrapper; first | (rw [if_pos (by decide +kernel)]; kernel_rfl) | (rw [if_neg (by decide +kernel)]; exact ⟨rfl, rfl⟩))
    (fun os started H enc _ => lifted os started H enc)
/-- The row's tied card. -/
theorem proved : Rows.StreamPacketsCardSaid :=
  Claim7.holds_tied_plain_at .later [] [.data, .pinned] true (true, "984a2a7fdcfb67d5aad7c231d34745481983440e5941f697502ff8febecd2071") false
    over (fun _ h => by cases h) (by kernel_rfl) (fun _ h => by cases h) streamPackets_row_tie rfl ⟨rfl, rfl⟩ (by kernel_rfl) rfl
    (fun f fn hf hfn => by
      obtain rfl : f = 13 := Option.some.inj ((show Tryd.prog.funcNamed "halyard/halyardlaw24.StreamPackets" = some 13 by kernel_rfl).symm.trans hf) |>.symm
      obtain rfl : fn = Tryd.f13 := (Option.some.inj (Tryd.func13.symm.trans hfn)).symm
      exact ⟨by kernel_rfl, fun j t ht => by
        rw [Tryd.params13] at ht
        have hm : t = 54 ∨ t = 5 := by
          have := Array.mem_of_getElem? ht
          simpa using this
        rcases hm with rfl | rfl
        · exact (show Tryd.prog.wantsStandIn 54 = false by kernel_rfl)
        · exact (show Tryd.prog.wantsStandIn 5 = false by kernel_rfl)⟩)
    (by kernel_rfl)
end Go.Proofs.YtciepfobnaemmaaDoor.streamPackets
namespace Go.Proofs.YtciepfobnaemmaaDoor
/-- The card, under a short name, for the claim. -/
theorem streamPackets_holds : Rows.StreamPacketsCardSaid := streamPackets.proved
end Go.Proofs.YtciepfobnaemmaaDoor
