/- The law TrieCovers holds: Whom a filter's topic meets a covering filter's meets as well: with the covering one added to a client it is met by all that met it, and its quality is no less. No condition. The frame follows the guide's worked texts; the walk is the evaluator's (G). -/
import Derived.Test.YtnmngjffebbbnaaDoorRows
import Derived.Test.YtnmngjffebbbnaaDoorCards
import Derived.Test.YtnmngjffebbbnaaDoorTie
import Derived.Test.YtnmngjffebbbnaaDoorLW
import Derived.Test.YtnmngjffebbbnaaDoorLCovers
import Derived.WalkKit
import Derived.ProofKit
import Derived.OpenShut
import Derived.ShutString
import Derived.ChangeOld
import Derived.Below
import Derived.SizedLaws
import Derived.LaidLaws
import Derived.Handed
import Derived.SevenTiedAt
namespace Go.Proofs.YtnmngjffebbbnaaDoor.trieCovers
open Go.ChangeShapes Go.WideShapes Go.ChangeAt Go.RowKit
theorem own : ownKnob Tryd.prog.godebug = none := by kernel_rfl
theorem laidOut : laidOutB Tryd.prog = true := by kernel_rfl
set_option maxRecDepth 100000 in
theorem lifted (os : Os) (started : os.Started) (H : Type) (enc : TypeId × Value → H) :
    ReturnsInHanded {} Tryd.checked os 4 .any (fun w args => (Rows.trieCoversSpec.pre enc Tryd.prog Tryd.f4 Rows.trieCoversRow.domain false w args ∧ laidMet Tryd.prog Rows.trieCoversRow.laid w) ∧ sizedMet enc Tryd.prog Tryd.f4 (OpenSpec.ofChange Rows.trieCoversSpec) false w args)
      (Rows.trieCoversSpec.post enc Tryd.prog Tryd.f4 false true false false) := by
  refine returnsInHanded_of_change_and (C := Tryd.checked) (X := fun w _ => laidMet Tryd.prog Rows.trieCoversRow.laid w) (fun _ _ _ hh h => h.of_heap hh) own started (by kernel_rfl) Tryd.func4
    (ChangeSpec.witness_at (enc := enc) (C := Tryd.checked) (os := os) (X := fun w _ => laidMet Tryd.prog Rows.trieCoversRow.laid w) false (Go.G.YtnmngjffebbbnaaDoor.laidWorld os) #[.slice none 0 0, .string ⟨#[]⟩, .string ⟨#[]⟩, .string ⟨#[]⟩, .string ⟨#[]⟩] 8 rfl (by kernel_rfl) (by kernel_rfl) (by kernel_rfl) (by kernel_rfl) (by kernel_rfl) (Go.G.YtnmngjffebbbnaaDoor.laid_met os _)) ?_
  intro W base args ds gs before hval0 hW hcnd hsz0 hL _
  have T : Go.G.YtnmngjffebbbnaaDoor.TabOk W := Go.G.YtnmngjffebbbnaaDoor.tab_of_laid hL
  have hsz : (DataW.weightsEach Tryd.prog (Tryd.f4.params.toList ++ Rows.trieCoversSpec.plain.varTypes Tryd.prog) (ds ++ gs)).all (· ≤ reachBytes) = true := hsz0
  have hval : ∀ (j : Nat) t v, Tryd.f4.params[j]? = some t → args[j]? = some v → Value.okWide Tryd.prog W .any base t v := hval0
  have hW' := hW
  obtain ⟨p, q, hA0, hV, rfl, hfz, hnd⟩ := hW
  have hA : DataW.TrodAll enc Tryd.prog W 0 (fun _ => true) true Tryd.f4.params.toList args.toList ds p := hA0
  rw [Tryd.params4] at hA hval hsz
  obtain ⟨v0, vs0, d0, ds0, p0, q0, hargs, rfl, rfl, h0, r0⟩ := trodAll_cons hA
  obtain ⟨v1, vs1, d1, ds1, p1, q1, rfl, rfl, rfl, h1, r1⟩ := trodAll_cons r0
  obtain ⟨v2, vs2, d2, ds2, p2, q2, rfl, rfl, rfl, h2, r2⟩ := trodAll_cons r1
  obtain ⟨v3, vs3, d3, ds3, p3, q3, rfl, rfl, rfl, h3, r3⟩ := trodAll_cons r2
  obtain ⟨v4, vs4, d4, ds4, p4, q4, rfl, rfl, rfl, h4, r4⟩ := trodAll_cons r3
  obtain ⟨rfl, rfl, rfl⟩ := trodAll_nil r4
  obtain rfl : args = #[v0, v1, v2, v3, v4] := by cases args; simp_all
  obtain ⟨rfl, rfl⟩ := trodVars_none hV
  have k0 := h0
  have lt0 : ∀ x ∈ p0, x.block < W.heap.size := by obtain ⟨m, hm⟩ := k0; exact DataW.trod_lt m _ _ _ hm
  have o0 : Go.G.OkT Tryd.prog W 4 22 v0.cells.toList := Go.G.okT_arg 4 h0 hsz (j := 0) rfl rfl
  obtain ⟨a0, n0, c0, rfl⟩ := okWide_slice Tryd.underlying22 (hval 0 22 v0 rfl rfl)
  obtain ⟨a0', n0', c0', x0, e0, s0, s0c, s0m, s0r, s0k⟩ := Go.G.YtnmngjffebbbnaaDoor.calls_of (v := 0) o0
  simp [Value.cells] at e0
  obtain ⟨rfl, rfl, rfl⟩ := e0
  have k1 := h1
  have lt1 : ∀ x ∈ p1, x.block < W.heap.size := by obtain ⟨m, hm⟩ := k1; exact DataW.trod_lt m _ _ _ hm
  have o1 : Go.G.OkT Tryd.prog W 1 9 v1.cells.toList := Go.G.okT_arg 1 h1 hsz (j := 1) rfl rfl
  obtain ⟨x1, rfl⟩ := okWide_string Tryd.underlying9 (hval 1 9 v1 rfl rfl)
  obtain ⟨y1, e1, w1⟩ := o1.string (by kernel_rfl)
  simp [Value.cells] at e1
  obtain rfl := e1
  have k2 := h2
  have lt2 : ∀ x ∈ p2, x.block < W.heap.size := by obtain ⟨m, hm⟩ := k2; exact DataW.trod_lt m _ _ _ hm
  have o2 : Go.G.OkT Tryd.prog W 1 9 v2.cells.toList := Go.G.okT_arg 1 h2 hsz (j := 2) rfl rfl
  obtain ⟨x2, rfl⟩ := okWide_string Tryd.underlying9 (hval 2 9 v2 rfl rfl)
  obtain ⟨y2, e2, w2⟩ := o2.string (by kernel_rfl)
  simp [Value.cells] at e2
  obtain rfl := e2
  have k3 := h3
  have lt3 : ∀ x ∈ p3, x.block < W.heap.size := by obtain ⟨m, hm⟩ := k3; exact DataW.trod_lt m _ _ _ hm
  have o3 : Go.G.OkT Tryd.prog W 1 9 v3.cells.toList := Go.G.okT_arg 1 h3 hsz (j := 3) rfl rfl
  obtain ⟨x3, rfl⟩ := okWide_string Tryd.underlying9 (hval 3 9 v3 rfl rfl)
  obtain ⟨y3, e3, w3⟩ := o3.string (by kernel_rfl)
  simp [Value.cells] at e3
  obtain rfl := e3
  have k4 := h4
  have lt4 : ∀ x ∈ p4, x.block < W.heap.size := by obtain ⟨m, hm⟩ := k4; exact DataW.trod_lt m _ _ _ hm
  have o4 : Go.G.OkT Tryd.prog W 1 9 v4.cells.toList := Go.G.okT_arg 1 h4 hsz (j := 4) rfl rfl
  obtain ⟨x4, rfl⟩ := okWide_string Tryd.underlying9 (hval 4 9 v4 rfl rfl)
  obtain ⟨y4, e4, w4⟩ := o4.string (by kernel_rfl)
  simp [Value.cells] at e4
  obtain rfl := e4
  have hev : Go.G.EvC Tryd.prog W 4 #[.slice a0 n0 c0, .string x1, .string x2, .string x3, .string x4] (fun x _ => x = .bool true) (fun _ => none) :=
    by subst s0; exact Go.G.YtnmngjffebbbnaaDoor.f4_spec (K := fun x _ => x = .bool true) T s0r s0m fun h => rfl
  refine (Go.G.law_holds (by kernel_rfl) hev).mono fun e W' ⟨he, bel⟩ => ?_
  subst he
  exact ⟨_, rfl, _, _, _, [], _, [], hW', trodAll_mk1 (shut_bool Tryd.underlying4 _), (trodAll_cons_mk (Below.trod laidOut (by kernel_rfl) (of_decide_eq_true (by kernel_rfl)) k0 bel lt0) (trodAll_cons_mk (Below.trod laidOut (by kernel_rfl) (of_decide_eq_true (by kernel_rfl)) k1 bel lt1) (trodAll_cons_mk (Below.trod laidOut (by kernel_rfl) (of_decide_eq_true (by kernel_rfl)) k2 bel lt2) (trodAll_cons_mk (Below.trod laidOut (by kernel_rfl) (of_decide_eq_true (by kernel_rfl)) k3 bel lt3) (trodAll_cons_mk (Below.trod laidOut (by kernel_rfl) (of_decide_eq_true (by kernel_rfl)) k4 bel lt4) trodAll_mk0))))), rfl, bel.frame _, fun h => by cases h⟩
theorem over : Rows.trieCoversRow.holds Tryd.pinned (OpenSpec.ofChange Rows.trieCoversSpec) :=
  OpenClaim.holds_of_wide 4 Tryd.f4 rfl rfl rfl rfl rfl rfl rfl ⟨rfl, rfl, rfl, rfl, rfl⟩ rfl rfl rfl rfl rfl (by kernel_rfl) Tryd.func4 (by kernel_rfl)
    (of_decide_eq_true (by kernel_rfl)) (by unfold Func.isWrapper; first | (rw [if_pos (by decide +kernel)]; kernel_rfl) | (rw [if_neg (by decide +kernel)]; exact ⟨rfl, rfl⟩))
    (fun os started H enc _ => lifted os started H enc)
/-- The row's tied card. -/
theorem proved : Rows.TrieCoversCardSaid :=
  Claim7.holds_tied_plain_at .later [] [.data, .pinned] true (true, "077bb4ee311e4e12f670baa190a16d91e993ef83ccc181d6a24d8e661ba11a92") false
    over (fun _ h => by cases h) (by kernel_rfl) (fun _ h => by cases h) trieCovers_row_tie rfl ⟨rfl, rfl⟩ (by kernel_rfl) rfl
    (fun f fn hf hfn => by
      obtain rfl : f = 4 := Option.some.inj ((show Tryd.prog.funcNamed "halyard/halyardlaw22.TrieCovers" = some 4 by kernel_rfl).symm.trans hf) |>.symm
      obtain rfl : fn = Tryd.f4 := (Option.some.inj (Tryd.func4.symm.trans hfn)).symm
      exact ⟨by kernel_rfl, fun j t ht => by
        rw [Tryd.params4] at ht
        have hm : t = 22 ∨ t = 9 := by
          have := Array.mem_of_getElem? ht
          simpa using this
        rcases hm with rfl | rfl
        · exact (show Tryd.prog.wantsStandIn 22 = false by kernel_rfl)
        · exact (show Tryd.prog.wantsStandIn 9 = false by kernel_rfl)⟩)
    (by kernel_rfl)
end Go.Proofs.YtnmngjffebbbnaaDoor.trieCovers
namespace Go.Proofs.YtnmngjffebbbnaaDoor
/-- The card, under a short name, for the claim. -/
theorem trieCovers_holds : Rows.TrieCoversCardSaid := trieCovers.proved
end Go.Proofs.YtnmngjffebbbnaaDoor
