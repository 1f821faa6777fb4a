/- The law PacketTurned holds: A packet's bytes with some as other ones, cut off, or with more behind, and the length as it should be, or not. No condition. The frame follows the guide's worked texts; the walk is the evaluator's (G). -/
import Derived.Test.YtciepfobnaemmaaDoorRows
import Derived.Test.YtciepfobnaemmaaDoorCards
import Derived.Test.YtciepfobnaemmaaDoorTie
import Derived.Test.YtciepfobnaemmaaDoorLW
import Derived.Test.YtciepfobnaemmaaDoorPT
import Derived.Test.YtciepfobnaemmaaDoorQK
import Derived.WalkKit
import Derived.ProofKit
import Derived.OpenShut
import Derived.ShutString
import Derived.ChangeOld
import Derived.Below
import Derived.SizedLaws
import Derived.LaidLaws
import Derived.Handed
import Derived.SevenTiedAt
namespace Go.Proofs.YtciepfobnaemmaaDoor.packetTurned
open Go.ChangeShapes Go.WideShapes Go.ChangeAt Go.RowKit
theorem own : ownKnob Tryd.prog.godebug = none := by kernel_rfl
theorem laidOut : laidOutB Tryd.prog = true := by kernel_rfl
set_option maxRecDepth 100000 in
theorem lifted (os : Os) (started : os.Started) (H : Type) (enc : TypeId × Value → H) :
    ReturnsInHanded {} Tryd.checked os 4 .any (fun w args => (Rows.packetTurnedSpec.pre enc Tryd.prog Tryd.f4 Rows.packetTurnedRow.domain false w args ∧ laidMet Tryd.prog Rows.packetTurnedRow.laid w) ∧ sizedMet enc Tryd.prog Tryd.f4 (OpenSpec.ofChange Rows.packetTurnedSpec) false w args)
      (Rows.packetTurnedSpec.post enc Tryd.prog Tryd.f4 false true false false) := by
  refine returnsInHanded_of_change_and (C := Tryd.checked) (X := fun w _ => laidMet Tryd.prog Rows.packetTurnedRow.laid w) (fun _ _ _ hh h => h.of_heap hh) own started (by kernel_rfl) Tryd.func4
    (ChangeSpec.witness_at (enc := enc) (C := Tryd.checked) (os := os) (X := fun w _ => laidMet Tryd.prog Rows.packetTurnedRow.laid w) false (Go.G.YtciepfobnaemmaaDoor.laidWorld os) #[.agg #[.int .i64 0, .int .i64 0, .bool false, .string ⟨#[]⟩, .slice none 0 0, .int .i64 0, .bool false, .int .i64 0, .string ⟨#[]⟩, .bool false, .int .i64 0, .bool false, .bool false, .int .i64 0, .slice none 0 0, .slice none 0 0], .slice none 0 0, .int .u8 0, .int .i64 0, .slice none 0 0, .bool false] 8 rfl (by kernel_rfl) (by kernel_rfl) (by kernel_rfl) (by kernel_rfl) (by kernel_rfl) (Go.G.YtciepfobnaemmaaDoor.laid_met os _)) ?_
  intro W base args ds gs before hval0 hW hcnd hsz0 hL _
  have T : Go.G.YtciepfobnaemmaaDoor.TabOk W := Go.G.YtciepfobnaemmaaDoor.tab_of_laid hL
  have hsz : (DataW.weightsEach Tryd.prog (Tryd.f4.params.toList ++ Rows.packetTurnedSpec.plain.varTypes Tryd.prog) (ds ++ gs)).all (· ≤ reachBytes) = true := hsz0
  have hval : ∀ (j : Nat) t v, Tryd.f4.params[j]? = some t → args[j]? = some v → Value.okWide Tryd.prog W .any base t v := hval0
  have hW' := hW
  obtain ⟨p, q, hA0, hV, rfl, hfz, hnd⟩ := hW
  have hA : DataW.TrodAll enc Tryd.prog W 0 (fun _ => true) true Tryd.f4.params.toList args.toList ds p := hA0
  rw [Tryd.params4] at hA hval hsz
  obtain ⟨v0, vs0, d0, ds0, p0, q0, hargs, rfl, rfl, h0, r0⟩ := trodAll_cons hA
  obtain ⟨v1, vs1, d1, ds1, p1, q1, rfl, rfl, rfl, h1, r1⟩ := trodAll_cons r0
  obtain ⟨v2, vs2, d2, ds2, p2, q2, rfl, rfl, rfl, h2, r2⟩ := trodAll_cons r1
  obtain ⟨v3, vs3, d3, ds3, p3, q3, rfl, rfl, rfl, h3, r3⟩ := trodAll_cons r2
  obtain ⟨v4, vs4, d4, ds4, p4, q4, rfl, rfl, rfl, h4, r4⟩ := trodAll_cons r3
  obtain ⟨v5, vs5, d5, ds5, p5, q5, rfl, rfl, rfl, h5, r5⟩ := trodAll_cons r4
  obtain ⟨rfl, rfl, rfl⟩ := trodAll_nil r5
  obtain rfl : args = #[v0, v1, v2, v3, v4, v5] := by cases args; simp_all
  obtain ⟨rfl, rfl⟩ := trodVars_none hV
  have k0 := h0
  have lt0 : ∀ x ∈ p0, x.block < W.heap.size := by obtain ⟨m, hm⟩ := k0; exact DataW.trod_lt m _ _ _ hm
  have o0 : Go.G.OkT Tryd.prog W 5 28 v0.cells.toList := Go.G.okT_arg 5 h0 hsz (j := 0) rfl rfl
  obtain ⟨cs0, rfl, _⟩ := okWide_struct Tryd.underlying28 (hval 0 28 v0 rfl rfl)
  obtain ⟨x0, e0, s0⟩ := Go.G.YtciepfobnaemmaaDoor.packet_of (v := 0) o0
  obtain rfl : cs0 = x0.cells.toArray := by cases cs0; simpa [Value.cells] using e0
  have k1 := h1
  have lt1 : ∀ x ∈ p1, x.block < W.heap.size := by obtain ⟨m, hm⟩ := k1; exact DataW.trod_lt m _ _ _ hm
  have o1 : Go.G.OkT Tryd.prog W 2 26 v1.cells.toList := Go.G.okT_arg 2 h1 hsz (j := 1) rfl rfl
  obtain ⟨a1, n1, c1, rfl⟩ := okWide_slice Tryd.underlying26 (hval 1 26 v1 rfl rfl)
  obtain ⟨a1', n1', c1', x1, e1, s1, s1c, s1m, s1r, s1k⟩ := Go.G.YtciepfobnaemmaaDoor.ints_of (v := 0) o1
  simp [Value.cells] at e1
  obtain ⟨rfl, rfl, rfl⟩ := e1
  have k2 := h2
  have lt2 : ∀ x ∈ p2, x.block < W.heap.size := by obtain ⟨m, hm⟩ := k2; exact DataW.trod_lt m _ _ _ hm
  have o2 : Go.G.OkT Tryd.prog W 1 5 v2.cells.toList := Go.G.okT_arg 1 h2 hsz (j := 2) rfl rfl
  obtain ⟨x2, rfl⟩ := okWide_int Tryd.underlying5 (hval 2 5 v2 rfl rfl)
  obtain ⟨y2, e2, w2⟩ := o2.int (k := .u8) (by kernel_rfl)
  simp [Value.cells] at e2
  obtain rfl := e2
  have k3 := h3
  have lt3 : ∀ x ∈ p3, x.block < W.heap.size := by obtain ⟨m, hm⟩ := k3; exact DataW.trod_lt m _ _ _ hm
  have o3 : Go.G.OkT Tryd.prog W 1 3 v3.cells.toList := Go.G.okT_arg 1 h3 hsz (j := 3) rfl rfl
  obtain ⟨x3, rfl⟩ := okWide_int Tryd.underlying3 (hval 3 3 v3 rfl rfl)
  obtain ⟨y3, e3, w3⟩ := o3.int (k := .i64) (by kernel_rfl)
  simp [Value.cells] at e3
  obtain rfl := e3
  have k4 := h4
  have lt4 : ∀ x ∈ p4, x.block < W.heap.size := by obtain ⟨m, hm⟩ := k4; exact DataW.trod_lt m _ _ _ hm
  have o4 : Go.G.OkT Tryd.prog W 2 22 v4.cells.toList := Go.G.okT_arg 2 h4 hsz (j := 4) rfl rfl
  obtain ⟨a4, n4, c4, rfl⟩ := okWide_slice Tryd.underlying22 (hval 4 22 v4 rfl rfl)
  obtain ⟨a4', n4', c4', x4, e4, s4, s4c, s4m, s4r⟩ := Go.G.YtciepfobnaemmaaDoor.bytes_of o4
  simp [Value.cells] at e4
  obtain ⟨rfl, rfl, rfl⟩ := e4
  have k5 := h5
  have lt5 : ∀ x ∈ p5, x.block < W.heap.size := by obtain ⟨m, hm⟩ := k5; exact DataW.trod_lt m _ _ _ hm
  have o5 : Go.G.OkT Tryd.prog W 1 4 v5.cells.toList := Go.G.okT_arg 1 h5 hsz (j := 5) rfl rfl
  obtain ⟨x5, rfl⟩ := okWide_bool Tryd.underlying4 (hval 5 4 v5 rfl rfl)
  have hev : Go.G.EvC Tryd.prog W 4 #[.agg x0.cells.toArray, .slice a1 n1 c1, .int .u8 x2, .int .i64 x3, .slice a4 n4 c4, .bool x5] (fun x _ => x = .bool true) (fun _ => none) :=
    by subst s1 s4; exact Go.G.YtciepfobnaemmaaDoor.f4_spec (K := fun x _ => x = .bool true) T s0 s1r s1m s4r fun h => rfl
  refine (Go.G.law_holds (by kernel_rfl) hev).mono fun e W' ⟨he, bel⟩ => ?_
  subst he
  exact ⟨_, rfl, _, _, _, [], _, [], hW', trodAll_mk1 (shut_bool Tryd.underlying4 _), (trodAll_cons_mk (Below.trod laidOut (by kernel_rfl) (of_decide_eq_true (by kernel_rfl)) k0 bel lt0) (trodAll_cons_mk (Below.trod laidOut (by kernel_rfl) (of_decide_eq_true (by kernel_rfl)) k1 bel lt1) (trodAll_cons_mk (Below.trod laidOut (by kernel_rfl) (of_decide_eq_true (by kernel_rfl)) k2 bel lt2) (trodAll_cons_mk (Below.trod laidOut (by kernel_rfl) (of_decide_eq_true (by kernel_rfl)) k3 bel lt3) (trodAll_cons_mk (Below.trod laidOut (by kernel_rfl) (of_decide_eq_true (by kernel_rfl)) k4 bel lt4) (trodAll_cons_mk (Below.trod laidOut (by kernel_rfl) (of_decide_eq_true (by kernel_rfl)) k5 bel lt5) trodAll_mk0)))))), rfl, bel.frame _, fun h => by cases h⟩
theorem over : Rows.packetTurnedRow.holds Tryd.pinned (OpenSpec.ofChange Rows.packetTurnedSpec) :=
  OpenClaim.holds_of_wide 4 Tryd.f4 rfl rfl rfl rfl rfl rfl rfl ⟨rfl, rfl, rfl, rfl, rfl⟩ rfl rfl rfl rfl rfl (by kernel_rfl) Tryd.func4 (by kernel_rfl)
    (of_decide_eq_true (by kernel_rfl)) (by unfold Func.isWrapper; first | (rw [if_pos (by decide +kernel)]; kernel_rfl) | (rw [if_neg (by decide +kernel)]; exact ⟨rfl, rfl⟩))
    (fun os started H enc _ => lifted os started H enc)
/-- The row's tied card. -/
theorem proved : Rows.PacketTurnedCardSaid :=
  Claim7.holds_tied_plain_at .later [] [.data, .pinned] true (true, "984a2a7fdcfb67d5aad7c231d34745481983440e5941f697502ff8febecd2071") false
    over (fun _ h => by cases h) (by kernel_rfl) (fun _ h => by cases h) packetTurned_row_tie rfl ⟨rfl, rfl⟩ (by kernel_rfl) rfl
    (fun f fn hf hfn => by
      obtain rfl : f = 4 := Option.some.inj ((show Tryd.prog.funcNamed "halyard/halyardlaw23.PacketTurned" = some 4 by kernel_rfl).symm.trans hf) |>.symm
      obtain rfl : fn = Tryd.f4 := (Option.some.inj (Tryd.func4.symm.trans hfn)).symm
      exact ⟨by kernel_rfl, fun j t ht => by
        rw [Tryd.params4] at ht
        have hm : t = 28 ∨ t = 26 ∨ t = 5 ∨ t = 3 ∨ t = 22 ∨ t = 4 := by
          have := Array.mem_of_getElem? ht
          simpa using this
        rcases hm with rfl | rfl | rfl | rfl | rfl | rfl
        · exact (show Tryd.prog.wantsStandIn 28 = false by kernel_rfl)
        · exact (show Tryd.prog.wantsStandIn 26 = false by kernel_rfl)
        · exact (show Tryd.prog.wantsStandIn 5 = false by kernel_rfl)
        · exact (show Tryd.prog.wantsStandIn 3 = false by kernel_rfl)
        · exact (show Tryd.prog.wantsStandIn 22 = false by kernel_rfl)
        · exact (show Tryd.prog.wantsStandIn 4 = false by kernel_rfl)⟩)
    (by kernel_rfl)
end Go.Proofs.YtciepfobnaemmaaDoor.packetTurned
namespace Go.Proofs.YtciepfobnaemmaaDoor
/-- The card, under a short name, for the claim. -/
theorem packetTurned_holds : Rows.PacketTurnedCardSaid := packetTurned.proved
end Go.Proofs.YtciepfobnaemmaaDoor
