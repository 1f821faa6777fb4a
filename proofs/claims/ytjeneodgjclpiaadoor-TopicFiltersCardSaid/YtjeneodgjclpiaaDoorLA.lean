/- TopicFilters by the evaluator. -/
import Derived.Test.YtjeneodgjclpiaaDoorTJ
import Derived.Test.YtjeneodgjclpiaaDoorProg
set_option maxRecDepth 100000
namespace Go.G.YtjeneodgjclpiaaDoor
open Go.RowKit
def f3_J : Nat → List Nat × Nat := jOf []



theorem f3_go {w0 : World} {K : Value → AH → Prop} (x0 : ByteArray) (h : AH)
  (hv : (EvC Go.Proofs.Tryd.prog w0 11 #[(Go.Value.string x0)] (fun x'0 h'1 => (∃ t'2 : Bool, ((x'0 = (Go.Value.bool t'2)) ∧ (EvC Go.Proofs.Tryd.prog w0 12 #[(Go.Value.string x0)] (fun x'3 h'4 => (∃ t'5 : Bool, ((x'3 = (Go.Value.bool t'5)) ∧ (brB (t'2 == t'5) (EvC Go.Proofs.Tryd.prog w0 13 #[] (fun x'6 h'7 => (∃ t'8 : Bool, ((x'6 = (Go.Value.bool t'8)) ∧ (K (Go.Value.bool t'8) h'7)))) h'4) (K (Go.Value.bool false) h'4))))) h'1)))) h)) :
  EvC Go.Proofs.Tryd.prog w0 3 ([(.string x0)]).toArray K h := EvC_intro (P := Go.Proofs.Tryd.prog) f3_J (Eq.mp (by kernel_rfl) hv)
/-- TopicFilters. -/
theorem f3_spec {w0 : World} {K : Value → AH → Prop} {s : ByteArray} (T : TabOk w0) (hk : ∀ h, K (.bool true) h) : EvC Go.Proofs.Tryd.prog w0 3 #[.string s] K (fun _ => none) := by
  refine f3_go _ _ (f11_spec T Own.nil fun h1 w1 => ⟨_, rfl, f12_spec w1 fun h2 w2 => ⟨_, rfl, brB_of (fun _ => f13_spec T w2 fun h3 _ => ⟨_, rfl, hk h3⟩) fun q => by simp at q⟩⟩)
end Go.G.YtjeneodgjclpiaaDoor
