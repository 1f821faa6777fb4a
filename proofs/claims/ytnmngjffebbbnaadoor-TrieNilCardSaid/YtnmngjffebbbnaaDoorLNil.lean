/- TrieNil. -/
import Derived.Test.YtnmngjffebbbnaaDoorU3
import Derived.Test.YtnmngjffebbbnaaDoorProg
set_option maxRecDepth 100000
namespace Go.G.YtnmngjffebbbnaaDoor
open Go.RowKit
open Value (string slice int bool agg)
def f6_J : Nat → List Nat × Nat := jOf []



theorem f6_go {w0 : World} {K : Value → AH → Prop} (b a : ByteArray) (h : AH)
  (hv : (EvC Proofs.Tryd.prog w0 11 #[(Value.pointer none), (string b), (string a), (int .i64 (1 : Int))] (fun t c => (∃ d : Bool, ((t = (bool d)) ∧ (brB (!d) (EvC Proofs.Tryd.prog w0 23 #[(Value.pointer none), (string b), (string a)] (fun u e => (∃ g : Bool, ((u = (bool g)) ∧ (brB (!g) (EvC Proofs.Tryd.prog w0 24 #[(Value.pointer none), (string a)] (fun v i => (∃ k : Int, ((v = (int .i64 k)) ∧ (brB (k == (0 : Int)) (EvC Proofs.Tryd.prog w0 12 #[(Value.pointer none)] (fun x m => (∃ n : Int, ((x = (int .i64 n)) ∧ (brB (n == (0 : Int)) (EvC Proofs.Tryd.prog w0 14 #[(Value.pointer none), (string b)] (fun y o => (∃ z : Option Addr, (∃ p : Nat, (∃ A : Nat, ((y = (slice z p A)) ∧ (brB (((p : Nat) : Int) == (0 : Int)) (EvC Proofs.Tryd.prog w0 21 #[(Value.pointer none), (string a)] (fun B q => (∃ C : Option Addr, (∃ r : Nat, (∃ D : Nat, ((B = (slice C r D)) ∧ (brB (((r : Nat) : Int) == (0 : Int)) (EvC Proofs.Tryd.prog w0 10 #[] (fun E F => (∃ s : Bool, ((E = (bool s)) ∧ (K (bool s) F)))) q) (K (bool false) q))))))) o) (K (bool false) o))))))) m) (K (bool false) m))))) i) (K (bool false) i))))) e) (K (bool false) e))))) c) (K (bool false) c))))) h)) :
  EvC Proofs.Tryd.prog w0 6 ([(.string b), (.string a)]).toArray K h := EvC_intro (P := Proofs.Tryd.prog) f6_J (Eq.mp (by kernel_rfl) hv)
/-! ### TrieNil -/
theorem f6_spec {w0 : World} {K : Value → AH → Prop} {f c : ByteArray} (T : TabOk w0) (hk : ∀ h', K (.bool true) h') : EvC Go.Proofs.Tryd.prog w0 6 #[.string f, .string c] K (fun _ => none) :=
  f6_go _ _ _ (f11_nil ⟨_, rfl, brB_of (fun _ => f23_nil ⟨_, rfl, brB_of (fun _ => f24_nil ⟨_, rfl, brB_of (fun _ => f12_nil ⟨_, rfl, brB_of (fun _ => f14_nil ⟨_, _, _, rfl, brB_of (fun _ => f21_nil ⟨_, _, _, rfl, brB_of (fun _ => f10_spec T Own.nil fun h' => ⟨_, rfl, hk h'⟩) fun z => absurd z (by decide)⟩) fun z => absurd z (by decide)⟩) fun z => absurd z (by decide)⟩) fun z => absurd z (by decide)⟩) fun z => by cases z⟩) fun z => by cases z⟩)
end Go.G.YtnmngjffebbbnaaDoor
