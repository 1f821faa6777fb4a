/- PickFull by the evaluator. -/
import Derived.Test.YtpnhlgghpciofaaLE
import Derived.Test.YtpnhlgghpciofaaLA
import Derived.Test.YtpnhlgghpciofaaProg
set_option maxRecDepth 100000
namespace Go.G.Ytpnhlgghpciofaa
open Go.RowKit
def f5_J : Nat → List Nat × Nat := jOf []



theorem f5_go {w0 : World} {K : Value → AH → Prop} (a0 : Option Go.Addr) (n0 : Nat) (c0 : Nat) (x1 : Int) (h : AH)
  (hv : (EvC Go.Proofs.Try.prog w0 18 #[(Go.Value.slice a0 n0 c0)] (fun x'0 h'1 => (∃ i'2 : Int, (∃ i'3 : Int, (∃ i'4 : Int, (∃ p'5 : Option Go.Addr, (∃ n'6 : Nat, (∃ n'7 : Nat, ((x'0 = (Go.Value.agg #[(Go.Value.int .i64 i'2), (Go.Value.int .i64 i'3), (Go.Value.int .i64 i'4), (Go.Value.slice p'5 n'6 n'7)])) ∧ (EvC Go.Proofs.Try.prog w0 19 #[(Go.Value.agg #[(Go.Value.int .i64 i'2), (Go.Value.int .i64 i'3), (Go.Value.int .i64 i'4), (Go.Value.slice p'5 n'6 n'7)]), (Go.Value.int .i64 x1)] (fun x'8 h'9 => (∃ t'10 : Bool, ((x'8 = (Go.Value.bool t'10)) ∧ (EvC Go.Proofs.Try.prog w0 20 #[(Go.Value.agg #[(Go.Value.int .i64 i'2), (Go.Value.int .i64 i'3), (Go.Value.int .i64 i'4), (Go.Value.slice p'5 n'6 n'7)]), (Go.Value.int .i64 x1)] (fun x'11 h'12 => (∃ t'13 : Bool, ((x'11 = (Go.Value.bool t'13)) ∧ (brB (t'10 == t'13) (EvC Go.Proofs.Try.prog w0 17 #[] (fun x'14 h'15 => (∃ t'16 : Bool, ((x'14 = (Go.Value.bool t'16)) ∧ (K (Go.Value.bool t'16) h'15)))) h'12) (K (Go.Value.bool false) h'12))))) h'9)))) h'1))))))))) h)) :
  EvC Go.Proofs.Try.prog w0 5 ([(.slice a0 n0 c0), (.int .i64 x1)]).toArray K h := EvC_intro (P := Go.Proofs.Try.prog) f5_J (Eq.mp (by kernel_rfl) hv)
/-- PickFull holds. -/
theorem f5_spec {w0 : World} {K : Value → AH → Prop} {h : AH} {a : Option Addr} {n c : Nat} {ts : List Tab} {x : Int} (s : TS w0 h a n c ts) (hk : ∀ h', Ext h h' none → K (.bool true) h') : EvC Go.Proofs.Try.prog w0 5 #[.slice a n c, .int .i64 x] K h := by
  refine f5_go _ _ _ _ _ (f18_spec s fun a' n' c' h' s' x' => ⟨_, _, _, _, _, _, rfl, ?_⟩)
  have hm := laidR_may ts
  have hlen := mayV_len hm
  have hl := s'.len
  have hsz : ∀ t ∈ (laidR ts).ts, 1 ≤ t.siz ∧ t.siz ≤ 4194304 := fun t ht => mayT_siz (mayV_all hm t ht)
  refine f19_spec s' (by omega) hsz fun h1 x1 => ⟨_, rfl, f20_spec (s'.ext x1) (by omega) hsz fun h2 x2 => ⟨_, rfl, brB_of (fun _ => f17_spec fun h3 x3 => ⟨_, rfl, ?_⟩) fun q => by simp at q⟩⟩
  exact hk h3 (((x'.trans x1).trans x2).trans x3)
end Go.G.Ytpnhlgghpciofaa
