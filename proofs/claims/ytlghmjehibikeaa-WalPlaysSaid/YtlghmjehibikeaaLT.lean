/- What the arguments are. -/
import Derived.Test.YtlghmjehibikeaaGTab
import Derived.Test.YtlghmjehibikeaaDS
import Derived.Test.YtlghmjehibikeaaProg
set_option maxRecDepth 100000
namespace Go.G.Ytlghmjehibikeaa
open Go.RowKit
/-! ### ints -/
theorem wf64 {x : Int} (h : (Lit.int .i64 x).wf = true) : -9223372036854775808 ≤ x ∧ x ≤ 9223372036854775807 := by
  simpa [Lit.wf, IntKind.min, IntKind.max, IntKind.signed, IntKind.bits] using h
theorem picks_of {W : World} {cs : List Value} (h : OkT Go.Proofs.Try.prog W 2 39 cs) : ∃ (a : Option Addr) (n c : Nat) (l : List Int), cs = [.slice a n c] ∧ n = l.length ∧ PickOk W a c l ∧ l.length ≤ 140737488355328 := by
  obtain ⟨a, n, c, l, h1, h2, h3, h4, h5, h6⟩ := h.slice (e := 3) (k := 1) (by kernel_rfl) (by kernel_rfl) (enc := fun x : Int => [.int .i64 x]) (Q := fun x => -9223372036854775808 ≤ x ∧ x ≤ 9223372036854775807) (fun _ => rfl) fun ys hy _ => by
    obtain ⟨x, rfl, hw⟩ := hy.int (k := .i64) (by kernel_rfl)
    exact ⟨x, rfl, wf64 hw⟩
  subst h2
  have hb : Go.Proofs.Try.prog.bytesOf 3 = 8 := by kernel_rfl
  rw [hb] at h4
  refine ⟨a, _, c, l, h1, rfl, ⟨h3, fun h => ?_, h6⟩, by omega⟩
  have : i64s l = l.flatMap fun x : Int => [Value.int .i64 x] := by
    clear h1 h3 h4 h5 h6
    induction l with
    | nil => rfl
    | cons b l ih => rw [List.flatMap_cons, ← ih]; rfl
  rw [this]; exact h5.rd h
/-! ### truths -/
def boolsV (l : List Bool) : List Value := l.map Value.bool
structure BoolsOk (W : World) (a : Option Addr) (c : Nat) (l : List Bool) : Prop where
  le : l.length ≤ c
  rd : ∀ h, Rd W h a (boolsV l)
theorem bools_of {W : World} {cs : List Value} (h : OkT Go.Proofs.Try.prog W 2 40 cs) : ∃ (a : Option Addr) (n c : Nat) (l : List Bool), cs = [.slice a n c] ∧ n = l.length ∧ BoolsOk W a c l := by
  obtain ⟨a, n, c, l, h1, h2, h3, h4, h5, h6⟩ := h.slice (e := 4) (k := 1) (by kernel_rfl) (by kernel_rfl) (enc := fun x : Bool => [.bool x]) (Q := fun _ => True) (fun _ => rfl) fun ys hy _ => by
    obtain ⟨x, rfl⟩ := hy.bool (by kernel_rfl)
    exact ⟨x, rfl, trivial⟩
  subst h2
  refine ⟨a, _, c, l, h1, rfl, h3, fun h => ?_⟩
  have : boolsV l = l.flatMap fun x : Bool => [Value.bool x] := by
    clear h1 h3 h4 h5 h6
    induction l with
    | nil => rfl
    | cons b l ih => rw [List.flatMap_cons, ← ih]; rfl
  rw [this]; exact h5.rd h
end Go.G.Ytlghmjehibikeaa
