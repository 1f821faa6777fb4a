/- Picks as an argument. -/
import Derived.Test.YtpjklfmfgmicaaaDS
import Derived.Test.YtpjklfmfgmicaaaLT
import Derived.Test.YtpjklfmfgmicaaaProg
set_option maxRecDepth 100000
namespace Go.G.Ytpjklfmfgmicaaa
open Go.RowKit
theorem picks_of {W : World} {cs : List Value} (h : OkT Go.Proofs.Try.prog W 2 46 cs) : ∃ (a : Option Addr) (n c : Nat) (l : List Int), cs = [.slice a n c] ∧ n = l.length ∧ PickOk W a c l := by
  obtain ⟨a, n, c, l, h1, h2, h3, h4, h5, h6⟩ := h.slice (e := 3) (k := 1) (by kernel_rfl) (by kernel_rfl) (enc := fun x : Int => [.int .i64 x]) (Q := fun x => -9223372036854775808 ≤ x ∧ x ≤ 9223372036854775807) (fun _ => rfl) fun ys hy _ => by
    obtain ⟨x, rfl, hw⟩ := hy.int (k := .i64) (by kernel_rfl)
    exact ⟨x, rfl, wf64 hw⟩
  subst h2
  refine ⟨a, _, c, l, h1, rfl, h3, fun h => ?_, h6⟩
  have : i64s l = l.flatMap fun x : Int => [Value.int .i64 x] := by
    clear h1 h3 h4 h5 h6
    induction l with
    | nil => rfl
    | cons b l ih => rw [List.flatMap_cons, ← ih]; rfl
  rw [this]; exact h5.rd h
end Go.G.Ytpjklfmfgmicaaa
