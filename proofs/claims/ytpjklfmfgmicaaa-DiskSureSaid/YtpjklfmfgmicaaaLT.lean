/- What the arguments are. -/
import Derived.Test.YtpjklfmfgmicaaaGTab
import Derived.Test.YtpjklfmfgmicaaaProg
set_option maxRecDepth 100000
namespace Go.G.Ytpjklfmfgmicaaa
open Go.RowKit
/-! ### arguments of this program's types -/
theorem bytes_of {W : World} {cs : List Value} (h : OkT Go.Proofs.Try.prog W 2 26 cs) : ∃ (a : Option Addr) (n c : Nat) (l : List UInt8), cs = [.slice a n c] ∧ n = l.length ∧ n ≤ c ∧ n ≤ 140737488355328 ∧ Rd0 W a (u8s l) := by
  obtain ⟨a, n, c, l, h1, h2, h3, h4, h5, h6⟩ := h.slice (e := 5) (k := 1) (by kernel_rfl) (by kernel_rfl) (enc := fun b : UInt8 => [.int .u8 b.toNat]) (Q := fun _ => True) (fun _ => rfl) fun ys hy _ => by
    obtain ⟨x, rfl, hw⟩ := hy.int (k := .u8) (by kernel_rfl)
    have hb : 0 ≤ x ∧ x ≤ 255 := by simpa [Lit.wf, IntKind.min, IntKind.max, IntKind.signed, IntKind.bits] using hw
    refine ⟨UInt8.ofNat x.toNat, ?_, trivial⟩
    rw [UInt8.toNat_ofNat', Nat.mod_eq_of_lt (by omega), Int.toNat_of_nonneg hb.1]
  refine ⟨a, n, c, l, h1, h2, h3, ?_, ?_⟩
  · have : Go.Proofs.Try.prog.bytesOf 5 = 1 := by kernel_rfl
    rw [this] at h4; omega
  · have : u8s l = l.flatMap fun b : UInt8 => [Value.int .u8 b.toNat] := by
      clear h2 h5 h6
      induction l with
      | nil => rfl
      | cons b l ih => rw [List.flatMap_cons, ← ih]; rfl
    rw [this]; exact h5
theorem wf64 {x : Int} (h : (Lit.int .i64 x).wf = true) : -9223372036854775808 ≤ x ∧ x ≤ 9223372036854775807 := by
  simpa [Lit.wf, IntKind.min, IntKind.max, IntKind.signed, IntKind.bits] using h

/-- One of several rows of bytes. -/
structure Bs where
  a : Option Addr
  c : Nat
  l : List UInt8
def Bs.val (b : Bs) : Value := .slice b.a b.l.length b.c
structure Bs.Ok (W : World) (b : Bs) : Prop where
  le : b.l.length ≤ b.c
  sm : b.l.length ≤ 140737488355328
  rd : Rd0 W b.a (u8s b.l)
structure BSS (W : World) (a : Option Addr) (n c : Nat) (l : List Bs) : Prop where
  len : n = l.length
  le : n ≤ c
  sm : n ≤ 140737488355328
  rd : Rd0 W a (l.map Bs.val)
  ok : ∀ b ∈ l, b.Ok W
theorem bytess_of {W : World} {cs : List Value} (h : OkT Go.Proofs.Try.prog W 3 34 cs) : ∃ (a : Option Addr) (n c : Nat) (l : List Bs), cs = [.slice a n c] ∧ BSS W a n c l := by
  obtain ⟨a, n, c, l, h1, h2, h3, h4, h5, h6⟩ := h.slice (e := 26) (k := 1) (by kernel_rfl) (by kernel_rfl) (enc := fun b : Bs => [b.val]) (Q := fun b => b.Ok W) (fun _ => rfl) fun ys hy _ => by
    obtain ⟨a, n, c, l, rfl, rfl, h2, h3, h4⟩ := bytes_of hy
    exact ⟨⟨a, c, l⟩, rfl, h2, h3, h4⟩
  have h7 : Go.Proofs.Try.prog.bytesOf 26 = 24 := by kernel_rfl
  rw [h7] at h4
  refine ⟨a, n, c, l, h1, h2, h3, by omega, ?_, h6⟩
  have : l.map Bs.val = l.flatMap fun b : Bs => [b.val] := by
    clear h2 h5 h6
    induction l with
    | nil => rfl
    | cons b l ih => rw [List.flatMap_cons, ← ih]; rfl
  rw [this]; exact h5
end Go.G.Ytpjklfmfgmicaaa
