/- Calls as arguments; do, model, like. -/
import Derived.Test.YtpjklfmfgmicaaaLU
import Derived.Test.YtpjklfmfgmicaaaDT
import Derived.Test.YtpjklfmfgmicaaaDY
import Derived.Test.YtpjklfmfgmicaaaProg
set_option maxRecDepth 100000
namespace Go.G.Ytpjklfmfgmicaaa
open Go.RowKit
/-! ### calls as arguments -/
structure Cl where
  op : Int
  name : ByteArray
  other : ByteArray
  da : Option Addr
  dc : Nat
  data : List UInt8
  n : Int
  k : Int
  at' : Int
  pa : Option Addr
  pc : Nat
  picks : List Int
@[reducible] def Cl.cells (c : Cl) : List Value := [.int .i64 c.op, .string c.name, .string c.other, .slice c.da c.data.length c.dc, .int .i64 c.n, .int .i64 c.k, .int .i64 c.at', .slice c.pa c.picks.length c.pc]
@[reducible] def Cl.agg (c : Cl) : Value := .agg #[.int .i64 c.op, .string c.name, .string c.other, .slice c.da c.data.length c.dc, .int .i64 c.n, .int .i64 c.k, .int .i64 c.at', .slice c.pa c.picks.length c.pc]
structure Cl.Ok (W : World) (c : Cl) : Prop where
  name : c.name.size ≤ 1000000000000000
  other : c.other.size ≤ 1000000000000000
  rd : Rd0 W c.da (u8s c.data)
  n : -9223372036854775808 ≤ c.n ∧ c.n ≤ 9223372036854775807
  k : -9223372036854775808 ≤ c.k ∧ c.k ≤ 9223372036854775807
  at' : -9223372036854775808 ≤ c.at' ∧ c.at' ≤ 9223372036854775807
  picks : PickOk W c.pa c.pc c.picks
def cls (l : List Cl) : List Value := l.flatMap Cl.cells
structure CS (W : World) (a : Option Addr) (n c : Nat) (l : List Cl) : Prop where
  len : n = l.length
  rd : Rd0 W a (cls l)
  ok : ∀ c ∈ l, c.Ok W
theorem flat_get {α : Type} {enc : α → List Value} {k : Nat} (hk : ∀ x, (enc x).length = k) : ∀ {l : List α} {i : Nat} {x : α}, l[i]? = some x → ∀ j y, (enc x)[j]? = some y → (l.flatMap enc)[i * k + j]? = some y
  | [], _, _, h, _, _, _ => by simp at h
  | z :: l, 0, x, h, j, y, hj => by
    simp at h; subst h
    rw [List.flatMap_cons, Nat.zero_mul, Nat.zero_add, List.getElem?_append_left (List.getElem?_eq_some_iff.1 hj).1]
    exact hj
  | z :: l, i + 1, x, h, j, y, hj => by
    have ih := flat_get hk (l := l) (i := i) (by simpa using h) j y hj
    rw [List.flatMap_cons, Nat.add_mul, Nat.one_mul, List.getElem?_append_right (by rw [hk]; omega), hk, show i * k + k + j - k = i * k + j by omega]
    exact ih
theorem clLoad {W : World} {a : Option Addr} {n c i : Nat} {l : List Cl} {x : Cl} (s : CS W a n c l) (hi : l[i]? = some x) : ∃ ad, a = some ad ∧ ∀ h, At W h (Addr.add ad (i * 8)) x.cells := by
  have hg := flat_get (enc := Cl.cells) (k := 8) (fun _ => rfl) hi
  obtain ⟨ad, had, _⟩ := s.rd (i * 8 + 0) _ (hg 0 _ rfl)
  refine ⟨ad, had, fun h j y hj => ?_⟩
  obtain ⟨ad', had', hc⟩ := s.rd.rd h (i * 8 + j) _ (hg j _ hj)
  rw [had] at had'
  injection had' with had'
  subst had'
  rw [Deep.add_add]; exact hc
theorem call_of {W : World} {cs : List Value} (h : OkT Go.Proofs.Try.prog W 3 52 cs) : ∃ c : Cl, cs = c.cells ∧ c.Ok W := by
  have hl := h.cells (k := 8) (by kernel_rfl) (by kernel_rfl)
  obtain ⟨x0, e0, w0⟩ := (h.field (i := 0) (ty := 3) (off := 0) (k := 1) (by kernel_rfl) (by kernel_rfl)).int (k := .i64) (by kernel_rfl)
  obtain ⟨x1, e1, w1⟩ := (h.field (i := 1) (ty := 9) (off := 1) (k := 1) (by kernel_rfl) (by kernel_rfl)).string (by kernel_rfl)
  obtain ⟨x2, e2, w2⟩ := (h.field (i := 2) (ty := 9) (off := 2) (k := 1) (by kernel_rfl) (by kernel_rfl)).string (by kernel_rfl)
  obtain ⟨a3, n3, c3, l3, e3, h31, _, h33, h34⟩ := bytes_of (h.field (i := 3) (ty := 26) (off := 3) (k := 1) (by kernel_rfl) (by kernel_rfl))
  obtain ⟨x4, e4, w4⟩ := (h.field (i := 4) (ty := 2) (off := 4) (k := 1) (by kernel_rfl) (by kernel_rfl)).int (k := .i64) (by kernel_rfl)
  obtain ⟨x5, e5, w5⟩ := (h.field (i := 5) (ty := 2) (off := 5) (k := 1) (by kernel_rfl) (by kernel_rfl)).int (k := .i64) (by kernel_rfl)
  obtain ⟨x6, e6, w6⟩ := (h.field (i := 6) (ty := 3) (off := 6) (k := 1) (by kernel_rfl) (by kernel_rfl)).int (k := .i64) (by kernel_rfl)
  obtain ⟨a7, n7, c7, l7, e7, h71, h72⟩ := picks_of (h.field (i := 7) (ty := 46) (off := 7) (k := 1) (by kernel_rfl) (by kernel_rfl))
  subst h31 h71
  refine ⟨⟨x0, x1, x2, a3, c3, l3, x4, x5, x6, a7, c7, l7⟩, ?_, ⟨by show x1.size ≤ _; omega, by show x2.size ≤ _; omega, h34, wf64 w4, wf64 w5, wf64 w6, h72⟩⟩
  match cs, hl with
  | [y0, y1, y2, y3, y4, y5, y6, y7], _ =>
    simp at e0 e1 e2 e3 e4 e5 e6 e7
    rw [e0, e1, e2, e3, e4, e5, e6, e7]
theorem calls_of {W : World} {cs : List Value} (h : OkT Go.Proofs.Try.prog W 4 50 cs) : ∃ (a : Option Addr) (n c : Nat) (l : List Cl), cs = [.slice a n c] ∧ CS W a n c l := by
  obtain ⟨a, n, c, l, h1, h2, h3, h4, h5, h6⟩ := h.slice (e := 52) (k := 8) (by kernel_rfl) (by kernel_rfl) (enc := Cl.cells) (Q := fun t => t.Ok W) (fun _ => rfl) fun ys hy _ => call_of hy
  exact ⟨a, n, c, l, h1, ⟨h2, h5, h6⟩⟩
def f32_J : Nat → List Nat × Nat := jOf []



theorem f32_go {w0 : World} {K : Value → AH → Prop} (x0 : Option Go.Addr) (x1_0 : Int) (x1_1 : ByteArray) (x1_2 : ByteArray) (a1_3 : Option Go.Addr) (n1_3 : Nat) (c1_3 : Nat) (x1_4 : Int) (x1_5 : Int) (x1_6 : Int) (a1_7 : Option Go.Addr) (n1_7 : Nat) (c1_7 : Nat) (h : AH)
  (hv : (brB (x1_0 == (0 : Int)) (EvC Go.Proofs.Try.prog w0 14 #[(Go.Value.pointer x0), (Go.Value.string x1_1)] (fun x'0 h'1 => (∃ i'2 : Int, ((x'0 = (Go.Value.int .i64 i'2)) ∧ (K (Go.Value.int .i64 i'2) h'1)))) h) (brB (x1_0 == (1 : Int)) (EvC Go.Proofs.Try.prog w0 16 #[(Go.Value.pointer x0), (Go.Value.string x1_1), (Go.Value.slice a1_3 n1_3 c1_3)] (fun x'3 h'4 => (∃ i'5 : Int, ((x'3 = (Go.Value.int .i64 i'5)) ∧ (K (Go.Value.int .i64 i'5) h'4)))) h) (brB (x1_0 == (2 : Int)) (EvC Go.Proofs.Try.prog w0 29 #[(Go.Value.pointer x0), (Go.Value.string x1_1)] (fun x'6 h'7 => (∃ i'8 : Int, ((x'6 = (Go.Value.int .i64 i'8)) ∧ (K (Go.Value.int .i64 i'8) h'7)))) h) (brB (x1_0 == (3 : Int)) (EvC Go.Proofs.Try.prog w0 31 #[(Go.Value.pointer x0), (Go.Value.string x1_1), (Go.Value.string x1_2)] (fun x'9 h'10 => (∃ i'11 : Int, ((x'9 = (Go.Value.int .i64 i'11)) ∧ (K (Go.Value.int .i64 i'11) h'10)))) h) (brB (x1_0 == (4 : Int)) (EvC Go.Proofs.Try.prog w0 58 #[(Go.Value.pointer x0), (Go.Value.string x1_1)] (fun x'12 h'13 => (∃ i'14 : Int, ((x'12 = (Go.Value.int .i64 i'14)) ∧ (K (Go.Value.int .i64 i'14) h'13)))) h) (brB (x1_0 == (5 : Int)) (EvC Go.Proofs.Try.prog w0 30 #[(Go.Value.pointer x0)] (fun x'15 h'16 => (∃ i'17 : Int, ((x'15 = (Go.Value.int .i64 i'17)) ∧ (K (Go.Value.int .i64 i'17) h'16)))) h) (brB (x1_0 == (6 : Int)) (EvC Go.Proofs.Try.prog w0 24 #[(Go.Value.pointer x0), (Go.Value.int .i64 x1_4)] (fun x'18 h'19 => ((x'18 = (Go.Value.tuple #[])) ∧ (K (Go.Value.int .i64 (0 : Int)) h'19))) h) (brB (x1_0 == (7 : Int)) (EvC Go.Proofs.Try.prog w0 25 #[(Go.Value.pointer x0), (Go.Value.int .i64 x1_4), (Go.Value.int .i64 x1_5)] (fun x'20 h'21 => ((x'20 = (Go.Value.tuple #[])) ∧ (K (Go.Value.int .i64 (0 : Int)) h'21))) h) (brB (x1_0 == (8 : Int)) (EvC Go.Proofs.Try.prog w0 28 #[(Go.Value.pointer x0), (Go.Value.slice a1_7 n1_7 c1_7)] (fun x'22 h'23 => ((x'22 = (Go.Value.tuple #[])) ∧ (K (Go.Value.int .i64 (0 : Int)) h'23))) h) (EvC Go.Proofs.Try.prog w0 40 #[(Go.Value.pointer x0), (Go.Value.string x1_1), (Go.Value.int .i64 x1_6), (Go.Value.int .u8 (Go.IntKind.wrap .u8 x1_4))] (fun x'24 h'25 => (∃ t'26 : Bool, ((x'24 = (Go.Value.bool t'26)) ∧ (brB (!t'26) (K (Go.Value.int .i64 (7 : Int)) h'25) (K (Go.Value.int .i64 (0 : Int)) h'25))))) h))))))))))) :
  EvC Go.Proofs.Try.prog w0 32 ([(.pointer x0), (.agg #[(.int .i64 x1_0), (.string x1_1), (.string x1_2), (.slice a1_3 n1_3 c1_3), (.int .i64 x1_4), (.int .i64 x1_5), (.int .i64 x1_6), (.slice a1_7 n1_7 c1_7)])]).toArray K h := EvC_intro (P := Go.Proofs.Try.prog) f32_J (Eq.mp (by kernel_rfl) hv)
def f33_J : Nat → List Nat × Nat := jOf []



theorem f33_go {w0 : World} {K : Value → AH → Prop} (x0 : Option Go.Addr) (x1_0 : Int) (x1_1 : ByteArray) (x1_2 : ByteArray) (a1_3 : Option Go.Addr) (n1_3 : Nat) (c1_3 : Nat) (x1_4 : Int) (x1_5 : Int) (x1_6 : Int) (a1_7 : Option Go.Addr) (n1_7 : Nat) (c1_7 : Nat) (h : AH)
  (hv : (brB (x1_0 == (0 : Int)) (EvC Go.Proofs.Try.prog w0 15 #[(Go.Value.pointer x0), (Go.Value.string x1_1)] (fun x'0 h'1 => (∃ i'2 : Int, ((x'0 = (Go.Value.int .i64 i'2)) ∧ (K (Go.Value.int .i64 i'2) h'1)))) h) (brB (x1_0 == (1 : Int)) (EvC Go.Proofs.Try.prog w0 17 #[(Go.Value.pointer x0), (Go.Value.string x1_1), (Go.Value.slice a1_3 n1_3 c1_3)] (fun x'3 h'4 => (∃ i'5 : Int, ((x'3 = (Go.Value.int .i64 i'5)) ∧ (K (Go.Value.int .i64 i'5) h'4)))) h) (brB (x1_0 == (2 : Int)) (EvC Go.Proofs.Try.prog w0 59 #[(Go.Value.pointer x0), (Go.Value.string x1_1)] (fun x'6 h'7 => (∃ i'8 : Int, ((x'6 = (Go.Value.int .i64 i'8)) ∧ (K (Go.Value.int .i64 i'8) h'7)))) h) (brB (x1_0 == (3 : Int)) (EvC Go.Proofs.Try.prog w0 60 #[(Go.Value.pointer x0), (Go.Value.string x1_1), (Go.Value.string x1_2)] (fun x'9 h'10 => (∃ i'11 : Int, ((x'9 = (Go.Value.int .i64 i'11)) ∧ (K (Go.Value.int .i64 i'11) h'10)))) h) (brB (x1_0 == (4 : Int)) (EvC Go.Proofs.Try.prog w0 61 #[(Go.Value.pointer x0), (Go.Value.string x1_1)] (fun x'12 h'13 => (∃ i'14 : Int, ((x'12 = (Go.Value.int .i64 i'14)) ∧ (K (Go.Value.int .i64 i'14) h'13)))) h) (brB (x1_0 == (5 : Int)) (EvC Go.Proofs.Try.prog w0 62 #[(Go.Value.pointer x0)] (fun x'15 h'16 => (∃ i'17 : Int, ((x'15 = (Go.Value.int .i64 i'17)) ∧ (K (Go.Value.int .i64 i'17) h'16)))) h) (brB (x1_0 == (6 : Int)) (EvC Go.Proofs.Try.prog w0 63 #[(Go.Value.pointer x0), (Go.Value.int .i64 x1_4)] (fun x'18 h'19 => ((x'18 = (Go.Value.tuple #[])) ∧ (K (Go.Value.int .i64 (0 : Int)) h'19))) h) (brB (x1_0 == (7 : Int)) (EvC Go.Proofs.Try.prog w0 64 #[(Go.Value.pointer x0), (Go.Value.int .i64 x1_4), (Go.Value.int .i64 x1_5)] (fun x'20 h'21 => ((x'20 = (Go.Value.tuple #[])) ∧ (K (Go.Value.int .i64 (0 : Int)) h'21))) h) (brB (x1_0 == (8 : Int)) (EvC Go.Proofs.Try.prog w0 65 #[(Go.Value.pointer x0), (Go.Value.slice a1_7 n1_7 c1_7)] (fun x'22 h'23 => ((x'22 = (Go.Value.tuple #[])) ∧ (K (Go.Value.int .i64 (0 : Int)) h'23))) h) (EvC Go.Proofs.Try.prog w0 66 #[(Go.Value.pointer x0), (Go.Value.string x1_1), (Go.Value.int .i64 x1_6), (Go.Value.int .u8 (Go.IntKind.wrap .u8 x1_4))] (fun x'24 h'25 => (∃ t'26 : Bool, ((x'24 = (Go.Value.bool t'26)) ∧ (brB (!t'26) (K (Go.Value.int .i64 (7 : Int)) h'25) (K (Go.Value.int .i64 (0 : Int)) h'25))))) h))))))))))) :
  EvC Go.Proofs.Try.prog w0 33 ([(.pointer x0), (.agg #[(.int .i64 x1_0), (.string x1_1), (.string x1_2), (.slice a1_3 n1_3 c1_3), (.int .i64 x1_4), (.int .i64 x1_5), (.int .i64 x1_6), (.slice a1_7 n1_7 c1_7)])]).toArray K h := EvC_intro (P := Go.Proofs.Try.prog) f33_J (Eq.mp (by kernel_rfl) hv)
def f34_J : Nat → List Nat × Nat := jOf [(2, [2, 3, 4, 5, 6, 7, 8, 9, 10, 11, 12, 13, 14, 15, 16, 17, 18, 19, 20, 21, 22, 23, 24, 25, 26, 27, 28, 29, 30, 31, 32, 33, 34, 35, 36, 37, 38, 39, 40, 42, 43, 44, 45, 46, 47, 48, 49, 50, 51, 52, 53, 54, 55, 56, 57, 58, 59, 60, 61, 62, 63, 64, 65, 66, 67, 68, 69, 70, 71], 0), (3, [2, 3, 4, 5, 6, 7, 8, 9, 10, 11, 12, 13, 14, 15, 16, 17, 18, 19, 20, 21, 22, 23, 24, 25, 26, 27, 28, 29, 30, 31, 32, 33, 34, 35, 36, 37, 38, 39, 40, 41, 42, 43, 44, 45, 46, 47, 48, 49, 50, 51, 52, 53, 54, 55, 56, 57, 58, 59, 60, 61, 62, 63, 64, 65, 66, 67, 68, 69, 70, 71], 0), (4, [2, 3, 4, 5, 6, 7, 8, 9, 10, 11, 12, 13, 14, 15, 16, 17, 18, 19, 20, 21, 22, 23, 24, 25, 26, 27, 28, 29, 30, 31, 32, 33, 34, 35, 36, 37, 38, 39, 40, 41, 42, 46, 47, 48, 49, 50, 51, 52, 53, 54, 55, 56, 57, 58, 59, 60, 61, 62, 63, 64, 65, 66, 67, 68, 69, 70, 71], 0), (9, [2, 3, 4, 5, 6, 7, 8, 9, 10, 11, 12, 13, 14, 15, 16, 17, 18, 19, 20, 21, 22, 23, 24, 25, 26, 27, 28, 29, 30, 31, 32, 33, 34, 35, 36, 37, 38, 39, 40, 41, 42, 46, 47, 48, 49, 50, 51, 52, 53, 54, 55, 56, 57, 58, 59, 60, 61, 62, 63, 64, 65, 66, 67, 68, 69, 71], 0)]

def f34_2 (w0 : World) (K : Value → AH → Prop) (x0 : Option Go.Addr) (x1 : Option Go.Addr) (x41 : Bool) (h : AH) : Prop :=
  ∀ j : Nat → Value, LPk Go.Proofs.Try.prog w0 (EvC Go.Proofs.Try.prog w0) f34_J 34 K 2 [.v (.pointer x0), .v (.pointer x1), .v (j 2), .v (j 3), .v (j 4), .v (j 5), .v (j 6), .v (j 7), .v (j 8), .v (j 9), .v (j 10), .v (j 11), .v (j 12), .v (j 13), .v (j 14), .v (j 15), .v (j 16), .v (j 17), .v (j 18), .v (j 19), .v (j 20), .v (j 21), .v (j 22), .v (j 23), .v (j 24), .v (j 25), .v (j 26), .v (j 27), .v (j 28), .v (j 29), .v (j 30), .v (j 31), .v (j 32), .v (j 33), .v (j 34), .v (j 35), .v (j 36), .v (j 37), .v (j 38), .v (j 39), .v (j 40), .v (.bool x41), .v (j 42), .v (j 43), .v (j 44), .v (j 45), .v (j 46), .v (j 47), .v (j 48), .v (j 49), .v (j 50), .v (j 51), .v (j 52), .v (j 53), .v (j 54), .v (j 55), .v (j 56), .v (j 57), .v (j 58), .v (j 59), .v (j 60), .v (j 61), .v (j 62), .v (j 63), .v (j 64), .v (j 65), .v (j 66), .v (j 67), .v (j 68), .v (j 69), .v (j 70), .v (j 71)] [] h

def f34_3 (w0 : World) (K : Value → AH → Prop) (x0 : Option Go.Addr) (x1 : Option Go.Addr) (h : AH) : Prop :=
  ∀ j : Nat → Value, LPk Go.Proofs.Try.prog w0 (EvC Go.Proofs.Try.prog w0) f34_J 34 K 3 [.v (.pointer x0), .v (.pointer x1), .v (j 2), .v (j 3), .v (j 4), .v (j 5), .v (j 6), .v (j 7), .v (j 8), .v (j 9), .v (j 10), .v (j 11), .v (j 12), .v (j 13), .v (j 14), .v (j 15), .v (j 16), .v (j 17), .v (j 18), .v (j 19), .v (j 20), .v (j 21), .v (j 22), .v (j 23), .v (j 24), .v (j 25), .v (j 26), .v (j 27), .v (j 28), .v (j 29), .v (j 30), .v (j 31), .v (j 32), .v (j 33), .v (j 34), .v (j 35), .v (j 36), .v (j 37), .v (j 38), .v (j 39), .v (j 40), .v (j 41), .v (j 42), .v (j 43), .v (j 44), .v (j 45), .v (j 46), .v (j 47), .v (j 48), .v (j 49), .v (j 50), .v (j 51), .v (j 52), .v (j 53), .v (j 54), .v (j 55), .v (j 56), .v (j 57), .v (j 58), .v (j 59), .v (j 60), .v (j 61), .v (j 62), .v (j 63), .v (j 64), .v (j 65), .v (j 66), .v (j 67), .v (j 68), .v (j 69), .v (j 70), .v (j 71)] [] h

def f34_4 (w0 : World) (K : Value → AH → Prop) (x0 : Option Go.Addr) (x1 : Option Go.Addr) (a43 : Option Go.Addr) (n43 : Nat) (c43 : Nat) (x44 : Int) (x45 : Int) (h : AH) : Prop :=
  ∀ j : Nat → Value, LPk Go.Proofs.Try.prog w0 (EvC Go.Proofs.Try.prog w0) f34_J 34 K 4 [.v (.pointer x0), .v (.pointer x1), .v (j 2), .v (j 3), .v (j 4), .v (j 5), .v (j 6), .v (j 7), .v (j 8), .v (j 9), .v (j 10), .v (j 11), .v (j 12), .v (j 13), .v (j 14), .v (j 15), .v (j 16), .v (j 17), .v (j 18), .v (j 19), .v (j 20), .v (j 21), .v (j 22), .v (j 23), .v (j 24), .v (j 25), .v (j 26), .v (j 27), .v (j 28), .v (j 29), .v (j 30), .v (j 31), .v (j 32), .v (j 33), .v (j 34), .v (j 35), .v (j 36), .v (j 37), .v (j 38), .v (j 39), .v (j 40), .v (j 41), .v (j 42), .v (.slice a43 n43 c43), .v (.int .i64 x44), .v (.int .i64 x45), .v (j 46), .v (j 47), .v (j 48), .v (j 49), .v (j 50), .v (j 51), .v (j 52), .v (j 53), .v (j 54), .v (j 55), .v (j 56), .v (j 57), .v (j 58), .v (j 59), .v (j 60), .v (j 61), .v (j 62), .v (j 63), .v (j 64), .v (j 65), .v (j 66), .v (j 67), .v (j 68), .v (j 69), .v (j 70), .v (j 71)] [] h

def f34_9 (w0 : World) (K : Value → AH → Prop) (x0 : Option Go.Addr) (x1 : Option Go.Addr) (a43 : Option Go.Addr) (n43 : Nat) (c43 : Nat) (x44 : Int) (x45 : Int) (x70 : Bool) (h : AH) : Prop :=
  ∀ j : Nat → Value, LPk Go.Proofs.Try.prog w0 (EvC Go.Proofs.Try.prog w0) f34_J 34 K 9 [.v (.pointer x0), .v (.pointer x1), .v (j 2), .v (j 3), .v (j 4), .v (j 5), .v (j 6), .v (j 7), .v (j 8), .v (j 9), .v (j 10), .v (j 11), .v (j 12), .v (j 13), .v (j 14), .v (j 15), .v (j 16), .v (j 17), .v (j 18), .v (j 19), .v (j 20), .v (j 21), .v (j 22), .v (j 23), .v (j 24), .v (j 25), .v (j 26), .v (j 27), .v (j 28), .v (j 29), .v (j 30), .v (j 31), .v (j 32), .v (j 33), .v (j 34), .v (j 35), .v (j 36), .v (j 37), .v (j 38), .v (j 39), .v (j 40), .v (j 41), .v (j 42), .v (.slice a43 n43 c43), .v (.int .i64 x44), .v (.int .i64 x45), .v (j 46), .v (j 47), .v (j 48), .v (j 49), .v (j 50), .v (j 51), .v (j 52), .v (j 53), .v (j 54), .v (j 55), .v (j 56), .v (j 57), .v (j 58), .v (j 59), .v (j 60), .v (j 61), .v (j 62), .v (j 63), .v (j 64), .v (j 65), .v (j 66), .v (j 67), .v (j 68), .v (j 69), .v (.bool x70), .v (j 71)] [] h

theorem f34_2_in {w0 : World} {K : Value → AH → Prop} (x0 : Option Go.Addr) (x1 : Option Go.Addr) (x41 : Bool) (h : AH)
  (hv : (brB x41 (K (Go.Value.bool false) h) (f34_3 w0 K x0 x1 h))) :
  f34_2 w0 K x0 x1 x41 h := fun j => LP_intro (P := Go.Proofs.Try.prog) (Eq.mp (by kernel_rfl) hv)

theorem f34_3_in {w0 : World} {K : Value → AH → Prop} (x0 : Option Go.Addr) (x1 : Option Go.Addr) (h : AH)
  (hv : (EvC Go.Proofs.Try.prog w0 67 #[(Go.Value.pointer x1)] (fun x'46 h'47 => (∃ p'48 : Option Go.Addr, (∃ n'49 : Nat, (∃ n'50 : Nat, ((x'46 = (Go.Value.slice p'48 n'49 n'50)) ∧ (f34_4 w0 K x0 x1 p'48 n'49 n'50 ((n'49 : Nat) : Int) (0 : Int) h'47)))))) h)) :
  f34_3 w0 K x0 x1 h := fun j => LP_intro (P := Go.Proofs.Try.prog) (Eq.mp (by kernel_rfl) hv)

theorem f34_4_in {w0 : World} {K : Value → AH → Prop} (x0 : Option Go.Addr) (x1 : Option Go.Addr) (a43 : Option Go.Addr) (n43 : Nat) (c43 : Nat) (x44 : Int) (x45 : Int) (h : AH)
  (hv : (brB (decide ((x45 < x44))) (∃ a'51 : Go.Addr, ((a43 = (some a'51)) ∧ (((0 : Int) ≤ x45) ∧ ((x45 < ((n43 : Nat) : Int)) ∧ (∃ s'52 : ByteArray, (((Go.G.cellA w0 h (Go.Addr.add a'51 ((Int.toNat x45) * 1))) = (some (Go.Value.string s'52))) ∧ (EvC Go.Proofs.Try.prog w0 21 #[(Go.Value.pointer x0), (Go.Value.string s'52)] (fun x'53 h'54 => (∃ p'55 : Option Go.Addr, (∃ n'56 : Nat, (∃ n'57 : Nat, (∃ i'58 : Int, ((x'53 = (Go.Value.tuple #[(Go.Value.slice p'55 n'56 n'57), (Go.Value.int .i64 i'58)])) ∧ (EvC Go.Proofs.Try.prog w0 36 #[(Go.Value.pointer x1), (Go.Value.string s'52)] (fun x'59 h'60 => (∃ p'61 : Option Go.Addr, (∃ n'62 : Nat, (∃ n'63 : Nat, (∃ i'64 : Int, ((x'59 = (Go.Value.tuple #[(Go.Value.slice p'61 n'62 n'63), (Go.Value.int .i64 i'64)])) ∧ (brB (i'58 != i'64) (f34_9 w0 K x0 x1 a43 n43 c43 x44 x45 true h'60) (rowsOf w0 h'60 1 p'55 n'56 (fun ys'65 => (∃ s'66 : ByteArray, ((ys'65 = (Go.G.intsOf s'66)) ∧ (rowsOf w0 h'60 1 p'61 n'62 (fun ys'67 => (∃ s'68 : ByteArray, ((ys'67 = (Go.G.intsOf s'68)) ∧ (f34_9 w0 K x0 x1 a43 n43 c43 x44 x45 (!(decide ((s'66 = s'68)))) h'60)))))))))))))))) h'54))))))) h))))))) (K (Go.Value.bool true) h))) :
  f34_4 w0 K x0 x1 a43 n43 c43 x44 x45 h := fun j => LP_intro (P := Go.Proofs.Try.prog) (Eq.mp (by kernel_rfl) hv)

theorem f34_9_in {w0 : World} {K : Value → AH → Prop} (x0 : Option Go.Addr) (x1 : Option Go.Addr) (a43 : Option Go.Addr) (n43 : Nat) (c43 : Nat) (x44 : Int) (x45 : Int) (x70 : Bool) (h : AH)
  (hv : (brB x70 (K (Go.Value.bool false) h) (f34_4 w0 K x0 x1 a43 n43 c43 x44 (Go.IntKind.wrap .i64 (x45 + (1 : Int))) h))) :
  f34_9 w0 K x0 x1 a43 n43 c43 x44 x45 x70 h := fun j => LP_intro (P := Go.Proofs.Try.prog) (Eq.mp (by kernel_rfl) hv)

theorem f34_go {w0 : World} {K : Value → AH → Prop} (x0 : Option Go.Addr) (x1 : Option Go.Addr) (h : AH)
  (hv : (EvC Go.Proofs.Try.prog w0 38 #[(Go.Value.pointer x0)] (fun x'0 h'1 => (∃ p'2 : Option Go.Addr, (∃ n'3 : Nat, (∃ n'4 : Nat, ((x'0 = (Go.Value.slice p'2 n'3 n'4)) ∧ (EvC Go.Proofs.Try.prog w0 67 #[(Go.Value.pointer x1)] (fun x'5 h'6 => (∃ p'7 : Option Go.Addr, (∃ n'8 : Nat, (∃ n'9 : Nat, ((x'5 = (Go.Value.slice p'7 n'8 n'9)) ∧ (EvC Go.Proofs.Try.prog w0 39 #[(Go.Value.slice p'2 n'3 n'4), (Go.Value.slice p'7 n'8 n'9)] (fun x'10 h'11 => (∃ t'12 : Bool, ((x'10 = (Go.Value.bool t'12)) ∧ (brB (!t'12) (f34_2 w0 K x0 x1 true h'11) (EvC Go.Proofs.Try.prog w0 18 #[(Go.Value.pointer x0)] (fun x'13 h'14 => (∃ i'15 : Int, ((x'13 = (Go.Value.int .i64 i'15)) ∧ (EvC Go.Proofs.Try.prog w0 19 #[(Go.Value.pointer x1)] (fun x'16 h'17 => (∃ i'18 : Int, ((x'16 = (Go.Value.int .i64 i'18)) ∧ (brB (i'15 != i'18) (f34_2 w0 K x0 x1 true h'17) (∃ a'19 : Go.Addr, ((x1 = (some a'19)) ∧ ((EvC Go.Proofs.Try.prog w0 26 #[(Go.Value.pointer x0)] (fun x'20 h'21 => (∃ i'22 : Int, ((x'20 = (Go.Value.int .i64 i'22)) ∧ (∃ i'23 : Int, (((Go.G.cellA w0 h'21 (Go.Addr.add a'19 3)) = (some (Go.Value.int .i64 i'23))) ∧ (brB (i'22 != i'23) (f34_2 w0 K x0 x1 true h'21) (∃ a'24 : Go.Addr, ((x1 = (some a'24)) ∧ ((EvC Go.Proofs.Try.prog w0 27 #[(Go.Value.pointer x0)] (fun x'25 h'26 => (∃ t'27 : Bool, ((x'25 = (Go.Value.bool t'27)) ∧ (∃ t'28 : Bool, (((Go.G.cellA w0 h'26 (Go.Addr.add a'24 7)) = (some (Go.Value.bool t'28))) ∧ (f34_2 w0 K x0 x1 (t'27 != t'28) h'26)))))) h'21) ∧ (∃ t'29 : Bool, (((Go.G.cellA w0 h'21 (Go.Addr.add a'24 7)) = (some (Go.Value.bool t'29))) ∧ (EvC Go.Proofs.Try.prog w0 27 #[(Go.Value.pointer x0)] (fun x'30 h'31 => (∃ t'32 : Bool, ((x'30 = (Go.Value.bool t'32)) ∧ (f34_2 w0 K x0 x1 (t'32 != t'29) h'31)))) h'21)))))))))))) h'17) ∧ (∃ i'33 : Int, (((Go.G.cellA w0 h'17 (Go.Addr.add a'19 3)) = (some (Go.Value.int .i64 i'33))) ∧ (EvC Go.Proofs.Try.prog w0 26 #[(Go.Value.pointer x0)] (fun x'34 h'35 => (∃ i'36 : Int, ((x'34 = (Go.Value.int .i64 i'36)) ∧ (brB (i'36 != i'33) (f34_2 w0 K x0 x1 true h'35) (∃ a'37 : Go.Addr, ((x1 = (some a'37)) ∧ ((EvC Go.Proofs.Try.prog w0 27 #[(Go.Value.pointer x0)] (fun x'38 h'39 => (∃ t'40 : Bool, ((x'38 = (Go.Value.bool t'40)) ∧ (∃ t'41 : Bool, (((Go.G.cellA w0 h'39 (Go.Addr.add a'37 7)) = (some (Go.Value.bool t'41))) ∧ (f34_2 w0 K x0 x1 (t'40 != t'41) h'39)))))) h'35) ∧ (∃ t'42 : Bool, (((Go.G.cellA w0 h'35 (Go.Addr.add a'37 7)) = (some (Go.Value.bool t'42))) ∧ (EvC Go.Proofs.Try.prog w0 27 #[(Go.Value.pointer x0)] (fun x'43 h'44 => (∃ t'45 : Bool, ((x'43 = (Go.Value.bool t'45)) ∧ (f34_2 w0 K x0 x1 (t'45 != t'42) h'44)))) h'35)))))))))) h'17)))))))))) h'14)))) h'11))))) h'6)))))) h'1)))))) h)) :
  EvC Go.Proofs.Try.prog w0 34 ([(.pointer x0), (.pointer x1)]).toArray K h := EvC_intro (P := Go.Proofs.Try.prog) f34_J (Eq.mp (by kernel_rfl) hv)
/-! ### DiskPlays, DiskReads -/
def byteOf (n : Int) : UInt8 := UInt8.ofNat (n % 256).toNat
theorem byteOf_wrap (n : Int) : IntKind.u8.wrap n = ((byteOf n).toNat : Int) := by
  have h1 := Int.emod_nonneg n (show (256 : Int) ≠ 0 by decide)
  have h2 := Int.emod_lt_of_pos n (show (0 : Int) < 256 by decide)
  unfold byteOf
  rw [UInt8.toNat_ofNat', Nat.mod_eq_of_lt (by omega), Int.toNat_of_nonneg h1]
  simp [IntKind.wrap, IntKind.signed, IntKind.bits]
def doS (c : Cl) (s : Ds) : Int × Ds :=
  if c.op = 0 then createS c.name s else if c.op = 1 then appendS c.name c.data s else if c.op = 2 then syncS c.name s else if c.op = 3 then renameS c.name c.other s
  else if c.op = 4 then removeS c.name s else if c.op = 5 then syncDirS s else if c.op = 6 then (0, fuseS c.n s) else if c.op = 7 then (0, faultS c.n c.k s) else if c.op = 8 then (0, crashS c.picks s)
  else (if (spoilS c.name c.at' (byteOf c.n) s).1 then 0 else 7, (spoilS c.name c.at' (byteOf c.n) s).2)
theorem doS_calls (c : Cl) (s : Ds) : (doS c s).2.calls ≤ s.calls + 1 := by
  unfold doS
  split
  · rw [createS_calls]; omega
  split
  · rw [appendS_calls]; omega
  split
  · rw [syncS_calls]; omega
  split
  · rw [renameS_calls]; omega
  split
  · rw [removeS_calls]; omega
  split
  · rw [syncDirS_calls]; omega
  split
  · show s.calls ≤ _; omega
  split
  · show s.calls ≤ _; omega
  split
  · show s.calls ≤ _; omega
  · show (spoilS _ _ _ s).2.calls ≤ _
    rw [spoilS_calls]; omega
/-- do. -/
theorem f32_spec {w0 : World} {K : Value → AH → Prop} {h : AH} {B : List (Nat × AB)} {s : Ds} {D : PD} {c : Cl} (o : c.Ok w0) (r : PRep s D) (w : Own w0 h (D.blocks s ++ B)) (hc : s.calls < 1000000) (hd : c.data.length ≤ 5000)
    (hk : ∀ h' D', D'.bd = D.bd → PRep (doS c s).2 D' → Own w0 h' (D'.blocks (doS c s).2 ++ B) → K (.int .i64 (doS c s).1) h') :
    EvC Go.Proofs.Try.prog w0 32 #[.pointer (some ⟨D.bd, 0, none⟩), c.agg] K h := by
  unfold doS at hk
  refine f32_go _ _ _ _ _ _ _ _ _ _ _ _ _ _ (brB_of (fun q => ?_) fun q => brB_of (fun q1 => ?_) fun q1 => brB_of (fun q2 => ?_) fun q2 => brB_of (fun q3 => ?_) fun q3 => brB_of (fun q4 => ?_) fun q4 => brB_of (fun q5 => ?_) fun q5 => brB_of (fun q6 => ?_) fun q6 => brB_of (fun q7 => ?_) fun q7 => brB_of (fun q8 => ?_) fun q8 => ?_)
  · rw [if_pos (by simpa using q)] at hk
    exact f14_spec r w (by omega) fun h' D' b' r' w' => ⟨_, rfl, hk h' D' b' r' w'⟩
  all_goals rw [if_neg (by simpa using q)] at hk
  · rw [if_pos (by simpa using q1)] at hk
    exact f16_spec r w (by omega) (fun h' _ => o.rd.rd h') (by omega) fun h' D' b' r' w' => ⟨_, rfl, hk h' D' b' r' w'⟩
  all_goals rw [if_neg (by simpa using q1)] at hk
  · rw [if_pos (by simpa using q2)] at hk
    exact f29_spec r w (by omega) fun h' D' b' r' w' => ⟨_, rfl, hk h' D' b' r' w'⟩
  all_goals rw [if_neg (by simpa using q2)] at hk
  · rw [if_pos (by simpa using q3)] at hk
    exact f31_spec r w (by omega) fun h' D' b' r' w' => ⟨_, rfl, hk h' D' b' r' w'⟩
  all_goals rw [if_neg (by simpa using q3)] at hk
  · rw [if_pos (by simpa using q4)] at hk
    exact f58_spec r w (by omega) fun h' D' b' r' w' => ⟨_, rfl, hk h' D' b' r' w'⟩
  all_goals rw [if_neg (by simpa using q4)] at hk
  · rw [if_pos (by simpa using q5)] at hk
    exact f30_spec r w (by omega) fun h' D' b' r' w' => ⟨_, rfl, hk h' D' b' r' w'⟩
  all_goals rw [if_neg (by simpa using q5)] at hk
  · rw [if_pos (by simpa using q6)] at hk
    exact f24_spec r w o.n.2 fun h' r' w' => ⟨rfl, hk h' D rfl r' w'⟩
  all_goals rw [if_neg (by simpa using q6)] at hk
  · rw [if_pos (by simpa using q7)] at hk
    exact f25_spec r w o.n.2 o.k.2 fun h' r' w' => ⟨rfl, hk h' D rfl r' w'⟩
  all_goals rw [if_neg (by simpa using q7)] at hk
  · rw [if_pos (by simpa using q8)] at hk
    exact f28_spec r w (by omega) o.picks fun h' D' b' r' w' => ⟨rfl, hk h' D' b' r' w'⟩
  · rw [if_neg (by simpa using q8)] at hk
    rw [byteOf_wrap]
    refine f40_spec r w fun h' D' b' r' w' => ⟨_, rfl, brB_of (fun z => ?_) fun z => ?_⟩
    · have z' : (spoilS c.name c.at' (byteOf c.n) s).1 = false := by simpa using z
      rw [z'] at hk
      exact hk h' D' b' r' w'
    · have z' : (spoilS c.name c.at' (byteOf c.n) s).1 = true := by simpa using z
      rw [z'] at hk
      exact hk h' D' b' r' w'
/-- model. -/
theorem f33_spec {w0 : World} {K : Value → AH → Prop} {h : AH} {B : List (Nat × AB)} {s : Ds} {R : RD} {c : Cl} (o : c.Ok w0) (r : RRep s R) (w : Own w0 h (R.blocks s ++ B)) (hc : s.calls < 1000000) (hd : c.data.length ≤ 5000) (hne : s.was ≠ [])
    (hk : ∀ h' R', R'.bd = R.bd → RRep (doS c s).2 R' → Own w0 h' (R'.blocks (doS c s).2 ++ B) → K (.int .i64 (doS c s).1) h') :
    EvC Go.Proofs.Try.prog w0 33 #[.pointer (some ⟨R.bd, 0, none⟩), c.agg] K h := by
  unfold doS at hk
  refine f33_go _ _ _ _ _ _ _ _ _ _ _ _ _ _ (brB_of (fun q => ?_) fun q => brB_of (fun q1 => ?_) fun q1 => brB_of (fun q2 => ?_) fun q2 => brB_of (fun q3 => ?_) fun q3 => brB_of (fun q4 => ?_) fun q4 => brB_of (fun q5 => ?_) fun q5 => brB_of (fun q6 => ?_) fun q6 => brB_of (fun q7 => ?_) fun q7 => brB_of (fun q8 => ?_) fun q8 => ?_)
  · rw [if_pos (by simpa using q)] at hk
    exact f15_spec r w (by omega) o.name fun h' D' b' r' w' => ⟨_, rfl, hk h' D' b' r' w'⟩
  all_goals rw [if_neg (by simpa using q)] at hk
  · rw [if_pos (by simpa using q1)] at hk
    exact f17_spec r w (by omega) (fun h' _ => o.rd.rd h') (by omega) fun h' D' b' r' w' => ⟨_, rfl, hk h' D' b' r' w'⟩
  all_goals rw [if_neg (by simpa using q1)] at hk
  · rw [if_pos (by simpa using q2)] at hk
    exact f59_spec r w (by omega) fun h' D' b' r' w' => ⟨_, rfl, hk h' D' b' r' w'⟩
  all_goals rw [if_neg (by simpa using q2)] at hk
  · rw [if_pos (by simpa using q3)] at hk
    exact f60_spec r w (by omega) o.other fun h' D' b' r' w' => ⟨_, rfl, hk h' D' b' r' w'⟩
  all_goals rw [if_neg (by simpa using q3)] at hk
  · rw [if_pos (by simpa using q4)] at hk
    exact f61_spec r w (by omega) fun h' D' b' r' w' => ⟨_, rfl, hk h' D' b' r' w'⟩
  all_goals rw [if_neg (by simpa using q4)] at hk
  · rw [if_pos (by simpa using q5)] at hk
    exact f62_spec r w (by omega) fun h' D' b' r' w' => ⟨_, rfl, hk h' D' b' r' w'⟩
  all_goals rw [if_neg (by simpa using q5)] at hk
  · rw [if_pos (by simpa using q6)] at hk
    exact f63_spec r w o.n.2 fun h' r' w' => ⟨rfl, hk h' R rfl r' w'⟩
  all_goals rw [if_neg (by simpa using q6)] at hk
  · rw [if_pos (by simpa using q7)] at hk
    exact f64_spec r w o.n.2 o.k.2 fun h' r' w' => ⟨rfl, hk h' R rfl r' w'⟩
  all_goals rw [if_neg (by simpa using q7)] at hk
  · rw [if_pos (by simpa using q8)] at hk
    exact f65_spec r w (by omega) hne o.picks fun h' D' b' r' w' => ⟨rfl, hk h' D' b' r' w'⟩
  · rw [if_neg (by simpa using q8)] at hk
    rw [byteOf_wrap]
    refine f66_spec r w (by omega) fun h' D' b' r' w' => ⟨_, rfl, brB_of (fun z => ?_) fun z => ?_⟩
    · have z' : (spoilS c.name c.at' (byteOf c.n) s).1 = false := by simpa using z
      rw [z'] at hk
      exact hk h' D' b' r' w'
    · have z' : (spoilS c.name c.at' (byteOf c.n) s).1 = true := by simpa using z
      rw [z'] at hk
      exact hk h' D' b' r' w'
theorem PRep.ne {s : Ds} {D : PD} (r : PRep s D) : s.was ≠ [] := by
  obtain ⟨d, e, _⟩ := r.wr
  rw [e]; exact scanC_ne _ _
theorem sinkO {w0 : World} {h : AH} {S D R X : List (Nat × AB)} (w : Own w0 h (S ++ (D ++ (R ++ X)))) : Own w0 h (D ++ (R ++ (S ++ X))) := by
  have q := Own.front (cs := S) (ds := D ++ R) (bs := X) (by simpa only [List.append_assoc] using w)
  simpa only [List.append_assoc] using q
theorem partO {w0 : World} {h : AH} {A C : List (Nat × AB)} (w : Own w0 h A) (hs : C.Sublist A) : Own w0 h C :=
  ⟨List.Nodup.sublist (hs.map _) w.nd, fun p hp => w.is p (hs.subset hp), fun p hp => w.pl p (hs.subset hp)⟩
/-- like. -/
theorem f34_spec {w0 : World} {K : Value → AH → Prop} {h : AH} {X : List (Nat × AB)} {s : Ds} {D : PD} {R : RD} (r : PRep s D) (m : RRep s R) (w : Own w0 h (D.blocks s ++ (R.blocks s ++ X))) (hc : s.calls < 1000000)
    (hk : ∀ h' X', Own w0 h' (D.blocks s ++ (R.blocks s ++ X')) → K (.bool true) h') :
    EvC Go.Proofs.Try.prog w0 34 #[.pointer (some ⟨D.bd, 0, none⟩), .pointer (some ⟨R.bd, 0, none⟩)] K h := by
  have hll : (listS s).length ≤ 1000000 := by
    have := r.ok.dir.len
    unfold listS; split
    · simp
    · simp; omega
  have loop : ∀ (a : Option Addr) (c : Nat), SlV 1 a (listS s).length c (strs (listS s)) → ∀ (k i : Nat), i + k = (listS s).length → ∀ h X, Own w0 h (D.blocks s ++ (R.blocks s ++ (slB a (strs (listS s)) (c * 1) ++ X))) →
      f34_4 w0 K (some ⟨D.bd, 0, none⟩) (some ⟨R.bd, 0, none⟩) a (listS s).length c (((listS s).length : Nat) : Int) ((i : Nat) : Int) h := fun a c v k => by
    induction k with
    | zero =>
      intro i hi h X w
      exact f34_4_in _ _ _ _ _ _ _ _ (brB_of (fun q => by simp at q; omega) fun _ => hk h _ w)
    | succ k ih =>
      intro i hi h X w
      have hil : i < (listS s).length := by omega
      have hg : (strs (listS s))[i]? = some (.string (listS s)[i]) := by simp [strs, hil]
      have rd : Rd w0 h a (strs (listS s)) := v.rd (cs := D.blocks s ++ R.blocks s) (bs := X) (by simpa only [List.append_assoc] using w)
      obtain ⟨ad, had, c1⟩ := rd _ _ hg
      refine f34_4_in _ _ _ _ _ _ _ _ (brB_of (fun _ => ⟨ad, had, by omega, by omega, _, by rw [Int.toNat_natCast, Nat.mul_one]; exact c1, f21_spec r w fun h1 a1 c1 v1 w1 => ⟨_, _, _, _, rfl, ?_⟩⟩) fun q => by simp at q; omega)
      have w2 := (sinkO w1).front
      refine f36_spec m w2 (by omega) fun h2 a2 c2 v2 w3 => ⟨_, _, _, _, rfl, brB_of (fun q => by simp at q) fun _ => ?_⟩
      have w4 : Own w0 h2 (D.blocks s ++ (R.blocks s ++ (slB a2 (u8s (readS (listS s)[i] s).2) (c2 * 1) ++ (slB a1 (u8s (readS (listS s)[i] s).2) (c1 * 1) ++ (slB a (strs (listS s)) (c * 1) ++ X))))) := by
        have := (sinkO w3).front
        exact this
      have rd1 : Rd w0 h2 a1 (u8s (readS (listS s)[i] s).2) := v1.rd (cs := D.blocks s ++ (R.blocks s ++ slB a2 (u8s (readS (listS s)[i] s).2) (c2 * 1))) (bs := slB a (strs (listS s)) (c * 1) ++ X) (by simpa only [List.append_assoc] using w4)
      have rd2 : Rd w0 h2 a2 (u8s (readS (listS s)[i] s).2) := v2.rd (cs := D.blocks s ++ R.blocks s) (bs := slB a1 (u8s (readS (listS s)[i] s).2) (c1 * 1) ++ (slB a (strs (listS s)) (c * 1) ++ X)) (by simpa only [List.append_assoc] using w4)
      refine rows8 rd1 rfl (rows8 rd2 rfl ?_)
      simp only [decide_true, Bool.not_true]
      refine f34_9_in _ _ _ _ _ _ _ _ _ (brB_of (fun z => by cases z) fun _ => ?_)
      rw [wrapS (by omega)]
      refine ih (i + 1) (by omega) h2 (slB a2 (u8s (readS (listS s)[i] s).2) (c2 * 1) ++ (slB a1 (u8s (readS (listS s)[i] s).2) (c1 * 1) ++ X)) ?_
      refine w4.perm (List.Perm.append_left _ (List.Perm.append_left _ ?_))
      have p1 := List.perm_append_comm_assoc (slB a1 (u8s (readS (listS s)[i] s).2) (c1 * 1)) (slB a (strs (listS s)) (c * 1)) X
      exact ((p1.append_left _).trans (List.perm_append_comm_assoc _ _ _))
  have two : ∀ h1 X, Own w0 h1 (D.blocks s ++ (R.blocks s ++ X)) → f34_2 w0 K (some ⟨D.bd, 0, none⟩) (some ⟨R.bd, 0, none⟩) false h1 := fun h1 X w1 => by
    refine f34_2_in _ _ _ _ (brB_of (fun z => by cases z) fun _ => f34_3_in _ _ _ (f67_spec m w1.front (by omega) fun a c h2 v2 w2 => ⟨_, _, _, rfl, ?_⟩))
    exact loop a c v2 (listS s).length 0 (by omega) h2 X (by
      have := (sinkO w2).front
      exact this)
  refine f34_go _ _ _ (f38_spec r w (by omega) fun a1 c1 h1 v1 w1 => ⟨_, _, _, rfl, f67_spec m (sinkO w1).front (by omega) fun a2 c2 h2 v2 w2 => ⟨_, _, _, rfl, ?_⟩⟩)
  have w3 : Own w0 h2 (D.blocks s ++ (R.blocks s ++ (slB a2 (strs (listS s)) (c2 * 1) ++ (slB a1 (strs (listS s)) (c1 * 1) ++ X)))) := (sinkO w2).front
  have rd1 : Rd w0 h2 a1 (strs (listS s)) := v1.rd (cs := D.blocks s ++ (R.blocks s ++ slB a2 (strs (listS s)) (c2 * 1))) (bs := X) (by simpa only [List.append_assoc] using w3)
  have rd2 : Rd w0 h2 a2 (strs (listS s)) := v2.rd (cs := D.blocks s ++ R.blocks s) (bs := slB a1 (strs (listS s)) (c1 * 1) ++ X) (by simpa only [List.append_assoc] using w3)
  refine f39_same rd1 rd2 (by omega) ⟨_, rfl, brB_of (fun z => by cases z) fun _ => f18_spec r w3 (by omega) fun h3 w4 => ⟨_, rfl, f19_spec m w4.front (by omega) ⟨_, rfl, brB_of (fun z => by simp at z) fun _ => ?_⟩⟩⟩
  generalize hXX : slB a2 (strs (listS s)) (c2 * 1) ++ (slB a1 (strs (listS s)) (c1 * 1) ++ X) = XX at w4
  have w5 := w4.front
  have ca : cellA w0 h3 (Addr.add ⟨R.bd, 0, none⟩ 3) = some (.int .i64 s.calls) := Own.cell0 (w := w5) rfl
  have cb : cellA w0 h3 (Addr.add ⟨R.bd, 0, none⟩ 7) = some (.bool s.off) := Own.cell0 (w := w5) rfl
  have hbb : (s.off != s.off) = false := by simp
  have t2 := two h3 XX w4
  refine ⟨_, rfl, ?_⟩
  repeat' first
    | (rw [hbb]; exact t2)
    | exact f26_spec w4 ⟨_, rfl, ?_⟩
    | refine f26_spec w4 ⟨_, rfl, ?_⟩
    | refine f27_spec w4 ⟨_, rfl, ?_⟩
    | refine ⟨_, ca, ?_⟩
    | refine ⟨_, cb, ?_⟩
    | refine ⟨_, rfl, ?_⟩
    | refine brB_of (fun z => by simp at z) fun _ => ?_
    | refine ⟨?_, ?_⟩
end Go.G.Ytpjklfmfgmicaaa
