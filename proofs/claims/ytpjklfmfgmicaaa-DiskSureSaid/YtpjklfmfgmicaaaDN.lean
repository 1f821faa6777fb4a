/- New as the document answers; a disk that every program must know. -/
import Derived.Test.YtpjklfmfgmicaaaDM
import Derived.Test.YtpjklfmfgmicaaaProg
set_option maxRecDepth 100000
namespace Go.G.Ytpjklfmfgmicaaa
open Go.RowKit
def f13_J : Nat → List Nat × Nat := jOf []



theorem f13_go {w0 : World} {K : Value → AH → Prop} (x0 : Int) (h : AH)
  (hv : (newB w0 h (Go.G.AB.cells [(Go.Value.slice none 0 0)] 1) (fun b'0 h'1 => (newB w0 h'1 (Go.G.AB.cells [(Go.Value.int .i64 (if ((0 : Int) < x0) then x0 else (0 : Int))), (Go.Value.slice none 0 0), (Go.Value.slice (some (Go.Addr.mk b'0 0 none)) 1 1), (Go.Value.int .i64 (0 : Int)), (Go.Value.int .i64 (0 : Int)), (Go.Value.int .i64 (0 : Int)), (Go.Value.int .i64 (0 : Int)), (Go.Value.bool false)] (List.length [(Go.Value.int .i64 (if ((0 : Int) < x0) then x0 else (0 : Int))), (Go.Value.slice none 0 0), (Go.Value.slice (some (Go.Addr.mk b'0 0 none)) 1 1), (Go.Value.int .i64 (0 : Int)), (Go.Value.int .i64 (0 : Int)), (Go.Value.int .i64 (0 : Int)), (Go.Value.int .i64 (0 : Int)), (Go.Value.bool false)])) (fun b'2 h'3 => (K (Go.Value.pointer (some (Go.Addr.mk b'2 0 none))) h'3)))))) :
  EvC Go.Proofs.Try.prog w0 13 ([(.int .i64 x0)]).toArray K h := EvC_intro (P := Go.Proofs.Try.prog) f13_J (Eq.mp (by kernel_rfl) hv)
def f20_J : Nat → List Nat × Nat := jOf [(3, [0, 2, 3, 4, 5, 6, 7, 8, 9, 10, 11, 12, 13, 15, 16, 17, 18, 19, 20, 21, 22, 23, 24, 25, 26], 0)]

def f20_3 (w0 : World) (K : Value → AH → Prop) (x1 : Option Go.Addr) (x14 : Bool) (h : AH) : Prop :=
  ∀ j : Nat → Value, LPk Go.Proofs.Try.prog w0 (EvC Go.Proofs.Try.prog w0) f20_J 20 K 3 [.v (j 0), .v (.pointer x1), .v (j 2), .v (j 3), .v (j 4), .v (j 5), .v (j 6), .v (j 7), .v (j 8), .v (j 9), .v (j 10), .v (j 11), .v (j 12), .v (j 13), .v (.bool x14), .v (j 15), .v (j 16), .v (j 17), .v (j 18), .v (j 19), .v (j 20), .v (j 21), .v (j 22), .v (j 23), .v (j 24), .v (j 25), .v (j 26)] [] h

theorem f20_3_in {w0 : World} {K : Value → AH → Prop} (x1 : Option Go.Addr) (x14 : Bool) (h : AH)
  (hv : (brB x14 (K (Go.Value.bool false) h) (EvC Go.Proofs.Try.prog w0 21 #[(Go.Value.pointer x1), (Go.Value.string (ByteArray.mk #[(97 : UInt8)]))] (fun x'11 h'12 => (∃ p'13 : Option Go.Addr, (∃ n'14 : Nat, (∃ n'15 : Nat, (∃ i'16 : Int, ((x'11 = (Go.Value.tuple #[(Go.Value.slice p'13 n'14 n'15), (Go.Value.int .i64 i'16)])) ∧ (brB (i'16 == (0 : Int)) (rowsOf w0 h'12 1 p'13 n'14 (fun ys'17 => (∃ s'18 : ByteArray, ((ys'17 = (Go.G.intsOf s'18)) ∧ (K (Go.Value.bool (decide ((s'18 = (ByteArray.mk #[(120 : UInt8), (121 : UInt8)]))))) h'12))))) (K (Go.Value.bool false) h'12)))))))) h))) :
  f20_3 w0 K x1 x14 h := fun j => LP_intro (P := Go.Proofs.Try.prog) (Eq.mp (by kernel_rfl) hv)

theorem f20_go {w0 : World} {K : Value → AH → Prop}  (h : AH)
  (hv : (EvC Go.Proofs.Try.prog w0 12 #[(Go.Value.int .i64 (100 : Int))] (fun x'0 h'1 => (∃ p'2 : Option Go.Addr, ((x'0 = (Go.Value.pointer p'2)) ∧ (EvC Go.Proofs.Try.prog w0 14 #[(Go.Value.pointer p'2), (Go.Value.string (ByteArray.mk #[(97 : UInt8)]))] (fun x'3 h'4 => (∃ i'5 : Int, ((x'3 = (Go.Value.int .i64 i'5)) ∧ (brB (i'5 != (0 : Int)) (f20_3 w0 K p'2 true h'4) (newB w0 h'4 (Go.G.AB.strb [(Go.Value.int .u8 (120 : Int)), (Go.Value.int .u8 (121 : Int))]) (fun b'6 h'7 => (EvC Go.Proofs.Try.prog w0 16 #[(Go.Value.pointer p'2), (Go.Value.string (ByteArray.mk #[(97 : UInt8)])), (Go.Value.slice (some (Go.Addr.mk b'6 0 none)) 2 2)] (fun x'8 h'9 => (∃ i'10 : Int, ((x'8 = (Go.Value.int .i64 i'10)) ∧ (f20_3 w0 K p'2 (i'10 != (0 : Int)) h'9)))) h'7))))))) h'1)))) h)) :
  EvC Go.Proofs.Try.prog w0 20 ([]).toArray K h := EvC_intro (P := Go.Proofs.Try.prog) f20_J (Eq.mp (by kernel_rfl) hv)
/-- New, as the document answers. -/
theorem f13_spec {w0 : World} {K : Value → AH → Prop} {h : AH} {B : List (Nat × AB)} {room : Int} (hr : room ≤ 9223372036854775807) (w : Own w0 h B)
    (hk : ∀ h' R, RRep (newS room) R → Own w0 h' (R.blocks (newS room) ++ B) → K (.pointer (some ⟨R.bd, 0, none⟩)) h') : EvC Go.Proofs.Try.prog w0 13 #[.int .i64 room] K h := by
  refine f13_go _ _ fun b1 hb1 hn1 b2 hb2 hn2 => ?_
  have w1 : Own w0 _ _ := w.new hb1 hn1 (o := .cells [.slice none 0 0] 1)
  have w2 : Own w0 _ _ := w1.new hb2 hn2 (o := .cells (rcl (if 0 < room then room else 0) none 0 0 (some ⟨b1, 0, none⟩) 1 1 0 0 0 0 false) 8)
  refine hk _ ⟨b2, none, 0, some ⟨b1, 0, none⟩, 1, [(none, 0)], []⟩ ⟨newS_ok room hr, rfl, fun f hf => (by cases hf), SlV.nil, ⟨rfl, Nat.le_refl _, rfl, rfl⟩, ⟨SlV.nil, trivial⟩⟩ ?_
  rw [RD.flat]
  exact w2

theorem createS_calls (n : ByteArray) (s : Ds) : (createS n s).2.calls = s.calls + 1 := by
  have e := (callS_same s).2.2.2.2
  unfold createS
  dsimp only
  split
  · exact e
  split
  · exact e
  split <;> exact e
theorem appendS_calls (n : ByteArray) (b : List UInt8) (s : Ds) : (appendS n b s).2.calls = s.calls + 1 := by
  have e := (callS_same s).2.2.2.2
  unfold appendS
  dsimp only
  split
  · exact e
  split
  · exact e
  · split <;> exact e

theorem awake_reads : (createS ⟨#[97]⟩ (newS 100)).1 = 0 ∧ (appendS ⟨#[97]⟩ [120, 121] (createS ⟨#[97]⟩ (newS 100)).2).1 = 0 ∧ readS ⟨#[97]⟩ (appendS ⟨#[97]⟩ [120, 121] (createS ⟨#[97]⟩ (newS 100)).2).2 = (0, [120, 121]) :=
  ⟨by kernel_rfl, by kernel_rfl, by kernel_rfl⟩
theorem intsOf_mk (l : List UInt8) : intsOf ⟨l.toArray⟩ = u8s l := by simp [intsOf, u8s]
/-- awake. -/
theorem f20_spec {w0 : World} {K : Value → AH → Prop} {h : AH} {B : List (Nat × AB)} (w : Own w0 h B) (hk : ∀ h', Own w0 h' B → K (.bool true) h') : EvC Go.Proofs.Try.prog w0 20 #[] K h := by
  obtain ⟨a1, a2, a3⟩ := awake_reads
  refine f20_go _ (f12_spec (by omega) w fun h1 D r1 w1 => ⟨_, rfl, f14_spec r1 w1 (by decide) fun h2 D2 hb2 r2 w2 => ⟨_, rfl, ?_⟩⟩)
  rw [← hb2, a1]
  refine brB_of (fun q => by cases q) fun _ b hb hbn => ?_
  have w3 : Own w0 _ _ := (w2.new hb hbn (o := .strb (u8s [120, 121]))).perm (List.perm_middle (l₁ := D2.blocks _) (l₂ := B)).symm
  refine f16_spec (ys := [120, 121]) (B := (b, .strb (u8s [120, 121])) :: B) r2 w3 (by rw [createS_calls]; decide) (fun h' w' => ?_) (by decide) fun h4 D4 hb4 r4 w4 => ⟨_, rfl, ?_⟩
  · refine fun j x hj => ⟨_, rfl, ?_⟩
    rw [add_plain]
    simp only [cellA]
    rw [if_neg (by have := w'.ge; omega), w'.hd]
    simpa using hj
  rw [← hb4, a2]
  refine f20_3_in _ _ _ (brB_of (fun q => by cases q) fun _ => f21_spec r4 w4 fun h5 a c v w5 => ?_)
  rw [a3] at v w5 ⊢
  refine ⟨_, _, _, _, rfl, brB_of (fun _ => rows8 (v.rd (cs := []) w5) rfl ?_) fun q => by cases q⟩
  have w6 : Own w0 h5 B := w5.drop.drop.tail
  have := hk h5 w6
  rw [show (decide ((⟨([120, 121] : List UInt8).toArray⟩ : ByteArray) = ⟨#[120, 121]⟩)) = true by decide]
  exact this
end Go.G.Ytpjklfmfgmicaaa
