/- DiskFull by the evaluator. -/
import Derived.Test.YtpjklfmfgmicaaaDN
import Derived.Test.YtpjklfmfgmicaaaProg
set_option maxRecDepth 100000
namespace Go.G.Ytpjklfmfgmicaaa
open Go.RowKit
def f3_J : Nat → List Nat × Nat := jOf [(5, [0, 1, 3, 4, 5, 6, 10, 11, 12, 13, 14, 15, 16, 17, 18, 19, 20, 21, 22, 23, 24, 25, 29, 30, 31, 32, 33, 34, 35, 36, 37, 38, 39, 40, 41, 42, 43, 44, 45, 46, 47, 48, 49, 50, 51, 52, 53, 54, 55, 56, 57, 58, 59, 60], 0), (10, [0, 1, 3, 4, 5, 6, 10, 12, 13, 14, 15, 16, 17, 18, 19, 20, 21, 22, 23, 24, 25, 29, 30, 31, 32, 33, 34, 35, 36, 37, 38, 41, 42, 43, 44, 45, 46, 47, 48, 49, 50, 51, 52, 53, 54, 55, 56, 57, 58, 59, 60], 0), (12, [0, 1, 3, 4, 5, 6, 10, 12, 13, 14, 15, 16, 17, 18, 19, 20, 21, 22, 23, 24, 25, 29, 30, 31, 32, 33, 34, 35, 36, 37, 38, 41, 42, 43, 44, 45, 46, 47, 48, 49, 50, 51, 52, 53, 54, 55, 56, 58, 59, 60], 0)]

def f3_5 (w0 : World) (K : Value → AH → Prop) (x2 : Int) (x7 : Option Go.Addr) (x8 : Option Go.Addr) (a9 : Option Go.Addr) (n9 : Nat) (c9 : Nat) (a26 : Option Go.Addr) (n26 : Nat) (c26 : Nat) (x27 : Int) (x28 : Int) (h : AH) : Prop :=
  ∀ j : Nat → Value, LPk Go.Proofs.Try.prog w0 (EvC Go.Proofs.Try.prog w0) f3_J 3 K 5 [.v (j 0), .v (j 1), .v (.int .i64 x2), .v (j 3), .v (j 4), .v (j 5), .v (j 6), .v (.pointer x7), .v (.pointer x8), .v (.slice a9 n9 c9), .v (j 10), .v (j 11), .v (j 12), .v (j 13), .v (j 14), .v (j 15), .v (j 16), .v (j 17), .v (j 18), .v (j 19), .v (j 20), .v (j 21), .v (j 22), .v (j 23), .v (j 24), .v (j 25), .v (.slice a26 n26 c26), .v (.int .i64 x27), .v (.int .i64 x28), .v (j 29), .v (j 30), .v (j 31), .v (j 32), .v (j 33), .v (j 34), .v (j 35), .v (j 36), .v (j 37), .v (j 38), .v (j 39), .v (j 40), .v (j 41), .v (j 42), .v (j 43), .v (j 44), .v (j 45), .v (j 46), .v (j 47), .v (j 48), .v (j 49), .v (j 50), .v (j 51), .v (j 52), .v (j 53), .v (j 54), .v (j 55), .v (j 56), .v (j 57), .v (j 58), .v (j 59), .v (j 60)] [] h

def f3_10 (w0 : World) (K : Value → AH → Prop) (x2 : Int) (x7 : Option Go.Addr) (x8 : Option Go.Addr) (a9 : Option Go.Addr) (n9 : Nat) (c9 : Nat) (x11 : ByteArray) (a26 : Option Go.Addr) (n26 : Nat) (c26 : Nat) (x27 : Int) (x28 : Int) (x39 : Int) (x40 : Int) (h : AH) : Prop :=
  ∀ j : Nat → Value, LPk Go.Proofs.Try.prog w0 (EvC Go.Proofs.Try.prog w0) f3_J 3 K 10 [.v (j 0), .v (j 1), .v (.int .i64 x2), .v (j 3), .v (j 4), .v (j 5), .v (j 6), .v (.pointer x7), .v (.pointer x8), .v (.slice a9 n9 c9), .v (j 10), .v (.string x11), .v (j 12), .v (j 13), .v (j 14), .v (j 15), .v (j 16), .v (j 17), .v (j 18), .v (j 19), .v (j 20), .v (j 21), .v (j 22), .v (j 23), .v (j 24), .v (j 25), .v (.slice a26 n26 c26), .v (.int .i64 x27), .v (.int .i64 x28), .v (j 29), .v (j 30), .v (j 31), .v (j 32), .v (j 33), .v (j 34), .v (j 35), .v (j 36), .v (j 37), .v (j 38), .v (.int .i64 x39), .v (.int .i64 x40), .v (j 41), .v (j 42), .v (j 43), .v (j 44), .v (j 45), .v (j 46), .v (j 47), .v (j 48), .v (j 49), .v (j 50), .v (j 51), .v (j 52), .v (j 53), .v (j 54), .v (j 55), .v (j 56), .v (j 57), .v (j 58), .v (j 59), .v (j 60)] [] h

def f3_12 (w0 : World) (K : Value → AH → Prop) (x2 : Int) (x7 : Option Go.Addr) (x8 : Option Go.Addr) (a9 : Option Go.Addr) (n9 : Nat) (c9 : Nat) (x11 : ByteArray) (a26 : Option Go.Addr) (n26 : Nat) (c26 : Nat) (x27 : Int) (x28 : Int) (x39 : Int) (x40 : Int) (x57 : Bool) (h : AH) : Prop :=
  ∀ j : Nat → Value, LPk Go.Proofs.Try.prog w0 (EvC Go.Proofs.Try.prog w0) f3_J 3 K 12 [.v (j 0), .v (j 1), .v (.int .i64 x2), .v (j 3), .v (j 4), .v (j 5), .v (j 6), .v (.pointer x7), .v (.pointer x8), .v (.slice a9 n9 c9), .v (j 10), .v (.string x11), .v (j 12), .v (j 13), .v (j 14), .v (j 15), .v (j 16), .v (j 17), .v (j 18), .v (j 19), .v (j 20), .v (j 21), .v (j 22), .v (j 23), .v (j 24), .v (j 25), .v (.slice a26 n26 c26), .v (.int .i64 x27), .v (.int .i64 x28), .v (j 29), .v (j 30), .v (j 31), .v (j 32), .v (j 33), .v (j 34), .v (j 35), .v (j 36), .v (j 37), .v (j 38), .v (.int .i64 x39), .v (.int .i64 x40), .v (j 41), .v (j 42), .v (j 43), .v (j 44), .v (j 45), .v (j 46), .v (j 47), .v (j 48), .v (j 49), .v (j 50), .v (j 51), .v (j 52), .v (j 53), .v (j 54), .v (j 55), .v (j 56), .v (.bool x57), .v (j 58), .v (j 59), .v (j 60)] [] h

theorem f3_5_in {w0 : World} {K : Value → AH → Prop} (x2 : Int) (x7 : Option Go.Addr) (x8 : Option Go.Addr) (a9 : Option Go.Addr) (n9 : Nat) (c9 : Nat) (a26 : Option Go.Addr) (n26 : Nat) (c26 : Nat) (x27 : Int) (x28 : Int) (h : AH)
  (hv : (brB (decide ((x28 < x27))) (∃ a'10 : Go.Addr, ((a26 = (some a'10)) ∧ (((0 : Int) ≤ x28) ∧ ((x28 < ((n26 : Nat) : Int)) ∧ (∃ s'11 : ByteArray, (((Go.G.cellA w0 h (Go.Addr.add a'10 ((Int.toNat x28) * 1))) = (some (Go.Value.string s'11))) ∧ (EvC Go.Proofs.Try.prog w0 14 #[(Go.Value.pointer x7), (Go.Value.string s'11)] (fun x'12 h'13 => (∃ i'14 : Int, ((x'12 = (Go.Value.int .i64 i'14)) ∧ (EvC Go.Proofs.Try.prog w0 15 #[(Go.Value.pointer x8), (Go.Value.string s'11)] (fun x'15 h'16 => (∃ i'17 : Int, ((x'15 = (Go.Value.int .i64 i'17)) ∧ (brB (i'14 != i'17) (K (Go.Value.bool false) h'16) (f3_10 w0 K x2 x7 x8 a9 n9 c9 s'11 a26 n26 c26 x27 x28 x2 (0 : Int) h'16))))) h'13)))) h))))))) (EvC Go.Proofs.Try.prog w0 20 #[] (fun x'18 h'19 => (∃ t'20 : Bool, ((x'18 = (Go.Value.bool t'20)) ∧ (K (Go.Value.bool t'20) h'19)))) h))) :
  f3_5 w0 K x2 x7 x8 a9 n9 c9 a26 n26 c26 x27 x28 h := fun j => LP_intro (P := Go.Proofs.Try.prog) (Eq.mp (by kernel_rfl) hv)

theorem f3_10_in {w0 : World} {K : Value → AH → Prop} (x2 : Int) (x7 : Option Go.Addr) (x8 : Option Go.Addr) (a9 : Option Go.Addr) (n9 : Nat) (c9 : Nat) (x11 : ByteArray) (a26 : Option Go.Addr) (n26 : Nat) (c26 : Nat) (x27 : Int) (x28 : Int) (x39 : Int) (x40 : Int) (h : AH)
  (hv : (brB (decide ((x40 < x39))) (EvC Go.Proofs.Try.prog w0 16 #[(Go.Value.pointer x7), (Go.Value.string x11), (Go.Value.slice a9 n9 c9)] (fun x'21 h'22 => (∃ i'23 : Int, ((x'21 = (Go.Value.int .i64 i'23)) ∧ (EvC Go.Proofs.Try.prog w0 17 #[(Go.Value.pointer x8), (Go.Value.string x11), (Go.Value.slice a9 n9 c9)] (fun x'24 h'25 => (∃ i'26 : Int, ((x'24 = (Go.Value.int .i64 i'26)) ∧ (brB (i'23 != i'26) (f3_12 w0 K x2 x7 x8 a9 n9 c9 x11 a26 n26 c26 x27 x28 x39 x40 true h'25) (EvC Go.Proofs.Try.prog w0 18 #[(Go.Value.pointer x7)] (fun x'27 h'28 => (∃ i'29 : Int, ((x'27 = (Go.Value.int .i64 i'29)) ∧ (EvC Go.Proofs.Try.prog w0 19 #[(Go.Value.pointer x8)] (fun x'30 h'31 => (∃ i'32 : Int, ((x'30 = (Go.Value.int .i64 i'32)) ∧ (f3_12 w0 K x2 x7 x8 a9 n9 c9 x11 a26 n26 c26 x27 x28 x39 x40 (i'29 != i'32) h'31)))) h'28)))) h'25))))) h'22)))) h) (f3_5 w0 K x2 x7 x8 a9 n9 c9 a26 n26 c26 x27 (Go.IntKind.wrap .i64 (x28 + (1 : Int))) h))) :
  f3_10 w0 K x2 x7 x8 a9 n9 c9 x11 a26 n26 c26 x27 x28 x39 x40 h := fun j => LP_intro (P := Go.Proofs.Try.prog) (Eq.mp (by kernel_rfl) hv)

theorem f3_12_in {w0 : World} {K : Value → AH → Prop} (x2 : Int) (x7 : Option Go.Addr) (x8 : Option Go.Addr) (a9 : Option Go.Addr) (n9 : Nat) (c9 : Nat) (x11 : ByteArray) (a26 : Option Go.Addr) (n26 : Nat) (c26 : Nat) (x27 : Int) (x28 : Int) (x39 : Int) (x40 : Int) (x57 : Bool) (h : AH)
  (hv : (brB x57 (K (Go.Value.bool false) h) (f3_10 w0 K x2 x7 x8 a9 n9 c9 x11 a26 n26 c26 x27 x28 x39 (Go.IntKind.wrap .i64 (x40 + (1 : Int))) h))) :
  f3_12 w0 K x2 x7 x8 a9 n9 c9 x11 a26 n26 c26 x27 x28 x39 x40 x57 h := fun j => LP_intro (P := Go.Proofs.Try.prog) (Eq.mp (by kernel_rfl) hv)

theorem f3_go {w0 : World} {K : Value → AH → Prop} (x0 : Int) (x1 : Int) (x2 : Int) (h : AH)
  (hv : (((2000000 : Int) ≠ (0 : Int)) ∧ (((2000000 : Int) ≠ (0 : Int)) ∧ (((6 : Int) ≠ (0 : Int)) ∧ (((6 : Int) ≠ (0 : Int)) ∧ (EvC Go.Proofs.Try.prog w0 12 #[(Go.Value.int .i64 x0)] (fun x'0 h'1 => (∃ p'2 : Option Go.Addr, ((x'0 = (Go.Value.pointer p'2)) ∧ (EvC Go.Proofs.Try.prog w0 13 #[(Go.Value.int .i64 x0)] (fun x'3 h'4 => (∃ p'5 : Option Go.Addr, ((x'3 = (Go.Value.pointer p'5)) ∧ (((0 : Int) ≤ (Int.tmod (Go.IntKind.wrap .i64 ((Int.tmod x1 (2000000 : Int)) + (2000000 : Int))) (2000000 : Int))) ∧ (((Int.tmod (Go.IntKind.wrap .i64 ((Int.tmod x1 (2000000 : Int)) + (2000000 : Int))) (2000000 : Int)) ≤ (Int.tmod (Go.IntKind.wrap .i64 ((Int.tmod x1 (2000000 : Int)) + (2000000 : Int))) (2000000 : Int))) ∧ ((((Int.tmod (Go.IntKind.wrap .i64 ((Int.tmod x1 (2000000 : Int)) + (2000000 : Int))) (2000000 : Int)) * (1 : Int)) ≤ (140737488355328 : Int)) ∧ (((Int.tmod (Go.IntKind.wrap .i64 ((Int.tmod x1 (2000000 : Int)) + (2000000 : Int))) (2000000 : Int)) ≤ (140737488355328 : Int)) ∧ ((1 = 1) ∧ (newB w0 h'4 (Go.G.AB.cells (Go.G.replF (Int.toNat (Int.tmod (Go.IntKind.wrap .i64 ((Int.tmod x1 (2000000 : Int)) + (2000000 : Int))) (2000000 : Int))) [(Go.Value.int .u8 (0 : Int))]) ((Int.toNat (Int.tmod (Go.IntKind.wrap .i64 ((Int.tmod x1 (2000000 : Int)) + (2000000 : Int))) (2000000 : Int))) * 1)) (fun b'6 h'7 => (newB w0 h'7 (Go.G.AB.cells [(Go.Value.string (ByteArray.mk #[(97 : UInt8)])), (Go.Value.string (ByteArray.mk #[(98 : UInt8)]))] 2) (fun b'8 h'9 => (f3_5 w0 K (Int.tmod (Go.IntKind.wrap .i64 ((Int.tmod x2 (6 : Int)) + (6 : Int))) (6 : Int)) p'2 p'5 (some (Go.Addr.mk b'6 0 none)) (Int.toNat (Int.tmod (Go.IntKind.wrap .i64 ((Int.tmod x1 (2000000 : Int)) + (2000000 : Int))) (2000000 : Int))) (Int.toNat (Int.tmod (Go.IntKind.wrap .i64 ((Int.tmod x1 (2000000 : Int)) + (2000000 : Int))) (2000000 : Int))) (some (Go.Addr.mk b'8 0 none)) 2 2 (2 : Int) (0 : Int) h'9))))))))))))) h'1)))) h)))))) :
  EvC Go.Proofs.Try.prog w0 3 ([(.int .i64 x0), (.int .i64 x1), (.int .i64 x2)]).toArray K h := EvC_intro (P := Go.Proofs.Try.prog) f3_J (Eq.mp (by kernel_rfl) hv)
theorem modR {x m : Int} (hm : 0 < m) (hm2 : m ≤ 1000000000) : 0 ≤ Int.tmod (IntKind.i64.wrap (Int.tmod x m + m)) m ∧ Int.tmod (IntKind.i64.wrap (Int.tmod x m + m)) m < m := by
  have h1 := Int.tmod_lt_of_pos x hm
  have h2 := Int.lt_tmod_of_pos x hm
  rw [wrap64 (by omega) (by omega)]
  exact ⟨Int.tmod_nonneg _ (by omega), Int.tmod_lt_of_pos _ hm⟩
theorem repl_u8 : ∀ n, replF n [Value.int .u8 0] = u8s (List.replicate n 0)
  | 0 => rfl
  | n + 1 => by
    rw [List.replicate_succ]
    show Value.int .u8 0 :: replF n [Value.int .u8 0] = _
    rw [repl_u8 n]
    rfl

/-- DiskFull. -/
theorem f3_spec {w0 : World} {K : Value → AH → Prop} {room size times : Int} (hr : room ≤ 9223372036854775807) (hk : ∀ h, K (.bool true) h) :
    EvC Go.Proofs.Try.prog w0 3 #[.int .i64 room, .int .i64 size, .int .i64 times] K (fun _ => none) := by
  obtain ⟨s1, s2⟩ := modR (x := size) (m := 2000000) (by decide) (by decide)
  obtain ⟨t1, t2⟩ := modR (x := times) (m := 6) (by decide) (by decide)
  refine f3_go _ _ _ _ ⟨by decide, by decide, by decide, by decide, f12_spec hr Own.nil fun h1 D r1 w1 => ⟨_, rfl, f13_spec hr w1 fun h2 R r2 w2 => ⟨_, rfl, s1, Int.le_refl _, by omega, by omega, rfl, ?_⟩⟩⟩
  generalize Int.tmod (IntKind.i64.wrap (Int.tmod size 2000000 + 2000000)) 2000000 = S at s1 s2 ⊢
  generalize Int.tmod (IntKind.i64.wrap (Int.tmod times 6 + 6)) 6 = T0 at t1 t2 ⊢
  obtain ⟨T, rfl⟩ : ∃ T : Nat, T0 = (T : Int) := ⟨T0.toNat, by omega⟩
  obtain ⟨ys, hyl, hyc⟩ : ∃ ys : List UInt8, ys.length = S.toNat ∧ u8s ys = replF S.toNat [.int .u8 0] := ⟨List.replicate S.toNat 0, by simp, (repl_u8 _).symm⟩
  rw [← hyc, ← hyl]
  intro b6 hb6 hn6 b8 hb8 hn8
  have hyb : ys.length ≤ 2000000 := by omega
  generalize hL : [(b8, AB.cells [.string ⟨#[97]⟩, .string ⟨#[98]⟩] 2), (b6, AB.cells (u8s ys) (ys.length * 1))] = L
  have w3 : Own w0 ((h2.put b6 (.cells (u8s ys) (ys.length * 1))).put b8 (.cells [.string ⟨#[97]⟩, .string ⟨#[98]⟩] 2)) (D.blocks (newS room) ++ (R.blocks (newS room) ++ L)) := by
    have wa := Own.new (o := .cells (u8s ys) (ys.length * 1)) w2 hb6 hn6
    have wb := Own.new (o := .cells [.string ⟨#[97]⟩, .string ⟨#[98]⟩] 2) wa hb8 hn8
    rw [← hL]
    have wc : Own w0 ((h2.put b6 (.cells (u8s ys) (ys.length * 1))).put b8 (.cells [.string ⟨#[97]⟩, .string ⟨#[98]⟩] 2)) ([(b8, AB.cells [.string ⟨#[97]⟩, .string ⟨#[98]⟩] 2), (b6, AB.cells (u8s ys) (ys.length * 1))] ++ ((R.blocks (newS room) ++ D.blocks (newS room)) ++ [])) := by simpa only [List.cons_append, List.nil_append, List.append_nil] using wb
    have wd := wc.swap
    rw [List.append_nil, List.append_assoc] at wd
    exact wd.front
  -- the bytes may be read whatever becomes of the disks
  have hrd : ∀ (C : List (Nat × AB)) (h' : AH), Own w0 h' (C ++ L) → Rd w0 h' (some ⟨b6, 0, none⟩) (u8s ys) := fun C h' w' => by
    have wl := w'.drop
    rw [← hL] at wl
    have : Sl w0 h' 1 (some ⟨b6, 0, none⟩) ys.length ys.length (u8s ys) := ⟨by rw [u8s_length, Nat.mul_one], Nat.le_refl _, rfl, rfl, wl.tail.ge, wl.tail.hd⟩
    exact this.rd
  have step : ∀ (i : Nat) (n : ByteArray), i < 2 → ([Value.string ⟨#[97]⟩, .string ⟨#[98]⟩])[i]? = some (.string n) → n.size ≤ 1 →
      (∀ (s : Ds) (D' : PD) (R' : RD) (h : AH), D'.bd = D.bd → R'.bd = R.bd → PRep s D' → RRep s R' → s.calls ≤ (i + 1) * 6 → Own w0 h (D'.blocks s ++ (R'.blocks s ++ L)) →
        f3_5 w0 K (T : Nat) (some ⟨D.bd, 0, none⟩) (some ⟨R.bd, 0, none⟩) (some ⟨b6, 0, none⟩) ys.length ys.length (some ⟨b8, 0, none⟩) 2 2 2 ((i + 1 : Nat) : Int) h) →
      (∀ (s : Ds) (D' : PD) (R' : RD) (h : AH), D'.bd = D.bd → R'.bd = R.bd → PRep s D' → RRep s R' → s.calls ≤ i * 6 → Own w0 h (D'.blocks s ++ (R'.blocks s ++ L)) →
        f3_5 w0 K (T : Nat) (some ⟨D.bd, 0, none⟩) (some ⟨R.bd, 0, none⟩) (some ⟨b6, 0, none⟩) ys.length ys.length (some ⟨b8, 0, none⟩) 2 2 2 ((i : Nat) : Int) h) := by
    intro i n hi hcell hns next s D1 R1 h hD hR p1 q1 hc w
    have inner : ∀ (k j : Nat) (s : Ds) (D' : PD) (R' : RD) (h : AH), j + k = T → D'.bd = D.bd → R'.bd = R.bd → PRep s D' → RRep s R' → s.calls ≤ i * 6 + 1 + j → Own w0 h (D'.blocks s ++ (R'.blocks s ++ L)) →
        f3_10 w0 K (T : Nat) (some ⟨D.bd, 0, none⟩) (some ⟨R.bd, 0, none⟩) (some ⟨b6, 0, none⟩) ys.length ys.length n (some ⟨b8, 0, none⟩) 2 2 2 ((i : Nat) : Int) (T : Nat) ((j : Nat) : Int) h := by
      intro k
      induction k with
      | zero =>
        intro j s D' R' h hj hD hR p q hc w
        refine f3_10_in _ _ _ _ _ _ _ _ _ _ _ _ _ _ _ (brB_of (fun z => by simp at z; omega) fun _ => ?_)
        rw [wrapS (by omega)]
        exact next s D' R' h hD hR p q (by omega) w
      | succ k ih =>
        intro j s D' R' h hj hD hR p q hc w
        refine f3_10_in _ _ _ _ _ _ _ _ _ _ _ _ _ _ _ (brB_of (fun _ => ?_) fun z => by simp at z; omega)
        rw [← hD, ← hR]
        refine f16_spec p w (by omega) (fun h' w' => hrd _ h' w') (by omega) fun h2 D2 hD2 p2 w2 => ⟨_, rfl, ?_⟩
        refine f17_spec q w2.front (by omega) (fun h' w' => hrd _ h' w') (by omega) fun h3 R3 hR3 q3 w3 => ⟨_, rfl, brB_of (fun z => by simp at z) fun _ => ?_⟩
        have cc := appendS_calls n ys s
        rw [← hD2]
        refine f18_spec p2 w3.front (by omega) fun h4 w4 => ⟨_, rfl, ?_⟩
        rw [← hR3]
        refine f19_spec q3 w4.front (by omega) ⟨_, rfl, ?_⟩
        refine f3_12_in _ _ _ _ _ _ _ _ _ _ _ _ _ _ _ _ (brB_of (fun z => by simp at z) fun _ => ?_)
        rw [wrapS (by omega), hD2, hR3, hD, hR]
        exact ih (j + 1) _ D2 R3 h4 (by omega) (by rw [hD2, hD]) (by rw [hR3, hR]) p2 q3 (by omega) w4
    have wl : Own w0 h L := w.drop.drop
    rw [← hL] at wl
    refine f3_5_in _ _ _ _ _ _ _ _ _ _ _ _ (brB_of (fun _ => ⟨_, rfl, by omega, by omega, n, ?_, ?_⟩) fun z => by simp at z; omega)
    · rw [Int.toNat_natCast, Nat.mul_one]
      exact wl.cell0 hcell
    rw [← hD, ← hR]
    refine f14_spec p1 w (by omega) fun h2 D2 hD2 p2 w2 => ⟨_, rfl, f15_spec q1 w2.front (by omega) (by omega) fun h3 R3 hR3 q3 w3 => ⟨_, rfl, brB_of (fun z => by simp at z) fun _ => ?_⟩⟩
    have cc := createS_calls n s
    rw [hD, hR]
    exact inner T 0 _ D2 R3 h3 (by omega) (by rw [hD2, hD]) (by rw [hR3, hR]) p2 q3 (by omega) w3.front
  refine step 0 ⟨#[97]⟩ (by decide) rfl (by decide) (step 1 ⟨#[98]⟩ (by decide) rfl (by decide) fun s D' R' h hD hR p q hc w => ?_) (newS room) D R _ rfl rfl r1 r2 (by simp [newS]) w3
  exact f3_5_in _ _ _ _ _ _ _ _ _ _ _ _ (brB_of (fun z => by simp at z) fun _ => f20_spec w fun h' _ => ⟨_, rfl, hk h'⟩)
end Go.G.Ytpjklfmfgmicaaa
