/- Messages' bytes; the document's bytes. -/
import Derived.Test.YtilifcggegabfaaDoorEA
import Derived.Test.YtilifcggegabfaaDoorProg
set_option maxRecDepth 100000
namespace Go.G.YtilifcggegabfaaDoor
open Go.RowKit
open Value (string slice int bool agg)
def f53_J : Nat → List Nat × Nat := jOf []



theorem f53_go {w0 : World} {K : Value → AH → Prop} (c : Option Addr) (b : Nat) (d : Nat) (a : ByteArray) (e : Option Addr) (g : Nat) (i : Nat) (k : Int) (s : Bool) (b4 : Int) (h : AH)
  (hv : (brB s (((App w0 h 1 1 c b d 1 [(int .u8 (IntKind.wrap .u8 (((BitVec.toNat ((BitVec.ofInt 8 (IntKind.wrap .u8 k)) ||| (BitVec.ofInt 8 (4 : Int)))) : Nat) : Int)))] (fun b5 b6 b7 => (∀ m : Nat, (((ByteArray.size a) ≤ m) → (newB w0 b7 (AB.cells (intsOf a) m) (fun b8 b9 => (EvC Proofs.Tryd.prog w0 75 #[(slice b5 (b + 1) b6), (slice (some (Addr.mk b8 0 none)) (ByteArray.size a) m)] (fun c0 c1 => (∃ t : Option Addr, (∃ u : Nat, (∃ v : Nat, ((c0 = (slice t u v)) ∧ (EvC Proofs.Tryd.prog w0 75 #[(slice t u v), (slice e g i)] (fun c2 c3 => (∃ x : Option Addr, (∃ y : Nat, (∃ z : Nat, ((c2 = (slice x y z)) ∧ (K (slice x y z) c3)))))) c1)))))) b9))))))) ∧ (∀ n : Nat, (((ByteArray.size a) ≤ n) → (newB w0 h (AB.cells (intsOf a) n) (fun c4 c5 => (App w0 c5 1 1 c b d 1 [(int .u8 (IntKind.wrap .u8 (((BitVec.toNat ((BitVec.ofInt 8 (IntKind.wrap .u8 k)) ||| (BitVec.ofInt 8 (4 : Int)))) : Nat) : Int)))] (fun c6 c7 c8 => (EvC Proofs.Tryd.prog w0 75 #[(slice c6 (b + 1) c7), (slice (some (Addr.mk c4 0 none)) (ByteArray.size a) n)] (fun c9 d0 => (∃ A : Option Addr, (∃ B : Nat, (∃ C : Nat, ((c9 = (slice A B C)) ∧ (EvC Proofs.Tryd.prog w0 75 #[(slice A B C), (slice e g i)] (fun d1 d2 => (∃ D : Option Addr, (∃ E : Nat, (∃ F : Nat, ((d1 = (slice D E F)) ∧ (K (slice D E F) d2)))))) d0)))))) c8)))))))) ∧ (∀ o : Nat, (((ByteArray.size a) ≤ o) → (newB w0 h (AB.cells (intsOf a) o) (fun d3 d4 => (App w0 d4 1 1 c b d 1 [(int .u8 (IntKind.wrap .u8 (((BitVec.toNat ((BitVec.ofInt 8 (IntKind.wrap .u8 k)) ||| (BitVec.ofInt 8 (4 : Int)))) : Nat) : Int)))] (fun d5 d6 d7 => (EvC Proofs.Tryd.prog w0 75 #[(slice d5 (b + 1) d6), (slice (some (Addr.mk d3 0 none)) (ByteArray.size a) o)] (fun d8 d9 => (∃ L : Option Addr, (∃ M : Nat, (∃ N : Nat, ((d8 = (slice L M N)) ∧ (EvC Proofs.Tryd.prog w0 75 #[(slice L M N), (slice e g i)] (fun e0 e1 => (∃ Q : Option Addr, (∃ R : Nat, (∃ T : Nat, ((e0 = (slice Q R T)) ∧ (K (slice Q R T) e1)))))) d9)))))) d7)))))))) (((App w0 h 1 1 c b d 1 [(int .u8 (IntKind.wrap .u8 k))] (fun e2 e3 e4 => (∀ p : Nat, (((ByteArray.size a) ≤ p) → (newB w0 e4 (AB.cells (intsOf a) p) (fun e5 e6 => (EvC Proofs.Tryd.prog w0 75 #[(slice e2 (b + 1) e3), (slice (some (Addr.mk e5 0 none)) (ByteArray.size a) p)] (fun e7 e8 => (∃ U : Option Addr, (∃ V : Nat, (∃ Y : Nat, ((e7 = (slice U V Y)) ∧ (EvC Proofs.Tryd.prog w0 75 #[(slice U V Y), (slice e g i)] (fun e9 g0 => (∃ Z : Option Addr, (∃ a0 : Nat, (∃ a1 : Nat, ((e9 = (slice Z a0 a1)) ∧ (K (slice Z a0 a1) g0)))))) e8)))))) e6))))))) ∧ (∀ q : Nat, (((ByteArray.size a) ≤ q) → (newB w0 h (AB.cells (intsOf a) q) (fun g1 g2 => (App w0 g2 1 1 c b d 1 [(int .u8 (IntKind.wrap .u8 k))] (fun g3 g4 g5 => (EvC Proofs.Tryd.prog w0 75 #[(slice g3 (b + 1) g4), (slice (some (Addr.mk g1 0 none)) (ByteArray.size a) q)] (fun g6 g7 => (∃ a2 : Option Addr, (∃ a3 : Nat, (∃ a4 : Nat, ((g6 = (slice a2 a3 a4)) ∧ (EvC Proofs.Tryd.prog w0 75 #[(slice a2 a3 a4), (slice e g i)] (fun g8 g9 => (∃ a5 : Option Addr, (∃ a6 : Nat, (∃ a7 : Nat, ((g8 = (slice a5 a6 a7)) ∧ (K (slice a5 a6 a7) g9)))))) g7)))))) g5)))))))) ∧ (∀ r : Nat, (((ByteArray.size a) ≤ r) → (newB w0 h (AB.cells (intsOf a) r) (fun i0 i1 => (App w0 i1 1 1 c b d 1 [(int .u8 (IntKind.wrap .u8 k))] (fun i2 i3 i4 => (EvC Proofs.Tryd.prog w0 75 #[(slice i2 (b + 1) i3), (slice (some (Addr.mk i0 0 none)) (ByteArray.size a) r)] (fun i5 i6 => (∃ a8 : Option Addr, (∃ a9 : Nat, (∃ b0 : Nat, ((i5 = (slice a8 a9 b0)) ∧ (EvC Proofs.Tryd.prog w0 75 #[(slice a8 a9 b0), (slice e g i)] (fun i7 i9 => (∃ b1 : Option Addr, (∃ b2 : Nat, (∃ b3 : Nat, ((i7 = (slice b1 b2 b3)) ∧ (K (slice b1 b2 b3) i9)))))) i6)))))) i4)))))))))) :
  EvC Proofs.Tryd.prog w0 53 ([(.slice c b d), (.agg #[(.string a), (.slice e g i), (.int .i64 k), (.bool s), (.int .i64 b4)])]).toArray K h := EvC_intro (P := Proofs.Tryd.prog) f53_J (Eq.mp (by kernel_rfl) hv)
def f50_J : Nat → List Nat × Nat := jOf []



theorem f50_go {w0 : World} {K : Value → AH → Prop} (a : Option Addr) (b : Nat) (c : Nat) (d : Int) (e : Option Addr) (g : Nat) (i : Nat) (h : AH)
  (hv : (K (agg #[(slice a b c), (int .i64 (0 : Int)), (bool false), (int .i64 d), (slice e g i)]) h)) :
  EvC Proofs.Tryd.prog w0 50 ([(.slice a b c), (.int .i64 d), (.slice e g i)]).toArray K h := EvC_intro (P := Proofs.Tryd.prog) f50_J (Eq.mp (by kernel_rfl) hv)
def f61_J : Nat → List Nat × Nat := jOf [(1, [2, 3, 4, 5, 6, 7, 8, 9, 10, 11, 12, 13, 14, 15, 16, 17, 18, 19, 20], 0)]

def f61_1 (w0 : World) (K : Value → AH → Prop) (a : Option Addr) (b : Nat) (c : Nat) (d : Int) (h : AH) : Prop :=
  ∀ j : Nat → Value, LPk Proofs.Tryd.prog w0 (EvC Proofs.Tryd.prog w0) f61_J 61 K 1 [.v (.slice a b c), .v (.int .u64 d), .v (j 2), .v (j 3), .v (j 4), .v (j 5), .v (j 6), .v (j 7), .v (j 8), .v (j 9), .v (j 10), .v (j 11), .v (j 12), .v (j 13), .v (j 14), .v (j 15), .v (j 16), .v (j 17), .v (j 18), .v (j 19), .v (j 20)] [] h

theorem f61_1_in {w0 : World} {K : Value → AH → Prop} (c : Option Addr) (a : Nat) (d : Nat) (b : Int) (h : AH)
  (hv : (brB (decide (((128 : Int) ≤ b))) (App w0 h 1 1 c a d 1 [(int .u8 (IntKind.wrap .u8 (((BitVec.toNat ((BitVec.ofInt 8 (IntKind.wrap .u8 (IntKind.wrap .u64 (((BitVec.toNat ((BitVec.ofInt 64 b) &&& (BitVec.ofInt 64 (127 : Int)))) : Nat) : Int)))) ||| (BitVec.ofInt 8 (128 : Int)))) : Nat) : Int)))] (fun e g i => (((0 : Int) ≤ (7 : Int)) ∧ (f61_1 w0 K e (a + 1) g (Int.fdiv b (128 : Int)) i)))) (App w0 h 1 1 c a d 1 [(int .u8 (IntKind.wrap .u8 b))] (fun k m n => (K (slice k (a + 1) m) n))))) :
  f61_1 w0 K c a d b h := fun j => LP_intro (P := Proofs.Tryd.prog) (Eq.mp (by kernel_rfl) hv)

theorem f61_go {w0 : World} {K : Value → AH → Prop} (a : Option Addr) (b : Nat) (c : Nat) (d : Int) (h : AH)
  (hv : (f61_1 w0 K a b c d h)) :
  EvC Proofs.Tryd.prog w0 61 ([(.slice a b c), (.int .u64 d)]).toArray K h := EvC_intro (P := Proofs.Tryd.prog) f61_J (Eq.mp (by kernel_rfl) hv)
def f80_J : Nat → List Nat × Nat := jOf []



theorem f80_go {w0 : World} {K : Value → AH → Prop} (c : Option Addr) (d : Nat) (e : Nat) (g : Option Addr) (a : Nat) (n : Nat) (h : AH)
  (hv : (EvC Proofs.Tryd.prog w0 61 #[(slice c d e), (int .u64 (IntKind.wrap .u64 ((a : Nat) : Int)))] (fun o i => (∃ k : Option Addr, (∃ b : Nat, (∃ m : Nat, ((o = (slice k b m)) ∧ (rowsOf w0 i 1 g a (fun p => (App w0 i 1 1 k b m a p (fun q r s => (K (slice q (b + a) r) s)))))))))) h)) :
  EvC Proofs.Tryd.prog w0 80 ([(.slice c d e), (.slice g a n)]).toArray K h := EvC_intro (P := Proofs.Tryd.prog) f80_J (Eq.mp (by kernel_rfl) hv)
def f62_J : Nat → List Nat × Nat := jOf [(2, [1, 2, 3, 4, 5, 6, 10, 11, 12, 13, 14, 15, 16, 17, 18, 19, 20, 21, 22, 23, 24, 25], 0)]

def f62_2 (w0 : World) (K : Value → AH → Prop) (a : Option Addr) (b : Nat) (c : Nat) (d : Option Addr) (e : Nat) (g : Nat) (i : Int) (k : Int) (h : AH) : Prop :=
  ∀ j : Nat → Value, LPk Proofs.Tryd.prog w0 (EvC Proofs.Tryd.prog w0) f62_J 62 K 2 [.v (.slice a b c), .v (j 1), .v (j 2), .v (j 3), .v (j 4), .v (j 5), .v (j 6), .v (.slice d e g), .v (.int .i64 i), .v (.int .i64 k), .v (j 10), .v (j 11), .v (j 12), .v (j 13), .v (j 14), .v (j 15), .v (j 16), .v (j 17), .v (j 18), .v (j 19), .v (j 20), .v (j 21), .v (j 22), .v (j 23), .v (j 24), .v (j 25)] [] h

theorem f62_2_in {w0 : World} {K : Value → AH → Prop} (g : Option Addr) (a : Nat) (i : Nat) (c : Option Addr) (d : Nat) (k : Nat) (e : Int) (b : Int) (h : AH)
  (hv : (brB (decide ((b < e))) (∃ n : Addr, ((c = (some n)) ∧ (((0 : Int) ≤ b) ∧ ((b < ((d : Nat) : Int)) ∧ (∃ m : Int, (((cellA w0 h (Addr.add n ((Int.toNat b) * 1))) = (some (int .u8 m))) ∧ (App w0 h 1 1 g a i 1 [(int .u8 m)] (fun o p q => (brB (m == (0 : Int)) (App w0 q 1 1 o (a + 1) p 1 [(int .u8 (255 : Int))] (fun r s t => (f62_2 w0 K r ((a + 1) + 1) s c d k e (IntKind.wrap .i64 (b + (1 : Int))) t))) (f62_2 w0 K o (a + 1) p c d k e (IntKind.wrap .i64 (b + (1 : Int))) q)))))))))) (App w0 h 1 1 g a i 2 [(int .u8 (0 : Int)), (int .u8 (1 : Int))] (fun u v x => (K (slice u (a + 2) v) x))))) :
  f62_2 w0 K g a i c d k e b h := fun j => LP_intro (P := Proofs.Tryd.prog) (Eq.mp (by kernel_rfl) hv)

theorem f62_go {w0 : World} {K : Value → AH → Prop} (b : Option Addr) (c : Nat) (d : Nat) (e : Option Addr) (a : Nat) (g : Nat) (h : AH)
  (hv : (f62_2 w0 K b c d e a g ((a : Nat) : Int) (0 : Int) h)) :
  EvC Proofs.Tryd.prog w0 62 ([(.slice b c d), (.slice e a g)]).toArray K h := EvC_intro (P := Proofs.Tryd.prog) f62_J (Eq.mp (by kernel_rfl) hv)
def f81_J : Nat → List Nat × Nat := jOf [(2, [3, 4, 5, 6, 7, 8, 9, 10, 11, 12, 14, 15, 16, 17, 18, 19, 20, 21, 22, 23, 24, 25, 26, 27, 28, 29, 30], 0), (3, [3, 4, 5, 6, 7, 8, 9, 10, 11, 12, 13, 14, 15, 16, 17, 18, 19, 20, 21, 22, 23, 24, 25, 26, 27, 28, 29, 30], 0), (4, [2, 3, 4, 5, 6, 8, 9, 10, 11, 12, 13, 14, 15, 16, 17, 18, 19, 20, 21, 22, 23, 24, 25, 26, 27, 28, 29, 30], 0)]

def f81_2 (w0 : World) (K : Value → AH → Prop) (a : Option Addr) (b : Nat) (c : Nat) (d : Int) (e : Int) (g : Bool) (h : AH) : Prop :=
  ∀ j : Nat → Value, LPk Proofs.Tryd.prog w0 (EvC Proofs.Tryd.prog w0) f81_J 81 K 2 [.v (.slice a b c), .v (.int .u64 d), .v (.int .i64 e), .v (j 3), .v (j 4), .v (j 5), .v (j 6), .v (j 7), .v (j 8), .v (j 9), .v (j 10), .v (j 11), .v (j 12), .v (.bool g), .v (j 14), .v (j 15), .v (j 16), .v (j 17), .v (j 18), .v (j 19), .v (j 20), .v (j 21), .v (j 22), .v (j 23), .v (j 24), .v (j 25), .v (j 26), .v (j 27), .v (j 28), .v (j 29), .v (j 30)] [] h

def f81_3 (w0 : World) (K : Value → AH → Prop) (a : Option Addr) (b : Nat) (c : Nat) (d : Int) (e : Int) (h : AH) : Prop :=
  ∀ j : Nat → Value, LPk Proofs.Tryd.prog w0 (EvC Proofs.Tryd.prog w0) f81_J 81 K 3 [.v (.slice a b c), .v (.int .u64 d), .v (.int .i64 e), .v (j 3), .v (j 4), .v (j 5), .v (j 6), .v (j 7), .v (j 8), .v (j 9), .v (j 10), .v (j 11), .v (j 12), .v (j 13), .v (j 14), .v (j 15), .v (j 16), .v (j 17), .v (j 18), .v (j 19), .v (j 20), .v (j 21), .v (j 22), .v (j 23), .v (j 24), .v (j 25), .v (j 26), .v (j 27), .v (j 28), .v (j 29), .v (j 30)] [] h

def f81_4 (w0 : World) (K : Value → AH → Prop) (a : Option Addr) (b : Nat) (c : Nat) (d : Int) (e : Int) (h : AH) : Prop :=
  ∀ j : Nat → Value, LPk Proofs.Tryd.prog w0 (EvC Proofs.Tryd.prog w0) f81_J 81 K 4 [.v (.slice a b c), .v (.int .u64 d), .v (j 2), .v (j 3), .v (j 4), .v (j 5), .v (j 6), .v (.int .i64 e), .v (j 8), .v (j 9), .v (j 10), .v (j 11), .v (j 12), .v (j 13), .v (j 14), .v (j 15), .v (j 16), .v (j 17), .v (j 18), .v (j 19), .v (j 20), .v (j 21), .v (j 22), .v (j 23), .v (j 24), .v (j 25), .v (j 26), .v (j 27), .v (j 28), .v (j 29), .v (j 30)] [] h

theorem f81_2_in {w0 : World} {K : Value → AH → Prop} (a : Option Addr) (b : Nat) (c : Nat) (d : Int) (e : Int) (g : Bool) (h : AH)
  (hv : (brB g (K (slice a b c) h) (f81_3 w0 K a b c d e h))) :
  f81_2 w0 K a b c d e g h := fun j => LP_intro (P := Proofs.Tryd.prog) (Eq.mp (by kernel_rfl) hv)

theorem f81_3_in {w0 : World} {K : Value → AH → Prop} (a : Option Addr) (b : Nat) (c : Nat) (d : Int) (e : Int) (h : AH)
  (hv : (f81_4 w0 K a b c d (IntKind.wrap .i64 (e - (1 : Int))) h)) :
  f81_3 w0 K a b c d e h := fun j => LP_intro (P := Proofs.Tryd.prog) (Eq.mp (by kernel_rfl) hv)

theorem f81_4_in {w0 : World} {K : Value → AH → Prop} (c : Option Addr) (b : Nat) (d : Nat) (e : Int) (a : Int) (h : AH)
  (hv : (brB (decide (((0 : Int) ≤ a))) (((0 : Int) ≤ (IntKind.wrap .u64 (IntKind.wrap .i64 ((8 : Int) * a)))) ∧ (App w0 h 1 1 c b d 1 [(int .u8 (IntKind.wrap .u8 (Int.fdiv e ((2 : Int) ^ (Min.min (Int.toNat (IntKind.wrap .u64 (IntKind.wrap .i64 ((8 : Int) * a)))) 64)))))] (fun g i k => (f81_4 w0 K g (b + 1) i e (IntKind.wrap .i64 (a - (1 : Int))) k)))) (K (slice c b d) h))) :
  f81_4 w0 K c b d e a h := fun j => LP_intro (P := Proofs.Tryd.prog) (Eq.mp (by kernel_rfl) hv)

theorem f81_go {w0 : World} {K : Value → AH → Prop} (b : Option Addr) (c : Nat) (d : Nat) (e : Int) (a : Int) (h : AH)
  (hv : (brB (decide ((a < (1 : Int)))) (f81_2 w0 K b c d e a true h) (f81_2 w0 K b c d e a (decide (((8 : Int) < a))) h))) :
  EvC Proofs.Tryd.prog w0 81 ([(.slice b c d), (.int .u64 e), (.int .i64 a)]).toArray K h := EvC_intro (P := Proofs.Tryd.prog) f81_J (Eq.mp (by kernel_rfl) hv)
def f64_J : Nat → List Nat × Nat := jOf []



theorem f64_go {w0 : World} {K : Value → AH → Prop} (b : Int) (a : ByteArray) (h : AH)
  (hv : (∀ c : Nat, (((ByteArray.size a) ≤ c) → (newB w0 h (AB.cells (intsOf a) c) (fun i k => (newB w0 k (AB.cells [(int .u8 b)] (List.length [(int .u8 b)])) (fun m n => (EvC Proofs.Tryd.prog w0 62 #[(slice (some (Addr.mk m 0 none)) 1 1), (slice (some (Addr.mk i 0 none)) (ByteArray.size a) c)] (fun o p => (∃ d : Option Addr, (∃ e : Nat, (∃ g : Nat, ((o = (slice d e g)) ∧ (K (slice d e g) p)))))) n)))))))) :
  EvC Proofs.Tryd.prog w0 64 ([(.int .u8 b), (.string a)]).toArray K h := EvC_intro (P := Proofs.Tryd.prog) f64_J (Eq.mp (by kernel_rfl) hv)
def f65_J : Nat → List Nat × Nat := jOf []



theorem f65_go {w0 : World} {K : Value → AH → Prop} (a : Option Addr) (b : Nat) (c : Nat) (d : Int) (h : AH)
  (hv : (EvC Proofs.Tryd.prog w0 81 #[(slice a b c), (int .u64 (IntKind.wrap .u64 (((BitVec.toNat ((BitVec.ofInt 64 (IntKind.wrap .u64 d)) ^^^ (BitVec.ofInt 64 (9223372036854775808 : Int)))) : Nat) : Int))), (int .i64 (8 : Int))] (fun k m => (∃ e : Option Addr, (∃ g : Nat, (∃ i : Nat, ((k = (slice e g i)) ∧ (K (slice e g i) m)))))) h)) :
  EvC Proofs.Tryd.prog w0 65 ([(.slice a b c), (.int .i64 d)]).toArray K h := EvC_intro (P := Proofs.Tryd.prog) f65_J (Eq.mp (by kernel_rfl) hv)
def f63_J : Nat → List Nat × Nat := jOf []



theorem f63_go {w0 : World} {K : Value → AH → Prop} (c : Option Addr) (b : Nat) (d : Nat) (a : ByteArray) (e : Option Addr) (g : Nat) (i : Nat) (k : Int) (s : Bool) (b4 : Int) (h : AH)
  (hv : (brB s (((App w0 h 1 1 c b d 1 [(int .u8 (IntKind.wrap .u8 ((IntKind.wrap .u8 k) + (4 : Int))))] (fun b5 b6 b7 => (∀ m : Nat, (((ByteArray.size a) ≤ m) → (newB w0 b7 (AB.cells (intsOf a) m) (fun b8 b9 => (EvC Proofs.Tryd.prog w0 80 #[(slice b5 (b + 1) b6), (slice (some (Addr.mk b8 0 none)) (ByteArray.size a) m)] (fun c0 c1 => (∃ t : Option Addr, (∃ u : Nat, (∃ v : Nat, ((c0 = (slice t u v)) ∧ (EvC Proofs.Tryd.prog w0 80 #[(slice t u v), (slice e g i)] (fun c2 c3 => (∃ x : Option Addr, (∃ y : Nat, (∃ z : Nat, ((c2 = (slice x y z)) ∧ (K (slice x y z) c3)))))) c1)))))) b9))))))) ∧ (∀ n : Nat, (((ByteArray.size a) ≤ n) → (newB w0 h (AB.cells (intsOf a) n) (fun c4 c5 => (App w0 c5 1 1 c b d 1 [(int .u8 (IntKind.wrap .u8 ((IntKind.wrap .u8 k) + (4 : Int))))] (fun c6 c7 c8 => (EvC Proofs.Tryd.prog w0 80 #[(slice c6 (b + 1) c7), (slice (some (Addr.mk c4 0 none)) (ByteArray.size a) n)] (fun c9 d0 => (∃ A : Option Addr, (∃ B : Nat, (∃ C : Nat, ((c9 = (slice A B C)) ∧ (EvC Proofs.Tryd.prog w0 80 #[(slice A B C), (slice e g i)] (fun d1 d2 => (∃ D : Option Addr, (∃ E : Nat, (∃ F : Nat, ((d1 = (slice D E F)) ∧ (K (slice D E F) d2)))))) d0)))))) c8)))))))) ∧ (∀ o : Nat, (((ByteArray.size a) ≤ o) → (newB w0 h (AB.cells (intsOf a) o) (fun d3 d4 => (App w0 d4 1 1 c b d 1 [(int .u8 (IntKind.wrap .u8 ((IntKind.wrap .u8 k) + (4 : Int))))] (fun d5 d6 d7 => (EvC Proofs.Tryd.prog w0 80 #[(slice d5 (b + 1) d6), (slice (some (Addr.mk d3 0 none)) (ByteArray.size a) o)] (fun d8 d9 => (∃ L : Option Addr, (∃ M : Nat, (∃ N : Nat, ((d8 = (slice L M N)) ∧ (EvC Proofs.Tryd.prog w0 80 #[(slice L M N), (slice e g i)] (fun e0 e1 => (∃ Q : Option Addr, (∃ R : Nat, (∃ T : Nat, ((e0 = (slice Q R T)) ∧ (K (slice Q R T) e1)))))) d9)))))) d7)))))))) (((App w0 h 1 1 c b d 1 [(int .u8 (IntKind.wrap .u8 k))] (fun e2 e3 e4 => (∀ p : Nat, (((ByteArray.size a) ≤ p) → (newB w0 e4 (AB.cells (intsOf a) p) (fun e5 e6 => (EvC Proofs.Tryd.prog w0 80 #[(slice e2 (b + 1) e3), (slice (some (Addr.mk e5 0 none)) (ByteArray.size a) p)] (fun e7 e8 => (∃ U : Option Addr, (∃ V : Nat, (∃ Y : Nat, ((e7 = (slice U V Y)) ∧ (EvC Proofs.Tryd.prog w0 80 #[(slice U V Y), (slice e g i)] (fun e9 g0 => (∃ Z : Option Addr, (∃ a0 : Nat, (∃ a1 : Nat, ((e9 = (slice Z a0 a1)) ∧ (K (slice Z a0 a1) g0)))))) e8)))))) e6))))))) ∧ (∀ q : Nat, (((ByteArray.size a) ≤ q) → (newB w0 h (AB.cells (intsOf a) q) (fun g1 g2 => (App w0 g2 1 1 c b d 1 [(int .u8 (IntKind.wrap .u8 k))] (fun g3 g4 g5 => (EvC Proofs.Tryd.prog w0 80 #[(slice g3 (b + 1) g4), (slice (some (Addr.mk g1 0 none)) (ByteArray.size a) q)] (fun g6 g7 => (∃ a2 : Option Addr, (∃ a3 : Nat, (∃ a4 : Nat, ((g6 = (slice a2 a3 a4)) ∧ (EvC Proofs.Tryd.prog w0 80 #[(slice a2 a3 a4), (slice e g i)] (fun g8 g9 => (∃ a5 : Option Addr, (∃ a6 : Nat, (∃ a7 : Nat, ((g8 = (slice a5 a6 a7)) ∧ (K (slice a5 a6 a7) g9)))))) g7)))))) g5)))))))) ∧ (∀ r : Nat, (((ByteArray.size a) ≤ r) → (newB w0 h (AB.cells (intsOf a) r) (fun i0 i1 => (App w0 i1 1 1 c b d 1 [(int .u8 (IntKind.wrap .u8 k))] (fun i2 i3 i4 => (EvC Proofs.Tryd.prog w0 80 #[(slice i2 (b + 1) i3), (slice (some (Addr.mk i0 0 none)) (ByteArray.size a) r)] (fun i5 i6 => (∃ a8 : Option Addr, (∃ a9 : Nat, (∃ b0 : Nat, ((i5 = (slice a8 a9 b0)) ∧ (EvC Proofs.Tryd.prog w0 80 #[(slice a8 a9 b0), (slice e g i)] (fun i7 i9 => (∃ b1 : Option Addr, (∃ b2 : Nat, (∃ b3 : Nat, ((i7 = (slice b1 b2 b3)) ∧ (K (slice b1 b2 b3) i9)))))) i6)))))) i4)))))))))) :
  EvC Proofs.Tryd.prog w0 63 ([(.slice c b d), (.agg #[(.string a), (.slice e g i), (.int .i64 k), (.bool s), (.int .i64 b4)])]).toArray K h := EvC_intro (P := Proofs.Tryd.prog) f63_J (Eq.mp (by kernel_rfl) hv)
/-! ### messages' bytes; the document's bytes -/
section
variable {w0 : World} {K : Value → AH → Prop} {h : AH} {B : List (Nat × AB)}
theorem f53_tail {m : MsgM} {a : Option Addr} {c b cap : Nat} {l : List UInt8} (v : SlV 1 a l.length c (u8s l)) (w : Own w0 h ((b, .cells (intsOf m.topic) cap) :: (slB a (u8s l) (c * 1) ++ B))) (hcap : m.topic.size ≤ cap) (hl : l.length ≤ 1000000) (hm : MayMsg m) (ht : m.topic.size ≤ 1000000)
    (hP : ∀ h' D, Own w0 h' (D ++ B) → Rd w0 h' m.pa (u8s m.pay))
    (hk : ∀ h' a' c' r, r = l ++ (putV m.topic.size ++ m.topic.data.toList ++ (putV m.pay.length ++ m.pay)) → SlV 1 a' r.length c' (u8s r) → Own w0 h' (slB a' (u8s r) (c' * 1) ++ B) → K (.slice a' r.length c') h') :
    EvC Go.Proofs.Tryd.prog w0 75 #[.slice a l.length c, .slice (some ⟨b, 0, none⟩) m.topic.size cap] (fun x h' => ∃ (p : Option Addr) (n d : Nat), x = .slice p n d ∧ EvC Go.Proofs.Tryd.prog w0 75 #[.slice p n d, .slice m.pa m.pay.length m.pc] (fun x h' => ∃ (p : Option Addr) (n d : Nat), x = .slice p n d ∧ K (.slice p n d) h') h') h := by
  have hp := hm.pay
  have p1 := putV_len10 (n := m.topic.data.toList.length) (by rw [slen]; omega)
  have rd0 : Rd w0 h a (u8s l) := v.rd (cs := [(b, .cells (intsOf m.topic) cap)]) w
  have sl := slen m.topic
  rw [← sl]
  refine f75_spec (x := m.topic.data.toList) w rd0 (fun h' w' => lit_rd w' hcap) (by omega) (by omega) fun h1 a1 c1 v1 w1 => ⟨_, _, _, rfl, ?_⟩
  refine f75_spec (x := m.pay) w1 (v1.rd (cs := []) w1) (fun h' w' => hP h' (slB a1 (u8s (l ++ (putV m.topic.data.toList.length ++ m.topic.data.toList))) (c1 * 1) ++ ((b, .cells (intsOf m.topic) cap) :: slB a (u8s l) (c * 1))) (by simpa only [List.append_eq, List.append_assoc, List.cons_append] using w')) (by simp only [List.length_append]; omega) (by omega) fun h2 a2 c2 v2 w2 => ⟨_, _, _, rfl, hk h2 a2 c2 _ (by rw [sl]; simp [List.append_assoc]) v2 ?_⟩
  exact Own.cut (ds := slB a1 (u8s (l ++ (putV m.topic.data.toList.length ++ m.topic.data.toList))) (c1 * 1) ++ ((b, .cells (intsOf m.topic) cap) :: slB a (u8s l) (c * 1))) (by simpa only [List.append_eq, List.append_assoc, List.cons_append] using w2)
theorem f53_spec {m : MsgM} {a : Option Addr} {c : Nat} {l : List UInt8} (v : SlV 1 a l.length c (u8s l)) (w : Own w0 h (slB a (u8s l) (c * 1) ++ B)) (hl : l.length ≤ 100000) (hm : MayMsg m) (ht : m.topic.size ≤ 1000000)
    (hP : ∀ h' D, Own w0 h' (D ++ B) → Rd w0 h' m.pa (u8s m.pay))
    (hk : ∀ h' a' c', SlV 1 a' (l ++ msgL m).length c' (u8s (l ++ msgL m)) → Own w0 h' (slB a' (u8s (l ++ msgL m)) (c' * 1) ++ B) → K (.slice a' (l ++ msgL m).length c') h') :
    EvC Go.Proofs.Tryd.prog w0 53 #[.slice a l.length c, m.agg] K h := by
  have q0 := hm.qos0
  have q2 := hm.qos2
  have fin : ∀ (a' : Option Addr) (c' : Nat) (h' : AH) (b cap : Nat) (y : UInt8), y = UInt8.ofNat (m.qos.toNat + if m.ret then 4 else 0) → SlV 1 a' (l ++ [y]).length c' (u8s (l ++ [y])) → m.topic.size ≤ cap → Own w0 h' ((b, .cells (intsOf m.topic) cap) :: (slB a' (u8s (l ++ [y])) (c' * 1) ++ B)) →
      EvC Go.Proofs.Tryd.prog w0 75 #[.slice a' (l.length + 1) c', .slice (some ⟨b, 0, none⟩) m.topic.size cap] (fun x h' => ∃ (p : Option Addr) (n d : Nat), x = .slice p n d ∧ EvC Go.Proofs.Tryd.prog w0 75 #[.slice p n d, .slice m.pa m.pay.length m.pc] (fun x h' => ∃ (p : Option Addr) (n d : Nat), x = .slice p n d ∧ K (.slice p n d) h') h') h' := fun a' c' h' b cap y hy v' hcap w' => by
    rw [show l.length + 1 = (l ++ [y]).length by simp]
    refine f53_tail v' w' hcap (by simp; omega) hm ht hP fun h2 a2 c2 r hr v2 w2 => ?_
    have e : r = l ++ msgL m := by rw [hr, hy]; simp [msgL]
    subst e
    exact hk h2 a2 c2 v2 w2
  refine f53_go _ _ _ _ _ _ _ _ _ _ _ (brB_of (fun z => ?_) fun z => ?_)
  · rw [qos_or q0 q2]
    repeat' (with_reducible apply And.intro)
    all_goals first
      | (intro cap hcap b hb hbn
         have w1 := w.new hb hbn (o := .cells (intsOf m.topic) cap)
         refine App_byte (B := (b, .cells (intsOf m.topic) cap) :: B) v (Own.front (cs := [(b, .cells (intsOf m.topic) cap)]) w1) (by omega) (by omega) fun a' c' h' v' w' => ?_
         exact fin a' c' _ b cap _ (by rw [z]; rfl) v' hcap (Own.front (ds := [(b, .cells (intsOf m.topic) cap)]) w'))
      | (refine App_byte v w (by omega) (by omega) fun a' c' h' v' w' cap hcap b hb hbn => ?_
         exact fin a' c' _ b cap _ (by rw [z]; rfl) v' hcap (w'.new hb hbn (o := .cells (intsOf m.topic) cap)))
  · rw [qos_no q0 q2]
    repeat' (with_reducible apply And.intro)
    all_goals first
      | (intro cap hcap b hb hbn
         have w1 := w.new hb hbn (o := .cells (intsOf m.topic) cap)
         refine App_byte (B := (b, .cells (intsOf m.topic) cap) :: B) v (Own.front (cs := [(b, .cells (intsOf m.topic) cap)]) w1) (by omega) (by omega) fun a' c' h' v' w' => ?_
         exact fin a' c' _ b cap _ (by rw [z]; rfl) v' hcap (Own.front (ds := [(b, .cells (intsOf m.topic) cap)]) w'))
      | (refine App_byte v w (by omega) (by omega) fun a' c' h' v' w' cap hcap b hb hbn => ?_
         exact fin a' c' _ b cap _ (by rw [z]; rfl) v' hcap (w'.new hb hbn (o := .cells (intsOf m.topic) cap)))
theorem f50_spec {a b : Option Addr} {n c m d : Nat} {t : Int} (hk : K (.agg #[.slice a n c, .int .i64 0, .bool false, .int .i64 t, .slice b m d]) h) : EvC Go.Proofs.Tryd.prog w0 50 #[.slice a n c, .int .i64 t, .slice b m d] K h := f50_go _ _ _ _ _ _ _ _ hk
/-! the document's -/
theorem or128' (n : Nat) (hn : n < 18446744073709551616) : IntKind.u8.wrap (((BitVec.toNat ((BitVec.ofInt 8 (IntKind.u8.wrap (IntKind.u64.wrap (((BitVec.toNat ((BitVec.ofInt 64 ((n : Nat) : Int)) &&& (BitVec.ofInt 64 (127 : Int)))) : Nat) : Int)))) ||| (BitVec.ofInt 8 (128 : Int)))) : Nat) : Int) = ((n % 128 + 128 : Nat) : Int) := by
  have e : BitVec.toNat ((BitVec.ofInt 64 ((n : Nat) : Int)) &&& (BitVec.ofInt 64 (127 : Int))) = n % 128 := by
    rw [ofInt_nat, BitVec.toNat_and, BitVec.toNat_ofNat, Nat.mod_eq_of_lt (by omega), show (BitVec.ofInt 64 (127 : Int)).toNat = 2 ^ 7 - 1 by decide, Nat.and_two_pow_sub_one_eq_mod]
  rw [e, wrap64u (by omega) (by omega), or128, Nat.mod_mod]
theorem putR_more : ∀ (k n : Nat), n < 128 ^ (k + 1) → n < 18446744073709551616 → ∀ (a : Option Addr) (c : Nat) (h : AH) (l : List UInt8), SlV 1 a l.length c (u8s l) → Own w0 h (slB a (u8s l) (c * 1) ++ B) → l.length + k ≤ 1000000000000 →
    (∀ h' a' c', SlV 1 a' (l ++ putV n).length c' (u8s (l ++ putV n)) → Own w0 h' (slB a' (u8s (l ++ putV n)) (c' * 1) ++ B) → K (.slice a' (l ++ putV n).length c') h') →
    f61_1 w0 K a l.length c ((n : Nat) : Int) h
  | k, n, hn, h64, a, c, h, l, v, w, hl, hk => by
    refine f61_1_in _ _ _ _ _ (brB_of (fun q => ?_) fun q => ?_)
    · have q' : ¬ n < 128 := by have := of_decide_eq_true q; omega
      rw [or128' n h64]
      refine App_byte v w (by omega) (by omega) fun a' c' h' v' w' => ⟨by decide, ?_⟩
      rw [fdiv128]
      match k, hn with
      | 0, hn => simp at hn; omega
      | k + 1, hn =>
        rw [show l.length + 1 = (l ++ [UInt8.ofNat (n % 128 + 128)]).length by simp]
        refine putR_more k (n / 128) (by rw [Nat.pow_succ] at hn; omega) (by omega) a' c' h' _ v' w' (by simp; omega) fun h2 a2 c2 v2 w2 => ?_
        have e : l ++ [UInt8.ofNat (n % 128 + 128)] ++ putV (n / 128) = l ++ putV n := by rw [putV_step q']; simp
        rw [e] at v2 w2 ⊢
        exact hk h2 a2 c2 v2 w2
    · have q' : n < 128 := by have := of_decide_eq_false q; omega
      rw [wrap8, Nat.mod_eq_of_lt (by omega)]
      refine App_byte v w (by omega) (by omega) fun a' c' h' v' w' => ?_
      have e : l ++ [UInt8.ofNat n] = l ++ putV n := by rw [putV_small q']
      rw [e] at v' w'
      have := hk h' a' c' v' w'
      rw [show (l ++ putV n).length = l.length + 1 by rw [putV_small q']; simp] at this
      exact this
/-- Put. -/
theorem f61_spec {a : Option Addr} {c n : Nat} {l : List UInt8} (v : SlV 1 a l.length c (u8s l)) (w : Own w0 h (slB a (u8s l) (c * 1) ++ B)) (hl : l.length ≤ 100000000000) (hn : n < 18446744073709551616)
    (hk : ∀ h' a' c', SlV 1 a' (l ++ putV n).length c' (u8s (l ++ putV n)) → Own w0 h' (slB a' (u8s (l ++ putV n)) (c' * 1) ++ B) → K (.slice a' (l ++ putV n).length c') h') :
    EvC Go.Proofs.Tryd.prog w0 61 #[.slice a l.length c, .int .u64 ((n : Nat) : Int)] K h :=
  f61_go _ _ _ _ _ (putR_more 9 n (by omega) hn a c h l v w (by omega) hk)
/-- PutBytes. -/
theorem f80_spec {a b : Option Addr} {c d : Nat} {l x : List UInt8} (v : SlV 1 a l.length c (u8s l)) (w : Own w0 h (slB a (u8s l) (c * 1) ++ B)) (hx : ∀ h' D, Own w0 h' (D ++ B) → Rd w0 h' b (u8s x)) (hl : l.length ≤ 10000000000) (hxl : x.length ≤ 10000000000)
    (hk : ∀ h' a' c', SlV 1 a' (l ++ (putV x.length ++ x)).length c' (u8s (l ++ (putV x.length ++ x))) → Own w0 h' (slB a' (u8s (l ++ (putV x.length ++ x))) (c' * 1) ++ B) → K (.slice a' (l ++ (putV x.length ++ x)).length c') h') :
    EvC Go.Proofs.Tryd.prog w0 80 #[.slice a l.length c, .slice b x.length d] K h := by
  refine f80_go _ _ _ _ _ _ _ ?_
  rw [wrap64u (by omega) (by omega)]
  have hp := putV_len10 (n := x.length) (by omega)
  refine f61_spec v w (by omega) (by omega) fun h1 a1 c1 v1 w1 => ⟨_, _, _, rfl, rowsOf_of (hx h1 _ w1) (by rw [u8s_length, Nat.mul_one]) (App_bytes v1 w1 (by rw [List.length_append]; omega) fun a2 c2 h2 v2 w2 => ?_)⟩
  rw [List.append_assoc] at v2 w2
  have := hk h2 a2 c2 v2 w2
  rw [← List.append_assoc, List.length_append] at this
  exact this
end
theorem f62_loop {w0 : World} {K : Value → AH → Prop} {B : List (Nat × AB)} {b : Option Addr} {d : Nat} {l x : List UInt8} (hx : ∀ h', Own w0 h' B → Rd w0 h' b (u8s x)) (hl : l.length ≤ 10000000000) (hxl : x.length ≤ 10000000000)
    (hk : ∀ h' a' c', SlV 1 a' (l ++ partE x).length c' (u8s (l ++ partE x)) → Own w0 h' (slB a' (u8s (l ++ partE x)) (c' * 1) ++ B) → K (.slice a' (l ++ partE x).length c') h') :
    ∀ (n i : Nat), i + n = x.length → ∀ (a : Option Addr) (c : Nat) (h : AH) (m : List UInt8), m = l ++ partL (x.take i) → SlV 1 a m.length c (u8s m) → Own w0 h (slB a (u8s m) (c * 1) ++ B) → f62_2 w0 K a m.length c b x.length d ((x.length : Nat) : Int) ((i : Nat) : Int) h := fun n => by
  induction n with
  | zero =>
    intro i hi a c h m hm v w
    rw [List.take_of_length_le (by omega)] at hm
    have pl := partL_len x
    have ml : m.length ≤ 100000000000 := by rw [hm, List.length_append]; omega
    refine f62_2_in _ _ _ _ _ _ _ _ _ (brB_of (fun z => by have := of_decide_eq_true z; omega) fun _ => ?_)
    refine App_bytes (x := [0, 1]) v w (by simp; omega) fun a' c' h' v' w' => ?_
    have e : m ++ [0, 1] = l ++ partE x := by rw [hm, List.append_assoc]; rfl
    rw [show m.length + 2 = (l ++ partE x).length by rw [← e]; simp]
    rw [e] at v' w'
    exact hk h' a' c' v' w'
  | succ n ih =>
    intro i hi a c h m hm v w
    have g1 : x[i]? = some x[i] := List.getElem?_eq_getElem _
    have ht : x.take (i + 1) = x.take i ++ [x[i]] := List.take_succ_eq_append_getElem (by omega)
    generalize x[i] = y at g1 ht
    have pl := partL_len (x.take i)
    have tl := List.length_take_le i x
    have ml : m.length ≤ 100000000000 := by rw [hm, List.length_append]; omega
    obtain ⟨ad, had, hat⟩ := byte_at (hx h w.drop) g1
    refine f62_2_in _ _ _ _ _ _ _ _ _ (brB_of (fun _ => ⟨ad, had, by omega, by omega, _, hat, ?_⟩) fun z => by have := of_decide_eq_false z; omega)
    have hy : y.toNat < 256 := y.toNat_lt
    refine App_byte v w (by omega) hy fun a' c' h' v' w' => ?_
    rw [show UInt8.ofNat y.toNat = y by simp] at v' w'
    rw [wrapS (by omega)]
    refine brB_of (fun z => ?_) fun z => ?_
    · have y0 : y = 0 := by
        have : (y.toNat : Int) = 0 := by simpa using z
        exact UInt8.toNat_inj.1 (by simpa using this)
      rw [show m.length + 1 = (m ++ [y]).length by simp]
      refine App_byte (m := 255) v' w' (by simp; omega) (by decide) fun a2 c2 h2 v2 w2 => ?_
      rw [show (m ++ [y]).length + 1 = (m ++ [y] ++ [UInt8.ofNat 255]).length by simp]
      exact ih (i + 1) (by omega) a2 c2 h2 _ (by rw [ht, partL_app, hm, y0]; simp [partL]) v2 w2
    · have y0 : ¬ y = 0 := fun e => by subst e; simp at z
      rw [show m.length + 1 = (m ++ [y]).length by simp]
      exact ih (i + 1) (by omega) a' c' h' _ (by rw [ht, partL_app, hm]; simp [partL, y0]) v' w'
theorem f81_loop {w0 : World} {K : Value → AH → Prop} {B : List (Nat × AB)} {n : Nat} : ∀ (k : Nat), k ≤ 8 → ∀ (a : Option Addr) (c : Nat) (h : AH) (l : List UInt8), SlV 1 a l.length c (u8s l) → Own w0 h (slB a (u8s l) (c * 1) ++ B) → l.length + k ≤ 100000000000 →
    (∀ h' a' c', SlV 1 a' (l ++ fixedV n k).length c' (u8s (l ++ fixedV n k)) → Own w0 h' (slB a' (u8s (l ++ fixedV n k)) (c' * 1) ++ B) → K (.slice a' (l ++ fixedV n k).length c') h') →
    f81_4 w0 K a l.length c ((n : Nat) : Int) (((k : Nat) : Int) - 1) h
  | 0, _, a, c, h, l, v, w, _, hk => by
    refine f81_4_in _ _ _ _ _ _ (brB_of (fun q => by have := of_decide_eq_true q; omega) fun _ => ?_)
    have := hk h a c (by simpa [fixedV] using v) (by simpa [fixedV] using w)
    simpa [fixedV] using this
  | k + 1, hk8, a, c, h, l, v, w, hl, hk => by
    have e1 : (((k + 1 : Nat) : Int) - 1) = ((k : Nat) : Int) := by omega
    rw [e1]
    refine f81_4_in _ _ _ _ _ _ (brB_of (fun _ => ⟨by rw [wrap64 (by omega) (by omega), wrap64u (by omega) (by omega)]; omega, ?_⟩) fun q => by have := of_decide_eq_false q; omega)
    rw [fixed_byteU (by omega)]
    refine App_byte v w (by omega) (by omega) fun a' c' h' v' w' => ?_
    rw [wrap64 (by omega) (by omega), show l.length + 1 = (l ++ [UInt8.ofNat (n / 256 ^ k % 256)]).length by simp]
    refine f81_loop k (by omega) a' c' h' _ v' w' (by simp; omega) fun h2 a2 c2 v2 w2 => ?_
    have e : l ++ [UInt8.ofNat (n / 256 ^ k % 256)] ++ fixedV n k = l ++ fixedV n (k + 1) := by simp [fixedV]
    rw [e] at v2 w2 ⊢
    exact hk h2 a2 c2 v2 w2
section
variable {w0 : World} {K : Value → AH → Prop} {h : AH} {B : List (Nat × AB)}
/-- Part. -/
theorem f62_spec {a b : Option Addr} {c d : Nat} {l x : List UInt8} (v : SlV 1 a l.length c (u8s l)) (w : Own w0 h (slB a (u8s l) (c * 1) ++ B)) (hx : ∀ h', Own w0 h' B → Rd w0 h' b (u8s x)) (hl : l.length ≤ 10000000000) (hxl : x.length ≤ 10000000000)
    (hk : ∀ h' a' c', SlV 1 a' (l ++ partE x).length c' (u8s (l ++ partE x)) → Own w0 h' (slB a' (u8s (l ++ partE x)) (c' * 1) ++ B) → K (.slice a' (l ++ partE x).length c') h') :
    EvC Go.Proofs.Tryd.prog w0 62 #[.slice a l.length c, .slice b x.length d] K h :=
  f62_go _ _ _ _ _ _ _ (f62_loop hx hl hxl hk x.length 0 (by omega) a c h l (by simp [partL]) v w)
/-- key. -/
theorem f64_spec {k : UInt8} {x : Int} {s : ByteArray} (w : Own w0 h B) (hx : x = ((k.toNat : Nat) : Int)) (hs : s.size ≤ 10000000000)
    (hk : ∀ h' a' c', SlV 1 a' (keyL k s).length c' (u8s (keyL k s)) → Own w0 h' (slB a' (u8s (keyL k s)) (c' * 1) ++ B) → K (.slice a' (keyL k s).length c') h') :
    EvC Go.Proofs.Tryd.prog w0 64 #[.int .u8 x, .string s] K h := by
  subst hx
  refine f64_go _ _ _ fun cap hcap b hb hbn => ?_
  have w1 := w.new hb hbn (o := .cells (intsOf s) cap)
  intro b2 hb2 hbn2
  have w2 := w1.new hb2 hbn2 (o := .cells (u8s [k]) 1)
  rw [← slen s]
  refine f62_spec (l := [k]) (x := s.data.toList) (a := some ⟨b2, 0, none⟩) (c := 1) (B := (b, .cells (intsOf s) cap) :: B) ⟨rfl, Nat.le_refl _, rfl, rfl⟩ w2 (fun h' w' => lit_rd w' hcap) (by simp) (by rw [slen]; omega) fun h' a' c' v' w' => ⟨a', (keyL k s).length, c', rfl, ?_⟩
  exact hk h' a' c' v' (Own.cut (ds := [(b, .cells (intsOf s) cap)]) w')
/-- Number. -/
theorem f65_spec {a : Option Addr} {c : Nat} {x : Int} {l : List UInt8} (v : SlV 1 a l.length c (u8s l)) (w : Own w0 h (slB a (u8s l) (c * 1) ++ B)) (hl : l.length ≤ 10000000000)
    (hk : ∀ h' a' c', SlV 1 a' (l ++ numL x).length c' (u8s (l ++ numL x)) → Own w0 h' (slB a' (u8s (l ++ numL x)) (c' * 1) ++ B) → K (.slice a' (l ++ numL x).length c') h') :
    EvC Go.Proofs.Tryd.prog w0 65 #[.slice a l.length c, .int .i64 x] K h := by
  refine f65_go _ _ _ _ _ ?_
  rw [numU_wrap]
  refine f81_go _ _ _ _ _ _ (brB_of (fun z => by simp at z) fun _ => f81_2_in _ _ _ _ _ _ _ (brB_of (fun z => by simp at z) fun _ => f81_3_in _ _ _ _ _ _ ?_))
  exact f81_loop 8 (by omega) a c h l v w (by omega) fun h' a' c' v' w' => ⟨_, _, _, rfl, hk h' a' c' v' w'⟩
theorem f63_tail {m : MsgM} {a : Option Addr} {c b cap : Nat} {l : List UInt8} (v : SlV 1 a l.length c (u8s l)) (w : Own w0 h ((b, .cells (intsOf m.topic) cap) :: (slB a (u8s l) (c * 1) ++ B))) (hcap : m.topic.size ≤ cap) (hl : l.length ≤ 1000000) (hm : MayMsg m) (ht : m.topic.size ≤ 1000000)
    (hP : ∀ h' D, Own w0 h' (D ++ B) → Rd w0 h' m.pa (u8s m.pay))
    (hk : ∀ h' a' c' r, r = l ++ (putV m.topic.size ++ m.topic.data.toList ++ (putV m.pay.length ++ m.pay)) → SlV 1 a' r.length c' (u8s r) → Own w0 h' (slB a' (u8s r) (c' * 1) ++ B) → K (.slice a' r.length c') h') :
    EvC Go.Proofs.Tryd.prog w0 80 #[.slice a l.length c, .slice (some ⟨b, 0, none⟩) m.topic.size cap] (fun x h' => ∃ (p : Option Addr) (n d : Nat), x = .slice p n d ∧ EvC Go.Proofs.Tryd.prog w0 80 #[.slice p n d, .slice m.pa m.pay.length m.pc] (fun x h' => ∃ (p : Option Addr) (n d : Nat), x = .slice p n d ∧ K (.slice p n d) h') h') h := by
  have hp := hm.pay
  have p1 := putV_len10 (n := m.topic.data.toList.length) (by rw [slen]; omega)
  have sl := slen m.topic
  rw [← sl]
  refine f80_spec (x := m.topic.data.toList) (B := (b, .cells (intsOf m.topic) cap) :: B) v (Own.front (cs := [(b, .cells (intsOf m.topic) cap)]) w) (fun h' D w' => lit_rd (Own.drop w') hcap) (by omega) (by omega) fun h1 a1 c1 v1 w1 => ⟨_, _, _, rfl, ?_⟩
  refine f80_spec (x := m.pay) (B := (b, .cells (intsOf m.topic) cap) :: B) v1 w1 (fun h' D w' => hP h' (D ++ [(b, .cells (intsOf m.topic) cap)]) (by simpa only [List.append_eq, List.append_assoc, List.cons_append, List.nil_append] using w')) (by simp only [List.length_append]; omega) (by omega) fun h2 a2 c2 v2 w2 => ⟨_, _, _, rfl, hk h2 a2 c2 _ (by rw [sl]; simp [List.append_assoc]) v2 ?_⟩
  exact Own.cut (ds := [(b, .cells (intsOf m.topic) cap)]) w2
theorem f63_spec {m : MsgM} {a : Option Addr} {c : Nat} {l : List UInt8} (v : SlV 1 a l.length c (u8s l)) (w : Own w0 h (slB a (u8s l) (c * 1) ++ B)) (hl : l.length ≤ 100000) (hm : MayMsg m) (ht : m.topic.size ≤ 1000000)
    (hP : ∀ h' D, Own w0 h' (D ++ B) → Rd w0 h' m.pa (u8s m.pay))
    (hk : ∀ h' a' c', SlV 1 a' (l ++ msgL m).length c' (u8s (l ++ msgL m)) → Own w0 h' (slB a' (u8s (l ++ msgL m)) (c' * 1) ++ B) → K (.slice a' (l ++ msgL m).length c') h') :
    EvC Go.Proofs.Tryd.prog w0 63 #[.slice a l.length c, m.agg] K h := by
  have q0 := hm.qos0
  have q2 := hm.qos2
  have fin : ∀ (a' : Option Addr) (c' : Nat) (h' : AH) (b cap : Nat) (y : UInt8), y = UInt8.ofNat (m.qos.toNat + if m.ret then 4 else 0) → SlV 1 a' (l ++ [y]).length c' (u8s (l ++ [y])) → m.topic.size ≤ cap → Own w0 h' ((b, .cells (intsOf m.topic) cap) :: (slB a' (u8s (l ++ [y])) (c' * 1) ++ B)) →
      EvC Go.Proofs.Tryd.prog w0 80 #[.slice a' (l.length + 1) c', .slice (some ⟨b, 0, none⟩) m.topic.size cap] (fun x h' => ∃ (p : Option Addr) (n d : Nat), x = .slice p n d ∧ EvC Go.Proofs.Tryd.prog w0 80 #[.slice p n d, .slice m.pa m.pay.length m.pc] (fun x h' => ∃ (p : Option Addr) (n d : Nat), x = .slice p n d ∧ K (.slice p n d) h') h') h' := fun a' c' h' b cap y hy v' hcap w' => by
    rw [show l.length + 1 = (l ++ [y]).length by simp]
    refine f63_tail v' w' hcap (by simp; omega) hm ht hP fun h2 a2 c2 r hr v2 w2 => ?_
    have e : r = l ++ msgL m := by rw [hr, hy]; simp [msgL]
    subst e
    exact hk h2 a2 c2 v2 w2
  refine f63_go _ _ _ _ _ _ _ _ _ _ _ (brB_of (fun z => ?_) fun z => ?_)
  · rw [qos_add q0 q2]
    repeat' (with_reducible apply And.intro)
    all_goals first
      | (intro cap hcap b hb hbn
         have w1 := w.new hb hbn (o := .cells (intsOf m.topic) cap)
         refine App_byte (B := (b, .cells (intsOf m.topic) cap) :: B) v (Own.front (cs := [(b, .cells (intsOf m.topic) cap)]) w1) (by omega) (by omega) fun a' c' h' v' w' => ?_
         exact fin a' c' _ b cap _ (by rw [z]; rfl) v' hcap (Own.front (ds := [(b, .cells (intsOf m.topic) cap)]) w'))
      | (refine App_byte v w (by omega) (by omega) fun a' c' h' v' w' cap hcap b hb hbn => ?_
         exact fin a' c' _ b cap _ (by rw [z]; rfl) v' hcap (w'.new hb hbn (o := .cells (intsOf m.topic) cap)))
  · rw [qos_no q0 q2]
    repeat' (with_reducible apply And.intro)
    all_goals first
      | (intro cap hcap b hb hbn
         have w1 := w.new hb hbn (o := .cells (intsOf m.topic) cap)
         refine App_byte (B := (b, .cells (intsOf m.topic) cap) :: B) v (Own.front (cs := [(b, .cells (intsOf m.topic) cap)]) w1) (by omega) (by omega) fun a' c' h' v' w' => ?_
         exact fin a' c' _ b cap _ (by rw [z]; rfl) v' hcap (Own.front (ds := [(b, .cells (intsOf m.topic) cap)]) w'))
      | (refine App_byte v w (by omega) (by omega) fun a' c' h' v' w' cap hcap b hb hbn => ?_
         exact fin a' c' _ b cap _ (by rw [z]; rfl) v' hcap (w'.new hb hbn (o := .cells (intsOf m.topic) cap)))
end
end Go.G.YtilifcggegabfaaDoor
