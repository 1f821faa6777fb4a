/- The document's connect. -/
import Derived.Test.YtciepfobnaemmaaDoorPF
import Derived.Test.YtciepfobnaemmaaDoorProg
set_option maxRecDepth 100000
namespace Go.G.YtciepfobnaemmaaDoor
open Go.RowKit
open Value (string slice int bool agg)
def f35_J : Nat → List Nat × Nat := jOf [(2, (rn 122 120 []), 0), (4, (rn 122 120 []), 0), (7, (2 :: (3 :: (rn 49 43 (rn 122 72 [])))), 0), (8, (2 :: (3 :: (rn 122 116 []))), 0), (13, (2 :: (3 :: (rn 122 115 []))), 0), (15, (2 :: (3 :: (rn 122 115 []))), 0), (19, (1 :: (2 :: (3 :: (rn 122 117 [])))), 0), (20, (1 :: (2 :: (3 :: (rn 114 109 (rn 122 7 []))))), 0), (21, (1 :: (2 :: (3 :: (rn 122 117 [])))), 0)]

def f35_2 (w0 : World) (K : Value → AH → Prop) (a b : Option Addr) (h : AH) : Prop :=
  ∀ j : Nat → Value, LPk Proofs.Tryd.prog w0 (EvC Proofs.Tryd.prog w0) f35_J 35 K 2 (.v (.pointer a) :: (.v (.pointer b) :: (jv j 122 120 []))) [] h

def f35_4 (w0 : World) (K : Value → AH → Prop) (a b : Option Addr) (h : AH) : Prop :=
  ∀ j : Nat → Value, LPk Proofs.Tryd.prog w0 (EvC Proofs.Tryd.prog w0) f35_J 35 K 4 (.v (.pointer a) :: (.v (.pointer b) :: (jv j 122 120 []))) [] h

def f35_7 (w0 : World) (K : Value → AH → Prop) (a b : Option Addr) (c : Int) (d e : Bool) (h : AH) : Prop :=
  ∀ j : Nat → Value, LPk Proofs.Tryd.prog w0 (EvC Proofs.Tryd.prog w0) f35_J 35 K 7 (.v (.pointer a) :: (.v (.pointer b) :: (jv j 4 2 (.v (.int .u8 c) :: (.v (.bool d) :: (jv j 49 43 (.v (.bool e) :: (jv j 122 72 [])))))))) [] h

def f35_8 (w0 : World) (K : Value → AH → Prop) (a b : Option Addr) (c : Int) (d : Bool) (h : AH) : Prop :=
  ∀ j : Nat → Value, LPk Proofs.Tryd.prog w0 (EvC Proofs.Tryd.prog w0) f35_J 35 K 8 (.v (.pointer a) :: (.v (.pointer b) :: (jv j 4 2 (.v (.int .u8 c) :: (.v (.bool d) :: (jv j 122 116 [])))))) [] h

def f35_13 (w0 : World) (K : Value → AH → Prop) (a b : Option Addr) (c : Int) (d : Bool) (e : Option Addr) (g i : Nat) (h : AH) : Prop :=
  ∀ j : Nat → Value, LPk Proofs.Tryd.prog w0 (EvC Proofs.Tryd.prog w0) f35_J 35 K 13 (.v (.pointer a) :: (.v (.pointer b) :: (jv j 4 2 (.v (.int .u8 c) :: (.v (.bool d) :: (.v (.slice e g i) :: (jv j 122 115 []))))))) [] h

def f35_15 (w0 : World) (K : Value → AH → Prop) (a b : Option Addr) (c : Int) (d : Bool) (e : Option Addr) (g i : Nat) (h : AH) : Prop :=
  ∀ j : Nat → Value, LPk Proofs.Tryd.prog w0 (EvC Proofs.Tryd.prog w0) f35_J 35 K 15 (.v (.pointer a) :: (.v (.pointer b) :: (jv j 4 2 (.v (.int .u8 c) :: (.v (.bool d) :: (.v (.slice e g i) :: (jv j 122 115 []))))))) [] h

def f35_19 (w0 : World) (K : Value → AH → Prop) (a : Option Addr) (b : Int) (h : AH) : Prop :=
  ∀ j : Nat → Value, LPk Proofs.Tryd.prog w0 (EvC Proofs.Tryd.prog w0) f35_J 35 K 19 (.v (.pointer a) :: (jv j 4 3 (.v (.int .u8 b) :: (jv j 122 117 [])))) [] h

def f35_20 (w0 : World) (K : Value → AH → Prop) (a : Option Addr) (b : Int) (c : Bool) (h : AH) : Prop :=
  ∀ j : Nat → Value, LPk Proofs.Tryd.prog w0 (EvC Proofs.Tryd.prog w0) f35_J 35 K 20 (.v (.pointer a) :: (jv j 4 3 (.v (.int .u8 b) :: (jv j 114 109 (.v (.bool c) :: (jv j 122 7 [])))))) [] h

def f35_21 (w0 : World) (K : Value → AH → Prop) (a : Option Addr) (b : Int) (h : AH) : Prop :=
  ∀ j : Nat → Value, LPk Proofs.Tryd.prog w0 (EvC Proofs.Tryd.prog w0) f35_J 35 K 21 (.v (.pointer a) :: (jv j 4 3 (.v (.int .u8 b) :: (jv j 122 117 [])))) [] h

theorem f35_2_in {w0 : World} {K : Value → AH → Prop} (a b : Option Addr) (h : AH)
  (hv : (EvC Proofs.Tryd.prog w0 36 #[(Value.pointer a)] (fun e c => (∃ d : Int, ((e = (int .u8 d)) ∧ (brB (d != (4 : Int)) (EvC Proofs.Tryd.prog w0 37 #[(Value.pointer a), (int .i64 (14 : Int))] (fun g i => ((g = (Value.tuple #[])) ∧ (f35_4 w0 K a b i))) c) (f35_4 w0 K a b c))))) h)) :
  f35_2 w0 K a b h := fun j => LP_intro (P := Proofs.Tryd.prog) (Eq.mp (by kernel_rfl) hv)

theorem f35_4_in {w0 : World} {K : Value → AH → Prop} (b c : Option Addr) (h : AH)
  (hv : (EvC Proofs.Tryd.prog w0 36 #[(Value.pointer b)] (fun e d => (∃ a : Int, ((e = (int .u8 a)) ∧ (brB ((IntKind.wrap .u8 (((BitVec.toNat ((BitVec.ofInt 8 a) &&& (BitVec.ofInt 8 (1 : Int)))) : Nat) : Int)) != (0 : Int)) (f35_7 w0 K b c a ((IntKind.wrap .u8 (((BitVec.toNat ((BitVec.ofInt 8 a) &&& (BitVec.ofInt 8 (4 : Int)))) : Nat) : Int)) != (0 : Int)) true d) (brB ((IntKind.wrap .u8 (((BitVec.toNat ((BitVec.ofInt 8 a) &&& (BitVec.ofInt 8 (24 : Int)))) : Nat) : Int)) == (24 : Int)) (f35_7 w0 K b c a ((IntKind.wrap .u8 (((BitVec.toNat ((BitVec.ofInt 8 a) &&& (BitVec.ofInt 8 (4 : Int)))) : Nat) : Int)) != (0 : Int)) true d) (brB (!((IntKind.wrap .u8 (((BitVec.toNat ((BitVec.ofInt 8 a) &&& (BitVec.ofInt 8 (4 : Int)))) : Nat) : Int)) != (0 : Int))) (brB ((IntKind.wrap .u8 (((BitVec.toNat ((BitVec.ofInt 8 a) &&& (BitVec.ofInt 8 (56 : Int)))) : Nat) : Int)) != (0 : Int)) (f35_7 w0 K b c a ((IntKind.wrap .u8 (((BitVec.toNat ((BitVec.ofInt 8 a) &&& (BitVec.ofInt 8 (4 : Int)))) : Nat) : Int)) != (0 : Int)) true d) (brB ((IntKind.wrap .u8 (((BitVec.toNat ((BitVec.ofInt 8 a) &&& (BitVec.ofInt 8 (64 : Int)))) : Nat) : Int)) != (0 : Int)) (f35_7 w0 K b c a ((IntKind.wrap .u8 (((BitVec.toNat ((BitVec.ofInt 8 a) &&& (BitVec.ofInt 8 (4 : Int)))) : Nat) : Int)) != (0 : Int)) ((IntKind.wrap .u8 (((BitVec.toNat ((BitVec.ofInt 8 a) &&& (BitVec.ofInt 8 (128 : Int)))) : Nat) : Int)) == (0 : Int)) d) (f35_7 w0 K b c a ((IntKind.wrap .u8 (((BitVec.toNat ((BitVec.ofInt 8 a) &&& (BitVec.ofInt 8 (4 : Int)))) : Nat) : Int)) != (0 : Int)) false d))) (brB ((IntKind.wrap .u8 (((BitVec.toNat ((BitVec.ofInt 8 a) &&& (BitVec.ofInt 8 (64 : Int)))) : Nat) : Int)) != (0 : Int)) (f35_7 w0 K b c a ((IntKind.wrap .u8 (((BitVec.toNat ((BitVec.ofInt 8 a) &&& (BitVec.ofInt 8 (4 : Int)))) : Nat) : Int)) != (0 : Int)) ((IntKind.wrap .u8 (((BitVec.toNat ((BitVec.ofInt 8 a) &&& (BitVec.ofInt 8 (128 : Int)))) : Nat) : Int)) == (0 : Int)) d) (f35_7 w0 K b c a ((IntKind.wrap .u8 (((BitVec.toNat ((BitVec.ofInt 8 a) &&& (BitVec.ofInt 8 (4 : Int)))) : Nat) : Int)) != (0 : Int)) false d)))))))) h)) :
  f35_4 w0 K b c h := fun j => LP_intro (P := Proofs.Tryd.prog) (Eq.mp (by kernel_rfl) hv)

theorem f35_7_in {w0 : World} {K : Value → AH → Prop} (a b : Option Addr) (c : Int) (d e : Bool) (h : AH)
  (hv : (brB e (EvC Proofs.Tryd.prog w0 37 #[(Value.pointer a), (int .i64 (3 : Int))] (fun g i => ((g = (Value.tuple #[])) ∧ (f35_8 w0 K a b c d i))) h) (f35_8 w0 K a b c d h))) :
  f35_7 w0 K a b c d e h := fun j => LP_intro (P := Proofs.Tryd.prog) (Eq.mp (by kernel_rfl) hv)

theorem f35_8_in {w0 : World} {K : Value → AH → Prop} (b c : Option Addr) (d : Int) (i : Bool) (h : AH)
  (hv : (∃ a : Addr, ((c = (some a)) ∧ (∃ k : List Go.Value, (∃ p : Nat, (((Array.size (Go.World.heap w0)) ≤ (Addr.block (Addr.add a 9))) ∧ (((none : Option Nat) = none) ∧ (((h (Addr.block (Addr.add a 9))) = (some (AB.cells k p))) ∧ ((((Addr.off (Addr.add a 9)) + (Array.size #[(bool ((IntKind.wrap .u8 (((BitVec.toNat ((BitVec.ofInt 8 d) &&& (BitVec.ofInt 8 (2 : Int)))) : Nat) : Int)) != (0 : Int)))])) ≤ (List.length k)) ∧ (∃ e : Addr, ((c = (some e)) ∧ (∃ q : List Go.Value, (∃ t : Nat, (((Array.size (Go.World.heap w0)) ≤ (Addr.block (Addr.add e 11))) ∧ (((none : Option Nat) = none) ∧ (((AH.put h (Addr.block (Addr.add a 9)) (AB.cells (setCells k (Addr.off (Addr.add a 9)) [(bool ((IntKind.wrap .u8 (((BitVec.toNat ((BitVec.ofInt 8 d) &&& (BitVec.ofInt 8 (2 : Int)))) : Nat) : Int)) != (0 : Int)))]) p) (Addr.block (Addr.add e 11))) = (some (AB.cells q t))) ∧ ((((Addr.off (Addr.add e 11)) + (Array.size #[(bool i)])) ≤ (List.length q)) ∧ (EvC Proofs.Tryd.prog w0 71 #[(Value.pointer b)] (fun z u => (∃ r : Int, ((z = (int .i64 r)) ∧ (∃ g : Addr, ((c = (some g)) ∧ (∃ s : List Go.Value, (∃ v : Nat, (((Array.size (Go.World.heap w0)) ≤ (Addr.block (Addr.add g 10))) ∧ (((none : Option Nat) = none) ∧ (((u (Addr.block (Addr.add g 10))) = (some (AB.cells s v))) ∧ ((((Addr.off (Addr.add g 10)) + (Array.size #[(int .i64 r)])) ≤ (List.length s)) ∧ (EvC Proofs.Tryd.prog w0 70 #[(Value.pointer b)] (fun A B => (∃ m : Option Addr, (∃ n : Nat, (∃ o : Nat, ((A = (slice m n o)) ∧ (EvC Proofs.Tryd.prog w0 60 #[(slice m n o)] (fun C x => (∃ y : Bool, ((C = (bool y)) ∧ (brB (!y) (EvC Proofs.Tryd.prog w0 37 #[(Value.pointer b), (int .i64 (3 : Int))] (fun D E => ((D = (Value.tuple #[])) ∧ (f35_13 w0 K b c d i m n o E))) x) (f35_13 w0 K b c d i m n o x))))) B)))))) (AH.put u (Addr.block (Addr.add g 10)) (AB.cells (setCells s (Addr.off (Addr.add g 10)) [(int .i64 r)]) v)))))))))))))) (AH.put (AH.put h (Addr.block (Addr.add a 9)) (AB.cells (setCells k (Addr.off (Addr.add a 9)) [(bool ((IntKind.wrap .u8 (((BitVec.toNat ((BitVec.ofInt 8 d) &&& (BitVec.ofInt 8 (2 : Int)))) : Nat) : Int)) != (0 : Int)))]) p)) (Addr.block (Addr.add e 11)) (AB.cells (setCells q (Addr.off (Addr.add e 11)) [(bool i)]) t)))))))))))))))))))) :
  f35_8 w0 K b c d i h := fun j => LP_intro (P := Proofs.Tryd.prog) (Eq.mp (by kernel_rfl) hv)

theorem f35_13_in {w0 : World} {K : Value → AH → Prop} (a c : Option Addr) (d : Int) (e : Bool) (g : Option Addr) (b i : Nat) (h : AH)
  (hv : (brB (decide (((64 : Int) < ((b : Nat) : Int)))) (EvC Proofs.Tryd.prog w0 37 #[(Value.pointer a), (int .i64 (2 : Int))] (fun k m => ((k = (Value.tuple #[])) ∧ (f35_15 w0 K a c d e g b i m))) h) (f35_15 w0 K a c d e g b i h))) :
  f35_13 w0 K a c d e g b i h := fun j => LP_intro (P := Proofs.Tryd.prog) (Eq.mp (by kernel_rfl) hv)

theorem f35_15_in {w0 : World} {K : Value → AH → Prop} (c g : Option Addr) (b : Int) (t : Bool) (u : Option Addr) (v E : Nat) (h : AH)
  (hv : (rowsOf w0 h 1 u v (fun F => (∃ i : ByteArray, ((F = (intsOf i)) ∧ (∃ a : Addr, ((g = (some a)) ∧ (∃ k : List Go.Value, (∃ m : Nat, (((Array.size (Go.World.heap w0)) ≤ (Addr.block (Addr.add a 8))) ∧ (((none : Option Nat) = none) ∧ (((h (Addr.block (Addr.add a 8))) = (some (AB.cells k m))) ∧ ((((Addr.off (Addr.add a 8)) + (Array.size #[(string i)])) ≤ (List.length k)) ∧ (brB t (EvC Proofs.Tryd.prog w0 38 #[(Value.pointer c)] (fun L x => (∃ n : ByteArray, ((L = (string n)) ∧ (((0 : Int) ≤ (3 : Int)) ∧ (∃ d : Addr, ((g = (some d)) ∧ (∃ o : List Go.Value, (∃ y : Nat, (((Array.size (Go.World.heap w0)) ≤ (Addr.block (Addr.add d 3))) ∧ (((none : Option Nat) = none) ∧ (((x (Addr.block (Addr.add d 3))) = (some (AB.cells o y))) ∧ ((((Addr.off (Addr.add d 3)) + (Array.size #[(string n), (slice none 0 0), (int .i64 (IntKind.wrap .i64 (IntKind.wrap .u8 (((BitVec.toNat ((BitVec.ofInt 8 (Int.fdiv b (8 : Int))) &&& (BitVec.ofInt 8 (3 : Int)))) : Nat) : Int)))), (bool ((IntKind.wrap .u8 (((BitVec.toNat ((BitVec.ofInt 8 b) &&& (BitVec.ofInt 8 (32 : Int)))) : Nat) : Int)) != (0 : Int))), (int .i64 (0 : Int))])) ≤ (List.length o)) ∧ (EvC Proofs.Tryd.prog w0 70 #[(Value.pointer c)] (fun M N => (∃ z : Option Addr, (∃ A : Nat, (∃ B : Nat, ((M = (slice z A B)) ∧ (EvC Proofs.Tryd.prog w0 40 #[(Value.pointer c), (slice z A B)] (fun Q C => (∃ p : Option Addr, (∃ q : Nat, (∃ r : Nat, ((Q = (slice p q r)) ∧ (∃ e : Addr, ((g = (some e)) ∧ (∃ s : List Go.Value, (∃ D : Nat, (((Array.size (Go.World.heap w0)) ≤ (Addr.block (Addr.add (Addr.add e 3) 1))) ∧ (((none : Option Nat) = none) ∧ (((C (Addr.block (Addr.add (Addr.add e 3) 1))) = (some (AB.cells s D))) ∧ ((((Addr.off (Addr.add (Addr.add e 3) 1)) + (Array.size #[(slice p q r)])) ≤ (List.length s)) ∧ (f35_19 w0 K c b (AH.put C (Addr.block (Addr.add (Addr.add e 3) 1)) (AB.cells (setCells s (Addr.off (Addr.add (Addr.add e 3) 1)) [(slice p q r)]) D)))))))))))))))) N)))))) (AH.put x (Addr.block (Addr.add d 3)) (AB.cells (setCells o (Addr.off (Addr.add d 3)) [(string n), (slice none 0 0), (int .i64 (IntKind.wrap .i64 (IntKind.wrap .u8 (((BitVec.toNat ((BitVec.ofInt 8 (Int.fdiv b (8 : Int))) &&& (BitVec.ofInt 8 (3 : Int)))) : Nat) : Int)))), (bool ((IntKind.wrap .u8 (((BitVec.toNat ((BitVec.ofInt 8 b) &&& (BitVec.ofInt 8 (32 : Int)))) : Nat) : Int)) != (0 : Int))), (int .i64 (0 : Int))]) y))))))))))))))) (AH.put h (Addr.block (Addr.add a 8)) (AB.cells (setCells k (Addr.off (Addr.add a 8)) [(string i)]) m))) (f35_19 w0 K c b (AH.put h (Addr.block (Addr.add a 8)) (AB.cells (setCells k (Addr.off (Addr.add a 8)) [(string i)]) m))))))))))))))))) :
  f35_15 w0 K c g b t u v E h := fun j => LP_intro (P := Proofs.Tryd.prog) (Eq.mp (by kernel_rfl) hv)

theorem f35_19_in {w0 : World} {K : Value → AH → Prop} (a : Option Addr) (b : Int) (h : AH)
  (hv : (brB ((IntKind.wrap .u8 (((BitVec.toNat ((BitVec.ofInt 8 b) &&& (BitVec.ofInt 8 (128 : Int)))) : Nat) : Int)) != (0 : Int)) (EvC Proofs.Tryd.prog w0 70 #[(Value.pointer a)] (fun i k => (∃ c : Option Addr, (∃ d : Nat, (∃ e : Nat, ((i = (slice c d e)) ∧ (EvC Proofs.Tryd.prog w0 60 #[(slice c d e)] (fun m n => (∃ g : Bool, ((m = (bool g)) ∧ (f35_20 w0 K a b (!g) n)))) k)))))) h) (f35_20 w0 K a b false h))) :
  f35_19 w0 K a b h := fun j => LP_intro (P := Proofs.Tryd.prog) (Eq.mp (by kernel_rfl) hv)

theorem f35_20_in {w0 : World} {K : Value → AH → Prop} (a : Option Addr) (b : Int) (c : Bool) (h : AH)
  (hv : (brB c (EvC Proofs.Tryd.prog w0 37 #[(Value.pointer a), (int .i64 (3 : Int))] (fun d e => ((d = (Value.tuple #[])) ∧ (f35_21 w0 K a b e))) h) (f35_21 w0 K a b h))) :
  f35_20 w0 K a b c h := fun j => LP_intro (P := Proofs.Tryd.prog) (Eq.mp (by kernel_rfl) hv)

theorem f35_21_in {w0 : World} {K : Value → AH → Prop} (a : Option Addr) (b : Int) (h : AH)
  (hv : (brB ((IntKind.wrap .u8 (((BitVec.toNat ((BitVec.ofInt 8 b) &&& (BitVec.ofInt 8 (64 : Int)))) : Nat) : Int)) != (0 : Int)) (EvC Proofs.Tryd.prog w0 70 #[(Value.pointer a)] (fun c d => (∃ e : Option Addr, (∃ g : Nat, (∃ i : Nat, ((c = (slice e g i)) ∧ (K (Value.tuple #[]) d)))))) h) (K (Value.tuple #[]) h))) :
  f35_21 w0 K a b h := fun j => LP_intro (P := Proofs.Tryd.prog) (Eq.mp (by kernel_rfl) hv)

theorem f35_go {w0 : World} {K : Value → AH → Prop} (a b : Option Addr) (h : AH)
  (hv : (EvC Proofs.Tryd.prog w0 70 #[(Value.pointer a)] (fun i c => (∃ d : Option Addr, (∃ e : Nat, (∃ k : Nat, ((i = (slice d e k)) ∧ (rowsOf w0 c 1 d e (fun m => (∃ g : ByteArray, ((m = (intsOf g)) ∧ (brB (!(decide ((g = (ByteArray.mk #[(77 : UInt8), (81 : UInt8), (84 : UInt8), (84 : UInt8)]))))) (EvC Proofs.Tryd.prog w0 37 #[(Value.pointer a), (int .i64 (3 : Int))] (fun n o => ((n = (Value.tuple #[])) ∧ (f35_2 w0 K a b o))) c) (f35_2 w0 K a b c))))))))))) h)) :
  EvC Proofs.Tryd.prog w0 35 ([(.pointer a), (.pointer b)]).toArray K h := EvC_intro (P := Proofs.Tryd.prog) f35_J (Eq.mp (by kernel_rfl) hv)
/-! ### the document's connect -/
section
variable {w0 : World} {K : Value → AH → Prop} {h : AH} {B R X : List (Nat × AB)} {b c : Nat} {p : Option Addr} {s : RS}
theorem f35_21s {f : Nat} (hf : f < 256) (w : Own w0 h (rdB b p c s :: X)) (r : Rdr w0 R p c s.1) (hs : R ⊆ X)
    (hk : ∀ h' p' c', Own w0 h' (rdB b p' c' (if bitN f 6 then (textS s).2 else s) :: X) → Rdr w0 R p' c' (if bitN f 6 then (textS s).2 else s).1 → K (.tuple #[]) h') : f35_21 w0 K (some ⟨b, 0, none⟩) ((f : Nat) : Int) h := by
  refine f35_21_in _ _ _ ?_
  rw [bit8 (c := 64) (i := 6) (z := 64) rfl rfl (by decide) hf]
  refine brB_of (fun z => f70_spec w r hs fun h1 p1 c1 a d v w1 r1 => ⟨_, _, _, rfl, ?_⟩) fun z => ?_
  · rw [z] at hk; exact hk h1 p1 c1 (Own.cut (cs := [_]) w1) r1
  · rw [z] at hk; exact hk h p c w r
theorem f35_19s {f : Nat} (hf : f < 256) (w : Own w0 h (rdB b p c s :: X)) (r : Rdr w0 R p c s.1) (hs : R ⊆ X)
    (hk : ∀ h' p' c', Own w0 h' (rdB b p' c' (con4 f s) :: X) → Rdr w0 R p' c' (con4 f s).1 → K (.tuple #[]) h') : f35_19 w0 K (some ⟨b, 0, none⟩) ((f : Nat) : Int) h := by
  refine f35_19_in _ _ _ ?_
  rw [bit8 (c := 128) (i := 7) (z := 128) rfl rfl (by decide) hf]
  have c4 : con4 f s = if bitN f 6 then (textS (if bitN f 7 then failS (textS s).2 (!(textB (textS s).1)) 3 else s)).2 else (if bitN f 7 then failS (textS s).2 (!(textB (textS s).1)) 3 else s) := rfl
  rw [c4] at hk
  refine brB_of (fun z => f70_spec w r hs fun h1 p1 c1 a d v w1 r1 => ⟨_, _, _, rfl, f60_spec (v.rd (cs := [_]) w1) v.2.1 ⟨_, rfl, ?_⟩⟩) fun z => ?_
  · rw [z] at hk
    refine f35_20_in _ _ _ _ (brB_of (fun y => f37_spec (Own.cut (cs := [_]) w1) fun h2 w2 => ⟨rfl, ?_⟩) fun y => ?_)
    · rw [y] at hk
      exact f35_21s hf w2 (by rw [failS_fst]; exact r1) hs hk
    · rw [y] at hk
      exact f35_21s hf (Own.cut (cs := [_]) w1) r1 hs hk
  · rw [z] at hk
    refine f35_20_in _ _ _ _ (brB_of (fun y => by cases y) fun _ => f35_21s hf w r hs hk)
/-- What a CONNECT's packet says, as the document reads it. -/
def conR (f : Nat) (a : Nat) (cl t y : List UInt8) (pa : Option Addr) (pc : Nat) : PkM := { pk0 1 with clean := bitN f 1, will := bitN f 2, alive := ((a : Nat) : Int), client := toB cl, topic := toB t, pa := pa, pc := pc, pay := y, qos := if bitN f 2 then ((f / 8 % 4 : Nat) : Int) else 0, ret := bitN f 2 && bitN f 5 }
theorem f35_15s {f q al : Nat} {a6 : Option Addr} {n6 c6 : Nat} {cl : List UInt8} (T : TabOk w0) (hf : f < 256) (hr : Rd w0 h a6 (u8s cl)) (hn : n6 = cl.length) (w : Own w0 h (rdB b p c s :: pkB q ({ pk0 1 with clean := bitN f 1, will := bitN f 2, alive := ((al : Nat) : Int) } : PkM) :: X)) (r : Rdr w0 R p c s.1) (hs : R ⊆ X)
    (hk : ∀ h' p' c' pa pc t y z, (t, y, z) = (if bitN f 2 then con3 s else ([], [], s)) → SlV 1 pa y.length pc (u8s y) →
      Own w0 h' (rdB b p' c' (con4 f z) :: pkB q (conR f al cl t y pa pc) :: (slB pa (u8s y) (pc * 1) ++ X)) → Rdr w0 R p' c' (con4 f z).1 → K (.tuple #[]) h') :
    f35_15 w0 K (some ⟨b, 0, none⟩) (some ⟨q, 0, none⟩) ((f : Nat) : Int) (bitN f 2) a6 n6 c6 h := by
  refine f35_15_in _ _ _ _ _ _ _ _ (rows8 hr hn ⟨_, rfl, _, _, w.tail.ge, rfl, w.tail.hd, by simp [Addr.add, pk0], ?_⟩)
  have w2 := Own.upd2 (o' := .cells ({ pk0 1 with clean := bitN f 1, will := bitN f 2, alive := ((al : Nat) : Int), client := toB cl } : PkM).cells 16) w
  refine brB_of (fun z => ?_) fun z => ?_
  · have hd8 : f / 8 < 256 := by omega
    refine f38_spec T w2 r (sub_cons hs) fun h3 p3 c3 w3 r3 => ⟨_, rfl, by decide, _, rfl, _, _, w3.tail.ge, rfl, w3.tail.hd, by simp [Addr.add, pk0], ?_⟩
    rw [bit8 (c := 32) (i := 5) (z := 32) rfl rfl (by decide) hf, fdivN f 8 (z := 8) rfl, and8 (c := 3) (z := 3) rfl hd8 (by decide), and3 _ hd8, wrap64 (x := ((f / 8 % 4 : Nat) : Int)) (by omega) (by omega)]
    have w4 := Own.upd2 (o' := .cells ({ pk0 1 with clean := bitN f 1, will := bitN f 2, alive := ((al : Nat) : Int), client := toB cl, topic := toB (textS s).1, qos := ((f / 8 % 4 : Nat) : Int), ret := bitN f 5 } : PkM).cells 16) w3
    have e1 : con3 s = ((textS s).1, (textS (failS (textS s).2 (!(nameB (toB (textS s).1))) 15)).1, failS (textS (failS (textS s).2 (!(nameB (toB (textS s).1))) 15)).2 (decide (256 < (textS (failS (textS s).2 (!(nameB (toB (textS s).1))) 15)).1.length)) 2) := rfl
    rw [if_pos z, e1] at hk
    refine f70_spec w4 (by rw [failS_fst]; exact r3) (sub_cons hs) fun h5 p5 c5 a5 d5 v5 w5 r5 => ⟨_, _, _, rfl, ?_⟩
    generalize textS (failS (textS s).2 (!(nameB (toB (textS s).1))) 15) = Y at *
    refine f40_spec w5 fun h6 w6 => ⟨_, _, _, rfl, ?_⟩
    have w7 : Own w0 h6 (rdB b p5 c5 _ :: pkB q _ :: (slB a5 (u8s Y.1) (d5 * 1) ++ X)) := w6.perm (List.Perm.append_left [_] (List.perm_append_comm_assoc (slB a5 (u8s Y.1) (d5 * 1)) [_] X))
    refine ⟨_, rfl, _, _, w7.tail.ge, rfl, w7.tail.hd, by simp [Addr.add, pk0], ?_⟩
    have w8 := Own.upd2 (o' := .cells ({ pk0 1 with clean := bitN f 1, will := bitN f 2, alive := ((al : Nat) : Int), client := toB cl, topic := toB (textS s).1, pa := a5, pc := d5, pay := Y.1, qos := ((f / 8 % 4 : Nat) : Int), ret := bitN f 5 } : PkM).cells 16) w7
    refine f35_19s hf (X := pkB q (conR f al cl (textS s).1 Y.1 a5 d5) :: (slB a5 (u8s Y.1) (d5 * 1) ++ X)) ?_ (by rw [failS_fst]; exact r5) (sub_cons (sub_app hs)) fun h9 p9 c9 w9 r9 => hk h9 p9 c9 a5 d5 _ _ _ rfl v5 w9 r9
    have ec : (conR f al cl (textS s).1 Y.1 a5 d5) = { pk0 1 with clean := bitN f 1, will := bitN f 2, alive := ((al : Nat) : Int), client := toB cl, topic := toB (textS s).1, pa := a5, pc := d5, pay := Y.1, qos := ((f / 8 % 4 : Nat) : Int), ret := bitN f 5 } := by
      unfold conR; simp only [z, if_true, Bool.true_and]
    rw [ec]
    exact w8
  · rw [if_neg (by rw [z]; decide)] at hk
    refine f35_19s hf w2 r (sub_cons hs) fun h9 p9 c9 w9 r9 => hk h9 p9 c9 none 0 [] [] s rfl SlV.nil ?_ r9
    have ec : (conR f al cl [] [] none 0) = { pk0 1 with clean := bitN f 1, will := bitN f 2, alive := ((al : Nat) : Int), client := toB cl } := by
      unfold conR; simp only [z, Bool.false_and]; rfl
    rw [ec]
    exact w9
theorem f35_8s {f q : Nat} (T : TabOk w0) (hf : f < 256) (w : Own w0 h (rdB b p c s :: pkB q (pk0 1) :: X)) (r : Rdr w0 R p c s.1) (hs : R ⊆ X)
    (hk : ∀ h' p' c' pa pc t y z, (t, y, z) = (if bitN f 2 then con3 (con2 s).2.2 else ([], [], (con2 s).2.2)) → SlV 1 pa y.length pc (u8s y) →
      Own w0 h' (rdB b p' c' (con4 f z) :: pkB q (conR f (con2 s).1 (con2 s).2.1 t y pa pc) :: (slB pa (u8s y) (pc * 1) ++ X)) → Rdr w0 R p' c' (con4 f z).1 → K (.tuple #[]) h') :
    f35_8 w0 K (some ⟨b, 0, none⟩) (some ⟨q, 0, none⟩) ((f : Nat) : Int) (bitN f 2) h := by
  refine f35_8_in _ _ _ _ _ ⟨_, rfl, _, _, w.tail.ge, rfl, w.tail.hd, by simp [Addr.add, pk0], ?_⟩
  rw [bit8 (c := 2) (i := 1) (z := 2) rfl rfl (by decide) hf]
  have w2 := Own.upd2 (o' := .cells ({ pk0 1 with clean := bitN f 1 } : PkM).cells 16) w
  refine ⟨_, rfl, _, _, w2.tail.ge, rfl, w2.tail.hd, by simp [Addr.add, setCells], ?_⟩
  have w3 := Own.upd2 (o' := .cells ({ pk0 1 with clean := bitN f 1, will := bitN f 2 } : PkM).cells 16) w2
  refine f71_spec w3 r (sub_cons hs) fun h4 p4 c4 w4 r4 => ⟨_, rfl, _, rfl, _, _, w4.tail.ge, rfl, w4.tail.hd, by simp [Addr.add, pk0], ?_⟩
  have w5 := Own.upd2 (o' := .cells ({ pk0 1 with clean := bitN f 1, will := bitN f 2, alive := (((twoS s).1 : Nat) : Int) } : PkM).cells 16) w4
  refine f70_spec w5 r4 (sub_cons hs) fun h6 p6 c6 a6 d6 v6 w6 r6 => ⟨_, _, _, rfl, f60_spec (v6.rd (cs := [_]) w6) v6.2.1 ⟨_, rfl, ?_⟩⟩
  have e2 : con2 s = ((twoS s).1, (textS (twoS s).2).1, failS (failS (textS (twoS s).2).2 (!(textB (textS (twoS s).2).1)) 3) (decide (64 < (textS (twoS s).2).1.length)) 2) := rfl
  rw [e2] at hk
  dsimp only at hk
  generalize textS (twoS s).2 = C at *
  have fifteen : ∀ h7 (z : RS), z = failS (failS C.2 (!(textB C.1)) 3) (decide (64 < C.1.length)) 2 → Own w0 h7 (rdB b p6 c6 z :: (slB a6 (u8s C.1) (d6 * 1) ++ (pkB q ({ pk0 1 with clean := bitN f 1, will := bitN f 2, alive := (((twoS s).1 : Nat) : Int) } : PkM) :: X))) → f35_15 w0 K (some ⟨b, 0, none⟩) (some ⟨q, 0, none⟩) ((f : Nat) : Int) (bitN f 2) a6 C.1.length d6 h7 := fun h7 z hz w7 => by
    rw [← hz] at hk
    exact f35_15s T hf (v6.rd (cs := [_]) w7) rfl (Own.cut (cs := [_]) w7) (by rw [hz, failS_fst, failS_fst]; exact r6) hs hk
  have thirteen : ∀ h7 (z : RS), z = failS C.2 (!(textB C.1)) 3 → Own w0 h7 (rdB b p6 c6 z :: (slB a6 (u8s C.1) (d6 * 1) ++ (pkB q ({ pk0 1 with clean := bitN f 1, will := bitN f 2, alive := (((twoS s).1 : Nat) : Int) } : PkM) :: X))) → f35_13 w0 K (some ⟨b, 0, none⟩) (some ⟨q, 0, none⟩) ((f : Nat) : Int) (bitN f 2) a6 C.1.length d6 h7 := fun h7 z hz w7 => by
    have e0 : decide ((64 : Int) < ((C.1.length : Nat) : Int)) = decide (64 < C.1.length) := by rw [decide_eq_decide]; omega
    refine f35_13_in _ _ _ _ _ _ _ _ ?_
    rw [e0]
    refine brB_of (fun y => f37_spec w7 fun h8 w8 => ⟨rfl, fifteen h8 _ (by rw [hz, y]) w8⟩) fun y => fifteen h7 z (by rw [hz, y]; unfold failS; rfl) w7
  refine brB_of (fun y => f37_spec w6 fun h7 w7 => ⟨rfl, thirteen h7 _ (by rw [y]) w7⟩) fun y => thirteen h6 C.2 (by rw [y]; rfl) w6
theorem badF_eqR : ∀ f, f < 256 → badF f = (bitN f 0 || (decide (f &&& 24 = 24) || ((!(bitN f 2) && !(decide (f &&& 56 = 0))) || (bitN f 6 && !(bitN f 7))))) := by decide
theorem err_con2 {s : RS} (h : s.2 ≠ 0) : (con2 s).2.2.2 ≠ 0 := by
  unfold con2; dsimp only; rw [err_two h, err_text h]; exact fail_err (fail_err h)
theorem err_con3 {s : RS} (h : s.2 ≠ 0) : (con3 s).2.2.2 ≠ 0 := by
  unfold con3; dsimp only; rw [err_text h, failS_err h, err_text h]; exact fail_err h
theorem err_con4 {s : RS} {f : Nat} (h : s.2 ≠ 0) : (con4 f s).2 ≠ 0 := by
  unfold con4; dsimp only
  have h1 : (if bitN f 7 then failS (textS s).2 (!(textB (textS s).1)) 3 else s).2 ≠ 0 := by
    split
    · rw [err_text h]; exact fail_err h
    · exact h
  split
  · rw [err_text h1]; exact h1
  · exact h1
/-- connect, the document's. -/
theorem f35_spec {q : Nat} (T : TabOk w0) (w : Own w0 h (rdB b p c s :: pkB q (pk0 1) :: X)) (r : Rdr w0 R p c s.1) (hs : R ⊆ X)
    (hk : ∀ h' p' c' m', ((conS s).2.2 = 0 → m'.key = (conS s).1) → PkV m' → Own w0 h' (rdB b p' c' (conS s).2 :: pkB q m' :: (ownP m' ++ X)) → Rdr w0 R p' c' (conS s).2.1 → K (.tuple #[]) h') :
    EvC Go.Proofs.Tryd.prog w0 35 #[.pointer (some ⟨b, 0, none⟩), .pointer (some ⟨q, 0, none⟩)] K h := by
  refine f35_go _ _ _ (f70_spec w r (sub_cons hs) fun h1 p1 c1 a1 d1 v1 w1 r1 => ⟨_, _, _, rfl, rows8 (v1.rd (cs := [_]) w1) rfl ?_⟩)
  have w1 := Own.cut (cs := [_]) w1
  have e1 : decide ((⟨(textS s).1.toArray⟩ : ByteArray) = ⟨#[77, 81, 84, 84]⟩) = decide ((textS s).1 = mqttL) := by
    rw [decide_eq_decide]
    exact ⟨fun e => toB_inj (y := mqttL) e, fun e => by rw [e]; rfl⟩
  rw [e1]
  have ec : con1 s = ((oneS (failS (oneS (failS (textS s).2 (!(decide ((textS s).1 = mqttL))) 3)).2 (!(decide ((oneS (failS (textS s).2 (!(decide ((textS s).1 = mqttL))) 3)).1 = 4))) 14)).1, failS (oneS (failS (oneS (failS (textS s).2 (!(decide ((textS s).1 = mqttL))) 3)).2 (!(decide ((oneS (failS (textS s).2 (!(decide ((textS s).1 = mqttL))) 3)).1 = 4))) 14)).2 (badF (oneS (failS (oneS (failS (textS s).2 (!(decide ((textS s).1 = mqttL))) 3)).2 (!(decide ((oneS (failS (textS s).2 (!(decide ((textS s).1 = mqttL))) 3)).1 = 4))) 14)).1) 3) := rfl
  have two : ∀ h2 (z : RS), z = failS (textS s).2 (!(decide ((textS s).1 = mqttL))) 3 → Own w0 h2 (rdB b p1 c1 z :: pkB q (pk0 1) :: X) → f35_2 w0 K (some ⟨b, 0, none⟩) (some ⟨q, 0, none⟩) h2 := fun h2 z hz w2 => by
    rw [← hz] at ec
    refine f35_2_in _ _ _ (f36_spec w2 (by rw [hz, failS_fst]; exact r1) (sub_cons hs) fun h3 p3 c3 w3 r3 => ⟨_, rfl, ?_⟩)
    have e2 : ((((oneS z).1 : Nat) : Int) != 4) = !(decide ((oneS z).1 = 4)) := by unfold bne; rw [natBeq _ 4 (z := 4) rfl]
    rw [e2]
    generalize oneS z = O at *
    have four : ∀ h4 (y : RS), y = failS O.2 (!(decide (O.1 = 4))) 14 → Own w0 h4 (rdB b p3 c3 y :: pkB q (pk0 1) :: X) → f35_4 w0 K (some ⟨b, 0, none⟩) (some ⟨q, 0, none⟩) h4 := fun h4 y hy w4 => by
      rw [← hy] at ec
      refine f35_4_in _ _ _ (f36_spec w4 (by rw [hy, failS_fst]; exact r3) (sub_cons hs) fun h5 p5 c5 w5 r5 => ⟨_, rfl, ?_⟩)
      have hf := one_lt y
      generalize oneS y = F at *
      obtain ⟨f, s5⟩ := F
      dsimp only at hf ec w5 r5 ⊢
      have eight : ∀ h6 (x : RS), x = failS s5 (badF f) 3 → Own w0 h6 (rdB b p5 c5 x :: pkB q (pk0 1) :: X) → f35_8 w0 K (some ⟨b, 0, none⟩) (some ⟨q, 0, none⟩) ((f : Nat) : Int) (bitN f 2) h6 := fun h6 x hx w6 => by
        rw [← hx] at ec
        refine f35_8s T hf w6 (by rw [hx, failS_fst]; exact r5) hs fun h7 p7 c7 pa pc t y z e v7 w7 r7 => ?_
        have e3 : conS s = ({ kind := 1, clean := bitN (con1 s).1 1, will := bitN (con1 s).1 2, qos := (((con1 s).1 / 8 % 4 : Nat) : Int), ret := bitN (con1 s).1 5, alive := (((con2 (con1 s).2).1 : Nat) : Int), client := toB (con2 (con1 s).2).2.1, topic := toB (if bitN (con1 s).1 2 then con3 (con2 (con1 s).2).2.2 else ([], [], (con2 (con1 s).2).2.2)).1, pay := (if bitN (con1 s).1 2 then con3 (con2 (con1 s).2).2.2 else ([], [], (con2 (con1 s).2).2.2)).2.1 }, con4 (con1 s).1 (if bitN (con1 s).1 2 then con3 (con2 (con1 s).2).2.2 else ([], [], (con2 (con1 s).2).2.2)).2.2) := rfl
        rw [ec] at e3
        dsimp only at e3
        rw [← e] at e3
        rw [e3] at hk
        refine hk h7 p7 c7 (conR f (con2 x).1 (con2 x).2.1 t y pa pc) (fun e0 => ?_) ⟨v7, SlV.nil, SlV.nil⟩ (by
          have eo : ownP (conR f (con2 x).1 (con2 x).2.1 t y pa pc) = slB pa (u8s y) (pc * 1) := by show slB pa _ _ ++ ([] ++ []) = _; simp [conR]
          rw [eo]; exact w7) r7
        have nb : badF f = false := by
          by_cases q : badF f = true
          · exfalso
            have hx2 : x.2 ≠ 0 := by rw [hx, q]; exact fail_yes (by decide)
            have hz2 : z.2 ≠ 0 := by
              by_cases q2 : bitN f 2 = true
              · rw [if_pos q2] at e
                have := err_con3 (err_con2 hx2)
                rw [← e] at this; exact this
              · rw [if_neg q2] at e
                have := congrArg (fun u => u.2.2) e
                dsimp only at this
                rw [this]; exact err_con2 hx2
            exact err_con4 hz2 e0
          · simpa using q
        have nb' := (badF_eq f).symm.trans nb
        have hq : (if bitN f 2 then ((f / 8 % 4 : Nat) : Int) else 0) = ((f / 8 % 4 : Nat) : Int) ∧ (bitN f 2 && bitN f 5) = bitN f 5 := by
          cases q2 : bitN f 2 with
          | true => exact ⟨rfl, rfl⟩
          | false =>
            rw [q2] at nb'
            simp at nb'
            have h5 := nb'.2.2.1.2
            have h8 := nb'.2.2.1.1
            rw [h5]
            refine ⟨?_, rfl⟩
            show (0 : Int) = _
            omega
        show (PkM.key (conR f (con2 x).1 (con2 x).2.1 t y pa pc)) = _
        unfold conR PkM.key
        dsimp only
        rw [hq.1, hq.2]
        rfl
      have seven : ∀ t, t = badF f → f35_7 w0 K (some ⟨b, 0, none⟩) (some ⟨q, 0, none⟩) ((f : Nat) : Int) (bitN f 2) t h5 := fun t ht => f35_7_in _ _ _ _ _ _ (brB_of (fun u => f37_spec w5 fun h6 w6 => ⟨rfl, eight h6 _ (by rw [← ht, u]) w6⟩) fun u => eight h5 s5 (by rw [← ht, u]; rfl) w5)
      have e7 : ((IntKind.u8.wrap (((BitVec.toNat ((BitVec.ofInt 8 ((f : Nat) : Int)) &&& (BitVec.ofInt 8 (128 : Int)))) : Nat) : Int)) == (0 : Int)) = !(bitN f 7) := by
        rw [← bit8 (c := 128) (i := 7) (z := 128) rfl rfl (by decide) hf]; unfold bne; rw [Bool.not_not]
      rw [bit8 (c := 4) (i := 2) (z := 4) rfl rfl (by decide) hf, bit8 (c := 1) (i := 0) (z := 1) rfl rfl (by decide) hf, bit8 (c := 64) (i := 6) (z := 64) rfl rfl (by decide) hf, e7, and8 (c := 24) (z := 24) rfl hf (by decide), natBeq _ 24 (z := 24) rfl, and8 (c := 56) (z := 56) rfl hf (by decide), natBne]
      have bf := badF_eqR f hf
      refine brB_of (fun z0 => seven _ (by rw [bf, z0]; rfl)) fun z0 => brB_of (fun z1 => seven _ (by rw [bf, z0, z1]; rfl)) fun z1 => brB_of (fun z2 => brB_of (fun z3 => seven _ (by rw [bf, z0, z1, z2, z3]; rfl)) fun z3 => brB_of (fun z4 => seven _ (by rw [bf, z0, z1, z2, z3, z4]; rfl)) fun z4 => seven _ (by rw [bf, z0, z1, z2, z3, z4]; rfl)) fun z2 => brB_of (fun z4 => seven _ (by rw [bf, z0, z1, z2, z4]; rfl)) fun z4 => seven _ (by rw [bf, z0, z1, z2, z4]; rfl)
    exact brB_of (fun y => f37_spec w3 fun h4 w4 => ⟨rfl, four h4 _ (by rw [y]) w4⟩) fun y => four h3 O.2 (by rw [y]; rfl) w3
  exact brB_of (fun y => f37_spec w1 fun h2 w2 => ⟨rfl, two h2 _ (by rw [y]) w2⟩) fun y => two h1 (textS s).2 (by rw [y]; rfl) w1
end
end Go.G.YtciepfobnaemmaaDoor
