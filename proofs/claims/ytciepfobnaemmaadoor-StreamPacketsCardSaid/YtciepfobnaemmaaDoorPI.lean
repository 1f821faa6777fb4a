/- The document's filters, codes. -/
import Derived.Test.YtciepfobnaemmaaDoorPF
import Derived.Test.YtciepfobnaemmaaDoorProg
set_option maxRecDepth 100000
namespace Go.G.YtciepfobnaemmaaDoor
open Go.RowKit
open Value (string slice int bool agg)
def f42_J : Nat → List Nat × Nat := jOf [(1, (rn 73 71 []), 0), (2, (rn 73 71 []), 0), (12, (rn 73 71 []), 0), (7, (2 :: (3 :: (rn 73 68 []))), 1)]

def f42_1 (w0 : World) (K : Value → AH → Prop) (a b : Option Addr) (h : AH) : Prop :=
  ∀ j : Nat → Value, LPk Proofs.Tryd.prog w0 (EvC Proofs.Tryd.prog w0) f42_J 42 K 1 (.v (.pointer a) :: (.v (.pointer b) :: (jv j 73 71 []))) [] h

def f42_2 (w0 : World) (K : Value → AH → Prop) (a b : Option Addr) (h : AH) : Prop :=
  ∀ j : Nat → Value, LPk Proofs.Tryd.prog w0 (EvC Proofs.Tryd.prog w0) f42_J 42 K 2 (.v (.pointer a) :: (.v (.pointer b) :: (jv j 73 71 []))) [] h

def f42_12 (w0 : World) (K : Value → AH → Prop) (a b : Option Addr) (h : AH) : Prop :=
  ∀ j : Nat → Value, LPk Proofs.Tryd.prog w0 (EvC Proofs.Tryd.prog w0) f42_J 42 K 12 (.v (.pointer a) :: (.v (.pointer b) :: (jv j 73 71 []))) [] h

def f42_7 (w0 : World) (K : Value → AH → Prop) (a b : Option Addr) (c : ByteArray) (d : Int) (h : AH) : Prop :=
  ∀ j : Nat → Value, LPk Proofs.Tryd.prog w0 (EvC Proofs.Tryd.prog w0) f42_J 42 K 7 (.v (.pointer a) :: (.v (.pointer b) :: (jv j 4 2 (.bp 0 0 :: (jv j 73 68 []))))) [some [(.string c), (.int .i64 d)]] h

theorem f42_1_in {w0 : World} {K : Value → AH → Prop} (a b : Option Addr) (h : AH)
  (hv : (∃ c : Addr, ((a = (some c)) ∧ (∃ d : Int, (((cellA w0 h (Addr.add c 1)) = (some (int .i64 d))) ∧ (brB (d == (0 : Int)) (∃ e : Addr, ((a = (some e)) ∧ (∃ i : Option Addr, (∃ g : Nat, (∃ k : Nat, (((cellA w0 h (Addr.add e 0)) = (some (slice i g k))) ∧ (brB (decide (((0 : Int) < ((g : Nat) : Int)))) (f42_2 w0 K a b h) (f42_12 w0 K a b h)))))))) (f42_12 w0 K a b h))))))) :
  f42_1 w0 K a b h := fun j => LP_intro (P := Proofs.Tryd.prog) (Eq.mp (by kernel_rfl) hv)

theorem f42_2_in {w0 : World} {K : Value → AH → Prop} (a b : Option Addr) (h : AH)
  (hv : (∃ d : Addr, ((b = (some d)) ∧ (∃ o : Option Addr, (∃ e : Nat, (∃ p : Nat, (((cellA w0 h (Addr.add d 14)) = (some (slice o e p))) ∧ (brB (((e : Nat) : Int) == (8 : Int)) (EvC Proofs.Tryd.prog w0 37 #[(Value.pointer a), (int .i64 (13 : Int))] (fun q r => ((q = (Value.tuple #[])) ∧ (K (Value.tuple #[]) r))) h) (EvC Proofs.Tryd.prog w0 70 #[(Value.pointer a)] (fun s g => (∃ i : Option Addr, (∃ k : Nat, (∃ t : Nat, ((s = (slice i k t)) ∧ (rowsOf w0 g 1 i k (fun u => (∃ c : ByteArray, ((u = (intsOf c)) ∧ (EvC Proofs.Tryd.prog w0 72 #[(string c)] (fun v m => (∃ n : Bool, ((v = (bool n)) ∧ (brB (!n) (EvC Proofs.Tryd.prog w0 37 #[(Value.pointer a), (int .i64 (15 : Int))] (fun x y => ((x = (Value.tuple #[])) ∧ (f42_7 w0 K a b c (0 : Int) y))) m) (f42_7 w0 K a b c (0 : Int) m))))) g)))))))))) h))))))))) :
  f42_2 w0 K a b h := fun j => LP_intro (P := Proofs.Tryd.prog) (Eq.mp (by kernel_rfl) hv)

theorem f42_12_in {w0 : World} {K : Value → AH → Prop} (a b : Option Addr) (h : AH)
  (hv : (∃ c : Addr, ((b = (some c)) ∧ (∃ e : Option Addr, (∃ d : Nat, (∃ g : Nat, (((cellA w0 h (Addr.add c 14)) = (some (slice e d g))) ∧ (brB (((d : Nat) : Int) == (0 : Int)) (EvC Proofs.Tryd.prog w0 37 #[(Value.pointer a), (int .i64 (3 : Int))] (fun i k => ((i = (Value.tuple #[])) ∧ (K (Value.tuple #[]) k))) h) (K (Value.tuple #[]) h))))))))) :
  f42_12 w0 K a b h := fun j => LP_intro (P := Proofs.Tryd.prog) (Eq.mp (by kernel_rfl) hv)

theorem f42_7_in {w0 : World} {K : Value → AH → Prop} (b a : Option Addr) (c : ByteArray) (x : Int) (h : AH)
  (hv : (∃ M : Addr, ((a = (some M)) ∧ (∃ N : Int, (((cellA w0 h (Addr.add M 0)) = (some (int .i64 N))) ∧ (brB (N == (8 : Int)) (EvC Proofs.Tryd.prog w0 36 #[(Value.pointer b)] (fun c9 o => (∃ d : Int, ((c9 = (int .u8 d)) ∧ (brB (decide (((2 : Int) < (IntKind.wrap .i64 d)))) (EvC Proofs.Tryd.prog w0 37 #[(Value.pointer b), (int .i64 (3 : Int))] (fun d0 p => ((d0 = (Value.tuple #[])) ∧ (∃ y : Addr, ((a = (some y)) ∧ ((∃ Q : Option Addr, (∃ q : Nat, (∃ R : Nat, (((cellA w0 p (Addr.add y 14)) = (some (slice Q q R))) ∧ (App w0 p 2 24 Q q R 1 [(string c), (int .i64 (IntKind.wrap .i64 d))] (fun T U V => (∃ e : Addr, ((a = (some e)) ∧ (∃ z : List Go.Value, (∃ Y : Nat, (((Array.size (Go.World.heap w0)) ≤ (Addr.block (Addr.add e 14))) ∧ (((none : Option Nat) = none) ∧ (((V (Addr.block (Addr.add e 14))) = (some (AB.cells z Y))) ∧ ((((Addr.off (Addr.add e 14)) + (Array.size #[(slice T (q + 1) U)])) ≤ (List.length z)) ∧ (f42_1 w0 K b a (AH.put V (Addr.block (Addr.add e 14)) (AB.cells (setCells z (Addr.off (Addr.add e 14)) [(slice T (q + 1) U)]) Y))))))))))))))))) ∧ (∃ Z : Option Addr, (∃ r : Nat, (∃ a0 : Nat, (((cellA w0 p (Addr.add y 14)) = (some (slice Z r a0))) ∧ (App w0 p 2 24 Z r a0 1 [(string c), (int .i64 (IntKind.wrap .i64 d))] (fun a1 a2 a3 => (∃ g : Addr, ((a = (some g)) ∧ (∃ A : List Go.Value, (∃ a4 : Nat, (((Array.size (Go.World.heap w0)) ≤ (Addr.block (Addr.add g 14))) ∧ (((none : Option Nat) = none) ∧ (((a3 (Addr.block (Addr.add g 14))) = (some (AB.cells A a4))) ∧ ((((Addr.off (Addr.add g 14)) + (Array.size #[(slice a1 (r + 1) a2)])) ≤ (List.length A)) ∧ (f42_1 w0 K b a (AH.put a3 (Addr.block (Addr.add g 14)) (AB.cells (setCells A (Addr.off (Addr.add g 14)) [(slice a1 (r + 1) a2)]) a4)))))))))))))))))))))) o) (∃ B : Addr, ((a = (some B)) ∧ ((∃ a5 : Option Addr, (∃ s : Nat, (∃ a6 : Nat, (((cellA w0 o (Addr.add B 14)) = (some (slice a5 s a6))) ∧ (App w0 o 2 24 a5 s a6 1 [(string c), (int .i64 (IntKind.wrap .i64 d))] (fun a7 a8 a9 => (∃ i : Addr, ((a = (some i)) ∧ (∃ C : List Go.Value, (∃ b0 : Nat, (((Array.size (Go.World.heap w0)) ≤ (Addr.block (Addr.add i 14))) ∧ (((none : Option Nat) = none) ∧ (((a9 (Addr.block (Addr.add i 14))) = (some (AB.cells C b0))) ∧ ((((Addr.off (Addr.add i 14)) + (Array.size #[(slice a7 (s + 1) a8)])) ≤ (List.length C)) ∧ (f42_1 w0 K b a (AH.put a9 (Addr.block (Addr.add i 14)) (AB.cells (setCells C (Addr.off (Addr.add i 14)) [(slice a7 (s + 1) a8)]) b0))))))))))))))))) ∧ (∃ b1 : Option Addr, (∃ t : Nat, (∃ b2 : Nat, (((cellA w0 o (Addr.add B 14)) = (some (slice b1 t b2))) ∧ (App w0 o 2 24 b1 t b2 1 [(string c), (int .i64 (IntKind.wrap .i64 d))] (fun b3 b4 b5 => (∃ k : Addr, ((a = (some k)) ∧ (∃ D : List Go.Value, (∃ b6 : Nat, (((Array.size (Go.World.heap w0)) ≤ (Addr.block (Addr.add k 14))) ∧ (((none : Option Nat) = none) ∧ (((b5 (Addr.block (Addr.add k 14))) = (some (AB.cells D b6))) ∧ ((((Addr.off (Addr.add k 14)) + (Array.size #[(slice b3 (t + 1) b4)])) ≤ (List.length D)) ∧ (f42_1 w0 K b a (AH.put b5 (Addr.block (Addr.add k 14)) (AB.cells (setCells D (Addr.off (Addr.add k 14)) [(slice b3 (t + 1) b4)]) b6)))))))))))))))))))))))) h) (∃ E : Addr, ((a = (some E)) ∧ ((∃ b7 : Option Addr, (∃ u : Nat, (∃ b8 : Nat, (((cellA w0 h (Addr.add E 14)) = (some (slice b7 u b8))) ∧ (App w0 h 2 24 b7 u b8 1 [(string c), (int .i64 x)] (fun b9 c0 c1 => (∃ m : Addr, ((a = (some m)) ∧ (∃ F : List Go.Value, (∃ c2 : Nat, (((Array.size (Go.World.heap w0)) ≤ (Addr.block (Addr.add m 14))) ∧ (((none : Option Nat) = none) ∧ (((c1 (Addr.block (Addr.add m 14))) = (some (AB.cells F c2))) ∧ ((((Addr.off (Addr.add m 14)) + (Array.size #[(slice b9 (u + 1) c0)])) ≤ (List.length F)) ∧ (f42_1 w0 K b a (AH.put c1 (Addr.block (Addr.add m 14)) (AB.cells (setCells F (Addr.off (Addr.add m 14)) [(slice b9 (u + 1) c0)]) c2))))))))))))))))) ∧ (∃ c3 : Option Addr, (∃ v : Nat, (∃ c4 : Nat, (((cellA w0 h (Addr.add E 14)) = (some (slice c3 v c4))) ∧ (App w0 h 2 24 c3 v c4 1 [(string c), (int .i64 x)] (fun c5 c6 c7 => (∃ n : Addr, ((a = (some n)) ∧ (∃ L : List Go.Value, (∃ c8 : Nat, (((Array.size (Go.World.heap w0)) ≤ (Addr.block (Addr.add n 14))) ∧ (((none : Option Nat) = none) ∧ (((c7 (Addr.block (Addr.add n 14))) = (some (AB.cells L c8))) ∧ ((((Addr.off (Addr.add n 14)) + (Array.size #[(slice c5 (v + 1) c6)])) ≤ (List.length L)) ∧ (f42_1 w0 K b a (AH.put c7 (Addr.block (Addr.add n 14)) (AB.cells (setCells L (Addr.off (Addr.add n 14)) [(slice c5 (v + 1) c6)]) c8)))))))))))))))))))))))))) :
  f42_7 w0 K b a c x h := fun j => LP_intro (P := Proofs.Tryd.prog) (Eq.mp (by kernel_rfl) hv)

theorem f42_go {w0 : World} {K : Value → AH → Prop} (b c : Option Addr) (h : AH)
  (hv : (EvC Proofs.Tryd.prog w0 39 #[(Value.pointer b)] (fun k g => (∃ d : Int, ((k = (int .i64 d)) ∧ (∃ a : Addr, ((c = (some a)) ∧ (∃ e : List Go.Value, (∃ i : Nat, (((Array.size (Go.World.heap w0)) ≤ (Addr.block (Addr.add a 1))) ∧ (((none : Option Nat) = none) ∧ (((g (Addr.block (Addr.add a 1))) = (some (AB.cells e i))) ∧ ((((Addr.off (Addr.add a 1)) + (Array.size #[(int .i64 d)])) ≤ (List.length e)) ∧ (f42_1 w0 K b c (AH.put g (Addr.block (Addr.add a 1)) (AB.cells (setCells e (Addr.off (Addr.add a 1)) [(int .i64 d)]) i)))))))))))))) h)) :
  EvC Proofs.Tryd.prog w0 42 ([(.pointer b), (.pointer c)]).toArray K h := EvC_intro (P := Proofs.Tryd.prog) f42_J (Eq.mp (by kernel_rfl) hv)
def f43_J : Nat → List Nat × Nat := jOf [(1, (rn 60 58 []), 0), (2, (rn 60 58 []), 0), (8, (rn 60 58 []), 0), (6, (2 :: (3 :: (rn 39 34 (rn 60 20 [])))), 0)]

def f43_1 (w0 : World) (K : Value → AH → Prop) (a b : Option Addr) (h : AH) : Prop :=
  ∀ j : Nat → Value, LPk Proofs.Tryd.prog w0 (EvC Proofs.Tryd.prog w0) f43_J 43 K 1 (.v (.pointer a) :: (.v (.pointer b) :: (jv j 60 58 []))) [] h

def f43_2 (w0 : World) (K : Value → AH → Prop) (a b : Option Addr) (h : AH) : Prop :=
  ∀ j : Nat → Value, LPk Proofs.Tryd.prog w0 (EvC Proofs.Tryd.prog w0) f43_J 43 K 2 (.v (.pointer a) :: (.v (.pointer b) :: (jv j 60 58 []))) [] h

def f43_8 (w0 : World) (K : Value → AH → Prop) (a b : Option Addr) (h : AH) : Prop :=
  ∀ j : Nat → Value, LPk Proofs.Tryd.prog w0 (EvC Proofs.Tryd.prog w0) f43_J 43 K 8 (.v (.pointer a) :: (.v (.pointer b) :: (jv j 60 58 []))) [] h

def f43_6 (w0 : World) (K : Value → AH → Prop) (a b : Option Addr) (c : Int) (d : Bool) (h : AH) : Prop :=
  ∀ j : Nat → Value, LPk Proofs.Tryd.prog w0 (EvC Proofs.Tryd.prog w0) f43_J 43 K 6 (.v (.pointer a) :: (.v (.pointer b) :: (jv j 4 2 (.v (.int .i64 c) :: (jv j 39 34 (.v (.bool d) :: (jv j 60 20 []))))))) [] h

theorem f43_1_in {w0 : World} {K : Value → AH → Prop} (a b : Option Addr) (h : AH)
  (hv : (∃ c : Addr, ((a = (some c)) ∧ (∃ d : Int, (((cellA w0 h (Addr.add c 1)) = (some (int .i64 d))) ∧ (brB (d == (0 : Int)) (∃ e : Addr, ((a = (some e)) ∧ (∃ i : Option Addr, (∃ g : Nat, (∃ k : Nat, (((cellA w0 h (Addr.add e 0)) = (some (slice i g k))) ∧ (brB (decide (((0 : Int) < ((g : Nat) : Int)))) (f43_2 w0 K a b h) (f43_8 w0 K a b h)))))))) (f43_8 w0 K a b h))))))) :
  f43_1 w0 K a b h := fun j => LP_intro (P := Proofs.Tryd.prog) (Eq.mp (by kernel_rfl) hv)

theorem f43_2_in {w0 : World} {K : Value → AH → Prop} (a c : Option Addr) (h : AH)
  (hv : (∃ d : Addr, ((c = (some d)) ∧ (∃ i : Option Addr, (∃ e : Nat, (∃ k : Nat, (((cellA w0 h (Addr.add d 15)) = (some (slice i e k))) ∧ (brB (((e : Nat) : Int) == (8 : Int)) (EvC Proofs.Tryd.prog w0 37 #[(Value.pointer a), (int .i64 (13 : Int))] (fun m n => ((m = (Value.tuple #[])) ∧ (K (Value.tuple #[]) n))) h) (EvC Proofs.Tryd.prog w0 36 #[(Value.pointer a)] (fun o g => (∃ b : Int, ((o = (int .u8 b)) ∧ (brB (decide (((2 : Int) < (IntKind.wrap .i64 b)))) (f43_6 w0 K a c (IntKind.wrap .i64 b) ((IntKind.wrap .i64 b) != (128 : Int)) g) (f43_6 w0 K a c (IntKind.wrap .i64 b) false g))))) h))))))))) :
  f43_2 w0 K a c h := fun j => LP_intro (P := Proofs.Tryd.prog) (Eq.mp (by kernel_rfl) hv)

theorem f43_8_in {w0 : World} {K : Value → AH → Prop} (a b : Option Addr) (h : AH)
  (hv : (∃ c : Addr, ((b = (some c)) ∧ (∃ e : Option Addr, (∃ d : Nat, (∃ g : Nat, (((cellA w0 h (Addr.add c 15)) = (some (slice e d g))) ∧ (brB (((d : Nat) : Int) == (0 : Int)) (EvC Proofs.Tryd.prog w0 37 #[(Value.pointer a), (int .i64 (3 : Int))] (fun i k => ((i = (Value.tuple #[])) ∧ (K (Value.tuple #[]) k))) h) (K (Value.tuple #[]) h))))))))) :
  f43_8 w0 K a b h := fun j => LP_intro (P := Proofs.Tryd.prog) (Eq.mp (by kernel_rfl) hv)

theorem f43_6_in {w0 : World} {K : Value → AH → Prop} (d a : Option Addr) (i : Int) (n : Bool) (h : AH)
  (hv : (brB n (EvC Proofs.Tryd.prog w0 37 #[(Value.pointer d), (int .i64 (3 : Int))] (fun E o => ((E = (Value.tuple #[])) ∧ (∃ p : Addr, ((a = (some p)) ∧ (∃ q : Option Addr, (∃ e : Nat, (∃ r : Nat, (((cellA w0 o (Addr.add p 15)) = (some (slice q e r))) ∧ (App w0 o 1 8 q e r 1 [(int .i64 i)] (fun s t u => (∃ b : Addr, ((a = (some b)) ∧ (∃ k : List Go.Value, (∃ v : Nat, (((Array.size (Go.World.heap w0)) ≤ (Addr.block (Addr.add b 15))) ∧ (((none : Option Nat) = none) ∧ (((u (Addr.block (Addr.add b 15))) = (some (AB.cells k v))) ∧ ((((Addr.off (Addr.add b 15)) + (Array.size #[(slice s (e + 1) t)])) ≤ (List.length k)) ∧ (f43_1 w0 K d a (AH.put u (Addr.block (Addr.add b 15)) (AB.cells (setCells k (Addr.off (Addr.add b 15)) [(slice s (e + 1) t)]) v))))))))))))))))))))) h) (∃ x : Addr, ((a = (some x)) ∧ (∃ y : Option Addr, (∃ g : Nat, (∃ z : Nat, (((cellA w0 h (Addr.add x 15)) = (some (slice y g z))) ∧ (App w0 h 1 8 y g z 1 [(int .i64 i)] (fun A B C => (∃ c : Addr, ((a = (some c)) ∧ (∃ m : List Go.Value, (∃ D : Nat, (((Array.size (Go.World.heap w0)) ≤ (Addr.block (Addr.add c 15))) ∧ (((none : Option Nat) = none) ∧ (((C (Addr.block (Addr.add c 15))) = (some (AB.cells m D))) ∧ ((((Addr.off (Addr.add c 15)) + (Array.size #[(slice A (g + 1) B)])) ≤ (List.length m)) ∧ (f43_1 w0 K d a (AH.put C (Addr.block (Addr.add c 15)) (AB.cells (setCells m (Addr.off (Addr.add c 15)) [(slice A (g + 1) B)]) D))))))))))))))))))))) :
  f43_6 w0 K d a i n h := fun j => LP_intro (P := Proofs.Tryd.prog) (Eq.mp (by kernel_rfl) hv)

theorem f43_go {w0 : World} {K : Value → AH → Prop} (b c : Option Addr) (h : AH)
  (hv : (EvC Proofs.Tryd.prog w0 39 #[(Value.pointer b)] (fun k g => (∃ d : Int, ((k = (int .i64 d)) ∧ (∃ a : Addr, ((c = (some a)) ∧ (∃ e : List Go.Value, (∃ i : Nat, (((Array.size (Go.World.heap w0)) ≤ (Addr.block (Addr.add a 1))) ∧ (((none : Option Nat) = none) ∧ (((g (Addr.block (Addr.add a 1))) = (some (AB.cells e i))) ∧ ((((Addr.off (Addr.add a 1)) + (Array.size #[(int .i64 d)])) ≤ (List.length e)) ∧ (f43_1 w0 K b c (AH.put g (Addr.block (Addr.add a 1)) (AB.cells (setCells e (Addr.off (Addr.add a 1)) [(int .i64 d)]) i)))))))))))))) h)) :
  EvC Proofs.Tryd.prog w0 43 ([(.pointer b), (.pointer c)]).toArray K h := EvC_intro (P := Proofs.Tryd.prog) f43_J (Eq.mp (by kernel_rfl) hv)
/-! ### the document's filters and codes -/
section
variable {w0 : World} {K : Value → AH → Prop} {h : AH} {R X : List (Nat × AB)} {b c : Nat} {p : Option Addr} {s : RS}
/-- A slice of filters grows by one, in its packet. -/
theorem want_app {q : Nat} {m : PkM} {ms : List WantM} {wa : Option Addr} {wc : Nat} {fl : ByteArray} {qq : Int} {Y : Nat × AB} {G : AH → Prop} (hms : ms.length < 9) (v : SlV 2 wa ms.length wc (ms.flatMap WantM.cells)) (w : Own w0 h (Y :: pkB q { m with wa := wa, wc := wc, wants := ms } :: (slB wa (ms.flatMap WantM.cells) (wc * 2) ++ X)))
    (hg : ∀ h' a6 c6, SlV 2 a6 (ms ++ [(⟨fl, qq⟩ : WantM)]).length c6 ((ms ++ [(⟨fl, qq⟩ : WantM)]).flatMap WantM.cells) → Own w0 h' (Y :: pkB q { m with wa := a6, wc := c6, wants := ms ++ [⟨fl, qq⟩] } :: (slB a6 ((ms ++ [(⟨fl, qq⟩ : WantM)]).flatMap WantM.cells) (c6 * 2) ++ X)) → G h') :
    App w0 h 2 24 wa ms.length wc 1 [.string fl, .int .i64 qq] fun a37 c38 h39 => ∃ a40 : Addr, some (⟨q, 0, none⟩ : Addr) = some a40 ∧ ∃ (l41 : List Value) (n42 : Nat), w0.heap.size ≤ (Addr.add a40 14).block ∧ (none : Option Nat) = none ∧ h39 (Addr.add a40 14).block = some (.cells l41 n42) ∧
      (Addr.add a40 14).off + Array.size #[Value.slice a37 (ms.length + 1) c38] ≤ l41.length ∧ G (h39.put (Addr.add a40 14).block (.cells (setCells l41 (Addr.add a40 14).off [.slice a37 (ms.length + 1) c38]) n42)) := by
  refine App_mid (cs := [_, _]) v w (by omega) (by omega) rfl (fun y hy => by simp at hy; rcases hy with rfl | rfl <;> rfl) fun a6 c6 h6 v6 w6 => ?_
  have ef : ms.flatMap WantM.cells ++ [.string fl, .int .i64 qq] = (ms ++ [(⟨fl, qq⟩ : WantM)]).flatMap WantM.cells := by simp
  have el : (ms ++ [(⟨fl, qq⟩ : WantM)]).length = ms.length + 1 := by simp
  rw [ef] at v6 w6
  have w6' : Own w0 h6 (Y :: pkB q { m with wa := wa, wc := wc, wants := ms } :: (slB a6 ((ms ++ [(⟨fl, qq⟩ : WantM)]).flatMap WantM.cells) (c6 * 2) ++ X)) := w6
  refine ⟨_, rfl, _, _, w6'.tail.ge, rfl, w6'.tail.hd, by simp [Addr.add], ?_⟩
  have w7 := Own.upd2 (o' := .cells ({ m with wa := a6, wc := c6, wants := ms ++ [⟨fl, qq⟩] } : PkM).cells 16) w6'
  have es : (AB.cells ({ m with wa := a6, wc := c6, wants := ms ++ [⟨fl, qq⟩] } : PkM).cells 16) = AB.cells (setCells ({ m with wa := wa, wc := wc, wants := ms } : PkM).cells 14 [.slice a6 (ms.length + 1) c6]) 16 := by
    show _ = AB.cells [.int .i64 m.kind, .int .i64 m.id, .bool m.dup, .string m.topic, .slice m.pa m.pay.length m.pc, .int .i64 m.qos, .bool m.ret, .int .i64 m.til, .string m.client, .bool m.clean, .int .i64 m.alive, .bool m.will, .bool m.present, .int .i64 m.code, .slice a6 (ms.length + 1) c6, .slice m.ca m.codes.length m.cc] 16
    rw [← el]
  have e2 : (pkB q { m with wa := a6, wc := c6, wants := ms ++ [⟨fl, qq⟩] }) = (q, AB.cells (setCells ({ m with wa := wa, wc := wc, wants := ms } : PkM).cells 14 [.slice a6 (ms.length + 1) c6]) 16) := by rw [← es]
  have := hg _ a6 c6 (by rw [el]; exact v6) w7
  rw [es] at this
  exact this
theorem code_app {q : Nat} {m : PkM} {ms : List Int} {ca : Option Addr} {cc : Nat} {qq : Int} {Y : Nat × AB} {G : AH → Prop} (hms : ms.length < 9) (v : SlV 1 ca ms.length cc (ints ms)) (w : Own w0 h (Y :: pkB q { m with ca := ca, cc := cc, codes := ms } :: (slB ca (ints ms) (cc * 1) ++ X)))
    (hg : ∀ h' a6 c6, SlV 1 a6 (ms ++ [qq]).length c6 (ints (ms ++ [qq])) → Own w0 h' (Y :: pkB q { m with ca := a6, cc := c6, codes := ms ++ [qq] } :: (slB a6 (ints (ms ++ [qq])) (c6 * 1) ++ X)) → G h') :
    App w0 h 1 8 ca ms.length cc 1 [.int .i64 qq] fun a37 c38 h39 => ∃ a40 : Addr, some (⟨q, 0, none⟩ : Addr) = some a40 ∧ ∃ (l41 : List Value) (n42 : Nat), w0.heap.size ≤ (Addr.add a40 15).block ∧ (none : Option Nat) = none ∧ h39 (Addr.add a40 15).block = some (.cells l41 n42) ∧
      (Addr.add a40 15).off + Array.size #[Value.slice a37 (ms.length + 1) c38] ≤ l41.length ∧ G (h39.put (Addr.add a40 15).block (.cells (setCells l41 (Addr.add a40 15).off [.slice a37 (ms.length + 1) c38]) n42)) := by
  refine App_mid (cs := [_, _]) v w (by omega) (by omega) rfl (fun y hy => by simp at hy; rcases hy with rfl; rfl) fun a6 c6 h6 v6 w6 => ?_
  have ef : ints ms ++ [.int .i64 qq] = ints (ms ++ [qq]) := by simp [ints]
  have el : (ms ++ [qq]).length = ms.length + 1 := by simp
  rw [ef] at v6 w6
  have w6' : Own w0 h6 (Y :: pkB q { m with ca := ca, cc := cc, codes := ms } :: (slB a6 (ints (ms ++ [qq])) (c6 * 1) ++ X)) := w6
  refine ⟨_, rfl, _, _, w6'.tail.ge, rfl, w6'.tail.hd, by simp [Addr.add], ?_⟩
  have w7 := Own.upd2 (o' := .cells ({ m with ca := a6, cc := c6, codes := ms ++ [qq] } : PkM).cells 16) w6'
  have es : (AB.cells ({ m with ca := a6, cc := c6, codes := ms ++ [qq] } : PkM).cells 16) = AB.cells (setCells ({ m with ca := ca, cc := cc, codes := ms } : PkM).cells 15 [.slice a6 (ms.length + 1) c6]) 16 := by
    show _ = AB.cells [.int .i64 m.kind, .int .i64 m.id, .bool m.dup, .string m.topic, .slice m.pa m.pay.length m.pc, .int .i64 m.qos, .bool m.ret, .int .i64 m.til, .string m.client, .bool m.clean, .int .i64 m.alive, .bool m.will, .bool m.present, .int .i64 m.code, .slice m.wa m.wants.length m.wc, .slice a6 (ms.length + 1) c6] 16
    rw [← el]
  have := hg _ a6 c6 (by rw [el]; exact v6) w7
  rw [es] at this
  exact this
theorem wants_many {sub : Bool} {acc : List (ByteArray × Int)} (h8 : acc.length = 8) (h0 : s.1 ≠ [] ∧ s.2 = 0) : (wantsF sub 1 acc s).2 = (s.1, 13) := by
  have e1 : failS s (decide (acc.length = 8)) 13 = (s.1, 13) := by unfold failS; rw [decide_eq_true h8, decide_eq_true h0.2]; rfl
  have ne : ((s.1, (13 : Int)) : RS).2 ≠ 0 := (by decide : (13 : Int) ≠ 0)
  unfold wantsF
  rw [if_pos h0]
  dsimp only
  rw [e1, err_text ne, failS_err ne, err_one ne, failS_err ne]
  split <;> rfl
theorem codes_many {acc : List Int} (h8 : acc.length = 8) (h0 : s.1 ≠ [] ∧ s.2 = 0) : (codesF 1 acc s).2 = (s.1, 13) := by
  have e1 : failS s (decide (acc.length = 8)) 13 = (s.1, 13) := by unfold failS; rw [decide_eq_true h8, decide_eq_true h0.2]; rfl
  have ne : ((s.1, (13 : Int)) : RS).2 ≠ 0 := (by decide : (13 : Int) ≠ 0)
  unfold codesF
  rw [if_pos h0]
  dsimp only
  rw [e1, err_one ne, failS_err ne]
  rfl
theorem f42_loop {q : Nat} {m : PkM} {sub : Bool} (hsub : decide (m.kind = 8) = sub) (hs : R ⊆ X) (fin : List (ByteArray × Int) × RS)
    (hk : ∀ h' p' c' wa wc (ms : List WantM), (fin.2.2 = 0 → ms.map WantM.key = fin.1) → SlV 2 wa ms.length wc (ms.flatMap WantM.cells) → Own w0 h' (rdB b p' c' fin.2 :: pkB q { m with wa := wa, wc := wc, wants := ms } :: (slB wa (ms.flatMap WantM.cells) (wc * 2) ++ X)) → Rdr w0 R p' c' fin.2.1 → K (.tuple #[]) h') :
    ∀ (n : Nat) (s : RS) (ms : List WantM) (wa : Option Addr) (wc : Nat) (p : Option Addr) (c : Nat) (h : AH), n + ms.length = 9 → (ms.length = 9 → s.2 ≠ 0) → (ms = [] → s.1 = [] → s.2 ≠ 0) → wantsF sub n (ms.map WantM.key) s = fin → SlV 2 wa ms.length wc (ms.flatMap WantM.cells) → Own w0 h (rdB b p c s :: pkB q { m with wa := wa, wc := wc, wants := ms } :: (slB wa (ms.flatMap WantM.cells) (wc * 2) ++ X)) → Rdr w0 R p c s.1 →
      f42_1 w0 K (some ⟨b, 0, none⟩) (some ⟨q, 0, none⟩) h
  | n, s, ms, wa, wc, p, c, h, hn, h9, hz, he, v, w, r => by
    have stop : ¬ (s.1 ≠ [] ∧ s.2 = 0) → f42_12 w0 K (some ⟨b, 0, none⟩) (some ⟨q, 0, none⟩) h := fun hq => by
      have : wantsF sub n (ms.map WantM.key) s = (ms.map WantM.key, s) := by
        cases n with
        | zero => rfl
        | succ n => unfold wantsF; rw [if_neg hq]
      rw [this] at he
      rw [← he] at hk
      refine f42_12_in _ _ _ ⟨_, rfl, wa, ms.length, wc, w.tail.cell0 (j := 14) rfl, brB_of (fun z => f37_spec w fun h1 w1 => ⟨rfl, ?_⟩) fun z => hk h p c wa wc ms (fun _ => rfl) v w r⟩
      have hm : ms = [] := List.eq_nil_of_length_eq_zero (by simp at z; rw [z]; rfl)
      have ne : s.2 ≠ 0 := fun e => hz hm (Classical.byContradiction fun y => hq ⟨y, e⟩) e
      rw [failS_err ne] at w1
      exact hk h1 p c wa wc ms (fun _ => rfl) v w1 r
    refine f42_1_in _ _ _ ⟨_, rfl, _, w.cell0 rfl, brB_of (fun y => ⟨_, rfl, _, _, _, w.cell0 rfl, brB_of (fun z => ?_) fun z => ?_⟩) fun y => ?_⟩
    · have hq : s.1 ≠ [] ∧ s.2 = 0 := ⟨fun e => by rw [e] at z; simp at z, by simpa using y⟩
      have hlt : ms.length < 9 := by
        have : ms.length ≠ 9 := fun e => h9 e hq.2
        omega
      match n, hn, he with
      | 0, hn, _ => omega
      | n + 1, hn, he =>
      have e8 : (((ms.length : Nat) : Int) == 8) = decide (ms.length = 8) := natBeq ms.length 8 (z := 8) rfl
      refine f42_2_in _ _ _ ⟨_, rfl, wa, ms.length, wc, w.tail.cell0 (j := 14) rfl, ?_⟩
      rw [e8]
      refine brB_of (fun m8 => f37_spec w fun h1 w1 => ⟨rfl, ?_⟩) fun m8 => ?_
      · have m8 := of_decide_eq_true m8
        have n0 : n = 0 := by omega
        subst n0
        have ef : fin.2 = (s.1, 13) := by rw [← he]; exact wants_many (by rw [List.length_map]; exact m8) hq
        have e1 : failS s true 13 = (s.1, 13) := by unfold failS; rw [decide_eq_true hq.2]; rfl
        rw [e1] at w1
        rw [ef] at hk
        exact hk h1 p c wa wc ms (fun e => by cases e) v w1 r
      · have m8 := of_decide_eq_false m8
        have e1 : failS s (decide ((ms.map WantM.key).length = 8)) 13 = s := by rw [List.length_map, decide_eq_false m8]; rfl
        have eu : wantsF sub (n + 1) (ms.map WantM.key) s = (if sub then wantsF sub n (ms.map WantM.key ++ [(toB (textS s).1, (((oneS (failS (textS s).2 (!(filterB (toB (textS s).1))) 15)).1 : Nat) : Int))]) (failS (oneS (failS (textS s).2 (!(filterB (toB (textS s).1))) 15)).2 (decide (2 < (oneS (failS (textS s).2 (!(filterB (toB (textS s).1))) 15)).1)) 3)
          else wantsF sub n (ms.map WantM.key ++ [(toB (textS s).1, 0)]) (failS (textS s).2 (!(filterB (toB (textS s).1))) 15)) := by
          rw [wantsF, if_pos hq]
          dsimp only
          rw [e1]
        rw [eu] at he
        refine f70_spec w r (sub_cons (sub_app hs)) fun h2 p2 c2 a2 d2 v2 w2 r2 => ⟨_, _, _, rfl, rows8 (v2.rd (cs := [_]) w2) rfl ?_⟩
        have w2 := Own.cut (cs := [_]) w2
        have ek : (m.kind == 8) = sub := by rw [← hsub]; rw [Bool.eq_iff_iff]; simp
        have seven : ∀ h4 (z4 : RS), z4 = failS (textS s).2 (!(filterB (toB (textS s).1))) 15 → Own w0 h4 (rdB b p2 c2 z4 :: pkB q { m with wa := wa, wc := wc, wants := ms } :: (slB wa (ms.flatMap WantM.cells) (wc * 2) ++ X)) → f42_7 w0 K (some ⟨b, 0, none⟩) (some ⟨q, 0, none⟩) (toB (textS s).1) 0 h4 := fun h4 z4 hz4 w4 => by
          rw [← hz4] at he
          have r4 : Rdr w0 R p2 c2 z4.1 := by rw [hz4, failS_fst]; exact r2
          clear hz4
          generalize toB (textS s).1 = fl at *
          have step : ∀ (z5 : RS) (qq : Int) (h5 : AH) (p5 : Option Addr) (c5 : Nat), wantsF sub n (ms.map WantM.key ++ [(fl, qq)]) z5 = fin → Own w0 h5 (rdB b p5 c5 z5 :: pkB q { m with wa := wa, wc := wc, wants := ms } :: (slB wa (ms.flatMap WantM.cells) (wc * 2) ++ X)) → Rdr w0 R p5 c5 z5.1 → _ := fun z5 qq h5 p5 c5 e5 w5 r5 =>
            want_app (G := fun h' => f42_1 w0 K (some ⟨b, 0, none⟩) (some ⟨q, 0, none⟩) h') (fl := fl) (qq := qq) hlt v w5 fun h6 a6 c6 v6 w6 =>
              f42_loop hsub hs fin hk n z5 (ms ++ [⟨fl, qq⟩]) a6 c6 p5 c5 h6 (by rw [List.length_append, List.length_singleton]; omega) (fun e => by rw [List.length_append, List.length_singleton] at e; omega) (fun e => by simp at e) (by rw [List.map_append]; exact e5) v6 w6 r5
          refine f42_7_in _ _ _ _ _ ⟨_, rfl, m.kind, w4.tail.cell0 (j := 0) rfl, ?_⟩
          rw [ek]
          refine brB_of (fun z => ?_) fun z => ?_
          · rw [if_pos z] at he
            refine f36_spec w4 r4 (sub_cons (sub_app hs)) fun h5 p5 c5 w5 r5 => ⟨_, rfl, ?_⟩
            have lt := one_lt z4
            rw [wrap64 (x := (((oneS z4).1 : Nat) : Int)) (by omega) (by omega)]
            have e0 : decide ((2 : Int) < (((oneS z4).1 : Nat) : Int)) = decide (2 < (oneS z4).1) := by rw [decide_eq_decide]; omega
            rw [e0]
            refine brB_of (fun y => f37_spec w5 fun h6 w6 => ⟨rfl, _, rfl, ?_⟩) fun y => ⟨_, rfl, ?_⟩
            · rw [y] at he
              have st := step _ _ h6 p5 c5 he w6 (by rw [failS_fst]; exact r5)
              exact ⟨⟨_, _, _, w6.tail.cell0 (j := 14) rfl, st⟩, ⟨_, _, _, w6.tail.cell0 (j := 14) rfl, st⟩⟩
            · rw [y] at he
              have st := step _ _ h5 p5 c5 he w5 r5
              exact ⟨⟨_, _, _, w5.tail.cell0 (j := 14) rfl, st⟩, ⟨_, _, _, w5.tail.cell0 (j := 14) rfl, st⟩⟩
          · rw [if_neg (by rw [z]; decide)] at he
            have st := step _ _ h4 p2 c2 he w4 r4
            exact ⟨_, rfl, ⟨_, _, _, w4.tail.cell0 (j := 14) rfl, st⟩, ⟨_, _, _, w4.tail.cell0 (j := 14) rfl, st⟩⟩
        refine f72_spec (s := toB (textS s).1) w2 fun h3 w3 => ⟨_, rfl, brB_of (fun y => f37_spec w3 fun h4 w4 => ⟨rfl, seven h4 _ (by rw [y]) w4⟩) fun y => seven h3 (textS s).2 (by rw [y]; rfl) w3⟩
    · exact stop fun e => e.1 (List.eq_nil_of_length_eq_zero (by have := of_decide_eq_false z; omega))
    · exact stop fun e => by rw [e.2] at y; simp at y
theorem f43_loop {q : Nat} {m : PkM} (hs : R ⊆ X) (fin : List Int × RS)
    (hk : ∀ h' p' c' ca cc (ms : List Int), (fin.2.2 = 0 → ms = fin.1) → SlV 1 ca ms.length cc (ints ms) → Own w0 h' (rdB b p' c' fin.2 :: pkB q { m with ca := ca, cc := cc, codes := ms } :: (slB ca (ints ms) (cc * 1) ++ X)) → Rdr w0 R p' c' fin.2.1 → K (.tuple #[]) h') :
    ∀ (n : Nat) (s : RS) (ms : List Int) (ca : Option Addr) (cc : Nat) (p : Option Addr) (c : Nat) (h : AH), n + ms.length = 9 → (ms.length = 9 → s.2 ≠ 0) → (ms = [] → s.1 = [] → s.2 ≠ 0) → codesF n ms s = fin → SlV 1 ca ms.length cc (ints ms) → Own w0 h (rdB b p c s :: pkB q { m with ca := ca, cc := cc, codes := ms } :: (slB ca (ints ms) (cc * 1) ++ X)) → Rdr w0 R p c s.1 →
      f43_1 w0 K (some ⟨b, 0, none⟩) (some ⟨q, 0, none⟩) h
  | n, s, ms, ca, cc, p, c, h, hn, h9, hz, he, v, w, r => by
    have stop : ¬ (s.1 ≠ [] ∧ s.2 = 0) → f43_8 w0 K (some ⟨b, 0, none⟩) (some ⟨q, 0, none⟩) h := fun hq => by
      have : codesF n ms s = (ms, s) := by
        cases n with
        | zero => rfl
        | succ n => unfold codesF; rw [if_neg hq]
      rw [this] at he
      rw [← he] at hk
      refine f43_8_in _ _ _ ⟨_, rfl, ca, ms.length, cc, w.tail.cell0 (j := 15) rfl, brB_of (fun z => f37_spec w fun h1 w1 => ⟨rfl, ?_⟩) fun z => hk h p c ca cc ms (fun _ => rfl) v w r⟩
      have hm : ms = [] := List.eq_nil_of_length_eq_zero (by simp at z; rw [z]; rfl)
      have ne : s.2 ≠ 0 := fun e => hz hm (Classical.byContradiction fun y => hq ⟨y, e⟩) e
      rw [failS_err ne] at w1
      exact hk h1 p c ca cc ms (fun _ => rfl) v w1 r
    refine f43_1_in _ _ _ ⟨_, rfl, _, w.cell0 rfl, brB_of (fun y => ⟨_, rfl, _, _, _, w.cell0 rfl, brB_of (fun z => ?_) fun z => ?_⟩) fun y => ?_⟩
    · have hq : s.1 ≠ [] ∧ s.2 = 0 := ⟨fun e => by rw [e] at z; simp at z, by simpa using y⟩
      have hlt : ms.length < 9 := by
        have : ms.length ≠ 9 := fun e => h9 e hq.2
        omega
      match n, hn, he with
      | 0, hn, _ => omega
      | n + 1, hn, he =>
      have e8 : (((ms.length : Nat) : Int) == 8) = decide (ms.length = 8) := natBeq ms.length 8 (z := 8) rfl
      refine f43_2_in _ _ _ ⟨_, rfl, ca, ms.length, cc, w.tail.cell0 (j := 15) rfl, ?_⟩
      rw [e8]
      refine brB_of (fun m8 => f37_spec w fun h1 w1 => ⟨rfl, ?_⟩) fun m8 => ?_
      · have m8 := of_decide_eq_true m8
        have n0 : n = 0 := by omega
        subst n0
        have ef : fin.2 = (s.1, 13) := by rw [← he]; exact codes_many m8 hq
        have e1 : failS s true 13 = (s.1, 13) := by unfold failS; rw [decide_eq_true hq.2]; rfl
        rw [e1] at w1
        rw [ef] at hk
        exact hk h1 p c ca cc ms (fun e => by cases e) v w1 r
      · have m8 := of_decide_eq_false m8
        have e1 : failS s (decide (ms.length = 8)) 13 = s := by rw [decide_eq_false m8]; rfl
        have eu : codesF (n + 1) ms s = codesF n (ms ++ [(((oneS s).1 : Nat) : Int)]) (failS (oneS s).2 (!(codedB (oneS s).1)) 3) := by
          rw [codesF, if_pos hq]
          dsimp only
          rw [e1]
        rw [eu] at he
        refine f36_spec w r (sub_cons (sub_app hs)) fun h2 p2 c2 w2 r2 => ⟨_, rfl, ?_⟩
        have lt := one_lt s
        rw [wrap64 (x := (((oneS s).1 : Nat) : Int)) (by omega) (by omega)]
        have e0 : decide ((2 : Int) < (((oneS s).1 : Nat) : Int)) = decide (2 < (oneS s).1) := by rw [decide_eq_decide]; omega
        have e128 : ((((oneS s).1 : Nat) : Int) != 128) = !(decide ((oneS s).1 = 128)) := by unfold bne; rw [natBeq _ 128 (z := 128) rfl]
        rw [e0, e128]
        generalize oneS s = O at *
        have step : ∀ (z5 : RS) (h5 : AH), codesF n (ms ++ [((O.1 : Nat) : Int)]) z5 = fin → Own w0 h5 (rdB b p2 c2 z5 :: pkB q { m with ca := ca, cc := cc, codes := ms } :: (slB ca (ints ms) (cc * 1) ++ X)) → Rdr w0 R p2 c2 z5.1 → _ := fun z5 h5 e5 w5 r5 =>
            code_app (G := fun h' => f43_1 w0 K (some ⟨b, 0, none⟩) (some ⟨q, 0, none⟩) h') (qq := ((O.1 : Nat) : Int)) hlt v w5 fun h6 a6 c6 v6 w6 =>
              f43_loop hs fin hk n z5 (ms ++ [((O.1 : Nat) : Int)]) a6 c6 p2 c2 h6 (by rw [List.length_append, List.length_singleton]; omega) (fun e => by rw [List.length_append, List.length_singleton] at e; omega) (fun e => by simp at e) e5 v6 w6 r5
        have six : ∀ t, t = !(codedB O.1) → f43_6 w0 K (some ⟨b, 0, none⟩) (some ⟨q, 0, none⟩) ((O.1 : Nat) : Int) t h2 := fun t ht => by
          rw [← ht] at he
          refine f43_6_in _ _ _ _ _ (brB_of (fun y => f37_spec w2 fun h3 w3 => ⟨rfl, _, rfl, ca, ms.length, cc, w3.tail.cell0 (j := 15) rfl, ?_⟩) fun y => ⟨_, rfl, ca, ms.length, cc, w2.tail.cell0 (j := 15) rfl, ?_⟩)
          · rw [y] at he
            exact step _ h3 he w3 (by rw [failS_fst]; exact r2)
          · rw [y] at he
            exact step _ h2 he w2 r2
        refine brB_of (fun y => six _ ?_) fun y => six _ ?_
        · have := of_decide_eq_true y
          unfold codedB
          rw [decide_eq_false (show ¬ O.1 ≤ 2 by omega)]; rfl
        · have := of_decide_eq_false y
          unfold codedB
          rw [decide_eq_true (show O.1 ≤ 2 by omega)]; rfl
    · exact stop fun e => e.1 (List.eq_nil_of_length_eq_zero (by have := of_decide_eq_false z; omega))
    · exact stop fun e => by rw [e.2] at y; simp at y
theorem nil_fail {s : RS} (q : s.1 ≠ []) : failS s (decide (s.1.length = 0)) 3 = s := by
  have : s.1.length ≠ 0 := fun e => q (List.eq_nil_of_length_eq_zero e)
  rw [decide_eq_false this]; rfl
theorem f42_spec {q k : Nat} {sub : Bool} (hsub : decide (k = 8) = sub) (w : Own w0 h (rdB b p c s :: pkB q (pk0 ((k : Nat) : Int)) :: X)) (r : Rdr w0 R p c s.1) (hs : R ⊆ X)
    (hk : ∀ h' p' c' m', ((wantsS sub (idS s).2).2.2 = 0 → m'.key = { kind := ((k : Nat) : Int), id := (((idS s).1 : Nat) : Int), wants := (wantsS sub (idS s).2).1 }) → PkV m' → Own w0 h' (rdB b p' c' (wantsS sub (idS s).2).2 :: pkB q m' :: (ownP m' ++ X)) → Rdr w0 R p' c' (wantsS sub (idS s).2).2.1 → K (.tuple #[]) h') :
    EvC Go.Proofs.Tryd.prog w0 42 #[.pointer (some ⟨b, 0, none⟩), .pointer (some ⟨q, 0, none⟩)] K h := by
  refine f42_go _ _ _ (f39_spec w r (sub_cons hs) fun h1 p1 c1 w1 r1 => ⟨_, rfl, _, rfl, _, _, w1.tail.ge, rfl, w1.tail.hd, by simp [Addr.add, pk0], ?_⟩)
  have w2 := Own.upd2 (o' := .cells ({ pk0 ((k : Nat) : Int) with id := (((idS s).1 : Nat) : Int) } : PkM).cells 16) w1
  have ek : decide (({ pk0 ((k : Nat) : Int) with id := (((idS s).1 : Nat) : Int) } : PkM).kind = 8) = sub := by
    rw [← hsub]
    show decide (((k : Nat) : Int) = 8) = _
    rw [decide_eq_decide]; omega
  generalize idS s = I at *
  obtain ⟨i, s1⟩ := I
  dsimp only at *
  by_cases q1 : s1.1 = []
  · have stop : ¬ (s1.1 ≠ [] ∧ s1.2 = 0) := fun e => e.1 q1
    have ef : wantsS sub s1 = ([], failS s1 true 3) := by
      unfold wantsS
      rw [q1]
      unfold wantsF
      rw [if_neg (fun e => e.1 (by rw [failS_fst]; exact q1))]; rfl
    rw [ef] at hk
    have twelve : f42_12 w0 K (some ⟨b, 0, none⟩) (some ⟨q, 0, none⟩) _ := f42_12_in _ _ _ ⟨_, rfl, none, 0, 0, w2.tail.cell0 (j := 14) rfl, brB_of (fun z => f37_spec w2 fun h3 w3 => ⟨rfl, hk h3 p1 c1 { pk0 ((k : Nat) : Int) with id := ((i : Nat) : Int) } (fun _ => rfl) ⟨SlV.nil, SlV.nil, SlV.nil⟩ w3 (by rw [failS_fst]; exact r1)⟩) fun z => by simp at z⟩
    refine f42_1_in _ _ _ ⟨_, rfl, _, w2.cell0 rfl, brB_of (fun y => ⟨_, rfl, _, _, _, w2.cell0 rfl, brB_of (fun z => ?_) fun z => twelve⟩) fun y => twelve⟩
    rw [q1] at z; simp at z
  · have ef : wantsS sub s1 = wantsF sub 9 [] s1 := by unfold wantsS; rw [nil_fail q1]
    rw [ef] at hk
    refine f42_loop (m := { pk0 ((k : Nat) : Int) with id := ((i : Nat) : Int) }) ek hs (wantsF sub 9 [] s1) (fun h3 p3 c3 wa wc ms em v3 w3 r3 => ?_) 9 s1 [] none 0 p1 c1 _ rfl (fun e => by cases e) (fun _ e => absurd e q1) rfl SlV.nil w2 r1
    refine hk h3 p3 c3 { pk0 ((k : Nat) : Int) with id := ((i : Nat) : Int), wa := wa, wc := wc, wants := ms } (fun e => by rw [← em e]; rfl) ⟨SlV.nil, v3, SlV.nil⟩ ?_ r3
    show Own w0 h3 (_ :: _ :: (([] ++ (slB wa (ms.flatMap WantM.cells) (wc * 2) ++ [])) ++ X))
    rw [List.append_nil, List.nil_append]
    exact w3
theorem f43_spec {q k : Nat} (w : Own w0 h (rdB b p c s :: pkB q (pk0 ((k : Nat) : Int)) :: X)) (r : Rdr w0 R p c s.1) (hs : R ⊆ X)
    (hk : ∀ h' p' c' m', ((codesS (idS s).2).2.2 = 0 → m'.key = { kind := ((k : Nat) : Int), id := (((idS s).1 : Nat) : Int), codes := (codesS (idS s).2).1 }) → PkV m' → Own w0 h' (rdB b p' c' (codesS (idS s).2).2 :: pkB q m' :: (ownP m' ++ X)) → Rdr w0 R p' c' (codesS (idS s).2).2.1 → K (.tuple #[]) h') :
    EvC Go.Proofs.Tryd.prog w0 43 #[.pointer (some ⟨b, 0, none⟩), .pointer (some ⟨q, 0, none⟩)] K h := by
  refine f43_go _ _ _ (f39_spec w r (sub_cons hs) fun h1 p1 c1 w1 r1 => ⟨_, rfl, _, rfl, _, _, w1.tail.ge, rfl, w1.tail.hd, by simp [Addr.add, pk0], ?_⟩)
  have w2 := Own.upd2 (o' := .cells ({ pk0 ((k : Nat) : Int) with id := (((idS s).1 : Nat) : Int) } : PkM).cells 16) w1
  generalize idS s = I at *
  obtain ⟨i, s1⟩ := I
  dsimp only at *
  by_cases q1 : s1.1 = []
  · have ef : codesS s1 = ([], failS s1 true 3) := by
      unfold codesS
      rw [q1]
      unfold codesF
      rw [if_neg (fun e => e.1 (by rw [failS_fst]; exact q1))]; rfl
    rw [ef] at hk
    have twelve : f43_8 w0 K (some ⟨b, 0, none⟩) (some ⟨q, 0, none⟩) _ := f43_8_in _ _ _ ⟨_, rfl, none, 0, 0, w2.tail.cell0 (j := 15) rfl, brB_of (fun z => f37_spec w2 fun h3 w3 => ⟨rfl, hk h3 p1 c1 { pk0 ((k : Nat) : Int) with id := ((i : Nat) : Int) } (fun _ => rfl) ⟨SlV.nil, SlV.nil, SlV.nil⟩ w3 (by rw [failS_fst]; exact r1)⟩) fun z => by simp at z⟩
    refine f43_1_in _ _ _ ⟨_, rfl, _, w2.cell0 rfl, brB_of (fun y => ⟨_, rfl, _, _, _, w2.cell0 rfl, brB_of (fun z => ?_) fun z => twelve⟩) fun y => twelve⟩
    rw [q1] at z; simp at z
  · have ef : codesS s1 = codesF 9 [] s1 := by unfold codesS; rw [nil_fail q1]
    rw [ef] at hk
    refine f43_loop (m := { pk0 ((k : Nat) : Int) with id := ((i : Nat) : Int) }) hs (codesF 9 [] s1) (fun h3 p3 c3 ca cc ms em v3 w3 r3 => ?_) 9 s1 [] none 0 p1 c1 _ rfl (fun e => by cases e) (fun _ e => absurd e q1) rfl SlV.nil w2 r1
    refine hk h3 p3 c3 { pk0 ((k : Nat) : Int) with id := ((i : Nat) : Int), ca := ca, cc := cc, codes := ms } (fun e => by rw [← em e]; rfl) ⟨SlV.nil, SlV.nil, v3⟩ ?_ r3
    exact w3
end
end Go.G.YtciepfobnaemmaaDoor
