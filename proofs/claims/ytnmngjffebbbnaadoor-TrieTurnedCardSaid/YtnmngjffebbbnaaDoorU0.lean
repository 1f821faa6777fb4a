/- Add. -/
import Derived.Test.YtnmngjffebbbnaaDoorTY
import Derived.Test.YtnmngjffebbbnaaDoorProg
set_option maxRecDepth 100000
namespace Go.G.YtnmngjffebbbnaaDoor
open Go.RowKit
open Value (string slice int bool agg)
def f11_J : Nat → List Nat × Nat := jOf [(2, (rn 30 26 (rn 94 63 [])), 0), (3, (rn 94 90 []), 0), (6, (rn 9 5 (rn 39 28 (rn 94 54 [99999]))), 0), (7, (rn 9 5 (rn 48 37 (rn 94 45 [99999]))), 0), (9, (rn 9 5 (rn 94 84 [99999])), 0), (8, (rn 9 5 (rn 94 83 [99999])), 0), (10, (rn 94 90 [99999]), 0), (10000, (rn 9 5 (rn 94 83 [])), 0), (11, (rn 79 75 (rn 94 14 [99999])), 0), (12, (rn 94 90 [99999]), 0), (13, (rn 94 94 [99999]), 0)]

def f11_2 (w0 : World) (K : Value → AH → Prop) (a : Option Addr) (b c : ByteArray) (d : Int) (e : Bool) (h : AH) : Prop :=
  ∀ j : Nat → Value, LPk Proofs.Tryd.prog w0 (EvC Proofs.Tryd.prog w0) f11_J 11 K 2 (.v (.pointer a) :: (.v (.string b) :: (.v (.string c) :: (.v (.int .i64 d) :: (jv j 30 26 (.v (.bool e) :: (jv j 94 63 []))))))) [] h

def f11_3 (w0 : World) (K : Value → AH → Prop) (a : Option Addr) (b c : ByteArray) (d : Int) (h : AH) : Prop :=
  ∀ j : Nat → Value, LPk Proofs.Tryd.prog w0 (EvC Proofs.Tryd.prog w0) f11_J 11 K 3 (.v (.pointer a) :: (.v (.string b) :: (.v (.string c) :: (.v (.int .i64 d) :: (jv j 94 90 []))))) [] h

def f11_6 (w0 : World) (K : Value → AH → Prop) (a : Option Addr) (b c : ByteArray) (d : Int) (e g : Option Addr) (i k : Nat) (m : Bool) (h : AH) : Prop :=
  ∀ j : Nat → Value, LPk Proofs.Tryd.prog w0 (EvC Proofs.Tryd.prog w0) f11_J 11 K 6 (.v (.pointer a) :: (.v (.string b) :: (.v (.string c) :: (.v (.int .i64 d) :: (jv j 9 5 (.v (.pointer e) :: (.v (.slice g i k) :: (jv j 39 28 (.v (.bool m) :: (jv j 94 54 [])))))))))) [] h

def f11_7 (w0 : World) (K : Value → AH → Prop) (a : Option Addr) (b c : ByteArray) (d : Int) (e g : Option Addr) (i k : Nat) (m : Bool) (h : AH) : Prop :=
  ∀ j : Nat → Value, LPk Proofs.Tryd.prog w0 (EvC Proofs.Tryd.prog w0) f11_J 11 K 7 (.v (.pointer a) :: (.v (.string b) :: (.v (.string c) :: (.v (.int .i64 d) :: (jv j 9 5 (.v (.pointer e) :: (.v (.slice g i k) :: (jv j 48 37 (.v (.bool m) :: (jv j 94 45 [])))))))))) [] h

def f11_9 (w0 : World) (K : Value → AH → Prop) (a : Option Addr) (b c : ByteArray) (d : Int) (e : Option Addr) (h : AH) : Prop :=
  ∀ j : Nat → Value, LPk Proofs.Tryd.prog w0 (EvC Proofs.Tryd.prog w0) f11_J 11 K 9 (.v (.pointer a) :: (.v (.string b) :: (.v (.string c) :: (.v (.int .i64 d) :: (jv j 9 5 (.v (.pointer e) :: (jv j 94 84 []))))))) [] h

def f11_8 (w0 : World) (K : Value → AH → Prop) (a : Option Addr) (b c : ByteArray) (d : Int) (e g : Option Addr) (i k : Nat) (h : AH) : Prop :=
  ∀ j : Nat → Value, LPk Proofs.Tryd.prog w0 (EvC Proofs.Tryd.prog w0) f11_J 11 K 8 (.v (.pointer a) :: (.v (.string b) :: (.v (.string c) :: (.v (.int .i64 d) :: (jv j 9 5 (.v (.pointer e) :: (.v (.slice g i k) :: (jv j 94 83 [])))))))) [] h

def f11_10 (w0 : World) (K : Value → AH → Prop) (a : Option Addr) (b c : ByteArray) (d : Int) (h : AH) : Prop :=
  ∀ j : Nat → Value, LPk Proofs.Tryd.prog w0 (EvC Proofs.Tryd.prog w0) f11_J 11 K 10 (.v (.pointer a) :: (.v (.string b) :: (.v (.string c) :: (.v (.int .i64 d) :: (jv j 94 90 []))))) [] h

def f11_10000 (w0 : World) (K : Value → AH → Prop) (a : Option Addr) (b c : ByteArray) (d : Int) (e g : Option Addr) (i k : Nat) (h : AH) : Prop :=
  ∀ j : Nat → Value, LPk Proofs.Tryd.prog w0 (EvC Proofs.Tryd.prog w0) f11_J 11 K 10000 (.v (.pointer a) :: (.v (.string b) :: (.v (.string c) :: (.v (.int .i64 d) :: (jv j 9 5 (.v (.pointer e) :: (.v (.slice g i k) :: (jv j 94 83 [])))))))) [] h

def f11_11 (w0 : World) (K : Value → AH → Prop) (a : Option Addr) (b c : ByteArray) (d : Int) (e : Bool) (h : AH) : Prop :=
  ∀ j : Nat → Value, LPk Proofs.Tryd.prog w0 (EvC Proofs.Tryd.prog w0) f11_J 11 K 11 (.v (.pointer a) :: (.v (.string b) :: (.v (.string c) :: (.v (.int .i64 d) :: (jv j 79 75 (.v (.bool e) :: (jv j 94 14 []))))))) [] h

def f11_12 (w0 : World) (K : Value → AH → Prop) (a : Option Addr) (b c : ByteArray) (d : Int) (h : AH) : Prop :=
  ∀ j : Nat → Value, LPk Proofs.Tryd.prog w0 (EvC Proofs.Tryd.prog w0) f11_J 11 K 12 (.v (.pointer a) :: (.v (.string b) :: (.v (.string c) :: (.v (.int .i64 d) :: (jv j 94 90 []))))) [] h

def f11_13 (w0 : World) (K : Value → AH → Prop)  (h : AH) : Prop :=
  ∀ j : Nat → Value, LPk Proofs.Tryd.prog w0 (EvC Proofs.Tryd.prog w0) f11_J 11 K 13 (jv j 94 94 []) [] h

theorem f11_2_in {w0 : World} {K : Value → AH → Prop} (a : Option Addr) (b c : ByteArray) (d : Int) (e : Bool) (h : AH)
  (hv : (brB e (K (bool false) h) (f11_3 w0 K a b c d h))) :
  f11_2 w0 K a b c d e h := fun j => LP_intro (P := Proofs.Tryd.prog) (Eq.mp (by kernel_rfl) hv)

theorem f11_3_in {w0 : World} {K : Value → AH → Prop} (a : Option Addr) (b d : ByteArray) (e : Int) (h : AH)
  (hv : (∃ g : Addr, ((a = (some g)) ∧ (∃ i : Option Addr, (((cellA w0 h (Addr.add g 0)) = (some (Value.pointer i))) ∧ (EvC Proofs.Tryd.prog w0 27 #[(string b)] (fun n o => (∃ k : Option Addr, (∃ c : Nat, (∃ m : Nat, ((n = (slice k c m)) ∧ (f11_6 w0 K a b d e i k c m (decide (((0 : Int) < ((c : Nat) : Int)))) o)))))) h)))))) :
  f11_3 w0 K a b d e h := fun j => LP_intro (P := Proofs.Tryd.prog) (Eq.mp (by kernel_rfl) hv)

theorem f11_6_in {w0 : World} {K : Value → AH → Prop} (b : Option Addr) (c d : ByteArray) (e : Int) (a g : Option Addr) (i k : Nat) (q : Bool) (h : AH)
  (hv : (brB q (∃ m : Addr, ((a = (some m)) ∧ (∃ n : Addr, ((g = (some n)) ∧ (((0 : Int) ≤ (0 : Int)) ∧ (((0 : Int) < ((i : Nat) : Int)) ∧ ((∃ r : Option Nat, (((cellA w0 h (Addr.add m 1)) = (some (Value.map r))) ∧ (∃ o : ByteArray, (((cellA w0 h (Addr.add n 0)) = (some (string o))) ∧ (((plainKey Proofs.Tryd.prog 59 (string o)) = true) ∧ (mapAt Proofs.Tryd.prog w0 h r 59 (fun v => (∃ s : Option Addr, (((Value.pointer s) = (Option.getD (getM (string o) v) (Value.pointer none))) ∧ (f11_7 w0 K b c d e a g i k (Option.isNone s) h)))))))))) ∧ (∃ p : ByteArray, (((cellA w0 h (Addr.add n 0)) = (some (string p))) ∧ (∃ t : Option Nat, (((cellA w0 h (Addr.add m 1)) = (some (Value.map t))) ∧ (((plainKey Proofs.Tryd.prog 59 (string p)) = true) ∧ (mapAt Proofs.Tryd.prog w0 h t 59 (fun x => (∃ u : Option Addr, (((Value.pointer u) = (Option.getD (getM (string p) x) (Value.pointer none))) ∧ (f11_7 w0 K b c d e a g i k (Option.isNone u) h))))))))))))))))) (f11_9 w0 K b c d e a h))) :
  f11_6 w0 K b c d e a g i k q h := fun j => LP_intro (P := Proofs.Tryd.prog) (Eq.mp (by kernel_rfl) hv)

theorem f11_7_in {w0 : World} {K : Value → AH → Prop} (d : Option Addr) (e g : ByteArray) (i : Int) (a b : Option Addr) (c k : Nat) (F : Bool) (h : AH)
  (hv : (brB F (∃ n : Addr, ((a = (some n)) ∧ (∃ o : Addr, ((b = (some o)) ∧ (((0 : Int) ≤ (0 : Int)) ∧ (((0 : Int) < ((c : Nat) : Int)) ∧ ((∃ q : Option Nat, (((cellA w0 h (Addr.add n 1)) = (some (Value.map q))) ∧ ((∃ r : ByteArray, (((cellA w0 h (Addr.add o 0)) = (some (string r))) ∧ (EvC Proofs.Tryd.prog w0 25 #[] (fun a0 L => (∃ M : Option Addr, ((a0 = (Value.pointer M)) ∧ (((plainKey Proofs.Tryd.prog 59 (string r)) = true) ∧ (∃ s : Nat, ((q = (some s)) ∧ (mapAt Proofs.Tryd.prog w0 L (some s) 59 (fun a1 => (f11_8 w0 K d e g i a b c k (AH.putm L s (putM (string r) (Value.pointer M) a1))))))))))) h))) ∧ (EvC Proofs.Tryd.prog w0 25 #[] (fun a2 t => (∃ N : Option Addr, ((a2 = (Value.pointer N)) ∧ (∃ u : ByteArray, (((cellA w0 t (Addr.add o 0)) = (some (string u))) ∧ (((plainKey Proofs.Tryd.prog 59 (string u)) = true) ∧ (∃ v : Nat, ((q = (some v)) ∧ (mapAt Proofs.Tryd.prog w0 t (some v) 59 (fun a3 => (f11_8 w0 K d e g i a b c k (AH.putm t v (putM (string u) (Value.pointer N) a3))))))))))))) h)))) ∧ ((∃ p : ByteArray, (((cellA w0 h (Addr.add o 0)) = (some (string p))) ∧ ((∃ Q : Option Nat, (((cellA w0 h (Addr.add n 1)) = (some (Value.map Q))) ∧ (EvC Proofs.Tryd.prog w0 25 #[] (fun a4 R => (∃ T : Option Addr, ((a4 = (Value.pointer T)) ∧ (((plainKey Proofs.Tryd.prog 59 (string p)) = true) ∧ (∃ x : Nat, ((Q = (some x)) ∧ (mapAt Proofs.Tryd.prog w0 R (some x) 59 (fun a5 => (f11_8 w0 K d e g i a b c k (AH.putm R x (putM (string p) (Value.pointer T) a5))))))))))) h))) ∧ (EvC Proofs.Tryd.prog w0 25 #[] (fun a6 y => (∃ U : Option Addr, ((a6 = (Value.pointer U)) ∧ (∃ V : Option Nat, (((cellA w0 y (Addr.add n 1)) = (some (Value.map V))) ∧ (((plainKey Proofs.Tryd.prog 59 (string p)) = true) ∧ (∃ z : Nat, ((V = (some z)) ∧ (mapAt Proofs.Tryd.prog w0 y (some z) 59 (fun a7 => (f11_8 w0 K d e g i a b c k (AH.putm y z (putM (string p) (Value.pointer U) a7))))))))))))) h)))) ∧ (EvC Proofs.Tryd.prog w0 25 #[] (fun a8 m => (∃ A : Option Addr, ((a8 = (Value.pointer A)) ∧ ((∃ Y : Option Nat, (((cellA w0 m (Addr.add n 1)) = (some (Value.map Y))) ∧ (∃ B : ByteArray, (((cellA w0 m (Addr.add o 0)) = (some (string B))) ∧ (((plainKey Proofs.Tryd.prog 59 (string B)) = true) ∧ (∃ C : Nat, ((Y = (some C)) ∧ (mapAt Proofs.Tryd.prog w0 m (some C) 59 (fun a9 => (f11_8 w0 K d e g i a b c k (AH.putm m C (putM (string B) (Value.pointer A) a9)))))))))))) ∧ (∃ D : ByteArray, (((cellA w0 m (Addr.add o 0)) = (some (string D))) ∧ (∃ Z : Option Nat, (((cellA w0 m (Addr.add n 1)) = (some (Value.map Z))) ∧ (((plainKey Proofs.Tryd.prog 59 (string D)) = true) ∧ (∃ E : Nat, ((Z = (some E)) ∧ (mapAt Proofs.Tryd.prog w0 m (some E) 59 (fun b0 => (f11_8 w0 K d e g i a b c k (AH.putm m E (putM (string D) (Value.pointer A) b0)))))))))))))))) h))))))))) (f11_8 w0 K d e g i a b c k h))) :
  f11_7 w0 K d e g i a b c k F h := fun j => LP_intro (P := Proofs.Tryd.prog) (Eq.mp (by kernel_rfl) hv)

theorem f11_9_in {w0 : World} {K : Value → AH → Prop} (d : Option Addr) (e a : ByteArray) (b : Int) (g : Option Addr) (h : AH)
  (hv : (∃ i : Addr, ((g = (some i)) ∧ (∃ k : Option Nat, (((cellA w0 h (Addr.add i 0)) = (some (Value.map k))) ∧ (((plainKey Proofs.Tryd.prog 58 (string a)) = true) ∧ (∃ c : Nat, ((k = (some c)) ∧ (mapAt Proofs.Tryd.prog w0 h (some c) 58 (fun m => (f11_10 w0 K d e a b (AH.putm h c (putM (string a) (int .i64 b) m))))))))))))) :
  f11_9 w0 K d e a b g h := fun j => LP_intro (P := Proofs.Tryd.prog) (Eq.mp (by kernel_rfl) hv)

theorem f11_8_in {w0 : World} {K : Value → AH → Prop} (d : Option Addr) (e g : ByteArray) (i : Int) (p c : Option Addr) (a b : Nat) (h : AH)
  (hv : (∃ k : Addr, ((p = (some k)) ∧ (∃ m : Addr, ((c = (some m)) ∧ (((0 : Int) ≤ (0 : Int)) ∧ (((0 : Int) < ((a : Nat) : Int)) ∧ (((0 : Int) ≤ (1 : Int)) ∧ (((1 : Int) ≤ ((a : Nat) : Int)) ∧ ((∃ q : Option Nat, (((cellA w0 h (Addr.add k 1)) = (some (Value.map q))) ∧ (∃ n : ByteArray, (((cellA w0 h (Addr.add m 0)) = (some (string n))) ∧ (((plainKey Proofs.Tryd.prog 59 (string n)) = true) ∧ (mapAt Proofs.Tryd.prog w0 h q 59 (fun u => (∃ r : Option Addr, (((Value.pointer r) = (Option.getD (getM (string n) u) (Value.pointer none))) ∧ (f11_10000 w0 K d e g i r (cutA 1 c b 1) (a - 1) (b - 1) h)))))))))) ∧ (∃ o : ByteArray, (((cellA w0 h (Addr.add m 0)) = (some (string o))) ∧ (∃ s : Option Nat, (((cellA w0 h (Addr.add k 1)) = (some (Value.map s))) ∧ (((plainKey Proofs.Tryd.prog 59 (string o)) = true) ∧ (mapAt Proofs.Tryd.prog w0 h s 59 (fun v => (∃ t : Option Addr, (((Value.pointer t) = (Option.getD (getM (string o) v) (Value.pointer none))) ∧ (f11_10000 w0 K d e g i t (cutA 1 c b 1) (a - 1) (b - 1) h)))))))))))))))))))) :
  f11_8 w0 K d e g i p c a b h := fun j => LP_intro (P := Proofs.Tryd.prog) (Eq.mp (by kernel_rfl) hv)

theorem f11_10_in {w0 : World} {K : Value → AH → Prop} (b : Option Addr) (c a : ByteArray) (d : Int) (h : AH)
  (hv : (∃ e : Addr, ((b = (some e)) ∧ (∃ g : Option Nat, (((cellA w0 h (Addr.add e 1)) = (some (Value.map g))) ∧ (((plainKey Proofs.Tryd.prog 53 (string a)) = true) ∧ (mapAt Proofs.Tryd.prog w0 h g 53 (fun k => (∃ i : Option Nat, (((Value.map i) = (Option.getD (getM (string a) k) (Value.map none))) ∧ (f11_11 w0 K b c a d (Option.isNone i) h))))))))))) :
  f11_10 w0 K b c a d h := fun j => LP_intro (P := Proofs.Tryd.prog) (Eq.mp (by kernel_rfl) hv)

theorem f11_10000_in {w0 : World} {K : Value → AH → Prop} (b : Option Addr) (c d : ByteArray) (e : Int) (g i : Option Addr) (a k : Nat) (h : AH)
  (hv : (f11_6 w0 K b c d e g i a k (decide (((0 : Int) < ((a : Nat) : Int)))) h)) :
  f11_10000 w0 K b c d e g i a k h := fun j => LP_intro (P := Proofs.Tryd.prog) (Eq.mp (by kernel_rfl) hv)

theorem f11_11_in {w0 : World} {K : Value → AH → Prop} (b : Option Addr) (c a : ByteArray) (d : Int) (g : Bool) (h : AH)
  (hv : (brB g (∃ i : Addr, ((b = (some i)) ∧ (∃ k : Option Nat, (((cellA w0 h (Addr.add i 1)) = (some (Value.map k))) ∧ (newB w0 h (AB.map []) (fun n m => (((plainKey Proofs.Tryd.prog 53 (string a)) = true) ∧ (∃ e : Nat, ((k = (some e)) ∧ (mapAt Proofs.Tryd.prog w0 m (some e) 53 (fun o => (f11_12 w0 K b c a d (AH.putm m e (putM (string a) (Value.map (some n)) o)))))))))))))) (f11_12 w0 K b c a d h))) :
  f11_11 w0 K b c a d g h := fun j => LP_intro (P := Proofs.Tryd.prog) (Eq.mp (by kernel_rfl) hv)

theorem f11_12_in {w0 : World} {K : Value → AH → Prop} (d : Option Addr) (a b : ByteArray) (e : Int) (h : AH)
  (hv : (∃ g : Addr, ((d = (some g)) ∧ (∃ i : Option Nat, (((cellA w0 h (Addr.add g 1)) = (some (Value.map i))) ∧ (((plainKey Proofs.Tryd.prog 53 (string b)) = true) ∧ (mapAt Proofs.Tryd.prog w0 h i 53 (fun m => (∃ k : Option Nat, (((Value.map k) = (Option.getD (getM (string b) m) (Value.map none))) ∧ (((plainKey Proofs.Tryd.prog 58 (string a)) = true) ∧ (∃ c : Nat, ((k = (some c)) ∧ (mapAt Proofs.Tryd.prog w0 h (some c) 58 (fun n => (f11_13 w0 K  (AH.putm h c (putM (string a) (int .i64 e) n)))))))))))))))))) :
  f11_12 w0 K d a b e h := fun j => LP_intro (P := Proofs.Tryd.prog) (Eq.mp (by kernel_rfl) hv)

theorem f11_13_in {w0 : World} {K : Value → AH → Prop}  (h : AH)
  (hv : (K (bool true) h)) :
  f11_13 w0 K  h := fun j => LP_intro (P := Proofs.Tryd.prog) (Eq.mp (by kernel_rfl) hv)

theorem f11_go {w0 : World} {K : Value → AH → Prop} (b : Option Addr) (c d : ByteArray) (a : Int) (h : AH)
  (hv : (brB (Option.isNone b) (f11_2 w0 K b c d a true h) (EvC Proofs.Tryd.prog w0 26 #[(string c)] (fun m g => (∃ i : Bool, ((m = (bool i)) ∧ (brB (!i) (f11_2 w0 K b c d a true g) (EvC Proofs.Tryd.prog w0 17 #[(string d)] (fun n e => (∃ k : Bool, ((n = (bool k)) ∧ (brB (!k) (f11_2 w0 K b c d a true e) (brB (decide ((a < (0 : Int)))) (f11_2 w0 K b c d a true e) (f11_2 w0 K b c d a (decide (((2 : Int) < a))) e)))))) g))))) h))) :
  EvC Proofs.Tryd.prog w0 11 ([(.pointer b), (.string c), (.string d), (.int .i64 a)]).toArray K h := EvC_intro (P := Proofs.Tryd.prog) f11_J (Eq.mp (by kernel_rfl) hv)
/-! ### Add -/
def okP (c f : ByteArray) (q : Int) : Bool := filterB f && clientB c && decide (0 ≤ q) && decide (q ≤ 2)
def addP (c f : ByteArray) (q : Int) (S : List Sb) : List Sb := if okP c f q = true then addS c f q false S else S
section
variable {w0 : World} {K : Value → AH → Prop} {h : AH} {R X Y Pf : List (Nat × AB)} {N : List Nd} {rb : Nat} {x0 : Option Addr} {f c : ByteArray} {q : Int} {D : TD}
theorem f11_8s (t : Tre N rb) {n m : Nd} {x : ByteArray} {l : List ByteArray} {a : Option Addr} {cp : Nat} (hn : n ∈ N) (hm : m ∈ N) (e : m.p = n.p ++ [x]) (r : RdS w0 R a cp (x :: l)) (hs : R ⊆ X) (w : Own w0 h (nds N ++ X))
    (hk : f11_6 w0 K x0 f c q (some ⟨m.b, 0, none⟩) (cutA 1 a cp 1) l.length (cp - 1) (decide ((0 : Int) < ((l.length : Nat) : Int))) h) : f11_8 w0 K x0 f c q (some ⟨n.b, 0, none⟩) a (x :: l).length cp h := by
  obtain ⟨ad, rfl, hx⟩ := str0 r w (fun z hz => List.mem_append_right _ (hs hz))
  have p0 : (0 : Int) < (((x :: l).length : Nat) : Int) := by rw [List.length_cons]; omega
  have p1 : (1 : Int) ≤ (((x :: l).length : Nat) : Int) := by rw [List.length_cons]; omega
  have g : getA x n.down = some m.b := (getA_mem (t.dk n hn)).2 ((t.dn n hn x m.b).2 ⟨m, hm, e, rfl⟩)
  have gv : Value.pointer (some ⟨m.b, 0, none⟩) = Option.getD (getM (.string x) (mV pV n.down)) (.pointer none) := by rw [pV_get, g]; rfl
  exact f11_8_in _ _ _ _ _ _ _ _ _ ⟨_, rfl, _, rfl, by decide, p0, by decide, p1, ⟨_, nd_down w hn, _, hx, pk59 _, map59 w (nd_in hn).2.2 ⟨_, gv, f11_10000_in _ _ _ _ _ _ _ _ _ hk⟩⟩, ⟨_, hx, _, nd_down w hn, pk59 _, map59 w (nd_in hn).2.2 ⟨_, gv, f11_10000_in _ _ _ _ _ _ _ _ _ hk⟩⟩⟩
theorem f11_6s : ∀ (l : List ByteArray) {N : List Nd} {n : Nd} {a : Option Addr} {cp : Nat} {h : AH}, Tre N rb → n ∈ N → RdS w0 R a cp l → R ⊆ X → Own w0 h (nds N ++ X) →
    (∀ h' N' n', Tre N' rb → n' ∈ N' → n'.p = n.p ++ l → (∀ P c q, Has N' P c q ↔ Has N P c q) → Own w0 h' (nds N' ++ X) → f11_9 w0 K x0 f c q (some ⟨n'.b, 0, none⟩) h') →
    f11_6 w0 K x0 f c q (some ⟨n.b, 0, none⟩) a l.length cp (decide ((0 : Int) < ((l.length : Nat) : Int))) h := fun l => by
  induction l with
  | nil =>
    intro N n a cp h t hn r hs w hk
    exact f11_6_in _ _ _ _ _ _ _ _ _ _ (brB_of (fun z => absurd z (by decide)) fun _ => hk h N n t hn (List.append_nil _).symm (fun _ _ _ => Iff.rfl) w)
  | cons x l ih =>
    intro N n a cp h t hn r hs w hk
    have inB : ∀ N', R ⊆ nds N' ++ X := fun N' z hz => List.mem_append_right _ (hs hz)
    obtain ⟨ad, rfl, hx⟩ := str0 r w (inB N)
    have p0 : (0 : Int) < (((x :: l).length : Nat) : Int) := by rw [List.length_cons]; omega
    have next : ∀ h' N' n' m, Tre N' rb → n' ∈ N' → n'.p = n.p → n'.b = n.b → m ∈ N' → m.p = n.p ++ [x] → (∀ P c q, Has N' P c q ↔ Has N P c q) → Own w0 h' (nds N' ++ X) → f11_8 w0 K x0 f c q (some ⟨n.b, 0, none⟩) (some ad) (x :: l).length cp h' := fun h' N' n' m t' hn' en eb hm em hh w' => by
      rw [← eb]
      refine f11_8s t' hn' hm (by rw [em, en]) r hs w' (ih t' hm r.tail hs w' fun h2 N2 n2 t2 hn2 e2 hh2 w2 => hk h2 N2 n2 t2 hn2 (by rw [e2, em, List.append_assoc]; rfl) (fun P c q => (hh2 P c q).trans (hh P c q)) w2)
    have seven : f11_7 w0 K x0 f c q (some ⟨n.b, 0, none⟩) (some ad) (x :: l).length cp (Option.isNone ((getA x n.down).map fun b => (⟨b, 0, none⟩ : Addr))) h := by
      rcases child t hn x with ⟨m, hm, e, g⟩ | ⟨g, no⟩
      · rw [g]
        exact f11_7_in _ _ _ _ _ _ _ _ _ _ (brB_of (fun z => by cases z) fun _ => next h N n m t hn rfl rfl hm e (fun _ _ _ => Iff.rfl) w)
      · rw [g]
        have grown : ∀ h1 b hm dm, Own w0 h1 (nds (⟨n.p ++ [x], b, hm, dm, [], []⟩ :: N) ++ X) → f11_8 w0 K x0 f c q (some ⟨n.b, 0, none⟩) (some ad) (x :: l).length cp (h1.putm n.dm (putM (.string x) (pV b) (mV pV n.down))) := fun h1 b hm dm w1 => by
          obtain ⟨M, hp⟩ := front hn
          have t' := (t.perm hp).grow g b hm dm
          have hp2 : (⟨n.p ++ [x], b, hm, dm, [], []⟩ :: N).Perm (n :: ⟨n.p ++ [x], b, hm, dm, [], []⟩ :: M) := (hp.cons _).trans (List.Perm.swap ..)
          have w2 := own_down (H := putA x b n.down) w1 hp2
          rw [put_mV]
          refine next _ _ { n with down := putA x b n.down } ⟨n.p ++ [x], b, hm, dm, [], []⟩ t' (List.mem_cons_of_mem _ (List.mem_cons_self ..)) rfl rfl (List.mem_cons_self ..) rfl (fun P c q => by rw [Has.grow, ← Has.perm hp]) ?_
          exact w2.perm ((nds_perm (List.Perm.swap ..)).append_right _)
        have inN : ∀ z : Nd, n ∈ z :: N := fun z => List.mem_cons_of_mem _ hn
        have fr : ∀ {Q : Value → AH → Prop}, (∀ h' b hm dm, Own w0 h' (nds (⟨n.p ++ [x], b, hm, dm, [], []⟩ :: N) ++ X) → Q (pV b) h') → EvC Go.Proofs.Tryd.prog w0 25 #[] Q h := fun {Q} hq => f25_spec w fun h' b hm dm w' => hq h' b hm dm (w' _)
        have hx1 : ∀ {h1 : AH} {N' : List Nd}, Own w0 h1 (nds N' ++ X) → cellA w0 h1 (Addr.add ad 0) = some (.string x) := fun {h1 N'} w1 => by
          obtain ⟨ad2, e, hx2⟩ := str0 r w1 (inB N')
          injection e with e
          rw [e]; exact hx2
        have fin : ∀ h1 b hm dm, Own w0 h1 (nds (⟨n.p ++ [x], b, hm, dm, [], []⟩ :: N) ++ X) → mapAt Go.Proofs.Tryd.prog w0 h1 (some n.dm) 59 fun es => f11_8 w0 K x0 f c q (some ⟨n.b, 0, none⟩) (some ad) (x :: l).length cp (h1.putm n.dm (putM (.string x) (pV b) es)) := fun h1 b hm dm w1 => map59 w1 (nd_in (inN _)).2.2 (grown h1 b hm dm w1)
        refine f11_7_in _ _ _ _ _ _ _ _ _ _ (brB_of (fun _ => ⟨_, rfl, _, rfl, by decide, p0, ?_⟩) fun z => by cases z)
        refine ⟨⟨_, nd_down w hn, ⟨_, hx, fr fun h1 b hm dm w1 => ⟨_, rfl, pk59 _, _, rfl, map59 w1 (nd_in (inN _)).2.2 (grown h1 b hm dm w1)⟩⟩, fr fun h1 b hm dm w1 => ⟨_, rfl, ?_⟩⟩, ⟨_, hx, ⟨_, nd_down w hn, fr fun h1 b hm dm w1 => ⟨_, rfl, pk59 _, _, rfl, map59 w1 (nd_in (inN _)).2.2 (grown h1 b hm dm w1)⟩⟩, fr fun h1 b hm dm w1 => ⟨_, rfl, ?_⟩⟩, fr fun h1 b hm dm w1 => ⟨_, rfl, ?_, ?_⟩⟩
        · exact ⟨_, hx1 w1, pk59 _, _, rfl, fin h1 b hm dm w1⟩
        · exact ⟨_, nd_down w1 (inN _), pk59 _, _, rfl, fin h1 b hm dm w1⟩
        · exact ⟨_, nd_down w1 (inN _), _, hx1 w1, pk59 _, _, rfl, fin h1 b hm dm w1⟩
        · exact ⟨_, hx1 w1, _, nd_down w1 (inN _), pk59 _, _, rfl, fin h1 b hm dm w1⟩
    have gv : ∀ {Q : Option Addr → Prop}, Q ((getA x n.down).map fun b => (⟨b, 0, none⟩ : Addr)) → ∃ p, Value.pointer p = Option.getD (getM (.string x) (mV pV n.down)) (.pointer none) ∧ Q p := fun {Q} hQ => ⟨_, pV_get.symm, hQ⟩
    refine f11_6_in _ _ _ _ _ _ _ _ _ _ (brB_of (fun _ => ?_) fun z => absurd (of_decide_eq_false z) (by omega))
    exact ⟨_, rfl, _, rfl, by decide, p0, ⟨_, nd_down w hn, _, hx, pk59 _, map59 w (nd_in hn).2.2 (gv seven)⟩, ⟨_, hx, _, nd_down w hn, pk59 _, map59 w (nd_in hn).2.2 (gv seven)⟩⟩
theorem own_ac {A1 A2 : List Ac} {a : Ac} {L : List (ByteArray × Int)} (hA : D.A = A1 ++ a :: A2) (w : Own w0 h (Pf ++ D.rest Y)) : Own w0 (h.putm a.mb (mV iV L)) (Pf ++ ({ D with A := A1 ++ { a with fs := L } :: A2 } : TD).rest Y) := by
  have e1 : Pf ++ D.rest Y = (Pf ++ ((D.tb, .cells [pV D.rb, gV D.am] 2) :: (D.am, .map (mV gV (allV D.A))) :: acs A1)) ++ (a.mb, .map (mV iV a.fs)) :: (acs A2 ++ Y) := by
    simp [TD.rest, hA, acs]
  have e2 : Pf ++ ({ D with A := A1 ++ { a with fs := L } :: A2 } : TD).rest Y = (Pf ++ ((D.tb, .cells [pV D.rb, gV D.am] 2) :: (D.am, .map (mV gV (allV D.A))) :: acs A1)) ++ (a.mb, .map (mV iV L)) :: (acs A2 ++ Y) := by
    simp [TD.rest, hA, acs, allV]
  rw [e1] at w
  rw [e2]
  exact Own.updm w
theorem rest_in (D : TD) : (D.tb, AB.cells [pV D.rb, gV D.am] 2) ∈ Pf ++ D.rest Y ∧ (D.am, AB.map (mV gV (allV D.A))) ∈ Pf ++ D.rest Y ∧ ∀ a ∈ D.A, (a.mb, AB.map (mV iV a.fs)) ∈ Pf ++ D.rest Y := by
  refine ⟨by simp [TD.rest], by simp [TD.rest], fun a ha => ?_⟩
  refine List.mem_append_right _ (List.mem_cons_of_mem _ (List.mem_cons_of_mem _ (List.mem_append_left _ ?_)))
  exact List.mem_map.2 ⟨a, ha, rfl⟩
theorem tb_root (w : Own w0 h (Pf ++ D.rest Y)) : cellA w0 h (Addr.add ⟨D.tb, 0, none⟩ 0) = some (pV D.rb) := w.cell (rest_in D).1 rfl
theorem tb_all (w : Own w0 h (Pf ++ D.rest Y)) : cellA w0 h (Addr.add ⟨D.tb, 0, none⟩ 1) = some (gV D.am) := w.cell (rest_in D).1 rfl
theorem findA (A : List Ac) (c : ByteArray) : (∃ A1 a A2, A = A1 ++ a :: A2 ∧ a.c = c ∧ getA c (allV A) = some a.mb) ∨ (getA c (allV A) = none ∧ ∀ a ∈ A, a.c ≠ c) := by
  cases h : getA c (allV A) with
  | none =>
    refine .inr ⟨rfl, fun a ha e => ?_⟩
    exact getA_none h a.mb (List.mem_map.2 ⟨a, ha, by rw [← e]⟩)
  | some b =>
    obtain ⟨a, ha, e⟩ := List.mem_map.1 (getA_some h)
    injection e with e1 e2
    obtain ⟨A1, A2, eA⟩ := List.append_of_mem ha
    exact .inl ⟨A1, a, A2, eA, e1, by rw [e2]⟩
/-- What the map of all says once a filter has been added. -/
structure Added (A A' : List Ac) (c f : ByteArray) (q : Int) : Prop where
  ak : (A'.map (·.c)).Nodup
  fk : ∀ a ∈ A', (keys a.fs).Nodup
  al : ∀ c' f' q', (∃ a ∈ A', a.c = c' ∧ (f', q') ∈ a.fs) ↔ (c' = c ∧ f' = f ∧ q' = q) ∨ (¬ (c' = c ∧ f' = f) ∧ ∃ a ∈ A, a.c = c' ∧ (f', q') ∈ a.fs)
theorem f11_12s (ak : (D.A.map (·.c)).Nodup) (fk : ∀ a ∈ D.A, (keys a.fs).Nodup) {A1 A2 : List Ac} {a : Ac} (hA : D.A = A1 ++ a :: A2) (ea : a.c = c) (g : getA c (allV D.A) = some a.mb) (w : Own w0 h (Pf ++ D.rest Y))
    (hk : ∀ h' A', Added D.A A' c f q → Own w0 h' (Pf ++ ({ D with A := A' } : TD).rest Y) → K (.bool true) h') : f11_12 w0 K (some ⟨D.tb, 0, none⟩) f c q h := by
  have ha : a ∈ D.A := by rw [hA]; exact List.mem_append_right _ (List.mem_cons_self ..)
  refine f11_12_in _ _ _ _ _ ⟨_, rfl, _, tb_all w, pk53 _, map53 w (rest_in D).2.1 ⟨_, gV_get.symm, pk58 _, _, g, map58 w ((rest_in D).2.2 a ha) ?_⟩⟩
  have ep : putM (.string f) (.int .i64 q) (mV iV a.fs) = mV iV (putA f q a.fs) := put_mV a.fs
  rw [ep]
  refine f11_13_in _ (hk _ _ ⟨?_, fun b hb => ?_, fun c' f' q' => ?_⟩ (own_ac hA w))
  · rw [hA] at ak; simpa using ak
  · rcases List.mem_append.1 hb with hb | hb
    · exact fk b (by rw [hA]; exact List.mem_append_left _ hb)
    · rcases List.mem_cons.1 hb with rfl | hb
      · exact putA_nodup (fk a ha)
      · exact fk b (by rw [hA]; exact List.mem_append_right _ (List.mem_cons_of_mem _ hb))
  · rw [al_set (by rw [← hA]; exact ak), ← hA, putA_mem (fk a ha), ea]
    have mine : ∀ f' q', (f', q') ∈ a.fs ↔ ∃ b ∈ D.A, b.c = c ∧ (f', q') ∈ b.fs := fun f' q' => by
      constructor
      · exact fun z => ⟨a, ha, ea, z⟩
      · rintro ⟨b, hb, eb, z⟩
        have := ac_one ak hb ha (eb.trans ea.symm)
        rw [← this]; exact z
    rw [mine]
    constructor
    · rintro (⟨e, ⟨e1, e2⟩ | ⟨e1, z⟩⟩ | ⟨e, z⟩)
      · exact .inl ⟨e, e1, e2⟩
      · exact .inr ⟨fun y => e1 y.2, by rw [e]; exact z⟩
      · exact .inr ⟨fun y => e y.1, z⟩
    · rintro (⟨e, e1, e2⟩ | ⟨e, z⟩)
      · exact .inl ⟨e, .inl ⟨e1, e2⟩⟩
      · by_cases y : c' = c
        · exact .inl ⟨y, .inr ⟨fun y2 => e ⟨y, y2⟩, by rw [← y]; exact z⟩⟩
        · exact .inr ⟨y, z⟩
theorem f11_10s (ak : (D.A.map (·.c)).Nodup) (fk : ∀ a ∈ D.A, (keys a.fs).Nodup) (w : Own w0 h (Pf ++ D.rest Y))
    (hk : ∀ h' A', Added D.A A' c f q → Own w0 h' (Pf ++ ({ D with A := A' } : TD).rest Y) → K (.bool true) h') : f11_10 w0 K (some ⟨D.tb, 0, none⟩) f c q h := by
  refine f11_10_in _ _ _ _ _ ⟨_, rfl, _, tb_all w, pk53 _, map53 w (rest_in D).2.1 ⟨_, gV_get.symm, ?_⟩⟩
  rcases findA D.A c with ⟨A1, a, A2, hA, ea, g⟩ | ⟨g, no⟩
  · rw [g]
    exact f11_11_in _ _ _ _ _ _ (brB_of (fun z => by cases z) fun _ => f11_12s ak fk hA ea g w hk)
  · rw [g]
    refine f11_11_in _ _ _ _ _ _ (brB_of (fun _ => ⟨_, rfl, _, tb_all w, fun b hb hbn => ?_⟩) fun z => by cases z)
    have w1 : Own w0 _ ((b, .map (mV iV [])) :: (Pf ++ D.rest Y)) := Own.new (o := .map []) w hb hbn
    refine ⟨pk53 _, _, rfl, map53 w1 (List.mem_cons_of_mem _ (rest_in D).2.1) ?_⟩
    have ep : putM (.string c) (.map (some b)) (mV gV (allV D.A)) = mV gV (allV (D.A ++ [⟨c, b, []⟩])) := by
      have : putM (.string c) (gV b) (mV gV (allV D.A)) = mV gV (putA c b (allV D.A)) := put_mV _
      rw [putA_new g] at this
      rw [show Value.map (some b) = gV b from rfl, this]
      simp [allV]
    rw [ep]
    have w2 : Own w0 _ (((b, .map (mV iV [])) :: (Pf ++ [(D.tb, .cells [pV D.rb, gV D.am] 2)])) ++ (D.am, .map (mV gV (allV (D.A ++ [⟨c, b, []⟩])))) :: (acs D.A ++ Y)) :=
      Own.updm (o := .map (mV gV (allV D.A))) (es := mV gV (allV (D.A ++ [⟨c, b, []⟩]))) (by simpa [TD.rest] using w1)
    have w3 : Own w0 _ (Pf ++ ({ D with A := D.A ++ [⟨c, b, []⟩] } : TD).rest Y) := w2.perm (by
      classical
      rw [List.perm_iff_count]; intro z
      simp only [TD.rest, acs, List.map_append, List.map_cons, List.map_nil, List.count_append, List.count_cons, List.count_nil]
      omega)
    have kn : getA c (allV (D.A ++ [⟨c, b, []⟩])) = some b := by
      have nk : (keys (allV (D.A ++ [⟨c, b, []⟩]))).Nodup := by
        rw [allV_keys, List.map_append]
        refine List.nodup_append.2 ⟨ak, by simp, fun x hx y hy e => ?_⟩
        obtain ⟨a, ha, rfl⟩ := List.mem_map.1 hx
        have : y = c := by simpa using hy
        exact no a ha (e.trans this)
      exact (getA_mem nk).2 (by simp [allV])
    have ak3 : ((D.A ++ [(⟨c, b, []⟩ : Ac)]).map (·.c)).Nodup := by
      rw [List.map_append]
      refine List.nodup_append.2 ⟨ak, by simp, fun x hx y hy e => ?_⟩
      obtain ⟨a, ha, rfl⟩ := List.mem_map.1 hx
      have : y = c := by simpa using hy
      exact no a ha (e.trans this)
    have emp : ∀ {c' f' : ByteArray} {q' : Int}, (∃ a ∈ D.A ++ [(⟨c, b, []⟩ : Ac)], a.c = c' ∧ (f', q') ∈ a.fs) ↔ ∃ a ∈ D.A, a.c = c' ∧ (f', q') ∈ a.fs := fun {c' f' q'} => by
      constructor
      · rintro ⟨a, ha, e, z⟩
        rcases List.mem_append.1 ha with ha | ha
        · exact ⟨a, ha, e, z⟩
        · rw [List.mem_singleton] at ha; subst ha; cases z
      · rintro ⟨a, ha, e, z⟩; exact ⟨a, List.mem_append_left _ ha, e, z⟩
    refine f11_12s (D := { D with A := D.A ++ [⟨c, b, []⟩] }) (A1 := D.A) (A2 := []) (a := ⟨c, b, []⟩) ak3 (fun a ha => ?_) rfl rfl kn w3 fun h' A' ad w' => hk h' A' ⟨ad.ak, ad.fk, fun c' f' q' => by rw [ad.al, emp]⟩ w'
    rcases List.mem_append.1 ha with ha | ha
    · exact fk a ha
    · rw [List.mem_singleton] at ha; subst ha; exact List.nodup_nil
/-- The levels, then all. -/
theorem f11_9s {S : List Sb} {B : List (Nat × AB)} {N' : List Nd} {n : Nd} (r : Rep S D) (hf : filterB f = true) (hc : clientB c = true) (h0 : 0 ≤ q) (h2 : q ≤ 2) (t : Tre N' D.rb) (hn : n ∈ N') (en : n.p = levS f) (hh : ∀ P c q, Has N' P c q ↔ Has D.N P c q) (w : Own w0 h (nds N' ++ D.rest B))
    (hk : ∀ h' D', Rep (addS c f q false S) D' → D'.tb = D.tb → Own w0 h' (D'.own B) → K (.bool true) h') : f11_9 w0 K (some ⟨D.tb, 0, none⟩) f c q (some ⟨n.b, 0, none⟩) h := by
  refine f11_9_in _ _ _ _ _ _ ⟨_, rfl, _, nd_here w hn, pk58 _, _, rfl, map58 w (nd_in hn).2.1 ?_⟩
  have ep : putM (.string c) (.int .i64 q) (mV iV n.here) = mV iV (putA c q n.here) := put_mV n.here
  rw [ep]
  obtain ⟨M, hp⟩ := front hn
  have nk := t.hk n hn
  have t' := t.perm hp
  refine f11_10s r.ak r.fk (own_here w hp) fun h' A' ad w' => hk h' { D with N := { n with here := putA c q n.here } :: M, A := A' } (r.add hf hc h0 h2 (t'.here (putA_nodup nk)) (fun c' P q' => ?_) ad.ak ad.fk ad.al) rfl w'
  rw [Has.other t', Has.perm hp.symm, hh, en, putA_mem nk]
  have fr : (c', q') ∈ n.here ↔ Has D.N (levS f) c' q' := by rw [← Has.front t', Has.perm hp.symm, hh, en]
  rw [fr]
  constructor
  · rintro (z | ⟨e, z | ⟨z1, z2⟩⟩)
    · exact .inl z
    · exact .inr ⟨e, .inl z⟩
    · exact .inr ⟨e, .inr ⟨z1, by rw [e]; exact z2⟩⟩
  · rintro (z | ⟨e, z | ⟨z1, z2⟩⟩)
    · exact .inl z
    · exact .inr ⟨e, .inl z⟩
    · exact .inr ⟨e, .inr ⟨z1, by rw [← e]; exact z2⟩⟩
/-- Add. -/
theorem f11_spec {S : List Sb} {B : List (Nat × AB)} (T : TabOk w0) (r : Rep S D) (w : Own w0 h (D.own B)) (hk : ∀ h' D', Rep (addP c f q S) D' → D'.tb = D.tb → Own w0 h' (D'.own B) → K (.bool (okP c f q)) h') :
    EvC Go.Proofs.Tryd.prog w0 11 #[.pointer (some ⟨D.tb, 0, none⟩), .string f, .string c, .int .i64 q] K h := by
  have no : ∀ h1, Own w0 h1 (D.own B) → okP c f q = false → f11_2 w0 K (some ⟨D.tb, 0, none⟩) f c q true h1 := fun h1 w1 e => by
    have := hk h1 D (by unfold addP; rw [e]; exact r) rfl w1
    rw [e] at this
    exact f11_2_in _ _ _ _ _ _ (brB_of (fun _ => this) fun z => by cases z)
  refine f11_go _ _ _ _ _ (brB_of (fun z => by cases z) fun _ => f26_spec T w fun h1 w1 => ⟨_, rfl, brB_of (fun z => no h1 w1 ?_) fun z1 => f17_spec T w1 fun h2 w2 => ⟨_, rfl, brB_of (fun z => no h2 w2 ?_) fun z2 => brB_of (fun z => no h2 w2 ?_) fun z3 => ?_⟩⟩)
  · have e : filterB f = false := by simpa using z
    simp [okP, e]
  · have e : clientB c = false := by simpa using z
    simp [okP, e]
  · have e := of_decide_eq_true z
    unfold okP
    rw [show decide (0 ≤ q) = false from decide_eq_false (by omega)]
    simp
  have e1 : filterB f = true := by simpa using z1
  have e2 : clientB c = true := by simpa using z2
  have e3 : 0 ≤ q := by have := of_decide_eq_false z3; omega
  cases z4 : decide ((2 : Int) < q) with
  | true =>
    have := of_decide_eq_true z4
    refine no h2 w2 ?_
    unfold okP
    rw [show decide (q ≤ 2) = false from decide_eq_false (by omega)]
    simp
  | false =>
    have e4 : q ≤ 2 := by have := of_decide_eq_false z4; omega
    have ok : okP c f q = true := by unfold okP; rw [e1, e2, decide_eq_true e3, decide_eq_true e4]; rfl
    have hk' : ∀ h' D', Rep (addS c f q false S) D' → D'.tb = D.tb → Own w0 h' (D'.own B) → K (.bool true) h' := fun h' D' r' e w' => by
      have := hk h' D' (by unfold addP; rw [if_pos ok]; exact r') e w'
      rwa [ok] at this
    obtain ⟨rt, hr, rp, rbb⟩ := r.tre.root
    have s1 := (filter_one e1).2
    refine f11_2_in _ _ _ _ _ _ (brB_of (fun z => by cases z) fun _ => f11_3_in _ _ _ _ _ ⟨_, rfl, _, tb_root w2, f27_spec (by omega) w2 fun h3 a cp v w3 => ⟨_, _, _, rfl, ?_⟩⟩)
    have w4 : Own w0 h3 (nds D.N ++ D.rest (slB a (strs (levS f)) (cp * 1) ++ B)) := w3.perm (by
      classical
      rw [List.perm_iff_count]; intro z
      simp only [TD.own, TD.rest, List.count_append, List.count_cons]
      omega)
    rw [← rbb]
    refine f11_6s (levS f) r.tre hr (RdS.own v) (fun z hz => List.mem_cons_of_mem _ (List.mem_cons_of_mem _ (List.mem_append_right _ (List.mem_append_left _ hz)))) w4 fun h5 N' n' t' hn' en' hh w5 => f11_9s r e1 e2 e3 e4 t' hn' (by rw [en', rp]; rfl) hh w5 fun h6 D' r' etb w6 => hk' h6 D' r' etb ?_
    have := Own.cut (cs := nds D'.N ++ ((D'.tb, .cells [pV D'.rb, gV D'.am] 2) :: (D'.am, .map (mV gV (allV D'.A))) :: acs D'.A)) (ds := slB a (strs (levS f)) (cp * 1)) (bs := B) (by simpa [TD.own, TD.rest] using w6)
    simpa [TD.own, TD.rest] using this
end
end Go.G.YtnmngjffebbbnaaDoor
