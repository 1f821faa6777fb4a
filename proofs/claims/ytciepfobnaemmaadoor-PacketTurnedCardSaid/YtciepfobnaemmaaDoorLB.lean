/- PacketEncodes. -/
import Derived.Test.YtciepfobnaemmaaDoorQB
import Derived.Test.YtciepfobnaemmaaDoorPT
import Derived.Test.YtciepfobnaemmaaDoorProg
set_option maxRecDepth 100000
namespace Go.G.YtciepfobnaemmaaDoor
open Go.RowKit
open Value (string slice int bool agg)
def f19_J : Nat → List Nat × Nat := jOf []



theorem f19_go {w0 : World} {K : Value → AH → Prop} (g i : Int) (k : Bool) (a : ByteArray) (m : Option Addr) (b n : Nat) (o : Int) (p : Bool) (q : Int) (c : ByteArray) (r : Bool) (s : Int) (t u : Bool) (v : Int) (x : Option Addr) (d y : Nat) (z : Option Addr) (e A : Nat) (h : AH)
  (hv : (brB (decide ((((d : Nat) : Int) ≤ (20 : Int)))) (brB (decide ((((e : Nat) : Int) ≤ (20 : Int)))) (brB (decide ((((b : Nat) : Int) ≤ (2000 : Int)))) (brB (decide (((((ByteArray.size c) : Nat) : Int) ≤ (200 : Int)))) (K (bool (decide (((((ByteArray.size a) : Nat) : Int) ≤ (200 : Int))))) h) (K (bool false) h)) (K (bool false) h)) (K (bool false) h)) (K (bool false) h))) :
  EvC Proofs.Tryd.prog w0 19 ([(.agg #[(.int .i64 g), (.int .i64 i), (.bool k), (.string a), (.slice m b n), (.int .i64 o), (.bool p), (.int .i64 q), (.string c), (.bool r), (.int .i64 s), (.bool t), (.bool u), (.int .i64 v), (.slice x d y), (.slice z e A)])]).toArray K h := EvC_intro (P := Proofs.Tryd.prog) f19_J (Eq.mp (by kernel_rfl) hv)
def f5_J : Nat → List Nat × Nat := jOf []



theorem f5_go {w0 : World} {K : Value → AH → Prop} (b c : Int) (d : Bool) (e : ByteArray) (g : Option Addr) (i k : Nat) (m : Int) (n : Bool) (o : Int) (p : ByteArray) (q : Bool) (r : Int) (s t : Bool) (u : Int) (v : Option Addr) (x y : Nat) (z : Option Addr) (A B : Nat) (h : AH)
  (hv : (EvC Proofs.Tryd.prog w0 19 #[(agg #[(int .i64 b), (int .i64 c), (bool d), (string e), (slice g i k), (int .i64 m), (bool n), (int .i64 o), (string p), (bool q), (int .i64 r), (bool s), (bool t), (int .i64 u), (slice v x y), (slice z A B)])] (fun a3 N => (∃ Q : Bool, ((a3 = (bool Q)) ∧ (brB (!Q) (EvC Proofs.Tryd.prog w0 17 #[] (fun a4 a5 => (∃ R : Bool, ((a4 = (bool R)) ∧ (K (bool R) a5)))) N) (EvC Proofs.Tryd.prog w0 22 #[(agg #[(int .i64 b), (int .i64 c), (bool d), (string e), (slice g i k), (int .i64 m), (bool n), (int .i64 o), (string p), (bool q), (int .i64 r), (bool s), (bool t), (int .i64 u), (slice v x y), (slice z A B)])] (fun a6 a7 => (∃ C : Option Addr, (∃ D : Nat, (∃ a8 : Nat, (∃ E : Int, ((a6 = (Value.tuple #[(slice C D a8), (int .i64 E)])) ∧ (EvC Proofs.Tryd.prog w0 18 #[(agg #[(int .i64 b), (int .i64 c), (bool d), (string e), (slice g i k), (int .i64 m), (bool n), (int .i64 o), (string p), (bool q), (int .i64 r), (bool s), (bool t), (int .i64 u), (slice v x y), (slice z A B)])] (fun a9 b0 => (∃ F : Option Addr, (∃ L : Nat, (∃ b1 : Nat, (∃ M : Int, ((a9 = (Value.tuple #[(slice F L b1), (int .i64 M)])) ∧ (EvC Proofs.Tryd.prog w0 23 #[(agg #[(int .i64 b), (int .i64 c), (bool d), (string e), (slice g i k), (int .i64 m), (bool n), (int .i64 o), (string p), (bool q), (int .i64 r), (bool s), (bool t), (int .i64 u), (slice v x y), (slice z A B)])] (fun b2 b3 => (∃ T : Bool, ((b2 = (bool T)) ∧ (EvC Proofs.Tryd.prog w0 24 #[(agg #[(int .i64 b), (int .i64 c), (bool d), (string e), (slice g i k), (int .i64 m), (bool n), (int .i64 o), (string p), (bool q), (int .i64 r), (bool s), (bool t), (int .i64 u), (slice v x y), (slice z A B)])] (fun b4 a => (∃ U : Bool, ((b4 = (bool U)) ∧ (brB (T == U) ((rowsOf w0 a 1 C D (fun b5 => (∃ V : ByteArray, ((b5 = (intsOf V)) ∧ (rowsOf w0 a 1 F L (fun b6 => (∃ Y : ByteArray, ((b6 = (intsOf Y)) ∧ (brB (decide ((V = Y))) (brB (E == M) (EvC Proofs.Tryd.prog w0 17 #[] (fun b7 b8 => (∃ Z : Bool, ((b7 = (bool Z)) ∧ (K (bool Z) b8)))) a) (K (bool false) a)) (K (bool false) a)))))))))) ∧ (rowsOf w0 a 1 F L (fun b9 => (∃ a0 : ByteArray, ((b9 = (intsOf a0)) ∧ (rowsOf w0 a 1 C D (fun c0 => (∃ a1 : ByteArray, ((c0 = (intsOf a1)) ∧ (brB (decide ((a1 = a0))) (brB (E == M) (EvC Proofs.Tryd.prog w0 17 #[] (fun c1 c2 => (∃ a2 : Bool, ((c1 = (bool a2)) ∧ (K (bool a2) c2)))) a) (K (bool false) a)) (K (bool false) a))))))))))) (K (bool false) a))))) b3)))) b0))))))) a7))))))) N))))) h)) :
  EvC Proofs.Tryd.prog w0 5 ([(.agg #[(.int .i64 b), (.int .i64 c), (.bool d), (.string e), (.slice g i k), (.int .i64 m), (.bool n), (.int .i64 o), (.string p), (.bool q), (.int .i64 r), (.bool s), (.bool t), (.int .i64 u), (.slice v x y), (.slice z A B)])]).toArray K h := EvC_intro (P := Proofs.Tryd.prog) f5_J (Eq.mp (by kernel_rfl) hv)
/-! ### PacketEncodes -/
structure LightP (m : PkM) : Prop where
  wants : m.wants.length ≤ 20
  codes : m.codes.length ≤ 20
  pay : m.pay.length ≤ 2000
  client : m.client.size ≤ 200
  topic : m.topic.size ≤ 200
section
variable {w0 : World} {K : Value → AH → Prop} {h : AH} {X : List (Nat × AB)}
theorem f19_spec {m : PkM} (h1 : LightP m → K (.bool true) h) (h0 : K (.bool false) h) : EvC Go.Proofs.Tryd.prog w0 19 #[m.agg] K h := by
  refine f19_go _ _ _ _ _ _ _ _ _ _ _ _ _ _ _ _ _ _ _ _ _ _ _ (brB_of (fun z1 => brB_of (fun z2 => brB_of (fun z3 => brB_of (fun z4 => ?_) fun _ => h0) fun _ => h0) fun _ => h0) fun _ => h0)
  have a1 := of_decide_eq_true z1
  have a2 := of_decide_eq_true z2
  have a3 := of_decide_eq_true z3
  have a4 := of_decide_eq_true z4
  by_cases q : ((m.topic.size : Nat) : Int) ≤ 200
  · rw [decide_eq_true q]
    exact h1 ⟨by omega, by omega, by omega, by omega, by omega⟩
  · rw [decide_eq_false q]
    exact h0
theorem PkM.Ok.rd {m : PkM} (k : m.Ok w0) (l : LightP m) (h : AH) : PkRd w0 h m := ⟨k.pay.rd h, k.wants.rd h, k.codes.rd h, by have := l.wants; omega, by have := l.codes; omega⟩
theorem f5_spec {m : PkM} (T : TabOk w0) (k : m.Ok w0) (hk : ∀ h', K (.bool true) h') : EvC Go.Proofs.Tryd.prog w0 5 #[m.agg] K (fun _ => none) := by
  have w1 : Own w0 (fun _ => none) [] := Own.nil
  refine f5_go _ _ _ _ _ _ _ _ _ _ _ _ _ _ _ _ _ _ _ _ _ _ _ (f19_spec (fun l => ⟨_, rfl, brB_of (fun z => by cases z) fun _ => ?_⟩) ⟨_, rfl, brB_of (fun _ => f17_spec T w1 fun h2 _ => ⟨_, rfl, hk h2⟩) fun z => by cases z⟩)
  have rm : ∀ {Y : List (Nat × AB)} h', Own w0 h' Y → PkRd w0 h' m := fun h' _ => k.rd l h'
  by_cases hm : MayK m.key
  · refine f22_spec T w1 rm (fun _ h2 a2 c2 v2 w2 => ⟨_, _, _, _, rfl, f18_spec w2 rm (fun _ h3 a3 c3 v3 w3 => ⟨_, _, _, _, rfl, f23_spec T w3 rm (fun _ h4 w4 => ⟨_, rfl, f24_spec w4 rm (fun _ h5 w5 => ⟨_, rfl, brB_of (fun _ => ?_) fun z => by simp at z⟩) fun n => absurd hm n⟩) fun n => absurd hm n⟩) fun n => absurd hm n⟩) fun n => absurd hm n
    have r2 : Rd w0 h5 a2 (u8s (encP m.key)) := v2.rd w5
    have r3 : Rd w0 h5 a3 (u8s (encP m.key)) := v3.rd (cs := []) w5
    have fin : EvC Go.Proofs.Tryd.prog w0 17 #[] (fun x h29 => ∃ t : Bool, x = .bool t ∧ K (.bool t) h29) h5 := f17_spec T w5 fun h6 _ => ⟨_, rfl, hk h6⟩
    exact ⟨rows8 r2 rfl (rows8 r3 rfl (brB_of (fun _ => brB_of (fun _ => fin) fun z => by simp at z) fun z => by simp at z)), rows8 r3 rfl (rows8 r2 rfl (brB_of (fun _ => brB_of (fun _ => fin) fun z => by simp at z) fun z => by simp at z))⟩
  · refine f22_spec T w1 rm (fun n => absurd n hm) fun _ h2 w2 => ⟨_, _, _, _, rfl, f18_spec w2 rm (fun n => absurd n hm) fun _ h3 w3 => ⟨_, _, _, _, rfl, f23_spec T w3 rm (fun n => absurd n hm) fun _ h4 w4 => ⟨_, rfl, f24_spec w4 rm (fun n => absurd n hm) fun _ h5 w5 => ⟨_, rfl, brB_of (fun _ => ?_) fun z => by simp at z⟩⟩⟩⟩
    have r2 : Rd w0 h5 none (u8s []) := Rd.nil
    have fin : EvC Go.Proofs.Tryd.prog w0 17 #[] (fun x h29 => ∃ t : Bool, x = .bool t ∧ K (.bool t) h29) h5 := f17_spec T w5 fun h6 _ => ⟨_, rfl, hk h6⟩
    exact ⟨rows8 r2 rfl (rows8 r2 rfl (brB_of (fun _ => brB_of (fun _ => fin) fun z => by simp at z) fun z => by simp at z)), rows8 r2 rfl (rows8 r2 rfl (brB_of (fun _ => brB_of (fun _ => fin) fun z => by simp at z) fun z => by simp at z))⟩
end
end Go.G.YtciepfobnaemmaaDoor
