/- SchemaSweeps. -/
import Derived.Test.YtilifcggegabfaaDoorSQ
import Derived.Test.YtilifcggegabfaaDoorLA
import Derived.Test.YtilifcggegabfaaDoorSO
import Derived.Test.YtilifcggegabfaaDoorProg
set_option maxRecDepth 100000
namespace Go.G.YtilifcggegabfaaDoor
open Go.RowKit
open Value (string slice int bool agg)
def f16_J : Nat → List Nat × Nat := jOf [(2, [0, 3, 5, 6, 7, 8, 9, 10, 11, 12, 13, 14, 15, 16, 17, 18, 19, 20, 21, 22, 24, 25, 26, 27, 28, 29, 30, 31, 32, 33, 34, 35, 36, 37, 38, 39, 40, 41, 42, 43, 44, 45, 46, 47, 48, 49, 50, 51, 52, 53, 54, 55, 56, 57, 58, 59, 60, 61, 62, 63, 64, 65, 66, 67, 68], 2), (3, [0, 3, 5, 6, 7, 8, 9, 10, 11, 12, 13, 14, 15, 16, 17, 18, 19, 20, 21, 22, 23, 24, 25, 26, 27, 28, 29, 30, 31, 32, 33, 34, 35, 36, 37, 38, 39, 40, 41, 42, 43, 44, 45, 46, 47, 48, 49, 50, 51, 52, 53, 54, 55, 56, 57, 58, 59, 60, 61, 62, 63, 64, 65, 66, 67, 68], 2), (6, [0, 2, 3, 5, 7, 8, 9, 10, 11, 12, 13, 14, 15, 16, 17, 18, 19, 20, 21, 22, 23, 24, 25, 26, 27, 28, 29, 30, 31, 32, 33, 34, 35, 39, 40, 41, 42, 43, 44, 45, 46, 47, 48, 49, 50, 51, 52, 53, 54, 55, 56, 57, 58, 59, 60, 61, 62, 63, 64, 65, 66, 67, 68], 3)]

def f16_2 (w0 : World) (K : Value → AH → Prop) (a : Int) (b : Bool) (c : Int) (d : Option Addr) (e : Nat) (g : Nat) (i : Option Addr) (k : Nat) (m : Nat) (n : Int) (o : Option Addr) (p : Nat) (q : Nat) (r : Option Addr) (s : Nat) (t : Nat) (h : AH) : Prop :=
  ∀ j : Nat → Value, LPk Proofs.Tryd.prog w0 (EvC Proofs.Tryd.prog w0) f16_J 16 K 2 [.v (j 0), .v (.int .i64 a), .bp 0 0, .v (j 3), .bp 1 0, .v (j 5), .v (j 6), .v (j 7), .v (j 8), .v (j 9), .v (j 10), .v (j 11), .v (j 12), .v (j 13), .v (j 14), .v (j 15), .v (j 16), .v (j 17), .v (j 18), .v (j 19), .v (j 20), .v (j 21), .v (j 22), .v (.bool b), .v (j 24), .v (j 25), .v (j 26), .v (j 27), .v (j 28), .v (j 29), .v (j 30), .v (j 31), .v (j 32), .v (j 33), .v (j 34), .v (j 35), .v (j 36), .v (j 37), .v (j 38), .v (j 39), .v (j 40), .v (j 41), .v (j 42), .v (j 43), .v (j 44), .v (j 45), .v (j 46), .v (j 47), .v (j 48), .v (j 49), .v (j 50), .v (j 51), .v (j 52), .v (j 53), .v (j 54), .v (j 55), .v (j 56), .v (j 57), .v (j 58), .v (j 59), .v (j 60), .v (j 61), .v (j 62), .v (j 63), .v (j 64), .v (j 65), .v (j 66), .v (j 67), .v (j 68)] [some [(.int .i64 c), (.slice d e g), (.slice i k m)], some [(.int .i64 n), (.slice o p q), (.slice r s t)]] h

def f16_3 (w0 : World) (K : Value → AH → Prop) (a : Int) (b : Int) (c : Option Addr) (d : Nat) (e : Nat) (g : Option Addr) (i : Nat) (k : Nat) (m : Int) (n : Option Addr) (o : Nat) (p : Nat) (q : Option Addr) (r : Nat) (s : Nat) (h : AH) : Prop :=
  ∀ j : Nat → Value, LPk Proofs.Tryd.prog w0 (EvC Proofs.Tryd.prog w0) f16_J 16 K 3 [.v (j 0), .v (.int .i64 a), .bp 0 0, .v (j 3), .bp 1 0, .v (j 5), .v (j 6), .v (j 7), .v (j 8), .v (j 9), .v (j 10), .v (j 11), .v (j 12), .v (j 13), .v (j 14), .v (j 15), .v (j 16), .v (j 17), .v (j 18), .v (j 19), .v (j 20), .v (j 21), .v (j 22), .v (j 23), .v (j 24), .v (j 25), .v (j 26), .v (j 27), .v (j 28), .v (j 29), .v (j 30), .v (j 31), .v (j 32), .v (j 33), .v (j 34), .v (j 35), .v (j 36), .v (j 37), .v (j 38), .v (j 39), .v (j 40), .v (j 41), .v (j 42), .v (j 43), .v (j 44), .v (j 45), .v (j 46), .v (j 47), .v (j 48), .v (j 49), .v (j 50), .v (j 51), .v (j 52), .v (j 53), .v (j 54), .v (j 55), .v (j 56), .v (j 57), .v (j 58), .v (j 59), .v (j 60), .v (j 61), .v (j 62), .v (j 63), .v (j 64), .v (j 65), .v (j 66), .v (j 67), .v (j 68)] [some [(.int .i64 b), (.slice c d e), (.slice g i k)], some [(.int .i64 m), (.slice n o p), (.slice q r s)]] h

def f16_6 (w0 : World) (K : Value → AH → Prop) (a : Int) (b : Option Addr) (c : Nat) (d : Nat) (e : Int) (g : Int) (i : Int) (k : Option Addr) (m : Nat) (n : Nat) (o : Option Addr) (p : Nat) (q : Nat) (r : Int) (s : Option Addr) (t : Nat) (u : Nat) (x : Option Addr) (y : Nat) (z : Nat) (A : Int) (B : Option Addr) (C : Nat) (D : Nat) (E : Option Addr) (F : Nat) (G : Nat) (h : AH) : Prop :=
  ∀ j : Nat → Value, LPk Proofs.Tryd.prog w0 (EvC Proofs.Tryd.prog w0) f16_J 16 K 6 [.v (j 0), .v (.int .i64 a), .v (j 2), .v (j 3), .bp 1 0, .v (j 5), .bp 2 0, .v (j 7), .v (j 8), .v (j 9), .v (j 10), .v (j 11), .v (j 12), .v (j 13), .v (j 14), .v (j 15), .v (j 16), .v (j 17), .v (j 18), .v (j 19), .v (j 20), .v (j 21), .v (j 22), .v (j 23), .v (j 24), .v (j 25), .v (j 26), .v (j 27), .v (j 28), .v (j 29), .v (j 30), .v (j 31), .v (j 32), .v (j 33), .v (j 34), .v (j 35), .v (.slice b c d), .v (.int .i64 e), .v (.int .i64 g), .v (j 39), .v (j 40), .v (j 41), .v (j 42), .v (j 43), .v (j 44), .v (j 45), .v (j 46), .v (j 47), .v (j 48), .v (j 49), .v (j 50), .v (j 51), .v (j 52), .v (j 53), .v (j 54), .v (j 55), .v (j 56), .v (j 57), .v (j 58), .v (j 59), .v (j 60), .v (j 61), .v (j 62), .v (j 63), .v (j 64), .v (j 65), .v (j 66), .v (j 67), .v (j 68)] [some [(.int .i64 i), (.slice k m n), (.slice o p q)], some [(.int .i64 r), (.slice s t u), (.slice x y z)], some [(.int .i64 A), (.slice B C D), (.slice E F G)]] h

theorem f16_2_in {w0 : World} {K : Value → AH → Prop} (a : Int) (b : Bool) (c : Int) (d : Option Addr) (e : Nat) (g : Nat) (i : Option Addr) (k : Nat) (m : Nat) (n : Int) (o : Option Addr) (p : Nat) (q : Nat) (r : Option Addr) (s : Nat) (t : Nat) (h : AH)
  (hv : (brB b (K (Value.tuple #[(agg #[(int .i64 (0 : Int)), (slice none 0 0), (slice none 0 0)]), (int .i64 (1 : Int))]) h) (f16_3 w0 K a c d e g i k m n o p q r s t h))) :
  f16_2 w0 K a b c d e g i k m n o p q r s t h := fun j => LP_intro (P := Proofs.Tryd.prog) (Eq.mp (by kernel_rfl) hv)

theorem f16_3_in {w0 : World} {K : Value → AH → Prop} (a : Int) (k : Int) (c : Option Addr) (d : Nat) (e : Nat) (g : Option Addr) (b : Nat) (i : Nat) (m : Int) (n : Option Addr) (o : Nat) (p : Nat) (q : Option Addr) (r : Nat) (s : Nat) (h : AH)
  (hv : (EvC Proofs.Tryd.prog w0 35 #[(slice c d e), (int .i64 a)] (fun x y => (∃ t : Option Addr, (∃ u : Nat, (∃ v : Nat, (∃ z : Int, ((x = (Value.tuple #[(slice t u v), (int .i64 z)])) ∧ (f16_6 w0 K a g b i ((b : Nat) : Int) (0 : Int) k c d e g b i m n o p q r s a t u v none 0 0 y))))))) h)) :
  f16_3 w0 K a k c d e g b i m n o p q r s h := fun j => LP_intro (P := Proofs.Tryd.prog) (Eq.mp (by kernel_rfl) hv)

theorem f16_6_in {w0 : World} {K : Value → AH → Prop} (n : Int) (o : Option Addr) (p : Nat) (M : Nat) (q : Int) (a : Int) (N : Int) (Q : Option Addr) (R : Nat) (T : Nat) (U : Option Addr) (V : Nat) (Y : Nat) (Z : Int) (a0 : Option Addr) (a1 : Nat) (a2 : Nat) (a3 : Option Addr) (a4 : Nat) (a5 : Nat) (c : Int) (d : Option Addr) (e : Nat) (g : Nat) (i : Option Addr) (b : Nat) (k : Nat) (h : AH)
  (hv : (brB (decide ((a < q))) (∃ a6 : Addr, ((o = (some a6)) ∧ (((0 : Int) ≤ a) ∧ ((a < ((p : Nat) : Int)) ∧ (∃ r : ByteArray, (∃ s : Option Addr, (∃ t : Nat, (∃ u : Nat, (∃ v : Option Addr, (∃ x : Nat, (∃ y : Nat, (∃ z : Option Addr, (∃ A : Nat, (∃ B : Nat, (∃ C : Option Addr, (∃ D : Nat, (∃ E : Nat, (∃ F : Int, (∃ m : Int, (∃ G : Int, ((((Array.size #[(string r), (slice s t u), (slice v x y), (slice z A B), (slice C D E), (int .i64 F), (int .i64 m), (int .i64 G)]) = 8) ∧ (At w0 h (Addr.add a6 ((Int.toNat a) * 8)) [(string r), (slice s t u), (slice v x y), (slice z A B), (slice C D E), (int .i64 F), (int .i64 m), (int .i64 G)])) ∧ (EvC Proofs.Tryd.prog w0 35 #[(slice v x y), (int .i64 n)] (fun b2 b3 => (∃ a7 : Option Addr, (∃ a8 : Nat, (∃ a9 : Nat, (∃ L : Int, ((b2 = (Value.tuple #[(slice a7 a8 a9), (int .i64 L)])) ∧ (App w0 b3 8 136 i b k 1 [(string r), (slice s t u), (slice a7 a8 a9), (slice z A B), (slice C D E), (int .i64 F), (int .i64 (if ((1152921504606846976 : Int) < (IntKind.wrap .i64 (m + L))) then (1152921504606846976 : Int) else (IntKind.wrap .i64 (m + L)))), (int .i64 G)] (fun b4 b5 b6 => (f16_6 w0 K n o p M q (IntKind.wrap .i64 (a + (1 : Int))) N Q R T U V Y Z a0 a1 a2 a3 a4 a5 c d e g b4 (b + 1) b5 b6))))))))) h)))))))))))))))))))))) (EvC Proofs.Tryd.prog w0 34 #[(agg #[(int .i64 c), (slice d e g), (slice i b k)])] (fun b7 b0 => (∃ b1 : Bool, ((b7 = (bool b1)) ∧ (brB (!b1) (K (Value.tuple #[(agg #[(int .i64 (0 : Int)), (slice none 0 0), (slice none 0 0)]), (int .i64 (1 : Int))]) b0) (K (Value.tuple #[(agg #[(int .i64 c), (slice d e g), (slice i b k)]), (int .i64 (0 : Int))]) b0))))) h))) :
  f16_6 w0 K n o p M q a N Q R T U V Y Z a0 a1 a2 a3 a4 a5 c d e g i b k h := fun j => LP_intro (P := Proofs.Tryd.prog) (Eq.mp (by kernel_rfl) hv)

theorem f16_go {w0 : World} {K : Value → AH → Prop} (a : Int) (c : Option Addr) (d : Nat) (e : Nat) (g : Option Addr) (i : Nat) (k : Nat) (b : Int) (h : AH)
  (hv : (EvC Proofs.Tryd.prog w0 34 #[(agg #[(int .i64 a), (slice c d e), (slice g i k)])] (fun o m => (∃ n : Bool, ((o = (bool n)) ∧ (brB (!n) (f16_2 w0 K b true a c d e g i k (0 : Int) none 0 0 none 0 0 m) (brB (decide ((b < a))) (f16_2 w0 K b true a c d e g i k (0 : Int) none 0 0 none 0 0 m) (f16_2 w0 K b (decide (((1099511627776 : Int) < b))) a c d e g i k (0 : Int) none 0 0 none 0 0 m)))))) h)) :
  EvC Proofs.Tryd.prog w0 16 ([(.agg #[(.int .i64 a), (.slice c d e), (.slice g i k)]), (.int .i64 b)]).toArray K h := EvC_intro (P := Proofs.Tryd.prog) f16_J (Eq.mp (by kernel_rfl) hv)
def f4_J : Nat → List Nat × Nat := jOf []



theorem f4_go {w0 : World} {K : Value → AH → Prop} (a : Int) (b : Option Addr) (c : Nat) (d : Nat) (e : Option Addr) (g : Nat) (i : Nat) (k : Int) (h : AH)
  (hv : (EvC Proofs.Tryd.prog w0 10 #[(agg #[(int .i64 a), (slice b c d), (slice e g i)])] (fun N n => (∃ o : Bool, ((N = (bool o)) ∧ (brB (!o) (EvC Proofs.Tryd.prog w0 12 #[] (fun Q R => (∃ p : Bool, ((Q = (bool p)) ∧ (K (bool p) R)))) n) (EvC Proofs.Tryd.prog w0 15 #[(agg #[(int .i64 a), (slice b c d), (slice e g i)]), (int .i64 k)] (fun T U => (∃ q : Int, (∃ r : Option Addr, (∃ s : Nat, (∃ t : Nat, (∃ u : Option Addr, (∃ v : Nat, (∃ x : Nat, (∃ y : Int, ((T = (Value.tuple #[(agg #[(int .i64 q), (slice r s t), (slice u v x)]), (int .i64 y)])) ∧ (EvC Proofs.Tryd.prog w0 16 #[(agg #[(int .i64 a), (slice b c d), (slice e g i)]), (int .i64 k)] (fun V Y => (∃ z : Int, (∃ A : Option Addr, (∃ B : Nat, (∃ C : Nat, (∃ D : Option Addr, (∃ E : Nat, (∃ F : Nat, (∃ G : Int, ((V = (Value.tuple #[(agg #[(int .i64 z), (slice A B C), (slice D E F)]), (int .i64 G)])) ∧ (EvC Proofs.Tryd.prog w0 17 #[(agg #[(int .i64 q), (slice r s t), (slice u v x)]), (agg #[(int .i64 z), (slice A B C), (slice D E F)])] (fun Z m => (∃ L : Bool, ((Z = (bool L)) ∧ (brB L (brB (y == G) (EvC Proofs.Tryd.prog w0 12 #[] (fun a0 a1 => (∃ M : Bool, ((a0 = (bool M)) ∧ (K (bool M) a1)))) m) (K (bool false) m)) (K (bool false) m))))) Y))))))))))) U))))))))))) n))))) h)) :
  EvC Proofs.Tryd.prog w0 4 ([(.agg #[(.int .i64 a), (.slice b c d), (.slice e g i)]), (.int .i64 k)]).toArray K h := EvC_intro (P := Proofs.Tryd.prog) f4_J (Eq.mp (by kernel_rfl) hv)
theorem light_nrm {s : StM} (h : LightS s.nrm) : LightS s :=
  ⟨by simpa [StM.nrm] using h.ret, by simpa [StM.nrm] using h.ses, fun x hx => by
    have := h.each x.nrm (List.mem_map_of_mem hx)
    simpa [SesM.nrm] using this⟩
theorem light_nrm' {s : StM} (h : LightS s) : LightS s.nrm :=
  ⟨by simpa [StM.nrm] using h.ret, by simpa [StM.nrm] using h.ses, fun x hx => by
    obtain ⟨y, hy, rfl⟩ := List.mem_map.1 hx
    simpa [SesM.nrm] using h.each y hy⟩
theorem light_sw {c : Int} {s : StM} (h : LightS s) : LightS (swM c s) :=
  ⟨Nat.le_trans (keep_len c s.ret) h.ret, by simpa [swM] using h.ses, fun x hx => by
    obtain ⟨y, hy, rfl⟩ := List.mem_map.1 hx
    have := h.each y hy
    have := keep_len c y.queue
    exact ⟨by simpa [swS] using (h.each y hy).1, by show (keepM c y.queue).length ≤ 30; omega, by simpa [swS] using (h.each y hy).2.2.1, by simpa [swS] using (h.each y hy).2.2.2⟩⟩
theorem light_of {c : Int} {s o : StM} (e : o.nrm = (swM c s).nrm) (h : LightS s) : LightS o := light_nrm (by rw [e]; exact light_nrm' (light_sw h))
theorem may_of {c : Int} {s o : StM} (e : o.nrm = (swM c s).nrm) (h : MaySt s) (h1 : s.clock ≤ c) (h2 : c ≤ 1099511627776) : MaySt o := MaySt.nrm.1 (by rw [e]; exact MaySt.nrm.2 (h.sweep h1 h2))
theorem clock_of {c : Int} {s o : StM} (e : o.nrm = (swM c s).nrm) : o.clock = c := by
  have := congrArg StM.clock e
  simpa [StM.nrm, swM] using this
def zeroS : StM := ⟨0, none, 0, [], none, 0, []⟩
theorem ses_arg {w0 : World} {h : AH} {m : SesM} (k : m.Ok w0) (b1 : m.subs.length ≤ 30) (b2 : m.queue.length ≤ 30) (b3 : m.fl.length ≤ 20) (b4 : m.ids.length ≤ 100) : SesRd w0 h m :=
  ⟨by omega, k.subs.rd h, by omega, ⟨k.queue.rd h, fun x hx => (k.queuek x hx).pay.rd h⟩, by omega, k.flc, k.fl.rd h, fun f hf => (k.flk f hf).msg.pay.rd h, by omega, k.ids.rd h⟩
theorem st_arg {w0 : World} {h : AH} {m : StM} (k : m.Ok w0) (lt : LightS m) : StRd w0 h m :=
  have b1 := lt.ret
  have b2 := lt.ses
  ⟨by omega, ⟨k.ret.rd h, fun x hx => (k.retk x hx).pay.rd h⟩, by omega, k.ses.rd h, fun x hx => ses_arg (k.sesk x hx) (lt.each x hx).1 (lt.each x hx).2.1 (lt.each x hx).2.2.1 (lt.each x hx).2.2.2⟩
section
variable {w0 : World} {K : Value → AH → Prop} {h : AH} {B : List (Nat × AB)}
theorem awake_sc (T : TabOk w0) (w : Own w0 h B) (hk : ∀ h, K (.bool true) h) : EvC Go.Proofs.Tryd.prog w0 12 #[] (fun x'24 h'25 => (∃ t'26 : Bool, ((x'24 = (.bool t'26)) ∧ (K (.bool t'26) h'25)))) h := f12_spec T w fun h' _ => ⟨_, rfl, hk h'⟩
theorem zero_rd : StRd w0 h zeroS := ⟨by simp [zeroS], ⟨rd_nil, fun m hm => by cases hm⟩, by simp [zeroS], rd_nil, fun x hx => by cases hx⟩
theorem zero_same : SameSt zeroS zeroS := sameSt_of rfl
end
section
variable {w0 : World} {K : Value → AH → Prop} {h : AH} {B : List (Nat × AB)}
def swR (c : Int) (x : SesM) (a : Option Addr) (n : Nat) : SesM := { swS c x with qa := a, qc := n }
theorem swR_nrm {c : Int} {x : SesM} {a : Option Addr} {n : Nat} : (swR c x a n).nrm = (swS c x).nrm := rfl
def ownQ (l : List SesM) : List (Nat × AB) := l.flatMap fun o => slB o.qa (o.queue.flatMap MsgM.cells) (o.qc * 5)
structure QOk (w0 : World) (B : List (Nat × AB)) (o : SesM) : Prop where
  rest : ∀ h' D, Own w0 h' (D ++ B) → Rd w0 h' o.sa (o.subs.flatMap WantM.cells) ∧ Rd w0 h' o.fa (o.fl.flatMap FlM.cells) ∧ (∀ f ∈ o.fl, Rd w0 h' f.msg.pa (u8s f.msg.pay)) ∧ Rd w0 h' o.ia (o.ids.flatMap fun x => [.int .i64 x]) ∧ ∀ m ∈ o.queue, Rd w0 h' m.pa (u8s m.pay)
  queue : SlV 5 o.qa o.queue.length o.qc (o.queue.flatMap MsgM.cells)
  sl : o.subs.length ≤ 100000000
  ql : o.queue.length ≤ 100000000
  fll : o.fl.length ≤ 100000000
  flc : o.fl.length ≤ o.fc
  il : o.ids.length ≤ 100000000
theorem min_head2 {hd n k : Int} (h1 : 0 ≤ hd) (h2 : hd ≤ 1152921504606846976) (h3 : 0 ≤ n) (h4 : n ≤ 1000) (h5 : 0 ≤ k) (h6 : k ≤ n) :
    (if (1152921504606846976 : Int) < IntKind.i64.wrap (hd + (n - k)) then (1152921504606846976 : Int) else IntKind.i64.wrap (hd + (n - k))) = min 1152921504606846976 (hd + (n - k)) := by
  rw [wrap64 (by omega) (by omega)]
  split <;> omega
theorem f16_6s {c : Int} {s : StM} {z0 : Int} {z1 z2 o1 : Option Addr} {zn1 zc1 zn2 zc2 oc1 : Nat} {rs : List MsgM} {R : List (Nat × AB)}
    (hR : ∀ h' D, Own w0 h' (D ++ R) → StRd w0 h' s) (hm : MaySt s) (lt : LightS s) (fin : ∀ h' a' c' (os : List SesM), os.map SesM.nrm = (s.ses.map (swS c)).map SesM.nrm → SlV 8 a' os.length c' (os.flatMap SesM.cells) → (∀ o ∈ os, QOk w0 R o) → Own w0 h' (slB a' (os.flatMap SesM.cells) (c' * 8) ++ (ownQ os ++ R)) →
      EvC Go.Proofs.Tryd.prog w0 34 #[.agg #[.int .i64 c, .slice o1 rs.length oc1, .slice a' os.length c']] (fun x'35 h'36 => ∃ t'37 : Bool, x'35 = .bool t'37 ∧ brB (!t'37) (K (.tuple #[.agg #[.int .i64 0, .slice none 0 0, .slice none 0 0], .int .i64 1]) h'36) (K (.tuple #[.agg #[.int .i64 c, .slice o1 rs.length oc1, .slice a' os.length c'], .int .i64 0]) h'36)) h') :
    ∀ (n i : Nat), i + n = s.ses.length → ∀ (a' : Option Addr) (c' : Nat) (h' : AH) (os : List SesM), os.map SesM.nrm = ((s.ses.take i).map (swS c)).map SesM.nrm → SlV 8 a' os.length c' (os.flatMap SesM.cells) → (∀ o ∈ os, QOk w0 R o) → Own w0 h' (slB a' (os.flatMap SesM.cells) (c' * 8) ++ (ownQ os ++ R)) →
      f16_6 w0 K c s.sa s.ses.length s.sc ((s.ses.length : Nat) : Int) ((i : Nat) : Int) s.clock s.ra s.ret.length s.rc s.sa s.ses.length s.sc z0 z1 zn1 zc1 z2 zn2 zc2 c o1 rs.length oc1 a' os.length c' h' := fun n => by
  have lsl := lt.ses
  induction n with
  | zero =>
    intro i hi a' c' h' os he v vs w'
    rw [List.take_of_length_le (by omega)] at he
    exact f16_6_in _ _ _ _ _ _ _ _ _ _ _ _ _ _ _ _ _ _ _ _ _ _ _ _ _ _ _ _ (brB_of (fun z => by have := of_decide_eq_true z; omega) fun _ => fin h' a' c' os he v vs w')
  | succ n ih =>
    intro i hi a' c' h' os he v vs w'
    have g1 : s.ses[i]? = some s.ses[i] := List.getElem?_eq_getElem _
    have ht : s.ses.take (i + 1) = s.ses.take i ++ [s.ses[i]] := List.take_succ_eq_append_getElem (by omega)
    generalize s.ses[i] = x at g1 ht
    have hmem := List.mem_of_getElem? g1
    have mx := hm.ses x hmem
    have lx := lt.each x hmem
    have rd0 : ∀ h2 D, Own w0 h2 (D ++ (slB a' (os.flatMap SesM.cells) (c' * 8) ++ (ownQ os ++ R))) → SesRd w0 h2 x := fun h2 D w2 =>
      (hR h2 (D ++ (slB a' (os.flatMap SesM.cells) (c' * 8) ++ ownQ os)) (by simpa only [List.append_eq, List.append_assoc] using w2)).sesk x hmem
    have rs := hR h' (slB a' (os.flatMap SesM.cells) (c' * 8) ++ ownQ os) (by rw [List.append_assoc]; exact w')
    obtain ⟨ad, had, hat⟩ := rowLoad (enc := SesM.cells) (k := 8) (fun _ => rfl) (by decide) rs.ses g1
    have hle : os.length ≤ i := by
      have e := congrArg List.length he
      simp only [List.length_map] at e
      rw [e]; exact List.length_take_le ..
    have hqk := keep_len c x.queue
    refine f16_6_in _ _ _ _ _ _ _ _ _ _ _ _ _ _ _ _ _ _ _ _ _ _ _ _ _ _ _ _ (brB_of (fun _ => ⟨ad, had, by omega, by omega, _, _, _, _, _, _, _, _, _, _, _, _, _, _, _, _, ⟨rfl, hat⟩, ?_⟩) fun z => by have := of_decide_eq_false z; omega)
    refine f35_spec w' (fun h2 w2 => (rd0 h2 [] w2).queue.1) (by omega) fun h1 qa qc qv w1 => ⟨qa, (keepM c x.queue).length, qc, _, rfl, ?_⟩
    rw [min_head2 (hd := x.head) mx.head0 mx.head (by omega) (by omega) (by omega) (by omega)]
    generalize hog : swR c x qa qc = o
    have hoc : [Value.string x.client, .slice x.sa x.subs.length x.sc, .slice qa (keepM c x.queue).length qc, .slice x.fa x.fl.length x.fc, .slice x.ia x.ids.length x.ic, .int .i64 x.next, .int .i64 (min 1152921504606846976 (x.head + (((x.queue.length : Nat) : Int) - ((keepM c x.queue).length : Nat)))), .int .i64 x.sent] = o.cells := by subst hog; rfl
    have hon : o.nrm = (swS c x).nrm := by subst hog; exact swR_nrm
    have hov : QOk w0 R o := by
      subst hog
      refine ⟨fun h2 D w2 => ?_, qv, by show x.subs.length ≤ _; omega, by show (keepM c x.queue).length ≤ _; omega, by show x.fl.length ≤ _; omega, rs.sesk x hmem |>.flc, by show x.ids.length ≤ _; omega⟩
      have r := (hR h2 D w2).sesk x hmem
      exact ⟨r.subs, r.fl, r.flm, r.ids, fun m hx => r.queue.2 m (List.mem_filter.1 hx).1⟩
    have w5 : Own w0 h1 (slB qa ((keepM c x.queue).flatMap MsgM.cells) (qc * 5) ++ (slB a' (os.flatMap SesM.cells) (c' * 8) ++ (ownQ os ++ R))) := w1
    rw [hoc]
    refine App_mid (cs := slB qa ((keepM c x.queue).flatMap MsgM.cells) (qc * 5)) v w5 (by omega) (by omega) rfl (ses_cell o) fun a8 c8 h8 v8 w8 => ?_
    rw [wrapS (by omega)]
    have e2 : os.flatMap SesM.cells ++ o.cells = (os ++ [o]).flatMap SesM.cells := by simp
    rw [e2] at v8 w8
    have := ih (i + 1) (by omega) a8 c8 h8 (os ++ [o]) (by rw [ht, List.map_append, List.map_append, List.map_append, he]; simp [hon]) (by rw [List.length_append]; exact v8) (fun y hy => by
      rcases List.mem_append.1 hy with hy | hy
      · exact vs y hy
      · rw [List.mem_singleton] at hy; subst hy; exact hov) (by
      have e5 : ownQ (os ++ [o]) = ownQ os ++ slB qa ((keepM c x.queue).flatMap MsgM.cells) (qc * 5) := by subst hog; simp [ownQ, swR, swS]
      rw [e5]
      refine w8.perm ?_
      have p1 := List.perm_append_comm_assoc (slB qa ((keepM c x.queue).flatMap MsgM.cells) (qc * 5)) (slB a8 ((os ++ [o]).flatMap SesM.cells) (c8 * 8) ++ ownQ os) R
      simpa only [List.append_assoc] using p1)
    rw [List.length_append] at this
    exact this
theorem f16_spec {s : StM} {c : Int} (w : Own w0 h B) (hR : ∀ h' D, Own w0 h' (D ++ B) → StRd w0 h' s) (lt : LightS s)
    (hbad : (¬ MaySt s ∨ c < s.clock ∨ 1099511627776 < c) → ∀ h', Own w0 h' B → K (.tuple #[.agg #[.int .i64 0, .slice none 0 0, .slice none 0 0], .int .i64 1]) h')
    (hok : MaySt s → s.clock ≤ c → c ≤ 1099511627776 → ∀ h' o C, o.nrm = (swM c s).nrm → (∀ h'' D, Own w0 h'' (D ++ (C ++ B)) → StRd w0 h'' o) → Own w0 h' (C ++ B) → K (.tuple #[o.agg2, .int .i64 0]) h') :
    EvC Go.Proofs.Tryd.prog w0 16 #[s.agg2, .int .i64 c] K h := by
  have s3 : MaySt s → s.clock ≤ c → c ≤ 1099511627776 → ∀ h1, Own w0 h1 B → f16_3 w0 K c s.clock s.ra s.ret.length s.rc s.sa s.ses.length s.sc 0 none 0 0 none 0 0 h1 := fun hm h1' h2' h1 w1 => by
    refine f16_3_in _ _ _ _ _ _ _ _ _ _ _ _ _ _ _ _ ?_
    have lr := lt.ret
    have lss := lt.ses
    have hqk := keep_len c s.ret
    refine f35_spec w1 (fun h2 w2 => (hR h2 [] w2).ret.1) (by omega) fun h2 qa qc qv w2 => ⟨qa, (keepM c s.ret).length, qc, _, rfl, ?_⟩
    refine f16_6s (s := s) (c := c) (rs := keepM c s.ret) (R := slB qa ((keepM c s.ret).flatMap MsgM.cells) (qc * 5) ++ B) (fun h' D w' => hR h' (D ++ slB qa ((keepM c s.ret).flatMap MsgM.cells) (qc * 5)) (by rw [List.append_assoc]; exact w')) hm lt (fun h' a' c' os hos ov ok w' => ?_) s.ses.length 0 (by omega) none 0 h2 [] rfl SlV.nil (fun o ho => by cases ho) w2
    have hol : os.length = s.ses.length := by rw [nrm_len hos, List.length_map]
    generalize ho : (⟨c, qa, qc, keepM c s.ret, a', c', os⟩ : StM) = o
    have hon : o.nrm = (swM c s).nrm := by subst ho; simp only [StM.nrm, swM, hos]
    have om := may_of hon hm h1' h2'
    have ro : ∀ h'' D, Own w0 h'' (D ++ ((slB a' (os.flatMap SesM.cells) (c' * 8) ++ (ownQ os ++ slB qa ((keepM c s.ret).flatMap MsgM.cells) (qc * 5))) ++ B)) → StRd w0 h'' o := fun h'' D w'' => by
      subst ho
      have rs := hR h'' (D ++ (slB a' (os.flatMap SesM.cells) (c' * 8) ++ (ownQ os ++ slB qa ((keepM c s.ret).flatMap MsgM.cells) (qc * 5)))) (by rw [List.append_assoc]; exact w'')
      refine ⟨by show (keepM c s.ret).length ≤ _; omega, ⟨slv_rdm qv w'' fun p hp => by simp [hp], fun m hx => rs.ret.2 m (List.mem_filter.1 hx).1⟩, by show os.length ≤ _; omega, slv_rdm ov w'' fun p hp => by simp [hp], fun x hx => ?_⟩
      have q := ok x hx
      have r := q.rest h'' (D ++ (slB a' (os.flatMap SesM.cells) (c' * 8) ++ ownQ os)) (by simpa only [List.append_eq, List.append_assoc] using w'')
      exact ⟨q.sl, r.1, q.ql, ⟨slv_rdm q.queue w'' fun p hp => by
        have : p ∈ ownQ os := List.mem_flatMap.2 ⟨x, hx, hp⟩
        simp [this], r.2.2.2.2⟩, q.fll, q.flc, r.2.1, r.2.2.1, q.il, r.2.2.2.1⟩
    have w'' : Own w0 h' ((slB a' (os.flatMap SesM.cells) (c' * 8) ++ (ownQ os ++ slB qa ((keepM c s.ret).flatMap MsgM.cells) (qc * 5))) ++ B) := by simpa only [List.append_eq, List.append_assoc] using w'
    have e34 : (Value.agg #[.int .i64 c, .slice qa (keepM c s.ret).length qc, .slice a' os.length c']) = o.agg2 := by subst ho; rfl
    rw [e34]
    refine f34_spec (s := o) w'' (fun h3 w3 => ro h3 [] w3) fun t h3 ht3 w3 => ⟨t, rfl, brB_of (fun z => ?_) fun _ => hok hm h1' h2' h3 o _ hon ro w3⟩
    have := ht3.2 om
    rw [this] at z; cases z
  have s2 : ∀ h1 v, Own w0 h1 B → (v = true → ¬ MaySt s ∨ c < s.clock ∨ 1099511627776 < c) → (v = false → MaySt s ∧ s.clock ≤ c ∧ c ≤ 1099511627776) → f16_2 w0 K c v s.clock s.ra s.ret.length s.rc s.sa s.ses.length s.sc 0 none 0 0 none 0 0 h1 := fun h1 v w1 h1' h2' =>
    f16_2_in _ _ _ _ _ _ _ _ _ _ _ _ _ _ _ _ _ (brB_of (fun z => hbad (h1' z) h1 w1) fun z => s3 (h2' z).1 (h2' z).2.1 (h2' z).2.2 h1 w1)
  refine f16_go _ _ _ _ _ _ _ _ _ (f34_spec (s := s) w (fun h' w' => hR h' [] w') fun t h1 ht w1 => ⟨t, rfl, ?_⟩)
  refine brB_of (fun z1 => s2 h1 _ w1 (fun _ => .inl fun p => by have := ht.2 p; rw [this] at z1; cases z1) fun z => by cases z) fun z1 => brB_of (fun z2 => s2 h1 _ w1 (fun _ => .inr (.inl (by simpa using z2))) fun z => by cases z) fun z2 =>
    s2 h1 _ w1 (fun z3 => .inr (.inr (by simpa using z3))) fun z3 => ⟨ht.1 (by simpa using z1), by simpa using z2, by simpa using z3⟩
theorem f4_spec {s : StM} {c : Int} (T : TabOk w0) (k : s.Ok w0) (hk : ∀ h, K (.bool true) h) : EvC Go.Proofs.Tryd.prog w0 4 #[s.agg2, .int .i64 c] K (fun _ => none) := by
  have w0' : Own w0 (fun _ => none) [] := Own.nil
  refine f4_go _ _ _ _ _ _ _ _ _ (f10_spec k ⟨_, rfl, brB_of (fun _ => awake_sc T w0' hk) fun z => by cases z⟩ fun lt => ⟨_, rfl, brB_of (fun z => by cases z) fun _ => ?_⟩)
  refine f15_spec (s := s) (c := c) T w0' (fun h' D w' => st_arg k lt) lt (fun hb h1 w1 => ⟨_, _, _, _, _, _, _, _, rfl, ?_⟩) fun hm a1 a2 h1 o ho ov w1 => ⟨_, _, _, _, _, _, _, _, rfl, ?_⟩
  · refine f16_spec (s := s) (c := c) w1 (fun h' D w' => st_arg k lt) lt (fun _ h2 w2 => ⟨_, _, _, _, _, _, _, _, rfl, ?_⟩) fun m1 m2 m3 => ?_
    · exact f17_spec (x := zeroS) (y := zeroS) zero_rd zero_rd zero_same ⟨_, rfl, brB_of (fun _ => brB_of (fun _ => awake_sc T w2 hk) fun z => by simp at z) fun z => by cases z⟩
    · rcases hb with hb | hb | hb
      · exact absurd m1 hb
      · omega
      · omega
  · refine f16_spec (s := s) (c := c) w1 (fun h' D w' => st_arg k lt) lt (fun hb => ?_) fun _ _ _ h2 y C hy ry w2 => ⟨_, _, _, _, _, _, _, _, rfl, ?_⟩
    · rcases hb with hb | hb | hb
      · exact absurd hm hb
      · omega
      · omega
    exact f17_spec (x := o) (y := y) (ov.rd w2 fun p hp => by simp [hp]) (ry h2 [] w2) (sameSt_of (by rw [ho, hy])) ⟨_, rfl, brB_of (fun _ => brB_of (fun _ => awake_sc T w2 hk) fun z => by simp at z) fun z => by cases z⟩
end
end Go.G.YtilifcggegabfaaDoor
