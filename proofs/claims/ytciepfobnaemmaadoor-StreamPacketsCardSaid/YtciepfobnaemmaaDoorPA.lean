/- A packet's reader. -/
import Derived.Test.YtciepfobnaemmaaDoorTI
import Derived.Test.YtciepfobnaemmaaDoorProg
set_option maxRecDepth 100000
namespace Go.G.YtciepfobnaemmaaDoor
open Go.RowKit
open Value (string slice int bool agg)
/-! ### numbers -/
theorem wrap8 (n : Nat) : IntKind.u8.wrap ((n : Nat) : Int) = ((n % 256 : Nat) : Int) := by
  simp [IntKind.wrap, IntKind.signed, IntKind.bits]
theorem wrap64u {n : Int} (h0 : 0 ≤ n) (h1 : n < 18446744073709551616) : IntKind.u64.wrap n = n := by
  simp [IntKind.wrap, IntKind.signed, IntKind.bits]; omega
theorem wrap32u {n : Int} (h0 : 0 ≤ n) (h1 : n < 4294967296) : IntKind.u32.wrap n = n := by
  simp [IntKind.wrap, IntKind.signed, IntKind.bits]; omega
theorem wrap32_rg (n : Int) : 0 ≤ IntKind.u32.wrap n ∧ IntKind.u32.wrap n < 4294967296 := by
  simp [IntKind.wrap, IntKind.signed, IntKind.bits]; omega
theorem ofInt_nat (w n : Nat) : BitVec.ofInt w ((n : Nat) : Int) = BitVec.ofNat w n := BitVec.ofInt_natCast w n
/-- A byte with its highest bit set. -/
theorem or128 (n : Nat) : IntKind.u8.wrap (((BitVec.toNat ((BitVec.ofInt 8 (IntKind.u8.wrap ((n : Nat) : Int))) ||| (BitVec.ofInt 8 (128 : Int)))) : Nat) : Int) = ((n % 128 + 128 : Nat) : Int) := by
  rw [wrap8, wrap8, ofInt_nat, BitVec.toNat_or, BitVec.toNat_ofNat]
  have e1 : (BitVec.ofInt 8 (128 : Int)).toNat = 128 := by decide
  rw [e1]
  have e2 : ∀ m, m < 256 → (m % 256 % 2 ^ 8 ||| 128) % 256 = m % 128 + 128 := by decide
  have := e2 (n % 256) (Nat.mod_lt _ (by decide))
  have e3 : n % 256 % 256 = n % 256 := Nat.mod_mod _ _
  rw [e3] at this
  rw [this]
  congr 1
  omega
theorem fdiv128 (n : Nat) : Int.fdiv ((n : Nat) : Int) (128 : Int) = ((n / 128 : Nat) : Int) := by
  rw [Int.fdiv_eq_ediv_of_nonneg _ (by decide)]; omega
/-- A number of bytes, seven bits a byte. -/
def putV (n : Nat) : List UInt8 := if h : n < 128 then [UInt8.ofNat n] else UInt8.ofNat (n % 128 + 128) :: putV (n / 128)
termination_by n
decreasing_by omega
theorem putV_small {n : Nat} (h : n < 128) : putV n = [UInt8.ofNat n] := by rw [putV, dif_pos h]
theorem putV_step {n : Nat} (h : ¬ n < 128) : putV n = UInt8.ofNat (n % 128 + 128) :: putV (n / 128) := by rw [putV, dif_neg h]
theorem putV_len : ∀ (k n : Nat), n < 128 ^ (k + 1) → 1 ≤ (putV n).length ∧ (putV n).length ≤ k + 1
  | 0, n, h => by rw [putV_small (by simpa using h)]; simp
  | k + 1, n, h => by
    by_cases q : n < 128
    · rw [putV_small q]; simp
    · have := putV_len k (n / 128) (by rw [Nat.pow_succ] at h; omega)
      rw [putV_step q, List.length_cons]; omega
theorem putV_len10 {n : Nat} (h : n < 18446744073709551616) : 1 ≤ (putV n).length ∧ (putV n).length ≤ 10 := putV_len 9 n (by omega)
/-- The lowest bytes of a number, the highest first. -/
def fixedV (n : Nat) : Nat → List UInt8
  | 0 => []
  | k + 1 => UInt8.ofNat (n / 256 ^ k % 256) :: fixedV n k
theorem fixedV_len (n : Nat) : ∀ k, (fixedV n k).length = k
  | 0 => rfl
  | k + 1 => by simp [fixedV, fixedV_len n k]
theorem byte_cell {m : Nat} (h : m < 256) : [Value.int .u8 ((m : Nat) : Int)] = u8s [UInt8.ofNat m] := by
  simp [u8s, UInt8.toNat_ofNat', Nat.mod_eq_of_lt h]
theorem u8s_app (a b : List UInt8) : u8s (a ++ b) = u8s a ++ u8s b := by simp [u8s]
/-- A byte is put behind a new row. -/
theorem App_byte {w0 : World} {h : AH} {B : List (Nat × AB)} {a : Option Addr} {c m : Nat} {l : List UInt8} {K : Option Addr → Nat → AH → Prop} (v : SlV 1 a l.length c (u8s l)) (w : Own w0 h (slB a (u8s l) (c * 1) ++ B)) (hl : l.length ≤ 100000000000000) (hm : m < 256)
    (hk : ∀ a' c' h', SlV 1 a' (l ++ [UInt8.ofNat m]).length c' (u8s (l ++ [UInt8.ofNat m])) → Own w0 h' (slB a' (u8s (l ++ [UInt8.ofNat m])) (c' * 1) ++ B) → K a' c' h') : App w0 h 1 1 a l.length c 1 [.int .u8 ((m : Nat) : Int)] K := by
  refine App_slB v w (by omega) (by omega) rfl (fun y hy => by rw [List.mem_singleton] at hy; subst hy; rfl) fun a' c' h' v' w' => ?_
  rw [byte_cell hm, ← u8s_app] at v' w'
  exact hk a' c' h' (by rw [List.length_append]; exact v') w'
/-- Bytes are put behind a new row. -/
theorem App_bytes {w0 : World} {h : AH} {B : List (Nat × AB)} {a : Option Addr} {c : Nat} {l x : List UInt8} {K : Option Addr → Nat → AH → Prop} (v : SlV 1 a l.length c (u8s l)) (w : Own w0 h (slB a (u8s l) (c * 1) ++ B)) (hl : l.length + x.length ≤ 100000000000000)
    (hk : ∀ a' c' h', SlV 1 a' (l ++ x).length c' (u8s (l ++ x)) → Own w0 h' (slB a' (u8s (l ++ x)) (c' * 1) ++ B) → K a' c' h') : App w0 h 1 1 a l.length c x.length (u8s x) K := by
  refine App_slB v w (by omega) (by omega) (by rw [u8s_length, Nat.mul_one]) (u8s_cell _) fun a' c' h' v' w' => ?_
  rw [← u8s_app] at v' w'
  exact hk a' c' h' (by rw [List.length_append]; exact v') w'
theorem App_copy {w0 : World} {h : AH} {B : List (Nat × AB)} {x : List UInt8} {K : Option Addr → Nat → AH → Prop} (w : Own w0 h B) (hl : x.length ≤ 100000000000000)
    (hk : ∀ a' c' h', SlV 1 a' x.length c' (u8s x) → Own w0 h' (slB a' (u8s x) (c' * 1) ++ B) → K a' c' h') : App w0 h 1 1 none 0 0 x.length (u8s x) K :=
  App_new w (by omega) (by omega) (by rw [u8s_length, Nat.mul_one]) (u8s_cell _) hk

/-! ### what a reader of a packet's bytes does, plainly: its bytes and its error -/
abbrev RS := List UInt8 × Int
def failS (s : RS) (is : Bool) (e : Int) : RS := if is && decide (s.2 = 0) then (s.1, e) else s
/-- Bytes from the front; what is there instead, when it fails, is for the reader to say. -/
def takeS (s : RS) (n : Nat) : List UInt8 × RS := if s.2 = 0 then (if n ≤ s.1.length then (s.1.take n, (s.1.drop n, 0)) else ([], (s.1, 3))) else ([], s)
def oneS (s : RS) : Nat × RS := match (takeS s 1).1 with
  | [x] => (x.toNat, (takeS s 1).2)
  | _ => (0, (takeS s 1).2)
def twoS (s : RS) : Nat × RS := match (takeS s 2).1 with
  | [x, y] => (x.toNat * 256 + y.toNat, (takeS s 2).2)
  | _ => (0, (takeS s 2).2)
def textS (s : RS) : List UInt8 × RS := takeS (twoS s).2 (twoS s).1
def idS (s : RS) : Nat × RS := ((twoS s).1, failS (twoS s).2 (decide ((twoS s).1 = 0)) 3)

structure WantM where
  filter : ByteArray
  qos : Int
@[reducible] def WantM.cells (m : WantM) : List Value := [.string m.filter, .int .i64 m.qos]
/-- A packet. -/
structure PkM where
  kind : Int
  id : Int
  dup : Bool
  topic : ByteArray
  pa : Option Addr
  pc : Nat
  pay : List UInt8
  qos : Int
  ret : Bool
  til : Int
  client : ByteArray
  clean : Bool
  alive : Int
  will : Bool
  present : Bool
  code : Int
  wa : Option Addr
  wc : Nat
  wants : List WantM
  ca : Option Addr
  cc : Nat
  codes : List Int
@[reducible] def PkM.cells (m : PkM) : List Value := [.int .i64 m.kind, .int .i64 m.id, .bool m.dup, .string m.topic, .slice m.pa m.pay.length m.pc, .int .i64 m.qos, .bool m.ret, .int .i64 m.til, .string m.client, .bool m.clean, .int .i64 m.alive, .bool m.will, .bool m.present, .int .i64 m.code, .slice m.wa m.wants.length m.wc, .slice m.ca m.codes.length m.cc]
@[reducible] def PkM.agg (m : PkM) : Value := .agg m.cells.toArray
/-- The packet without its addresses. -/
structure Pk where
  kind : Int := 0
  id : Int := 0
  dup : Bool := false
  topic : ByteArray := ⟨#[]⟩
  pay : List UInt8 := []
  qos : Int := 0
  ret : Bool := false
  til : Int := 0
  client : ByteArray := ⟨#[]⟩
  clean : Bool := false
  alive : Int := 0
  will : Bool := false
  present : Bool := false
  code : Int := 0
  wants : List (ByteArray × Int) := []
  codes : List Int := []
def WantM.key (m : WantM) : ByteArray × Int := (m.filter, m.qos)
def PkM.key (m : PkM) : Pk := ⟨m.kind, m.id, m.dup, m.topic, m.pay, m.qos, m.ret, m.til, m.client, m.clean, m.alive, m.will, m.present, m.code, m.wants.map WantM.key, m.codes⟩

/-! what is read of each kind -/
def bitN (x i : Nat) : Bool := decide (x / 2 ^ i % 2 = 1)
def badF (f : Nat) : Bool := bitN f 0 || decide (f / 8 % 4 = 3) || (!(bitN f 2) && (decide (0 < f / 8 % 4) || bitN f 5)) || (bitN f 6 && !(bitN f 7))
def mqttL : List UInt8 := [77, 81, 84, 84]
/-- A CONNECT up to its flags. -/
def con1 (s : RS) : Nat × RS :=
  let t := textS s
  let o := oneS (failS t.2 (!decide (t.1 = mqttL)) 3)
  let f := oneS (failS o.2 (!decide (o.1 = 4)) 14)
  (f.1, failS f.2 (badF f.1) 3)
/-- Its client. -/
def con2 (s : RS) : Nat × List UInt8 × RS :=
  let a := twoS s
  let c := textS a.2
  (a.1, c.1, failS (failS c.2 (!(textB c.1)) 3) (decide (64 < c.1.length)) 2)
/-- Its will. -/
def con3 (s : RS) : List UInt8 × List UInt8 × RS :=
  let t := textS s
  let p := textS (failS t.2 (!(nameB (toB t.1))) 15)
  (t.1, p.1, failS p.2 (decide (256 < p.1.length)) 2)
/-- Its user's name and word. -/
def con4 (f : Nat) (s : RS) : RS :=
  let s1 := if bitN f 7 then failS (textS s).2 (!(textB (textS s).1)) 3 else s
  if bitN f 6 then (textS s1).2 else s1
def conS (s : RS) : Pk × RS :=
  let f := con1 s
  let c := con2 f.2
  let w := if bitN f.1 2 then con3 c.2.2 else ([], [], c.2.2)
  ({ kind := 1, clean := bitN f.1 1, will := bitN f.1 2, qos := ((f.1 / 8 % 4 : Nat) : Int), ret := bitN f.1 5, alive := ((c.1 : Nat) : Int), client := toB c.2.1, topic := toB w.1, pay := w.2.1 }, con4 f.1 w.2.2)
/-- Filters: as many as there are. -/
def wantsF (sub : Bool) : Nat → List (ByteArray × Int) → RS → List (ByteArray × Int) × RS
  | 0, acc, s => (acc, s)
  | n + 1, acc, s => if s.1 ≠ [] ∧ s.2 = 0 then
      let t := textS (failS s (decide (acc.length = 8)) 13)
      let s1 := failS t.2 (!(filterB (toB t.1))) 15
      if sub then wantsF sub n (acc ++ [(toB t.1, (((oneS s1).1 : Nat) : Int))]) (failS (oneS s1).2 (decide (2 < (oneS s1).1)) 3)
      else wantsF sub n (acc ++ [(toB t.1, 0)]) s1
    else (acc, s)
def codedB (n : Nat) : Bool := decide (n ≤ 2) || decide (n = 128)
def codesF : Nat → List Int → RS → List Int × RS
  | 0, acc, s => (acc, s)
  | n + 1, acc, s => if s.1 ≠ [] ∧ s.2 = 0 then
      let o := oneS (failS s (decide (acc.length = 8)) 13)
      codesF n (acc ++ [((o.1 : Nat) : Int)]) (failS o.2 (!(codedB o.1)) 3)
    else (acc, s)
/-- The length at the front. -/
def lenF : Nat → Nat → Nat → List UInt8 → Nat × Nat × Int
  | 0, _, _, _ => (0, 0, 3)
  | _ + 1, _, _, [] => (0, 0, 5)
  | f + 1, k, n, b :: r => if 128 ≤ b.toNat then lenF f (k + 1) (n + b.toNat % 128 * 128 ^ k) r else (n + b.toNat % 128 * 128 ^ k, k + 1, 0)
def lenS (l : List UInt8) : Nat × Nat × Int := lenF 4 0 0 l
def hasIdB (k : Nat) : Bool := decide (4 ≤ k ∧ k ≤ 11)
def headB (x : Nat) : Bool :=
  let k := x / 16
  let f := x % 16
  if k = 0 ∨ k = 15 then false
  else if k = 3 then !decide (f / 2 % 4 = 3) && (!(bitN f 3) || !decide (f / 2 % 4 = 0))
  else if k = 6 ∨ k = 8 ∨ k = 10 then decide (f = 2)
  else decide (f = 0)
def f66_J : Nat → List Nat × Nat := jOf [(1, (1 :: (rn 13 10 [14, 15, 16, 17])), 0)]

def f66_1 (w0 : World) (K : Value → AH → Prop) (a : Option Addr) (b : Int) (c : Bool) (h : AH) : Prop :=
  ∀ j : Nat → Value, LPk Proofs.Tryd.prog w0 (EvC Proofs.Tryd.prog w0) f66_J 66 K 1 (.v (.pointer a) :: (jv j 2 1 (.v (.int .i64 b) :: (jv j 13 10 (.v (.bool c) :: (jv j 18 4 [])))))) [] h

theorem f66_1_in {w0 : World} {K : Value → AH → Prop} (d : Option Addr) (b : Int) (e : Bool) (h : AH)
  (hv : (brB e (∃ a : Addr, ((d = (some a)) ∧ (∃ c : List Go.Value, (∃ g : Nat, (((Array.size (Go.World.heap w0)) ≤ (Addr.block (Addr.add a 1))) ∧ (((none : Option Nat) = none) ∧ (((h (Addr.block (Addr.add a 1))) = (some (AB.cells c g))) ∧ ((((Addr.off (Addr.add a 1)) + (Array.size #[(int .i64 b)])) ≤ (List.length c)) ∧ (K (Value.tuple #[]) (AH.put h (Addr.block (Addr.add a 1)) (AB.cells (setCells c (Addr.off (Addr.add a 1)) [(int .i64 b)]) g))))))))))) (K (Value.tuple #[]) h))) :
  f66_1 w0 K d b e h := fun j => LP_intro (P := Proofs.Tryd.prog) (Eq.mp (by kernel_rfl) hv)

theorem f66_go {w0 : World} {K : Value → AH → Prop} (a : Option Addr) (c : Bool) (b : Int) (h : AH)
  (hv : (brB c (∃ d : Addr, ((a = (some d)) ∧ (∃ e : Int, (((cellA w0 h (Addr.add d 1)) = (some (int .i64 e))) ∧ (f66_1 w0 K a b (e == (0 : Int)) h))))) (f66_1 w0 K a b false h))) :
  EvC Proofs.Tryd.prog w0 66 ([(.pointer a), (.bool c), (.int .i64 b)]).toArray K h := EvC_intro (P := Proofs.Tryd.prog) f66_J (Eq.mp (by kernel_rfl) hv)
def f37_J : Nat → List Nat × Nat := jOf []



theorem f37_go {w0 : World} {K : Value → AH → Prop} (b : Option Addr) (c : Int) (h : AH)
  (hv : (∃ e : Addr, ((b = (some e)) ∧ (∃ g : Int, (((cellA w0 h (Addr.add e 1)) = (some (int .i64 g))) ∧ (brB (g == (0 : Int)) (∃ a : Addr, ((b = (some a)) ∧ (∃ d : List Go.Value, (∃ i : Nat, (((Array.size (Go.World.heap w0)) ≤ (Addr.block (Addr.add a 1))) ∧ (((none : Option Nat) = none) ∧ (((h (Addr.block (Addr.add a 1))) = (some (AB.cells d i))) ∧ ((((Addr.off (Addr.add a 1)) + (Array.size #[(int .i64 c)])) ≤ (List.length d)) ∧ (K (Value.tuple #[]) (AH.put h (Addr.block (Addr.add a 1)) (AB.cells (setCells d (Addr.off (Addr.add a 1)) [(int .i64 c)]) i))))))))))) (K (Value.tuple #[]) h))))))) :
  EvC Proofs.Tryd.prog w0 37 ([(.pointer b), (.int .i64 c)]).toArray K h := EvC_intro (P := Proofs.Tryd.prog) f37_J (Eq.mp (by kernel_rfl) hv)
def f89_J : Nat → List Nat × Nat := jOf []



theorem f89_go {w0 : World} {K : Value → AH → Prop} (b : Option Addr) (a : Int) (h : AH)
  (hv : (∃ n : Addr, ((b = (some n)) ∧ (∃ v : Option Addr, (∃ o : Nat, (∃ x : Nat, (((cellA w0 h (Addr.add n 0)) = (some (slice v o x))) ∧ (EvC Proofs.Tryd.prog w0 66 #[(Value.pointer b), (bool (decide ((((o : Nat) : Int) < a)))), (int .i64 (3 : Int))] (fun y d => ((y = (Value.tuple #[])) ∧ (∃ p : Addr, ((b = (some p)) ∧ (∃ q : Int, (((cellA w0 d (Addr.add p 1)) = (some (int .i64 q))) ∧ (brB (q != (0 : Int)) (((0 : Int) ≤ (if ((2 : Int) < a) then (2 : Int) else a)) ∧ (((if ((2 : Int) < a) then (2 : Int) else a) ≤ (if ((2 : Int) < a) then (2 : Int) else a)) ∧ ((((if ((2 : Int) < a) then (2 : Int) else a) * (1 : Int)) ≤ (140737488355328 : Int)) ∧ (((if ((2 : Int) < a) then (2 : Int) else a) ≤ (140737488355328 : Int)) ∧ ((1 = 1) ∧ (newB w0 d (AB.cells (replF (Int.toNat (if ((2 : Int) < a) then (2 : Int) else a)) [(int .u8 (0 : Int))]) ((Int.toNat (if ((2 : Int) < a) then (2 : Int) else a)) * 1)) (fun z A => (K (slice (some (Addr.mk z 0 none)) (Int.toNat (if ((2 : Int) < a) then (2 : Int) else a)) (Int.toNat (if ((2 : Int) < a) then (2 : Int) else a))) A)))))))) (∃ r : Addr, ((b = (some r)) ∧ (∃ s : Option Addr, (∃ B : Nat, (∃ i : Nat, (((cellA w0 d (Addr.add r 0)) = (some (slice s B i))) ∧ (((0 : Int) ≤ a) ∧ ((a ≤ ((i : Nat) : Int)) ∧ (∃ t : Addr, ((b = (some t)) ∧ (∃ k : Option Addr, (∃ g : Nat, (∃ e : Nat, (((cellA w0 d (Addr.add t 0)) = (some (slice k g e))) ∧ (((0 : Int) ≤ a) ∧ ((a ≤ ((g : Nat) : Int)) ∧ (∃ c : Addr, ((b = (some c)) ∧ (∃ m : List Go.Value, (∃ u : Nat, (((Array.size (Go.World.heap w0)) ≤ (Addr.block (Addr.add c 0))) ∧ (((Addr.spot (Addr.add c 0)) = none) ∧ (((d (Addr.block (Addr.add c 0))) = (some (AB.cells m u))) ∧ ((((Addr.off (Addr.add c 0)) + (Array.size #[(slice (cutA 1 k e (Int.toNat a)) (g - (Int.toNat a)) (e - (Int.toNat a)))])) ≤ (List.length m)) ∧ (K (slice s (Int.toNat a) i) (AH.put d (Addr.block (Addr.add c 0)) (AB.cells (setCells m (Addr.off (Addr.add c 0)) [(slice (cutA 1 k e (Int.toNat a)) (g - (Int.toNat a)) (e - (Int.toNat a)))]) u)))))))))))))))))))))))))))))))))) h)))))))) :
  EvC Proofs.Tryd.prog w0 89 ([(.pointer b), (.int .i64 a)]).toArray K h := EvC_intro (P := Proofs.Tryd.prog) f89_J (Eq.mp (by kernel_rfl) hv)
def f41_J : Nat → List Nat × Nat := jOf []



theorem f41_go {w0 : World} {K : Value → AH → Prop} (b : Option Addr) (a : Int) (h : AH)
  (hv : (∃ m : Addr, ((b = (some m)) ∧ (∃ n : Int, (((cellA w0 h (Addr.add m 1)) = (some (int .i64 n))) ∧ (brB (n != (0 : Int)) (K (slice none 0 0) h) (∃ o : Addr, ((b = (some o)) ∧ (∃ v : Option Addr, (∃ p : Nat, (∃ x : Nat, (((cellA w0 h (Addr.add o 0)) = (some (slice v p x))) ∧ (brB (decide ((((p : Nat) : Int) < a))) (EvC Proofs.Tryd.prog w0 37 #[(Value.pointer b), (int .i64 (3 : Int))] (fun y z => ((y = (Value.tuple #[])) ∧ (K (slice none 0 0) z))) h) (∃ q : Addr, ((b = (some q)) ∧ (∃ r : Option Addr, (∃ A : Nat, (∃ s : Nat, (((cellA w0 h (Addr.add q 0)) = (some (slice r A s))) ∧ (((0 : Int) ≤ a) ∧ ((a ≤ ((s : Nat) : Int)) ∧ (rowsOf w0 h 1 r (Int.toNat a) (fun B => (App w0 h 1 1 none 0 0 (Int.toNat a) B (fun C D g => (∃ t : Addr, ((b = (some t)) ∧ (∃ i : Option Addr, (∃ e : Nat, (∃ d : Nat, (((cellA w0 g (Addr.add t 0)) = (some (slice i e d))) ∧ (((0 : Int) ≤ a) ∧ ((a ≤ ((e : Nat) : Int)) ∧ (∃ c : Addr, ((b = (some c)) ∧ (∃ k : List Go.Value, (∃ u : Nat, (((Array.size (Go.World.heap w0)) ≤ (Addr.block (Addr.add c 0))) ∧ (((Addr.spot (Addr.add c 0)) = none) ∧ (((g (Addr.block (Addr.add c 0))) = (some (AB.cells k u))) ∧ ((((Addr.off (Addr.add c 0)) + (Array.size #[(slice (cutA 1 i d (Int.toNat a)) (e - (Int.toNat a)) (d - (Int.toNat a)))])) ≤ (List.length k)) ∧ (K (slice C (0 + (Int.toNat a)) D) (AH.put g (Addr.block (Addr.add c 0)) (AB.cells (setCells k (Addr.off (Addr.add c 0)) [(slice (cutA 1 i d (Int.toNat a)) (e - (Int.toNat a)) (d - (Int.toNat a)))]) u)))))))))))))))))))))))))))))))))))))))))))) :
  EvC Proofs.Tryd.prog w0 41 ([(.pointer b), (.int .i64 a)]).toArray K h := EvC_intro (P := Proofs.Tryd.prog) f41_J (Eq.mp (by kernel_rfl) hv)
/-! ### packets in memory; a reader -/
theorem Own.upd2 {w0 : World} {h : AH} {q : Nat} {o o' : AB} {x : Nat × AB} {B : List (Nat × AB)} (w : Own w0 h (x :: (q, o) :: B)) (ho : o'.plain = true := by rfl) : Own w0 (h.put q o') (x :: (q, o') :: B) := Go.G.Own.upd (cs := [x]) w ho
theorem Own.put' {w0 : World} {h : AH} {b : Nat} {o o' : AB} {bs : List (Nat × AB)} (w : Own w0 h ((b, o) :: bs)) (ho : o'.plain = true := by rfl) : Own w0 (h.put b o') ((b, o') :: bs) := Go.G.Own.put w ho
theorem Own.sw {w0 : World} {h : AH} {x y : Nat × AB} {B : List (Nat × AB)} (w : Own w0 h (x :: y :: B)) : Own w0 h (y :: x :: B) := w.perm (List.Perm.swap ..)
@[reducible] def rdB (b : Nat) (p : Option Addr) (c : Nat) (s : RS) : Nat × AB := (b, .cells [.slice p s.1.length c, .int .i64 s.2] 2)
/-- A reader's bytes lie there, as long as these blocks do. -/
structure Rdr (w0 : World) (R : List (Nat × AB)) (p : Option Addr) (c : Nat) (l : List UInt8) : Prop where
  rd : ∀ h', (∀ x ∈ R, w0.heap.size ≤ x.1 ∧ h' x.1 = some x.2) → Rd w0 h' p (u8s l)
  cap : l.length ≤ c
  len : l.length ≤ 140737488355328
theorem Rdr.at {w0 : World} {h : AH} {R B : List (Nat × AB)} {p : Option Addr} {c : Nat} {l : List UInt8} (r : Rdr w0 R p c l) (w : Own w0 h B) (hs : R ⊆ B) : Rd w0 h p (u8s l) := r.rd h fun x hx => w.is x (hs hx)
theorem Rdr.drop {w0 : World} {R : List (Nat × AB)} {p : Option Addr} {c : Nat} {l : List UInt8} (r : Rdr w0 R p c l) {n : Nat} (hn : n ≤ l.length) : Rdr w0 R (cutA 1 p c n) (c - n) (l.drop n) :=
  ⟨fun h' hx => rd8_cut (r.rd h' hx) r.cap hn, by have := r.cap; simp; omega, by have := r.len; simp; omega⟩
theorem sub_cons {R B : List (Nat × AB)} {x : Nat × AB} (hs : R ⊆ B) : R ⊆ x :: B := fun _ h => List.mem_cons_of_mem _ (hs h)
theorem sub_app {R B C : List (Nat × AB)} (hs : R ⊆ B) : R ⊆ C ++ B := fun _ h => List.mem_append_right _ (hs h)
theorem rd8_pre {w0 : World} {h : AH} {a : Option Addr} {x y : List UInt8} (r : Rd w0 h a (u8s (x ++ y))) : Rd w0 h a (u8s x) := fun j v hj => r j v (by
  rw [show u8s (x ++ y) = u8s x ++ u8s y by simp [u8s], List.getElem?_append_left (List.getElem?_eq_some_iff.1 hj).1]; exact hj)
theorem rd8_take {w0 : World} {h : AH} {a : Option Addr} {l : List UInt8} (r : Rd w0 h a (u8s l)) (n : Nat) : Rd w0 h a (u8s (l.take n)) := rd8_pre (y := l.drop n) (by rw [List.take_append_drop]; exact r)
theorem rdB_drop {b d n : Nat} {q : Option Addr} {l : List UInt8} : rdB b q d (l.drop n, 0) = (b, .cells [.slice q (l.length - n) d, .int .i64 0] 2) := by
  show (b, AB.cells [.slice q (l.drop n).length d, .int .i64 0] 2) = _
  rw [List.length_drop]
/-- What is handed over by take, whatever came. -/
def takeX (s : RS) (n : Nat) : List UInt8 := if s.2 = 0 ∧ n ≤ s.1.length then s.1.take n else List.replicate (min n 2) 0
theorem takeS_ok {s : RS} {n : Nat} (h : s.2 = 0) (hn : n ≤ s.1.length) : takeS s n = (s.1.take n, (s.1.drop n, 0)) := by unfold takeS; rw [if_pos h, if_pos hn]
theorem takeS_no {s : RS} {n : Nat} (h : ¬ (s.2 = 0 ∧ n ≤ s.1.length)) : takeS s n = ([], failS s (decide (s.1.length < n)) 3) := by
  unfold takeS failS
  by_cases q : s.2 = 0
  · have hn : ¬ n ≤ s.1.length := fun z => h ⟨q, z⟩
    rw [if_pos q, if_neg hn, decide_eq_true q, decide_eq_true (by omega)]; rfl
  · rw [if_neg q, decide_eq_false q, Bool.and_false]; rfl
theorem failS_err {s : RS} {is : Bool} {e : Int} (h : s.2 ≠ 0) : failS s is e = s := by
  unfold failS; rw [decide_eq_false h, Bool.and_false]; rfl
theorem failS_fst (s : RS) (is : Bool) (e : Int) : (failS s is e).1 = s.1 := by unfold failS; split <;> rfl
section
variable {w0 : World} {K : Value → AH → Prop} {h : AH} {B R : List (Nat × AB)} {b c : Nat} {p : Option Addr} {s : RS}
/-- fail. -/
theorem f66_spec {is : Bool} {e : Int} (w : Own w0 h (rdB b p c s :: B)) (hk : ∀ h', Own w0 h' (rdB b p c (failS s is e) :: B) → K (.tuple #[]) h') : EvC Go.Proofs.Tryd.prog w0 66 #[.pointer (some ⟨b, 0, none⟩), .bool is, .int .i64 e] K h := by
  refine f66_go _ _ _ _ (brB_of (fun z => ⟨_, rfl, _, w.cell0 rfl, f66_1_in _ _ _ _ (brB_of (fun z1 => ⟨_, rfl, _, _, w.ge, rfl, w.hd, by simp [Addr.add], ?_⟩) fun z1 => ?_)⟩) fun z => f66_1_in _ _ _ _ (brB_of (fun q => by cases q) fun _ => ?_))
  · have e1 : failS s is e = (s.1, e) := by unfold failS; rw [z, decide_eq_true (by simpa using z1)]; rfl
    rw [e1] at hk
    exact hk _ (Own.put' w)
  · have e1 : failS s is e = s := failS_err (by simpa using z1)
    rw [e1] at hk
    exact hk _ w
  · have e1 : failS s is e = s := by unfold failS; rw [z]; rfl
    rw [e1] at hk
    exact hk _ w
/-- .. the document's. -/
theorem f37_spec {e : Int} (w : Own w0 h (rdB b p c s :: B)) (hk : ∀ h', Own w0 h' (rdB b p c (failS s true e) :: B) → K (.tuple #[]) h') : EvC Go.Proofs.Tryd.prog w0 37 #[.pointer (some ⟨b, 0, none⟩), .int .i64 e] K h := by
  refine f37_go _ _ _ ⟨_, rfl, _, w.cell0 rfl, brB_of (fun z1 => ⟨_, rfl, _, _, w.ge, rfl, w.hd, by simp [Addr.add], ?_⟩) fun z1 => ?_⟩
  · have e1 : failS s true e = (s.1, e) := by unfold failS; rw [decide_eq_true (by simpa using z1)]; rfl
    rw [e1] at hk
    exact hk _ (Own.put' w)
  · have e1 : failS s true e = s := failS_err (by simpa using z1)
    rw [e1] at hk
    exact hk _ w
/-- take. -/
theorem f89_spec {n : Nat} (w : Own w0 h (rdB b p c s :: B)) (r : Rdr w0 R p c s.1) (hs : R ⊆ B) (hn : n ≤ 140737488355328)
    (hk : ∀ h' p' c' a d D, Own w0 h' (rdB b p' c' (takeS s n).2 :: (D ++ B)) → Rdr w0 R p' c' (takeS s n).2.1 → Rd w0 h' a (u8s (takeX s n)) → K (.slice a (takeX s n).length d) h') :
    EvC Go.Proofs.Tryd.prog w0 89 #[.pointer (some ⟨b, 0, none⟩), .int .i64 ((n : Nat) : Int)] K h := by
  refine f89_go _ _ _ ⟨_, rfl, _, _, _, w.cell0 rfl, f66_spec w fun h1 w1 => ⟨rfl, _, rfl, _, w1.cell0 rfl, ?_⟩⟩
  have e0 : decide (((s.1.length : Nat) : Int) < ((n : Nat) : Int)) = decide (s.1.length < n) := by rw [decide_eq_decide]; omega
  rw [e0] at w1 ⊢
  by_cases q : s.2 = 0 ∧ n ≤ s.1.length
  · have e1 : failS s (decide (s.1.length < n)) 3 = s := by unfold failS; rw [decide_eq_false (by omega)]; rfl
    rw [e1] at w1 ⊢
    refine brB_of (fun z => by rw [q.1] at z; simp at z) fun _ => ⟨_, rfl, _, _, _, w1.cell0 rfl, by omega, by have := r.cap; omega, _, rfl, _, _, _, w1.cell0 rfl, by omega, by omega, _, rfl, _, _, w1.ge, rfl, w1.hd, by simp [Addr.add], ?_⟩
    rw [takeS_ok q.1 q.2, takeX, if_pos q] at hk
    have e2 : (s.1.take n).length = n := by rw [List.length_take]; omega
    have w2 := Own.put' (o' := .cells [.slice (cutA 1 p c n) (s.1.length - n) (c - n), .int .i64 0] 2) w1
    have := hk _ (cutA 1 p c n) (c - n) p c [] (by rw [rdB_drop]; exact w2) (r.drop q.2) (rd8_take (r.at w2.tail hs) n)
    rw [e2] at this
    obtain ⟨l, e⟩ := s
    obtain ⟨q1, q2⟩ := q
    dsimp only at q1
    subst q1
    exact this
  · have e1 := takeS_no q
    rw [e1] at hk
    have ne : (failS s (decide (s.1.length < n)) 3).2 ≠ 0 := by
      by_cases z : s.2 = 0
      · have : s.1.length < n := Nat.lt_of_not_le fun y => q ⟨z, y⟩
        unfold failS; rw [decide_eq_true this, decide_eq_true z]; exact (by decide : (3 : Int) ≠ 0)
      · rw [failS_err z]; exact z
    refine brB_of (fun _ => ?_) fun z => absurd z (by simpa using ne)
    have em : (if ((2 : Int) < ((n : Nat) : Int)) then (2 : Int) else ((n : Nat) : Int)) = ((min n 2 : Nat) : Int) := by split <;> omega
    rw [em]
    refine ⟨by omega, by omega, by omega, by omega, rfl, fun b2 hb hn2 => ?_⟩
    rw [takeX, if_neg q] at hk
    have er : ∀ k, replF k [(Value.int .u8 0)] = u8s (List.replicate k 0) := fun k => by
      induction k with
      | zero => rfl
      | succ k ih => rw [replF, ih, List.replicate_succ]; rfl
    rw [Int.toNat_natCast, er]
    have w2 := Own.new (o := .cells (u8s (List.replicate (min n 2) 0)) (min n 2 * 1)) w1 hb hn2
    have := hk _ p c (some ⟨b2, 0, none⟩) (min n 2) [(b2, .cells (u8s (List.replicate (min n 2) 0)) (min n 2 * 1))] (Own.sw w2) (by rw [failS_fst]; exact r) (Sl.rd (e := 1) (n := min n 2) (c := min n 2) ⟨by simp [u8s], Nat.le_refl _, rfl, rfl, w2.ge, w2.hd⟩)
    rw [List.length_replicate] at this
    exact this
/-- .. the document's. -/
theorem f41_spec {n : Nat} (w : Own w0 h (rdB b p c s :: B)) (r : Rdr w0 R p c s.1) (hs : R ⊆ B) (hn : n ≤ 140737488355328)
    (hk : ∀ h' p' c' a d, SlV 1 a (takeS s n).1.length d (u8s (takeS s n).1) → Own w0 h' (rdB b p' c' (takeS s n).2 :: (slB a (u8s (takeS s n).1) (d * 1) ++ B)) → Rdr w0 R p' c' (takeS s n).2.1 → K (.slice a (takeS s n).1.length d) h') :
    EvC Go.Proofs.Tryd.prog w0 41 #[.pointer (some ⟨b, 0, none⟩), .int .i64 ((n : Nat) : Int)] K h := by
  refine f41_go _ _ _ ⟨_, rfl, _, w.cell0 rfl, brB_of (fun z => ?_) fun z => ⟨_, rfl, _, _, _, w.cell0 rfl, brB_of (fun z1 => ?_) fun z1 => ⟨_, rfl, _, _, _, w.cell0 rfl, by omega, ?_, ?_⟩⟩⟩
  · have e1 : takeS s n = ([], s) := by unfold takeS; rw [if_neg (by simpa using z)]
    rw [e1] at hk
    exact hk h p c none 0 SlV.nil w r
  · have z' : s.2 = 0 := by simpa using z
    have z1' : ¬ n ≤ s.1.length := by have := of_decide_eq_true z1; omega
    have e1 : takeS s n = ([], failS s true 3) := by
      rw [takeS_no (fun y => z1' y.2), decide_eq_true (by omega)]
    rw [e1] at hk
    exact f37_spec w fun h1 w1 => ⟨rfl, hk h1 p c none 0 SlV.nil w1 (by rw [failS_fst]; exact r)⟩
  · have := r.cap; have := of_decide_eq_false z1; omega
  · have z' : s.2 = 0 := by simpa using z
    have hle : n ≤ s.1.length := by have := of_decide_eq_false z1; omega
    have e2 : (s.1.take n).length = n := by rw [List.length_take]; omega
    rw [takeS_ok z' hle, e2] at hk
    dsimp only at hk
    rw [Int.toNat_natCast]
    refine rowsOf_of (rd8_take (r.at w.tail hs) n) (by rw [u8s_length, e2, Nat.mul_one]) ?_
    refine App_new w (by omega) (by omega) (by rw [u8s_length, e2, Nat.mul_one]) (u8s_cell _) fun a2 c2 h2 v2 w2 => ?_
    have w3 : Own w0 h2 (rdB b p c s :: (slB a2 (u8s (s.1.take n)) (c2 * 1) ++ B)) := Own.front (ds := [rdB b p c s]) w2
    refine ⟨_, rfl, _, _, _, w3.cell0 rfl, by omega, by omega, _, rfl, _, _, w3.ge, rfl, w3.hd, by simp [Addr.add], ?_⟩
    have w4 := Own.put' (o' := .cells [.slice (cutA 1 p c n) (s.1.length - n) (c - n), .int .i64 0] 2) w3
    have := hk _ (cutA 1 p c n) (c - n) a2 c2 v2 (by rw [rdB_drop]; exact w4) (r.drop hle)
    obtain ⟨l, e⟩ := s
    dsimp only at z'
    subst z'
    rw [Nat.zero_add]
    exact this
end
end Go.G.YtciepfobnaemmaaDoor
