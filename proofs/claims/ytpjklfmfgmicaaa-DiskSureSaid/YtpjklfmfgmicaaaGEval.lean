/- An evaluator over the model's own code: what it says of a function is a plain proposition (no machine, no walk). This text: definitions alone. -/
import Derived.OrdersHeld
import Derived.Great.BuildSlice
import Derived.Below
import Derived.WalkKit
namespace Go.G

/-- What is known of a block that was made since the law began. -/
inductive AB where
  | cells (xs : List Value) (sz : Nat)
  | map (es : List (Value × Value))
  | sit (s : ByteArray) (pos : Nat)
  | mit (m : Option Nat) (left : List Nat) (cur : Option Nat)
  | strb (xs : List Value)

abbrev AH := Nat → Option AB
def AH.put (h : AH) (b : Nat) (o : AB) : AH := fun i => if i = b then some o else h i

/-- Nothing is known any more of the iterators over r. -/
def AH.noIt (h : AH) (r : Nat) : AH := fun i => match h i with
  | some (.mit (some q) l c) => if q = r then none else some (.mit (some q) l c)
  | x => x
/-- The map r is written. -/
def AH.putm (h : AH) (r : Nat) (es : List (Value × Value)) : AH := (h.noIt r).put r (.map es)

inductive AV where
  | v (x : Value)
  | bp (i off : Nat)
  | bs (i n : Nat)

abbrev Env := List AV
abbrev Bxs := List (Option (List Value))
abbrev XR := FuncId → Array Value → (Value → AH → Prop) → AH → Prop

/-- A test: one of two ways. -/
def brB (t : Bool) (A B : Prop) : Prop := Bool.rec B A t
theorem brB_iff (t : Bool) (A B : Prop) : brB t A B ↔ (t = true → A) ∧ (t = false → B) := by cases t <;> simp [brB]

def setE (env : Env) (d : Option Nat) (x : AV) : Env :=
  match d with
  | some d => env.set d x
  | none => env

def opd (env : Env) : Operand → AV
  | .tmp t => env.getD t (.v undef)
  | .const x => .v x
  | .global g => .v (.pointer (some ⟨g, 0, none⟩))
  | .func f => .v (.func (.func f) #[] #[])

/-! ### cells -/
def cellA (w0 : World) (h : AH) (a : Addr) : Option Value :=
  if a.block < w0.heap.size then w0.cell? a
  else match h a.block with
    | some (.cells xs _) => if a.spot.isSome then none else xs[a.off]?
    | some (.strb xs) => if a.spot.isSome then none else xs[a.off]?
    | _ => none

/-- From a on lie these. -/
def At (w0 : World) (h : AH) (a : Addr) (vs : List Value) : Prop := ∀ j x, vs[j]? = some x → cellA w0 h (a.add j) = some x

/-! ### types: the kinds of a value's cells -/
inductive LK where
  | int (k : IntKind) | bool | str | ptr | slice | map | any

def exL : List LK → (List Value → Prop) → Prop
  | [], K => K []
  | .int k :: r, K => ∃ x : Int, exL r fun vs => K (.int k x :: vs)
  | .bool :: r, K => ∃ x : Bool, exL r fun vs => K (.bool x :: vs)
  | .str :: r, K => ∃ x : ByteArray, exL r fun vs => K (.string x :: vs)
  | .ptr :: r, K => ∃ x : Option Addr, exL r fun vs => K (.pointer x :: vs)
  | .slice :: r, K => ∃ (a : Option Addr) (n c : Nat), exL r fun vs => K (.slice a n c :: vs)
  | .map :: r, K => ∃ x : Option Nat, exL r fun vs => K (.map x :: vs)
  | .any :: r, K => ∃ x : Value, exL r fun vs => K (x :: vs)

section
variable (P : Program)

def leafs : Nat → TypeId → List LK
  | 0, _ => []
  | n + 1, t => match P.underlying t with
    | some (.int k) => [.int k]
    | some .bool => [.bool]
    | some .string => [.str]
    | some (.pointer _) => [.ptr]
    | some (.slice _) => [.slice]
    | some (.map _ _) => [.map]
    | some (.struct fs) => fs.toList.flatMap fun f => leafs n f.type
    | some (.array m e) => (List.replicate m (leafs n e)).flatten
    | some (.tuple ts) => ts.toList.flatMap fun t => leafs n t
    | _ => [.any]

def aggT (t : TypeId) : Option Bool := match P.underlying t with
  | some (.struct _) | some (.array _ _) => some true
  | some _ => some false
  | none => none
def szT (t : TypeId) : Nat := match P.info? t with | some i => i.size | none => 0
def byT (t : TypeId) : Nat := match P.info? t with | some i => i.bytes | none => 0
def elT (t : TypeId) : TypeId := match P.underlying t with
  | some (.slice e) | some (.array _ e) | some (.pointer e) => e
  | _ => 0

/-- Some value of the type, its cells open. -/
def exT (t : TypeId) (K : Value → Prop) : Prop :=
  match aggT P t with
  | some true => exL (leafs P 40 t) fun vs => K (.agg vs.toArray)
  | some false => (match leafs P 40 t with
    | [k] => exL [k] fun vs => match vs with | x :: _ => K x | [] => False
    | _ => False)
  | none => False

/-- What a call hands back: a value of the result's types. -/
def parts : List TypeId → List Value → (List Value → Prop) → Prop
  | [], acc, K => K acc.reverse
  | t :: ts, acc, K => exT P t fun x => parts ts (x :: acc) K
def retT (ts : Array TypeId) (K : Value → Prop) : Prop :=
  match ts.toList with
  | [] => K (.tuple #[])
  | [t] => exT P t K
  | l => parts P l [] fun vs => K (.tuple vs.toArray)

/-! ### operations on plain values -/
def sameK (k k' : IntKind) (A : Prop) : Prop := match decide (k = k') with | true => A | false => False

def isBoolT (t : TypeId) : Bool := match P.underlying t with | some .bool => true | _ => false
def binR (op : BinOp) (t : TypeId) (x y : Value) (K : Value → Prop) : Prop :=
  match op, x, y with
  | .shl, .int k a, .int _ b => 0 ≤ b ∧ K (.int k (k.wrap (a * 2 ^ (min b.toNat k.bits))))
  | .shr, .int k a, .int _ b => 0 ≤ b ∧ K (.int k (a.fdiv (2 ^ (min b.toNat k.bits))))
  | .add, .int k a, .int k' b => sameK k k' (K (.int k (k.wrap (a + b))))
  | .sub, .int k a, .int k' b => sameK k k' (K (.int k (k.wrap (a - b))))
  | .mul, .int k a, .int k' b => sameK k k' (K (.int k (k.wrap (a * b))))
  | .quo, .int k a, .int k' b => sameK k k' (b ≠ 0 ∧ K (.int k (k.wrap (a.tdiv b))))
  | .rem, .int k a, .int k' b => sameK k k' (b ≠ 0 ∧ K (.int k (a.tmod b)))
  | .and, .int k a, .int k' b => sameK k k' (K (.int k (k.wrap (BitVec.ofInt k.bits a &&& BitVec.ofInt k.bits b).toNat)))
  | .or, .int k a, .int k' b => sameK k k' (K (.int k (k.wrap (BitVec.ofInt k.bits a ||| BitVec.ofInt k.bits b).toNat)))
  | .xor, .int k a, .int k' b => sameK k k' (K (.int k (k.wrap (BitVec.ofInt k.bits a ^^^ BitVec.ofInt k.bits b).toNat)))
  | .andNot, .int k a, .int k' b => sameK k k' (K (.int k (k.wrap (BitVec.ofInt k.bits a &&& ~~~ BitVec.ofInt k.bits b).toNat)))
  | .eql, .int k a, .int k' b => sameK k k' (K (.bool (a == b)))
  | .neq, .int k a, .int k' b => sameK k k' (K (.bool (a != b)))
  | .lss, .int k a, .int k' b => sameK k k' (K (.bool (decide (a < b))))
  | .leq, .int k a, .int k' b => sameK k k' (K (.bool (decide (a ≤ b))))
  | .gtr, .int k a, .int k' b => sameK k k' (K (.bool (decide (b < a))))
  | .geq, .int k a, .int k' b => sameK k k' (K (.bool (decide (b ≤ a))))
  | .add, .string a, .string b => a.size + b.size ≤ 9223372036854775807 ∧ K (.string (a ++ b))
  | .eql, .string a, .string b => K (.bool (decide (a = b)))
  | .neq, .string a, .string b => K (.bool !(decide (a = b)))
  | .lss, .string a, .string b => K (.bool (Op.bytesLess a.toList b.toList))
  | .leq, .string a, .string b => K (.bool (!Op.bytesLess b.toList a.toList))
  | .gtr, .string a, .string b => K (.bool (Op.bytesLess b.toList a.toList))
  | .geq, .string a, .string b => K (.bool (!Op.bytesLess a.toList b.toList))
  | .eql, .bool a, .bool b => (match isBoolT P t with | true => K (.bool (a == b)) | false => False)
  | .neq, .bool a, .bool b => (match isBoolT P t with | true => K (.bool (a != b)) | false => False)
  | _, _, _ => False

def isNilV : Value → Bool
  | .pointer none => true
  | .slice none _ _ => true
  | .map none => true
  | .nilFunc => true
  | _ => false
/-- A comparison with nil. -/
def nilR (op : BinOp) (t : TypeId) (x y : Value) (K : Value → Prop) : Prop :=
  match P.underlying t, op, x, y with
  | some (.pointer _), .eql, .pointer p, .pointer none => K (.bool p.isNone)
  | some (.pointer _), .neq, .pointer p, .pointer none => K (.bool p.isSome)
  | some (.slice _), .eql, .slice p _ _, .slice none _ _ => K (.bool p.isNone)
  | some (.slice _), .neq, .slice p _ _, .slice none _ _ => K (.bool p.isSome)
  | some (.map _ _), .eql, .map p, .map none => K (.bool p.isNone)
  | some (.map _ _), .neq, .map p, .map none => K (.bool p.isSome)
  | _, _, _, _ => False

def unR (op : UnOp) (x : Value) (K : Value → Prop) : Prop :=
  match op, x with
  | .neg, .int k n => K (.int k (k.wrap (0 - n)))
  | .xor, .int k n => K (.int k (k.wrap (BitVec.ofInt k.bits (if k.signed then -1 else k.max) ^^^ BitVec.ofInt k.bits n).toNat))
  | .not, .bool b => K (.bool !b)
  | _, _ => False

/-- A new block. -/
def newB (w0 : World) (h : AH) (o : AB) (K : Nat → AH → Prop) : Prop := ∀ b, w0.heap.size ≤ b → h b = none → K b (h.put b o)

/-- append(s, ys...), s nil or at the head of a row of the law's own, e cells an element, by bytes an element: what follows is told the new slice's address and room. What was known behind s's length is known no more. -/
def App (w0 : World) (h : AH) (e by' : Nat) (a : Option Addr) (n c m : Nat) (ys : List Value) (K : Option Addr → Nat → AH → Prop) : Prop :=
  (n + m) * by' ≤ 140737488355328 ∧ n + m ≤ 140737488355328 ∧ ys.length = m * e ∧ (∀ y ∈ ys, y.oneCell' = true) ∧
  match a with
  | none => n = 0 ∧ c = 0 ∧ (m = 0 → K none 0 h) ∧ (0 < m → ∀ cap, m ≤ cap → newB w0 h (.cells ys (cap * e)) fun b h' => K (some ⟨b, 0, none⟩) cap h')
  | some ad => ∃ xs zs, ad.off = 0 ∧ ad.spot = none ∧ w0.heap.size ≤ ad.block ∧ h ad.block = some (.cells (xs ++ zs) (c * e)) ∧ xs.length = n * e ∧ n ≤ c ∧
      (n + m ≤ c → K (some ad) c (h.put ad.block (.cells (xs ++ ys) (c * e)))) ∧
      (c < n + m → ∀ cap, n + m ≤ cap → newB w0 h (.cells (xs ++ ys) (cap * e)) fun b h' => K (some ⟨b, 0, none⟩) cap h')

/-- The first n elements of a slice, as cells. -/
def rowsOf (w0 : World) (h : AH) (e : Nat) (a : Option Addr) (n : Nat) (K : List Value → Prop) : Prop :=
  ∃ ys : List Value, ys.length = n * e ∧ (∀ ad, a = some ad → At w0 h ad ys) ∧ (a = none → ys = []) ∧ K ys

def subB (i b : Nat) : AV → AV
  | .bp j off => match Nat.beq i j with | true => .v (.pointer (some ⟨b, off, none⟩)) | false => .bp j off
  | .bs j n => match Nat.beq i j with | true => .v (.slice (some ⟨b, 0, none⟩) n n) | false => .bs j n
  | x => x

def boxAt (bx : Bxs) (i : Nat) : List Value := match bx[i]? with | some (some cs) => cs | _ => []
def boxIs (bx : Bxs) (i : Nat) : Bool := match bx[i]? with | some (some _) => true | _ => false
def hasB (i : Nat) : AV → Bool
  | .bp j _ => Nat.beq i j
  | .bs j _ => Nat.beq i j
  | .v _ => false
def idxB : AV → Option Nat
  | .bp j _ => some j
  | .bs j _ => some j
  | .v _ => none

/-- A variable whose address goes out becomes a block like others. -/
def expose (w0 : World) (i : Nat) (env : Env) (bx : Bxs) (h : AH) (K : Env → Bxs → AH → Prop) : Prop :=
  match boxIs bx i with
  | true => newB w0 h (.cells (boxAt bx i) (boxAt bx i).length) fun b h' => K (env.map (subB i b)) (bx.set i none) h'
  | false => False
/-- .. as bytes that may count as a text. -/
def exposeS (w0 : World) (i : Nat) (env : Env) (bx : Bxs) (h : AH) (K : Env → Bxs → AH → Prop) : Prop :=
  match boxIs bx i with
  | true => newB w0 h (.strb (boxAt bx i)) fun b h' => K (env.map (subB i b)) (bx.set i none) h'
  | false => False
def exposeAll (w0 : World) : List Operand → Env → Bxs → AH → (Env → Bxs → AH → Prop) → Prop
  | [], env, bx, h, K => K env bx h
  | x :: xs, env, bx, h, K => match idxB (opd env x) with
    | some i => expose w0 i env bx h fun env bx h => exposeAll w0 xs env bx h K
    | none => exposeAll w0 xs env bx h K

def valA : AV → Option Value
  | .v x => some x
  | _ => none
def valsA : List AV → Option (List Value)
  | [] => some []
  | .v x :: r => match valsA r with | some l => some (x :: l) | none => none
  | _ :: _ => none
def withV (x : AV) (K : Value → Prop) : Prop := match x with | .v x => K x | _ => False

abbrev KOp := AV → Bxs → AH → Prop

def boxNew (env : Env) (bx : Bxs) (cs : List Value) (K : Nat → Bxs → Prop) : Prop :=
  match env.any (hasB bx.length) with
  | true => False
  | false => K bx.length (bx ++ [some cs])

def setCells (cs : List Value) (off : Nat) : List Value → List Value
  | [] => cs
  | x :: xs => setCells (cs.set off x) (off + 1) xs

/-- y lies at a. -/
def atT (w0 : World) (h : AH) (t : TypeId) (a : Addr) (y : Value) : Prop := match aggT P t with
  | some true => y.cells.size = szT P t ∧ At w0 h a y.cells.toList
  | some false => cellA w0 h a = some y
  | none => False
def loadR (w0 : World) (t : TypeId) (x : AV) (bx : Bxs) (h : AH) (K : Value → Prop) : Prop :=
  match x with
  | .bp i off => match boxIs bx i with
    | true => match aggT P t with
      | some true => (match Nat.ble (off + szT P t) (boxAt bx i).length with | true => K (.agg (((boxAt bx i).drop off).take (szT P t)).toArray) | false => False)
      | some false => (match (boxAt bx i)[off]? with | some y => K y | none => False)
      | none => False
    | false => False
  | .v (.pointer (some a)) => exT P t fun y => atT P w0 h t a y ∧ K y
  | _ => False

def oneC (cs : List Value) (A : Prop) : Prop := match cs.all (·.oneCell') with | true => A | false => False
def storeR (w0 : World) (t : TypeId) (x : AV) (y : Value) (bx : Bxs) (h : AH) (K : Bxs → AH → Prop) : Prop :=
  match Nat.beq y.cells.size (szT P t) with
  | false => False
  | true => match x with
    | .bp i off => match boxIs bx i && Nat.ble (off + szT P t) (boxAt bx i).length with
      | true => oneC y.cells.toList (K (bx.set i (some (setCells (boxAt bx i) off y.cells.toList))) h)
      | false => False
    | .v (.pointer (some a)) => ∃ xs sz, w0.heap.size ≤ a.block ∧ a.spot = none ∧ h a.block = some (.cells xs sz) ∧ a.off + y.cells.size ≤ xs.length ∧
        oneC y.cells.toList (K bx (h.put a.block (.cells (setCells xs a.off y.cells.toList) sz)))
    | _ => False

/-- Where a slice that is cut at l begins. -/
def cutA (e : Nat) (a : Option Addr) (c l : Nat) : Option Addr := if c = l then a else a.map (·.add (l * e))
/-- A slice's cut: low, high; the new slice. -/
def cutR (e : Nat) (a : Option Addr) (n c : Nat) (lo hi : Option Value) (K : Value → Prop) : Prop :=
  match lo, hi with
  | none, none => K (.slice a n c)
  | some (.int _ l), none => 0 ≤ l ∧ l ≤ n ∧ K (.slice (cutA e a c l.toNat) (n - l.toNat) (c - l.toNat))
  | none, some (.int _ r) => 0 ≤ r ∧ r ≤ c ∧ K (.slice a r.toNat c)
  | some (.int _ l), some (.int _ r) => 0 ≤ l ∧ l ≤ r ∧ r ≤ c ∧ K (.slice (cutA e a c l.toNat) (r.toNat - l.toNat) (c - l.toNat))
  | _, _ => False
def cutS (s : ByteArray) (lo hi : Option Value) (K : Value → Prop) : Prop :=
  match lo, hi with
  | none, none => K (.string (s.extract 0 s.size))
  | some (.int _ l), none => 0 ≤ l ∧ l ≤ s.size ∧ K (.string (s.extract l.toNat s.size))
  | none, some (.int _ r) => 0 ≤ r ∧ r ≤ s.size ∧ K (.string (s.extract 0 r.toNat))
  | some (.int _ l), some (.int _ r) => 0 ≤ l ∧ l ≤ r ∧ r ≤ s.size ∧ K (.string (s.extract l.toNat r.toNat))
  | _, _ => False

def posT (t : TypeId) (A : Prop) : Prop := match szT P t with | 0 => False | _ + 1 => A
/-- y lies among the cells of an array, at i. -/
def elemIs (e : TypeId) (cs : List Value) (i : Nat) (y : Value) : Prop := match aggT P e with
  | some true => (cs.drop (i * szT P e)).take (szT P e) = y.cells.toList
  | some false => cs[i * szT P e]? = some y
  | none => False
def fieldOff (t : TypeId) (f : Nat) : Option (Nat × TypeId) := match P.underlying t with
  | some (.struct fs) => match fs[f]? with | some x => some (x.offset, x.type) | none => none
  | _ => none

def partR (t : TypeId) (cs : List Value) (off : Nat) (K : Value → Prop) : Prop :=
  match aggT P t with
  | some true => (match Nat.ble (off + szT P t) cs.length with | true => K (.agg ((cs.drop off).take (szT P t)).toArray) | false => False)
  | some false => (match cs[off]? with | some x => K x | none => False)
  | none => False

/-! two structs of plain fields: are they the same? -/
def eqFlds (xs ys : List Value) : List Field → Bool → (Bool → Prop) → Prop
  | [], acc, K => K acc
  | f :: r, acc, K => match f.name == "_" with
    | true => False
    | false => partR P f.type xs f.offset fun x => partR P f.type ys f.offset fun y => match P.underlying f.type, x, y with
      | some (.int _), .int k a, .int k' b => sameK k k' (eqFlds xs ys r (acc && (a == b)) K)
      | some .string, .string a, .string b => eqFlds xs ys r (acc && decide (a = b)) K
      | some .bool, .bool a, .bool b => eqFlds xs ys r (acc && (a == b)) K
      | _, _, _ => False
def eqStructR (t : TypeId) (xs ys : List Value) (K : Bool → Prop) : Prop := match P.underlying t with
  | some (.struct fs) => (match P.stoodInHeld t || P.eqGuardType P.depth t with
    | true => False
    | false => eqFlds P xs ys fs.toList true K)
  | _ => False
def binS (op : BinOp) (t : TypeId) (x y : Value) (K : Value → Prop) : Prop := match op, x, y with
  | .eql, .agg xs, .agg ys => eqStructR P t xs.toList ys.toList fun b => K (.bool b)
  | .neq, .agg xs, .agg ys => eqStructR P t xs.toList ys.toList fun b => K (.bool (!b))
  | _, _, _ => binR P op t x y K

/-- For each number below n. -/
def allK : Nat → (Nat → Prop) → Prop
  | 0, _ => True
  | n + 1, A => allK n A ∧ A n

def byteAt (s : ByteArray) (i : Nat) : Int := match s.data[i]? with | some b => (b.toNat : Int) | none => 0


/-! ### maps -/
def eqK : Value → Value → Bool
  | .int _ a, .int _ b => a == b
  | .string a, .string b => decide (a = b)
  | .bool a, .bool b => a == b
  | .pointer a, .pointer b => a == b
  | _, _ => false
def getM (k : Value) : List (Value × Value) → Option Value
  | [] => none
  | e :: es => match eqK k e.1 with | true => some e.2 | false => getM k es
def putM (k x : Value) : List (Value × Value) → List (Value × Value)
  | [] => [(k, x)]
  | e :: es => match eqK k e.1 with | true => (k, x) :: es | false => e :: putM k x es
def delM (k : Value) : List (Value × Value) → List (Value × Value)
  | [] => []
  | e :: es => match eqK k e.1 with | true => es | false => e :: delM k es

def zeroT (t : TypeId) : Option Value := match P.info? t with | some i => i.zero | none => none
def keyT (t : TypeId) : TypeId := match P.underlying t with | some (.map k _) => k | _ => 0
def elmT (t : TypeId) : TypeId := match P.underlying t with | some (.map _ e) => e | _ => 0
def plainKey (t : TypeId) (k : Value) : Bool := match P.underlying (keyT P t), k with
  | some (.int a), .int b _ => decide (a = b)
  | some .string, .string _ => true
  | some .bool, .bool _ => true
  | _, _ => false
def isMapT (t : TypeId) : Bool := match P.underlying t with | some (.map _ _) => true | _ => false
/-- All keys are of the map's kind. -/
def keysOk (t : TypeId) (es : List (Value × Value)) : Prop := ∀ e ∈ es, plainKey P t e.1 = true

def mapAt (w0 : World) (h : AH) (m : Option Nat) (t : TypeId) (K : List (Value × Value) → Prop) : Prop := match isMapT P t with
  | false => False
  | true => ∃ es, (m = none → es = []) ∧ (∀ r, m = some r → w0.heap.size ≤ r ∧ h r = some (.map es)) ∧ keysOk P t es ∧ K es

/-- A key that is a pointer: none, or the head of a block of cells of the law's own. -/
def ptrKey (w0 : World) (h : AH) (k : Value) : Prop := match k with
  | .pointer none => True
  | .pointer (some a) => a.off = 0 ∧ a.spot = none ∧ w0.heap.size ≤ a.block ∧ ∃ xs sz, h a.block = some (.cells xs (sz + 1))
  | _ => False
/-- Are a map's keys pointers (to what has a size)? -/
def isPtrKey (t : TypeId) : Bool := match P.underlying (keyT P t) with
  | some (.pointer e) => (match szT P e with | 0 => false | _ + 1 => true)
  | _ => false
def mapAtP (w0 : World) (h : AH) (m : Option Nat) (t : TypeId) (K : List (Value × Value) → Prop) : Prop := match isMapT P t with
  | false => False
  | true => ∃ es, (m = none → es = []) ∧ (∀ r, m = some r → w0.heap.size ≤ r ∧ h r = some (.map es)) ∧ (∀ e ∈ es, ptrKey w0 h e.1) ∧ K es

/-! ### ranges -/
def rangeM (h : AH) (m : Option Nat) (K : Nat → Prop) : Prop := (m = none → K 0) ∧ ∀ r, m = some r → ∃ es, h r = some (.map es) ∧ K es.length
def nextS (h : AH) (a : Addr) (K1 : Nat → Nat → AH → Prop) (K0 : AH → Prop) : Prop :=
  ∃ s pos, a.off = 0 ∧ h a.block = some (.sit s pos) ∧ (pos < s.size → K1 pos (Utf8.decode s pos).1 (h.put a.block (.sit s (pos + (Utf8.decode s pos).2)))) ∧ (s.size ≤ pos → K0 h)
def nextM (h : AH) (a : Addr) (K1 : Value → Value → AH → Prop) (K0 : AH → Prop) : Prop :=
  ∃ m left cur, a.off = 0 ∧ h a.block = some (.mit m left cur) ∧ (left = [] → K0 h) ∧
    ∀ r, m = some r → ∃ es, h r = some (.map es) ∧ ∀ i k x, i ∈ left → es[i]? = some (k, x) → K1 k x (h.put a.block (.mit m (left.erase i) (some i)))
def entryM (h : AH) (a : Addr) (K : List (Value × Value) → Nat → Prop) : Prop :=
  ∃ r left c es, a.off = 0 ∧ h a.block = some (.mit (some r) left (some c)) ∧ h r = some (.map es) ∧ K es c
def entIs (es : List (Value × Value)) (c : Nat) (k x : Value) : Prop := es[c]? = some (k, x)
/-- Some value, of the type if it is one. -/
def exK (t : Option TypeId) (K : Value → Prop) : Prop := match t with
  | some t => exT P t K
  | none => ∃ v, K v
def rangeR (w0 : World) (t : TypeId) (x : Value) (h : AH) (K : Value → AH → Prop) : Prop := match P.underlying t, x with
  | some .string, .string s => newB w0 h (.sit s 0) fun b h' => K (.pointer (some ⟨b, 0, none⟩)) h'
  | some (.map _ _), .map m => rangeM h m fun n => newB w0 h (.mit m (List.range n) none) fun b h' => K (.pointer (some ⟨b, 0, none⟩)) h'
  | _, _ => False
def nextR (isS : Bool) (x : Value) (h : AH) (K : Value → AH → Prop) : Prop := match x with
  | .pointer (some a) => (match isS with
    | true => nextS h a (fun p r h' => K (.tuple #[.bool true, .int .i64 p, .int .i32 r]) h') (fun h' => K (.tuple #[.bool false]) h')
    | false => nextM h a (fun k x h' => K (.tuple #[.bool true, k, x]) h') (fun h' => K (.tuple #[.bool false]) h'))
  | _ => False
def entryR (kt et : Option TypeId) (x : Value) (h : AH) (K : Value → Prop) : Prop := match x with
  | .pointer (some a) => entryM h a fun es c => exK P kt fun k => exK P et fun x => entIs es c k x ∧ K (.tuple #[k, x])
  | _ => False
/-- The type as which a part of a tuple is taken. -/
def exTy (ops : List Oper) (d : Option Nat) (i : Nat) : Option TypeId := match ops.find? (fun o => match o.op with | .extract (.tmp t) j => (match d with | some t' => Nat.beq t t' && Nat.beq i j | none => false) | _ => false) with
  | some o => some o.type
  | none => none
def entOf : Op → Option Operand
  | .entry x => some x
  | _ => none

/-! ### operations -/
abbrev KO := Env → Bxs → AH → AV → Prop
def vals (w0 : World) (xs : List Operand) (env : Env) (bx : Bxs) (h : AH) (K : List Value → Env → Bxs → AH → Prop) : Prop :=
  exposeAll w0 xs env bx h fun env bx h => match valsA (xs.map (opd env)) with | some vs => K vs env bx h | none => False

def resTs (ty : TypeId) : Array TypeId := match P.underlying ty with | some (.tuple ts) => ts | _ => #[ty]
def hasBody (g : FuncId) : Bool := match P.funcs[g]? with
  | some fn => match fn.body with | some _ => !(fn.name == "runtime.NumGoroutine") | none => false
  | none => false

/-- A function without a body: what the model itself says of it. -/
def extR (w0 : World) (g : FuncId) (args : Array Value) (h : AH) (K : Value → Prop) : Prop :=
  ∃ x, (∀ w : World, (∀ a y, cellA w0 h a = some y → w.cell? a = some y) → (callFunc g args).run P w = .ok (.value x) w) ∧ K x

def enterR (w0 : World) (X : XR) (g : FuncId) (args : Array Value) (ty : TypeId) (h : AH) (K : Value → AH → Prop) : Prop :=
  match hasBody P g with
  | true => X g args (fun x h' => retT P (resTs P ty) fun y => x = y ∧ K y h') h
  | false => extR P w0 g args h fun x => retT P (resTs P ty) fun y => x = y ∧ K y h

def intsOf (s : ByteArray) : List Value := s.data.toList.map fun b => .int .u8 b.toNat

/-- A slice type whose elements are well laid: what append asks of the table. -/
def rowT (t : TypeId) : Option (Nat × Nat) := match P.underlying t with
  | some (.slice e) => (match P.info? e with
    | some ie => (match ie.zero with
      | some z => (match Nat.beq z.cells.size ie.size, ie.size with | true, n + 1 => some (n + 1, ie.bytes) | _, _ => none)
      | none => none)
    | none => none)
  | _ => none
def isSlT (t : TypeId) : Bool := match P.underlying t with | some (.slice _) => true | _ => false
def isStT (t : TypeId) : Bool := match P.underlying t with | some .string => true | _ => false
def appendR (w0 : World) (st tx : TypeId) (s x : AV) (bx : Bxs) (h : AH) (K : Value → AH → Prop) : Prop :=
  match rowT P st, s with
  | some (e, by'), .v (.slice a n c) => (match x with
    | .bs i m => (match isSlT P tx, boxIs bx i with | true, true => App w0 h e by' a n c m (boxAt bx i) fun a' c' h' => K (.slice a' (n + m) c') h' | _, _ => False)
    | .v (.slice b m _) => (match isSlT P tx with | true => rowsOf w0 h e b m fun ys => App w0 h e by' a n c m ys fun a' c' h' => K (.slice a' (n + m) c') h' | false => False)
    | .v (.string t) => (match isStT P tx, e with | true, 1 => App w0 h 1 by' a n c t.size (intsOf t) fun a' c' h' => K (.slice a' (n + t.size) c') h' | _, _ => False)
    | _ => False)
  | _, _ => False

def lenR (w0 : World) (t : TypeId) (x : AV) (h : AH) (K : Value → Prop) : Prop :=
  match P.underlying t, x with
  | some (.slice _), .v (.slice _ n _) => K (.int .i64 n)
  | some .string, .v (.string s) => K (.int .i64 s.size)
  | some (.slice _), .bs _ n => K (.int .i64 n)
  | some (.array n _), .v (.agg _) => K (.int .i64 n)
  | some (.map _ _), .v (.map m) => mapAt P w0 h m t fun es => K (.int .i64 es.length)
  | _, _ => False

def min2R (mn : Bool) (x y : Value) (K : Value → Prop) : Prop :=
  match x, y with
  | .int k a, .int _ b => match mn with | true => K (.int k (if b < a then b else a)) | false => K (.int k (if a < b then b else a))
  | _, _ => False

def builtinR (w0 : World) (b : Builtin) (c : Call) (env : Env) (bx : Bxs) (h : AH) (K : KO) : Prop :=
  match b, c.args.toList with
  | .append, [s, x] => (match c.argTypes.toList with
    | [st, tx] => exposeAll w0 [s] env bx h fun env bx h => appendR P w0 st tx (opd env s) (opd env x) bx h fun y h' => K env bx h' (.v y)
    | _ => False)
  | .len, [x] => (match c.argTypes[0]? with | some t => lenR P w0 t (opd env x) h fun y => K env bx h (.v y) | none => False)
  | .min, [x, y] => withV (opd env x) fun x => withV (opd env y) fun y => min2R true x y fun z => K env bx h (.v z)
  | .max, [x, y] => withV (opd env x) fun x => withV (opd env y) fun y => min2R false x y fun z => K env bx h (.v z)
  | .delete, [m, k] => match c.argTypes[0]?, opd env m, opd env k with
    | some t, .v (.map m), .v k => plainKey P t k = true ∧ mapAt P w0 h m t fun es =>
        (m = none → K env bx h (.v (.tuple #[]))) ∧ (∀ r, m = some r → K env bx (h.putm r (delM k es)) (.v (.tuple #[])))
    | _, _, _ => False
  | _, _ => False

def dynR (w0 : World) (X : XR) (fv : Value) (vs : Array Value) (ty : TypeId) (h : AH) (K : Value → AH → Prop) : Prop :=
  match fv with
  | .func (.func g) first cap => enterR P w0 X g (first ++ vs ++ cap) ty h K
  | _ => False
def callR (w0 : World) (X : XR) (c : Call) (ty : TypeId) (env : Env) (bx : Bxs) (h : AH) (K : KO) : Prop :=
  match c.callee with
  | .builtin b => builtinR P w0 b c env bx h K
  | .value (.func g) => vals w0 c.args.toList env bx h fun vs env bx h => enterR P w0 X g vs.toArray ty h fun y h' => K env bx h' (.v y)
  | .value f => vals w0 c.args.toList env bx h fun vs env bx h => withV (opd env f) fun fv => dynR P w0 X fv vs.toArray ty h fun y h' => K env bx h' (.v y)
  | _ => False

def buildR (t : TypeId) (ps : List (Nat × Value)) (K : Value → Prop) : Prop :=
  match P.built t ps with
  | some cs => K (.agg cs)
  | none => False
def buildSliceR (t : TypeId) (len : Nat) (ps : List (Nat × Value)) (K : List Value → Prop) : Prop :=
  match P.underlying t with
  | some (.slice e) => (match P.info? e with
    | some ie => (match ie.zero with
      | some z => (match Nat.ble (len * ie.size) 16777216, Nat.beq (len * ie.size) 0, ps with
        | true, false, _ => (match Instr.fill (fun i => some (i * ie.size, ie.size)) ((Array.range (len * ie.size)).map (z.cells[· % z.cells.size]!)) ps with
          | some cs => K cs.toList
          | none => False)
        | true, true, [] => K []
        | _, _, _ => False)
      | none => False)
    | none => False)
  | _ => False
def replF (n : Nat) (zs : List Value) : List Value := match n with | 0 => [] | n + 1 => zs ++ replF n zs

def oVal (env : Env) : Option Operand → Option (Option Value)
  | none => some none
  | some x => match opd env x with | .v y => some (some y) | _ => none

def convR (w0 : World) (src dst : TypeId) (x : Value) (h : AH) (K : Value → AH → Prop) : Prop :=
  match P.underlying src, P.underlying dst, x with
  | some _, some (.int k), .int _ n => K (.int k (k.wrap n)) h
  | some (.int _), some .string, .int _ n => K (.string (Utf8.encode n)) h
  | some _, some .string, .string s => K (.string s) h
  | some _, some (.slice e), .string s => match P.underlying e with
    | some (.int .u8) => ∀ cap, s.size ≤ cap → newB w0 h (.strb (intsOf s)) fun b h' => K (.slice (some ⟨b, 0, none⟩) s.size cap) h'
    | _ => False
  | some (.slice e), some .string, .slice a n _ => match P.underlying e with
    | some (.int .u8) => rowsOf w0 h 1 a n fun ys => ∃ s : ByteArray, ys = intsOf s ∧ K (.string s) h
    | _ => False
  | _, _, _ => False

def isBytesT (t : TypeId) : Bool := match P.underlying t with | some (.slice e) => (match P.underlying e with | some (.int .u8) => true | _ => false) | _ => false

def evOp (w0 : World) (X : XR) (op : Op) (ty : TypeId) (env : Env) (bx : Bxs) (h : AH) (K : KO) : Prop :=
  match op with
  | .move x | .assign x => K env bx h (opd env x)
  | .pick c a b => match opd env c with
    | .v (.bool t) => brB t (K env bx h (opd env a)) (K env bx h (opd env b))
    | _ => False
  | .alloc t => match zeroT P t with
    | some z => (match Nat.ble 65 (szT P t) with
      | false => boxNew env bx z.cells.toList fun i bx => K env bx h (.bp i 0)
      | true => newB w0 h (.cells z.cells.toList z.cells.toList.length) fun b h' => K env bx h' (.v (.pointer (some ⟨b, 0, none⟩))))
    | none => False
  | .box _ x => vals w0 [x] env bx h fun vs env bx h => match vs with
    | [y] => boxNew env bx y.cells.toList fun i bx => K env bx h (.bp i 0)
    | _ => False
  | .build t ps => vals w0 (ps.toList.map (·.2)) env bx h fun vs env bx h => buildR P t ((ps.toList.map (·.1)).zip vs) fun y => K env bx h (.v y)
  | .buildSlice t n ps => vals w0 (ps.toList.map (·.2)) env bx h fun vs env bx h => buildSliceR P t n ((ps.toList.map (·.1)).zip vs) fun cs =>
      boxNew env bx cs fun i bx => K env bx h (.bs i n)
  | .load t a => loadR P w0 t (opd env a) bx h fun y => K env bx h (.v y)
  | .store t a x => vals w0 [x] env bx h fun vs env bx h => match vs with
    | [y] => posT P t (storeR P w0 t (opd env a) y bx h fun bx h => K env bx h (.v undef))
    | _ => False
  | .nilCheck x => match opd env x with
    | .v (.pointer a) => ∃ ad, a = some ad ∧ K env bx h (.v (.pointer (some ad)))
    | .bp i off => K env bx h (.bp i off)
    | .v (.func (.func g) first cap) => K env bx h (.v (.func (.func g) first cap))
    | _ => False
  | .binOp op t x y _ => match opd env x, opd env y with
    | .v a, .v b => (match isNilV b with
      | true => nilR P op t a b fun z => K env bx h (.v z)
      | false => binS P op t a b fun z => K env bx h (.v z))
    | .bp _ _, .v (.pointer none) => (match P.underlying t, op with
      | some (.pointer _), .eql => K env bx h (.v (.bool false))
      | some (.pointer _), .neq => K env bx h (.v (.bool true))
      | _, _ => False)
    | _, _ => False
  | .unOp op _ x => withV (opd env x) fun a => unR op a fun z => K env bx h (.v z)
  | .convert s d x => match opd env x with
    | .v a => convR P w0 s d a h fun y h' => K env bx h' (.v y)
    | .bs i _ => (match Nat.beq s d, isBytesT P d with
      | true, true => exposeS w0 i env bx h fun env bx h => K env bx h (opd env x)
      | _, _ => False)
    | .bp _ _ => False
  | .fieldAddr t x f => match fieldOff P t f with
    | some (off, ft) => posT P ft (match opd env x with
        | .bp i o => K env bx h (.bp i (o + off))
        | .v (.pointer (some a)) => K env bx h (.v (.pointer (some (a.add off))))
        | _ => False)
    | none => False
  | .field t x f => match fieldOff P t f with
    | some (off, ft) => withV (opd env x) fun y => match y with
      | .agg cs => partR P ft cs.toList off fun z => K env bx h (.v z)
      | _ => False
    | none => False
  | .indexAddr t x i => match P.underlying t, opd env x, opd env i with
    | some (.slice e), .v (.slice a n _), .v (.int _ i) => posT P e (∃ ad, a = some ad ∧ 0 ≤ i ∧ i < n ∧ K env bx h (.v (.pointer (some (ad.add (i.toNat * szT P e))))))
    | some (.slice e), .bs b n, .v (.int _ i) => posT P e (0 ≤ i ∧ i < n ∧ allK n fun k => i = k → K env bx h (.bp b (k * szT P e)))
    | some (.array n e), .bp b off, .v (.int _ i) => posT P e (0 ≤ i ∧ i < n ∧ K env bx h (.bp b (off + i.toNat * szT P e)))
    | some (.array n e), .v (.pointer (some a)), .v (.int _ i) => posT P e (0 ≤ i ∧ i < n ∧ K env bx h (.v (.pointer (some (a.add (i.toNat * szT P e))))))
    | _, _, _ => False
  | .index t x i => match P.underlying t, opd env x, opd env i with
    | some .string, .v (.string s), .v (.int _ i) => 0 ≤ i ∧ i < s.size ∧ K env bx h (.v (.int .u8 (byteAt s i.toNat)))
    | some (.array n e), .v (.agg cs), .v (.int _ i) => posT P e (0 ≤ i ∧ i < n ∧ exT P e fun y => elemIs P e cs.toList i.toNat y ∧ K env bx h (.v y))
    | _, _, _ => False
  | .slice t x lo hi mx => match mx, oVal env lo, oVal env hi, P.underlying t, opd env x with
    | none, some l, some r, some .string, .v (.string s) => cutS s l r fun y => K env bx h (.v y)
    | none, some l, some r, some (.slice e), .v (.slice a n c) => posT P e (cutR (szT P e) a n c l r fun y => K env bx h (.v y))
    | none, some none, some none, some (.array n e), .bp i 0 => (match boxIs bx i && Nat.beq (n * szT P e) (boxAt bx i).length with
      | true => (∃ i, P.info? e = some i) ∧ K env bx h (.bs i n)
      | false => False)
    | some m, some none, some (some (.int _ r)), some (.slice e), .v (.slice a _ c) => posT P e (match opd env m with
      | .v (.int _ q) => 0 ≤ r ∧ r ≤ q ∧ q ≤ c ∧ K env bx h (.v (.slice a r.toNat q.toNat))
      | _ => False)
    | _, _, _, _, _ => False
  | .extract x i => withV (opd env x) fun y => match y with
    | .tuple vs => match vs[i]? with | some z => K env bx h (.v z) | none => False
    | _ => False
  | .makeFunc fn first cap => vals w0 (first.toList ++ cap.toList) env bx h fun vs env bx h => K env bx h (.v (.func fn (vs.take first.size).toArray (vs.drop first.size).toArray))
  | .makeMap _ none => newB w0 h (.map []) fun b h' => K env bx h' (.v (.map (some b)))
  | .makeSlice t l c => match isSlT P t, zeroT P (elT P t), opd env l, opd env c with
    | true, some z, .v (.int .i64 l), .v (.int .i64 c) => posT P (elT P t) (0 ≤ l ∧ l ≤ c ∧ c * byT P (elT P t) ≤ 140737488355328 ∧ c ≤ 140737488355328 ∧ z.cells.size = szT P (elT P t) ∧
        newB w0 h (.cells (replF c.toNat z.cells.toList) (c.toNat * szT P (elT P t))) fun b h' => K env bx h' (.v (.slice (some ⟨b, 0, none⟩) l.toNat c.toNat)))
    | _, _, _, _ => False
  | .lookup t m k ok => match opd env m, opd env k, zeroT P (elmT P t) with
    | .v (.map m), .v k, some z => (match isPtrKey P t with
      | true => ptrKey w0 h k ∧ mapAtP P w0 h m t fun es => exT P (elmT P t) fun y => y = (getM k es).getD z ∧
        (match ok with | true => K env bx h (.v (.tuple #[y, .bool (getM k es).isSome])) | false => K env bx h (.v y))
      | false => plainKey P t k = true ∧ mapAt P w0 h m t fun es => exT P (elmT P t) fun y => y = (getM k es).getD z ∧
        (match ok with | true => K env bx h (.v (.tuple #[y, .bool (getM k es).isSome])) | false => K env bx h (.v y)))
    | _, _, _ => False
  | .mapUpdate t m k x => vals w0 [m, k, x] env bx h fun vs env bx h => match vs with
    | [.map m, k, x] => (match isPtrKey P t with
      | true => ptrKey w0 h k ∧ ∃ r, m = some r ∧ mapAtP P w0 h (some r) t fun es => K env bx (h.putm r (putM k x es)) (.v undef)
      | false => plainKey P t k = true ∧ ∃ r, m = some r ∧ mapAt P w0 h (some r) t fun es => K env bx (h.putm r (putM k x es)) (.v undef))
    | _ => False
  | .range t x => withV (opd env x) fun x => rangeR P w0 t x h fun y h' => K env bx h' (.v y)
  | .next x isS => withV (opd env x) fun x => nextR isS x h fun y h' => K env bx h' (.v y)
  | .entry x => withV (opd env x) fun x => ∃ kt et, entryR P kt et x h fun y => K env bx h (.v y)
  | .call c => callR P w0 X c ty env bx h K
  | _ => False

/-- An operation with its guard. -/
def evOper (w0 : World) (X : XR) (ops : List Oper) (o : Oper) (env : Env) (bx : Bxs) (h : AH) (K : Env → Bxs → AH → Prop) : Prop :=
  match entOf o.op with
  | some x => (match o.guard with
    | none => withV (opd env x) fun x => entryR P (exTy ops o.dst 0) (exTy ops o.dst 1) x h fun y => K (setE env o.dst (.v y)) bx h
    | some _ => False)
  | none =>
  match o.guard with
  | none => evOp P w0 X o.op o.type env bx h fun env bx h y => K (setE env o.dst y) bx h
  | some (j, want) => match ops[j]? with
    | some oj => match oj.dst with
      | some d => match env.getD d (.v undef) with
        | .v (.bool t) => match want with
          | true => brB t (evOp P w0 X o.op o.type (env.set d (.v (.bool true))) bx h fun env bx h y => K (setE env o.dst y) bx h) (K (setE (env.set d (.v (.bool false))) o.dst (.v undef)) bx h)
          | false => brB t (K (setE (env.set d (.v (.bool true))) o.dst (.v undef)) bx h) (evOp P w0 X o.op o.type (env.set d (.v (.bool false))) bx h fun env bx h y => K (setE env o.dst y) bx h)
        | .v (.tuple vs) => (match vs.toList with | [] => K (setE env o.dst (.v undef)) bx h | _ => False)
        | _ => False
      | none => False
    | none => False

def evOps (w0 : World) (X : XR) (all : List Oper) : List Oper → Env → Bxs → AH → (Env → Bxs → AH → Prop) → Prop
  | [], env, bx, h, K => K env bx h
  | o :: os, env, bx, h, K => evOper P w0 X all o env bx h fun env bx h => evOps w0 X all os env bx h K

/-! ### a region whose order is open -/
def isIntT (t : TypeId) : Bool := match P.underlying t with | some (.int _) => true | _ => false
def pureOp : Op → Bool
  | .move _ | .assign _ | .pick _ _ _ | .binOp _ _ _ _ _ | .unOp _ _ _ | .fieldAddr _ _ _ | .field _ _ _ | .indexAddr _ _ _ | .index _ _ _ | .extract _ _ | .nilCheck _ => true
  | .slice _ _ _ _ _ => true
  | .build _ _ | .makeFunc _ _ _ => true
  | .convert _ d _ => isIntT P d
  | .call c => match c.callee, c.argTypes.toList with
    | .builtin .len, [t] => match P.underlying t with | some (.slice _) | some .string => true | _ => false
    | .builtin .min, _ => true
    | .builtin .max, _ => true
    | _, _ => false
  | _ => false
def readOp : Op → Bool
  | .load _ _ => true
  | _ => false
def quietLeft (ops : Array Oper) (listed : Array Bool) : Bool :=
  (List.range ops.size).all fun i => listed.getD i true || (match ops[i]? with | some o => pureOp P o.op || readOp o.op | none => true)

def rootOf (ops : List Oper) : Nat → Operand → Option Nat
  | 0, _ => none
  | n + 1, .tmp t => match ops.find? (fun o => o.dst == some t) with
    | some o => match o.op with
      | .fieldAddr _ x _ => rootOf ops n x
      | .move x => rootOf ops n x
      | .assign x => rootOf ops n x
      | .nilCheck x => rootOf ops n x
      | .indexAddr _ x _ => rootOf ops n x
      | .slice _ x _ _ _ => rootOf ops n x
      | _ => none
    | none => some t
  | _, _ => none
def boxOf (ops : List Oper) (env : Env) (x : Operand) : List Nat := match rootOf ops 40 x with
  | some t => match env.getD t (.v undef) with | .bp i _ => [i] | .bs i _ => [i] | .v _ => []
  | none => []
def touched (ops : List Oper) (env : Env) : Op → List Nat
  | .store _ a x => boxOf ops env a ++ boxOf ops env x
  | .box _ x => boxOf ops env x
  | .convert _ _ x => boxOf ops env x
  | .build _ ps => ps.toList.flatMap fun p => boxOf ops env p.2
  | .buildSlice _ _ ps => ps.toList.flatMap fun p => boxOf ops env p.2
  | .makeFunc _ a b => (a.toList ++ b.toList).flatMap (boxOf ops env)
  | .call c => c.args.toList.flatMap (boxOf ops env)
  | .mapUpdate _ m k x => [m, k, x].flatMap (boxOf ops env)
  | .slice _ x _ _ _ => boxOf ops env x
  | _ => []
def protB (ops : List Oper) (env : Env) (bx : Bxs) : List Nat :=
  (List.range bx.length).filter fun i => boxIs bx i && !((ops.flatMap fun o => touched ops env o.op).any (Nat.beq i))
def boxLoad (prot : List Nat) (env : Env) (bx : Bxs) : Op → Bool
  | .load _ a => match opd env a with | .bp i _ => prot.any (Nat.beq i) && boxIs bx i | _ => false
  | _ => false
/-- An operation that is left out, by a guard that is known. -/
def skipB (ops : List Oper) (o : Oper) (env : Env) : Bool := match entOf o.op with
  | some _ => false
  | none => match o.guard with
    | none => false
    | some (j, want) => match ops[j]? with
      | some oj => match oj.dst with
        | some d => match env.getD d (.v undef) with
          | .v (.bool t) => (match want with | true => !t | false => t)
          | .v (.tuple vs) => (match vs.toList with | [] => true | _ => false)
          | _ => false
        | none => false
      | none => false
/-- .. which is so, behind another one with that guard. -/
def sameG (ops : Array Oper) (i k : Nat) : Bool := match ops[i]?, ops[k]? with
  | some a, some b => (match a.guard, b.guard with | some x, some y => Nat.beq x.1 y.1 | _, _ => false)
  | _, _ => false
def tested (ops : Array Oper) (listed : Array Bool) (i : Nat) : Bool := (List.range ops.size).any fun k => sameG ops i k && listed.getD k false
def takes (ops : Array Oper) (prot : List Nat) (listed : Array Bool) (env : Env) (bx : Bxs) (i : Nat) : Bool :=
  match ops[i]? with
  | some o => Region.free .any ops listed i && (pureOp P o.op || boxLoad prot env bx o.op || (readOp o.op && quietLeft P ops listed) || (tested ops listed i && skipB ops.toList o env))
  | none => false
def allOf (A : Nat → Prop) : List Nat → Prop
  | [] => True
  | [i] => A i
  | i :: is => A i ∧ allOf A is
/-- The variables that a region does not touch are laid aside .. -/
def maskB : List Nat → Bxs → Bxs
  | [], bx => bx
  | i :: is, bx => maskB is (bx.set i none)
/-- .. and are laid back. -/
def mergeB (bx0 : Bxs) : List Nat → Bxs → Bxs
  | [], bx => bx
  | i :: is, bx => mergeB bx0 is (bx.set i (match bx0[i]? with | some x => x | none => none))

def evDraw (w0 : World) (X : XR) (ops : Array Oper) (prot : List Nat) (bx0 : Bxs) : Nat → Array Bool → Env → Bxs → AH → (Env → Bxs → AH → Prop) → Prop
  | 0, _, _, _, _, _ => False
  | n + 1, listed, env, bx, h, K => match Region.ready .any ops listed with
    | [] => K env (mergeB bx0 prot bx) h
    | rs => match rs.find? (takes P ops prot listed env bx0) with
      | some i => match ops[i]? with
        | some o => (match readOp o.op with
          | true => evOper P w0 X ops.toList o env (mergeB bx0 prot bx) h fun env _ h => evDraw w0 X ops prot bx0 n (listed.setIfInBounds i true) env bx h K
          | false => evOper P w0 X ops.toList o env bx h fun env bx h => evDraw w0 X ops prot bx0 n (listed.setIfInBounds i true) env bx h K)
        | none => False
      | none => allOf (fun i => match ops[i]? with
        | some o => (match readOp o.op with
          | true => evOper P w0 X ops.toList o env (mergeB bx0 prot bx) h fun env _ h => evDraw w0 X ops prot bx0 n (listed.setIfInBounds i true) env bx h K
          | false => evOper P w0 X ops.toList o env bx h fun env bx h => evDraw w0 X ops prot bx0 n (listed.setIfInBounds i true) env bx h K)
        | none => False) rs

/-! the same, with sets of operations as numbers (the kernel reckons with these) -/
def hasZ (L i : Nat) : Bool := Nat.beq (Nat.land (Nat.shiftRight L i) 1) 1
def subZ (M L : Nat) : Bool := Nat.beq (Nat.land M L) M
def putZ (L i : Nat) : Nat := Nat.lor L (Nat.shiftLeft 1 i)
def orZ : List Nat → Nat
  | [] => 0
  | i :: r => putZ (orZ r) i
def afterM (ops : Array Oper) (i : Nat) : Nat := match ops[i]? with
  | some o => orZ ((o.after.toList.filter fun e => Region.binds .any e).map fun e => e.on)
  | none => 0
def readyM (ops : Array Oper) (L : Nat) : List Nat := (List.range ops.size).filter fun i => !hasZ L i && subZ (afterM ops i) L
def clashB (ops : Array Oper) (i : Nat) (oi : Oper) (j : Nat) : Bool := !(j == i) && !(match ops[j]? with
  | some oj => oj.after.any (fun e => Region.binds .any e && e.on == i) || oi.apart ops oj
  | none => true)
def clashM (ops : Array Oper) (i : Nat) : Nat := match ops[i]? with
  | some oi => orZ ((List.range ops.size).filter fun j => clashB ops i oi j)
  | none => 0
def noisyM (ops : Array Oper) : Nat := orZ ((List.range ops.size).filter fun i => !(match ops[i]? with | some o => pureOp P o.op || readOp o.op | none => true))
def sameM (ops : Array Oper) (i : Nat) : Nat := orZ ((List.range ops.size).filter fun k => sameG ops i k)
def takesM (ops : Array Oper) (prot : List Nat) (L : Nat) (env : Env) (bx : Bxs) (i : Nat) : Bool :=
  match ops[i]? with
  | some o => subZ (clashM ops i) L && (pureOp P o.op || boxLoad prot env bx o.op || (readOp o.op && subZ (noisyM P ops) L) || (!(Nat.beq (Nat.land (sameM ops i) L) 0) && skipB ops.toList o env))
  | none => false
def evDrawM (w0 : World) (X : XR) (ops : Array Oper) (prot : List Nat) (bx0 : Bxs) : Nat → Nat → Env → Bxs → AH → (Env → Bxs → AH → Prop) → Prop
  | 0, _, _, _, _, _ => False
  | n + 1, L, env, bx, h, K => match readyM ops L with
    | [] => K env (mergeB bx0 prot bx) h
    | rs => match rs.find? (takesM P ops prot L env bx0) with
      | some i => match ops[i]? with
        | some o => (match readOp o.op with
          | true => evOper P w0 X ops.toList o env (mergeB bx0 prot bx) h fun env _ h => evDrawM w0 X ops prot bx0 n (putZ L i) env bx h K
          | false => evOper P w0 X ops.toList o env bx h fun env bx h => evDrawM w0 X ops prot bx0 n (putZ L i) env bx h K)
        | none => False
      | none => allOf (fun i => match ops[i]? with
        | some o => (match readOp o.op with
          | true => evOper P w0 X ops.toList o env (mergeB bx0 prot bx) h fun env _ h => evDrawM w0 X ops prot bx0 n (putZ L i) env bx h K
          | false => evOper P w0 X ops.toList o env bx h fun env bx h => evDrawM w0 X ops prot bx0 n (putZ L i) env bx h K)
        | none => False) rs

/-! ### code -/
def junkM (M : Nat) (j : Nat → Value) : Nat → Env → Env
  | _, [] => []
  | t, x :: r => (match hasZ M t with | true => .v (j t) | false => x) :: junkM M j (t + 1) r
def junk (J : List Nat) (j : Nat → Value) (env : Env) : Env := junkM (orZ J) j 0 env
def guarded (ops : Array Oper) : Bool := ops.any fun o => o.guard.isSome
def exitsOf (id : Nat) : Code → Nat × Nat
  | .skip => (1, 0)
  | .label _ => (1, 0)
  | .region _ ops _ => (if guarded ops then 2 else 1, 0)
  | .seq a b => ((exitsOf id a).1 * (exitsOf id b).1, (exitsOf id a).2 + (exitsOf id a).1 * (exitsOf id b).2)
  | .cond _ a b => ((exitsOf id a).1 + (exitsOf id b).1, (exitsOf id a).2 + (exitsOf id b).2)
  | .block i c => match Nat.beq i id with
    | true => (0, 0)
    | false => ((exitsOf id c).1, (exitsOf id c).2)
  | .loop c => (0, (exitsOf id c).2)
  | .exit i => match Nat.beq i id with | true => (0, 1) | false => (0, 0)
  | .scope c => exitsOf id c
  | _ => (0, 0)
/-- In how many ways does code come to its end? -/
def waysOf : Code → Nat
  | .skip => 1
  | .label _ => 1
  | .region _ ops _ => if guarded ops then 2 else 1
  | .seq a b => waysOf a * waysOf b
  | .cond _ a b => waysOf a + waysOf b
  | .block i c => waysOf c + (exitsOf i c).2
  | .scope c => waysOf c
  | _ => 0
def weightOf : Code → Nat
  | .region _ _ _ => 1
  | .seq a b => weightOf a + weightOf b
  | .cond _ a b => weightOf a + weightOf b + 2
  | .block _ c => weightOf c
  | .loop c => weightOf c + 5
  | .scope c => weightOf c + 5
  | _ => 0
def firstR : Code → Option Nat
  | .region id _ _ => some id
  | .seq a b => match firstR a with | some i => some i | none => firstR b
  | .cond _ a b => match firstR a with | some i => some i | none => firstR b
  | .block _ c => firstR c
  | .loop c => firstR c
  | .scope c => firstR c
  | _ => none
/-- Loops that stand at the head, each in the other. -/
def headD : Code → Nat
  | .loop c => headD c + 1
  | .seq a _ => headD a
  | .block _ c => headD c
  | .scope c => headD c
  | _ => 0
/-- A loop's key, by its body; a join's, by what follows. -/
def keyL (c : Code) : Nat := (firstR c).getD 0 + 30000 * headD c
def keyJ (c : Code) : Nat := match headD c with | 0 => (firstR c).getD 0 | d + 1 => (firstR c).getD 0 + 20000 + 30000 * (d + 1)
def joins0 (a b : Code) : Bool := Nat.ble 2 (waysOf a) && Nat.ble 3 (weightOf b)
/-- .. and places of one's own: those whose hints hold 99999. -/
def markJ (J : Nat → List Nat × Nat) (k : Nat) : Bool := (J k).1.any (Nat.beq 99999)
def joins (M : Nat → Bool) (a b : Code) : Bool := match joins0 a b with
  | true => true
  | false => M (keyJ b)

inductive It where
  | code (c : Code)
  | jn (c : Code)
  | blk (id : Nat)
  | lp (c : Code)
  | scp (c : Code)
abbrev Stk := List It
abbrev ZR := Code → Stk → Env → Bxs → AH → Prop

def exitK (id : Nat) : Stk → Option Stk
  | [] => none
  | .blk i :: S => match Nat.beq i id with | true => some S | false => exitK id S
  | _ :: S => exitK id S
def gotoK (l : Nat) : Stk → Option (Code × Stk)
  | [] => none
  | .scp c :: S => match findLabel c l with | some rest => some (rest, .scp c :: S) | none => gotoK l S
  | _ :: S => gotoK l S

/-- To a place at which ways meet: the temporaries that nothing reads any more may hold anything; younger variables are forgotten. -/
def jump (J : Nat → List Nat × Nat) (Z : ZR) (key : Nat) (c : Code) (S : Stk) (env : Env) (bx : Bxs) (h : AH) : Prop :=
  ∀ j : Nat → Value, Z c S (junk (J key).1 j env) (bx.take (J key).2) h

/-- The temporaries, but for the dead ones, that stand for a slice literal; and the variables that are marked (100000 more). -/
def bsOps (dead : List Nat) : Nat → Env → List Operand
  | _, [] => []
  | t, x :: r => match x with
    | .bs _ _ => (match dead.any (Nat.beq t) with | true => bsOps dead (t + 1) r | false => .tmp t :: bsOps dead (t + 1) r)
    | .bp _ _ => (match dead.any (Nat.beq (t + 100000)) with | true => .tmp t :: bsOps dead (t + 1) r | false => bsOps dead (t + 1) r)
    | _ => bsOps dead (t + 1) r
/-- .. a slice literal first becomes a block like others. -/
def jumpX (w0 : World) (J : Nat → List Nat × Nat) (Z : ZR) (key : Nat) (c : Code) (S : Stk) (env : Env) (bx : Bxs) (h : AH) : Prop :=
  exposeAll w0 (bsOps (J key).1 0 env) env bx h fun env bx h => jump J Z key c S env bx h

def ev (w0 : World) (X : XR) (J : Nat → List Nat × Nat) (Z : ZR) (K : Env → Bxs → AH → Prop) : Nat → Code → Stk → Env → Bxs → AH → Prop
  | 0, _, _, _, _, _ => False
  | n + 1, c, S, env, bx, h => match c with
    | .skip => match S with
      | [] => K env bx h
      | .code c :: S => ev w0 X J Z K n c S env bx h
      | .jn c :: S => jumpX w0 J Z (keyJ c) c S env bx h
      | .blk _ :: S => ev w0 X J Z K n .skip S env bx h
      | .lp c :: S => jumpX w0 J Z (keyL c) c (.lp c :: S) env bx h
      | .scp _ :: S => ev w0 X J Z K n .skip S env bx h
    | .label _ => ev w0 X J Z K n .skip S env bx h
    | .region _ ops draw => match draw with
      | false => evOps P w0 X ops.toList ops.toList env bx h fun env bx h => ev w0 X J Z K n .skip S env bx h
      | true => match Region.noSelect ops with
        | false => False
        | true => evDrawM P w0 X ops (protB ops.toList env bx) bx (ops.size + 1) 0 env (maskB (protB ops.toList env bx) bx) h fun env bx h => ev w0 X J Z K n .skip S env bx h
    | .seq a b => match joins (markJ J) a b with
      | false => ev w0 X J Z K n a (.code b :: S) env bx h
      | true => ev w0 X J Z K n a (.jn b :: S) env bx h
    | .cond c a b => match c with
      | .tmp t => match opd env (.tmp t) with
        | .v (.bool x) => brB x (ev w0 X J Z K n a S (env.set t (.v (.bool true))) bx h) (ev w0 X J Z K n b S (env.set t (.v (.bool false))) bx h)
        | _ => False
      | .const (.bool x) => brB x (ev w0 X J Z K n a S env bx h) (ev w0 X J Z K n b S env bx h)
      | _ => False
    | .block id c => ev w0 X J Z K n c (.blk id :: S) env bx h
    | .loop c => jumpX w0 J Z (keyL c) c (.lp c :: S) env bx h
    | .scope c => ev w0 X J Z K n c (.scp c :: S) env bx h
    | .exit id => match exitK id S with
      | some S' => ev w0 X J Z K n .skip S' env bx h
      | none => False
    | .goto l => match gotoK l S with
      | some (c, S') => jumpX w0 J Z (l + 10000) c S' env bx h
      | none => False
    | .ret => K env bx h
    | _ => False

/-- Hints, by the places' keys. -/
def jOf : List (Nat × List Nat × Nat) → Nat → List Nat × Nat
  | [], _ => ([], 0)
  | x :: r, k => match Nat.beq x.1 k with | true => x.2 | false => jOf r k

/-- The places of a function, by their keys. -/
def labelsOf : Code → List Nat
  | .label l => [l]
  | .seq a b => labelsOf a ++ labelsOf b
  | _ => []
def pts (M : Nat → Bool) : Code → Stk → List (Nat × Code × Stk)
  | .seq a b, S => match joins M a b with
    | false => pts M a (.code b :: S) ++ pts M b S
    | true => (keyJ b, b, S) :: (pts M a (.jn b :: S) ++ pts M b S)
  | .cond _ a b, S => pts M a S ++ pts M b S
  | .block id c, S => pts M c (.blk id :: S)
  | .loop c, S => (keyL c, c, .lp c :: S) :: pts M c (.lp c :: S)
  | .scope c, S => ((labelsOf c).filterMap fun l => match findLabel c l with | some rest => some (l + 10000, rest, .scp c :: S) | none => none) ++ pts M c (.scp c :: S)
  | _, _ => []

/-- What a function hands back. -/
def resOf (rs : List ResultVar) (env : Env) (bx : Bxs) (h : AH) (w0 : World) (acc : List Value) (K : Value → AH → Prop) : Prop :=
  match rs with
  | [] => match acc with
    | [x] => K x h
    | l => K (.tuple l.reverse.toArray) h
  | .tmp t :: r => match opd env (.tmp t) with
      | .v y => resOf r env bx h w0 (y :: acc) K
      | _ => False
  | .cell t ty :: r => loadR P w0 ty (opd env (.tmp t)) bx h fun y => resOf r env bx h w0 (y :: acc) K
/-- .. the variables that are handed back by their addresses first made blocks. -/
def resK (rs : List ResultVar) (w0 : World) (env : Env) (bx : Bxs) (h : AH) (K : Value → AH → Prop) : Prop :=
  exposeAll w0 (rs.filterMap fun r => match r with | .tmp t => some (.tmp t) | _ => none) env bx h fun env bx h => resOf P rs env bx h w0 [] K

def bodyOf (g : FuncId) : Code := match P.funcs[g]? with | some fn => (match fn.body with | some c => c | none => .skip) | none => .skip
def resVars (g : FuncId) : List ResultVar := match P.funcs[g]? with | some fn => fn.results.toList | none => []
def ntOf (g : FuncId) : Nat := match P.funcs[g]? with | some fn => fn.ntmps | none => 0
def ptOf (J : Nat → List Nat × Nat) (g : FuncId) (key : Nat) : Code × Stk := match (pts (markJ J) (bodyOf P g) []).find? (fun x => Nat.beq x.1 key) with | some x => x.2 | none => (.skip, [])

/-- One function's text at a place, the places being met by Z. -/
def evG (w0 : World) (X : XR) (J : Nat → List Nat × Nat) (g : FuncId) (K : Value → AH → Prop) (Z : ZR) (c : Code) (S : Stk) (env : Env) (bx : Bxs) (h : AH) : Prop :=
  ev P w0 X J Z (fun env bx h => resK P (resVars P g) w0 env bx h K) 400 c S env bx h

/-- The least relation on the places that the text makes. -/
def LP (w0 : World) (X : XR) (J : Nat → List Nat × Nat) (g : FuncId) (K : Value → AH → Prop) (c : Code) (S : Stk) (env : Env) (bx : Bxs) (h : AH) : Prop :=
  ∀ Z : ZR, (∀ Z0 : ZR, (∀ c S env bx h, Z0 c S env bx h → Z c S env bx h) → ∀ c S env bx h, evG P w0 X J g K Z0 c S env bx h → Z c S env bx h) → Z c S env bx h
/-- .. at the place with a key. -/
def LPk (w0 : World) (X : XR) (J : Nat → List Nat × Nat) (g : FuncId) (K : Value → AH → Prop) (key : Nat) (env : Env) (bx : Bxs) (h : AH) : Prop :=
  LP P w0 X J g K (ptOf P J g key).1 (ptOf P J g key).2 env bx h

def env0 (g : FuncId) (args : List Value) : Env := args.map .v ++ List.replicate (ntOf P g - args.length) (.v undef)
def evF (w0 : World) (X : XR) (J : Nat → List Nat × Nat) (g : FuncId) (args : List Value) (K : Value → AH → Prop) (h : AH) : Prop :=
  match hasBody P g with
  | true => evG P w0 X J g K (LP P w0 X J g K) (bodyOf P g) [] (env0 P g args) [] h
  | false => False

/-! what a world is to what is known of it -/
def fits : AB → Obj → Prop
  | .cells xs sz, .cells c _ fr => c.size = sz ∧ xs.length ≤ sz ∧ (∀ (i : Nat) (x : Value), xs[i]? = some x → c[i]? = some x) ∧ (∀ i, i < sz + 1 → (decide (fr.1 ≤ i) && decide (i < fr.2)) = false)
  | .map es, .map ents clock => ents.toList.map (fun e => (e.key, e.val)) = es ∧ ents.toList.Pairwise (fun x y => x.born ≠ y.born) ∧ ∀ e ∈ ents.toList, e.born < clock
  | .sit s pos, .stringIter s' pos' => s' = s ∧ pos' = pos
  | .strb xs, .cells c _ _ => ∀ (i : Nat) (x : Value), xs[i]? = some x → c[i]? = some x
  | .mit m _ _, .mapIter m' _ _ _ => m' = m
  | _, _ => False

/-- Which entries are left to an iterator. -/
def leftI (ents : Array MapEntry) (seen : Array Nat) : List Nat := (List.range ents.size).filter fun i => !((ents[i]?).any fun e => seen.contains e.born)
/-- An iterator goes with its map. -/
def ItOk (ob : Obj) (since : Nat) (seen : Array Nat) (last : Nat) (left : List Nat) (cur : Option Nat) : Prop :=
  ∀ ents clock, ob = .map ents clock → since = clock ∧ last = clock ∧ leftI ents seen = left ∧ ∀ c, cur = some c → ∃ e, ents[c]? = some e ∧ seen.back? = some e.born

structure Rw (w0 : World) (h : AH) (w : World) : Prop where
  below : Go.RowKit.Below w0.heap.size w0 w
  fits : ∀ b o, h b = some o → w0.heap.size ≤ b ∧ ∃ ob, w.heap[b]? = some ob ∧ fits o ob
  its : ∀ i m left cur, h i = some (.mit m left cur) → ∃ since seen last, w.heap[i]? = some (.mapIter m since seen last) ∧ (m = none → left = []) ∧
    ∀ r, m = some r → ∃ ob, w.heap[r]? = some ob ∧ ItOk ob since seen last left cur

structure Keep (h : AH) (w : World) (h' : AH) (w' : World) : Prop where
  size : w.heap.size ≤ w'.heap.size
  same : ∀ b, h b = none → b < w.heap.size → h' b = none ∧ w'.heap[b]? = w.heap[b]?

/-- What is so of a call, however it is shown. -/
def Dir (w0 : World) : XR := fun g args K h => ∀ w, Rw w0 h w → Calls P g args w fun e w' => ∃ x h', e = .returned x ∧ Rw w0 h' w' ∧ Keep h w h' w' ∧ K x h'
/-- A call: the least relation that the functions' own texts make, and what is so of them otherwise. -/
def EvC (w0 : World) (g : FuncId) (args : Array Value) (K : Value → AH → Prop) (h : AH) : Prop :=
  ∀ X : XR, (∀ X0 : XR, (∀ g args K h, X0 g args K h → X g args K h) → ∀ g args K h, (∃ J, evF P w0 X0 J g args.toList K h) → X g args K h) → (∀ g args K h, Dir P w0 g args K h → X g args K h) → X g args K h
theorem LP_intro {w0 : World} {X : XR} {J : Nat → List Nat × Nat} {g : FuncId} {K : Value → AH → Prop} {c : Code} {S : Stk} {env : Env} {bx : Bxs} {h : AH}
    (hev : evG P w0 X J g K (LP P w0 X J g K) c S env bx h) : LP P w0 X J g K c S env bx h := fun Z hZ => hZ _ (fun _ _ _ _ _ hl => hl Z hZ) c S env bx h hev
theorem EvC_intro {w0 : World} {g : FuncId} {args : Array Value} {K : Value → AH → Prop} {h : AH} (J : Nat → List Nat × Nat)
    (hev : evF P w0 (EvC P w0) J g args.toList K h) : EvC P w0 g args K h := fun X hX hD => hX _ (fun _ _ _ _ he => he X hX hD) g args K h ⟨J, hev⟩
theorem EvC_dir {w0 : World} {g : FuncId} {args : Array Value} {K : Value → AH → Prop} {h : AH} (hd : Dir P w0 g args K h) : EvC P w0 g args K h := fun _ _ hD => hD _ _ _ _ hd
end

end Go.G
