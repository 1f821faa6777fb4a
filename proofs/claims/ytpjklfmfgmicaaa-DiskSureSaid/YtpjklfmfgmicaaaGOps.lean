/- Each operation does what the evaluator says of it: the operations that touch no memory. -/
import Derived.Test.YtpjklfmfgmicaaaGMem
import Derived.WalkLawsBesides
import Derived.WalkSpells
import Derived.Laws.StructEq
namespace Go.G
open Go.RowKit

section
variable {P : Program} {w0 : World} {fr : Fr} {β : Nat → Nat} {env : Env} {bx : Bxs} {h : AH} {a : Act} {w : World}

/-- What an operation leaves behind: a value, and a state at which K holds. -/
def Fit (w0 : World) (fr : Fr) (K : KO) (a : Act) (w : World) (x : Value) : Prop := ∃ β env bx h y, x = gam β y ∧ St w0 fr β env bx h a w ∧ K env bx h y

theorem info_of {t : TypeId} {d : TypeDesc} (hu : P.underlying t = some d) : ∃ i, P.info? t = some i := by
  unfold Program.underlying at hu
  cases hi : P.info? t with
  | none => rw [hi] at hu; cases hu
  | some i => exact ⟨i, rfl⟩

theorem run_und {t : TypeId} {d : TypeDesc} (hu : P.underlying t = some d) (w : World) : (underlying t).run P w = .ok d w := run_underlying hu w
theorem run_sz {t : TypeId} {i : TypeInfo} (hi : P.info? t = some i) (w : World) : (sizeOf t).run P w = .ok (szT P t) w := by
  simp [sizeOf, typeInfo, hi, szT]
theorem run_sz' {t : TypeId} {d : TypeDesc} (hu : P.underlying t = some d) (w : World) : (sizeOf t).run P w = .ok (szT P t) w := by
  obtain ⟨i, hi⟩ := info_of hu
  exact run_sz hi w
theorem run_agg {t : TypeId} {b : Bool} (hb : aggT P t = some b) (w : World) : (isAgg t).run P w = .ok b w := by
  unfold aggT at hb
  cases hu : P.underlying t with
  | none => rw [hu] at hb; cases hb
  | some d =>
    rw [hu] at hb
    cases d <;> simp at hb <;> subst hb <;> simp [isAgg, run_und hu]
theorem agg_info {t : TypeId} {b : Bool} (hb : aggT P t = some b) : ∃ i, P.info? t = some i := by
  unfold aggT at hb
  cases hu : P.underlying t with
  | none => rw [hu] at hb; cases hb
  | some d => exact info_of hu
theorem run_zero {t : TypeId} {z : Value} (hz : zeroT P t = some z) (w : World) : (zeroValue t).run P w = .ok z w := by
  unfold zeroT at hz
  cases hi : P.info? t with
  | none => rw [hi] at hz; cases hz
  | some i => rw [hi] at hz; simp only at hz; simp [zeroValue, typeInfo, hi, hz]
theorem zero_info {t : TypeId} {z : Value} (hz : zeroT P t = some z) : ∃ i, P.info? t = some i := by
  unfold zeroT at hz
  cases hi : P.info? t with
  | none => rw [hi] at hz; cases hz
  | some i => exact ⟨i, rfl⟩

theorem sameK_iff {k k' : IntKind} {A : Prop} : sameK k k' A ↔ k = k' ∧ A := by
  unfold sameK
  by_cases e : k = k'
  · simp [e]
  · simp [e]

theorem bool_und {t : TypeId} (hb : isBoolT P t = true) : P.underlying t = some .bool := by
  unfold isBoolT at hb
  split at hb
  · assumption
  · cases hb

theorem bytes_ext {a b : ByteArray} (h : a.data.toList = b.data.toList) : a = b := by
  cases a; cases b
  simp only [ByteArray.mk.injEq]
  exact Array.toList_inj.1 h
theorem str_beq (a b : ByteArray) : (a.toList == b.toList) = decide (a = b) := by
  rw [Bool.eq_iff_iff]
  simp only [beq_iff_eq, decide_eq_true_eq]
  constructor
  · intro h
    rw [ByteArray.toList_eq, ByteArray.toList_eq] at h
    exact bytes_ext h
  · rintro rfl; rfl

theorem bl_asymm : ∀ (x y : List UInt8), (Op.bytesLess x y || x == y) = !Op.bytesLess y x
  | [], [] => rfl
  | [], _ :: _ => rfl
  | _ :: _, [] => rfl
  | a :: x, b :: y => by
    have ih := bl_asymm x y
    simp only [Op.bytesLess]
    have tri : a < b ∨ a = b ∨ b < a := by
      rcases Nat.lt_trichotomy a.toNat b.toNat with h | h | h
      · exact .inl (UInt8.lt_iff_toNat_lt.2 h)
      · exact .inr (.inl (UInt8.toNat_inj.1 h))
      · exact .inr (.inr (UInt8.lt_iff_toNat_lt.2 h))
    rcases tri with h | h | h
    · have h2 : ¬ b < a := UInt8.lt_asymm h
      have h3 : b ≠ a := fun e => by subst e; exact UInt8.lt_irrefl _ h
      have h4 : (b == a) = false := by simpa using h3
      simp [h, h2, h4]
    · subst h
      have h2 : ¬ a < a := UInt8.lt_irrefl _
      simp only [h2, decide_false, Bool.false_or, beq_self_eq_true, Bool.true_and, List.cons_beq_cons]
      exact ih
    · have h2 : ¬ a < b := UInt8.lt_asymm h
      have h3 : a ≠ b := fun e => by subst e; exact UInt8.lt_irrefl _ h
      have h4 : (a == b) = false := by simpa using h3
      simp [h, h2, h4, List.cons_beq_cons]

theorem equalIn_bool {t : TypeId} (hu : P.underlying t = some .bool) (d : Nat) (x y : Bool) (w : World) : (Op.equalIn (d + 1) t (.bool x) (.bool y)).run P w = .ok (x == y) w := by
  simp [Op.equalIn, run_und hu]
theorem equal_bool {t : TypeId} (hu : P.underlying t = some .bool) (x y : Bool) (w : World) : (Op.equal t (.bool x) (.bool y)).run P w = .ok (x == y) w := equalIn_bool hu 9999 x y w

theorem runtime_lt (b : Int) (hb : 0 ≤ b) : ¬ b < 0 := by omega

/-- 'x op y' on plain values. -/
theorem bin_ok {op : BinOp} {t : TypeId} {x y : Value} {xo yo : Operand} {K : Value → Prop} (hb : binR P op t x y K) : ∃ z, K z ∧ ∀ w, (do eqGuard op t xo yo x y; binOp op t x y : Sem Value).run P w = .ok z w := by
  unfold binR at hb
  split at hb
  case h_1 => exact ⟨_, hb.2, fun w => by have h0 := runtime_lt _ hb.1; simp [eqGuard, binOp, Op.shift, h0]⟩
  case h_2 => exact ⟨_, hb.2, fun w => by have h0 := runtime_lt _ hb.1; simp [eqGuard, binOp, Op.shift, h0]⟩
  case h_3 => obtain ⟨rfl, hk⟩ := sameK_iff.1 hb; exact ⟨_, hk, fun w => by simp [eqGuard, binOp, Op.intArith]⟩
  case h_4 => obtain ⟨rfl, hk⟩ := sameK_iff.1 hb; exact ⟨_, hk, fun w => by simp [eqGuard, binOp, Op.intArith]⟩
  case h_5 => obtain ⟨rfl, hk⟩ := sameK_iff.1 hb; exact ⟨_, hk, fun w => by simp [eqGuard, binOp, Op.intArith]⟩
  case h_6 => obtain ⟨rfl, h0, hk⟩ := sameK_iff.1 hb; exact ⟨_, hk, fun w => by simp [eqGuard, binOp, Op.intDiv, h0]⟩
  case h_7 => obtain ⟨rfl, h0, hk⟩ := sameK_iff.1 hb; exact ⟨_, hk, fun w => by simp [eqGuard, binOp, Op.intDiv, h0]⟩
  case h_8 => obtain ⟨rfl, hk⟩ := sameK_iff.1 hb; exact ⟨_, hk, fun w => by simp [eqGuard, binOp, Op.intBits]⟩
  case h_9 => obtain ⟨rfl, hk⟩ := sameK_iff.1 hb; exact ⟨_, hk, fun w => by simp [eqGuard, binOp, Op.intBits]⟩
  case h_10 => obtain ⟨rfl, hk⟩ := sameK_iff.1 hb; exact ⟨_, hk, fun w => by simp [eqGuard, binOp, Op.intBits]⟩
  case h_11 => obtain ⟨rfl, hk⟩ := sameK_iff.1 hb; exact ⟨_, hk, fun w => by simp [eqGuard, binOp, Op.intBits]⟩
  case h_12 => obtain ⟨rfl, hk⟩ := sameK_iff.1 hb; exact ⟨_, hk, fun w => by simp [eqGuard, binOp, Op.intCmp]⟩
  case h_13 => obtain ⟨rfl, hk⟩ := sameK_iff.1 hb; exact ⟨_, hk, fun w => by simp [eqGuard, binOp, Op.intCmp]⟩
  case h_14 => obtain ⟨rfl, hk⟩ := sameK_iff.1 hb; exact ⟨_, hk, fun w => by simp [eqGuard, binOp, Op.intCmp]⟩
  case h_15 => obtain ⟨rfl, hk⟩ := sameK_iff.1 hb; exact ⟨_, hk, fun w => by simp [eqGuard, binOp, Op.intCmp]⟩
  case h_16 => obtain ⟨rfl, hk⟩ := sameK_iff.1 hb; exact ⟨_, hk, fun w => by simp [eqGuard, binOp, Op.intCmp]⟩
  case h_17 => obtain ⟨rfl, hk⟩ := sameK_iff.1 hb; exact ⟨_, hk, fun w => by simp [eqGuard, binOp, Op.intCmp]⟩
  case h_18 => exact ⟨_, hb.2, fun w => by have := hb.1; simp [eqGuard, binOp, Op.stringOp, IntKind.max, IntKind.signed, IntKind.bits]; omega⟩
  case h_19 => exact ⟨_, hb, fun w => by simp [eqGuard, binOp, Op.stringOp, str_beq]⟩
  case h_20 => exact ⟨_, hb, fun w => by simp [eqGuard, binOp, Op.stringOp, str_beq]⟩
  case h_21 => exact ⟨_, hb, fun w => by simp [eqGuard, binOp, Op.stringOp]⟩
  case h_24 => exact ⟨_, hb, fun w => by simp [eqGuard, binOp, Op.stringOp]⟩
  case h_25 =>
    split at hb
    · rename_i h0
      exact ⟨_, hb, fun w => by simp only [eqGuard, binOp]; simp [equal_bool (bool_und h0)]⟩
    · exact hb.elim
  case h_26 =>
    split at hb
    · rename_i h0
      exact ⟨_, hb, fun w => by simp only [eqGuard, binOp]; simp [equal_bool (bool_und h0), bne]⟩
    · exact hb.elim
  case h_22 => exact ⟨_, hb, fun w => by simp [eqGuard, binOp, Op.stringOp, bl_asymm]⟩
  case h_23 => exact ⟨_, hb, fun w => by simp only [eqGuard, binOp, Op.stringOp]; simp [bl_asymm]⟩
  all_goals exact hb.elim

theorem un_ok {op : UnOp} {x : Value} {K : Value → Prop} (hb : unR op x K) : ∃ z, K z ∧ ∀ w, (Op.unary op x).run P w = .ok z w := by
  unfold unR at hb
  split at hb
  · exact ⟨_, hb, fun w => by simp [Op.unary, Op.intArith]⟩
  · exact ⟨_, hb, fun w => by simp only [Op.unary, Op.intBits]; rfl⟩
  · exact ⟨_, hb, fun w => by simp [Op.unary]⟩
  · exact hb.elim

theorem equalIn_ptr {t e : TypeId} (hu : P.underlying t = some (.pointer e)) (d : Nat) (p : Option Addr) (w : World) : (Op.equalIn (d + 1) t (.pointer p) (.pointer none)).run P w = .ok p.isNone w := by
  cases p <;> simp [Op.equalIn, run_und hu]
theorem equal_ptr {t e : TypeId} (hu : P.underlying t = some (.pointer e)) (p : Option Addr) (w : World) : (Op.equal t (.pointer p) (.pointer none)).run P w = .ok p.isNone w := equalIn_ptr hu 9999 p w
theorem equalIn_sl {t e : TypeId} (hu : P.underlying t = some (.slice e)) (d : Nat) (p : Option Addr) (n c n' c' : Nat) (w : World) : (Op.equalIn (d + 1) t (.slice p n c) (.slice none n' c')).run P w = .ok p.isNone w := by
  cases p <;> simp [Op.equalIn, run_und hu]
theorem equal_sl {t e : TypeId} (hu : P.underlying t = some (.slice e)) (p : Option Addr) (n c n' c' : Nat) (w : World) : (Op.equal t (.slice p n c) (.slice none n' c')).run P w = .ok p.isNone w := equalIn_sl hu 9999 p n c n' c' w
theorem equalIn_map {t k e : TypeId} (hu : P.underlying t = some (.map k e)) (d : Nat) (p : Option Nat) (w : World) : (Op.equalIn (d + 1) t (.map p) (.map none)).run P w = .ok p.isNone w := by
  cases p <;> simp [Op.equalIn, run_und hu]
theorem equal_map {t k e : TypeId} (hu : P.underlying t = some (.map k e)) (p : Option Nat) (w : World) : (Op.equal t (.map p) (.map none)).run P w = .ok p.isNone w := equalIn_map hu 9999 p w

theorem none_some {α : Type} (p : Option α) : (!p.isNone) = p.isSome := by cases p <;> rfl

theorem nil_ok {op : BinOp} {t : TypeId} {x y : Value} {xo yo : Operand} {K : Value → Prop} (hb : nilR P op t x y K) :
    ∃ z, K z ∧ ∀ w, (do eqGuard op t xo yo x y; binOp op t x y : Sem Value).run P w = .ok z w := by
  unfold nilR at hb
  split at hb
  · rename_i hu; exact ⟨_, hb, fun w => by simp only [eqGuard, binOp]; simp [equal_ptr hu]⟩
  · rename_i hu; exact ⟨_, hb, fun w => by simp only [eqGuard, binOp]; simp [equal_ptr hu]⟩
  · rename_i hu; exact ⟨_, hb, fun w => by simp only [eqGuard, binOp]; simp [equal_sl hu]⟩
  · rename_i hu; exact ⟨_, hb, fun w => by simp only [eqGuard, binOp]; simp [equal_sl hu]⟩
  · rename_i hu; exact ⟨_, hb, fun w => by simp only [eqGuard, binOp]; simp [equal_map hu]⟩
  · rename_i hu; exact ⟨_, hb, fun w => by simp only [eqGuard, binOp]; simp [equal_map hu]⟩
  · exact hb.elim

theorem part_ok {t : TypeId} {cs : Array Value} {off : Nat} {K : Value → Prop} (hb : partR P t cs.toList off K) : ∃ z, K z ∧ ∀ w, (part t cs off).run P w = .ok z w := by
  unfold partR at hb
  split at hb
  · rename_i hagg
    split at hb
    · rename_i hle
      refine ⟨_, hb, fun w => ?_⟩
      obtain ⟨i, hi⟩ := agg_info hagg
      have e : (cs.extract off (off + szT P t)) = ((cs.toList.drop off).take (szT P t)).toArray := by
        apply Array.ext'
        rw [Array.toList_extract, List.extract_eq_take_drop]
        simp
      simp [part, run_agg hagg, run_sz hi, e]
    · exact hb.elim
  · rename_i hagg
    split at hb
    · rename_i x hx
      refine ⟨_, hb, fun w => ?_⟩
      have hx' : cs[off]? = some x := by simpa using hx
      simp [part, run_agg hagg, hx']
    · exact hb.elim
  · exact hb.elim

theorem eqFlds_ok {xs ys : Array Value} {d : Nat} : ∀ {fs : List Field} {acc : Bool} {K : Bool → Prop}, eqFlds P xs.toList ys.toList fs acc K → ∃ r : Bool, K (acc && r) ∧ ∀ w, (Op.eqFields (d + 1) xs ys fs).run P w = .ok r w
  | [], acc, K, hb => ⟨true, by rw [Bool.and_true]; exact hb, fun w => by simp [Op.eqFields]⟩
  | f :: fs, acc, K, hb => by
    unfold eqFlds at hb
    split at hb
    · exact hb.elim
    · rename_i hn
      have hn' : f.name ≠ "_" := by simpa using hn
      obtain ⟨x, hb1, hx⟩ := part_ok hb
      obtain ⟨y, hb2, hy⟩ := part_ok hb1
      clear hb hb1
      have step : ∀ (e : Bool), (∀ w, (Op.equalIn (d + 1) f.type x y).run P w = .ok e w) → eqFlds P xs.toList ys.toList fs (acc && e) K → ∃ r : Bool, K (acc && r) ∧ ∀ w, (Op.eqFields (d + 1) xs ys (f :: fs)).run P w = .ok r w := fun e he hb => by
        obtain ⟨r, hk, hr⟩ := eqFlds_ok (d := d) hb
        refine ⟨e && r, by rw [← Bool.and_assoc]; exact hk, fun w => ?_⟩
        simp only [Op.eqFields, hn', ne_eq, not_false_eq_true, if_true, Sem.run_bind, hx, hy, he, Result.andThen_ok]
        cases e with
        | true => simpa using hr w
        | false => simp
      split at hb2
      · rename_i hu
        obtain ⟨rfl, hb3⟩ := sameK_iff.1 hb2
        exact step _ (fun w => by simp [Op.equalIn, run_und hu]) hb3
      · rename_i hu
        exact step _ (fun w => by simp [Op.equalIn, run_und hu, ← str_beq, beq_toListBytes]) hb2
      · rename_i hu
        exact step _ (fun w => equalIn_bool hu d _ _ w) hb2
      · exact hb2.elim
theorem eqStruct_ok {t : TypeId} {xs ys : Array Value} {K : Bool → Prop} (hb : eqStructR P t xs.toList ys.toList K) : ∃ r : Bool, K r ∧ P.eqGuardType P.depth t = false ∧ ∀ w, (Op.equal t (.agg xs) (.agg ys)).run P w = .ok r w := by
  unfold eqStructR at hb
  split at hb
  · rename_i fs hu
    split at hb
    · exact hb.elim
    · rename_i hq
      rw [Bool.or_eq_false_iff] at hq
      obtain ⟨r, hk, hr⟩ := eqFlds_ok (d := 9998) hb
      rw [Bool.true_and] at hk
      have hfs : P.fieldsOf t = fs := by simp [Program.fieldsOf, hu]
      refine ⟨r, hk, hq.2, fun w => ?_⟩
      have := run_equalIn_struct (P := P) w 9999 t xs ys (by rw [hfs]; exact hu) hq.1
      rw [hfs] at this
      exact this.trans (hr w)
  · exact hb.elim
theorem binS_ok {op : BinOp} {t : TypeId} {x y : Value} {xo yo : Operand} {K : Value → Prop} (hb : binS P op t x y K) : ∃ z, K z ∧ ∀ w, (do eqGuard op t xo yo x y; binOp op t x y : Sem Value).run P w = .ok z w := by
  unfold binS at hb
  split at hb
  · obtain ⟨r, hk, hg, hr⟩ := eqStruct_ok hb
    exact ⟨_, hk, fun w => by simp [eqGuard, hg, binOp, hr]⟩
  · obtain ⟨r, hk, hg, hr⟩ := eqStruct_ok hb
    exact ⟨_, hk, fun w => by simp [eqGuard, hg, binOp, hr]⟩
  · exact bin_ok hb

theorem field_und {t : TypeId} {f off : Nat} {ft : TypeId} (hf : fieldOff P t f = some (off, ft)) : ∃ fs fd, P.underlying t = some (.struct fs) ∧ fs[f]? = some fd ∧ fd.offset = off ∧ fd.type = ft := by
  unfold fieldOff at hf
  split at hf
  · rename_i fs hu
    split at hf
    · rename_i x hx
      simp only [Option.some.injEq, Prod.mk.injEq] at hf
      exact ⟨fs, x, hu, hx, hf.1, hf.2⟩
    · cases hf
  · cases hf

theorem add_plain (b o n : Nat) : (⟨b, o, none⟩ : Addr).add n = ⟨b, o + n, none⟩ := by
  unfold Addr.add
  split <;> simp_all

theorem fieldAt_ok {t : TypeId} {f off : Nat} {ft : TypeId} (hf : fieldOff P t f = some (off, ft)) (hs : szT P ft ≠ 0) (ad : Addr) (w : World) :
    (Instr.fieldAt t (.pointer (some ad)) f).run P w = .ok (.pointer (some (ad.add off))) w := by
  obtain ⟨fs, fd, hu, hx, ho, ht⟩ := field_und hf
  subst ho ht
  have hi : ∃ i, P.info? fd.type = some i := by
    unfold szT at hs
    cases hi : P.info? fd.type with
    | none => rw [hi] at hs; exact absurd rfl hs
    | some i => exact ⟨i, rfl⟩
  obtain ⟨i, hi⟩ := hi
  simp [Instr.fieldAt, run_und hu, hx, Instr.sureAddr, fieldPlace, run_sz hi, hs]

theorem toNat_int (i : Int) (n : Nat) (h0 : 0 ≤ i) (h1 : i < n) : (0 ≤ i ∧ i < (n : Int)) := ⟨h0, h1⟩

theorem indexAt_slice {t e : TypeId} (hu : P.underlying t = some (.slice e)) (he : ∃ i, P.info? e = some i) (ad : Addr) (n c : Nat) (k : IntKind) (i : Int) (h0 : 0 ≤ i) (h1 : i < n) (w : World) :
    (Instr.indexAt t (.slice (some ad) n c) (.int k i)).run P w = .ok (.pointer (some (ad.add (i.toNat * szT P e)))) w := by
  obtain ⟨i', hi⟩ := he
  simp [Instr.indexAt, asIntOf, run_und hu, run_sz hi, h0, h1]

theorem indexAt_array {t e : TypeId} {m : Nat} (hu : P.underlying t = some (.array m e)) (he : ∃ i, P.info? e = some i) (ad : Addr) (k : IntKind) (i : Int) (h0 : 0 ≤ i) (h1 : i < m) (w : World) :
    (Instr.indexAt t (.pointer (some ad)) (.int k i)).run P w = .ok (.pointer (some (ad.add (i.toNat * szT P e)))) w := by
  obtain ⟨i', hi⟩ := he
  simp [Instr.indexAt, asIntOf, run_und hu, run_sz hi, h0, h1, Instr.sureAddr]

theorem posT_iff {t : TypeId} {A : Prop} : posT P t A ↔ (∃ i, P.info? t = some i) ∧ szT P t ≠ 0 ∧ A := by
  unfold posT
  cases hs : szT P t with
  | zero => simp
  | succ n =>
    have : ∃ i, P.info? t = some i := by
      unfold szT at hs
      cases hi : P.info? t with
      | none => rw [hi] at hs; cases hs
      | some i => exact ⟨i, rfl⟩
    simp [this]

theorem allK_at {A : Nat → Prop} : ∀ {n : Nat}, allK n A → ∀ k, k < n → A k
  | 0, _, k, hk => by omega
  | n + 1, h, k, hk => by
    by_cases e : k = n
    · subst e; exact h.2
    · exact allK_at h.1 k (by omega)

theorem le_toNat {l r : Int} (_h0 : 0 ≤ l) (h1 : l ≤ r) : l ≤ ((r.toNat : Nat) : Int) := by omega
theorem bound_ok {k : IntKind} {i : Int} {y : Nat} (code : BoundsCode) (h0 : 0 ≤ i) (h1 : i ≤ y) (w : World) : (Instr.sliceBound (.int k i) y code).run P w = .ok i.toNat w := by
  simp [Instr.sliceBound, asIntOf, h0, h1]

theorem cut_ok {t e : TypeId} (hu : P.underlying t = some (.slice e)) (he : ∃ i, P.info? e = some i) {ad : Option Addr} {n c : Nat} {lo hi : Option Value} {K : Value → Prop} (hb : cutR (szT P e) ad n c lo hi K) :
    ∃ z, K z ∧ ∀ w, (Instr.sliceAt t (.slice ad n c) lo hi none).run P w = .ok z w := by
  obtain ⟨i, hi'⟩ := he
  unfold cutR at hb
  split at hb
  · refine ⟨_, hb, fun w => ?_⟩
    have : (if c = 0 then ad else ad.map fun x => x.add (0 * szT P e)) = ad := by
      split
      · rfl
      · cases ad <;> simp [Addr.add]
    simp [Instr.sliceAt, run_und hu, Instr.slice, Instr.sliceBounds, run_sz hi']
    simpa using this
  · obtain ⟨h0, h1, hk⟩ := hb
    refine ⟨_, hk, fun w => ?_⟩
    simp [Instr.sliceAt, run_und hu, Instr.slice, Instr.sliceBounds, run_sz hi', bound_ok _ h0 h1, cutA]
  · obtain ⟨h0, h1, hk⟩ := hb
    refine ⟨_, hk, fun w => ?_⟩
    rename_i r
    have : (if c = 0 then ad else ad.map fun x => x.add (0 * szT P e)) = ad := by
      split
      · rfl
      · cases ad <;> simp [Addr.add]
    simp [Instr.sliceAt, run_und hu, Instr.slice, Instr.sliceBounds, run_sz hi', bound_ok _ h0 h1]
    simpa using this
  · obtain ⟨h0, h1, h2, hk⟩ := hb
    refine ⟨_, hk, fun w => ?_⟩
    have h3 := le_toNat h0 h1
    simp [Instr.sliceAt, run_und hu, Instr.slice, Instr.sliceBounds, run_sz hi', bound_ok _ (Int.le_trans h0 h1) h2, bound_ok _ h0 h3, cutA]
  · exact hb.elim

theorem cutS_ok {t : TypeId} (hu : P.underlying t = some .string) {s : ByteArray} {lo hi : Option Value} {K : Value → Prop} (hb : cutS s lo hi K) :
    ∃ z, K z ∧ ∀ w, (Instr.sliceAt t (.string s) lo hi none).run P w = .ok z w := by
  unfold cutS at hb
  split at hb
  · exact ⟨_, hb, fun w => by simp [Instr.sliceAt, run_und hu, Instr.slice, Instr.sliceBounds]⟩
  · obtain ⟨h0, h1, hk⟩ := hb
    exact ⟨_, hk, fun w => by simp [Instr.sliceAt, run_und hu, Instr.slice, Instr.sliceBounds, bound_ok _ h0 h1]⟩
  · obtain ⟨h0, h1, hk⟩ := hb
    exact ⟨_, hk, fun w => by simp [Instr.sliceAt, run_und hu, Instr.slice, Instr.sliceBounds, bound_ok _ h0 h1]⟩
  · obtain ⟨h0, h1, h2, hk⟩ := hb
    refine ⟨_, hk, fun w => ?_⟩
    have h3 := le_toNat h0 h1
    simp [Instr.sliceAt, run_und hu, Instr.slice, Instr.sliceBounds, bound_ok _ (Int.le_trans h0 h1) h2, bound_ok _ h0 h3]
  · exact hb.elim

/-- Some value of a type: whatever shape is open, it is one value. -/
theorem exL_some {l : List LK} {K : List Value → Prop} (hb : exL l K) : ∃ vs, vs.length = l.length ∧ K vs := by
  induction l generalizing K with
  | nil => exact ⟨[], rfl, hb⟩
  | cons k r ih =>
    cases k <;> simp only [exL] at hb
    all_goals first
      | (obtain ⟨x, hb⟩ := hb; obtain ⟨vs, hl, hk⟩ := ih hb; exact ⟨_ :: vs, by simp [hl], hk⟩)
      | (obtain ⟨x, y, z, hb⟩ := hb; obtain ⟨vs, hl, hk⟩ := ih hb; exact ⟨_ :: vs, by simp [hl], hk⟩)
theorem exT_some {t : TypeId} {K : Value → Prop} (hb : exT P t K) : ∃ x, K x ∧ ((aggT P t = some true ∧ ∃ vs, x = .agg vs) ∨ aggT P t = some false) := by
  unfold exT at hb
  split at hb
  · rename_i hagg
    obtain ⟨vs, _, hk⟩ := exL_some hb
    exact ⟨_, hk, .inl ⟨hagg, _, rfl⟩⟩
  · rename_i hagg
    split at hb
    · obtain ⟨vs, hl, hk⟩ := exL_some hb
      cases vs with
      | nil => exact hk.elim
      | cons x r => exact ⟨x, hk, .inr hagg⟩
    · exact hb.elim
  · exact hb.elim

/-- What a plain operation leaves: one value, whatever the world. -/
def Yld (P : Program) (w0 : World) (fr : Fr) (K : KO) (a : Act) (w : World) (o : Oper) : Prop :=
  ∃ x, (∀ w', (execOp a.eval o).run P w' = .ok (.value x) w') ∧ Fit w0 fr K a w x

theorem withV_some {x : AV} {K : Value → Prop} (hx : withV x K) : ∃ y, x = .v y ∧ K y := by
  cases x with
  | v y => exact ⟨y, rfl, hx⟩
  | bp i o => exact hx.elim
  | bs i n => exact hx.elim

set_option maxHeartbeats 1000000 in
theorem pure_ok {X : XR} {o : Oper} {K : KO} (hp : pureOp P o.op = true) (hb : evOp P w0 X o.op o.type env bx h K) (s : St w0 fr β env bx h a w) : Yld P w0 fr K a w o := by
  obtain ⟨dst, op, ty, pos, aft, gd⟩ := o
  have ev := opd_eval s
  cases op with
  | move x =>
    simp only [evOp] at hb
    exact ⟨_, fun w' => by simp [execOp], β, env, bx, h, _, ev x, s, hb⟩
  | assign x =>
    simp only [evOp] at hb
    exact ⟨_, fun w' => by simp [execOp], β, env, bx, h, _, ev x, s, hb⟩
  | build t ps =>
    simp only [evOp] at hb
    obtain ⟨env', bx', h', hk, s'⟩ := vals_sound hb s
    unfold buildR at hk
    split at hk
    · rename_i cs hcs
      rw [zip_map] at hcs
      have hr : ∀ w', (Instr.build t (ps.map fun (i, x) => (i, a.eval x))).run P w' = .ok (.agg cs) w' := fun w' => run_build w' t _ cs (by rw [← hcs]; simp)
      exact ⟨.agg cs, fun w' => by simp [execOp, hr w'], β, env', bx', h', .v (.agg cs), rfl, s', hk⟩
    · exact hk.elim
  | makeFunc fn first cap =>
    simp only [evOp] at hb
    obtain ⟨env', bx', h', hk, s'⟩ := vals_sound hb s
    refine ⟨.func fn (first.map a.eval) (cap.map a.eval), fun w' => by simp [execOp, Instr.makeFunc], β, env', bx', h', _, ?_, s', hk⟩
    simp [gam]
    constructor <;> (apply Array.ext'; simp)
  | pick c x y =>
    simp only [evOp] at hb
    split at hb
    · rename_i t ht
      have hc : a.eval c = .bool t := by rw [ev c, ht]; rfl
      rw [brB_iff] at hb
      cases t with
      | true => exact ⟨_, fun w' => by simp [execOp, hc, asBool], β, env, bx, h, _, ev x, s, hb.1 rfl⟩
      | false => exact ⟨_, fun w' => by simp [execOp, hc, asBool], β, env, bx, h, _, ev y, s, hb.2 rfl⟩
    · exact hb.elim
  | binOp op t x y t2 =>
    simp only [evOp] at hb
    split at hb
    · rename_i p q hp' hq'
      have e1 : a.eval x = p := by rw [ev x, hp']; rfl
      have e2 : a.eval y = q := by rw [ev y, hq']; rfl
      split at hb
      · obtain ⟨z, hk, hr⟩ := nil_ok (xo := x) (yo := y) hb
        exact ⟨z, fun w' => by simp only [execOp, e1, e2, Sem.run_bind, hr, Result.andThen_ok]; rfl, β, env, bx, h, .v z, rfl, s, hk⟩
      · obtain ⟨z, hk, hr⟩ := binS_ok (xo := x) (yo := y) hb
        exact ⟨z, fun w' => by simp only [execOp, e1, e2, Sem.run_bind, hr, Result.andThen_ok]; rfl, β, env, bx, h, .v z, rfl, s, hk⟩
    · rename_i i off hp' hq'
      have e1 : a.eval x = .pointer (some ⟨β i, off, none⟩) := by rw [ev x, hp']; rfl
      have e2 : a.eval y = .pointer none := by rw [ev y, hq']; rfl
      split at hb
      · rename_i hu
        exact ⟨.bool false, fun w' => by simp only [execOp, e1, e2, eqGuard, binOp]; simp [equal_ptr hu], β, env, bx, h, .v (.bool false), rfl, s, hb⟩
      · rename_i hu
        exact ⟨.bool true, fun w' => by simp only [execOp, e1, e2, eqGuard, binOp]; simp [equal_ptr hu], β, env, bx, h, .v (.bool true), rfl, s, hb⟩
      · exact hb.elim
    · exact hb.elim
  | unOp op t x =>
    simp only [evOp] at hb
    obtain ⟨p, hp', hb⟩ := withV_some hb
    have e1 : a.eval x = p := by rw [ev x, hp']; rfl
    obtain ⟨z, hk, hr⟩ := un_ok (P := P) hb
    exact ⟨z, fun w' => by simp only [execOp, e1, Sem.run_bind, hr, Result.andThen_ok]; rfl, β, env, bx, h, .v z, rfl, s, hk⟩
  | fieldAddr t x f =>
    simp only [evOp] at hb
    split at hb
    · rename_i off ft hf
      obtain ⟨_, hs, hb⟩ := posT_iff.1 hb
      split at hb
      · rename_i i o' hp'
        have e1 : a.eval x = .pointer (some ⟨β i, o', none⟩) := by rw [ev x, hp']; rfl
        exact ⟨_, fun w' => by simp only [execOp, e1, Sem.run_bind, fieldAt_ok hf hs, Result.andThen_ok]; rfl, β, env, bx, h, .bp i (o' + off), by simp [gam, add_plain], s, hb⟩
      · rename_i ad hp'
        have e1 : a.eval x = .pointer (some ad) := by rw [ev x, hp']; rfl
        exact ⟨_, fun w' => by simp only [execOp, e1, Sem.run_bind, fieldAt_ok hf hs, Result.andThen_ok]; rfl, β, env, bx, h, .v _, rfl, s, hb⟩
      · exact hb.elim
    · exact hb.elim
  | field t x f =>
    simp only [evOp] at hb
    split at hb
    · rename_i off ft hf
      obtain ⟨p, hp', hb⟩ := withV_some hb
      have e1 : a.eval x = p := by rw [ev x, hp']; rfl
      split at hb
      · rename_i cs
        obtain ⟨z, hk, hr⟩ := part_ok hb
        obtain ⟨fs, fd, hu, hx, ho, ht⟩ := field_und hf
        subst ho ht
        exact ⟨z, fun w' => by simp only [execOp, e1, Instr.field, asAgg]; simp [run_und hu, hx, hr], β, env, bx, h, .v z, rfl, s, hk⟩
      · exact hb.elim
    · exact hb.elim
  | indexAddr t x i =>
    simp only [evOp] at hb
    split at hb
    · rename_i e ad n c k iv hu hx hi
      have e1 : a.eval x = .slice ad n c := by rw [ev x, hx]; rfl
      have e2 : a.eval i = .int k iv := by rw [ev i, hi]; rfl
      obtain ⟨hinf, _, ad', rfl, h0, h1, hb⟩ := posT_iff.1 hb
      exact ⟨_, fun w' => by simp only [execOp, e1, e2, Sem.run_bind, indexAt_slice hu hinf _ _ _ _ _ h0 h1, Result.andThen_ok]; rfl, β, env, bx, h, .v _, rfl, s, hb⟩
    · rename_i e b n k iv hu hx hi
      have e1 : a.eval x = .slice (some ⟨β b, 0, none⟩) n n := by rw [ev x, hx]; rfl
      have e2 : a.eval i = .int k iv := by rw [ev i, hi]; rfl
      obtain ⟨hinf, _, h0, h1, hb⟩ := posT_iff.1 hb
      have hb := allK_at hb iv.toNat (by omega) (by omega)
      exact ⟨_, fun w' => by simp only [execOp, e1, e2, Sem.run_bind, indexAt_slice hu hinf _ _ _ _ _ h0 h1, Result.andThen_ok]; rfl, β, env, bx, h, .bp b _, by simp [gam, add_plain], s, hb⟩
    · rename_i n e b off k iv hu hx hi
      have e1 : a.eval x = .pointer (some ⟨β b, off, none⟩) := by rw [ev x, hx]; rfl
      have e2 : a.eval i = .int k iv := by rw [ev i, hi]; rfl
      obtain ⟨hinf, _, h0, h1, hb⟩ := posT_iff.1 hb
      exact ⟨_, fun w' => by simp only [execOp, e1, e2, Sem.run_bind, indexAt_array hu hinf _ _ _ h0 h1, Result.andThen_ok]; rfl, β, env, bx, h, .bp b _, by simp [gam, add_plain], s, hb⟩
    · rename_i n e ad k iv hu hx hi
      have e1 : a.eval x = .pointer (some ad) := by rw [ev x, hx]; rfl
      have e2 : a.eval i = .int k iv := by rw [ev i, hi]; rfl
      obtain ⟨hinf, _, h0, h1, hb⟩ := posT_iff.1 hb
      exact ⟨_, fun w' => by simp only [execOp, e1, e2, Sem.run_bind, indexAt_array hu hinf _ _ _ h0 h1, Result.andThen_ok]; rfl, β, env, bx, h, .v _, rfl, s, hb⟩
    · exact hb.elim
  | extract x i =>
    simp only [evOp] at hb
    obtain ⟨p, hp', hb⟩ := withV_some hb
    have e1 : a.eval x = p := by rw [ev x, hp']; rfl
    split at hb
    · rename_i vs
      split at hb
      · rename_i z hz
        exact ⟨z, fun w' => by simp [execOp, e1, Instr.extract, hz], β, env, bx, h, .v z, rfl, s, hb⟩
      · exact hb.elim
    · exact hb.elim
  | nilCheck x =>
    simp only [evOp] at hb
    split at hb
    · rename_i p hp'
      obtain ⟨ad, rfl, hb⟩ := hb
      have e1 : a.eval x = .pointer (some ad) := by rw [ev x, hp']; rfl
      exact ⟨.pointer (some ad), fun w' => by simp [execOp, e1], β, env, bx, h, .v _, rfl, s, hb⟩
    · rename_i i off hp'
      have e1 : a.eval x = .pointer (some ⟨β i, off, none⟩) := by rw [ev x, hp']; rfl
      exact ⟨.pointer (some ⟨β i, off, none⟩), fun w' => by simp [execOp, e1], β, env, bx, h, .bp i off, rfl, s, hb⟩
    · rename_i g f c hp'
      have e1 : a.eval x = .func (.func g) f c := by rw [ev x, hp']; rfl
      exact ⟨.func (.func g) f c, fun w' => by simp [execOp, e1], β, env, bx, h, .v _, rfl, s, hb⟩
    · exact hb.elim
  | slice t x lo hi mx =>
    simp only [evOp] at hb
    have ov : ∀ {q : Option Operand} {l : Option Value}, oVal env q = some l → q.map a.eval = l := by
      intro q l hq
      cases q with
      | none => simp [oVal] at hq; simp [hq]
      | some q =>
        simp only [oVal] at hq
        split at hq
        · rename_i y hy
          injection hq with hq
          subst hq
          simp [ev q, hy, gam]
        · cases hq
    split at hb
    · rename_i l r str hl hr hu hx
      have e1 : a.eval x = .string str := by rw [ev x, hx]; rfl
      obtain ⟨z, hk, hr'⟩ := cutS_ok hu hb
      exact ⟨z, fun w' => by simp only [execOp, e1, ov hl, ov hr, Option.map_none, Sem.run_bind, hr', Result.andThen_ok]; rfl, β, env, bx, h, .v z, rfl, s, hk⟩
    · rename_i l r e ad n c hl hr hu hx
      have e1 : a.eval x = .slice ad n c := by rw [ev x, hx]; rfl
      obtain ⟨hinf, _, hb⟩ := posT_iff.1 hb
      obtain ⟨z, hk, hr'⟩ := cut_ok hu hinf hb
      exact ⟨z, fun w' => by simp only [execOp, e1, ov hl, ov hr, Option.map_none, Sem.run_bind, hr', Result.andThen_ok]; rfl, β, env, bx, h, .v z, rfl, s, hk⟩
    · rename_i n e i hl hr hu hx
      have e1 : a.eval x = .pointer (some ⟨β i, 0, none⟩) := by rw [ev x, hx]; rfl
      split at hb
      · rename_i hq
        obtain ⟨hinf, hb⟩ := hb
        obtain ⟨i', hi'⟩ := hinf
        refine ⟨.slice (some ⟨β i, 0, none⟩) n n, fun w' => ?_, β, env, bx, h, .bs i n, rfl, s, hb⟩
        simp only [execOp, e1, ov hl, ov hr, Option.map_none]
        simp [Instr.sliceAt, run_und hu, Instr.sliceBounds, run_sz hi', Instr.sureAddr, add_plain]
      · exact hb.elim
    · rename_i m k r e ad n c hl hr hu hx
      have e1 : a.eval x = .slice ad n c := by rw [ev x, hx]; rfl
      obtain ⟨⟨i', hi'⟩, _, hb⟩ := posT_iff.1 hb
      split at hb
      · rename_i k2 q hm
        obtain ⟨h0, h1, h2, hk⟩ := hb
        have em : a.eval m = .int k2 q := by rw [ev m, hm]; rfl
        have hq0 : 0 ≤ q := Int.le_trans h0 h1
        have h3 : r ≤ ((q.toNat : Nat) : Int) := by omega
        refine ⟨.slice ad r.toNat q.toNat, fun w' => ?_, β, env, bx, h, .v _, rfl, s, hk⟩
        have hz : (if q.toNat = 0 then ad else ad.map fun x => x.add (0 * szT P e)) = ad := by
          split
          · rfl
          · cases ad <;> simp [Addr.add]
        simp only [execOp, e1, ov hl, ov hr, Option.map_some, em]
        simp [Instr.sliceAt, run_und hu, Instr.slice, Instr.sliceBounds, run_sz hi', bound_ok _ hq0 h2, bound_ok _ h0 h3]
        simpa using hz
      · exact hb.elim
    · exact hb.elim
  | index t x i =>
    simp only [evOp] at hb
    split at hb
    · rename_i str k iv hu hx hi
      have e1 : a.eval x = .string str := by rw [ev x, hx]; rfl
      have e2 : a.eval i = .int k iv := by rw [ev i, hi]; rfl
      obtain ⟨h0, h1, hb⟩ := hb
      have hlt : iv.toNat < str.data.size := by have : str.size = str.data.size := rfl; omega
      have hg : str[iv.toNat]? = some (str.data[iv.toNat]) := by
        have : iv.toNat < str.size := hlt
        rw [getElem?_pos str iv.toNat this]; rfl
      have hbt : byteAt str iv.toNat = (str.data[iv.toNat].toNat : Int) := by simp [byteAt, Array.getElem?_eq_getElem hlt]
      exact ⟨.int .u8 (byteAt str iv.toNat), fun w' => by simp only [execOp, e1, e2, Instr.index, asIntOf]; simp [run_und hu, h0, hg, hbt], β, env, bx, h, .v (.int .u8 (byteAt str iv.toNat)), rfl, s, hb⟩
    · rename_i n e cs k iv hu hx hi
      have e1 : a.eval x = .agg cs := by rw [ev x, hx]; rfl
      have e2 : a.eval i = .int k iv := by rw [ev i, hi]; rfl
      obtain ⟨⟨i', hi'⟩, _, h0, h1, hb⟩ := posT_iff.1 hb
      obtain ⟨y, ⟨hy, hk⟩, hshape⟩ := exT_some hb
      refine ⟨y, fun w' => ?_, β, env, bx, h, .v y, rfl, s, hk⟩
      have hrun : (part e cs (iv.toNat * szT P e)).run P w' = .ok y w' := by
        rcases hshape with ⟨hagg, vs, rfl⟩ | hagg
        · have e3 : cs.extract (iv.toNat * szT P e) (iv.toNat * szT P e + szT P e) = vs := by
            simp only [elemIs, hagg] at hy
            apply Array.ext'
            rw [Array.toList_extract, List.extract_eq_take_drop]
            simpa [Value.cells] using hy
          simp [part, run_agg hagg, run_sz hi', e3]
        · simp only [elemIs, hagg] at hy
          have hy' : cs[iv.toNat * szT P e]? = some y := by simpa using hy
          simp [part, run_agg hagg, hy']
      simp only [execOp, e1, e2, Instr.index, asIntOf]
      simp [run_und hu, h0, h1, run_sz hi', hrun]
    · exact hb.elim
  | convert sT d x =>
    have hd : ∃ k, P.underlying d = some (.int k) := by
      simp only [pureOp, isIntT] at hp
      split at hp
      · exact ⟨_, by assumption⟩
      · cases hp
    obtain ⟨k, hd⟩ := hd
    have hnb : isBytesT P d = false := by simp [isBytesT, hd]
    simp only [evOp] at hb
    cases hop : opd env x with
    | bp i off => rw [hop] at hb; exact hb.elim
    | bs i m => rw [hop, hnb] at hb; cases hsd : Nat.beq sT d <;> (rw [hsd] at hb; exact hb.elim)
    | v p =>
    rw [hop] at hb
    simp only at hb
    have e1 : a.eval x = p := by rw [ev x, hop]; rfl
    have hconv : ∃ n kk ds, P.underlying sT = some ds ∧ p = .int kk n ∧ K env bx h (.v (.int k (k.wrap n))) := by
      unfold convR at hb
      rw [hd] at hb
      split at hb
      · rename_i hu heq
        simp only [Option.some.injEq, TypeDesc.int.injEq] at heq
        subst heq
        exact ⟨_, _, _, hu, rfl, hb⟩
      all_goals first
        | (rename_i heq; cases heq)
        | exact hb.elim
    obtain ⟨n, kk, ds, hu, rfl, hk⟩ := hconv
    refine ⟨.int k (k.wrap n), fun w' => ?_, β, env, bx, h, .v _, rfl, s, hk⟩
    simp only [execOp, e1, convert]
    simp [run_und hu, run_und hd, Conv.intToInt]
  | call c =>
    obtain ⟨callee, args, ats⟩ := c
    simp only [pureOp] at hp
    split at hp
    · rename_i t hats
      simp only [evOp, callR, builtinR] at hb
      split at hb
      all_goals first
        | exact hb.elim
        | skip
      · rename_i h1 h2; cases h1
      · rename_i x heq hargs
        have hargs' : args = #[x] := by cases args; simp_all
        have hats' : ats = #[t] := by cases ats; simp_all
        subst hargs' hats'
        have et : (#[t] : Array TypeId)[0]? = some t := rfl
        simp only [et] at hb
        unfold lenR at hb
        split at hb
        · rename_i e ad n c hu hx
          have e1 : a.eval x = .slice ad n c := by rw [ev x, hx]; rfl
          exact ⟨.int .i64 n, fun w' => by simp [execOp, resolve, invoke, builtin, Builtin.len_, e1, run_und hu, goInt], β, env, bx, h, .v _, rfl, s, hb⟩
        · rename_i str hu hx
          have e1 : a.eval x = .string str := by rw [ev x, hx]; rfl
          exact ⟨.int .i64 str.size, fun w' => by simp [execOp, resolve, invoke, builtin, Builtin.len_, e1, run_und hu, goInt], β, env, bx, h, .v _, rfl, s, hb⟩
        · rename_i e b n hu hx
          have e1 : a.eval x = .slice (some ⟨β b, 0, none⟩) n n := by rw [ev x, hx]; rfl
          exact ⟨.int .i64 n, fun w' => by simp [execOp, resolve, invoke, builtin, Builtin.len_, e1, run_und hu, goInt], β, env, bx, h, .v _, rfl, s, hb⟩
        · rename_i n e cs hu hx
          have e1 : a.eval x = .agg cs := by rw [ev x, hx]; rfl
          exact ⟨.int .i64 n, fun w' => by simp [execOp, resolve, invoke, builtin, Builtin.len_, e1, run_und hu, goInt], β, env, bx, h, .v _, rfl, s, hb⟩
        · rename_i k e m hu hx
          rw [hu] at hp
          simp at hp
        · exact hb.elim
      all_goals (rename_i heq _; cases heq)
    · simp only [evOp, callR, builtinR] at hb
      split at hb
      all_goals first
        | exact hb.elim
        | (rename_i heq _; cases heq; done)
        | skip
      rename_i x y heq hargs
      have hargs' : args = #[x, y] := by cases args; simp_all
      subst hargs'
      obtain ⟨p, hp1, hb⟩ := withV_some hb
      obtain ⟨q, hq1, hb⟩ := withV_some hb
      have e1 : a.eval x = p := by rw [ev x, hp1]; rfl
      have e2 : a.eval y = q := by rw [ev y, hq1]; rfl
      unfold min2R at hb
      split at hb
      · rename_i k u kk v _
        exact ⟨.int k (if v < u then v else u), fun w' => by simp [execOp, resolve, invoke, builtin, Builtin.min_, Builtin.min2, e1, e2], β, env, bx, h, .v _, rfl, s, hb⟩
      · exact hb.elim
    · simp only [evOp, callR, builtinR] at hb
      split at hb
      all_goals first
        | exact hb.elim
        | (rename_i heq _; cases heq; done)
        | skip
      rename_i x y heq hargs
      have hargs' : args = #[x, y] := by cases args; simp_all
      subst hargs'
      obtain ⟨p, hp1, hb⟩ := withV_some hb
      obtain ⟨q, hq1, hb⟩ := withV_some hb
      have e1 : a.eval x = p := by rw [ev x, hp1]; rfl
      have e2 : a.eval y = q := by rw [ev y, hq1]; rfl
      unfold min2R at hb
      split at hb
      · rename_i k u kk v _
        exact ⟨.int k (if u < v then v else u), fun w' => by simp [execOp, resolve, invoke, builtin, Builtin.max_, Builtin.max2, e1, e2], β, env, bx, h, .v _, rfl, s, hb⟩
      · exact hb.elim
    · cases hp
  | _ => simp [pureOp] at hp
end
end Go.G
