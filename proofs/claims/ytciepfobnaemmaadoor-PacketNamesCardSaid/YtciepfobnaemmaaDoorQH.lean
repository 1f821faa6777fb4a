/- A CONNECT with a name and a word. -/
import Derived.Test.YtciepfobnaemmaaDoorQC
import Derived.Test.YtciepfobnaemmaaDoorProg
set_option maxRecDepth 100000
namespace Go.G.YtciepfobnaemmaaDoor
open Go.RowKit
open Value (string slice int bool agg)
/-! ### a CONNECT with a name and a word -/
theorem ascii_valid : ∀ l : List UInt8, (∀ x ∈ l, x.toNat ≠ 0 ∧ x.toNat ≤ 127) → validU l = true
  | [], _ => rfl
  | b :: r, h => by
    have := h b (List.mem_cons_self ..)
    rw [validU_ascii (UInt8.lt_iff_toNat_lt.2 (show b.toNat < 128 by omega))]
    exact ascii_valid r fun x hx => h x (List.mem_cons_of_mem _ hx)
theorem ascii_text {l : List UInt8} (h : ∀ x ∈ l, x.toNat ≠ 0 ∧ x.toNat ≤ 127) : textB l = true := by
  unfold textB
  rw [ascii_valid l h, Bool.true_and, Bool.not_eq_true', List.any_eq_false]
  intro x hx e
  have : x = 0 := by simpa using e
  subst this
  exact (h 0 hx).1 rfl
theorem bits192 : ∀ f, f < 64 → (badF f = false → badF (f + 192) = false) ∧ bitN (f + 192) 1 = bitN f 1 ∧ bitN (f + 192) 2 = bitN f 2 ∧ bitN (f + 192) 5 = bitN f 5 ∧ (f + 192) / 8 % 4 = f / 8 % 4 ∧ bitN (f + 192) 6 = true ∧ bitN (f + 192) 7 = true := by decide
theorem or192 : ∀ f, f < 64 → f ||| 192 = f + 192 := by decide
theorem bitV_le (b : Bool) (n : Nat) : bitV b n ≤ n := by cases b; exact Nat.zero_le _; exact Nat.le_refl _
theorem con_app {k : Pk} (h : MayK k) (k1 : k.kind = 1) : ∃ (f : Nat) (t : List UInt8), f < 64 ∧ (restP k).1 = textP mqttL ++ (4 :: UInt8.ofNat f :: t) ∧ t.length ≤ 394 ∧ ∀ z, conS (textP mqttL ++ (4 :: UInt8.ofNat (f + 192) :: (t ++ z)), 0) = (k, con4 (f + 192) (z, 0)) := by
  have hc := h.con.1 k1
  obtain ⟨al, ea, la⟩ := nat_of ⟨hc.1, hc.2.1⟩
  have cl : k.client.data.toList.length ≤ 64 := by rw [slen]; exact hc.2.2.1
  have ack := h.ack.2 (by omega)
  have wa := h.wants.2.2 (by omega)
  have co := h.codes.2 (by omega)
  have id := h.id.2 (by omega)
  have dup := false_of h.dup (by omega)
  have hq : ∃ q : Nat, k.qos = ((q : Nat) : Int) ∧ q ≤ 2 ∧ (k.will = true ∨ (q = 0 ∧ k.ret = false)) := by
    by_cases w : k.will = true
    · have := h.msg.1 (.inr ⟨k1, w⟩)
      exact ⟨k.qos.toNat, by omega, by omega, .inl w⟩
    · have := h.msg.2 (by rintro (a | ⟨_, a⟩); omega; exact w a)
      exact ⟨0, this.2.2.1, by omega, .inr ⟨rfl, this.2.2.2⟩⟩
  obtain ⟨q, eq, lq, hw⟩ := hq
  obtain ⟨b1, b2, b3, b4, b5, b6, b7, b8⟩ := con_bits k.ret k.will k.clean q lq
  have bb := b8 hw
  have er : (restP k).1 = textP mqttL ++ (4 :: UInt8.ofNat (bitV k.ret 32 + q * 8 + bitV k.will 4 + bitV k.clean 2) :: (fixedV al 2 ++ (textP k.client.data.toList ++ (if k.will then textP k.topic.data.toList ++ textP k.pay else [])))) := by
    unfold restP
    rw [if_pos k1, eq, ea, Int.toNat_natCast, Int.toNat_natCast]
    simp only [List.append_assoc, List.cons_append, List.nil_append]
  have f64 : bitV k.ret 32 + q * 8 + bitV k.will 4 + bitV k.clean 2 < 64 := by
    have := bitV_le k.ret 32
    have := bitV_le k.will 4
    have := bitV_le k.clean 2
    omega
  clear b8
  generalize bitV k.ret 32 + q * 8 + bitV k.will 4 + bitV k.clean 2 = f at *
  obtain ⟨d0, d1, d2, d3, d4, d5, d6⟩ := bits192 f f64
  refine ⟨f, _, f64, er, ?_, fun z => ?_⟩
  · have f2l : ∀ n, (fixedV n 2).length = 2 := fun n => fixedV_len n 2
    cases w : k.will with
    | true =>
      have hm := h.msg.1 (.inr ⟨k1, w⟩)
      have tl := name_le hm.1
      rw [← slen] at tl
      rw [if_pos rfl]
      simp only [List.length_append, f2l, textP_len]
      omega
    | false =>
      rw [if_neg (by decide)]
      simp only [List.length_append, List.length_nil, f2l, textP_len]
      omega
  · rw [List.append_assoc, List.append_assoc, conS_eq, con1_app (by omega) (d0 bb)]
    dsimp only
    rw [con2_app (by omega) cl hc.2.2.2]
    dsimp only
    rw [d1, d2, d3, d4, b1, b2, b3, b4]
    cases w : k.will with
    | true =>
      have hm := h.msg.1 (.inr ⟨k1, w⟩)
      have tl := name_le hm.1
      rw [← slen] at tl
      rw [if_pos rfl, if_pos rfl, List.append_assoc, con3_app (t := k.topic.data.toList) (p := k.pay) (by rw [toB_data]; exact hm.1) tl hm.2.1]
      exact Prod.ext (pk_ext k1.symm id.symm dup.symm (toB_data _) rfl eq.symm rfl h.kind.2.2.symm (toB_data _) rfl ea.symm w.symm ack.1.symm ack.2.symm wa.symm co.symm) rfl
    | false =>
      have hm := h.msg.2 (by rintro (a | ⟨_, a⟩); omega; rw [w] at a; cases a)
      rw [if_neg (by decide), if_neg (by decide), List.nil_append]
      exact Prod.ext (pk_ext k1.symm id.symm dup.symm hm.1.symm hm.2.1.symm eq.symm rfl h.kind.2.2.symm (toB_data _) rfl ea.symm w.symm ack.1.symm ack.2.symm wa.symm co.symm) rfl
theorem con4_app {f : Nat} (b6 : bitN f 6 = true) (b7 : bitN f 7 = true) {n w : List UInt8} (hn : n.length < 65536) (hw : w.length < 65536) (ht : textB n = true) (z : List UInt8) : con4 f (textP n ++ (textP w ++ z), 0) = (z, 0) := by
  unfold con4
  rw [b6, b7, if_pos rfl, if_pos rfl, text_app hn]
  dsimp only
  rw [ht, Bool.not_true, fail_no, text_app hw]
theorem con4_cut {f : Nat} (b6 : bitN f 6 = true) (b7 : bitN f 7 = true) {n w : List UInt8} (hn : n.length < 65536) (hw : w.length < 65536) (ht : textB n = true) : (con4 f (textP n ++ (textP w).take (w.length + 1), 0)).2 = 3 := by
  unfold con4
  rw [b6, b7, if_pos rfl, if_pos rfl, text_app hn]
  dsimp only
  rw [ht, Bool.not_true, fail_no]
  cases w with
  | nil => rfl
  | cons x w =>
    have e : (textP (x :: w)).take ((x :: w).length + 1) = fixedV (x :: w).length 2 ++ (x :: w).take w.length := by
      unfold textP
      rw [List.take_append, fixedV_len, List.take_of_length_le (by rw [fixedV_len, List.length_cons]; omega), List.length_cons, show w.length + 1 + 1 - 2 = w.length by omega]
    rw [e]
    unfold textS
    rw [two_app hw]
    dsimp only
    unfold takeS
    rw [if_pos rfl, if_neg (by rw [List.length_take, List.length_cons]; omega)]
theorem take_last (p : List UInt8) {w : List UInt8} (h : 1 ≤ w.length) : (p ++ w).take ((p ++ w).length - 1) = p ++ w.take (w.length - 1) := by
  rw [List.take_append, List.length_append, List.take_of_length_le (by omega), show p.length + w.length - 1 - p.length = w.length - 1 by omega]
def wholeP (x : List UInt8) : List UInt8 := 16 :: (putV x.length ++ x)
theorem whole_dec {x : List UInt8} (h : x.length ≤ 1024) : decL (wholeP x) = endP (conS (x, 0)) := by
  unfold wholeP
  rw [decL_cons, len_put (by omega)]
  dsimp only
  rw [if_neg (fun z => z rfl), if_neg (by omega), if_neg (by rw [List.length_append]; omega), if_neg (by rw [List.length_append]; rintro (a | a); omega; exact absurd a (by decide)), List.drop_left' rfl]
  rfl
theorem end_err {y : Pk × RS} (h : y.2.2 ≠ 0) : (endP y).2 = y.2.2 := by
  unfold endP
  rw [failS_err h, if_neg h]
/-- The three that the law asks for. -/
theorem names_dec {k : Pk} (h : MayK k) (k1 : k.kind = 1) {n w : List UInt8} (hn : n.length ≤ 100) (hw : w.length ≤ 100) (ht : textB n = true) : ∃ (f : Nat) (t : List UInt8), f < 64 ∧ (restP k).1 = textP mqttL ++ (4 :: UInt8.ofNat f :: t) ∧ t.length ≤ 394 ∧
    decL (wholeP (textP mqttL ++ (4 :: UInt8.ofNat (f + 192) :: (t ++ (textP n ++ textP w))))) = (k, 0) ∧ (decL (wholeP ((textP mqttL ++ (4 :: UInt8.ofNat (f + 192) :: (t ++ (textP n ++ textP w)))) ++ [0]))).2 = 3 ∧
    (decL (wholeP ((textP mqttL ++ (4 :: UInt8.ofNat (f + 192) :: (t ++ (textP n ++ textP w)))).take ((textP mqttL ++ (4 :: UInt8.ofNat (f + 192) :: (t ++ (textP n ++ textP w)))).length - 1)))).2 = 3 := by
  obtain ⟨f, t, hf, er, lt, ec⟩ := con_app h k1
  obtain ⟨_, _, _, _, _, b6, b7⟩ := bits192 f hf
  have ml : (textP mqttL).length = 6 := rfl
  have ln : (textP n).length = n.length + 2 := textP_len n
  have lw : (textP w).length = w.length + 2 := textP_len w
  refine ⟨f, t, hf, er, lt, ?_, ?_, ?_⟩
  · rw [whole_dec (by simp only [List.length_append, List.length_cons]; omega), ec]
    have := con4_app b6 b7 (n := n) (w := w) (by omega) (by omega) ht []
    rw [List.append_nil] at this
    rw [this]
    rfl
  · rw [whole_dec (by simp only [List.length_append, List.length_cons, List.length_nil]; omega)]
    have e : (textP mqttL ++ (4 :: UInt8.ofNat (f + 192) :: (t ++ (textP n ++ textP w)))) ++ [0] = textP mqttL ++ (4 :: UInt8.ofNat (f + 192) :: (t ++ (textP n ++ (textP w ++ [0])))) := by simp only [List.append_assoc, List.cons_append]
    rw [e, ec, con4_app b6 b7 (by omega) (by omega) ht]
    rfl
  · have e : (textP mqttL ++ (4 :: UInt8.ofNat (f + 192) :: (t ++ (textP n ++ textP w)))).take ((textP mqttL ++ (4 :: UInt8.ofNat (f + 192) :: (t ++ (textP n ++ textP w)))).length - 1) = textP mqttL ++ (4 :: UInt8.ofNat (f + 192) :: (t ++ (textP n ++ (textP w).take (w.length + 1)))) := by
      have a1 : (textP mqttL ++ (4 :: UInt8.ofNat (f + 192) :: (t ++ (textP n ++ textP w)))) = (textP mqttL ++ (4 :: UInt8.ofNat (f + 192) :: (t ++ textP n))) ++ textP w := by simp only [List.append_assoc, List.cons_append]
      have a2 : textP mqttL ++ (4 :: UInt8.ofNat (f + 192) :: (t ++ (textP n ++ (textP w).take (w.length + 1)))) = (textP mqttL ++ (4 :: UInt8.ofNat (f + 192) :: (t ++ textP n))) ++ (textP w).take (w.length + 1) := by simp only [List.append_assoc, List.cons_append]
      rw [a2, a1, take_last _ (by rw [lw]; omega), lw]
      rfl
    have l1 : ((textP w).take (w.length + 1)).length ≤ w.length + 2 := by rw [List.length_take]; omega
    rw [e, whole_dec (by simp only [List.length_append, List.length_cons]; omega), ec]
    have c3 := con4_cut b6 b7 (n := n) (w := w) (by omega) (by omega) ht
    rw [end_err (by dsimp only; rw [c3]; decide)]
    exact c3
end Go.G.YtciepfobnaemmaaDoor
