/- What was encoded is told again. -/
import Derived.Test.YtciepfobnaemmaaDoorQB
import Derived.Test.YtciepfobnaemmaaDoorProg
set_option maxRecDepth 100000
namespace Go.G.YtciepfobnaemmaaDoor
open Go.RowKit
open Value (string slice int bool agg)
/-! ### what was encoded is told again -/
theorem decL_cons (x : UInt8) (r : List UInt8) : decL (x :: r) = if (lenS r).2.2 ≠ 0 then ({}, (lenS r).2.2) else if 1024 < (lenS r).1 then ({}, 2) else if r.length < (lenS r).2.1 + (lenS r).1 then ({}, 5)
    else if (lenS r).2.1 + (lenS r).1 < r.length ∨ headB x.toNat = false then ({}, 3) else endP (bodyS x.toNat (r.drop (lenS r).2.1)) := rfl
theorem fail_no (s : RS) (e : Int) : failS s false e = s := rfl
theorem take_app (a b : List UInt8) : takeS (a ++ b, 0) a.length = (a, (b, 0)) := by
  unfold takeS
  rw [if_pos rfl, if_pos (by rw [List.length_append]; omega), List.take_left', List.drop_left'] <;> rfl
theorem one_app (x : UInt8) (b : List UInt8) : oneS (x :: b, 0) = (x.toNat, (b, 0)) := by
  unfold oneS
  rw [show takeS (x :: b, 0) 1 = ([x], (b, 0)) from take_app [x] b]
theorem fixed2 (n : Nat) : fixedV n 2 = [UInt8.ofNat (n / 256 % 256), UInt8.ofNat (n % 256)] := by
  simp [fixedV]
theorem two_app {n : Nat} (h : n < 65536) (b : List UInt8) : twoS (fixedV n 2 ++ b, 0) = (n, (b, 0)) := by
  unfold twoS
  rw [show takeS (fixedV n 2 ++ b, 0) 2 = (fixedV n 2, (b, 0)) by have := take_app (fixedV n 2) b; rwa [fixedV_len] at this, fixed2]
  dsimp only
  rw [UInt8.toNat_ofNat', UInt8.toNat_ofNat']
  congr 1
  omega
theorem text_app {l : List UInt8} (h : l.length < 65536) (b : List UInt8) : textS (textP l ++ b, 0) = (l, (b, 0)) := by
  unfold textS textP
  rw [List.append_assoc, two_app h]
  exact take_app l b
theorem id_app {n : Nat} (h : n < 65536) (h1 : 1 ≤ n) (b : List UInt8) : idS (fixedV n 2 ++ b, 0) = (n, (b, 0)) := by
  unfold idS
  rw [two_app h, decide_eq_false (by dsimp only; omega)]
  rfl
theorem con_bits : ∀ (r w c : Bool) (q : Nat), q ≤ 2 → bitN (bitV r 32 + q * 8 + bitV w 4 + bitV c 2) 1 = c ∧ bitN (bitV r 32 + q * 8 + bitV w 4 + bitV c 2) 2 = w ∧ bitN (bitV r 32 + q * 8 + bitV w 4 + bitV c 2) 5 = r ∧ (bitV r 32 + q * 8 + bitV w 4 + bitV c 2) / 8 % 4 = q ∧
    bitN (bitV r 32 + q * 8 + bitV w 4 + bitV c 2) 6 = false ∧ bitN (bitV r 32 + q * 8 + bitV w 4 + bitV c 2) 7 = false ∧ bitV r 32 + q * 8 + bitV w 4 + bitV c 2 < 256 ∧ (w = true ∨ (q = 0 ∧ r = false) → badF (bitV r 32 + q * 8 + bitV w 4 + bitV c 2) = false) := by
  intro r w c q hq
  obtain rfl | rfl | rfl : q = 0 ∨ q = 1 ∨ q = 2 := by omega
  all_goals cases r <;> cases w <;> cases c <;> decide
theorem pub_bits : ∀ (d r : Bool) (q : Nat), q ≤ 2 → bitN (48 + (bitV d 8 + q * 2 + bitV r 1)) 3 = d ∧ bitN (48 + (bitV d 8 + q * 2 + bitV r 1)) 0 = r ∧ (48 + (bitV d 8 + q * 2 + bitV r 1)) / 2 % 4 = q ∧ bitV d 8 + q * 2 + bitV r 1 < 16 ∧ (d = true → q ≠ 0) = (d = true → q ≠ 0) ∧ ((d = true → q ≠ 0) → headB (48 + (bitV d 8 + q * 2 + bitV r 1)) = true) := by
  intro d r q hq
  obtain rfl | rfl | rfl : q = 0 ∨ q = 1 ∨ q = 2 := by omega
  all_goals cases d <;> cases r <;> decide
theorem nat_of {z m : Int} (h : 0 ≤ z ∧ z ≤ m) : ∃ n : Nat, z = (n : Int) ∧ (n : Int) ≤ m := ⟨z.toNat, by omega, by omega⟩
theorem pk_ext {x y : Pk} (h0 : x.kind = y.kind) (h1 : x.id = y.id) (h2 : x.dup = y.dup) (h3 : x.topic = y.topic) (h4 : x.pay = y.pay) (h5 : x.qos = y.qos) (h6 : x.ret = y.ret) (h7 : x.til = y.til) (h8 : x.client = y.client) (h9 : x.clean = y.clean) (ha : x.alive = y.alive) (hb : x.will = y.will) (hc : x.present = y.present) (hd : x.code = y.code) (he : x.wants = y.wants) (hf : x.codes = y.codes) : x = y := by
  cases x; cases y; simp_all
theorem false_of {b : Bool} {p : Prop} (h : b = true → p) (n : ¬ p) : b = false := by
  cases b
  · rfl
  · exact absurd (h rfl) n
/-- A packet that is none of those with more than an id. -/
theorem plain_k {k : Pk} (h : MayK k) (n : k.kind ≠ 1 ∧ k.kind ≠ 2 ∧ k.kind ≠ 3) : k = { kind := k.kind, id := k.id, wants := k.wants, codes := k.codes } := by
  have a := h.msg.2 (by rintro (a | ⟨a, _⟩) <;> omega)
  have b := h.con.2 n.1
  have c := h.ack.2 n.2.1
  exact pk_ext rfl rfl (false_of h.dup (by omega)) a.1 a.2.1 a.2.2.1 a.2.2.2 h.kind.2.2 b.1 b.2.1 b.2.2.1 b.2.2.2 c.1 c.2 rfl rfl
theorem text_ne (l b : List UInt8) : textP l ++ b ≠ [] := fun e => by
  have := congrArg List.length e
  rw [List.length_append, textP_len, List.length_nil] at this
  omega
theorem wantsF_back {sub : Bool} : ∀ (l : List (ByteArray × Int)) (n : Nat) (acc : List (ByteArray × Int)), l.length < n → acc.length + l.length ≤ 8 → (∀ w ∈ l, filterB w.1 = true ∧ 0 ≤ w.2 ∧ w.2 ≤ (if sub then 2 else 0)) →
    wantsF sub n acc (l.flatMap (fun w : ByteArray × Int => textP w.1.data.toList ++ (if sub then [UInt8.ofNat w.2.toNat] else [])), 0) = (acc ++ l, ([], 0))
  | [], n + 1, acc, _, _, _ => by
    unfold wantsF
    rw [if_neg (fun q => q.1 rfl), List.append_nil]
    rfl
  | w :: l, n + 1, acc, hn, ha, hw => by
    have hf := hw w (List.mem_cons_self ..)
    have hl : w.1.data.toList.length < 65536 := by have := filter_le hf.1; rw [← slen] at this; omega
    have ih := wantsF_back (sub := sub) l n (acc ++ [w]) (by rw [List.length_cons] at hn; omega) (by rw [List.length_append, List.length_singleton]; rw [List.length_cons] at ha; omega) fun x hx => hw x (List.mem_cons_of_mem _ hx)
    have e8 : decide (acc.length = 8) = false := decide_eq_false (by rw [List.length_cons] at ha; omega)
    rw [List.flatMap_cons, List.append_assoc]
    unfold wantsF
    rw [if_pos ⟨text_ne _ _, rfl⟩]
    dsimp only
    rw [e8, fail_no, text_app hl]
    dsimp only
    rw [toB_data, hf.1]
    rw [List.append_assoc] at ih
    cases sub with
    | true =>
      rw [Bool.not_true, if_pos rfl, fail_no, if_pos rfl]
      obtain ⟨q, e1, e2⟩ := nat_of ⟨hf.2.1, hf.2.2⟩
      rw [if_pos rfl] at e2
      rw [e1]
      rw [List.singleton_append, one_app, Int.toNat_natCast, UInt8.toNat_ofNat', Nat.mod_eq_of_lt (by omega), decide_eq_false (by omega), fail_no]
      have e3 : w = (w.1, ((q : Nat) : Int)) := by rw [← e1]
      rw [← e3]
      exact ih
    | false =>
      rw [Bool.not_true, fail_no, if_neg (by decide), if_neg (by decide), List.nil_append]
      have e3 : w = (w.1, 0) := by
        have := hf.2
        rw [if_neg (by decide)] at this
        exact Prod.ext rfl (by dsimp only; omega)
      rw [← e3]
      exact ih
theorem codesF_back : ∀ (l : List Int) (n : Nat) (acc : List Int), l.length < n → acc.length + l.length ≤ 8 → (∀ c ∈ l, (0 ≤ c ∧ c ≤ 2) ∨ c = 128) → codesF n acc (l.map (fun c : Int => UInt8.ofNat c.toNat), 0) = (acc ++ l, ([], 0))
  | [], n + 1, acc, _, _, _ => by
    unfold codesF
    rw [if_neg (fun q => q.1 rfl), List.append_nil]
    rfl
  | c :: l, n + 1, acc, hn, ha, hw => by
    have hf := hw c (List.mem_cons_self ..)
    have ih := codesF_back l n (acc ++ [c]) (by rw [List.length_cons] at hn; omega) (by rw [List.length_append, List.length_singleton]; rw [List.length_cons] at ha; omega) fun x hx => hw x (List.mem_cons_of_mem _ hx)
    have e8 : decide (acc.length = 8) = false := decide_eq_false (by rw [List.length_cons] at ha; omega)
    obtain ⟨q, e1, e2⟩ := nat_of (z := c) (m := 128) (by omega)
    subst e1
    rw [List.map_cons]
    unfold codesF
    rw [if_pos ⟨List.cons_ne_nil _ _, rfl⟩]
    dsimp only
    rw [e8, fail_no, one_app, Int.toNat_natCast, UInt8.toNat_ofNat', Nat.mod_eq_of_lt (by omega)]
    dsimp only
    have ec : codedB q = true := by
      unfold codedB
      rw [Bool.or_eq_true, decide_eq_true_eq, decide_eq_true_eq]
      omega
    rw [ec]
    rw [List.append_assoc] at ih
    exact ih
theorem conS_eq (s : RS) : conS s = ({ kind := 1, clean := bitN (con1 s).1 1, will := bitN (con1 s).1 2, qos := (((con1 s).1 / 8 % 4 : Nat) : Int), ret := bitN (con1 s).1 5, alive := (((con2 (con1 s).2).1 : Nat) : Int), client := toB (con2 (con1 s).2).2.1, topic := toB (if bitN (con1 s).1 2 then con3 (con2 (con1 s).2).2.2 else ([], [], (con2 (con1 s).2).2.2)).1, pay := (if bitN (con1 s).1 2 then con3 (con2 (con1 s).2).2.2 else ([], [], (con2 (con1 s).2).2.2)).2.1 }, con4 (con1 s).1 (if bitN (con1 s).1 2 then con3 (con2 (con1 s).2).2.2 else ([], [], (con2 (con1 s).2).2.2)).2.2) := rfl
theorem con1_app {f : Nat} (hf : f < 256) (hb : badF f = false) (b : List UInt8) : con1 (textP mqttL ++ (4 :: UInt8.ofNat f :: b), 0) = (f, (b, 0)) := by
  unfold con1
  rw [text_app (by decide)]
  dsimp only
  rw [decide_eq_true rfl, Bool.not_true, fail_no, one_app]
  dsimp only
  rw [decide_eq_true (by decide), Bool.not_true, fail_no, one_app, UInt8.toNat_ofNat', Nat.mod_eq_of_lt (by omega)]
  dsimp only
  rw [hb, fail_no]
theorem con2_app {al : Nat} {c : List UInt8} (ha : al < 65536) (hc : c.length ≤ 64) (ht : textB c = true) (b : List UInt8) : con2 (fixedV al 2 ++ (textP c ++ b), 0) = (al, c, (b, 0)) := by
  unfold con2
  rw [two_app ha]
  dsimp only
  rw [text_app (by omega)]
  dsimp only
  rw [ht, Bool.not_true, fail_no, decide_eq_false (by omega), fail_no]
theorem con3_app {t p : List UInt8} (ht : nameB (toB t) = true) (hl : t.length ≤ 64) (hp : p.length ≤ 256) (b : List UInt8) : con3 (textP t ++ (textP p ++ b), 0) = (t, p, (b, 0)) := by
  unfold con3
  rw [text_app (by omega)]
  dsimp only
  rw [ht, Bool.not_true, fail_no, text_app (by omega)]
  dsimp only
  rw [decide_eq_false (by omega), fail_no]
theorem con_back {k : Pk} (h : MayK k) (k1 : k.kind = 1) : conS ((restP k).1, 0) = (k, ([], 0)) := by
  have hc := h.con.1 k1
  obtain ⟨al, ea, la⟩ := nat_of ⟨hc.1, hc.2.1⟩
  have cl : k.client.data.toList.length ≤ 64 := by rw [slen]; exact hc.2.2.1
  have ack := h.ack.2 (by omega)
  have wa := h.wants.2.2 (by omega)
  have co := h.codes.2 (by omega)
  have id := h.id.2 (by omega)
  have dup := false_of h.dup (by omega)
  have hq : ∃ q : Nat, k.qos = ((q : Nat) : Int) ∧ q ≤ 2 ∧ (k.will = true ∨ (q = 0 ∧ k.ret = false)) := by
    by_cases w : k.will = true
    · have := h.msg.1 (.inr ⟨k1, w⟩)
      exact ⟨k.qos.toNat, by omega, by omega, .inl w⟩
    · have := h.msg.2 (by rintro (a | ⟨_, a⟩); omega; exact w a)
      exact ⟨0, this.2.2.1, by omega, .inr ⟨rfl, this.2.2.2⟩⟩
  obtain ⟨q, eq, lq, hw⟩ := hq
  obtain ⟨b1, b2, b3, b4, b5, b6, b7, b8⟩ := con_bits k.ret k.will k.clean q lq
  have bb := b8 hw
  have er : (restP k).1 = textP mqttL ++ (4 :: UInt8.ofNat (bitV k.ret 32 + q * 8 + bitV k.will 4 + bitV k.clean 2) :: (fixedV al 2 ++ (textP k.client.data.toList ++ (if k.will then textP k.topic.data.toList ++ textP k.pay else [])))) := by
    unfold restP
    rw [if_pos k1, eq, ea, Int.toNat_natCast, Int.toNat_natCast]
    simp only [List.append_assoc, List.cons_append, List.nil_append]
  clear b8
  generalize bitV k.ret 32 + q * 8 + bitV k.will 4 + bitV k.clean 2 = f at *
  rw [conS_eq, er, con1_app b7 bb]
  dsimp only
  rw [con2_app (by omega) cl hc.2.2.2]
  dsimp only
  have e4 : ∀ s, con4 f s = s := fun s => by unfold con4; rw [b5, b6]; rfl
  rw [e4, b1, b2, b3, b4]
  by_cases w : k.will = true
  · have hm := h.msg.1 (.inr ⟨k1, w⟩)
    have tl := name_le hm.1
    rw [← slen] at tl
    rw [w, if_pos rfl, if_pos rfl]
    have := con3_app (t := k.topic.data.toList) (p := k.pay) (by rw [toB_data]; exact hm.1) tl hm.2.1 []
    rw [List.append_nil] at this
    rw [this]
    exact Prod.ext (pk_ext k1.symm id.symm dup.symm (toB_data _) rfl eq.symm rfl h.kind.2.2.symm (toB_data _) rfl ea.symm w.symm ack.1.symm ack.2.symm wa.symm co.symm) rfl
  · have hm := h.msg.2 (by rintro (a | ⟨_, a⟩); omega; exact w a)
    have w0 : k.will = false := by cases hh : k.will; rfl; exact absurd hh w
    rw [w0, if_neg (by decide), if_neg (by decide)]
    exact Prod.ext (pk_ext k1.symm id.symm dup.symm hm.1.symm hm.2.1.symm eq.symm rfl h.kind.2.2.symm (toB_data _) rfl ea.symm w0.symm ack.1.symm ack.2.symm wa.symm co.symm) rfl
theorem pub_back {k : Pk} (h : MayK k) (k3 : k.kind = 3) : (restP k).2 < 16 ∧ headB (48 + (restP k).2) = true ∧ bodyS (48 + (restP k).2) (restP k).1 = (k, ([], 0)) := by
  have hm := h.msg.1 (.inl k3)
  have tl := name_le hm.1
  rw [← slen] at tl
  have ack := h.ack.2 (by omega)
  have wa := h.wants.2.2 (by omega)
  have co := h.codes.2 (by omega)
  have con := h.con.2 (by omega)
  obtain ⟨q, eq, lq⟩ := nat_of ⟨hm.2.2.1, hm.2.2.2⟩
  obtain ⟨b1, b2, b3, b4, -, b6⟩ := pub_bits k.dup k.ret q (by omega)
  have er : restP k = (textP k.topic.data.toList ++ ((if 0 < q then fixedV k.id.toNat 2 else []) ++ k.pay), bitV k.dup 8 + q * 2 + bitV k.ret 1) := by
    unfold restP
    rw [if_neg (by omega), if_neg (by omega), if_pos k3, eq, Int.toNat_natCast, List.append_assoc]
    congr 3
    by_cases z : 0 < q
    · rw [if_pos z, if_pos (by omega)]
    · rw [if_neg z, if_neg (by omega)]
  have b6 := b6 fun d => by have := (h.dup d).2; omega
  rw [er]
  dsimp only
  generalize bitV k.dup 8 + q * 2 + bitV k.ret 1 = f at *
  refine ⟨b4, b6, ?_⟩
  have e3 : (48 + f) / 16 = 3 := by omega
  have e0 : ∀ l, bodyS (48 + f) l = ({ kind := 3, dup := bitN (48 + f) 3, qos := (((48 + f) / 2 % 4 : Nat) : Int), ret := bitN (48 + f) 0, topic := toB (pubS ((48 + f) / 2 % 4) (l, 0)).1, id := (((pubS ((48 + f) / 2 % 4) (l, 0)).2.1 : Nat) : Int), pay := (pubS ((48 + f) / 2 % 4) (l, 0)).2.2.1 }, (pubS ((48 + f) / 2 % 4) (l, 0)).2.2.2) := fun l => by
    unfold bodyS
    rw [e3]
    rfl
  rw [e0, b1, b2, b3]
  have ei : ∃ i : Nat, k.id = ((i : Nat) : Int) ∧ i < 65536 ∧ (0 < q → 1 ≤ i) ∧ (¬ 0 < q → i = 0) := by
    by_cases z : 0 < q
    · have := h.id.1 (.inr ⟨k3, by omega⟩)
      exact ⟨k.id.toNat, by omega, by omega, fun _ => by omega, fun n => absurd z n⟩
    · have := h.id.2 (by omega)
      exact ⟨0, this, by omega, fun n => absurd n z, fun _ => rfl⟩
  obtain ⟨i, ei, li, i1, i0⟩ := ei
  have ep : pubS q (textP k.topic.data.toList ++ ((if 0 < q then fixedV k.id.toNat 2 else []) ++ k.pay), 0) = (k.topic.data.toList, i, k.pay, ([], 0)) := by
    unfold pubS
    rw [text_app (by omega)]
    dsimp only
    rw [toB_data, hm.1, Bool.not_true, fail_no, ei, Int.toNat_natCast]
    have et : takeX (k.pay, 0) k.pay.length = k.pay := by unfold takeX; rw [if_pos ⟨rfl, Nat.le_refl _⟩, List.take_length]
    have eu : takeS (k.pay, 0) k.pay.length = (k.pay, ([], 0)) := by have := take_app k.pay []; rwa [List.append_nil] at this
    by_cases z : 0 < q
    · rw [if_pos z, if_pos z, id_app li (i1 z)]
      dsimp only
      rw [decide_eq_false (by omega), fail_no, et, eu]
    · rw [if_neg z, if_neg z, List.nil_append]
      dsimp only
      rw [decide_eq_false (by omega), fail_no, et, eu, i0 z]
  rw [ep]
  exact Prod.ext (pk_ext k3.symm ei.symm rfl (toB_data _) rfl eq.symm rfl h.kind.2.2.symm con.1.symm con.2.1.symm con.2.2.1.symm con.2.2.2.symm ack.1.symm ack.2.symm wa.symm co.symm) rfl
theorem ack_back {k : Pk} (h : MayK k) (k2 : k.kind = 2) : bodyS 32 (restP k).1 = (k, ([], 0)) := by
  have hm := h.msg.2 (by omega)
  have wa := h.wants.2.2 (by omega)
  have co := h.codes.2 (by omega)
  have con := h.con.2 (by omega)
  have id := h.id.2 (by omega)
  have dup := false_of h.dup (by omega)
  have ha := h.ack.1 k2
  obtain ⟨q, eq, lq⟩ := nat_of ⟨ha.1, ha.2.1⟩
  have er : (restP k).1 = [UInt8.ofNat (bitV k.present 1), UInt8.ofNat q] := by
    unfold restP
    rw [if_neg (by omega), if_pos k2, eq, Int.toNat_natCast]
  have e0 : ∀ l, bodyS 32 l = ({ kind := 2, present := decide ((oneS (l, 0)).1 = 1), code := (((oneS (oneS (l, 0)).2).1 : Nat) : Int) }, failS (oneS (oneS (l, 0)).2).2 (decide (1 < (oneS (l, 0)).1) || decide (5 < (oneS (oneS (l, 0)).2).1) || (decide ((oneS (l, 0)).1 = 1) && decide (0 < (oneS (oneS (l, 0)).2).1))) 3) := fun l => rfl
  rw [e0, er, one_app]
  dsimp only
  have eb : (UInt8.ofNat (bitV k.present 1)).toNat = bitV k.present 1 := by cases k.present <;> rfl
  have eq8 : (UInt8.ofNat q).toNat = q := by rw [UInt8.toNat_ofNat', Nat.mod_eq_of_lt (by omega)]
  rw [one_app, eb, eq8]
  dsimp only
  rw [decide_eq_false (show ¬ 5 < q by omega)]
  have e1 : decide (1 < bitV k.present 1) = false := by cases k.present <;> rfl
  have e2 : decide (bitV k.present 1 = 1) = k.present := by cases k.present <;> rfl
  have e3 : (k.present && decide (0 < q)) = false := by
    cases hp : k.present
    · rfl
    · have := ha.2.2 hp
      exact decide_eq_false (by omega)
  rw [e1, e2, e3]
  exact Prod.ext (pk_ext k2.symm id.symm dup.symm hm.1.symm hm.2.1.symm hm.2.2.1.symm hm.2.2.2.symm h.kind.2.2.symm con.1.symm con.2.1.symm con.2.2.1.symm con.2.2.2.symm rfl eq.symm wa.symm co.symm) rfl
theorem body_back {k : Pk} (h : MayK k) {n : Nat} (hn : k.kind = ((n : Nat) : Int)) : (restP k).2 < 16 ∧ headB (n * 16 + (restP k).2) = true ∧ bodyS (n * 16 + (restP k).2) (restP k).1 = (k, ([], 0)) := by
  have hk := h.kind
  have ids : 4 ≤ k.kind → k.kind ≤ 11 → ∃ i : Nat, k.id = ((i : Nat) : Int) ∧ i < 65536 ∧ 1 ≤ i := fun a b => by
    have := h.id.1 (.inl ⟨a, b⟩)
    exact ⟨k.id.toNat, by omega, by omega, by omega⟩
  by_cases c1 : n = 1
  · subst c1
    have e : (restP k).2 = 0 := by unfold restP; rw [if_pos (by omega)]
    rw [e]
    exact ⟨by decide, by decide, con_back h hn⟩
  by_cases c2 : n = 2
  · subst c2
    have e : (restP k).2 = 0 := by unfold restP; rw [if_neg (by omega), if_pos (by omega)]
    rw [e]
    exact ⟨by decide, by decide, ack_back h hn⟩
  by_cases c3 : n = 3
  · subst c3
    exact pub_back h hn
  have pl := plain_k h (by omega)
  by_cases c8 : n = 8
  · subst c8
    obtain ⟨i, ei, li, i1⟩ := ids (by omega) (by omega)
    have hw := h.wants.1 hn
    have co := h.codes.2 (by omega)
    have er : restP k = (fixedV i 2 ++ k.wants.flatMap (fun w : ByteArray × Int => textP w.1.data.toList ++ [UInt8.ofNat w.2.toNat]), 2) := by
      unfold restP
      rw [if_neg (by omega), if_neg (by omega), if_neg (by omega), if_pos (by omega), ei, Int.toNat_natCast]
    rw [er]
    refine ⟨(by decide : 2 < 16), (by decide : headB 130 = true), ?_⟩
    show bodyS 130 _ = _
    have e0 : ∀ l, bodyS 130 l = ({ kind := 8, id := (((idS (l, 0)).1 : Nat) : Int), wants := (wantsS true (idS (l, 0)).2).1 }, (wantsS true (idS (l, 0)).2).2) := fun l => rfl
    have e1 := wantsF_back (sub := true) k.wants 9 [] (by have := hw.2.1; omega) (by simpa using hw.2.1) hw.2.2
    have e2 : ∀ s : List UInt8, s ≠ [] → wantsS true (s, 0) = wantsF true 9 [] (s, 0) := fun s hs => by
      unfold wantsS
      rw [decide_eq_false (fun z => hs (List.length_eq_zero_iff.1 z)), fail_no]
    have ne : k.wants.flatMap (fun w : ByteArray × Int => textP w.1.data.toList ++ [UInt8.ofNat w.2.toNat]) ≠ [] := by
      obtain ⟨x, l, e⟩ := List.exists_cons_of_length_pos (l := k.wants) (by have := hw.1; omega)
      rw [e, List.flatMap_cons, List.append_assoc]
      exact text_ne _ _
    rw [e0, id_app li i1]
    dsimp only
    rw [e2 _ ne]
    have e3 : wantsF true 9 [] (k.wants.flatMap (fun w : ByteArray × Int => textP w.1.data.toList ++ [UInt8.ofNat w.2.toNat]), 0) = (k.wants, ([], 0)) := e1
    rw [e3]
    refine Prod.ext (Eq.trans ?_ pl.symm) rfl
    rw [hn, ei, co]; rfl
  by_cases c10 : n = 10
  · subst c10
    obtain ⟨i, ei, li, i1⟩ := ids (by omega) (by omega)
    have hw := h.wants.2.1 hn
    have co := h.codes.2 (by omega)
    have er : restP k = (fixedV i 2 ++ k.wants.flatMap (fun w : ByteArray × Int => textP w.1.data.toList), 2) := by
      unfold restP
      rw [if_neg (by omega), if_neg (by omega), if_neg (by omega), if_neg (by omega), if_pos (by omega), ei, Int.toNat_natCast]
    rw [er]
    refine ⟨(by decide : 2 < 16), (by decide : headB 162 = true), ?_⟩
    show bodyS 162 _ = _
    have e0 : ∀ l, bodyS 162 l = ({ kind := 10, id := (((idS (l, 0)).1 : Nat) : Int), wants := (wantsS false (idS (l, 0)).2).1 }, (wantsS false (idS (l, 0)).2).2) := fun l => rfl
    have e1 := wantsF_back (sub := false) k.wants 9 [] (by have := hw.2.1; omega) (by simpa using hw.2.1) hw.2.2
    have e2 : ∀ s : List UInt8, s ≠ [] → wantsS false (s, 0) = wantsF false 9 [] (s, 0) := fun s hs => by
      unfold wantsS
      rw [decide_eq_false (fun z => hs (List.length_eq_zero_iff.1 z)), fail_no]
    have ne : k.wants.flatMap (fun w : ByteArray × Int => textP w.1.data.toList) ≠ [] := by
      obtain ⟨x, l, e⟩ := List.exists_cons_of_length_pos (l := k.wants) (by have := hw.1; omega)
      rw [e, List.flatMap_cons]
      exact text_ne _ _
    rw [e0, id_app li i1]
    dsimp only
    rw [e2 _ ne]
    have e3 : wantsF false 9 [] (k.wants.flatMap (fun w : ByteArray × Int => textP w.1.data.toList), 0) = (k.wants, ([], 0)) := by
      have e4 : (fun w : ByteArray × Int => textP w.1.data.toList ++ (if false = true then [UInt8.ofNat w.2.toNat] else [])) = fun w => textP w.1.data.toList := funext fun w => List.append_nil _
      rw [e4] at e1
      exact e1
    rw [e3]
    refine Prod.ext (Eq.trans ?_ pl.symm) rfl
    rw [hn, ei, co]; rfl
  have wa := h.wants.2.2 (by omega)
  by_cases c9 : n = 9
  · subst c9
    obtain ⟨i, ei, li, i1⟩ := ids (by omega) (by omega)
    have hw := h.codes.1 hn
    have er : restP k = (fixedV i 2 ++ k.codes.map (fun c : Int => UInt8.ofNat c.toNat), 0) := by
      unfold restP
      rw [if_neg (by omega), if_neg (by omega), if_neg (by omega), if_neg (by omega), if_neg (by omega), if_pos (by omega), ei, Int.toNat_natCast]
    rw [er]
    refine ⟨(by decide : 0 < 16), (by decide : headB 144 = true), ?_⟩
    show bodyS 144 _ = _
    have e0 : ∀ l, bodyS 144 l = ({ kind := 9, id := (((idS (l, 0)).1 : Nat) : Int), codes := (codesS (idS (l, 0)).2).1 }, (codesS (idS (l, 0)).2).2) := fun l => rfl
    have e1 := codesF_back k.codes 9 [] (by have := hw.2.1; omega) (by simpa using hw.2.1) hw.2.2
    have e2 : codesS (k.codes.map (fun c : Int => UInt8.ofNat c.toNat), 0) = (k.codes, ([], 0)) := by
      unfold codesS
      rw [decide_eq_false (by rw [List.length_map]; have := hw.1; omega), fail_no]
      exact e1
    rw [e0, id_app li i1]
    dsimp only
    rw [e2]
    refine Prod.ext (Eq.trans ?_ pl.symm) rfl
    rw [hn, ei, wa]; rfl
  have co := h.codes.2 (by omega)
  rw [wa, co] at pl
  have idc : n ≤ 11 → ∀ f, f < 16 → bodyS (n * 16 + f) (fixedV k.id.toNat 2) = (k, ([], 0)) := fun hl f hf => by
    obtain ⟨i, ei, li, i1⟩ := ids (by omega) (by omega)
    have e3 : (n * 16 + f) / 16 = n := by omega
    have eh : hasIdB n = true := decide_eq_true (by omega)
    unfold bodyS
    rw [e3, eh, if_pos rfl]
    dsimp only
    rw [if_neg (by omega), if_neg (by omega), if_neg (by omega), if_neg (by omega), if_neg (by omega), ei, Int.toNat_natCast]
    have := id_app li i1 []
    rw [List.append_nil] at this
    rw [this]
    refine Prod.ext (Eq.trans ?_ pl.symm) rfl
    rw [hn, ei]
  by_cases c6 : n = 6
  · subst c6
    have er : restP k = (fixedV k.id.toNat 2, 2) := by
      unfold restP
      rw [if_neg (by omega), if_neg (by omega), if_neg (by omega), if_neg (by omega), if_neg (by omega), if_neg (by omega), if_pos (by omega)]
    rw [er]
    exact ⟨(by decide : 2 < 16), (by decide : headB 98 = true), idc (by omega) 2 (by omega)⟩
  by_cases c12 : 12 ≤ n
  · have er : restP k = ([], 0) := by
      unfold restP
      rw [if_neg (by omega), if_neg (by omega), if_neg (by omega), if_neg (by omega), if_neg (by omega), if_neg (by omega), if_neg (by omega), if_pos (by omega)]
    rw [er]
    have id := h.id.2 (by omega)
    rw [hn, id] at pl
    obtain rfl | rfl | rfl : n = 12 ∨ n = 13 ∨ n = 14 := by omega
    · exact ⟨(by decide : 0 < 16), (by decide : headB 192 = true), Prod.ext pl.symm rfl⟩
    · exact ⟨(by decide : 0 < 16), (by decide : headB 208 = true), Prod.ext pl.symm rfl⟩
    · exact ⟨(by decide : 0 < 16), (by decide : headB 224 = true), Prod.ext pl.symm rfl⟩
  · have er : restP k = (fixedV k.id.toNat 2, 0) := by
      unfold restP
      rw [if_neg (by omega), if_neg (by omega), if_neg (by omega), if_neg (by omega), if_neg (by omega), if_neg (by omega), if_neg (by omega), if_neg (by omega)]
    rw [er]
    refine ⟨(by decide : 0 < 16), ?_, idc (by omega) 0 (by omega)⟩
    show headB (n * 16 + 0) = true
    obtain rfl | rfl | rfl | rfl : n = 4 ∨ n = 5 ∨ n = 7 ∨ n = 11 := by omega
    all_goals decide
theorem len_put {n : Nat} (h : n < 16384) (b : List UInt8) : lenS (putV n ++ b) = (n, (putV n).length, 0) := by
  unfold lenS
  by_cases q : n < 128
  · rw [putV_small q, List.singleton_append, lenF_step, UInt8.toNat_ofNat', Nat.mod_eq_of_lt (show n < 2 ^ 8 by omega), if_neg (by omega)]
    refine Prod.ext ?_ rfl
    dsimp only; omega
  · rw [putV_step q, putV_small (by omega), List.cons_append, List.cons_append, lenF_step, UInt8.toNat_ofNat', Nat.mod_eq_of_lt (show n % 128 + 128 < 2 ^ 8 by omega), if_pos (by omega), lenF_step, UInt8.toNat_ofNat', Nat.mod_eq_of_lt (show n / 128 < 2 ^ 8 by omega), if_neg (by omega)]
    refine Prod.ext ?_ rfl
    dsimp only; omega
theorem len_cut {n c : Nat} (h : n < 16384) (hc : c < (putV n).length) (b : List UInt8) : (lenS ((putV n ++ b).take c)).2.2 = 5 := by
  unfold lenS
  by_cases q : n < 128
  · rw [putV_small q] at hc ⊢
    obtain rfl : c = 0 := by simpa using hc
    rfl
  · rw [putV_step q, putV_small (by omega)] at hc ⊢
    obtain rfl | rfl : c = 0 ∨ c = 1 := by have : c < 2 := hc; omega
    · rfl
    · rw [List.cons_append, List.take_succ_cons, List.take_zero, lenF_step, UInt8.toNat_ofNat', Nat.mod_eq_of_lt (show n % 128 + 128 < 2 ^ 8 by omega), if_pos (by omega)]
      rfl
theorem kind_nat {k : Pk} (h : MayK k) : ∃ n : Nat, k.kind = ((n : Nat) : Int) ∧ 1 ≤ n ∧ n ≤ 14 := ⟨k.kind.toNat, by have := h.kind; omega, by have := h.kind; omega, by have := h.kind; omega⟩
/-- What was encoded is told again. -/
theorem enc_back {k : Pk} (h : MayK k) : decL (encP k) = (k, 0) := by
  obtain ⟨n, en, n1, n14⟩ := kind_nat h
  obtain ⟨hf, hh, hb⟩ := body_back h en
  have rl := rest_le h
  unfold encP
  rw [en, Int.toNat_natCast]
  rw [decL_cons]
  have ex : (UInt8.ofNat (n * 16 + (restP k).2)).toNat = n * 16 + (restP k).2 := by rw [UInt8.toNat_ofNat', Nat.mod_eq_of_lt (by omega)]
  rw [len_put (by omega), ex, hh]
  dsimp only
  rw [if_neg (fun z => z rfl), if_neg (by omega), if_neg (by rw [List.length_append]; omega), if_neg (by rw [List.length_append]; rintro (a | a); omega; cases a), List.drop_left' rfl, hb]
  rfl
theorem enc_two {k : Pk} (h : MayK k) : 2 ≤ (encP k).length := by
  have := rest_le h
  have := (putV_len 1 (restP k).1.length (by omega)).1
  unfold encP
  rw [List.length_cons, List.length_append]
  omega
/-- Cut off anywhere it is short. -/
theorem enc_cut {k : Pk} (h : MayK k) {c : Nat} (hc : c < (encP k).length) : decL ((encP k).take c) = ({}, 5) := by
  have rl := rest_le h
  unfold encP at *
  match c, hc with
  | 0, _ => rfl
  | c + 1, hc =>
    rw [List.take_succ_cons]
    rw [decL_cons]
    by_cases q : c < (putV (restP k).1.length).length
    · rw [len_cut (by omega) q, if_pos (by decide)]
    · rw [List.length_cons, List.length_append] at hc
      rw [List.take_append, List.take_of_length_le (by omega), len_put (by omega)]
      dsimp only
      rw [if_neg (fun z => z rfl), if_neg (by omega), if_pos (by rw [List.length_append, List.length_take]; omega)]
theorem head_flag (x : Nat) (hx : x < 256) (h : headB x = true) : 1 ≤ x / 16 ∧ x / 16 ≤ 14 ∧ (x / 16 = 6 ∨ x / 16 = 8 ∨ x / 16 = 10 → x % 16 = 2) ∧ (x / 16 ≠ 3 → x / 16 ≠ 6 → x / 16 ≠ 8 → x / 16 ≠ 10 → x % 16 = 0) := by
  unfold headB at h
  dsimp only at h
  by_cases c : x / 16 = 0 ∨ x / 16 = 15
  · rw [if_pos c] at h; cases h
  rw [if_neg c] at h
  by_cases c3 : x / 16 = 3
  · exact ⟨by omega, by omega, fun q => by omega, fun q => absurd c3 q⟩
  rw [if_neg c3] at h
  by_cases c6 : x / 16 = 6 ∨ x / 16 = 8 ∨ x / 16 = 10
  · rw [if_pos c6] at h
    have := of_decide_eq_true h
    exact ⟨by omega, by omega, fun _ => this, fun _ _ _ _ => by omega⟩
  · rw [if_neg c6] at h
    have := of_decide_eq_true h
    exact ⟨by omega, by omega, fun q => absurd q c6, fun _ _ _ _ => this⟩
/-! reading an own row -/
/-- A place below a length, of any number. -/
theorem u64_mod (x : Int) {n : Nat} (h : 1 ≤ n) (h2 : n ≤ 100000) : ∃ r : Nat, IntKind.i64.wrap (Int.tmod (IntKind.u64.wrap x) (IntKind.u64.wrap ((n : Nat) : Int))) = ((r : Nat) : Int) ∧ r < n := by
  have hu : 0 ≤ IntKind.u64.wrap x ∧ IntKind.u64.wrap x < 18446744073709551616 := by
    unfold IntKind.wrap; simp [IntKind.signed, IntKind.bits]; omega
  have ht : Int.tmod (IntKind.u64.wrap x) ((n : Nat) : Int) = (((IntKind.u64.wrap x).toNat % n : Nat) : Int) := by
    rw [Int.tmod_eq_emod_of_nonneg hu.1, Int.natCast_emod, Int.toNat_of_nonneg hu.1]
  have hm : (IntKind.u64.wrap x).toNat % n < n := Nat.mod_lt _ (by omega)
  rw [wrap64u (n := ((n : Nat) : Int)) (by omega) (by omega), ht, wrap64 (by omega) (by omega)]
  exact ⟨_, rfl, hm⟩
theorem own_rdr {w0 : World} {a : Option Addr} {c : Nat} {l : List UInt8} (v : SlV 1 a l.length c (u8s l)) (hl : l.length ≤ 140737488355328) : Rdr w0 (slB a (u8s l) (c * 1)) a c l := ⟨fun h' hx => by
  obtain ⟨h1, h2, h3⟩ := v
  have s : Sl w0 h' 1 a l.length c (u8s l) := by
    refine ⟨h1, h2, ?_⟩
    cases a with
    | none => exact h3
    | some ad => exact ⟨h3.1, h3.2, hx _ (List.mem_singleton_self _)⟩
  exact s.rd, v.2.1, hl⟩
theorem take_rdr {w0 : World} {R : List (Nat × AB)} {p : Option Addr} {c : Nat} {l : List UInt8} (r : Rdr w0 R p c l) {n : Nat} : Rdr w0 R p c (l.take n) :=
  ⟨fun h' hx => rd8_take (r.rd h' hx) n, Nat.le_trans (List.length_take_le' ..) r.cap, Nat.le_trans (List.length_take_le' ..) r.len⟩
theorem enc_le {k : Pk} (h : MayK k) : (encP k).length ≤ 1003 := by
  have := rest_le h
  have := (putV_len 1 (restP k).1.length (by omega)).2
  unfold encP
  rw [List.length_cons, List.length_append]
  omega
section
variable {w0 : World} {K : Value → AH → Prop} {h : AH} {R X : List (Nat × AB)} {c : Nat}
theorem dec_spec {l : List UInt8} {a : Option Addr} {n : Nat} (hn : n = l.length) (T : TabOk w0) (w : Own w0 h X) (r : Rdr w0 R a c l) (hs : R ⊆ X)
    (hk : ∀ h' m' e, (m'.key, e) = decL l → PkV m' → Own w0 h' (ownP m' ++ X) → K (.tuple #[m'.agg, .int .i64 e]) h') :
    EvC Go.Proofs.Tryd.prog w0 14 #[.slice a n c] K h := by subst hn; exact f14_spec T w r hs hk
end
end Go.G.YtciepfobnaemmaaDoor
