/- What is taken may be, and has its bytes. -/
import Derived.Test.YtciepfobnaemmaaDoorQC
import Derived.Test.YtciepfobnaemmaaDoorProg
set_option maxRecDepth 100000
namespace Go.G.YtciepfobnaemmaaDoor
open Go.RowKit
open Value (string slice int bool agg)
/-! ### what is taken may be, and has its bytes -/
theorem fail_inv {s : RS} {b : Bool} {e : Int} (he : e ≠ 0) (h : (failS s b e).2 = 0) : s.2 = 0 ∧ b = false ∧ failS s b e = s := by
  cases b
  · exact ⟨h, rfl, rfl⟩
  · unfold failS at h
    by_cases q : s.2 = 0
    · rw [decide_eq_true q] at h; exact absurd h he
    · rw [decide_eq_false q] at h; exact absurd h q
theorem take_inv {s : RS} {n : Nat} (h : (takeS s n).2.2 = 0) : s.2 = 0 ∧ ∃ a b, a.length = n ∧ s.1 = a ++ b ∧ takeS s n = (a, (b, 0)) := by
  unfold takeS at *
  by_cases q : s.2 = 0
  · rw [if_pos q] at h ⊢
    by_cases p : n ≤ s.1.length
    · rw [if_pos p]
      exact ⟨q, s.1.take n, s.1.drop n, by rw [List.length_take]; omega, (List.take_append_drop ..).symm, rfl⟩
    · rw [if_neg p] at h; exact absurd h (by exact (by decide : (3 : Int) ≠ 0))
  · rw [if_neg q] at h; exact absurd h q
theorem one_snd (s : RS) : (oneS s).2 = (takeS s 1).2 := by unfold oneS; split <;> rfl
theorem two_snd (s : RS) : (twoS s).2 = (takeS s 2).2 := by unfold twoS; split <;> rfl
theorem one_inv {s : RS} (h : (oneS s).2.2 = 0) : s.2 = 0 ∧ ∃ (x : UInt8) (b : List UInt8), s.1 = x :: b ∧ oneS s = (x.toNat, (b, 0)) := by
  rw [one_snd] at h
  obtain ⟨h0, a, b, la, e, et⟩ := take_inv h
  match a, la with
  | [x], _ => exact ⟨h0, x, b, e, by unfold oneS; rw [et]⟩
theorem fixed_two (x y : UInt8) : fixedV (x.toNat * 256 + y.toNat) 2 = [x, y] := by
  have hx := x.toNat_lt
  have hy := y.toNat_lt
  rw [fixed2, show (x.toNat * 256 + y.toNat) / 256 % 256 = x.toNat by omega, show (x.toNat * 256 + y.toNat) % 256 = y.toNat by omega, UInt8.ofNat_toNat, UInt8.ofNat_toNat]
theorem two_inv {s : RS} (h : (twoS s).2.2 = 0) : s.2 = 0 ∧ ∃ (n : Nat) (b : List UInt8), n < 65536 ∧ s.1 = fixedV n 2 ++ b ∧ twoS s = (n, (b, 0)) := by
  rw [two_snd] at h
  obtain ⟨h0, a, b, la, e, et⟩ := take_inv h
  match a, la with
  | [x, y], _ =>
    have hx := x.toNat_lt
    have hy := y.toNat_lt
    exact ⟨h0, x.toNat * 256 + y.toNat, b, by omega, by rw [fixed_two]; exact e, by unfold twoS; rw [et]⟩
theorem text_inv {s : RS} (h : (textS s).2.2 = 0) : s.2 = 0 ∧ ∃ v b, v.length < 65536 ∧ s.1 = textP v ++ b ∧ textS s = (v, (b, 0)) := by
  unfold textS at *
  obtain ⟨h1, a, b, la, e, et⟩ := take_inv h
  obtain ⟨h0, n, t, ln, e2, et2⟩ := two_inv h1
  rw [et2] at la e et ⊢
  dsimp only at la e et
  exact ⟨h0, a, b, by omega, by unfold textP; rw [e2, e, la, List.append_assoc], et⟩
theorem id_inv {s : RS} (h : (idS s).2.2 = 0) : s.2 = 0 ∧ ∃ (n : Nat) (b : List UInt8), n < 65536 ∧ 1 ≤ n ∧ s.1 = fixedV n 2 ++ b ∧ idS s = (n, (b, 0)) := by
  unfold idS at *
  obtain ⟨h1, hb, e1⟩ := fail_inv (by decide) h
  obtain ⟨h0, n, t, ln, e2, et2⟩ := two_inv h1
  have := of_decide_eq_false hb
  rw [et2] at this
  dsimp only at this
  refine ⟨h0, n, t, ln, by omega, e2, ?_⟩
  rw [e1, et2]
theorem fail_of {s t : RS} {b : Bool} {e : Int} (he : e ≠ 0) (h : failS s b e = t) (ht : t.2 = 0) : s = t ∧ b = false := by
  obtain ⟨_, h2, h3⟩ := fail_inv he (by rw [h]; exact ht)
  exact ⟨h3.symm.trans h, h2⟩
theorem pub_inv {q : Nat} {s : RS} (h : (pubS q s).2.2.2.2 = 0) : s.2 = 0 ∧ ∃ t i p, pubS q s = (t, i, p, ([], 0)) ∧ nameB (toB t) = true ∧ p.length ≤ 256 ∧ (0 < q → 1 ≤ i ∧ i < 65536) ∧ (¬ 0 < q → i = 0) ∧ s.1 = textP t ++ ((if 0 < q then fixedV i 2 else []) ++ p) := by
  unfold pubS at *
  dsimp only at h ⊢
  obtain ⟨h1, _, _, _, _, _⟩ := take_inv h
  obtain ⟨h2, h3, e3⟩ := fail_inv (by decide) h1
  rw [e3]
  by_cases z : 0 < q
  · rw [if_pos z] at h2 h3 ⊢
    obtain ⟨h4, i, b, li, i1, e4, e5⟩ := id_inv h2
    obtain ⟨h6, h7, e6⟩ := fail_inv (by decide) h4
    obtain ⟨h8, t, c, lt, e8, e9⟩ := text_inv h6
    rw [e6, e9] at e4
    rw [e9] at h7
    dsimp only at e4 h7
    rw [e5] at h3 ⊢
    dsimp only at h3 ⊢
    have h3 := of_decide_eq_false h3
    have et : takeX (b, 0) b.length = b := by unfold takeX; rw [if_pos ⟨rfl, Nat.le_refl _⟩, List.take_length]
    have eu : takeS (b, 0) b.length = (b, ([], 0)) := by have := take_app b []; rwa [List.append_nil] at this
    rw [et, eu, e9]
    refine ⟨h8, t, i, b, rfl, ?_, by omega, fun _ => ⟨i1, li⟩, fun n => absurd z n, by rw [if_pos z, e8, e4]⟩
    cases hn : nameB (toB t)
    · rw [hn] at h7; cases h7
    · rfl
  · rw [if_neg z] at h2 h3 ⊢
    dsimp only at h2 h3 ⊢
    obtain ⟨h6, h7, e6⟩ := fail_inv (by decide) h2
    obtain ⟨h8, t, c, lt, e8, e9⟩ := text_inv h6
    rw [e6, e9] at h3 ⊢
    rw [e9] at h7
    dsimp only at h3 h7 ⊢
    have h3 := of_decide_eq_false h3
    have et : takeX (c, 0) c.length = c := by unfold takeX; rw [if_pos ⟨rfl, Nat.le_refl _⟩, List.take_length]
    have eu : takeS (c, 0) c.length = (c, ([], 0)) := by have := take_app c []; rwa [List.append_nil] at this
    rw [et, eu]
    refine ⟨h8, t, 0, c, rfl, ?_, by omega, fun n => absurd n z, fun _ => rfl, by rw [if_neg z, e8, List.nil_append]⟩
    cases hn : nameB (toB t)
    · rw [hn] at h7; cases h7
    · rfl
theorem not_false {b : Bool} (h : (!b) = false) : b = true := by cases b; cases h; rfl
theorem wantsF_inv {sub : Bool} : ∀ (n : Nat) (acc : List (ByteArray × Int)) (s : RS), acc.length ≤ 8 → (wantsF sub n acc s).2 = ([], 0) → s.2 = 0 ∧ ∃ l, wantsF sub n acc s = (acc ++ l, ([], 0)) ∧ acc.length + l.length ≤ 8 ∧ (∀ w ∈ l, filterB w.1 = true ∧ 0 ≤ w.2 ∧ w.2 ≤ (if sub then 2 else 0)) ∧
    s.1 = l.flatMap (fun w : ByteArray × Int => textP w.1.data.toList ++ (if sub then [UInt8.ofNat w.2.toNat] else []))
  | 0, acc, s, ha, h => by
    have h' : s = ([], 0) := h
    subst h'
    exact ⟨rfl, [], by rw [List.append_nil]; rfl, ha, (fun _ h => by cases h), rfl⟩
  | n + 1, acc, s, ha, h => by
    unfold wantsF at *
    by_cases q : s.1 ≠ [] ∧ s.2 = 0
    · rw [if_pos q] at h ⊢
      dsimp only at h ⊢
      -- what every step reads
      have step : ∀ {u : RS} {f : Bool}, u = failS (textS (failS s (decide (acc.length = 8)) 13)).2 (!(filterB (toB (textS (failS s (decide (acc.length = 8)) 13)).1))) 15 → u.2 = 0 → s.2 = 0 ∧ acc.length ≠ 8 ∧ ∃ v b, filterB (toB v) = true ∧ s.1 = textP v ++ b ∧ textS (failS s (decide (acc.length = 8)) 13) = (v, (b, 0)) ∧ u = (b, 0) := fun {u f} hu h0 => by
        obtain ⟨h1, h2⟩ := fail_of (by decide) hu.symm h0
        obtain ⟨h3, v, b, lv, e4, e5⟩ := text_inv (s := failS s (decide (acc.length = 8)) 13) (by rw [h1]; exact h0)
        obtain ⟨h6, h7, h8⟩ := fail_inv (by decide) h3
        rw [h8] at e4
        rw [e5] at h1 h2
        exact ⟨h6, of_decide_eq_false h7, v, b, not_false h2, e4, e5, h1.symm⟩
      cases sub with
      | true =>
        rw [if_pos rfl] at h ⊢
        have hl : ∀ x : ByteArray × Int, acc.length ≠ 8 → (acc ++ [x]).length ≤ 8 := fun x hx => by rw [List.length_append, List.length_singleton]; omega
        by_cases a8 : acc.length = 8
        · exfalso
          have n8 : (failS s (decide (acc.length = 8)) 13).2 ≠ 0 := by rw [decide_eq_true a8]; exact fail_yes (by decide)
          have z : ∀ (n : Nat) (acc : List (ByteArray × Int)) (s : RS), s.2 ≠ 0 → (wantsF true n acc s).2 ≠ ([], 0) := fun n acc s hs e => by
            cases n with
            | zero => exact hs (congrArg Prod.snd e)
            | succ n =>
              unfold wantsF at e
              rw [if_neg (fun g => hs g.2)] at e
              exact hs (congrArg Prod.snd e)
          refine z _ _ _ ?_ h
          refine fail_err ?_
          have n1 : (failS (textS (failS s (decide (acc.length = 8)) 13)).2 (!(filterB (toB (textS (failS s (decide (acc.length = 8)) 13)).1))) 15).2 ≠ 0 := fail_err (by rw [err_text n8]; exact n8)
          rw [err_one n1]; exact n1
        · obtain ⟨i0, l, e1, l8, lw, e2⟩ := wantsF_inv (sub := true) n _ _ (hl _ a8) h
          obtain ⟨g1, g2, g3⟩ := fail_inv (by decide) i0
          obtain ⟨g4, x, b2, g5, g6⟩ := one_inv g1
          obtain ⟨h0, _, v, b, hf, es, et, eu⟩ := step (f := true) rfl g4
          rw [e1]
          rw [eu] at g5 g6 g2
          rw [g6] at g2
          have g2 := of_decide_eq_false g2
          rw [g3, eu, g6] at e2
          rw [eu, g6, et]
          dsimp only at g2 g5 e2 ⊢
          refine ⟨h0, (toB v, ((x.toNat : Nat) : Int)) :: l, by rw [List.append_assoc]; rfl, ?_, ?_, ?_⟩
          · rw [List.length_append, List.length_singleton] at l8
            rw [List.length_cons]; omega
          · intro w hw
            rcases List.mem_cons.1 hw with rfl | hw
            · exact ⟨hf, by dsimp only; omega, by rw [if_pos rfl]; dsimp only; omega⟩
            · exact lw w hw
          · rw [List.flatMap_cons, es, g5, toB_toList, if_pos rfl, Int.toNat_natCast, UInt8.ofNat_toNat, List.append_assoc, e2]; rfl
      | false =>
        rw [if_neg (by decide)] at h ⊢
        have hl : ∀ x : ByteArray × Int, acc.length ≠ 8 → (acc ++ [x]).length ≤ 8 := fun x hx => by rw [List.length_append, List.length_singleton]; omega
        by_cases a8 : acc.length = 8
        · exfalso
          have n8 : (failS s (decide (acc.length = 8)) 13).2 ≠ 0 := by rw [decide_eq_true a8]; exact fail_yes (by decide)
          have z : ∀ (n : Nat) (acc : List (ByteArray × Int)) (s : RS), s.2 ≠ 0 → (wantsF false n acc s).2 ≠ ([], 0) := fun n acc s hs e => by
            cases n with
            | zero => exact hs (congrArg Prod.snd e)
            | succ n =>
              unfold wantsF at e
              rw [if_neg (fun g => hs g.2)] at e
              exact hs (congrArg Prod.snd e)
          refine z _ _ _ ?_ h
          exact fail_err (by rw [err_text n8]; exact n8)
        · obtain ⟨i0, l, e1, l8, lw, e2⟩ := wantsF_inv (sub := false) n _ _ (hl _ a8) h
          obtain ⟨h0, _, v, b, hf, es, et, eu⟩ := step (f := true) rfl i0
          rw [e1]
          rw [eu] at e2
          rw [et]
          dsimp only at e2 ⊢
          refine ⟨h0, (toB v, 0) :: l, by rw [List.append_assoc]; rfl, ?_, ?_, ?_⟩
          · rw [List.length_append, List.length_singleton] at l8
            rw [List.length_cons]; omega
          · intro w hw
            rcases List.mem_cons.1 hw with rfl | hw
            · exact ⟨hf, by dsimp only; omega, by rw [if_neg (by decide)]; dsimp only; omega⟩
            · exact lw w hw
          · rw [List.flatMap_cons, es, toB_toList, if_neg (by decide), List.append_nil, e2]
    · rw [if_neg q] at h ⊢
      dsimp only at h
      subst h
      exact ⟨rfl, [], by rw [List.append_nil], ha, (fun _ h => by cases h), rfl⟩
theorem codesF_inv : ∀ (n : Nat) (acc : List Int) (s : RS), acc.length ≤ 8 → (codesF n acc s).2 = ([], 0) → s.2 = 0 ∧ ∃ l, codesF n acc s = (acc ++ l, ([], 0)) ∧ acc.length + l.length ≤ 8 ∧ (∀ c ∈ l, (0 ≤ c ∧ c ≤ 2) ∨ c = 128) ∧ s.1 = l.map (fun c : Int => UInt8.ofNat c.toNat)
  | 0, acc, s, ha, h => by
    have h' : s = ([], 0) := h
    subst h'
    exact ⟨rfl, [], by rw [List.append_nil]; rfl, ha, (fun _ h => by cases h), rfl⟩
  | n + 1, acc, s, ha, h => by
    unfold codesF at *
    by_cases q : s.1 ≠ [] ∧ s.2 = 0
    · rw [if_pos q] at h ⊢
      dsimp only at h ⊢
      by_cases a8 : acc.length = 8
      · exfalso
        have n8 : (failS s (decide (acc.length = 8)) 13).2 ≠ 0 := by rw [decide_eq_true a8]; exact fail_yes (by decide)
        have z : ∀ (n : Nat) (acc : List Int) (s : RS), s.2 ≠ 0 → (codesF n acc s).2 ≠ ([], 0) := fun n acc s hs e => by
          cases n with
          | zero => exact hs (congrArg Prod.snd e)
          | succ n =>
            unfold codesF at e
            rw [if_neg (fun g => hs g.2)] at e
            exact hs (congrArg Prod.snd e)
        exact z _ _ _ (fail_err (by rw [err_one n8]; exact n8)) h
      · obtain ⟨i0, l, e1, l8, lw, e2⟩ := codesF_inv n _ _ (by rw [List.length_append, List.length_singleton]; omega) h
        obtain ⟨g1, g2, g3⟩ := fail_inv (by decide) i0
        obtain ⟨g4, x, b2, g5, g6⟩ := one_inv g1
        obtain ⟨h0, _, e8⟩ := fail_inv (by decide) g4
        rw [e8] at g5
        rw [e1]
        rw [g3] at e2
        rw [g6] at g2 e2 ⊢
        have g2 := not_false g2
        dsimp only at g2 e2 ⊢
        refine ⟨h0, ((x.toNat : Nat) : Int) :: l, by rw [List.append_assoc]; rfl, ?_, ?_, ?_⟩
        · rw [List.length_append, List.length_singleton] at l8
          rw [List.length_cons]; omega
        · intro w hw
          rcases List.mem_cons.1 hw with rfl | hw
          · unfold codedB at g2
            rw [Bool.or_eq_true, decide_eq_true_eq, decide_eq_true_eq] at g2
            omega
          · exact lw w hw
        · rw [List.map_cons, g5, Int.toNat_natCast, UInt8.ofNat_toNat, e2]
    · rw [if_neg q] at h ⊢
      dsimp only at h
      subst h
      exact ⟨rfl, [], by rw [List.append_nil], ha, (fun _ h => by cases h), rfl⟩
theorem con1_inv {s : RS} (h : (con1 s).2.2 = 0) : s.2 = 0 ∧ ∃ (f : UInt8) (b : List UInt8), con1 s = (f.toNat, (b, 0)) ∧ badF f.toNat = false ∧ s.1 = textP mqttL ++ (4 :: f :: b) := by
  unfold con1 at *
  dsimp only at h ⊢
  obtain ⟨h1, h2, e3⟩ := fail_inv (by decide) h
  obtain ⟨h4, f, b, e5, e6⟩ := one_inv h1
  obtain ⟨h7, h8, e9⟩ := fail_inv (by decide) h4
  obtain ⟨i1, o, c, i2, i3⟩ := one_inv h7
  obtain ⟨i4, i5, i6⟩ := fail_inv (by decide) i1
  obtain ⟨i7, t, d, lt, i8, i9⟩ := text_inv i4
  rw [e3]
  rw [e6] at h2 ⊢
  rw [e9, i3] at e5
  rw [i3] at h8
  rw [i6, i9] at i2
  rw [i9] at i5
  dsimp only at e5 h8 i2 i5
  have q4 : o.toNat = 4 := of_decide_eq_true (not_false h8)
  have q5 : t = mqttL := of_decide_eq_true (not_false i5)
  subst q5 e5 i2
  refine ⟨i7, f, b, rfl, h2, ?_⟩
  rw [i8]
  congr 2
  have := UInt8.ofNat_toNat (x := o)
  rw [q4] at this
  exact this.symm
theorem con2_inv {s : RS} (h : (con2 s).2.2.2 = 0) : s.2 = 0 ∧ ∃ (a : Nat) (c b : List UInt8), con2 s = (a, c, (b, 0)) ∧ a < 65536 ∧ c.length ≤ 64 ∧ textB c = true ∧ s.1 = fixedV a 2 ++ (textP c ++ b) := by
  unfold con2 at *
  dsimp only at h ⊢
  obtain ⟨h1, h2, e3⟩ := fail_inv (by decide) h
  obtain ⟨h4, h5, e6⟩ := fail_inv (by decide) h1
  obtain ⟨h7, c, b, lc, e8, e9⟩ := text_inv h4
  obtain ⟨i1, a, d, la, i2, i3⟩ := two_inv h7
  rw [e3, e6]
  rw [i3] at e8 e9 ⊢
  dsimp only at e8 e9 ⊢
  rw [i3] at h2 h5
  dsimp only at h2 h5
  rw [e9] at h2 h5 ⊢
  dsimp only at h2 h5
  have h2 := of_decide_eq_false h2
  have h5 := not_false h5
  exact ⟨i1, a, c, b, rfl, la, by omega, h5, by rw [i2, e8]⟩
theorem con3_inv {s : RS} (h : (con3 s).2.2.2 = 0) : s.2 = 0 ∧ ∃ (t p b : List UInt8), con3 s = (t, p, (b, 0)) ∧ nameB (toB t) = true ∧ p.length ≤ 256 ∧ s.1 = textP t ++ (textP p ++ b) := by
  unfold con3 at *
  dsimp only at h ⊢
  obtain ⟨h1, h2, e3⟩ := fail_inv (by decide) h
  obtain ⟨h4, p, b, lp, e5, e6⟩ := text_inv h1
  obtain ⟨h7, h8, e9⟩ := fail_inv (by decide) h4
  obtain ⟨i1, t, d, lt, i2, i3⟩ := text_inv h7
  rw [e3]
  rw [e6] at h2 ⊢
  rw [e9, i3] at e5
  rw [i3] at h8 ⊢
  dsimp only at h2 e5 h8 ⊢
  have h2 := of_decide_eq_false h2
  exact ⟨i1, t, p, b, rfl, not_false h8, by omega, by rw [i2, e5]⟩
theorem con4_inv {f : Nat} {s : RS} (h : (con4 f s).2 = 0) : s.2 = 0 := by
  have h1 : (if bitN f 7 then failS (textS s).2 (!(textB (textS s).1)) 3 else s).2 = 0 → s.2 = 0 := fun h => by
    cases z : bitN f 7
    · rw [z, if_neg (by decide)] at h; exact h
    · rw [z, if_pos rfl] at h; exact (text_inv (fail_inv (by decide) h).1).1
  unfold con4 at h
  dsimp only at h
  cases z : bitN f 6
  · rw [z, if_neg (by decide)] at h; exact h1 h
  · rw [z, if_pos rfl] at h; exact h1 (text_inv h).1
theorem bad_inv : ∀ f : Nat, f < 256 → badF f = false → f / 8 % 4 ≤ 2 ∧ (bitN f 2 = false → f / 8 % 4 = 0 ∧ bitN f 5 = false) := by decide
theorem con_inv {s : RS} (h : (conS s).2.2 = 0) : s.2 = 0 ∧ MayK (conS s).1 ∧ (conS s).1.kind = 1 ∧ (restP (conS s).1).1.length ≤ s.1.length := by
  rw [conS_eq] at h ⊢
  dsimp only at h ⊢
  have h1 := con4_inv h
  clear h
  have key : (con2 (con1 s).2).2.2.2 = 0 ∧ ∃ (t p b : List UInt8), (if bitN (con1 s).1 2 then con3 (con2 (con1 s).2).2.2 else ([], [], (con2 (con1 s).2).2.2)) = (t, p, (b, 0)) ∧ (bitN (con1 s).1 2 = true → nameB (toB t) = true ∧ p.length ≤ 256 ∧ (con2 (con1 s).2).2.2.1 = textP t ++ (textP p ++ b)) ∧ (bitN (con1 s).1 2 = false → t = [] ∧ p = []) := by
    cases z : bitN (con1 s).1 2
    · rw [z, if_neg (by decide)] at h1
      rw [if_neg (by decide)]
      exact ⟨h1, [], [], (con2 (con1 s).2).2.2.1, Prod.ext rfl (Prod.ext rfl (Prod.ext rfl h1)), (fun n => by cases n), fun _ => ⟨rfl, rfl⟩⟩
    · rw [z, if_pos rfl] at h1
      rw [if_pos rfl]
      obtain ⟨h2, t, p, b, e, hn, hp, es⟩ := con3_inv h1
      exact ⟨h2, t, p, b, e, fun _ => ⟨hn, hp, es⟩, fun n => by cases n⟩
  obtain ⟨k1, t, p, b, e1, e2, e3⟩ := key
  obtain ⟨k2, a, c, d, f1, f2, f3, f4, f5⟩ := con2_inv k1
  obtain ⟨k3, f, g, g1, g2, g3⟩ := con1_inv k2
  have hf := f.toNat_lt
  obtain ⟨b1, b2⟩ := bad_inv f.toNat (by omega) g2
  rw [e1]
  rw [f1] at e2 ⊢
  rw [g1] at e2 e3 f5 ⊢
  dsimp only at e2 e3 f5 ⊢
  refine ⟨k3, ⟨⟨by simp, by simp, rfl⟩, ⟨fun n => ?_, fun _ => rfl⟩, ⟨fun n => ?_, fun n => ?_⟩, (fun n => by cases n), ⟨fun _ => ⟨by dsimp only; omega, by dsimp only; omega, ?_, ?_⟩, fun n => absurd rfl n⟩, ⟨(fun n => absurd n (by simp)), fun _ => ⟨rfl, rfl⟩⟩, ⟨(fun n => absurd n (by simp)), (fun n => absurd n (by simp)), fun _ => rfl⟩, ⟨(fun n => absurd n (by simp)), fun _ => rfl⟩⟩, rfl, ?_⟩
  · exfalso; dsimp only at n; omega
  · rcases n with n | ⟨_, n⟩
    · exact absurd n (by simp)
    · obtain ⟨n1, n2, _⟩ := e2 n
      exact ⟨n1, n2, by dsimp only; omega, by dsimp only; omega⟩
  · have z : bitN f.toNat 2 = false := by
      cases hz : bitN f.toNat 2
      · rfl
      · exact absurd (.inr ⟨rfl, hz⟩) n
    obtain ⟨rfl, rfl⟩ := e3 z
    obtain ⟨z1, z2⟩ := b2 z
    exact ⟨rfl, rfl, by dsimp only; omega, z2⟩
  · rw [size_toB]; exact f3
  · rw [toB_toList]; exact f4
  · have f2l : ∀ n, (fixedV n 2).length = 2 := fun n => fixedV_len n 2
    unfold restP
    rw [if_pos rfl, g3, f5]
    dsimp only
    rw [toB_toList]
    cases z : bitN f.toNat 2
    · rw [if_neg (by decide)]
      simp only [List.length_append, List.length_cons, List.length_nil, f2l, textP_len]
      omega
    · obtain ⟨_, _, e4⟩ := e2 z
      rw [if_pos rfl, e4, toB_toList]
      simp only [List.length_append, List.length_cons, List.length_nil, f2l, textP_len]
      omega
theorem may_plain {n : Nat} {i : Int} {w : List (ByteArray × Int)} {c : List Int} (hn : 4 ≤ n ∧ n ≤ 14) (hi : n ≤ 11 → 1 ≤ i ∧ i ≤ 65535) (hj : 12 ≤ n → i = 0)
    (w8 : n = 8 → WantsK w 2) (w10 : n = 10 → WantsK w 0) (w0 : n ≠ 8 → n ≠ 10 → w = []) (c9 : n = 9 → 1 ≤ c.length ∧ c.length ≤ 8 ∧ ∀ x ∈ c, (0 ≤ x ∧ x ≤ 2) ∨ x = 128) (c0 : n ≠ 9 → c = []) :
    MayK { kind := ((n : Nat) : Int), id := i, wants := w, codes := c } := by
  refine ⟨⟨by dsimp only; omega, by dsimp only; omega, rfl⟩, ⟨fun a => hi (by dsimp only at a; omega), fun a => hj (by dsimp only at a; omega)⟩, ⟨fun a => ?_, fun _ => ⟨rfl, rfl, rfl, rfl⟩⟩, (fun a => by cases a), ⟨fun a => ?_, fun _ => ⟨rfl, rfl, rfl, rfl⟩⟩, ⟨fun a => ?_, fun _ => ⟨rfl, rfl⟩⟩, ⟨fun a => w8 (by dsimp only at a; omega), fun a => w10 (by dsimp only at a; omega), fun a => w0 (by dsimp only at a; omega) (by dsimp only at a; omega)⟩, fun a => c9 (by dsimp only at a; omega), fun a => c0 (by dsimp only at a; omega)⟩
  · exfalso; rcases a with a | ⟨a, _⟩ <;> (dsimp only at a; omega)
  · exfalso; dsimp only at a; omega
  · exfalso; dsimp only at a; omega
theorem head_pubI : ∀ x : Nat, x < 256 → x / 16 = 3 → headB x = true → x / 2 % 4 ≤ 2 ∧ (bitN x 3 = true → x / 2 % 4 ≠ 0) ∧ bitV (bitN x 3) 8 + x / 2 % 4 * 2 + bitV (bitN x 0) 1 = x % 16 := by decide
/-- What a body tells may be, and has its bytes. -/
theorem body_inv {x : Nat} {b : List UInt8} (hx : x < 256) (hh : headB x = true) (h : (bodyS x b).2 = ([], 0)) : MayK (bodyS x b).1 ∧ (bodyS x b).1.kind = ((x / 16 : Nat) : Int) ∧ (x / 16 ≠ 1 → restP (bodyS x b).1 = (b, x % 16)) ∧ (x / 16 = 1 → (restP (bodyS x b).1).1.length ≤ b.length ∧ x % 16 = 0) := by
  obtain ⟨n1, n14, m2, m0⟩ := head_flag x hx hh
  have ids : 4 ≤ x / 16 → x / 16 ≤ 11 → (if hasIdB (x / 16) then idS (b, 0) else (0, (b, 0))) = idS (b, 0) := fun a c => if_pos (decide_eq_true ⟨a, c⟩)
  have idn : ¬ (4 ≤ x / 16 ∧ x / 16 ≤ 11) → (if hasIdB (x / 16) then idS (b, 0) else (0, (b, 0))) = (0, (b, 0)) := fun a => if_neg (fun z => a (of_decide_eq_true z))
  unfold bodyS at *
  dsimp only at h ⊢
  by_cases c1 : x / 16 = 1
  · rw [if_pos c1, idn (by omega)] at h ⊢
    dsimp only at h ⊢
    obtain ⟨_, h2, h3, h4⟩ := con_inv (s := (b, 0)) (congrArg Prod.snd h)
    exact ⟨h2, by rw [h3, c1]; rfl, fun n => absurd c1 n, fun _ => ⟨h4, m0 (by omega) (by omega) (by omega) (by omega)⟩⟩
  rw [if_neg c1] at h ⊢
  by_cases c2 : x / 16 = 2
  · rw [if_pos c2, idn (by omega)] at h ⊢
    dsimp only at h ⊢
    have hz := congrArg Prod.snd h
    obtain ⟨h1, h2, h3⟩ := fail_inv (by decide) hz
    rw [h3] at h
    obtain ⟨h4, y, d, e5, e6⟩ := one_inv h1
    obtain ⟨_, z, e, e7, e8⟩ := one_inv h4
    rw [e6] at h h2 ⊢
    rw [e8] at e5 h2 ⊢
    dsimp only at h e5 e7 h2 ⊢
    obtain rfl : d = [] := congrArg Prod.fst h
    subst e5
    rw [Bool.or_eq_false_iff, Bool.or_eq_false_iff, Bool.and_eq_false_iff, decide_eq_false_iff_not, decide_eq_false_iff_not, decide_eq_false_iff_not, decide_eq_false_iff_not] at h2
    have m := m0 (by omega) (by omega) (by omega) (by omega)
    refine ⟨⟨⟨by simp, by simp, rfl⟩, ⟨fun n => by exfalso; dsimp only at n; omega, fun _ => rfl⟩, ⟨fun n => by exfalso; rcases n with n | ⟨n, _⟩ <;> (dsimp only at n; omega), fun _ => ⟨rfl, rfl, rfl, rfl⟩⟩, (fun n => by cases n), ⟨(fun n => absurd n (by simp)), fun _ => ⟨rfl, rfl, rfl, rfl⟩⟩, ⟨fun _ => ⟨by dsimp only; omega, by dsimp only; omega, fun p => ?_⟩, fun n => absurd rfl n⟩, ⟨(fun n => absurd n (by simp)), (fun n => absurd n (by simp)), fun _ => rfl⟩, ⟨(fun n => absurd n (by simp)), fun _ => rfl⟩⟩, by rw [c2]; rfl, fun _ => ?_, fun n => absurd n (by omega)⟩
    · have p := of_decide_eq_true p
      dsimp only; omega
    · unfold restP
      rw [if_neg (by simp), if_pos rfl, m, e7]
      dsimp only
      rw [Int.toNat_natCast, UInt8.ofNat_toNat]
      have e9 : UInt8.ofNat (bitV (decide (z.toNat = 1)) 1) = z := by
        have hz : z.toNat = 0 ∨ z.toNat = 1 := by omega
        have := UInt8.ofNat_toNat (x := z)
        rcases hz with hz | hz
        · rw [hz] at this ⊢; exact this
        · rw [hz] at this ⊢; exact this
      rw [e9]
  rw [if_neg c2] at h ⊢
  by_cases c3 : x / 16 = 3
  · rw [if_pos c3, idn (by omega)] at h ⊢
    dsimp only at h ⊢
    obtain ⟨b1, b2, b3⟩ := head_pubI x hx c3 hh
    obtain ⟨_, t, i, p, e1, e2, e3, e4, e5, e6⟩ := pub_inv (q := x / 2 % 4) (s := (b, 0)) (congrArg Prod.snd h)
    rw [e1]
    dsimp only at e6 ⊢
    refine ⟨⟨⟨by simp, by simp, rfl⟩, ⟨fun n => ?_, fun n => ?_⟩, ⟨fun _ => ⟨e2, e3, by dsimp only; omega, by dsimp only; omega⟩, fun n => absurd (.inl rfl) n⟩, fun n => ⟨rfl, ?_⟩, ⟨(fun n => absurd n (by simp)), fun _ => ⟨rfl, rfl, rfl, rfl⟩⟩, ⟨(fun n => absurd n (by simp)), fun _ => ⟨rfl, rfl⟩⟩, ⟨(fun n => absurd n (by simp)), (fun n => absurd n (by simp)), fun _ => rfl⟩, ⟨(fun n => absurd n (by simp)), fun _ => rfl⟩⟩, by rw [c3]; rfl, fun _ => ?_, fun n => absurd n (by omega)⟩
    · have := e4 (by dsimp only at n; omega)
      dsimp only; omega
    · have := e5 (by dsimp only at n; omega)
      dsimp only; omega
    · have := b2 n
      dsimp only; omega
    · unfold restP
      rw [if_neg (by simp), if_neg (by simp), if_pos rfl]
      dsimp only
      rw [toB_toList, Int.toNat_natCast, Int.toNat_natCast, b3, e6, List.append_assoc]
      congr 3
      by_cases z : 0 < x / 2 % 4
      · rw [if_pos z, if_pos (by omega)]
      · rw [if_neg z, if_neg (by omega)]
  rw [if_neg c3] at h ⊢
  by_cases c8 : x / 16 = 8 ∨ x / 16 = 10
  · rw [if_pos c8, ids (by omega) (by omega)] at h ⊢
    dsimp only at h ⊢
    unfold wantsS at h ⊢
    obtain ⟨h1, l, e1, l8, lw, es⟩ := wantsF_inv 9 [] _ (Nat.zero_le _) h
    obtain ⟨h2, h3, h4⟩ := fail_inv (by decide) h1
    obtain ⟨_, i, d, li, i1, e5, e6⟩ := id_inv h2
    rw [h4] at es
    rw [e1]
    rw [e6] at es h3 ⊢
    dsimp only at es h3 e5 ⊢
    have h3 := of_decide_eq_false h3
    have ll : 1 ≤ l.length := by
      cases l with
      | nil => exact absurd (by rw [es]; rfl) h3
      | cons y l => simp
    have l8 : l.length ≤ 8 := by simpa using l8
    have m := m2 (.inr c8)
    rw [List.nil_append]
    refine ⟨may_plain ⟨by omega, by omega⟩ (fun _ => by omega) (fun _ => by omega) (fun a => ⟨ll, l8, ?_⟩) (fun a => ⟨ll, l8, ?_⟩) (fun a c => by omega) (fun a => by omega) (fun _ => rfl), rfl, fun _ => ?_, fun n => absurd n c1⟩
    · rw [a, show decide ((8 : Nat) = 8) = true from rfl, if_pos rfl] at lw; exact lw
    · rw [a, show decide ((10 : Nat) = 8) = false from rfl, if_neg (by decide)] at lw; exact lw
    · unfold restP
      dsimp only
      rcases c8 with c8 | c8
      · rw [c8] at es ⊢
        rw [if_neg (by decide), if_neg (by decide), if_neg (by decide), if_pos (by decide), m, e5, es, Int.toNat_natCast]
        rfl
      · rw [c8] at es ⊢
        rw [if_neg (by decide), if_neg (by decide), if_neg (by decide), if_neg (by decide), if_pos (by decide), m, e5, es, Int.toNat_natCast]
        have e4 : (fun w : ByteArray × Int => textP w.1.data.toList ++ (if decide ((10 : Nat) = 8) = true then [UInt8.ofNat w.2.toNat] else [])) = fun w => textP w.1.data.toList := funext fun w => List.append_nil _
        rw [e4]
  rw [if_neg c8] at h ⊢
  by_cases c9 : x / 16 = 9
  · rw [if_pos c9, ids (by omega) (by omega)] at h ⊢
    dsimp only at h ⊢
    unfold codesS at h ⊢
    obtain ⟨h1, l, e1, l8, lw, es⟩ := codesF_inv 9 [] _ (Nat.zero_le _) h
    obtain ⟨h2, h3, h4⟩ := fail_inv (by decide) h1
    obtain ⟨_, i, d, li, i1, e5, e6⟩ := id_inv h2
    rw [h4] at es
    rw [e1]
    rw [e6] at es h3 ⊢
    dsimp only at es h3 e5 ⊢
    have h3 := of_decide_eq_false h3
    have ll : 1 ≤ l.length := by
      cases l with
      | nil => exact absurd (by rw [es]; rfl) h3
      | cons y l => simp
    have l8 : l.length ≤ 8 := by simpa using l8
    have m := m0 (by omega) (by omega) (by omega) (by omega)
    rw [List.nil_append]
    have mp := may_plain (n := 9) (i := ((i : Nat) : Int)) (w := []) (c := l) ⟨by omega, by omega⟩ (fun _ => by omega) (fun _ => by omega) (fun a => by omega) (fun a => by omega) (fun _ _ => rfl) (fun _ => ⟨ll, l8, lw⟩) (fun a => absurd rfl a)
    refine ⟨mp, by rw [c9]; rfl, fun _ => ?_, fun n => absurd n c1⟩
    unfold restP
    dsimp only
    rw [if_neg (by decide), if_neg (by decide), if_neg (by decide), if_neg (by decide), if_neg (by decide), if_pos (by decide), m, e5, es, Int.toNat_natCast]
  rw [if_neg c9] at h ⊢
  dsimp only at h ⊢
  by_cases c12 : 12 ≤ x / 16
  · rw [idn (by omega)] at h ⊢
    dsimp only at h ⊢
    obtain rfl : b = [] := congrArg Prod.fst h
    have m := m0 (by omega) (by omega) (by omega) (by omega)
    refine ⟨may_plain (w := []) (c := []) ⟨by omega, by omega⟩ (fun _ => by omega) (fun _ => rfl) (fun a => by omega) (fun a => by omega) (fun _ _ => rfl) (fun a => by omega) (fun a => rfl), rfl, fun _ => ?_, fun n => absurd n c1⟩
    unfold restP
    dsimp only
    rw [if_neg (by omega), if_neg (by omega), if_neg (by omega), if_neg (by omega), if_neg (by omega), if_neg (by omega), if_neg (by omega), if_pos (by omega), m]
  · rw [ids (by omega) (by omega)] at h ⊢
    obtain ⟨_, i, d, li, i1, e5, e6⟩ := id_inv (s := (b, 0)) (congrArg Prod.snd h)
    rw [e6] at h ⊢
    dsimp only at h e5 ⊢
    obtain rfl : d = [] := congrArg Prod.fst h
    rw [List.append_nil] at e5
    refine ⟨may_plain (w := []) (c := []) ⟨by omega, by omega⟩ (fun _ => by omega) (fun _ => by omega) (fun a => by omega) (fun a => by omega) (fun _ _ => rfl) (fun a => by omega) (fun a => rfl), rfl, fun _ => ?_, fun n => absurd n c1⟩
    unfold restP
    dsimp only
    by_cases c6 : x / 16 = 6
    · rw [if_neg (by omega), if_neg (by omega), if_neg (by omega), if_neg (by omega), if_neg (by omega), if_neg (by omega), if_pos (by omega), m2 (by omega), Int.toNat_natCast, e5]
    · rw [if_neg (by omega), if_neg (by omega), if_neg (by omega), if_neg (by omega), if_neg (by omega), if_neg (by omega), if_neg (by omega), if_neg (by omega), m0 (by omega) (by omega) (by omega) (by omega), Int.toNat_natCast, e5]
theorem lenF_inv : ∀ (f k acc : Nat) (r : List UInt8), (lenF f k acc r).2.2 = 0 → ∃ n u, (lenF f k acc r) = (acc + 128 ^ k * n, k + u, 0) ∧ 1 ≤ u ∧ u ≤ r.length ∧ (putV n).length ≤ u ∧ ((putV n).length = u → r.take u = putV n)
  | 0, _, _, _, h => absurd h (by exact (by decide : (3 : Int) ≠ 0))
  | _ + 1, _, _, [], h => absurd h (by exact (by decide : (5 : Int) ≠ 0))
  | f + 1, k, acc, b :: r, h => by
    have hb := b.toNat_lt
    rw [lenF_step] at h ⊢
    by_cases q : 128 ≤ b.toNat
    · rw [if_pos q] at h ⊢
      obtain ⟨n, u, e, u1, ul, pl, pe⟩ := lenF_inv f (k + 1) _ r h
      refine ⟨b.toNat % 128 + 128 * n, u + 1, ?_, by omega, by rw [List.length_cons]; omega, ?_, ?_⟩
      · rw [e]
        refine Prod.ext ?_ (Prod.ext ?_ rfl)
        · dsimp only
          rw [Nat.pow_succ, Nat.mul_add, Nat.mul_assoc, Nat.mul_comm (b.toNat % 128), Nat.add_assoc]
        · dsimp only; omega
      · by_cases z : b.toNat % 128 + 128 * n < 128
        · rw [putV_small z]; simp
        · rw [putV_step z, List.length_cons, show (b.toNat % 128 + 128 * n) / 128 = n by omega]; omega
      · by_cases z : b.toNat % 128 + 128 * n < 128
        · rw [putV_small z]
          intro e; rw [List.length_singleton] at e; omega
        · rw [putV_step z, List.length_cons, show (b.toNat % 128 + 128 * n) / 128 = n by omega, show (b.toNat % 128 + 128 * n) % 128 + 128 = b.toNat by omega, UInt8.ofNat_toNat, List.take_succ_cons]
          intro e; rw [pe (by omega)]
    · rw [if_neg q]
      refine ⟨b.toNat, 1, Prod.ext ?_ (Prod.ext rfl rfl), Nat.le_refl _, by rw [List.length_cons]; omega, ?_, fun _ => ?_⟩
      · dsimp only
        rw [Nat.mod_eq_of_lt (by omega), Nat.mul_comm]
      · rw [putV_small (by omega)]; exact Nat.le_refl _
      · rw [putV_small (by omega), UInt8.ofNat_toNat]; rfl
theorem put_mono : ∀ (m n : Nat), n ≤ m → (putV n).length ≤ (putV m).length := fun m => by
  induction m using Nat.strongRecOn with
  | _ m ih =>
    intro n h
    by_cases q : n < 128
    · rw [putV_small q]
      by_cases z : m < 128
      · rw [putV_small z]; exact Nat.le_refl _
      · rw [putV_step z]; simp
    · rw [putV_step q, putV_step (n := m) (by omega), List.length_cons, List.length_cons]
      have := ih (m / 128) (by omega) (n / 128) (by omega)
      omega
theorem decL_err {l : List UInt8} (h : (decL l).2 ≠ 0) : (decL l).1 = {} := by
  cases l with
  | nil => rfl
  | cons x r =>
    rw [decL_cons] at h ⊢
    split
    · rfl
    split
    · rfl
    split
    · rfl
    split
    · rfl
    · rename_i h1 h2 h3 h4
      rw [if_neg h1, if_neg h2, if_neg h3, if_neg h4] at h
      unfold endP at h ⊢
      split
      · rename_i g; rw [if_pos g] at h; exact absurd rfl h
      · rfl
/-- What is taken may be, and has its bytes, but for needless ones. -/
theorem dec_again {l : List UInt8} {k : Pk} (h : decL l = (k, 0)) : MayK k ∧ (encP k).length ≤ l.length ∧ (k.kind = 1 ∨ (encP k).length < l.length ∨ encP k = l) := by
  cases l with
  | nil => exact absurd (congrArg Prod.snd h) (by exact (by decide : (5 : Int) ≠ 0))
  | cons x r =>
    rw [decL_cons] at h
    by_cases h1 : (lenS r).2.2 ≠ 0
    · rw [if_pos h1] at h; exact absurd (congrArg Prod.snd h) h1
    rw [if_neg h1] at h
    by_cases h2 : 1024 < (lenS r).1
    · rw [if_pos h2] at h; exact absurd (congrArg Prod.snd h) (by exact (by decide : (2 : Int) ≠ 0))
    rw [if_neg h2] at h
    by_cases h3 : r.length < (lenS r).2.1 + (lenS r).1
    · rw [if_pos h3] at h; exact absurd (congrArg Prod.snd h) (by exact (by decide : (5 : Int) ≠ 0))
    rw [if_neg h3] at h
    by_cases h4 : (lenS r).2.1 + (lenS r).1 < r.length ∨ headB x.toNat = false
    · rw [if_pos h4] at h; exact absurd (congrArg Prod.snd h) (by exact (by decide : (3 : Int) ≠ 0))
    rw [if_neg h4] at h
    have h1 : (lenS r).2.2 = 0 := Decidable.not_not.1 h1
    obtain ⟨n, u, e, u1, ul, pl, pe⟩ := lenF_inv 4 0 0 r h1
    have e : lenS r = (n, u, 0) := by
      refine e.trans (Prod.ext ?_ (Prod.ext ?_ rfl))
      · dsimp only; omega
      · dsimp only; omega
    rw [e] at h h3 h4
    dsimp only at h h3 h4
    have hh : headB x.toNat = true := by cases hq : headB x.toNat; exact absurd (.inr hq) h4; rfl
    have lr : r.length = u + n := by omega
    have lb : (r.drop u).length = n := by rw [List.length_drop]; omega
    unfold endP at h
    by_cases g : (failS (bodyS x.toNat (r.drop u)).2 (decide ((bodyS x.toNat (r.drop u)).2.1 ≠ [])) 3).2 = 0
    · rw [if_pos g] at h
      obtain ⟨g1, g2, _⟩ := fail_inv (by decide) g
      have g2 := of_decide_eq_false g2
      have g3 : (bodyS x.toNat (r.drop u)).2.1 = [] := Decidable.not_not.1 g2
      have hx := x.toNat_lt
      obtain ⟨a1, a2, a3, a4⟩ := body_inv (x := x.toNat) (b := r.drop u) (by omega) hh (Prod.ext g3 g1)
      have ek : (bodyS x.toNat (r.drop u)).1 = k := congrArg Prod.fst h
      rw [ek] at a1 a2 a3 a4
      refine ⟨a1, ?_⟩
      unfold encP
      rw [a2, Int.toNat_natCast]
      by_cases c1 : x.toNat / 16 = 1
      · obtain ⟨b1, _⟩ := a4 c1
        have := put_mono n (restP k).1.length (by omega)
        refine ⟨?_, .inl (by omega)⟩
        rw [List.length_cons, List.length_append, List.length_cons]
        omega
      · rw [a3 c1]
        dsimp only
        rw [lb, show x.toNat / 16 * 16 + x.toNat % 16 = x.toNat by omega, UInt8.ofNat_toNat]
        refine ⟨by rw [List.length_cons, List.length_append, List.length_cons]; omega, ?_⟩
        by_cases c : (putV n).length = u
        · refine .inr (.inr ?_)
          rw [← pe c, List.take_append_drop]
        · refine .inr (.inl ?_)
          rw [List.length_cons, List.length_append, List.length_cons]; omega
    · rw [if_neg g] at h
      exact absurd (congrArg Prod.snd h) g
end Go.G.YtciepfobnaemmaaDoor
