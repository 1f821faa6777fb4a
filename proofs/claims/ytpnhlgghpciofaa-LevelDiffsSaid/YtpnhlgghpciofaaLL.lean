/- A job takes what it touches: the plain law. -/
import Derived.Test.YtpnhlgghpciofaaLI
import Derived.Test.YtpnhlgghpciofaaProg
set_option maxRecDepth 100000
namespace Go.G.Ytpnhlgghpciofaa
open Go.RowKit
theorem overD_le {ds : List Dat} {x : Int} {lo mo : List UInt8} : (overD ds x lo mo).length ≤ ds.length := Nat.le_trans (List.length_filter_le _ _) (List.length_filter_le _ _)
theorem jobD_le {ds : List Dat} {x : Int} : (jobD ds x).length ≤ 2 * ds.length + 1 := by
  have h1 : (inD ds x).length ≤ ds.length + 1 := by
    unfold inD
    split
    · simp
    · rename_i d r hat
      have : (d :: r).length ≤ ds.length := by rw [← hat]; exact List.length_filter_le _ _
      split
      · simp
      · omega
  unfold jobD
  split
  · simp
  · rename_i d r hin
    rw [hin] at h1
    have := overD_le (ds := ds) (x := x + 1) (lo := lowD (Dat.lb d) (d :: r)) (mo := highD (Dat.mb d) (d :: r))
    simp only [List.length_append, List.length_map]
    omega

/-! ### the plain law of a job: it takes what it touches -/
theorem cmpL_le_trans {a b c : List UInt8} (h1 : cmpL a b ≤ 0) (h2 : cmpL b c ≤ 0) : cmpL a c ≤ 0 := by
  rw [cmpL_bytes] at *
  have : ∀ (a b c : List UInt8), Lib.compareBytes a b ≤ 0 → Lib.compareBytes b c ≤ 0 → Lib.compareBytes a c ≤ 0 := by
    intro a
    induction a with
    | nil => intro b c _ _; cases c <;> simp [Lib.compareBytes]
    | cons x a ih =>
      intro b c h1 h2
      cases b with
      | nil => simp [Lib.compareBytes] at h1
      | cons y b =>
        cases c with
        | nil => simp [Lib.compareBytes] at h2
        | cons z c =>
          simp only [Lib.compareBytes] at *
          by_cases e1 : x < y
          · by_cases e2 : y < z
            · simp [UInt8.lt_trans e1 e2]
            · by_cases e3 : z < y
              · simp [e2, e3] at h2
              · have : y = z := UInt8.le_antisymm (UInt8.not_lt.1 e3) (UInt8.not_lt.1 e2)
                subst this
                simp [e1]
          · by_cases e4 : y < x
            · simp [e1, e4] at h1
            · have : x = y := UInt8.le_antisymm (UInt8.not_lt.1 e4) (UInt8.not_lt.1 e1)
              subst this
              simp only [e1, if_false] at h1
              by_cases e2 : x < z
              · simp [e2]
              · by_cases e3 : z < x
                · simp [e2, e3] at h2
                · simp only [e2, e3, if_false] at h2 ⊢
                  exact ih b c h1 h2
  exact this a b c h1 h2
theorem cmpL_refl (a : List UInt8) : cmpL a a = 0 := by have := cmpL_flip a a; omega

theorem lowD_le : ∀ (ds : List Dat) (b : List UInt8), cmpL (lowD b ds) b ≤ 0 ∧ ∀ d ∈ ds, cmpL (lowD b ds) (Dat.lb d) ≤ 0
  | [], b => ⟨by simp [lowD, cmpL_refl], fun d hd => by cases hd⟩
  | d :: r, b => by
    obtain ⟨i1, i2⟩ := lowD_le r (if cmpL (Dat.lb d) b < 0 then Dat.lb d else b)
    unfold lowD
    split at i1
    · rename_i h
      rw [if_pos h] at i2 ⊢
      refine ⟨cmpL_le_trans i1 (by omega), fun e he => ?_⟩
      rcases List.mem_cons.1 he with rfl | he
      · exact i1
      · exact i2 e he
    · rename_i h
      rw [if_neg h] at i2 ⊢
      refine ⟨i1, fun e he => ?_⟩
      rcases List.mem_cons.1 he with rfl | he
      · exact cmpL_le_trans i1 (by have := cmpL_flip b (Dat.lb e); omega)
      · exact i2 e he
theorem highD_ge : ∀ (ds : List Dat) (b : List UInt8), cmpL b (highD b ds) ≤ 0 ∧ ∀ d ∈ ds, cmpL (Dat.mb d) (highD b ds) ≤ 0
  | [], b => ⟨by simp [highD, cmpL_refl], fun d hd => by cases hd⟩
  | d :: r, b => by
    obtain ⟨i1, i2⟩ := highD_ge r (if 0 < cmpL (Dat.mb d) b then Dat.mb d else b)
    unfold highD
    split at i1
    · rename_i h
      rw [if_pos h] at i2 ⊢
      refine ⟨cmpL_le_trans (by have := cmpL_flip b (Dat.mb d); omega) i1, fun e he => ?_⟩
      rcases List.mem_cons.1 he with rfl | he
      · exact i1
      · exact i2 e he
    · rename_i h
      rw [if_neg h] at i2 ⊢
      refine ⟨i1, fun e he => ?_⟩
      rcases List.mem_cons.1 he with rfl | he
      · exact cmpL_le_trans (by omega) i1
      · exact i2 e he

theorem mayL_nodup {nx : Int} : ∀ {pre r : List Tab}, mayL nx pre r = true → (r.map Tab.num).Nodup ∧ ∀ t ∈ r, ∀ u ∈ pre, u.num ≠ t.num
  | _, [], _ => ⟨by simp, fun t ht => by cases ht⟩
  | pre, t :: r, h => by
    simp only [mayL, Bool.and_eq_true, Bool.not_eq_true'] at h
    obtain ⟨i1, i2⟩ := mayL_nodup h.2
    have hno := h.1.1.2
    refine ⟨?_, fun u hu v hv => ?_⟩
    · rw [List.map_cons, List.nodup_cons]
      refine ⟨fun hm => ?_, i1⟩
      obtain ⟨u, hu, he⟩ := List.mem_map.1 hm
      exact i2 u hu t (by simp) he.symm
    · rcases List.mem_cons.1 hu with rfl | hu
      · intro e
        rw [List.any_eq_false] at hno
        exact hno v hv (by simpa using e)
      · exact i2 u hu v (by simp [hv])

theorem cnt1 {n : Int} : ∀ {l : List Int}, l.Nodup → ((l.countP fun y => y == n) = if n ∈ l then 1 else 0)
  | [], _ => by simp
  | x :: l, h => by
    rw [List.nodup_cons] at h
    have ih := cnt1 (n := n) h.2
    rw [List.countP_cons, ih]
    by_cases e : x = n
    · subst e
      simp [h.1]
    · have : ¬ n = x := fun q => e q.symm
      simp [e, this]
theorem cnt_sub {l : List Int} (hl : l.Nodup) : ∀ {J : List Int}, J.Nodup → (∀ n ∈ J, n ∈ l) → (l.countP fun y => decide (y ∈ J)) = J.length
  | [], _, _ => by simp
  | n :: J, h, hs => by
    rw [List.nodup_cons] at h
    have ih := cnt_sub hl h.2 fun m hm => hs m (.tail _ hm)
    have key : ∀ (l : List Int), (l.countP fun y => decide (y ∈ n :: J)) = (l.countP fun y => y == n) + l.countP fun y => decide (y ∈ J) := by
      intro l
      induction l with
      | nil => rfl
      | cons y l ihl =>
        rw [List.countP_cons, List.countP_cons, List.countP_cons, ihl]
        by_cases e : y = n
        · subst e
          simp [h.1]; omega
        · simp [e]; omega
    rw [key l, ih, cnt1 hl, if_pos (hs n (.head _)), List.length_cons]
    omega

theorem map_nodup {l : List Dat} {f : Dat → Int} (h : (l.map f).Nodup) {m : List Dat} (hs : m.Sublist l) : (m.map f).Nodup := h.sublist (hs.map f)
theorem nodup_inj : ∀ {l : List Dat}, (l.map Dat.num).Nodup → ∀ d ∈ l, ∀ e ∈ l, Dat.num d = Dat.num e → d = e
  | [], _, d, hd, _, _, _ => by cases hd
  | x :: l, h, d, hd, e, he, q => by
    rw [List.map_cons, List.nodup_cons] at h
    rcases List.mem_cons.1 hd with hd' | hd' <;> rcases List.mem_cons.1 he with he' | he'
    · rw [hd', he']
    · subst hd'; exact absurd (List.mem_map.2 ⟨e, he', q.symm⟩) h.1
    · subst he'; exact absurd (List.mem_map.2 ⟨d, hd', q⟩) h.1
    · exact nodup_inj h.2 d hd' e he' q

theorem leastD_mem : ∀ (l : List Dat) (b : Dat), leastD b l = b ∨ leastD b l ∈ l
  | [], b => .inl rfl
  | d :: r, b => by
    unfold leastD
    split
    · rcases leastD_mem r d with h | h
      · rw [h]; exact .inr (.head _)
      · exact .inr (.tail _ h)
    · rcases leastD_mem r b with h | h
      · exact .inl h
      · exact .inr (.tail _ h)

section
variable {ds : List Dat} {x : Int} (hnd : (ds.map Dat.num).Nodup) (hne : atD ds x ≠ [])
include hnd hne

omit hnd in
theorem inD_facts : inD ds x ≠ [] ∧ (∀ d ∈ inD ds x, d ∈ ds ∧ Dat.lev d = x) ∧ ((inD ds x).length = 1 ∨ inD ds x = atD ds x) := by
  have hat : ∀ d ∈ atD ds x, d ∈ ds ∧ Dat.lev d = x := fun d hd => by
    have := List.mem_filter.1 hd
    exact ⟨this.1, by simpa using this.2⟩
  unfold inD
  split
  · rename_i h; exact absurd h hne
  · rename_i d r h
    rw [h] at hat
    split
    · refine ⟨by simp, fun e he => ?_, .inl rfl⟩
      obtain rfl := List.mem_singleton.1 he
      rcases leastD_mem (d :: r) d with q | q
      · rw [q]; exact hat d (.head _)
      · exact hat _ q
    · exact ⟨by simp, hat, .inr h.symm⟩

/-- What a job's numbers are. -/
theorem jobD_facts : ∃ O : List Dat, ∃ LO HI : List UInt8, jobD ds x = (inD ds x).map Dat.num ++ O.map Dat.num ∧ O = overD ds (x + 1) LO HI ∧ (∀ d ∈ inD ds x, cmpL LO (Dat.lb d) ≤ 0 ∧ cmpL (Dat.mb d) HI ≤ 0) ∧
    (jobD ds x).Nodup ∧ (∀ n ∈ jobD ds x, n ∈ ds.map Dat.num) ∧ 0 < (jobD ds x).length := by
  obtain ⟨f1, f2, f3⟩ := inD_facts (ds := ds) hne
  have hO : ∀ LO HI, ∀ d ∈ overD ds (x + 1) LO HI, d ∈ ds ∧ Dat.lev d = x + 1 := fun LO HI d hd => by
    have h1 := List.mem_filter.1 hd
    have h2 := List.mem_filter.1 h1.1
    exact ⟨h2.1, by simpa using h2.2⟩
  have hOn : ∀ LO HI, ((overD ds (x + 1) LO HI).map Dat.num).Nodup := fun LO HI => map_nodup hnd ((List.filter_sublist (l := atD ds (x + 1))).trans List.filter_sublist)
  have hIn : ((inD ds x).map Dat.num).Nodup := by
    rcases f3 with h | h
    · match hq : inD ds x, h with
      | [d], _ => simp
    · rw [h]; exact map_nodup hnd List.filter_sublist
  match hq : inD ds x with
  | [] => exact absurd hq f1
  | d :: r =>
    rw [hq] at f2 hIn
    have hj : jobD ds x = (d :: r).map Dat.num ++ (overD ds (x + 1) (lowD (Dat.lb d) (d :: r)) (highD (Dat.mb d) (d :: r))).map Dat.num := by unfold jobD; rw [hq]
    refine ⟨_, _, _, hj, rfl, fun e he => ⟨(lowD_le (d :: r) _).2 e he, (highD_ge (d :: r) _).2 e he⟩, ?_, ?_, ?_⟩
    · rw [hj, List.nodup_append]
      refine ⟨hIn, hOn _ _, fun a ha b hb q => ?_⟩
      obtain ⟨d1, h1, rfl⟩ := List.mem_map.1 ha
      obtain ⟨d2, h2, rfl⟩ := List.mem_map.1 hb
      have g1 := f2 d1 h1
      have g2 := hO _ _ d2 h2
      have := nodup_inj hnd d1 g1.1 d2 g2.1 q
      subst this
      have := g1.2
      have := g2.2
      omega
    · intro n hn
      rw [hj] at hn
      rcases List.mem_append.1 hn with hn | hn
      · obtain ⟨d1, h1, rfl⟩ := List.mem_map.1 hn
        exact List.mem_map_of_mem (f2 d1 h1).1
      · obtain ⟨d1, h1, rfl⟩ := List.mem_map.1 hn
        exact List.mem_map_of_mem (hO _ _ d1 h1).1
    · rw [hj]; simp

theorem job_lev {d : Dat} (hd : d ∈ ds) (hj : Dat.num d ∈ jobD ds x) : Dat.lev d = x ∨ Dat.lev d = x + 1 := by
  obtain ⟨O, LO, HI, h1, rfl, _, _, _, _⟩ := jobD_facts hnd hne
  obtain ⟨_, f2, _⟩ := inD_facts (ds := ds) hne
  rw [h1] at hj
  rcases List.mem_append.1 hj with h | h
  · obtain ⟨e, he, q⟩ := List.mem_map.1 h
    have g := f2 e he
    have := nodup_inj hnd e g.1 d hd q
    subst this
    exact .inl g.2
  · obtain ⟨e, he, q⟩ := List.mem_map.1 h
    have e1 := List.mem_filter.1 he
    have e2 := List.mem_filter.1 e1.1
    have := nodup_inj hnd e e2.1 d hd q
    subst this
    exact .inr (by simpa using e2.2)

theorem job_over {d : Dat} (hd : d ∈ ds) (hj : Dat.num d ∈ jobD ds x) (hl : Dat.lev d = x) {e : Dat} (he : e ∈ overD ds (x + 1) (Dat.lb d) (Dat.mb d)) : Dat.num e ∈ jobD ds x := by
  obtain ⟨O, LO, HI, h1, rfl, h3, _, _, _⟩ := jobD_facts hnd hne
  have hin : d ∈ inD ds x := by
    obtain ⟨_, f2, _⟩ := inD_facts (ds := ds) hne
    rw [h1] at hj
    rcases List.mem_append.1 hj with h | h
    · obtain ⟨e', he', q⟩ := List.mem_map.1 h
      have g := f2 e' he'
      have := nodup_inj hnd e' g.1 d hd q
      rw [← this]
      exact he'
    · obtain ⟨e', he', q⟩ := List.mem_map.1 h
      have e1 := List.mem_filter.1 he'
      have e2 := List.mem_filter.1 e1.1
      have := nodup_inj hnd e' e2.1 d hd q
      rw [this] at e2
      have h5 : Dat.lev d = x + 1 := by simpa using e2.2
      omega
  obtain ⟨g1, g2⟩ := h3 d hin
  have e1 := List.mem_filter.1 he
  have e2 : ovD (Dat.lb d) (Dat.mb d) e = true := e1.2
  simp only [ovD, Bool.and_eq_true, decide_eq_true_eq] at e2
  rw [h1]
  refine List.mem_append_right _ (List.mem_map_of_mem (List.mem_filter.2 ⟨e1.1, ?_⟩))
  simp only [ovD, Bool.and_eq_true, decide_eq_true_eq]
  have k1 : cmpL LO (Dat.mb e) ≤ 0 := cmpL_le_trans g1 (by have := cmpL_flip (Dat.mb e) (Dat.lb d); omega)
  have k2 : cmpL (Dat.lb e) HI ≤ 0 := cmpL_le_trans e2.2 g2
  have := cmpL_flip (Dat.mb e) LO
  exact ⟨by omega, k2⟩
end
end Go.G.Ytpnhlgghpciofaa
