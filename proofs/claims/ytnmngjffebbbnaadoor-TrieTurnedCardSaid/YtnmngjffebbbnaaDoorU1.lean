/- Remove. -/
import Derived.Test.YtnmngjffebbbnaaDoorU0
import Derived.Test.YtnmngjffebbbnaaDoorTW
import Derived.Test.YtnmngjffebbbnaaDoorProg
set_option maxRecDepth 100000
namespace Go.G.YtnmngjffebbbnaaDoor
open Go.RowKit
open Value (string slice int bool agg)
def f23_J : Nat → List Nat × Nat := jOf [(6, (rn 52 49 [99999]), 0), (7, (rn 52 49 [99999]), 0), (8, (1 :: (rn 52 49 [99999])), 0), (9, (1 :: (rn 46 43 (rn 52 5 [99999]))), 0)]

def f23_6 (w0 : World) (K : Value → AH → Prop) (a : Option Addr) (b c : ByteArray) (h : AH) : Prop :=
  ∀ j : Nat → Value, LPk Proofs.Tryd.prog w0 (EvC Proofs.Tryd.prog w0) f23_J 23 K 6 (.v (.pointer a) :: (.v (.string b) :: (.v (.string c) :: (jv j 52 49 [])))) [] h

def f23_7 (w0 : World) (K : Value → AH → Prop) (a : Option Addr) (b c : ByteArray) (h : AH) : Prop :=
  ∀ j : Nat → Value, LPk Proofs.Tryd.prog w0 (EvC Proofs.Tryd.prog w0) f23_J 23 K 7 (.v (.pointer a) :: (.v (.string b) :: (.v (.string c) :: (jv j 52 49 [])))) [] h

def f23_8 (w0 : World) (K : Value → AH → Prop) (a : Option Addr) (b : ByteArray) (h : AH) : Prop :=
  ∀ j : Nat → Value, LPk Proofs.Tryd.prog w0 (EvC Proofs.Tryd.prog w0) f23_J 23 K 8 (.v (.pointer a) :: (jv j 2 1 (.v (.string b) :: (jv j 52 49 [])))) [] h

def f23_9 (w0 : World) (K : Value → AH → Prop) (a : Option Addr) (b : ByteArray) (c : Bool) (h : AH) : Prop :=
  ∀ j : Nat → Value, LPk Proofs.Tryd.prog w0 (EvC Proofs.Tryd.prog w0) f23_J 23 K 9 (.v (.pointer a) :: (jv j 2 1 (.v (.string b) :: (jv j 46 43 (.v (.bool c) :: (jv j 52 5 [])))))) [] h

theorem f23_6_in {w0 : World} {K : Value → AH → Prop} (c : Option Addr) (a b : ByteArray) (h : AH)
  (hv : (∃ d : Addr, ((c = (some d)) ∧ ((∃ e : Option Addr, (((cellA w0 h (Addr.add d 0)) = (some (Value.pointer e))) ∧ (EvC Proofs.Tryd.prog w0 27 #[(string a)] (fun r s => (∃ g : Option Addr, (∃ i : Nat, (∃ k : Nat, ((r = (slice g i k)) ∧ (EvC Proofs.Tryd.prog w0 42 #[(Value.pointer e), (slice g i k), (string b)] (fun t u => ((t = (Value.tuple #[])) ∧ (f23_7 w0 K c a b u))) s)))))) h))) ∧ (EvC Proofs.Tryd.prog w0 27 #[(string a)] (fun v m => (∃ n : Option Addr, (∃ o : Nat, (∃ p : Nat, ((v = (slice n o p)) ∧ (∃ q : Option Addr, (((cellA w0 m (Addr.add d 0)) = (some (Value.pointer q))) ∧ (EvC Proofs.Tryd.prog w0 42 #[(Value.pointer q), (slice n o p), (string b)] (fun x y => ((x = (Value.tuple #[])) ∧ (f23_7 w0 K c a b y))) m)))))))) h))))) :
  f23_6 w0 K c a b h := fun j => LP_intro (P := Proofs.Tryd.prog) (Eq.mp (by kernel_rfl) hv)

theorem f23_7_in {w0 : World} {K : Value → AH → Prop} (b : Option Addr) (d a : ByteArray) (h : AH)
  (hv : (∃ e : Addr, ((b = (some e)) ∧ (∃ g : Option Nat, (((cellA w0 h (Addr.add e 1)) = (some (Value.map g))) ∧ (((plainKey Proofs.Tryd.prog 53 (string a)) = true) ∧ (mapAt Proofs.Tryd.prog w0 h g 53 (fun k => (∃ c : Option Nat, (((Value.map c) = (Option.getD (getM (string a) k) (Value.map none))) ∧ (((plainKey Proofs.Tryd.prog 58 (string d)) = true) ∧ (mapAt Proofs.Tryd.prog w0 h c 58 (fun m => (((c = none) → (f23_8 w0 K b a h)) ∧ (∀ i : Nat, ((c = (some i)) → (f23_8 w0 K b a (AH.putm h i (delM (string d) m))))))))))))))))))) :
  f23_7 w0 K b d a h := fun j => LP_intro (P := Proofs.Tryd.prog) (Eq.mp (by kernel_rfl) hv)

theorem f23_8_in {w0 : World} {K : Value → AH → Prop} (b : Option Addr) (a : ByteArray) (h : AH)
  (hv : (∃ c : Addr, ((b = (some c)) ∧ (∃ d : Option Nat, (((cellA w0 h (Addr.add c 1)) = (some (Value.map d))) ∧ (((plainKey Proofs.Tryd.prog 53 (string a)) = true) ∧ (mapAt Proofs.Tryd.prog w0 h d 53 (fun g => (∃ e : Option Nat, (((Value.map e) = (Option.getD (getM (string a) g) (Value.map none))) ∧ (mapAt Proofs.Tryd.prog w0 h e 58 (fun i => (f23_9 w0 K b a ((((List.length i) : Nat) : Int) == (0 : Int)) h))))))))))))) :
  f23_8 w0 K b a h := fun j => LP_intro (P := Proofs.Tryd.prog) (Eq.mp (by kernel_rfl) hv)

theorem f23_9_in {w0 : World} {K : Value → AH → Prop} (c : Option Addr) (b : ByteArray) (d : Bool) (h : AH)
  (hv : (brB d (∃ e : Addr, ((c = (some e)) ∧ (∃ a : Option Nat, (((cellA w0 h (Addr.add e 1)) = (some (Value.map a))) ∧ (((plainKey Proofs.Tryd.prog 53 (string b)) = true) ∧ (mapAt Proofs.Tryd.prog w0 h a 53 (fun i => (((a = none) → (K (bool true) h)) ∧ (∀ g : Nat, ((a = (some g)) → (K (bool true) (AH.putm h g (delM (string b) i))))))))))))) (K (bool true) h))) :
  f23_9 w0 K c b d h := fun j => LP_intro (P := Proofs.Tryd.prog) (Eq.mp (by kernel_rfl) hv)

theorem f23_go {w0 : World} {K : Value → AH → Prop} (b : Option Addr) (a c : ByteArray) (h : AH)
  (hv : (brB (Option.isNone b) (K (bool false) h) (∃ d : Addr, ((b = (some d)) ∧ (∃ e : Option Nat, (((cellA w0 h (Addr.add d 1)) = (some (Value.map e))) ∧ (((plainKey Proofs.Tryd.prog 53 (string c)) = true) ∧ (mapAt Proofs.Tryd.prog w0 h e 53 (fun k => (∃ g : Option Nat, (((Value.map g) = (Option.getD (getM (string c) k) (Value.map none))) ∧ (((plainKey Proofs.Tryd.prog 58 (string a)) = true) ∧ (mapAt Proofs.Tryd.prog w0 h g 58 (fun i => (∃ m : Int, (((int .i64 m) = (Option.getD (getM (string a) i) (int .i64 (0 : Int)))) ∧ (brB (!(Option.isSome (getM (string a) i))) (K (bool false) h) (f23_6 w0 K b a c h)))))))))))))))))) :
  EvC Proofs.Tryd.prog w0 23 ([(.pointer b), (.string a), (.string c)]).toArray K h := EvC_intro (P := Proofs.Tryd.prog) f23_J (Eq.mp (by kernel_rfl) hv)
/-! ### Remove -/
section
variable {w0 : World} {K : Value → AH → Prop} {h : AH} {Y Pf : List (Nat × AB)} {f c : ByteArray} {D : TD}
theorem own_gone {A1 A2 : List Ac} {a : Ac} (hA : D.A = A1 ++ a :: A2) {es : List (Value × Value)} (he : es = mV gV (allV (A1 ++ A2))) (w : Own w0 h (Pf ++ D.rest Y)) : Own w0 (h.putm D.am es) (Pf ++ ({ D with A := A1 ++ A2 } : TD).rest Y) := by
  subst he
  have w2 : Own w0 _ ((Pf ++ [(D.tb, .cells [pV D.rb, gV D.am] 2)]) ++ (D.am, .map (mV gV (allV (A1 ++ A2)))) :: (acs D.A ++ Y)) :=
    Own.updm (o := .map (mV gV (allV D.A))) (es := mV gV (allV (A1 ++ A2))) (by simpa [TD.rest] using w)
  have w3 : Own w0 _ ((a.mb, .map (mV iV a.fs)) :: (Pf ++ ({ D with A := A1 ++ A2 } : TD).rest Y)) := w2.perm (by
    classical
    rw [List.perm_iff_count]; intro z
    simp only [TD.rest, hA, acs, List.map_append, List.map_cons, List.count_append, List.count_cons, List.count_nil]
    omega)
  exact w3.tail
theorem del_allV {A1 A2 : List Ac} {a : Ac} (h : ((A1 ++ a :: A2).map (·.c)).Nodup) : delA a.c (allV (A1 ++ a :: A2)) = allV (A1 ++ A2) := by
  induction A1 with
  | nil => simp [allV, delA]
  | cons x A1 ih =>
    obtain ⟨h1, h2⟩ := List.nodup_cons.1 h
    have ne : ¬ a.c = x.c := fun e => h1 (List.mem_map.2 ⟨a, List.mem_append_right _ (List.mem_cons_self ..), e⟩)
    have := ih h2
    simp only [allV, List.map_append, List.map_cons, List.cons_append] at this ⊢
    rw [delA, if_neg ne, this]
structure Less (A A' : List Ac) (c f : ByteArray) : Prop where
  ak : (A'.map (·.c)).Nodup
  fk : ∀ a ∈ A', (keys a.fs).Nodup
  al : ∀ c' f' q', (∃ a ∈ A', a.c = c' ∧ (f', q') ∈ a.fs) ↔ (∃ a ∈ A, a.c = c' ∧ (f', q') ∈ a.fs) ∧ ¬ (c' = c ∧ f' = f)
theorem f23_7s (ak : (D.A.map (·.c)).Nodup) (fk : ∀ a ∈ D.A, (keys a.fs).Nodup) {A1 A2 : List Ac} {a : Ac} (hA : D.A = A1 ++ a :: A2) (ea : a.c = c) (g : getA c (allV D.A) = some a.mb) (w : Own w0 h (Pf ++ D.rest Y))
    (hk : ∀ h' A', Less D.A A' c f → Own w0 h' (Pf ++ ({ D with A := A' } : TD).rest Y) → K (.bool true) h') : f23_7 w0 K (some ⟨D.tb, 0, none⟩) f c h := by
  have ha : a ∈ D.A := by rw [hA]; exact List.mem_append_right _ (List.mem_cons_self ..)
  have w1 := own_ac (L := delA f a.fs) hA w
  have nf := fk a ha
  have hD : ({ D with A := A1 ++ { a with fs := delA f a.fs } :: A2 } : TD).A = A1 ++ { a with fs := delA f a.fs } :: A2 := rfl
  have eA : allV (A1 ++ { a with fs := delA f a.fs } :: A2) = allV D.A := by rw [hA]; simp [allV]
  have less : Less D.A (A1 ++ { a with fs := delA f a.fs } :: A2) c f := by
    refine ⟨by rw [hA] at ak; simpa using ak, fun b hb => ?_, fun c' f' q' => ?_⟩
    · rcases List.mem_append.1 hb with hb | hb
      · exact fk b (by rw [hA]; exact List.mem_append_left _ hb)
      · rcases List.mem_cons.1 hb with rfl | hb
        · exact delA_nodup nf
        · exact fk b (by rw [hA]; exact List.mem_append_right _ (List.mem_cons_of_mem _ hb))
    · rw [al_set (by rw [← hA]; exact ak), ← hA, delA_mem nf, ea]
      have mine : ∀ f' q', (f', q') ∈ a.fs ↔ ∃ b ∈ D.A, b.c = c ∧ (f', q') ∈ b.fs := fun f' q' => by
        constructor
        · exact fun z => ⟨a, ha, ea, z⟩
        · rintro ⟨b, hb, eb, z⟩
          have := ac_one ak hb ha (eb.trans ea.symm)
          rw [← this]; exact z
      rw [mine]
      constructor
      · rintro (⟨e, e1, z⟩ | ⟨e, z⟩)
        · exact ⟨by rw [e]; exact z, fun y => e1 y.2⟩
        · exact ⟨z, fun y => e y.1⟩
      · rintro ⟨z, y⟩
        by_cases e : c' = c
        · exact .inl ⟨e, fun e2 => y ⟨e, e2⟩, by rw [← e]; exact z⟩
        · exact .inr ⟨e, z⟩
  refine f23_7_in _ _ _ _ ⟨_, rfl, _, tb_all w, pk53 _, map53 w (rest_in D).2.1 ⟨_, gV_get.symm, pk58 _, ?_⟩⟩
  rw [g]
  refine map58 w ((rest_in D).2.2 a ha) ⟨fun z => (by cases z), fun r e => ?_⟩
  injection e with e
  subst e
  rw [del_mV]
  have in1 := rest_in (Pf := Pf) (Y := Y) ({ D with A := A1 ++ { a with fs := delA f a.fs } :: A2 } : TD)
  have g1 : getA c (allV (A1 ++ { a with fs := delA f a.fs } :: A2)) = some a.mb := by rw [eA]; exact g
  have tb1 : cellA w0 (h.putm a.mb (mV iV (delA f a.fs))) (Addr.add ⟨D.tb, 0, none⟩ 1) = some (gV D.am) := tb_all (D := { D with A := A1 ++ { a with fs := delA f a.fs } :: A2 }) w1
  refine f23_8_in _ _ _ ⟨_, rfl, _, tb1, pk53 _, map53 w1 in1.2.1 ⟨_, gV_get.symm, ?_⟩⟩
  have stay : K (.bool true) (h.putm a.mb (mV iV (delA f a.fs))) := hk _ _ less w1
  rw [g1]
  refine map58 w1 (in1.2.2 { a with fs := delA f a.fs } (List.mem_append_right _ (List.mem_cons_self ..))) (f23_9_in _ _ _ _ (brB_of (fun z => ?_) fun _ => stay))
  have ez : delA f a.fs = [] := by
    rw [mV_length] at z
    exact List.eq_nil_of_length_eq_zero (by simpa using z)
  refine ⟨_, rfl, _, tb1, pk53 _, map53 w1 in1.2.1 ⟨fun z => (by cases z), fun r e => ?_⟩⟩
  injection e with e
  subst e
  have ed : delM (.string c) (mV gV (allV (A1 ++ { a with fs := delA f a.fs } :: A2))) = mV gV (allV (A1 ++ A2)) := by
    rw [del_mV, ← ea]
    have := del_allV (A1 := A1) (A2 := A2) (a := { a with fs := delA f a.fs }) less.ak
    rw [← this]
  have w2 := own_gone (es := delM (.string c) (mV gV (allV (A1 ++ { a with fs := delA f a.fs } :: A2)))) hD ed w1
  refine hk _ (A1 ++ A2) ⟨?_, fun b hb => ?_, fun c' f' q' => ?_⟩ w2
  · have := less.ak
    rw [List.map_append, List.map_cons] at this
    rw [List.map_append]
    exact this.sublist ((List.Sublist.refl _).append (List.sublist_cons_self ..))
  · rcases List.mem_append.1 hb with hb | hb
    · exact fk b (by rw [hA]; exact List.mem_append_left _ hb)
    · exact fk b (by rw [hA]; exact List.mem_append_right _ (List.mem_cons_of_mem _ hb))
  · rw [← less.al]
    constructor
    · rintro ⟨b, hb, e, z⟩
      rcases List.mem_append.1 hb with hb | hb
      · exact ⟨b, List.mem_append_left _ hb, e, z⟩
      · exact ⟨b, List.mem_append_right _ (List.mem_cons_of_mem _ hb), e, z⟩
    · rintro ⟨b, hb, e, z⟩
      rcases List.mem_append.1 hb with hb | hb
      · exact ⟨b, List.mem_append_left _ hb, e, z⟩
      · rcases List.mem_cons.1 hb with rfl | hb
        · rw [ez] at z; cases z
        · exact ⟨b, List.mem_append_right _ hb, e, z⟩
def hasP (c f : ByteArray) (S : List Sb) : Bool := S.any fun s => decide (s.c = c) && decide (s.f = f)
theorem hasP_iff {S : List Sb} : hasP c f S = true ↔ ∃ q, (⟨c, f, q⟩ : Sb) ∈ S := by
  unfold hasP
  rw [List.any_eq_true]
  constructor
  · rintro ⟨s, hs, h⟩
    simp only [Bool.and_eq_true, decide_eq_true_eq] at h
    obtain ⟨sc, sf, sq⟩ := s
    obtain ⟨h1, h2⟩ := h
    dsimp only at h1 h2
    subst h1 h2
    exact ⟨sq, hs⟩
  · rintro ⟨q, hq⟩
    exact ⟨_, hq, by simp⟩
theorem without_none {S : List Sb} (h : hasP c f S = false) : withoutS c f true S = S := by
  unfold withoutS
  rw [List.filter_eq_self]
  intro s hs
  unfold hasP at h
  rw [List.any_eq_false] at h
  have := h s hs
  unfold goneS
  simp only [Bool.and_eq_true, decide_eq_true_eq] at this
  by_cases e1 : s.c = c
  · by_cases e2 : s.f = f
    · exact absurd ⟨e1, e2⟩ this
    · simp [e2]
  · simp [e1]
/-- Remove. -/
theorem f23_spec {S : List Sb} {B : List (Nat × AB)} (r : Rep S D) (w : Own w0 h (D.own B)) (hk : ∀ h' D', Rep (withoutS c f true S) D' → D'.tb = D.tb → Own w0 h' (D'.own B) → K (.bool (hasP c f S)) h') :
    EvC Go.Proofs.Tryd.prog w0 23 #[.pointer (some ⟨D.tb, 0, none⟩), .string f, .string c] K h := by
  have no : hasP c f S = false → K (.bool false) h := fun e => by
    have := hk h D (by rw [without_none e]; exact r) rfl w
    rwa [e] at this
  refine f23_go _ _ _ _ (brB_of (fun z => by cases z) fun _ => ⟨_, rfl, _, tb_all w, pk53 _, map53 w (rest_in D).2.1 ⟨_, gV_get.symm, pk58 _, ?_⟩⟩)
  rcases findA D.A c with ⟨A1, a, A2, hA, ea, g⟩ | ⟨g, none'⟩
  · have ha : a ∈ D.A := by rw [hA]; exact List.mem_append_right _ (List.mem_cons_self ..)
    rw [g]
    refine map58 w ((rest_in D).2.2 a ha) ⟨_, iV_get.symm, ?_⟩
    rw [get_mV]
    cases gf : getA f a.fs with
    | none =>
      refine brB_of (fun _ => no ?_) fun z => by cases z
      cases hh : hasP c f S with
      | false => rfl
      | true =>
        obtain ⟨q, hq⟩ := hasP_iff.1 hh
        rw [← ea, ← r.mine ha] at hq
        exact absurd hq (getA_none gf q)
    | some q =>
      have hs : (⟨c, f, q⟩ : Sb) ∈ S := by rw [← ea, ← r.mine ha]; exact getA_some gf
      have yes : hasP c f S = true := hasP_iff.2 ⟨q, hs⟩
      rw [yes] at hk
      have fo := r.ok _ hs
      have s1 : f.size ≤ 64 := (filter_one fo.1).2
      obtain ⟨rt, hr, rp, rbb⟩ := r.tre.root
      obtain ⟨m, hm, em, _⟩ := (r.has c (levS f) q).2 ⟨f, rfl, hs⟩
      have main : ∀ h3 a3 cp, SlV 1 a3 (levS f).length cp (strs (levS f)) → Own w0 h3 (slB a3 (strs (levS f)) (cp * 1) ++ D.own B) → EvC Go.Proofs.Tryd.prog w0 42 #[pV D.rb, .slice a3 (levS f).length cp, .string c] (fun x h' => x = .tuple #[] ∧ f23_7 w0 K (some ⟨D.tb, 0, none⟩) f c h') h3 := fun h3 a3 cp v w3 => by
        have w4 : Own w0 h3 (nds D.N ++ D.rest (slB a3 (strs (levS f)) (cp * 1) ++ B)) := w3.perm (by
          classical
          rw [List.perm_iff_count]; intro z
          simp only [TD.own, TD.rest, List.count_append, List.count_cons]
          omega)
        rw [← rbb]
        refine f42_spec (levS f) r.tre hr ⟨m, hm, by rw [em, rp]; rfl⟩ (RdS.own v) (fun z hz => List.mem_cons_of_mem _ (List.mem_cons_of_mem _ (List.mem_append_right _ (List.mem_append_left _ hz)))) w4 fun h5 N' t' _ hh w5 => ⟨rfl, ?_⟩
        refine f23_7s (D := { D with N := N' }) r.ak r.fk hA ea g w5 fun h6 A' ls w6 => hk h6 { D with N := N', A := A' } (r.gone t' (fun c' P q' => by rw [hh, rp]; rfl) ls.ak ls.fk ls.al) rfl ?_
        have := Own.cut (cs := nds N' ++ ((D.tb, .cells [pV D.rb, gV D.am] 2) :: (D.am, .map (mV gV (allV A'))) :: acs A')) (ds := slB a3 (strs (levS f)) (cp * 1)) (bs := B) (by simpa [TD.own, TD.rest] using w6)
        simpa [TD.own, TD.rest] using this
      refine brB_of (fun z => by cases z) fun _ => f23_6_in _ _ _ _ ⟨_, rfl, ⟨_, tb_root w, f27_spec (by omega) w fun h3 a3 cp v w3 => ⟨_, _, _, rfl, main h3 a3 cp v w3⟩⟩, f27_spec (by omega) w fun h3 a3 cp v w3 => ⟨_, _, _, rfl, _, ?_, main h3 a3 cp v w3⟩⟩
      exact w3.cell (List.mem_append_right _ (rest_in D).1) rfl
  · rw [g]
    refine mapNo (by kernel_rfl) ⟨0, rfl, brB_of (fun _ => no ?_) fun z => by cases z⟩
    cases hh : hasP c f S with
    | false => rfl
    | true =>
      obtain ⟨q, hq⟩ := hasP_iff.1 hh
      obtain ⟨a, ha, e, _⟩ := (r.al c f q).1 hq
      exact absurd e (none' a ha)
end
end Go.G.YtnmngjffebbbnaaDoor
