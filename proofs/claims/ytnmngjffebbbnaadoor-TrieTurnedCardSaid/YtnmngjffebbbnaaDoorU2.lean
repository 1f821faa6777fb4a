/- Len, List. -/
import Derived.Test.YtnmngjffebbbnaaDoorU1
import Derived.Test.YtnmngjffebbbnaaDoorTZ
import Derived.Test.YtnmngjffebbbnaaDoorProg
set_option maxRecDepth 100000
namespace Go.G.YtnmngjffebbbnaaDoor
open Go.RowKit
open Value (string slice int bool agg)
def f12_J : Nat → List Nat × Nat := jOf [(5, (0 :: (1 :: (2 :: (rn 12 8 (rn 22 9 []))))), 0)]

def f12_5 (w0 : World) (K : Value → AH → Prop) (a : Int) (b : Addr) (h : AH) : Prop :=
  ∀ j : Nat → Value, LPk Proofs.Tryd.prog w0 (EvC Proofs.Tryd.prog w0) f12_J 12 K 5 (jv j 3 3 (.v (.int .i64 a) :: (jv j 12 8 (.v (.pointer (some b)) :: (jv j 22 9 []))))) [] h

theorem f12_5_in {w0 : World} {K : Value → AH → Prop} (b : Int) (a : Addr) (h : AH)
  (hv : (nextM h a (fun n o c => (entryM c a (fun e g => (∃ i : Go.Value, (∃ d : Option Nat, ((entIs e g i (Value.map d)) ∧ (mapAt Proofs.Tryd.prog w0 c d 58 (fun k => (f12_5 w0 K (IntKind.wrap .i64 (b + (((List.length k) : Nat) : Int))) a c))))))))) (fun m => (K (int .i64 b) m)))) :
  f12_5 w0 K b a h := fun j => LP_intro (P := Proofs.Tryd.prog) (Eq.mp (by kernel_rfl) hv)

theorem f12_go {w0 : World} {K : Value → AH → Prop} (a : Option Addr) (h : AH)
  (hv : (brB (Option.isNone a) (K (int .i64 (0 : Int)) h) (∃ c : Addr, ((a = (some c)) ∧ (∃ b : Option Nat, (((cellA w0 h (Addr.add c 1)) = (some (Value.map b))) ∧ (rangeM h b (fun d => (newB w0 h (AB.mit b (List.range d) none) (fun e g => (f12_5 w0 K (0 : Int) (Addr.mk e 0 none) g))))))))))) :
  EvC Proofs.Tryd.prog w0 12 ([(.pointer a)]).toArray K h := EvC_intro (P := Proofs.Tryd.prog) f12_J (Eq.mp (by kernel_rfl) hv)
def f21_J : Nat → List Nat × Nat := jOf [(5, (2 :: (3 :: (4 :: (rn 17 11 (rn 38 18 []))))), 0)]

def f21_5 (w0 : World) (K : Value → AH → Prop) (a : Option Addr) (b : ByteArray) (c : Option Addr) (d e : Nat) (g : Option Addr) (i k : Nat) (m n : Int) (h : AH) : Prop :=
  ∀ j : Nat → Value, LPk Proofs.Tryd.prog w0 (EvC Proofs.Tryd.prog w0) f21_J 21 K 5 (.v (.pointer a) :: (.v (.string b) :: (jv j 5 3 (.v (.slice c d e) :: (jv j 17 11 (.v (.slice g i k) :: (.v (.int .i64 m) :: (.v (.int .i64 n) :: (jv j 38 18 []))))))))) [] h

theorem f21_5_in {w0 : World} {K : Value → AH → Prop} (e : Option Addr) (b : ByteArray) (g : Option Addr) (c i : Nat) (k : Option Addr) (m o : Nat) (n a : Int) (h : AH)
  (hv : (brB (decide ((a < n))) (∃ p : Addr, ((k = (some p)) ∧ (((0 : Int) ≤ a) ∧ ((a < ((m : Nat) : Int)) ∧ (∃ d : ByteArray, (((cellA w0 h (Addr.add p ((Int.toNat a) * 1))) = (some (string d))) ∧ (∃ q : Addr, ((e = (some q)) ∧ (∃ r : Option Nat, (((cellA w0 h (Addr.add q 1)) = (some (Value.map r))) ∧ (((plainKey Proofs.Tryd.prog 53 (string b)) = true) ∧ (mapAt Proofs.Tryd.prog w0 h r 53 (fun u => (∃ s : Option Nat, (((Value.map s) = (Option.getD (getM (string b) u) (Value.map none))) ∧ (((plainKey Proofs.Tryd.prog 58 (string d)) = true) ∧ (mapAt Proofs.Tryd.prog w0 h s 58 (fun v => (∃ t : Int, (((int .i64 t) = (Option.getD (getM (string d) v) (int .i64 (0 : Int)))) ∧ (App w0 h 2 24 g c i 1 [(string d), (int .i64 t)] (fun x y z => (f21_5 w0 K e b x (c + 1) y k m o n (IntKind.wrap .i64 (a + (1 : Int))) z))))))))))))))))))))))) (K (slice g c i) h))) :
  f21_5 w0 K e b g c i k m o n a h := fun j => LP_intro (P := Proofs.Tryd.prog) (Eq.mp (by kernel_rfl) hv)

theorem f21_go {w0 : World} {K : Value → AH → Prop} (a : Option Addr) (b : ByteArray) (h : AH)
  (hv : (brB (Option.isNone a) (K (slice none 0 0) h) (∃ d : Addr, ((a = (some d)) ∧ (∃ e : Option Nat, (((cellA w0 h (Addr.add d 1)) = (some (Value.map e))) ∧ (((plainKey Proofs.Tryd.prog 53 (string b)) = true) ∧ (mapAt Proofs.Tryd.prog w0 h e 53 (fun n => (∃ g : Option Nat, (((Value.map g) = (Option.getD (getM (string b) n) (Value.map none))) ∧ (EvC Proofs.Tryd.prog w0 31 #[(Value.map g)] (fun o p => (∃ i : Go.Value, ((o = i) ∧ (EvC Proofs.Tryd.prog w0 30 #[i] (fun q r => (∃ k : Option Addr, (∃ c : Nat, (∃ m : Nat, ((q = (slice k c m)) ∧ (f21_5 w0 K a b none 0 0 k c m ((c : Nat) : Int) (0 : Int) r)))))) p)))) h)))))))))))) :
  EvC Proofs.Tryd.prog w0 21 ([(.pointer a), (.string b)]).toArray K h := EvC_intro (P := Proofs.Tryd.prog) f21_J (Eq.mp (by kernel_rfl) hv)
/-! ### Len, List, Match, Drop -/
theorem sum_erase {α : Type} [BEq α] [LawfulBEq α] (g : α → Nat) {i : α} : ∀ {l : List α}, i ∈ l → (l.map g).sum = g i + ((l.erase i).map g).sum
  | [], h => by cases h
  | x :: l, h => by
    rw [List.erase_cons]
    split
    · rename_i q
      have : x = i := by simpa using q
      subst this; simp
    · rename_i q
      have : x ≠ i := by simpa using q
      have hm : i ∈ l := by rcases List.mem_cons.1 h with e | e; exact absurd e.symm this; exact e
      simp only [List.map_cons, List.sum_cons, sum_erase g hm]; omega
theorem range_sum {α : Type} (f : α → Nat) (l : List α) : ((List.range l.length).map fun i => ((l[i]?).map f).getD 0) = l.map f := by
  apply List.ext_getElem (by simp)
  intro i h1 h2
  simp at h1
  simp [h1]
section
variable {w0 : World} {K : Value → AH → Prop} {h : AH} {f c : ByteArray} {D : TD} {S : List Sb} {B : List (Nat × AB)}
theorem own_ne {L : List (Nat × AB)} {b : Nat} (w : Own w0 h L) (hb : h b = none) : ∀ p ∈ L, p.1 ≠ b := fun p hp e => by
  have := (w.is p hp).2
  rw [e, hb] at this; cases this
/-- Len. -/
theorem f12_spec (r : Rep S D) (w : Own w0 h (D.own B)) (hS : S.length ≤ 1000000) (hk : ∀ h', Own w0 h' (D.own B) → K (.int .i64 ((S.length : Nat) : Int)) h') : EvC Go.Proofs.Tryd.prog w0 12 #[.pointer (some ⟨D.tb, 0, none⟩)] K h := by
  have inA : (D.am, AB.map (mV gV (allV D.A))) ∈ D.own B := (rest_in D).2.1
  refine f12_go _ _ (brB_of (fun z => by cases z) fun _ => ⟨_, rfl, _, tb_all w, fun z => (by cases z), fun q hq => ?_⟩)
  injection hq with hq
  subst hq
  refine ⟨_, (w.mem inA).2, fun b hb hbn => ?_⟩
  have hne := own_ne w hbn
  have loop : ∀ (k : Nat) (left : List Nat) (cur : Option Nat) (acc : Nat) (h' : AH), left.length = k → (∀ i ∈ left, i < D.A.length) → acc + (left.map fun i => ((D.A[i]?).map fun a => a.fs.length).getD 0).sum = S.length →
      Own w0 h' (D.own B) → h' b = some (.mit (some D.am) left cur) → f12_5 w0 K ((acc : Nat) : Int) ⟨b, 0, none⟩ h' := by
    intro k
    induction k with
    | zero =>
      intro left cur acc h' hl hi he w' hb'
      have hn := List.eq_nil_of_length_eq_zero hl
      subst hn
      refine f12_5_in _ _ _ ⟨_, _, _, rfl, hb', fun _ => ?_, fun q hq => ⟨_, by injection hq with hq; subst hq; exact (w'.mem inA).2, fun i k x hi => by cases hi⟩⟩
      simp at he
      subst he
      exact hk h' w'
    | succ k ih =>
      intro left cur acc h' hl hi he w' hb'
      refine f12_5_in _ _ _ ⟨_, _, _, rfl, hb', fun q => (by rw [q] at hl; cases hl), fun q hq => ⟨_, by injection hq with hq; subst hq; exact (w'.mem inA).2, fun i kk x hil hx => ?_⟩⟩
      have hei : i < D.A.length := hi i hil
      have hge := List.getElem?_eq_getElem hei
      generalize D.A[i] = a at hge
      have ha : a ∈ D.A := List.mem_of_getElem? hge
      have w2 : Own w0 (h'.put b (.mit (some D.am) (left.erase i) (some i))) (D.own B) := w'.other hne
      refine ⟨_, _, _, _, rfl, put_same _ _ _, (w2.mem inA).2, .string a.c, some a.mb, ?_, map58 w2 ((rest_in D).2.2 a ha) ?_⟩
      · unfold entIs mV allV
        rw [List.map_map, List.getElem?_map, hge]; rfl
      rw [sum_erase _ hil, hge] at he
      simp only [Option.map_some, Option.getD_some] at he
      rw [mV_length, show ((acc : Nat) : Int) + ((a.fs.length : Nat) : Int) = ((acc + a.fs.length : Nat) : Int) by omega, wrap64 (by omega) (by omega)]
      exact ih _ (some i) _ _ (by rw [List.length_erase_of_mem hil]; omega) (fun j hj => hi j (List.mem_of_mem_erase hj)) (by omega) w2 (put_same _ _ _)
  have lenA : (mV gV (allV D.A)).length = D.A.length := by rw [mV_length]; unfold allV; rw [List.length_map]
  refine loop _ _ none 0 _ rfl (fun i hi => ?_) ?_ (w.past hbn) (put_same _ _ _)
  · rw [lenA] at hi; exact List.mem_range.1 hi
  · rw [lenA, range_sum, Nat.zero_add, r.count]
def prC (e : ByteArray × Int) : List Value := [.string e.1, .int .i64 e.2]
def prs (l : List (ByteArray × Int)) : List Value := l.flatMap prC
theorem prs_length (l : List (ByteArray × Int)) : (prs l).length = l.length * 2 := by
  induction l with
  | nil => rfl
  | cons e l ih => unfold prs at ih ⊢; rw [List.flatMap_cons, List.length_append, ih, List.length_cons]; show 2 + _ = _; omega
theorem prC_cell (e : ByteArray × Int) : ∀ y ∈ prC e, y.oneCell' = true := fun y hy => by
  simp [prC] at hy; rcases hy with rfl | rfl <;> rfl
theorem prs_snoc (l : List (ByteArray × Int)) (e : ByteArray × Int) : prs (l ++ [e]) = prs l ++ prC e := by simp [prs]
/-- A list of pairs is made, from the keys and what a map has of them. -/
theorem mem_fs (r : Rep S D) {a : Ac} (ha : a ∈ D.A) : a.fs.Perm (listS a.c S) := by
  have nd : ∀ {l : List (ByteArray × Int)}, (keys l).Nodup → l.Nodup := fun {l} h => by
    unfold keys at h
    rw [List.nodup_iff_pairwise_ne, List.pairwise_map] at h
    exact h.imp fun {u v} huv e => huv (by rw [e])
  refine (List.perm_ext_iff_of_nodup (nd (r.fk a ha)) (nd (so_nodup (listS_so r.so)))).2 fun x => ?_
  obtain ⟨xf, xq⟩ := x
  rw [listS_mem, r.mine ha]
theorem listS_none (r : Rep S D) (h : ∀ a ∈ D.A, a.c ≠ c) : listS c S = [] := by
  rw [List.eq_nil_iff_forall_not_mem]
  rintro ⟨xf, xq⟩ hx
  obtain ⟨a, ha, e, _⟩ := (r.al c xf xq).1 (listS_mem.1 hx)
  exact h a ha e
theorem listS_size (r : Rep S D) {x : ByteArray × Int} (h : x ∈ listS c S) : x.1.size ≤ 64 := (filter_one (r.ok _ (listS_mem (f := x.1) (q := x.2).1 h)).1).2
theorem listS_le (c : ByteArray) (S : List Sb) : (listS c S).length ≤ S.length := by unfold listS; rw [List.length_map]; exact List.length_filter_le ..
/-- List. -/
theorem f21_spec (r : Rep S D) (w : Own w0 h (D.own B)) (hS : S.length ≤ 1000000) (hk : ∀ h' a n, SlV 2 a (listS c S).length n (prs (listS c S)) → Own w0 h' (slB a (prs (listS c S)) (n * 2) ++ D.own B) → K (.slice a (listS c S).length n) h') :
    EvC Go.Proofs.Tryd.prog w0 21 #[.pointer (some ⟨D.tb, 0, none⟩), .string c] K h := by
  have le := listS_le c S
  refine f21_go _ _ _ (brB_of (fun z => by cases z) fun _ => ⟨_, rfl, _, tb_all w, pk53 _, map53 w (rest_in D).2.1 ⟨_, gV_get.symm, ?_⟩⟩)
  rcases findA D.A c with ⟨A1, a, A2, hA, ea, g⟩ | ⟨g, no⟩
  · have ha : a ∈ D.A := by rw [hA]; exact List.mem_append_right _ (List.mem_cons_self ..)
    have pm := mem_fs r ha
    rw [ea] at pm
    rw [g]
    refine f31_spec fun b hb hbn => ⟨_, rfl, ?_⟩
    have w1 := Own.new (o := .cells [.map (some a.mb)] 1) w hb hbn
    have ina : (a.mb, AB.map (mV iV a.fs)) ∈ (b, AB.cells [.map (some a.mb)] 1) :: D.own B := List.mem_cons_of_mem _ ((rest_in D).2.2 a ha)
    have kp : ((mV iV a.fs).map (·.1)).Perm ((keys (listS c S)).map Value.string) := by
      have e1 : (mV iV a.fs).map (·.1) = (keys a.fs).map Value.string := by unfold mV keys; rw [List.map_map, List.map_map]; rfl
      rw [e1]
      exact (pm.map (·.1)).map _
    refine f30_spec (L := keys (listS c S)) w1 (List.mem_cons_self ..) ina kp (listS_so r.so) (fun s hs => ?_) (by unfold keys; rw [List.length_map]; omega) fun a2 n2 h2 v2 w2 => ⟨_, _, _, rfl, ?_⟩
    · obtain ⟨x, hx, rfl⟩ := List.mem_map.1 hs
      exact listS_size r hx
    have kl : (keys (listS c S)).length = (listS c S).length := List.length_map ..
    have loop : ∀ (k i : Nat), i + k = (listS c S).length → ∀ (a5 : Option Addr) (n c5 : Nat) (h5 : AH), n = i → SlV 2 a5 n c5 (prs ((listS c S).take i)) → Own w0 h5 (slB a5 (prs ((listS c S).take i)) (c5 * 2) ++ (slB a2 (strs (keys (listS c S))) (n2 * 1) ++ ((b, .cells [.map (some a.mb)] 1) :: D.own B))) →
        f21_5 w0 K (some ⟨D.tb, 0, none⟩) c a5 n c5 a2 (keys (listS c S)).length n2 (((keys (listS c S)).length : Nat) : Int) ((i : Nat) : Int) h5 := fun k => by
      induction k with
      | zero =>
        intro i hi a5 n c5 h5 en v5 w5
        rw [List.take_of_length_le (by omega)] at v5 w5
        have en : n = (listS c S).length := by omega
        subst en
        refine f21_5_in _ _ _ _ _ _ _ _ _ _ _ (brB_of (fun z => by have := of_decide_eq_true z; omega) fun _ => hk h5 a5 c5 v5 ?_)
        have w6 : Own w0 h5 (slB a5 (prs (listS c S)) (c5 * 2) ++ ((slB a2 (strs (keys (listS c S))) (n2 * 1) ++ [(b, .cells [.map (some a.mb)] 1)]) ++ D.own B)) := by simpa using w5
        exact w6.cut
      | succ k ih =>
        intro i hi a5 n c5 h5 en v5 w5
        subst en
        have gi : (listS c S)[n]? = some ((listS c S)[n]'(by omega)) := List.getElem?_eq_getElem _
        have tk : (listS c S).take (n + 1) = (listS c S).take n ++ [(listS c S)[n]'(by omega)] := List.take_succ_eq_append_getElem (by omega)
        have nx := ih (n + 1) (by omega)
        rw [tk] at nx
        generalize (listS c S)[n]'(by omega) = e at gi nx
        have he : e ∈ a.fs := pm.mem_iff.2 (List.mem_of_getElem? gi)
        have ge : getA e.1 a.fs = some e.2 := (getA_mem (r.fk a ha)).2 he
        have gk : (keys (listS c S))[n]? = some e.1 := by unfold keys; rw [List.getElem?_map, gi]; rfl
        obtain ⟨ad, had, hx⟩ := strLoad (v2.rd (cs := slB a5 (prs ((listS c S).take n)) (c5 * 2)) w5) gk
        have w6 : Own w0 h5 ((slB a5 (prs ((listS c S).take n)) (c5 * 2) ++ (slB a2 (strs (keys (listS c S))) (n2 * 1) ++ ((b, .cells [.map (some a.mb)] 1) :: nds D.N))) ++ D.rest B) := by simpa [TD.own] using w5
        refine f21_5_in _ _ _ _ _ _ _ _ _ _ _ (brB_of (fun _ => ⟨ad, had, by omega, by omega, e.1, by rw [Int.toNat_natCast, Nat.mul_one]; exact hx, _, rfl, _, tb_all w6, pk53 _, map53 w6 (rest_in D).2.1 ⟨_, gV_get.symm, pk58 _, ?_⟩⟩) fun z => by have := of_decide_eq_false z; omega)
        rw [g]
        refine map58 w6 ((rest_in D).2.2 a ha) ⟨_, iV_get.symm, ?_⟩
        rw [ge, wrapS (by omega)]
        refine App_slB (n := n) (m := 1) (by' := 24) (ys := prC e) v5 w5 (by omega) (by omega) rfl (prC_cell e) fun a7 c7 h7 v7 w7 => ?_
        exact nx a7 (n + 1) c7 h7 rfl (by rw [prs_snoc]; exact v7) (by rw [prs_snoc]; exact w7)
    exact loop (listS c S).length 0 (by omega) none 0 0 h2 rfl SlV.nil w2
  · rw [g]
    have le0 := listS_none r no
    rw [le0] at hk
    refine f31_none fun b hb hbn => ⟨_, rfl, ?_⟩
    have w1 := Own.new (o := .cells [.map none] 1) w hb hbn
    refine f30_none w1 (List.mem_cons_self ..) ⟨_, _, _, rfl, f21_5_in _ _ _ _ _ _ _ _ _ _ _ (brB_of (fun z => by cases z) fun _ => hk _ none 0 SlV.nil w1.tail)⟩
end
end Go.G.YtnmngjffebbbnaaDoor
