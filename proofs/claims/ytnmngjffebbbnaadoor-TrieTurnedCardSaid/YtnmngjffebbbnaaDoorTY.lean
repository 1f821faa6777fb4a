/- meet. -/
import Derived.Test.YtnmngjffebbbnaaDoorTX
import Derived.Test.YtnmngjffebbbnaaDoorProg
set_option maxRecDepth 100000
namespace Go.G.YtnmngjffebbbnaaDoor
open Go.RowKit
open Value (string slice int bool agg)
def f29_J : Nat → List Nat × Nat := jOf [(4, (3 :: (4 :: (5 :: (6 :: (rn 22 12 (rn 62 39 [])))))), 0), (5, (3 :: (4 :: (5 :: (6 :: (rn 62 53 []))))), 0), (9, (rn 7 5 (8 :: (9 :: (rn 41 30 (rn 62 20 []))))), 0), (10, (rn 7 5 (rn 62 54 [])), 0)]

def f29_4 (w0 : World) (K : Value → AH → Prop) (a b : Option Addr) (c d : Nat) (e : Bool) (g i : Addr) (k : Option Addr) (m : Bool) (h : AH) : Prop :=
  ∀ j : Nat → Value, LPk Proofs.Tryd.prog w0 (EvC Proofs.Tryd.prog w0) f29_J 29 K 4 (.v (.pointer a) :: (.v (.slice b c d) :: (.v (.bool e) :: (jv j 7 4 (.v (.pointer (some g)) :: (.v (.func (Fn.func 45) #[] #[(.pointer (some i))]) :: (.v (.pointer k) :: (jv j 22 12 (.v (.bool m) :: (jv j 62 39 [])))))))))) [] h

def f29_5 (w0 : World) (K : Value → AH → Prop) (a b : Option Addr) (c d : Nat) (e : Bool) (g i : Addr) (h : AH) : Prop :=
  ∀ j : Nat → Value, LPk Proofs.Tryd.prog w0 (EvC Proofs.Tryd.prog w0) f29_J 29 K 5 (.v (.pointer a) :: (.v (.slice b c d) :: (.v (.bool e) :: (jv j 7 4 (.v (.pointer (some g)) :: (.v (.func (Fn.func 45) #[] #[(.pointer (some i))]) :: (jv j 62 53 []))))))) [] h

def f29_9 (w0 : World) (K : Value → AH → Prop) (a b : Option Addr) (c d : Nat) (e : Addr) (g : Option Addr) (i : Bool) (h : AH) : Prop :=
  ∀ j : Nat → Value, LPk Proofs.Tryd.prog w0 (EvC Proofs.Tryd.prog w0) f29_J 29 K 9 (.v (.pointer a) :: (.v (.slice b c d) :: (jv j 7 5 (.v (.pointer (some e)) :: (jv j 10 2 (.v (.pointer g) :: (jv j 41 30 (.v (.bool i) :: (jv j 62 20 []))))))))) [] h

def f29_10 (w0 : World) (K : Value → AH → Prop) (a b : Option Addr) (c d : Nat) (e : Addr) (h : AH) : Prop :=
  ∀ j : Nat → Value, LPk Proofs.Tryd.prog w0 (EvC Proofs.Tryd.prog w0) f29_J 29 K 10 (.v (.pointer a) :: (.v (.slice b c d) :: (jv j 7 5 (.v (.pointer (some e)) :: (jv j 62 54 []))))) [] h

theorem f29_4_in {w0 : World} {K : Value → AH → Prop} (b c : Option Addr) (d e : Nat) (g : Bool) (i a : Addr) (k : Option Addr) (m : Bool) (h : AH)
  (hv : (brB m (EvC Proofs.Tryd.prog w0 45 #[(Value.pointer k), (Value.pointer (some a))] (fun n o => ((n = (Value.tuple #[])) ∧ (f29_5 w0 K b c d e g i a o))) h) (f29_5 w0 K b c d e g i a h))) :
  f29_4 w0 K b c d e g i a k m h := fun j => LP_intro (P := Proofs.Tryd.prog) (Eq.mp (by kernel_rfl) hv)

theorem f29_5_in {w0 : World} {K : Value → AH → Prop} (a d : Option Addr) (b e : Nat) (i : Bool) (g k : Addr) (h : AH)
  (hv : (brB (((b : Nat) : Int) == (0 : Int)) (EvC Proofs.Tryd.prog w0 45 #[(Value.pointer a), (Value.pointer (some k))] (fun o p => ((o = (Value.tuple #[])) ∧ (K (Value.tuple #[]) p))) h) (∃ m : Addr, ((a = (some m)) ∧ (∃ n : Option Nat, (((cellA w0 h (Addr.add m 1)) = (some (Value.map n))) ∧ ((true = true) ∧ (mapAt Proofs.Tryd.prog w0 h n 59 (fun q => (∃ c : Option Addr, (((Value.pointer c) = (Option.getD (getM (string (ByteArray.mk #[(43 : UInt8)])) q) (Value.pointer none))) ∧ (brB i (f29_9 w0 K a d b e g c (Option.isSome c) h) (f29_9 w0 K a d b e g c false h))))))))))))) :
  f29_5 w0 K a d b e i g k h := fun j => LP_intro (P := Proofs.Tryd.prog) (Eq.mp (by kernel_rfl) hv)

theorem f29_9_in {w0 : World} {K : Value → AH → Prop} (e c : Option Addr) (a b : Nat) (d : Addr) (g : Option Addr) (i : Bool) (h : AH)
  (hv : (brB i (((0 : Int) ≤ (1 : Int)) ∧ (((1 : Int) ≤ ((a : Nat) : Int)) ∧ (∃ k : Option Nat, (((cellA w0 h d) = (some (Value.map k))) ∧ (EvC Proofs.Tryd.prog w0 29 #[(Value.pointer g), (slice (cutA 1 c b 1) (a - 1) (b - 1)), (bool true), (Value.map k)] (fun m n => ((m = (Value.tuple #[])) ∧ (f29_10 w0 K e c a b d n))) h))))) (f29_10 w0 K e c a b d h))) :
  f29_9 w0 K e c a b d g i h := fun j => LP_intro (P := Proofs.Tryd.prog) (Eq.mp (by kernel_rfl) hv)

theorem f29_10_in {w0 : World} {K : Value → AH → Prop} (o c : Option Addr) (a b : Nat) (d : Addr) (h : AH)
  (hv : (∃ e : Addr, ((o = (some e)) ∧ (∃ g : Addr, ((c = (some g)) ∧ (((0 : Int) ≤ (0 : Int)) ∧ (((0 : Int) < ((a : Nat) : Int)) ∧ ((∃ p : Option Nat, (((cellA w0 h (Addr.add e 1)) = (some (Value.map p))) ∧ (∃ i : ByteArray, (((cellA w0 h (Addr.add g 0)) = (some (string i))) ∧ (((plainKey Proofs.Tryd.prog 59 (string i)) = true) ∧ (mapAt Proofs.Tryd.prog w0 h p 59 (fun t => (∃ k : Option Addr, (((Value.pointer k) = (Option.getD (getM (string i) t) (Value.pointer none))) ∧ (brB (Option.isSome k) (((0 : Int) ≤ (1 : Int)) ∧ (((1 : Int) ≤ ((a : Nat) : Int)) ∧ (∃ q : Option Nat, (((cellA w0 h d) = (some (Value.map q))) ∧ (EvC Proofs.Tryd.prog w0 29 #[(Value.pointer k), (slice (cutA 1 c b 1) (a - 1) (b - 1)), (bool true), (Value.map q)] (fun u v => ((u = (Value.tuple #[])) ∧ (K (Value.tuple #[]) v))) h))))) (K (Value.tuple #[]) h))))))))))) ∧ (∃ m : ByteArray, (((cellA w0 h (Addr.add g 0)) = (some (string m))) ∧ (∃ r : Option Nat, (((cellA w0 h (Addr.add e 1)) = (some (Value.map r))) ∧ (((plainKey Proofs.Tryd.prog 59 (string m)) = true) ∧ (mapAt Proofs.Tryd.prog w0 h r 59 (fun x => (∃ n : Option Addr, (((Value.pointer n) = (Option.getD (getM (string m) x) (Value.pointer none))) ∧ (brB (Option.isSome n) (((0 : Int) ≤ (1 : Int)) ∧ (((1 : Int) ≤ ((a : Nat) : Int)) ∧ (∃ s : Option Nat, (((cellA w0 h d) = (some (Value.map s))) ∧ (EvC Proofs.Tryd.prog w0 29 #[(Value.pointer n), (slice (cutA 1 c b 1) (a - 1) (b - 1)), (bool true), (Value.map s)] (fun y z => ((y = (Value.tuple #[])) ∧ (K (Value.tuple #[]) z))) h))))) (K (Value.tuple #[]) h))))))))))))))))))) :
  f29_10 w0 K o c a b d h := fun j => LP_intro (P := Proofs.Tryd.prog) (Eq.mp (by kernel_rfl) hv)

theorem f29_go {w0 : World} {K : Value → AH → Prop} (a g : Option Addr) (i k : Nat) (b : Bool) (m : Option Nat) (h : AH)
  (hv : (newB w0 h (AB.cells [(Value.map m)] (List.length [(Value.map m)])) (fun c d => (∃ n : Addr, ((a = (some n)) ∧ (∃ o : Option Nat, (((cellA w0 d (Addr.add n 1)) = (some (Value.map o))) ∧ ((true = true) ∧ (mapAt Proofs.Tryd.prog w0 d o 59 (fun p => (∃ e : Option Addr, (((Value.pointer e) = (Option.getD (getM (string (ByteArray.mk #[(35 : UInt8)])) p) (Value.pointer none))) ∧ (brB b (f29_4 w0 K a g i k b (Addr.mk c 0 none) (Addr.mk c 0 none) e (Option.isSome e) d) (f29_4 w0 K a g i k b (Addr.mk c 0 none) (Addr.mk c 0 none) e false d)))))))))))))) :
  EvC Proofs.Tryd.prog w0 29 ([(.pointer a), (.slice g i k), (.bool b), (.map m)]).toArray K h := EvC_intro (P := Proofs.Tryd.prog) f29_J (Eq.mp (by kernel_rfl) hv)
section
variable {w0 : World} {rb : Nat} {R : List (Nat × AB)} {N : List Nd}
/-- What stands under a path where these levels are met. -/
def Mt (N : List Nd) (P l : List ByteArray) (s : Bool) (c : ByteArray) (v : Int) : Prop := ∃ m ∈ N, (∃ q, m.p = P ++ q ∧ metP q l s = true) ∧ low m.here c v
def At1 (N : List Nd) (P : List ByteArray) (k c : ByteArray) (v : Int) : Prop := ∃ m ∈ N, m.p = P ++ [k] ∧ low m.here c v
theorem Mt.nil {n : Nd} (t : Tre N rb) (hn : n ∈ N) {s : Bool} {c : ByteArray} {v : Int} : Mt N n.p [] s c v ↔ (s = true ∧ At1 N n.p hashB c v) ∨ low n.here c v := by
  constructor
  · rintro ⟨m, hm, ⟨q, e, h⟩, hl⟩
    cases q with
    | nil =>
      rw [List.append_nil] at e
      have := t.one hm hn e
      subst this
      exact .inr hl
    | cons x q =>
      rw [metP] at h
      simp only [Bool.or_false, Bool.and_eq_true, decide_eq_true_eq, List.isEmpty_iff] at h
      obtain ⟨⟨h1, rfl⟩, rfl⟩ := h
      exact .inl ⟨h1, m, hm, e, hl⟩
  · rintro (⟨h1, m, hm, e, hl⟩ | hl)
    · exact ⟨m, hm, ⟨[hashB], e, by rw [metP, h1]; decide⟩, hl⟩
    · exact ⟨n, hn, ⟨[], (List.append_nil _).symm, rfl⟩, hl⟩
theorem Mt.cons {n : Nd} (t : Tre N rb) {s : Bool} {y : ByteArray} {l : List ByteArray} {c : ByteArray} {v : Int} : Mt N n.p (y :: l) s c v ↔ (s = true ∧ At1 N n.p hashB c v) ∨
    (s = true ∧ ∃ b ∈ N, b.p = n.p ++ [plusB] ∧ Mt N b.p l true c v) ∨ ∃ b ∈ N, b.p = n.p ++ [y] ∧ Mt N b.p l true c v := by
  constructor
  · rintro ⟨m, hm, ⟨q, e, h⟩, hl⟩
    cases q with
    | nil => cases h
    | cons x q =>
      rw [metP] at h
      simp only [Bool.or_eq_true, Bool.and_eq_true, decide_eq_true_eq, List.isEmpty_iff] at h
      obtain ⟨b, hb, eb⟩ := t.way q.length q (n.p ++ [x]) m rfl hm (by rw [e, List.append_assoc]; rfl)
      have mb : metP q l true = true → Mt N b.p l true c v := fun g => ⟨m, hm, ⟨q, by rw [e, eb, List.append_assoc]; rfl, g⟩, hl⟩
      rcases h with ⟨⟨h1, rfl⟩, rfl⟩ | ⟨⟨h1, rfl⟩ | rfl, h2⟩
      · exact .inl ⟨h1, m, hm, e, hl⟩
      · exact .inr (.inl ⟨h1, b, hb, eb, mb h2⟩)
      · exact .inr (.inr ⟨b, hb, eb, mb h2⟩)
  · have up : ∀ {b : Nd} {x : ByteArray}, b.p = n.p ++ [x] → ((s = true ∧ x = plusB) ∨ x = y) → Mt N b.p l true c v → Mt N n.p (y :: l) s c v := fun {b x} eb hx => by
      rintro ⟨m, hm, ⟨q, e, h⟩, hl⟩
      refine ⟨m, hm, ⟨x :: q, by rw [e, eb, List.append_assoc]; rfl, ?_⟩, hl⟩
      rw [metP]
      simp only [Bool.or_eq_true, Bool.and_eq_true, decide_eq_true_eq, List.isEmpty_iff]
      exact .inr ⟨hx, h⟩
    rintro (⟨h1, m, hm, e, hl⟩ | ⟨h1, b, hb, eb, g⟩ | ⟨b, hb, eb, g⟩)
    · refine ⟨m, hm, ⟨[hashB], e, ?_⟩, hl⟩
      rw [metP, h1]
      simp
    · exact up eb (.inl ⟨h1, rfl⟩) g
    · exact up eb (.inr rfl) g
theorem child {n : Nd} (t : Tre N rb) (hn : n ∈ N) (k : ByteArray) : (∃ m ∈ N, m.p = n.p ++ [k] ∧ getA k n.down = some m.b) ∨ (getA k n.down = none ∧ ∀ m ∈ N, m.p ≠ n.p ++ [k]) := by
  cases g : getA k n.down with
  | none => exact .inr ⟨rfl, t.none hn g⟩
  | some b =>
    obtain ⟨m, hm, e, eb⟩ := t.some hn g
    exact .inl ⟨m, hm, e, by rw [eb]⟩
theorem At1.of {n m : Nd} (t : Tre N rb) {k : ByteArray} (hm : m ∈ N) (e : m.p = n.p ++ [k]) {c : ByteArray} {v : Int} : At1 N n.p k c v ↔ low m.here c v := by
  constructor
  · rintro ⟨m2, h2, e2, g⟩
    have := t.one h2 hm (e2.trans e.symm)
    subst this; exact g
  · exact fun g => ⟨m, hm, e, g⟩
theorem f29_top (t : Tre N rb) {n : Nd} {l : List ByteArray} {s : Bool} {a : Option Addr} {c mo : Nat} {M : List (ByteArray × Int)} {B : List (Nat × AB)} {h : AH} {K : Value → AH → Prop} (hn : n ∈ N) (hM : (keys M).Nodup) (w : Own w0 h (nds N ++ (mB mo M :: B)))
    (five : ∀ cb M1 h1, (keys M1).Nodup → (∀ c v, low M1 c v ↔ low M c v ∨ (s = true ∧ At1 N n.p hashB c v)) → Own w0 h1 (nds N ++ (mB mo M1 :: cB cb mo :: B)) → f29_5 w0 K (some ⟨n.b, 0, none⟩) a l.length c s ⟨cb, 0, none⟩ ⟨cb, 0, none⟩ h1) :
    EvC Go.Proofs.Tryd.prog w0 29 #[.pointer (some ⟨n.b, 0, none⟩), .slice a l.length c, .bool s, .map (some mo)] K h := by
  refine f29_go _ _ _ _ _ _ _ fun cb hb hbn => ?_
  have w1 : Own w0 _ (nds N ++ (mB mo M :: cB cb mo :: B)) := (Own.new (o := .cells [gV mo] 1) w hb hbn).perm (by
    classical
    rw [List.perm_iff_count]; intro z
    simp only [List.count_append, List.count_cons, cB]; omega)
  refine ⟨_, rfl, _, nd_down w1 hn, rfl, map59 w1 (nd_in hn).2.2 ⟨_, pV_get.symm, ?_⟩⟩
  have skip : (s = false ∨ ∀ c v, ¬ At1 N n.p hashB c v) → ∀ x9, f29_4 w0 K (some ⟨n.b, 0, none⟩) a l.length c s ⟨cb, 0, none⟩ ⟨cb, 0, none⟩ x9 false (h.put cb (.cells [gV mo] 1)) := fun hz x9 =>
    f29_4_in _ _ _ _ _ _ _ _ _ _ (brB_of (fun z => by cases z) fun _ => five cb M _ hM (fun c v => ⟨.inl, fun g => by
      rcases g with g | ⟨g1, g2⟩
      · exact g
      · rcases hz with hz | hz
        · rw [hz] at g1; cases g1
        · exact absurd g2 (hz c v)⟩) w1)
  have hash : ByteArray.mk #[(35 : UInt8)] = hashB := rfl
  rcases child t hn hashB with ⟨m, hm, e, g⟩ | ⟨g, no⟩
  · rw [hash, g]
    refine brB_of (fun z => f29_4_in _ _ _ _ _ _ _ _ _ _ (brB_of (fun _ => f45_spec hm hM w1 fun h1 M1 n1 l1 w2 => ⟨rfl, five cb M1 h1 n1 (fun c v => ?_) w2⟩) fun y => by cases y)) fun z => skip (.inl z) _
    rw [l1, At1.of t hm e]
    simp [z]
  · rw [hash, g]
    have none' : ∀ c v, ¬ At1 N n.p hashB c v := fun c v => by rintro ⟨m, hm, e, _⟩; exact no m hm e
    exact brB_of (fun _ => skip (.inr none') _) fun _ => skip (.inr none') _
theorem f29_spec (t : Tre N rb) : ∀ (l : List ByteArray) {n : Nd} {s : Bool} {a : Option Addr} {c mo : Nat} {M : List (ByteArray × Int)} {B : List (Nat × AB)} {h : AH} {K : Value → AH → Prop}, n ∈ N → RdS w0 R a c l → R ⊆ B → (keys M).Nodup → Own w0 h (nds N ++ (mB mo M :: B)) →
    (∀ h' M', (keys M').Nodup → (∀ c v, low M' c v ↔ low M c v ∨ Mt N n.p l s c v) → Own w0 h' (nds N ++ (mB mo M' :: B)) → K (.tuple #[]) h') →
    EvC Go.Proofs.Tryd.prog w0 29 #[.pointer (some ⟨n.b, 0, none⟩), .slice a l.length c, .bool s, .map (some mo)] K h := fun l => by
  induction l with
  | nil =>
    intro n s a c mo M B h K hn r hs hM w hk
    refine f29_top (l := []) t hn hM w fun cb M1 h1 n1 l1 w1 => f29_5_in _ _ _ _ _ _ _ _ (brB_of (fun _ => f45_spec hn n1 w1 fun h2 M2 n2 l2 w2 => ⟨rfl, hk h2 M2 n2 (fun c v => by rw [l2, l1, or_assoc, Mt.nil t hn]) ?_⟩) fun z => absurd z (by decide))
    have := Own.cut (cs := nds N ++ [mB mo M2]) (ds := [cB cb mo]) (bs := B) (by simpa using w2)
    simpa using this
  | cons y l ih =>
    intro n s a c mo M B h K hn r hs hM w hk
    refine f29_top (l := y :: l) t hn hM w fun cb M1 h1 n1 l1 w1 => ?_
    have inC : ∀ M', cB cb mo ∈ nds N ++ (mB mo M' :: cB cb mo :: B) := fun M' => List.mem_append_right _ (List.mem_cons_of_mem _ (List.mem_cons_self ..))
    have hsC : R ⊆ cB cb mo :: B := fun z hz => List.mem_cons_of_mem _ (hs hz)
    have hsA : ∀ M', R ⊆ nds N ++ (mB mo M' :: cB cb mo :: B) := fun M' z hz => List.mem_append_right _ (List.mem_cons_of_mem _ (hsC hz))
    have p0 : (0 : Int) < (((y :: l).length : Nat) : Int) := by rw [List.length_cons]; omega
    have p1 : (1 : Int) ≤ (((y :: l).length : Nat) : Int) := by rw [List.length_cons]; omega
    have fin : ∀ h2 M2, (keys M2).Nodup → (∀ c v, low M2 c v ↔ low M c v ∨ Mt N n.p (y :: l) s c v) → Own w0 h2 (nds N ++ (mB mo M2 :: cB cb mo :: B)) → K (.tuple #[]) h2 := fun h2 M2 n2 l2 w2 => hk h2 M2 n2 l2 (by
      have := Own.cut (cs := nds N ++ [mB mo M2]) (ds := [cB cb mo]) (bs := B) (by simpa using w2)
      simpa using this)
    have ten : ∀ h2 M2, (keys M2).Nodup → (∀ c v, low M2 c v ↔ low M c v ∨ (s = true ∧ At1 N n.p hashB c v) ∨ (s = true ∧ ∃ b ∈ N, b.p = n.p ++ [plusB] ∧ Mt N b.p l true c v)) → Own w0 h2 (nds N ++ (mB mo M2 :: cB cb mo :: B)) →
        f29_10 w0 K (some ⟨n.b, 0, none⟩) a (y :: l).length c ⟨cb, 0, none⟩ h2 := fun h2 M2 n2 l2 w2 => by
      obtain ⟨ad, rfl, hx⟩ := str0 r w2 (hsA M2)
      have rest : brB (Option.isSome ((getA y n.down).map fun b => (⟨b, 0, none⟩ : Addr))) ((0 : Int) ≤ 1 ∧ (1 : Int) ≤ (((y :: l).length : Nat) : Int) ∧ ∃ p : Option Nat, cellA w0 h2 ⟨cb, 0, none⟩ = some (.map p) ∧
          EvC Go.Proofs.Tryd.prog w0 29 #[.pointer ((getA y n.down).map fun b => (⟨b, 0, none⟩ : Addr)), .slice (cutA 1 (some ad) c 1) ((y :: l).length - 1) (c - 1), .bool true, .map p] (fun x h25 => x = .tuple #[] ∧ K (.tuple #[]) h25) h2) (K (.tuple #[]) h2) := by
        rcases child t hn y with ⟨m, hm, e, g⟩ | ⟨g, no⟩
        · rw [g]
          refine brB_of (fun _ => ⟨by decide, p1, _, cell_at w2 (inC M2) rfl, ih hm r.tail hsC n2 w2 fun h3 M3 n3 l3 w3 => ⟨rfl, fin h3 M3 n3 (fun c v => ?_) w3⟩⟩) fun z => by cases z
          rw [l3, l2, Mt.cons t, or_assoc, or_assoc]
          have : (∃ b ∈ N, b.p = n.p ++ [y] ∧ Mt N b.p l true c v) ↔ Mt N m.p l true c v := by
            constructor
            · rintro ⟨b, hb, eb, mt⟩
              have := t.one hb hm (eb.trans e.symm)
              rw [← this]; exact mt
            · exact fun g => ⟨m, hm, e, g⟩
          rw [this]
        · rw [g]
          refine brB_of (fun z => by cases z) fun _ => fin h2 M2 n2 (fun c v => ?_) w2
          rw [l2, Mt.cons t]
          have : ¬ ∃ b ∈ N, b.p = n.p ++ [y] ∧ Mt N b.p l true c v := by rintro ⟨b, hb, eb, _⟩; exact no b hb eb
          simp only [this, or_false]
      exact f29_10_in _ _ _ _ _ _ ⟨_, rfl, _, rfl, by decide, p0, ⟨_, nd_down w2 hn, _, hx, pk59 _, map59 w2 (nd_in hn).2.2 ⟨_, pV_get.symm, rest⟩⟩, ⟨_, hx, _, nd_down w2 hn, pk59 _, map59 w2 (nd_in hn).2.2 ⟨_, pV_get.symm, rest⟩⟩⟩
    refine f29_5_in _ _ _ _ _ _ _ _ (brB_of (fun z => absurd z (by rw [List.length_cons]; simp <;> omega)) fun _ => ⟨_, rfl, _, nd_down w1 hn, rfl, map59 w1 (nd_in hn).2.2 ⟨_, pV_get.symm, ?_⟩⟩)
    have skip : (s = false ∨ ∀ m ∈ N, m.p ≠ n.p ++ [plusB]) → ∀ x10, f29_9 w0 K (some ⟨n.b, 0, none⟩) a (y :: l).length c ⟨cb, 0, none⟩ x10 false h1 := fun hz x10 =>
      f29_9_in _ _ _ _ _ _ _ _ (brB_of (fun z => by cases z) fun _ => ten h1 M1 n1 (fun c v => by
        rw [l1]
        constructor
        · rintro (g | g)
          · exact .inl g
          · exact .inr (.inl g)
        · rintro (g | g | ⟨g1, b, hb, eb, _⟩)
          · exact .inl g
          · exact .inr g
          · rcases hz with hz | hz
            · rw [hz] at g1; cases g1
            · exact absurd eb (hz b hb)) w1)
    have plus : ByteArray.mk #[(43 : UInt8)] = plusB := rfl
    rcases child t hn plusB with ⟨m, hm, e, g⟩ | ⟨g, no⟩
    · rw [plus, g]
      refine brB_of (fun z => f29_9_in _ _ _ _ _ _ _ _ (brB_of (fun _ => ⟨by decide, p1, _, cell_at w1 (inC M1) rfl, ih hm r.tail hsC n1 w1 fun h2 M2 n2 l2 w2 => ⟨rfl, ten h2 M2 n2 (fun c v => ?_) w2⟩⟩) fun y => by cases y)) fun z => skip (.inl z) _
      have : (∃ b ∈ N, b.p = n.p ++ [plusB] ∧ Mt N b.p l true c v) ↔ Mt N m.p l true c v := by
        constructor
        · rintro ⟨b, hb, eb, mt⟩
          have := t.one hb hm (eb.trans e.symm)
          rw [← this]; exact mt
        · exact fun g => ⟨m, hm, e, g⟩
      rw [l2, l1, this, or_assoc]
      simp [z]
    · rw [plus, g]
      exact brB_of (fun _ => skip (.inr no) _) fun _ => skip (.inr no) _
end
end Go.G.YtnmngjffebbbnaaDoor
