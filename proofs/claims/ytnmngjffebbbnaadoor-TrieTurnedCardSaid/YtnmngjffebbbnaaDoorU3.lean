/- Match, Drop, awake. -/
import Derived.Test.YtnmngjffebbbnaaDoorU2
import Derived.Test.YtnmngjffebbbnaaDoorTY
import Derived.Test.YtnmngjffebbbnaaDoorProg
set_option maxRecDepth 100000
namespace Go.G.YtnmngjffebbbnaaDoor
open Go.RowKit
open Value (string slice int bool agg)
def f14_J : Nat → List Nat × Nat := jOf [(2, (rn 15 13 (rn 46 30 [])), 0), (3, (rn 46 44 []), 0), (4, (2 :: (3 :: (4 :: (rn 46 40 [99999])))), 0), (6, (rn 5 5 (rn 46 39 [99999])), 0), (7, (rn 5 5 (rn 30 23 (rn 46 13 []))), 0)]

def f14_2 (w0 : World) (K : Value → AH → Prop) (a : Option Addr) (b : ByteArray) (c : Bool) (h : AH) : Prop :=
  ∀ j : Nat → Value, LPk Proofs.Tryd.prog w0 (EvC Proofs.Tryd.prog w0) f14_J 14 K 2 (.v (.pointer a) :: (.v (.string b) :: (jv j 15 13 (.v (.bool c) :: (jv j 46 30 []))))) [] h

def f14_3 (w0 : World) (K : Value → AH → Prop) (a : Option Addr) (b : ByteArray) (h : AH) : Prop :=
  ∀ j : Nat → Value, LPk Proofs.Tryd.prog w0 (EvC Proofs.Tryd.prog w0) f14_J 14 K 3 (.v (.pointer a) :: (.v (.string b) :: (jv j 46 44 []))) [] h

def f14_4 (w0 : World) (K : Value → AH → Prop) (a : Option Addr) (b : ByteArray) (c : Option Nat) (h : AH) : Prop :=
  ∀ j : Nat → Value, LPk Proofs.Tryd.prog w0 (EvC Proofs.Tryd.prog w0) f14_J 14 K 4 (.v (.pointer a) :: (.v (.string b) :: (jv j 5 3 (.v (.map c) :: (jv j 46 40 []))))) [] h

def f14_6 (w0 : World) (K : Value → AH → Prop) (a : Option Nat) (b : Option Addr) (c d : Nat) (h : AH) : Prop :=
  ∀ j : Nat → Value, LPk Proofs.Tryd.prog w0 (EvC Proofs.Tryd.prog w0) f14_J 14 K 6 (jv j 5 5 (.v (.map a) :: (.v (.slice b c d) :: (jv j 46 39 [])))) [] h

def f14_7 (w0 : World) (K : Value → AH → Prop) (a : Option Nat) (b : Option Addr) (c d : Nat) (e : Option Addr) (g i : Nat) (k m : Int) (h : AH) : Prop :=
  ∀ j : Nat → Value, LPk Proofs.Tryd.prog w0 (EvC Proofs.Tryd.prog w0) f14_J 14 K 7 (jv j 5 5 (.v (.map a) :: (.v (.slice b c d) :: (jv j 30 23 (.v (.slice e g i) :: (.v (.int .i64 k) :: (.v (.int .i64 m) :: (jv j 46 13 [])))))))) [] h

theorem f14_2_in {w0 : World} {K : Value → AH → Prop} (a : Option Addr) (b : ByteArray) (c : Bool) (h : AH)
  (hv : (brB c (K (slice none 0 0) h) (f14_3 w0 K a b h))) :
  f14_2 w0 K a b c h := fun j => LP_intro (P := Proofs.Tryd.prog) (Eq.mp (by kernel_rfl) hv)

theorem f14_3_in {w0 : World} {K : Value → AH → Prop} (a : Option Addr) (b : ByteArray) (h : AH)
  (hv : (newB w0 h (AB.map []) (fun c d => (f14_4 w0 K a b (some c) d)))) :
  f14_3 w0 K a b h := fun j => LP_intro (P := Proofs.Tryd.prog) (Eq.mp (by kernel_rfl) hv)

theorem f14_4_in {w0 : World} {K : Value → AH → Prop} (d : Option Addr) (a : ByteArray) (b : Option Nat) (h : AH)
  (hv : (∃ c : Addr, ((d = (some c)) ∧ (((0 : Int) ≤ (0 : Int)) ∧ (((0 : Int) < (((ByteArray.size a) : Nat) : Int)) ∧ ((∃ e : Option Addr, (((cellA w0 h (Addr.add c 0)) = (some (Value.pointer e))) ∧ (EvC Proofs.Tryd.prog w0 27 #[(string a)] (fun r s => (∃ g : Option Addr, (∃ i : Nat, (∃ k : Nat, ((r = (slice g i k)) ∧ (EvC Proofs.Tryd.prog w0 29 #[(Value.pointer e), (slice g i k), (bool ((byteAt a 0) != (36 : Int))), (Value.map b)] (fun t u => ((t = (Value.tuple #[])) ∧ (f14_6 w0 K b none 0 0 u))) s)))))) h))) ∧ (EvC Proofs.Tryd.prog w0 27 #[(string a)] (fun v m => (∃ n : Option Addr, (∃ o : Nat, (∃ p : Nat, ((v = (slice n o p)) ∧ (∃ q : Option Addr, (((cellA w0 m (Addr.add c 0)) = (some (Value.pointer q))) ∧ (EvC Proofs.Tryd.prog w0 29 #[(Value.pointer q), (slice n o p), (bool ((byteAt a 0) != (36 : Int))), (Value.map b)] (fun x y => ((x = (Value.tuple #[])) ∧ (f14_6 w0 K b none 0 0 y))) m)))))))) h))))))) :
  f14_4 w0 K d a b h := fun j => LP_intro (P := Proofs.Tryd.prog) (Eq.mp (by kernel_rfl) hv)

theorem f14_6_in {w0 : World} {K : Value → AH → Prop} (a : Option Nat) (c : Option Addr) (d e : Nat) (h : AH)
  (hv : (EvC Proofs.Tryd.prog w0 31 #[(Value.map a)] (fun m n => (∃ g : Go.Value, ((m = g) ∧ (EvC Proofs.Tryd.prog w0 30 #[g] (fun o p => (∃ i : Option Addr, (∃ b : Nat, (∃ k : Nat, ((o = (slice i b k)) ∧ (f14_7 w0 K a c d e i b k ((b : Nat) : Int) (0 : Int) p)))))) n)))) h)) :
  f14_6 w0 K a c d e h := fun j => LP_intro (P := Proofs.Tryd.prog) (Eq.mp (by kernel_rfl) hv)

theorem f14_7_in {w0 : World} {K : Value → AH → Prop} (d : Option Nat) (e : Option Addr) (b g : Nat) (i : Option Addr) (k n : Nat) (m a : Int) (h : AH)
  (hv : (brB (decide ((a < m))) (∃ o : Addr, ((i = (some o)) ∧ (((0 : Int) ≤ a) ∧ ((a < ((k : Nat) : Int)) ∧ (∃ c : ByteArray, (((cellA w0 h (Addr.add o ((Int.toNat a) * 1))) = (some (string c))) ∧ (((plainKey Proofs.Tryd.prog 58 (string c)) = true) ∧ (mapAt Proofs.Tryd.prog w0 h d 58 (fun q => (∃ p : Int, (((int .i64 p) = (Option.getD (getM (string c) q) (int .i64 (0 : Int)))) ∧ (App w0 h 2 24 e b g 1 [(string c), (int .i64 p)] (fun r s t => (f14_7 w0 K d r (b + 1) s i k n m (IntKind.wrap .i64 (a + (1 : Int))) t)))))))))))))) (K (slice e b g) h))) :
  f14_7 w0 K d e b g i k n m a h := fun j => LP_intro (P := Proofs.Tryd.prog) (Eq.mp (by kernel_rfl) hv)

theorem f14_go {w0 : World} {K : Value → AH → Prop} (a : Option Addr) (b : ByteArray) (h : AH)
  (hv : (brB (Option.isNone a) (f14_2 w0 K a b true h) (EvC Proofs.Tryd.prog w0 28 #[(string b)] (fun d e => (∃ c : Bool, ((d = (bool c)) ∧ (f14_2 w0 K a b (!c) e)))) h))) :
  EvC Proofs.Tryd.prog w0 14 ([(.pointer a), (.string b)]).toArray K h := EvC_intro (P := Proofs.Tryd.prog) f14_J (Eq.mp (by kernel_rfl) hv)
def f24_J : Nat → List Nat × Nat := jOf [(3, (2 :: (3 :: (4 :: (rn 11 5 (rn 25 11 []))))), 0)]

def f24_3 (w0 : World) (K : Value → AH → Prop) (a : Option Addr) (b : ByteArray) (c : Option Addr) (d e : Nat) (g : Option Addr) (i k : Nat) (m n : Int) (h : AH) : Prop :=
  ∀ j : Nat → Value, LPk Proofs.Tryd.prog w0 (EvC Proofs.Tryd.prog w0) f24_J 24 K 3 (.v (.pointer a) :: (.v (.string b) :: (jv j 5 3 (.v (.slice c d e) :: (jv j 11 5 (.v (.slice g i k) :: (.v (.int .i64 m) :: (.v (.int .i64 n) :: (jv j 25 11 []))))))))) [] h

theorem f24_3_in {w0 : World} {K : Value → AH → Prop} (b : Option Addr) (c : ByteArray) (m : Option Addr) (d n : Nat) (e : Option Addr) (g o : Nat) (i a : Int) (h : AH)
  (hv : (brB (decide ((a < i))) (∃ p : Addr, ((e = (some p)) ∧ (((0 : Int) ≤ a) ∧ ((a < ((g : Nat) : Int)) ∧ (∃ k : ByteArray, (∃ q : Int, ((((Array.size #[(string k), (int .i64 q)]) = 2) ∧ (At w0 h (Addr.add p ((Int.toNat a) * 2)) [(string k), (int .i64 q)])) ∧ (EvC Proofs.Tryd.prog w0 23 #[(Value.pointer b), (string k), (string c)] (fun r s => (∃ t : Bool, ((r = (bool t)) ∧ (f24_3 w0 K b c m d n e g o i (IntKind.wrap .i64 (a + (1 : Int))) s)))) h)))))))) (K (int .i64 ((d : Nat) : Int)) h))) :
  f24_3 w0 K b c m d n e g o i a h := fun j => LP_intro (P := Proofs.Tryd.prog) (Eq.mp (by kernel_rfl) hv)

theorem f24_go {w0 : World} {K : Value → AH → Prop} (b : Option Addr) (c : ByteArray) (h : AH)
  (hv : (EvC Proofs.Tryd.prog w0 21 #[(Value.pointer b), (string c)] (fun g i => (∃ d : Option Addr, (∃ a : Nat, (∃ e : Nat, ((g = (slice d a e)) ∧ (f24_3 w0 K b c d a e d a e ((a : Nat) : Int) (0 : Int) i)))))) h)) :
  EvC Proofs.Tryd.prog w0 24 ([(.pointer b), (.string c)]).toArray K h := EvC_intro (P := Proofs.Tryd.prog) f24_J (Eq.mp (by kernel_rfl) hv)
def f10_J : Nat → List Nat × Nat := jOf [(3, (0 :: (rn 11 9 (rn 31 19 []))), 0)]

def f10_3 (w0 : World) (K : Value → AH → Prop) (a : Option Addr) (b : Bool) (h : AH) : Prop :=
  ∀ j : Nat → Value, LPk Proofs.Tryd.prog w0 (EvC Proofs.Tryd.prog w0) f10_J 10 K 3 (jv j 1 1 (.v (.pointer a) :: (jv j 11 9 (.v (.bool b) :: (jv j 31 19 []))))) [] h

theorem f10_3_in {w0 : World} {K : Value → AH → Prop} (d : Option Addr) (e : Bool) (h : AH)
  (hv : (brB e (K (bool false) h) (EvC Proofs.Tryd.prog w0 14 #[(Value.pointer d), (string (ByteArray.mk #[(97 : UInt8), (47 : UInt8), (98 : UInt8)]))] (fun n a => (∃ c : Option Addr, (∃ b : Nat, (∃ o : Nat, ((n = (slice c b o)) ∧ (brB (((b : Nat) : Int) == (1 : Int)) (∃ g : Addr, ((c = (some g)) ∧ (((0 : Int) ≤ (0 : Int)) ∧ (((0 : Int) < ((b : Nat) : Int)) ∧ (∃ i : ByteArray, (((cellA w0 a (Addr.add (Addr.add g 0) 0)) = (some (string i))) ∧ (brB (decide ((i = (ByteArray.mk #[(120 : UInt8)])))) (∃ k : Addr, ((c = (some k)) ∧ (((0 : Int) ≤ (0 : Int)) ∧ (((0 : Int) < ((b : Nat) : Int)) ∧ (∃ m : Int, (((cellA w0 a (Addr.add (Addr.add k 0) 1)) = (some (int .i64 m))) ∧ (K (bool (m == (1 : Int))) a))))))) (K (bool false) a)))))))) (K (bool false) a))))))) h))) :
  f10_3 w0 K d e h := fun j => LP_intro (P := Proofs.Tryd.prog) (Eq.mp (by kernel_rfl) hv)

theorem f10_go {w0 : World} {K : Value → AH → Prop}  (h : AH)
  (hv : (EvC Proofs.Tryd.prog w0 9 #[] (fun e g => (∃ a : Option Addr, ((e = (Value.pointer a)) ∧ (EvC Proofs.Tryd.prog w0 11 #[(Value.pointer a), (string (ByteArray.mk #[(97 : UInt8), (47 : UInt8), (43 : UInt8)])), (string (ByteArray.mk #[(120 : UInt8)])), (int .i64 (1 : Int))] (fun i b => (∃ c : Bool, ((i = (bool c)) ∧ (brB (!c) (f10_3 w0 K a true b) (EvC Proofs.Tryd.prog w0 11 #[(Value.pointer a), (string (ByteArray.mk #[(97 : UInt8), (47 : UInt8), (35 : UInt8)])), (string (ByteArray.mk #[(120 : UInt8)])), (int .i64 (0 : Int))] (fun k m => (∃ d : Bool, ((k = (bool d)) ∧ (f10_3 w0 K a (!d) m)))) b))))) g)))) h)) :
  EvC Proofs.Tryd.prog w0 10 ([]).toArray K h := EvC_intro (P := Proofs.Tryd.prog) f10_J (Eq.mp (by kernel_rfl) hv)
/-! ### Match, Drop, awake -/
theorem flat_get {α : Type} {enc : α → List Value} {k : Nat} (hk : ∀ x, (enc x).length = k) : ∀ {l : List α} {i : Nat} {x : α}, l[i]? = some x → ∀ j y, (enc x)[j]? = some y → (l.flatMap enc)[i * k + j]? = some y
  | [], _, _, h, _, _, _ => by simp at h
  | z :: l, 0, x, h, j, y, hj => by
    simp at h; subst h
    rw [List.flatMap_cons, Nat.zero_mul, Nat.zero_add, List.getElem?_append_left (List.getElem?_eq_some_iff.1 hj).1]
    exact hj
  | z :: l, i + 1, x, h, j, y, hj => by
    have ih := flat_get hk (l := l) (i := i) (by simpa using h) j y hj
    rw [List.flatMap_cons, Nat.add_mul, Nat.one_mul, List.getElem?_append_right (by rw [hk]; omega), hk, show i * k + k + j - k = i * k + j by omega]
    exact ih
theorem rowLoad {w0 : World} {h : AH} {α : Type} {enc : α → List Value} {k : Nat} (hk : ∀ x, (enc x).length = k) (hk0 : 0 < k) {a : Option Addr} {l : List α} {i : Nat} {x : α} (hr : Rd w0 h a (l.flatMap enc)) (hi : l[i]? = some x) :
    ∃ ad, a = some ad ∧ At w0 h (Addr.add ad ((Int.toNat ((i : Nat) : Int)) * k)) (enc x) := by
  have hg := flat_get hk hi
  have h0 : ∃ y, (enc x)[0]? = some y := ⟨_, List.getElem?_eq_getElem (by rw [hk]; exact hk0)⟩
  obtain ⟨y0, h0⟩ := h0
  obtain ⟨ad, had, _⟩ := hr (i * k + 0) _ (hg 0 _ h0)
  refine ⟨ad, had, fun j y hj => ?_⟩
  obtain ⟨ad', had', hc⟩ := hr (i * k + j) _ (hg j _ hj)
  rw [had] at had'
  injection had' with had'
  subst had'
  rw [Int.toNat_natCast, Deep.add_add]; exact hc
section
variable {w0 : World} {K : Value → AH → Prop} {h : AH} {n c : ByteArray} {D : TD} {S : List Sb} {B : List (Nat × AB)}
theorem met_all (r : Rep S D) (hn : nameB n = true) (c : ByteArray) (v : Int) : Mt D.N [] (levS n) (!(decide (first n = some 36))) c v ↔ low (matchS n S) c v := by
  rw [matchS_low]
  constructor
  · rintro ⟨m, hm, ⟨q, e, hq⟩, p, hp, hv⟩
    rw [List.nil_append] at e
    obtain ⟨f, ef, hs⟩ := (r.has c m.p p).1 ⟨m, hm, rfl, hp⟩
    rw [← e, ef, met_match (r.ok _ hs).1 hn] at hq
    exact ⟨_, hs, rfl, hq, hv⟩
  · rintro ⟨s, hs, rfl, hq, hv⟩
    obtain ⟨m, hm, e, hp⟩ := (r.has s.c (levS s.f) s.q).2 ⟨s.f, rfl, hs⟩
    exact ⟨m, hm, ⟨levS s.f, by rw [e, List.nil_append], by rw [met_match (r.ok _ hs).1 hn]; exact hq⟩, s.q, hp, hv⟩
theorem mS_none {n : ByteArray} (hn : nameB n = false) : ∀ (l : List Sb) out, mS n out l = out
  | [], _ => rfl
  | s :: l, out => by
    have : ¬ matchB s.f n = true := by unfold matchB; rw [hn]; simp
    rw [mS, if_neg this, mS_none hn l out]
theorem mS_le (n : ByteArray) : ∀ (l : List Sb) out, (mS n out l).length ≤ out.length + l.length
  | [], out => by simp [mS]
  | s :: l, out => by
    rw [mS]
    split
    · have new := mS_le n l (out ++ [(s.c, s.q)])
      rw [List.length_append, List.length_singleton] at new
      split
      · split
        · rename_i e hg ec
          have eo := last_of hg
          have := mS_le n l (out.dropLast ++ [(e.1, max e.2 s.q)])
          have l1 : (out.dropLast ++ [(e.1, max e.2 s.q)]).length = out.length := by
            have := congrArg List.length eo
            rw [List.length_append, List.length_singleton] at this ⊢
            omega
          rw [List.length_cons]; omega
        · rw [List.length_cons]; omega
      · rw [List.length_cons]; omega
    · have := mS_le n l out
      rw [List.length_cons]; omega
theorem match_le (n : ByteArray) (S : List Sb) : (matchS n S).length ≤ S.length := by
  unfold matchS
  have := mS_le n S []
  simpa using this
theorem match_size (r : Rep S D) {x : ByteArray × Int} (h : x ∈ matchS n S) : x.1.size ≤ 64 := by
  obtain ⟨s, hs, e, _⟩ := matchS_low.1 (⟨x.2, h, Int.le_refl _⟩ : low (matchS n S) x.1 x.2)
  have hc := (r.ok s hs).2.1
  rw [e] at hc
  have := (sized_one hc).2
  omega
set_option maxHeartbeats 400000 in
/-- Match. -/
theorem f14_spec (T : TabOk w0) (r : Rep S D) (w : Own w0 h (D.own B)) (hS : S.length ≤ 1000000) (hk : ∀ h' a k, SlV 2 a (matchS n S).length k (prs (matchS n S)) → Own w0 h' (slB a (prs (matchS n S)) (k * 2) ++ D.own B) → K (.slice a (matchS n S).length k) h') :
    EvC Go.Proofs.Tryd.prog w0 14 #[.pointer (some ⟨D.tb, 0, none⟩), .string n] K h := by
  have le := match_le n S
  refine f14_go _ _ _ (brB_of (fun z => by cases z) fun _ => f28_spec T w fun h1 w1 => ⟨_, rfl, ?_⟩)
  cases hn : nameB n with
  | false =>
    have e0 : matchS n S = [] := mS_none hn S []
    rw [e0] at hk
    exact f14_2_in _ _ _ _ (brB_of (fun _ => hk h1 none 0 SlV.nil w1) fun z => by cases z)
  | true =>
    obtain ⟨n1, n2⟩ := name_one hn
    obtain ⟨rt, hr, rp, rbb⟩ := r.tre.root
    have sg : (byteAt n 0 != (36 : Int)) = !(decide (first n = some 36)) := by
      have := first_at (k := 36) (m := 36) n1 rfl
      unfold bne
      rw [this]
    refine f14_2_in _ _ _ _ (brB_of (fun z => by cases z) fun _ => f14_3_in _ _ _ fun mo hmo hmon => ?_)
    have w2 := Own.new (o := .map (mV iV [])) w1 hmo hmon
    -- behind meet
    have six : ∀ h3 M' lb, (keys M').Nodup → (∀ c v, low M' c v ↔ low [] c v ∨ Mt D.N rt.p (levS n) (!(decide (first n = some 36))) c v) → Own w0 h3 (nds D.N ++ (mB mo M' :: (lb ++ D.rest B))) → f14_6 w0 K (some mo) none 0 0 h3 := fun h3 M' lb nM hM w3 => by
      have lows : ∀ c v, low M' c v ↔ low (matchS n S) c v := fun c v => by
        rw [hM, rp, met_all r hn]
        constructor
        · rintro (⟨q, g, _⟩ | g)
          · cases g
          · exact g
        · exact .inr
      have so := matchS_so (n := n) r.so
      have mem := low_mem nM (so_nodup so) lows
      have nd : ∀ {l : List (ByteArray × Int)}, (keys l).Nodup → l.Nodup := fun {l} h => by
        unfold keys at h
        rw [List.nodup_iff_pairwise_ne, List.pairwise_map] at h
        exact h.imp fun {u v} huv e => huv (by rw [e])
      have pm : M'.Perm (matchS n S) := (List.perm_ext_iff_of_nodup (nd nM) (nd (so_nodup so))).2 mem
      refine f14_6_in _ _ _ _ _ (f31_spec fun b hb hbn => ⟨_, rfl, ?_⟩)
      have w4 := Own.new (o := .cells [.map (some mo)] 1) w3 hb hbn
      have inM : ∀ {X Y : List (Nat × AB)}, (mo, AB.map (mV iV M')) ∈ X ++ (nds D.N ++ (mB mo M' :: Y)) := fun {X Y} => List.mem_append_right _ (List.mem_append_right _ (List.mem_cons_self ..))
      have kp : ((mV iV M').map (·.1)).Perm ((keys (matchS n S)).map Value.string) := by
        have e1 : (mV iV M').map (·.1) = (keys M').map Value.string := by unfold mV keys; rw [List.map_map, List.map_map]; rfl
        rw [e1]
        exact (pm.map (·.1)).map _
      refine f30_spec (L := keys (matchS n S)) w4 (List.mem_cons_self ..) (inM (X := [_])) kp so (fun s hs => ?_) (by unfold keys; rw [List.length_map]; omega) fun a2 n2 h5 v5 w5 => ⟨_, _, _, rfl, ?_⟩
      · obtain ⟨x, hx, rfl⟩ := List.mem_map.1 hs
        exact match_size r hx
      have kl : (keys (matchS n S)).length = (matchS n S).length := List.length_map ..
      have loop : ∀ (k i : Nat), i + k = (matchS n S).length → ∀ (a6 : Option Addr) (n6 c6 : Nat) (h6 : AH), n6 = i → SlV 2 a6 n6 c6 (prs ((matchS n S).take i)) → Own w0 h6 (slB a6 (prs ((matchS n S).take i)) (c6 * 2) ++ (slB a2 (strs (keys (matchS n S))) (n2 * 1) ++ ((b, .cells [.map (some mo)] 1) :: (nds D.N ++ (mB mo M' :: (lb ++ D.rest B)))))) →
          f14_7 w0 K (some mo) a6 n6 c6 a2 (keys (matchS n S)).length n2 (((keys (matchS n S)).length : Nat) : Int) ((i : Nat) : Int) h6 := fun k => by
        induction k with
        | zero =>
          intro i hi a6 n6 c6 h6 en v6 w6
          rw [List.take_of_length_le (by omega)] at v6 w6
          have en : n6 = (matchS n S).length := by omega
          subst en
          refine f14_7_in _ _ _ _ _ _ _ _ _ _ (brB_of (fun z => by have := of_decide_eq_true z; omega) fun _ => hk h6 a6 c6 v6 ?_)
          have w7 : Own w0 h6 ((slB a2 (strs (keys (matchS n S))) (n2 * 1) ++ ((b, .cells [.map (some mo)] 1) :: mB mo M' :: lb)) ++ (slB a6 (prs (matchS n S)) (c6 * 2) ++ D.own B)) := w6.perm (by
            classical
            rw [List.perm_iff_count]; intro z
            simp only [TD.own, List.count_append, List.count_cons]
            omega)
          exact w7.drop
        | succ k ih =>
          intro i hi a6 n6 c6 h6 en v6 w6
          subst en
          have gi : (matchS n S)[n6]? = some ((matchS n S)[n6]'(by omega)) := List.getElem?_eq_getElem _
          have tk : (matchS n S).take (n6 + 1) = (matchS n S).take n6 ++ [(matchS n S)[n6]'(by omega)] := List.take_succ_eq_append_getElem (by omega)
          have nx := ih (n6 + 1) (by omega)
          rw [tk] at nx
          generalize (matchS n S)[n6]'(by omega) = e at gi nx
          have he : e ∈ M' := pm.mem_iff.2 (List.mem_of_getElem? gi)
          have ge : getA e.1 M' = some e.2 := (getA_mem nM).2 he
          have gk : (keys (matchS n S))[n6]? = some e.1 := by unfold keys; rw [List.getElem?_map, gi]; rfl
          obtain ⟨ad, had, hx⟩ := strLoad (v5.rd (cs := slB a6 (prs ((matchS n S).take n6)) (c6 * 2)) w6) gk
          have inM6 : (mo, AB.map (mV iV M')) ∈ slB a6 (prs ((matchS n S).take n6)) (c6 * 2) ++ (slB a2 (strs (keys (matchS n S))) (n2 * 1) ++ ((b, .cells [.map (some mo)] 1) :: (nds D.N ++ (mB mo M' :: (lb ++ D.rest B))))) :=
            List.mem_append_right _ (List.mem_append_right _ (List.mem_cons_of_mem _ (List.mem_append_right _ (List.mem_cons_self ..))))
          refine f14_7_in _ _ _ _ _ _ _ _ _ _ (brB_of (fun _ => ⟨ad, had, by omega, by omega, e.1, by rw [Int.toNat_natCast, Nat.mul_one]; exact hx, pk58 _, map58 w6 inM6 ⟨_, iV_get.symm, ?_⟩⟩) fun z => by have := of_decide_eq_false z; omega)
          rw [ge, wrapS (by omega)]
          refine App_slB (n := n6) (m := 1) (by' := 24) (ys := prC e) v6 w6 (by omega) (by omega) rfl (prC_cell e) fun a7 c7 h7 v7 w7 => ?_
          exact nx a7 (n6 + 1) c7 h7 rfl (by rw [prs_snoc]; exact v7) (by rw [prs_snoc]; exact w7)
      exact loop (matchS n S).length 0 (by omega) none 0 0 h5 rfl SlV.nil w5
    have meet : ∀ h3 a c, SlV 1 a (levS n).length c (strs (levS n)) → Own w0 h3 (slB a (strs (levS n)) (c * 1) ++ ((mo, .map (mV iV [])) :: D.own B)) → EvC Go.Proofs.Tryd.prog w0 29 #[pV D.rb, .slice a (levS n).length c, .bool (byteAt n 0 != (36 : Int)), .map (some mo)] (fun x h' => x = .tuple #[] ∧ f14_6 w0 K (some mo) none 0 0 h') h3 := fun h3 a c v w3 => by
      rw [← rbb, sg]
      have w4 : Own w0 h3 (nds D.N ++ (mB mo [] :: (slB a (strs (levS n)) (c * 1) ++ D.rest B))) := w3.perm (by
        classical
        rw [List.perm_iff_count]; intro z
        simp only [TD.own, mB, List.count_append, List.count_cons]
        omega)
      exact f29_spec r.tre (levS n) hr (RdS.own v) (List.subset_append_left ..) (show (keys ([] : List (ByteArray × Int))).Nodup from List.nodup_nil) w4 fun h5 M' nM hM w5 => ⟨rfl, six h5 M' _ nM hM w5⟩
    have root1 : ∀ {h3 : AH} {X : List (Nat × AB)}, Own w0 h3 (X ++ ((mo, .map (mV iV [])) :: D.own B)) → cellA w0 h3 (Addr.add ⟨D.tb, 0, none⟩ 0) = some (pV D.rb) := fun {h3 X} w3 => w3.cell (List.mem_append_right _ (List.mem_cons_of_mem _ (rest_in D).1)) rfl
    exact f14_4_in _ _ _ _ ⟨_, rfl, by decide, by omega, ⟨_, root1 (X := []) w2, f27_spec (by omega) w2 fun h3 a c v w3 => ⟨_, _, _, rfl, meet h3 a c v w3⟩⟩, f27_spec (by omega) w2 fun h3 a c v w3 => ⟨_, _, _, rfl, _, root1 w3, meet h3 a c v w3⟩⟩
/-- Drop. -/
theorem f24_spec (e : ByteArray) (r : Rep S D) (w : Own w0 h (D.own B)) (hS : S.length ≤ 1000000) (hk : ∀ h' D', Rep (withoutS c e false S) D' → D'.tb = D.tb → Own w0 h' (D'.own B) → K (.int .i64 (((listS c S).length : Nat) : Int)) h') :
    EvC Go.Proofs.Tryd.prog w0 24 #[.pointer (some ⟨D.tb, 0, none⟩), .string c] K h := by
  have le := listS_le c S
  refine f24_go _ _ _ (f21_spec r w hS fun h1 a k v w1 => ⟨_, _, _, rfl, ?_⟩)
  have loop : ∀ (j i : Nat), i + j = (listS c S).length → ∀ (S' : List Sb) (D' : TD) (h2 : AH), Rep S' D' → D'.tb = D.tb → (∀ x, x ∈ S' ↔ x ∈ S ∧ ¬ (x.c = c ∧ x.f ∈ keys ((listS c S).take i))) → Own w0 h2 (slB a (prs (listS c S)) (k * 2) ++ D'.own B) →
      f24_3 w0 K (some ⟨D.tb, 0, none⟩) c a (listS c S).length k a (listS c S).length k (((listS c S).length : Nat) : Int) ((i : Nat) : Int) h2 := fun j => by
    induction j with
    | zero =>
      intro i hi S' D' h2 r' et hm w2
      rw [List.take_of_length_le (by omega)] at hm
      refine f24_3_in _ _ _ _ _ _ _ _ _ _ _ (brB_of (fun z => by have := of_decide_eq_true z; omega) fun _ => hk h2 D' ?_ et w2.drop)
      have : S' = withoutS c e false S := subs_eq r'.so (withoutS_so r.so) fun x => by
        rw [hm, withoutS_mem]
        refine and_congr_right fun hx => not_congr ⟨fun a => ⟨a.1, fun z => by cases z⟩, fun a => ⟨a.1, ?_⟩⟩
        obtain ⟨xc, xf, xq⟩ := x
        have := a.1
        dsimp only at this
        subst this
        exact List.mem_map.2 ⟨(xf, xq), listS_mem.2 hx, rfl⟩
      rw [← this]; exact r'
    | succ j ih =>
      intro i hi S' D' h2 r' et hm w2
      have gi : (listS c S)[i]? = some ((listS c S)[i]'(by omega)) := List.getElem?_eq_getElem _
      have tk : (listS c S).take (i + 1) = (listS c S).take i ++ [(listS c S)[i]'(by omega)] := List.take_succ_eq_append_getElem (by omega)
      have nx := ih (i + 1) (by omega)
      rw [tk] at nx
      generalize (listS c S)[i]'(by omega) = x at gi nx
      obtain ⟨ad, had, hat⟩ := rowLoad (enc := prC) (k := 2) (fun _ => rfl) (by decide) (v.rd (cs := []) w2) gi
      have w3 : Own w0 h2 (D'.own (slB a (prs (listS c S)) (k * 2) ++ B)) := w2.perm (by
        classical
        rw [List.perm_iff_count]; intro z
        simp only [TD.own, TD.rest, List.count_append, List.count_cons]
        omega)
      refine f24_3_in _ _ _ _ _ _ _ _ _ _ _ (brB_of (fun _ => ⟨ad, had, by omega, by omega, x.1, x.2, ⟨rfl, hat⟩, ?_⟩) fun z => by have := of_decide_eq_false z; omega)
      rw [← et, wrapS (by omega)]
      refine f23_spec r' w3 fun h4 D4 r4 e4 w4 => ⟨_, rfl, ?_⟩
      rw [et]
      refine nx _ D4 h4 r4 (e4.trans et) (fun y => ?_) (w4.perm (by
        classical
        rw [List.perm_iff_count]; intro z
        simp only [TD.own, TD.rest, List.count_append, List.count_cons]
        omega))
      rw [withoutS_mem, hm]
      unfold keys
      rw [List.map_append, List.mem_append, List.map_cons, List.map_nil, List.mem_singleton]
      constructor
      · rintro ⟨⟨a1, a2⟩, a3⟩
        refine ⟨a1, ?_⟩
        rintro ⟨b1, b2 | b2⟩
        · exact a2 ⟨b1, b2⟩
        · exact a3 ⟨b1, fun _ => b2⟩
      · rintro ⟨a1, a2⟩
        exact ⟨⟨a1, fun b => a2 ⟨b.1, .inl b.2⟩⟩, fun b => a2 ⟨b.1, .inr (b.2 rfl)⟩⟩
  exact loop (listS c S).length 0 (by omega) S D h1 r rfl (fun x => by simp [keys]) w1
def aPlus : ByteArray := ⟨#[97, 47, 43]⟩
def aHash : ByteArray := ⟨#[97, 47, 35]⟩
def aB : ByteArray := ⟨#[97, 47, 98]⟩
def xB : ByteArray := ⟨#[120]⟩
theorem ok_plus : okP xB aPlus 1 = true := by kernel_rfl
theorem ok_hash : okP xB aHash 0 = true := by kernel_rfl
def awS : List Sb := addP xB aHash 0 (addP xB aPlus 1 [])
theorem aw_len : awS.length = 2 := by kernel_rfl
theorem aw_match : matchS aB awS = [(xB, 1)] := by kernel_rfl
/-- awake. -/
theorem f10_spec (T : TabOk w0) (w : Own w0 h B) (hk : ∀ h', K (.bool true) h') : EvC Go.Proofs.Tryd.prog w0 10 #[] K h := by
  refine f10_go _ (f9_spec w fun h1 D r w1 => ⟨_, rfl, f11_spec (f := aPlus) (c := xB) T r w1 fun h2 D2 r2 e2 w2 => ⟨_, rfl, ?_⟩⟩)
  rw [ok_plus, ← e2]
  refine brB_of (fun z => by cases z) fun _ => f11_spec (f := aHash) (c := xB) T r2 w2 fun h3 D3 r3 e3 w3 => ⟨_, rfl, ?_⟩
  rw [ok_hash, ← e3]
  refine f10_3_in _ _ _ (brB_of (fun z => by cases z) fun _ => f14_spec (n := aB) (S := awS) T r3 w3 (by rw [aw_len]; decide) fun h4 a k v w4 => ⟨_, _, _, rfl, ?_⟩)
  rw [aw_match] at v w4 ⊢
  have rd := v.rd (cs := []) w4
  obtain ⟨ad, had, h0⟩ := rd 0 (.string xB) rfl
  obtain ⟨ad2, had2, h1'⟩ := rd 1 (.int .i64 1) rfl
  rw [had] at had2
  injection had2 with had2
  subst had2
  refine brB_of (fun _ => ⟨ad, had, by decide, by decide, xB, by rw [add_mul]; exact h0, brB_of (fun _ => ⟨ad, had, by decide, by decide, 1, by rw [add_mul]; exact h1', hk h4⟩) fun z => absurd z (by decide)⟩) fun z => absurd z (by decide)
end
section
variable {w0 : World} {K : Value → AH → Prop} {h : AH} {f c : ByteArray} {q : Int}
theorem f11_nil (hk : K (.bool false) h) : EvC Go.Proofs.Tryd.prog w0 11 #[.pointer none, .string f, .string c, .int .i64 q] K h := f11_go _ _ _ _ _ (brB_of (fun _ => f11_2_in _ _ _ _ _ _ (brB_of (fun _ => hk) fun z => by cases z)) fun z => by cases z)
theorem f23_nil (hk : K (.bool false) h) : EvC Go.Proofs.Tryd.prog w0 23 #[.pointer none, .string f, .string c] K h := f23_go _ _ _ _ (brB_of (fun _ => hk) fun z => by cases z)
theorem f21_nil (hk : K (.slice none 0 0) h) : EvC Go.Proofs.Tryd.prog w0 21 #[.pointer none, .string c] K h := f21_go _ _ _ (brB_of (fun _ => hk) fun z => by cases z)
theorem f24_nil (hk : K (.int .i64 0) h) : EvC Go.Proofs.Tryd.prog w0 24 #[.pointer none, .string c] K h := f24_go _ _ _ (f21_nil ⟨_, _, _, rfl, f24_3_in _ _ _ _ _ _ _ _ _ _ _ (brB_of (fun z => absurd z (by decide)) fun _ => hk)⟩)
theorem f12_nil (hk : K (.int .i64 0) h) : EvC Go.Proofs.Tryd.prog w0 12 #[.pointer none] K h := f12_go _ _ (brB_of (fun _ => hk) fun z => by cases z)
theorem f14_nil (hk : K (.slice none 0 0) h) : EvC Go.Proofs.Tryd.prog w0 14 #[.pointer none, .string f] K h := f14_go _ _ _ (brB_of (fun _ => f14_2_in _ _ _ _ (brB_of (fun _ => hk) fun z => by cases z)) fun z => by cases z)
end
end Go.G.YtnmngjffebbbnaaDoor
