/- Levels' specs. -/
import Derived.Test.YtnmngjffebbbnaaDoorTH0
import Derived.Test.YtnmngjffebbbnaaDoorProg
set_option maxRecDepth 100000
namespace Go.G.YtnmngjffebbbnaaDoor
open Go.RowKit
open Value (string slice int bool agg)
theorem extr_list (s : ByteArray) (a b : Nat) : (s.extract a b).data.toList = (s.data.toList.drop a).take (b - a) := by
  rw [ByteArray.data_extract, Array.toList_extract, List.extract_eq_take_drop]
theorem extr (s : ByteArray) (a b : Nat) : s.extract a b = toB ((s.data.toList.drop a).take (b - a)) := by rw [← extr_list, toB_data]
/-- strings.Index of a stroke. -/
theorem f69_spec {w0 : World} {K : Value → AH → Prop} {h : AH} {s : ByteArray} (hk : K (.int .i64 (Lib.indexByte s.data.toList 47)) h) : EvC Go.Proofs.Tryd.prog w0 69 #[.string s, .string ⟨#[47]⟩] K h := by
  refine f69_go _ _ _ (f91_go _ _ _ (f91_3_in _ _ _ _ _ (brB_of (fun q => ⟨_, rfl, ?_⟩) fun _ => brB_of (fun _ => ⟨by decide, by decide, ?_⟩) fun q => absurd q (by decide))))
  · have e : (⟨#[47]⟩ : ByteArray) = s := of_decide_eq_true q
    subst e
    exact hk
  · refine f98_go _ _ _ ⟨_, fun w hw => ?_, _, rfl, _, rfl, _, rfl, hk⟩
    have he : Extern.find Go.Proofs.Tryd.f102 = some Extern.BytealgIndexByte.indexByte := by kernel_rfl
    rw [run_callFunc_extern Go.Proofs.Tryd.func102 (by kernel_rfl) (by kernel_rfl) (by kernel_rfl) he, show byteAt ⟨#[47]⟩ 0 = 47 from rfl, Lib.run_indexByteString]
    rfl
theorem strs_append (x y : List ByteArray) : strs (x ++ y) = strs x ++ strs y := by simp [strs]
theorem set_next {x : List Value} {k : Nat} {v z : Value} : setCells (x ++ replF (k + 1) [z]) x.length [v] = (x ++ [v]) ++ replF k [z] := by
  show (x ++ replF (k + 1) [z]).set x.length v = _
  rw [List.set_append_right _ _ (Nat.le_refl _), Nat.sub_self]
  simp [replF]
theorem replF_length (k : Nat) (z : Value) : (replF k [z]).length = k := by
  induction k with
  | zero => rfl
  | succ k ih => simp [replF, ih]
/-- Split at strokes. -/
theorem f56_spec {w0 : World} {K : Value → AH → Prop} {h : AH} {B : List (Nat × AB)} {s : ByteArray} (hs : s.size ≤ 1000000000000) (w : Own w0 h B)
    (hk : ∀ h' a c, SlV 1 a (levS s).length c (strs (levS s)) → Own w0 h' (slB a (strs (levS s)) (c * 1) ++ B) → K (.slice a (levS s).length c) h') :
    EvC Go.Proofs.Tryd.prog w0 56 #[.string s, .string ⟨#[47]⟩, .int .i64 0, .int .i64 (-1)] K h := by
  have hcnt : s.data.toList.count 47 ≤ s.size := by have := List.count_le_length (a := (47 : UInt8)) (l := s.data.toList); rw [slen] at this; exact this
  have hlev : (levS s).length = s.data.toList.count 47 + 1 := by unfold levS; rw [List.length_map, splitL_length]
  generalize hn : s.data.toList.count 47 = n at hcnt hlev
  refine f56_go _ _ _ _ _ (f68_spec ⟨_, rfl, ?_⟩)
  rw [hn, wrapS (by omega)]
  have hmin : (if IntKind.i64.wrap (((s.size : Nat) : Int) + 1) < ((n + 1 : Nat) : Int) then IntKind.i64.wrap (((s.size : Nat) : Int) + 1) else ((n + 1 : Nat) : Int)) = ((n + 1 : Nat) : Int) := by
    rw [wrapS (by omega), if_neg (by omega)]
  refine f56_7_in _ _ _ _ _ ?_
  rw [hmin]
  refine ⟨by omega, by omega, by omega, by omega, rfl, fun b hb hbn => ?_⟩
  rw [Int.toNat_natCast]
  have hdec : IntKind.i64.wrap (((n + 1 : Nat) : Int) - 1) = ((n : Nat) : Int) := by rw [wrap64 (by omega) (by omega)]; omega
  rw [hdec]
  have w1 := w.new hb hbn (o := .cells (replF (n + 1) [.string ⟨#[]⟩]) ((n + 1) * 1))
  have loop : ∀ (k i : Nat) (out : List ByteArray) (rem : ByteArray) (h1 : AH), i + k = n → out.length = i → levS s = out ++ levS rem → rem.data.toList.count 47 = k → rem.size ≤ s.size →
      Own w0 h1 ((b, .cells (strs out ++ replF (k + 1) [.string ⟨#[]⟩]) ((n + 1) * 1)) :: B) → f56_11 w0 K rem ⟨#[47]⟩ 0 ((n : Nat) : Int) (some ⟨b, 0, none⟩) (n + 1) (n + 1) ((i : Nat) : Int) h1 := by
    intro k
    induction k with
    | zero =>
      intro i out rem h1 hi ho he hc hrs w2
      have hno : ∀ x ∈ rem.data.toList, x ≠ 47 := fun x hx e => by
        subst e
        have := List.count_pos_iff.2 hx
        omega
      have hlr : levS rem = [rem] := by unfold levS; rw [splitL_none hno]; simp [toB_data]
      rw [hlr] at he
      have hin : i = n := by omega
      subst hin
      have hoff : (Addr.add ⟨b, 0, none⟩ ((Int.toNat ((i : Nat) : Int)) * 1)) = ⟨b, (strs out).length, none⟩ := by rw [add_plain, Int.toNat_natCast, Nat.mul_one, strs_length, ho, Nat.zero_add]
      refine f56_11_in _ _ _ _ _ _ _ _ _ (brB_of (fun q => by have := of_decide_eq_true q; omega) fun _ => ⟨_, rfl, by omega, by omega, ?_⟩)
      rw [hoff, wrapS (by omega), Int.toNat_natCast]
      refine ⟨_, _, w2.ge, rfl, w2.hd, by simp [replF_length], by omega, by omega, ?_⟩
      have w3 := w2.put (o' := .cells (setCells (strs out ++ replF (0 + 1) [.string ⟨#[]⟩]) (strs out).length [.string rem]) ((i + 1) * 1))
      have hl : (levS s).length = i + 1 := hlev
      have hx : setCells (strs out ++ replF (0 + 1) [.string ⟨#[]⟩]) (strs out).length [.string rem] = strs (levS s) := by
        rw [set_next, he, strs_append]; simp [replF, strs]
      have := hk (h1.put b (.cells (setCells (strs out ++ replF (0 + 1) [.string ⟨#[]⟩]) (strs out).length [.string rem]) ((i + 1) * 1))) (some ⟨b, 0, none⟩) (i + 1) ⟨by rw [strs_length, Nat.mul_one], by omega, rfl, rfl⟩ (by rw [hx] at w3 ⊢; exact w3)
      rw [hl] at this
      exact this
    | succ k ih =>
      intro i out rem h1 hi ho he hc hrs w2
      have hpos : ¬ Lib.indexByte rem.data.toList 47 < 0 := fun q => by
        have h47 := indexByte_absent q
        have : (47 : UInt8) ∈ rem.data.toList := List.count_pos_iff.1 (by omega)
        exact h47 47 this rfl
      obtain ⟨x, y, e1, e2, e3⟩ := indexByte_at hpos
      have hsz : rem.size = x.length + 1 + y.length := by rw [← slen, e1]; simp; omega
      have hlr : levS rem = toB x :: levS (toB y) := by unfold levS; rw [e1, splitL_cut e2, toB_toList]; simp
      have hcy : y.count 47 = k := by
        rw [e1, List.count_append, List.count_cons_self] at hc
        have : x.count 47 = 0 := List.count_eq_zero.2 fun h => e2 47 h rfl
        omega
      have hoff : (Addr.add ⟨b, 0, none⟩ ((Int.toNat ((i : Nat) : Int)) * 1)) = ⟨b, (strs out).length, none⟩ := by rw [add_plain, Int.toNat_natCast, Nat.mul_one, strs_length, ho, Nat.zero_add]
      refine f56_11_in _ _ _ _ _ _ _ _ _ (brB_of (fun _ => f69_spec ⟨_, rfl, brB_of (fun q => absurd (of_decide_eq_true q) hpos) fun _ => ?_⟩) fun q => absurd (of_decide_eq_false q) (by omega))
      rw [e3]
      have ew : IntKind.i64.wrap (((x.length : Nat) : Int) + 0) = ((x.length : Nat) : Int) := by rw [wrap64 (by omega) (by omega)]; omega
      have ew2 : IntKind.i64.wrap (((x.length : Nat) : Int) + (((ByteArray.size ⟨#[47]⟩) : Nat) : Int)) = ((x.length + 1 : Nat) : Int) := by
        rw [show (ByteArray.size ⟨#[47]⟩) = 1 from rfl, wrap64 (by omega) (by omega)]; omega
      rw [ew, ew2, wrapS (by omega)]
      simp only [Int.toNat_natCast] at hoff ⊢
      have p1 : rem.extract 0 x.length = toB x := by
        rw [extr, e1, List.drop_zero, Nat.sub_zero, List.take_left']
        rfl
      have p2 : rem.extract (x.length + 1) rem.size = toB y := by
        rw [extr, hsz, e1]
        have : (x ++ 47 :: y).drop (x.length + 1) = y := by
          rw [List.drop_append, List.drop_of_length_le (by omega)]
          simp
        rw [this, List.take_of_length_le (by omega)]
      rw [p1, p2]
      refine ⟨by omega, by omega, _, rfl, by omega, by omega, ?_⟩
      rw [hoff]
      refine ⟨_, _, w2.ge, rfl, w2.hd, ?_, by omega, by omega, ?_⟩
      · rw [List.length_append, replF_length]; show (strs out).length + 1 ≤ _; omega
      · have w3 := w2.put (o' := .cells (setCells (strs out ++ replF (k + 1 + 1) [.string ⟨#[]⟩]) (strs out).length [.string (toB x)]) ((n + 1) * 1))
        have hx : setCells (strs out ++ replF (k + 1 + 1) [.string ⟨#[]⟩]) (strs out).length [.string (toB x)] = strs (out ++ [toB x]) ++ replF (k + 1) [.string ⟨#[]⟩] := by
          rw [set_next, strs_append]; rfl
        refine ih (i + 1) (out ++ [toB x]) (toB y) _ (by omega) (by simp; omega) (by rw [he, hlr]; simp) (by rw [toB_toList]; exact hcy) ?_ ?_
        · show y.toArray.size ≤ _; simp; omega
        · rw [hx] at w3
          rw [← hx] at w3 ⊢
          exact w3
  exact loop n 0 [] s _ (by omega) rfl (by simp) hn (Nat.le_refl _) w1
/-- topic.Levels. -/
theorem f27_spec {w0 : World} {K : Value → AH → Prop} {h : AH} {B : List (Nat × AB)} {s : ByteArray} (hs : s.size ≤ 1000000000000) (w : Own w0 h B)
    (hk : ∀ h' a c, SlV 1 a (levS s).length c (strs (levS s)) → Own w0 h' (slB a (strs (levS s)) (c * 1) ++ B) → K (.slice a (levS s).length c) h') :
    EvC Go.Proofs.Tryd.prog w0 27 #[.string s] K h :=
  f27_go _ _ (f44_go _ _ _ (f56_spec hs w fun h' a c v w' => ⟨_, _, _, rfl, _, _, _, rfl, hk h' a c v w'⟩))

/-- Levels, as the document answers. -/
theorem f51_spec {w0 : World} {K : Value → AH → Prop} {h : AH} {B : List (Nat × AB)} {s : ByteArray} (hs : s.size ≤ 1000000000000) (w : Own w0 h B)
    (hk : ∀ h' a c, SlV 1 a (levS s).length c (strs (levS s)) → Own w0 h' (slB a (strs (levS s)) (c * 1) ++ B) → K (.slice a (levS s).length c) h') :
    EvC Go.Proofs.Tryd.prog w0 51 #[.string s] K h := by
  have hl := slen s
  -- behind the end
  have fin : ∀ (out : List ByteArray) (a : Option Addr) (c : Nat) (y : Int) (h1 : AH), levS s = out → SlV 1 a out.length c (strs out) → Own w0 h1 (slB a (strs out) (c * 1) ++ B) → f51_4 w0 K s a out.length c y ((s.size + 1 : Nat) : Int) h1 := fun out a c y h1 e v w1 => by
    subst e
    exact f51_4_in _ _ _ _ _ _ _ (brB_of (fun q => by have := of_decide_eq_true q; omega) fun _ => hk h1 a c v w1)
  have loop : ∀ (k i fr : Nat) (out : List ByteArray) (a : Option Addr) (c : Nat) (h1 : AH), i + k = s.size → fr ≤ i → out.length ≤ i → levS s = out ++ (splitL (s.data.toList.drop fr)).map toB → (∀ b ∈ (s.data.toList.drop fr).take (i - fr), b ≠ 47) →
      SlV 1 a out.length c (strs out) → Own w0 h1 (slB a (strs out) (c * 1) ++ B) → f51_4 w0 K s a out.length c ((fr : Nat) : Int) ((i : Nat) : Int) h1 := by
    intro k
    induction k with
    | zero =>
      intro i fr out a c h1 hi hf ho he hno v w1
      have his : i = s.size := by omega
      subst his
      have hx : s.extract fr s.size = toB (s.data.toList.drop fr) := by rw [extr, List.take_of_length_le]; rw [List.length_drop]; omega
      refine f51_4_in _ _ _ _ _ _ _ (brB_of (fun _ => brB_of (fun _ => ?_) fun q => absurd q (by simp)) fun q => absurd (of_decide_eq_false q) (by omega))
      refine f51_7_in _ _ _ _ _ _ _ _ (brB_of (fun _ => ⟨by omega, by omega, by omega, ?_⟩) fun q => by cases q)
      rw [Int.toNat_natCast, Int.toNat_natCast, hx]
      refine App_slB v w1 (by omega) (by omega) rfl (by intro y hy; simp at hy; subst hy; rfl) fun a' c' h' v' w' => ?_
      rw [wrapS (by omega)]
      have e2 : strs out ++ [.string (toB (s.data.toList.drop fr))] = strs (out ++ [toB (s.data.toList.drop fr)]) := by rw [strs_append]; rfl
      rw [e2] at v' w'
      rw [show out.length + 1 = (out ++ [toB (s.data.toList.drop fr)]).length by simp] at v' ⊢
      refine fin _ _ _ _ _ ?_ v' w'
      rw [he, splitL_none]
      · rfl
      · intro b hb
        refine hno b ?_
        rw [List.take_of_length_le (by rw [List.length_drop]; omega)]; exact hb
    | succ k ih =>
      intro i fr out a c h1 hi hf ho he hno v w1
      have hil : i < s.data.toList.length := by omega
      have hget : s.data[i]? = some s.data.toList[i] := by simp
      have hb2 : byteAt s ((i : Nat) : Int).toNat = ((s.data.toList[i]).toNat : Int) := by
        unfold byteAt
        rw [Int.toNat_natCast, hget]
      have hsp : s.data.toList.drop fr = (s.data.toList.drop fr).take (i - fr) ++ s.data.toList[i] :: s.data.toList.drop (i + 1) := by
        have := (List.take_append_drop (i - fr) (s.data.toList.drop fr)).symm
        rw [List.drop_drop, show fr + (i - fr) = i by omega, List.drop_eq_getElem_cons hil] at this
        exact this
      generalize hxd : s.data.toList[i] = x at hb2 hsp
      refine f51_4_in _ _ _ _ _ _ _ (brB_of (fun _ => brB_of (fun q => absurd q (by simp; omega)) fun _ => ⟨by omega, by omega, ?_⟩) fun q => absurd (of_decide_eq_false q) (by omega))
      rw [hb2, c_eq (k := 47) (m := 47) rfl]
      refine f51_7_in _ _ _ _ _ _ _ _ (brB_of (fun q => ⟨by omega, by omega, by omega, ?_⟩) fun q => ?_)
      · have hx47 : x = 47 := by simpa using q
        subst hx47
        have hx : s.extract fr i = toB ((s.data.toList.drop fr).take (i - fr)) := extr _ _ _
        rw [Int.toNat_natCast, Int.toNat_natCast, hx]
        refine App_slB v w1 (by omega) (by omega) rfl (by intro y hy; simp at hy; subst hy; rfl) fun a' c' h' v' w' => ?_
        rw [wrapS (by omega)]
        have e2 : strs out ++ [.string (toB ((s.data.toList.drop fr).take (i - fr)))] = strs (out ++ [toB ((s.data.toList.drop fr).take (i - fr))]) := by rw [strs_append]; rfl
        rw [e2] at v' w'
        rw [show out.length + 1 = (out ++ [toB ((s.data.toList.drop fr).take (i - fr))]).length by simp] at v' ⊢
        refine ih (i + 1) (i + 1) _ _ _ _ (by omega) (by omega) (by simp; omega) ?_ (by rw [Nat.sub_self]; intro b hb; simp at hb) v' w'
        have hq : splitL (s.data.toList.drop fr) = (s.data.toList.drop fr).take (i - fr) :: splitL (s.data.toList.drop (i + 1)) := by
          conv => lhs; rw [hsp]
          exact splitL_cut hno
        rw [he, hq]
        simp
      · have hx47 : x ≠ 47 := by simpa using q
        rw [wrapS (by omega)]
        refine ih (i + 1) fr out a c h1 (by omega) (by omega) (by omega) he (fun b hb => ?_) v w1
        rw [hsp, show i + 1 - fr = (i - fr) + 1 by omega, List.take_append, List.take_of_length_le (by rw [List.length_take]; omega)] at hb
        rcases List.mem_append.1 hb with hb | hb
        · exact hno b hb
        · rw [List.length_take, List.length_drop, show i - fr + 1 - min (i - fr) (s.data.toList.length - fr) = 1 by omega] at hb
          simp at hb
          subst hb; exact hx47
  exact f51_go _ _ (loop s.size 0 0 [] none 0 h (by omega) (Nat.le_refl _) (by simp) (by simp [levS]) (by intro b hb; simp at hb) SlV.nil w)
end Go.G.YtnmngjffebbbnaaDoor
