/- ContainsAny. -/
import Derived.Test.YtnmngjffebbbnaaDoorTG1
import Derived.Test.YtnmngjffebbbnaaDoorProg
set_option maxRecDepth 100000
namespace Go.G.YtnmngjffebbbnaaDoor
open Go.RowKit
open Value (string slice int bool agg)
def asciiZ : List Value := [.bool false, .bool false, .bool false, .bool false, .bool false, .bool false, .bool false, .bool false, .bool false, .bool false, .bool false, .bool false, .bool false, .bool false, .bool false, .bool false, .bool false, .bool false, .bool false, .bool false, .bool false, .bool false, .bool false, .bool false, .bool false, .bool false, .bool false, .bool false, .bool false, .bool false, .bool false, .bool false, .bool false, .bool false, .bool false, .bool false, .bool false, .bool false, .bool false, .bool false, .bool false, .bool false, .bool false, .bool false, .bool false, .bool false, .bool false, .bool false, .bool false, .bool false, .bool false, .bool false, .bool false, .bool false, .bool false, .bool false, .bool false, .bool false, .bool false, .bool false, .bool false, .bool false, .bool false, .bool false, .bool false, .bool false, .bool false, .bool false, .bool false, .bool false, .bool false, .bool false, .bool false, .bool false, .bool false, .bool false, .bool false, .bool false, .bool false, .bool false, .bool false, .bool false, .bool false, .bool false, .bool false, .bool false, .bool false, .bool false, .bool false, .bool false, .bool false, .bool false, .bool false, .bool false, .bool false, .bool false, .bool false, .bool false, .bool false, .bool false, .bool false, .bool false, .bool false, .bool false, .bool false, .bool false, .bool false, .bool false, .bool false, .bool false, .bool false, .bool false, .bool false, .bool false, .bool false, .bool false, .bool false, .bool false, .bool false, .bool false, .bool false, .bool false, .bool false, .bool false, .bool false, .bool false, .bool false, .bool false, .bool false, .bool false, .bool false, .bool false, .bool false, .bool false, .bool false, .bool false, .bool false, .bool false, .bool false, .bool false, .bool false, .bool false, .bool false, .bool false, .bool false, .bool false, .bool false, .bool false, .bool false, .bool false, .bool false, .bool false, .bool false, .bool false, .bool false, .bool false, .bool false, .bool false, .bool false, .bool false, .bool false, .bool false, .bool false, .bool false, .bool false, .bool false, .bool false, .bool false, .bool false, .bool false, .bool false, .bool false, .bool false, .bool false, .bool false, .bool false, .bool false, .bool false, .bool false, .bool false, .bool false, .bool false, .bool false, .bool false, .bool false, .bool false, .bool false, .bool false, .bool false, .bool false, .bool false, .bool false, .bool false, .bool false, .bool false, .bool false, .bool false, .bool false, .bool false, .bool false, .bool false, .bool false, .bool false, .bool false, .bool false, .bool false, .bool false, .bool false, .bool false, .bool false, .bool false, .bool false, .bool false, .bool false, .bool false, .bool false, .bool false, .bool false, .bool false, .bool false, .bool false, .bool false, .bool false, .bool false, .bool false, .bool false, .bool false, .bool false, .bool false, .bool false, .bool false, .bool false, .bool false, .bool false, .bool false, .bool false, .bool false, .bool false, .bool false, .bool false, .bool false, .bool false, .bool false, .bool false, .bool false, .bool false, .bool false, .bool false, .bool false, .bool false, .bool false, .bool false, .bool false, .bool false, .bool false, .bool false]
/-! ### characters of a text, as a range tells them -/
theorem decodeN_high {n b0 b1 b2 b3 : Nat} (hn : 1 ≤ n) (h : 128 ≤ b0) : 128 ≤ (Lib.decodeN n b0 b1 b2 b3).1 ∧ 1 ≤ (Lib.decodeN n b0 b1 b2 b3).2 ∧ (Lib.decodeN n b0 b1 b2 b3).2 ≤ n ∧
    (2 ≤ (Lib.decodeN n b0 b1 b2 b3).2 → 128 ≤ b1) ∧ (3 ≤ (Lib.decodeN n b0 b1 b2 b3).2 → 128 ≤ b2) ∧ (4 ≤ (Lib.decodeN n b0 b1 b2 b3).2 → 128 ≤ b3) ∧ (Lib.decodeN n b0 b1 b2 b3).2 ≤ 4 := by
  unfold Lib.decodeN
  rw [if_neg (by omega)]
  split
  · split <;> (dsimp only; omega)
  · split
    · split <;> (dsimp only; omega)
    · split
      · split <;> (dsimp only; omega)
      · dsimp only; omega
theorem get_at {s : ByteArray} {i : Nat} {x : UInt8} (h : s.data.toList[i]? = some x) : s.get! i = x := by
  obtain ⟨⟨l⟩⟩ := s
  show (Array.mk l)[i]! = x
  have : (Array.mk l)[i]? = some x := by simpa using h
  rw [Array.getElem!_eq_getD, Array.getD_eq_getD_getElem?, this]; rfl
/-- One character on: a sign, or bytes that are none. -/
theorem dec_step {s : ByteArray} {pos : Nat} (hp : pos < s.size) : pos + (Utf8.decode s pos).2 ≤ s.size ∧ 1 ≤ (Utf8.decode s pos).2 ∧
    (((s.data.toList.drop pos).any fun b => b == 43 || b == 35) = (((Utf8.decode s pos).1 == 43 || (Utf8.decode s pos).1 == 35) || ((s.data.toList.drop (pos + (Utf8.decode s pos).2)).any fun b => b == 43 || b == 35))) := by
  have hl := slen s
  have hil : pos < s.data.toList.length := by omega
  have hg : s.data.toList[pos]? = some s.data.toList[pos] := List.getElem?_eq_getElem hil
  generalize hx : s.data.toList[pos] = x at hg
  have hd : s.data.toList.drop pos = x :: s.data.toList.drop (pos + 1) := by rw [List.drop_eq_getElem_cons hil, hx]
  rw [Lib.decode_at, get_at hg]
  by_cases hc : x.toNat < 128
  · have e : Lib.decodeN (s.size - pos) x.toNat (s.get! (pos + 1)).toNat (s.get! (pos + 2)).toNat (s.get! (pos + 3)).toNat = (x.toNat, 1) := by unfold Lib.decodeN; rw [if_pos hc]
    rw [e]
    refine ⟨by dsimp only; omega, Nat.le_refl _, ?_⟩
    dsimp only
    rw [hd, List.any_cons]
    have c1 : (x.toNat == 43) = (x == 43) := by
      rw [Bool.eq_iff_iff]; simp only [beq_iff_eq]
      exact ⟨fun e => UInt8.toNat_inj.1 e, fun e => by rw [e]; rfl⟩
    have c2 : (x.toNat == 35) = (x == 35) := by
      rw [Bool.eq_iff_iff]; simp only [beq_iff_eq]
      exact ⟨fun e => UInt8.toNat_inj.1 e, fun e => by rw [e]; rfl⟩
    rw [c1, c2]
  · obtain ⟨d1, d2, d3, d4, d5, d6, d7⟩ := decodeN_high (n := s.size - pos) (b0 := x.toNat) (b1 := (s.get! (pos + 1)).toNat) (b2 := (s.get! (pos + 2)).toNat) (b3 := (s.get! (pos + 3)).toNat) (by omega) (by omega)
    generalize hD : Lib.decodeN (s.size - pos) x.toNat (s.get! (pos + 1)).toNat (s.get! (pos + 2)).toNat (s.get! (pos + 3)).toNat = D at *
    refine ⟨by omega, d2, ?_⟩
    have r1 : (D.1 == 43) = false := by simp; omega
    have r2 : (D.1 == 35) = false := by simp; omega
    rw [r1, r2, Bool.or_self, Bool.false_or]
    have sp : s.data.toList.drop pos = (s.data.toList.drop pos).take D.2 ++ s.data.toList.drop (pos + D.2) := by
      have := (List.take_append_drop D.2 (s.data.toList.drop pos)).symm
      rw [List.drop_drop] at this
      exact this
    have hi : ∀ y ∈ (s.data.toList.drop pos).take D.2, 128 ≤ y.toNat := by
      intro y hy
      obtain ⟨j, hj, rfl⟩ := List.getElem_of_mem hy
      rw [List.length_take, List.length_drop] at hj
      rw [List.getElem_take, List.getElem_drop]
      have hgj : s.data.toList[pos + j]? = some (s.data.toList[pos + j]'(by omega)) := List.getElem?_eq_getElem (by omega)
      have := get_at hgj
      rw [← this]
      have : j = 0 ∨ j = 1 ∨ j = 2 ∨ j = 3 := by omega
      rcases this with rfl | rfl | rfl | rfl
      · rw [Nat.add_zero, get_at hg]; omega
      · exact d4 (by omega)
      · exact d5 (by omega)
      · exact d6 (by omega)
    have hz : ((s.data.toList.drop pos).take D.2).any (fun b => b == 43 || b == 35) = false := by
      rw [List.any_eq_false]
      intro y hy q
      have := hi y hy
      simp only [Bool.or_eq_true, beq_iff_eq] at q
      rcases q with rfl | rfl
      · exact absurd this (by decide)
      · exact absurd this (by decide)
    have e2 : ((s.data.toList.drop pos).any fun b => b == 43 || b == 35) = (((s.data.toList.drop pos).take D.2 ++ s.data.toList.drop (pos + D.2)).any fun b => b == 43 || b == 35) := by rw [← sp]
    rw [e2, List.any_append, hz, Bool.false_or]

theorem encode_high {r : Int} (h : 128 ≤ r) : 2 ≤ (Utf8.encode r).size ∧ (Utf8.encode r).size ≤ 4 ∧ 128 ≤ byteAt (Utf8.encode r) ((Utf8.encode r).size - 1) := by
  unfold Utf8.encode
  dsimp only
  have hc : 128 ≤ (if Utf8.valid r = true then r.toNat else Utf8.runeError) := by
    split
    · omega
    · decide
  generalize (if Utf8.valid r = true then r.toNat else Utf8.runeError) = c at hc
  have b : ∀ n : Nat, 128 ≤ ((UInt8.ofNat (128 + n % 64)).toNat : Int) := fun n => by
    rw [UInt8.toNat_ofNat']
    have : (128 + n % 64) % 2 ^ 8 = 128 + n % 64 := Nat.mod_eq_of_lt (by have := Nat.mod_lt n (show 0 < 64 by decide); omega)
    rw [this]; omega
  rw [if_neg (by omega)]
  split
  · exact ⟨Nat.le_of_ble_eq_true rfl, Nat.le_of_ble_eq_true rfl, b c⟩
  · split
    · exact ⟨Nat.le_of_ble_eq_true rfl, Nat.le_of_ble_eq_true rfl, b c⟩
    · exact ⟨Nat.le_of_ble_eq_true rfl, Nat.le_of_ble_eq_true rfl, b c⟩

def sgS : ByteArray := ⟨#[43, 35]⟩
theorem f85_spec {w0 : World} {K : Value → AH → Prop} {h : AH} {r : Int} (hk : ∀ b, K (.bool b) h) : EvC Go.Proofs.Tryd.prog w0 85 #[.int .i32 r] K h := by
  have four : ∀ x, f85_4 w0 K x h := fun x => f85_4_in _ _ (brB_of (fun _ => hk _) fun _ => hk _)
  have two : ∀ x, f85_2 w0 K r x h := fun x => f85_2_in _ _ _ (brB_of (fun _ => hk _) fun _ => brB_of (fun _ => four _) fun _ => four _)
  exact f85_go _ _ (brB_of (fun _ => two _) fun _ => two _)
/-- IndexRune over the two signs. -/
theorem f63_spec {w0 : World} {K : Value → AH → Prop} {h : AH} {r : Nat} (hk : ∀ v h', decide (0 ≤ v) = (r == 43 || r == 35) → (∀ b o, h b = some o → h' b = some o) → K (.int .i64 v) h') :
    EvC Go.Proofs.Tryd.prog w0 63 #[.string sgS, .int .i32 ((r : Nat) : Int)] K h := by
  have none : ∀ h', 128 ≤ r → (∀ b o, h b = some o → h' b = some o) → K (.int .i64 (-1)) h' := fun h' hr he => hk _ _ (by
    have a1 : (r == 43) = false := by simp; omega
    have a2 : (r == 35) = false := by simp; omega
    rw [a1, a2]; rfl) he
  have t5 : ∀ x, x = decide (((r : Nat) : Int) < 128) → f63_35 w0 K sgS ((r : Nat) : Int) x h := fun x hx => by
    refine f63_35_in _ _ _ _ (brB_of (fun q => ?_) fun q => brB_of (fun q2 b hb hn => ?_) fun q2 => f85_spec fun v => ⟨_, rfl, brB_of (fun _ => ?_) fun _ => ?_⟩)
    · have hr : r < 128 := by rw [q] at hx; have := of_decide_eq_true hx.symm; omega
      have hw : IntKind.u8.wrap ((r : Nat) : Int) = ((r : Nat) : Int) := by rw [show IntKind.u8.wrap ((r : Nat) : Int) = ((r : Nat) : Int) % 256 from rfl]; omega
      rw [hw]
      refine f84_spec ⟨_, rfl, hk _ _ ?_ fun _ _ z => z⟩
      have : ∀ r, r < 128 → decide (0 ≤ Lib.indexByte sgS.data.toList ((((r : Nat) : Int).toNat).toUInt8)) = (r == 43 || r == 35) := by decide +kernel
      exact this r hr
    · have hr : 128 ≤ r := by have : ((r : Nat) : Int) = 65533 := by simpa using q2
                              omega
      have ext : ∀ h2 : AH, (∀ b o, h b = some o → h2 b = some o) → ∀ o', ∀ b' o, h b' = some o → (h2.put b o') b' = some o := fun h2 he o' b' o hbo => by
        have : b' ≠ b := fun e => by subst e; rw [hn] at hbo; cases hbo
        rw [put_other _ _ this]; exact he b' o hbo
      have e0 : ∀ b' o, h b' = some o → (h.put b (.sit sgS 0)) b' = some o := ext h (fun _ _ z => z) _
      have p2 : ∀ h2 : AH, (∀ b o, h b = some o → h2 b = some o) → h2 b = some (.sit sgS 2) → f63_38 w0 K ⟨b, 0, Option.none⟩ h2 := fun h2 he hb2 =>
        f63_38_in _ _ ⟨sgS, 2, rfl, hb2, fun q => absurd q (by decide), fun _ => none h2 hr he⟩
      have p1 : ∀ h2 : AH, (∀ b o, h b = some o → h2 b = some o) → h2 b = some (.sit sgS 1) → f63_38 w0 K ⟨b, 0, Option.none⟩ h2 := fun h2 he hb2 =>
        f63_38_in _ _ ⟨sgS, 1, rfl, hb2, fun _ => brB_of (fun q => absurd q (by decide +kernel)) fun _ => p2 _ (ext h2 he _) (put_same _ _ _), fun q => absurd q (by decide)⟩
      exact f63_38_in _ _ ⟨sgS, 0, rfl, put_same _ _ _, fun _ => brB_of (fun q => absurd q (by decide +kernel)) fun _ => p1 _ (ext _ e0 _) (put_same _ _ _), fun q => absurd q (by decide)⟩
    · have hr : 128 ≤ r := by rw [q] at hx; have := of_decide_eq_false hx.symm; omega
      exact none h hr fun _ _ z => z
    · have hr : 128 ≤ r := by rw [q] at hx; have := of_decide_eq_false hx.symm; omega
      obtain ⟨s1, s2, s3⟩ := encode_high (r := ((r : Nat) : Int)) (by omega)
      generalize Utf8.encode ((r : Nat) : Int) = rs at s1 s2 s3
      have e1 : IntKind.i64.wrap (((rs.size : Nat) : Int) - 1) = ((rs.size - 1 : Nat) : Int) := by rw [wrap64 (by omega) (by omega)]; omega
      rw [e1]
      refine f63_5_in _ _ _ _ _ _ _ (brB_of (fun z => ?_) fun _ => none h hr fun _ _ z => z)
      have hs2 : rs.size = 2 := by
        have := of_decide_eq_true z
        have e : sgS.size = 2 := rfl
        rw [e] at this; omega
      have el : rs.size - 1 = 1 := by omega
      rw [el] at s3 ⊢
      refine ⟨by decide, by decide, by decide, by rw [hs2]; decide, brB_of (fun _ => ⟨by decide, by decide, by decide, by rw [hs2]; decide, f84_spec ⟨_, rfl, brB_of (fun _ => none h hr fun _ _ z => z) fun z2 => ?_⟩⟩) fun z2 => ?_⟩
      · exact absurd z2 (by
          rw [show (sgS.extract (Int.toNat (IntKind.i64.wrap (((1 : Nat) : Int) + 1))) sgS.size) = ⟨#[]⟩ by decide +kernel]
          simp [Lib.indexByte])
      · have : byteAt sgS (Int.toNat ((1 : Nat) : Int)) = 35 := by decide
        rw [this] at z2
        have : byteAt rs (Int.toNat ((1 : Nat) : Int)) = 35 := (show (35 : Int) = byteAt rs (Int.toNat ((1 : Nat) : Int)) by simpa using z2).symm
        have s3' : 128 ≤ byteAt rs 1 := s3
        rw [show Int.toNat ((1 : Nat) : Int) = 1 from rfl] at this
        omega
  refine f63_go _ _ _ (brB_of (fun q => t5 _ rfl) fun q => absurd q (by simp))

set_option maxHeartbeats 400000 in
/-- IndexAny of the two signs: is there one? -/
theorem f55_spec {w0 : World} {K : Value → AH → Prop} {h : AH} {B : List (Nat × AB)} {s : ByteArray} (hs : s.size ≤ 1000000000000000) (w : Own w0 h B) (hk : ∀ v h', Own w0 h' B → decide (0 ≤ v) = signB s → K (.int .i64 v) h') :
    EvC Go.Proofs.Tryd.prog w0 55 #[.string s, .string sgS] K h := by
  have hl := slen s
  -- the short way
  have short : ∀ h1, Own w0 h1 B → f55_17 w0 K s sgS h1 := fun h1 w1 => by
    refine f55_17_in _ _ _ fun b hb hn => ?_
    have hne : ∀ p ∈ B, p.1 ≠ b := fun p hp e => by
      have := (w1.is p hp).2
      rw [e, hn] at this; cases this
    have loop : ∀ (k pos : Nat) (h2 : AH), s.size - pos ≤ k → pos ≤ s.size → ((s.data.toList.drop pos).any fun b => b == 43 || b == 35) = signB s → Own w0 h2 B → h2 b = some (.sit s pos) → f55_18 w0 K sgS ⟨b, 0, none⟩ h2 := by
      intro k
      induction k with
      | zero =>
        intro pos h2 hk2 hp he w2 hb2
        refine f55_18_in _ _ _ ⟨s, pos, rfl, hb2, fun q => absurd q (by omega), fun _ => hk _ _ w2 ?_⟩
        rw [← he, List.drop_eq_nil_of_le (by omega)]; rfl
      | succ k ih =>
        intro pos h2 hk2 hp he w2 hb2
        refine f55_18_in _ _ _ ⟨s, pos, rfl, hb2, fun q => ?_, fun q => hk _ _ w2 ?_⟩
        · obtain ⟨d1, d2, d3⟩ := dec_step q
          have w3 : Own w0 (h2.put b (.sit s (pos + (Utf8.decode s pos).2))) B := w2.other hne
          refine f63_spec fun v h4 hv hx => ⟨_, rfl, ?_⟩
          have w4 : Own w0 h4 B := ⟨w3.nd, fun p hp => ⟨(w3.is p hp).1, hx _ _ (w3.is p hp).2⟩, w3.pl⟩
          rw [hv]
          refine brB_of (fun z => hk _ _ w4 ?_) fun z => ?_
          · rw [← he, d3, z]; simp
          · rw [z, Bool.false_or] at d3
            exact ih _ h4 (by omega) d1 (by rw [← d3]; exact he) w4 (hx _ _ (put_same _ _ _))
        · rw [← he, List.drop_eq_nil_of_le (by omega)]; rfl
    exact loop s.size 0 _ (by omega) (by omega) rfl (w1.past hn) (put_same _ _ _)
  refine f55_go _ _ _ (f64_go _ _ ⟨_, rfl, ?_⟩)
  refine brB_of (fun _ => ?_) fun _ => short h w
  apply f65_spec w
  intro h2 w2
  refine ⟨false, false, false, false, false, false, false, false, false, false, false, false, false, false, false, false, false, false, false, false, false, false, false, false, false, false, false, false, false, false, false, false, false, false, false, true, false, false, false, false, false, false, false, true, false, false, false, false, false, false, false, false, false, false, false, false, false, false, false, false, false, false, false, false, false, false, false, false, false, false, false, false, false, false, false, false, false, false, false, false, false, false, false, false, false, false, false, false, false, false, false, false, false, false, false, false, false, false, false, false, false, false, false, false, false, false, false, false, false, false, false, false, false, false, false, false, false, false, false, false, false, false, false, false, false, false, false, false, false, false, false, false, false, false, false, false, false, false, false, false, false, false, false, false, false, false, false, false, false, false, false, false, false, false, false, false, false, false, false, false, false, false, false, false, false, false, false, false, false, false, false, false, false, false, false, false, false, false, false, false, false, false, false, false, false, false, false, false, false, false, false, false, false, false, false, false, false, false, false, false, false, false, false, false, false, false, false, false, false, false, false, false, false, false, false, false, false, false, false, false, false, false, false, false, false, false, false, false, false, false, false, false, false, false, false, false, false, false, false, false, false, false, false, false, false, false, false, false, false, false, false, false, false, false, false, false, true, by kernel_rfl, ?_⟩
  intro b hb hn
  have w3 := w2.new hb hn (o := .cells asciiZ 256)
  refine ⟨asciiZ, 256, w3.ge, rfl, w3.hd, Nat.le_of_ble_eq_true (by kernel_rfl), brB_of (fun _ => ?_) fun q => by cases q⟩
  have hz : setCells asciiZ 0 asciiL = asciiL := by kernel_rfl
  have w4 : Own w0 ((h2.put b (.cells asciiZ 256)).put b (.cells (setCells asciiZ 0 asciiL) 256)) ((b, .cells (setCells asciiZ 0 asciiL) 256) :: B) := w3.put
  rw [hz] at w4
  have loop : ∀ (k i : Nat) (h3 : AH), i + k = s.size → ((s.data.toList.drop i).any fun b => b == 43 || b == 35) = signB s → Own w0 h3 ((b, .cells asciiL 256) :: B) → f55_12 w0 K s ⟨b, 0, none⟩ ((i : Nat) : Int) h3 := by
    intro k
    induction k with
    | zero =>
      intro i h3 hi he w5
      refine f55_12_in _ _ _ _ (brB_of (fun q => by have := of_decide_eq_true q; omega) fun _ => hk _ _ w5.tail ?_)
      rw [← he, List.drop_eq_nil_of_le (by omega)]; rfl
    | succ k ih =>
      intro i h3 hi he w5
      have hil : i < s.data.toList.length := by omega
      have hget : s.data[i]? = some s.data.toList[i] := by simp
      have hb2 : byteAt s ((i : Nat) : Int).toNat = ((s.data.toList[i]).toNat : Int) := by
        unfold byteAt
        rw [Int.toNat_natCast, hget]
      rw [List.drop_eq_getElem_cons hil, List.any_cons] at he
      generalize hx : s.data.toList[i] = x at hb2 he
      have hx2 := u8lt x
      refine f55_12_in _ _ _ _ (brB_of (fun _ => ⟨by omega, by omega, f66_go _ _ _ ⟨_, rfl, by rw [hb2]; omega, by rw [hb2]; omega, (x.toNat == 43 || x.toNat == 35), ?_, _, rfl, brB_of (fun q => ?_) fun q => ?_⟩⟩) fun q => absurd (of_decide_eq_false q) (by omega))
      · rw [hb2, Int.toNat_natCast, Nat.mul_one]
        exact w5.cell0 (ascii_at _ hx2)
      · have c1 : (x.toNat == 43) = (x == 43) := by
          rw [Bool.eq_iff_iff]; simp only [beq_iff_eq]
          exact ⟨fun e => UInt8.toNat_inj.1 e, fun e => by rw [e]; rfl⟩
        have c2 : (x.toNat == 35) = (x == 35) := by
          rw [Bool.eq_iff_iff]; simp only [beq_iff_eq]
          exact ⟨fun e => UInt8.toNat_inj.1 e, fun e => by rw [e]; rfl⟩
        rw [c1, c2] at q
        rw [q, Bool.true_or] at he
        exact hk _ _ w5.tail (by rw [← he]; simp)
      · have c1 : (x.toNat == 43) = (x == 43) := by
          rw [Bool.eq_iff_iff]; simp only [beq_iff_eq]
          exact ⟨fun e => UInt8.toNat_inj.1 e, fun e => by rw [e]; rfl⟩
        have c2 : (x.toNat == 35) = (x == 35) := by
          rw [Bool.eq_iff_iff]; simp only [beq_iff_eq]
          exact ⟨fun e => UInt8.toNat_inj.1 e, fun e => by rw [e]; rfl⟩
        rw [c1, c2] at q
        rw [q, Bool.false_or] at he
        rw [wrapS (by omega)]
        exact ih (i + 1) h3 (by omega) he w5
  show f55_12 w0 K s ⟨b, 0, none⟩ ((0 : Nat) : Int) ((h2.put b (.cells asciiZ 256)).put b (.cells (setCells asciiZ 0 asciiL) 256))
  rw [hz]
  exact loop s.size 0 _ (by omega) rfl w4
/-- ContainsAny of the two signs. -/
theorem f43_spec {w0 : World} {K : Value → AH → Prop} {h : AH} {B : List (Nat × AB)} {s : ByteArray} (hs : s.size ≤ 1000000000000000) (w : Own w0 h B) (hk : ∀ h', Own w0 h' B → K (.bool (signB s)) h') :
    EvC Go.Proofs.Tryd.prog w0 43 #[.string s, .string sgS] K h :=
  f43_go _ _ _ (f55_spec hs w fun v h' w' hv => ⟨_, rfl, by rw [hv]; exact hk h' w'⟩)
end Go.G.YtnmngjffebbbnaaDoor
