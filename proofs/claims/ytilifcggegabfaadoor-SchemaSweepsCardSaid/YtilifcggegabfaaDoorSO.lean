/- schema.Sweep. -/
import Derived.Test.YtilifcggegabfaaDoorSN
import Derived.Test.YtilifcggegabfaaDoorProg
set_option maxRecDepth 100000
namespace Go.G.YtilifcggegabfaaDoor
open Go.RowKit
/-! ### schema.Sweep, on -/
def ownSs (l : List SesM) : List (Nat × AB) := l.flatMap ownS
structure StV (m : StM) : Prop where
  rl : m.ret.length ≤ 100000000
  ret : SlV 5 m.ra m.ret.length m.rc (m.ret.flatMap MsgM.cells)
  retm : MsV m.ret
  sl : m.ses.length ≤ 100000000
  ses : SlV 8 m.sa m.ses.length m.sc (m.ses.flatMap SesM.cells)
  sesk : ∀ x ∈ m.ses, SesV x
def ownSt (m : StM) : List (Nat × AB) := slB m.sa (m.ses.flatMap SesM.cells) (m.sc * 8) ++ (ownSs m.ses ++ (slB m.ra (m.ret.flatMap MsgM.cells) (m.rc * 5) ++ ownM m.ret))
theorem StV.rd {w0 : World} {h : AH} {bs : List (Nat × AB)} {m : StM} (v : StV m) (w : Own w0 h bs) (hm : ∀ p ∈ ownSt m, p ∈ bs) : StRd w0 h m := by
  have hm' : ∀ p, (p ∈ slB m.sa (m.ses.flatMap SesM.cells) (m.sc * 8) ∨ p ∈ ownSs m.ses ∨ p ∈ slB m.ra (m.ret.flatMap MsgM.cells) (m.rc * 5) ∨ p ∈ ownM m.ret) → p ∈ bs := fun p hp => hm p (by simpa only [ownSt, List.mem_append] using hp)
  exact ⟨v.rl, ⟨slv_rdm v.ret w fun p hp => hm' p (.inr (.inr (.inl hp))), msv_rd v.retm w fun p hp => hm' p (.inr (.inr (.inr hp)))⟩, v.sl, slv_rdm v.ses w fun p hp => hm' p (.inl hp), fun x hx =>
    (v.sesk x hx).rd w fun p hp => hm' p (.inr (.inl (List.mem_flatMap.2 ⟨x, hx, hp⟩)))⟩
theorem ses_cells_eq (o : SesM) : [Value.string o.client, .slice o.sa o.subs.length o.sc, .slice o.qa o.queue.length o.qc, .slice o.fa o.fl.length o.fc, .slice o.ia o.ids.length o.ic, .int .i64 o.next, .int .i64 o.head, .int .i64 o.sent] = o.cells := rfl
theorem min_head {hd n k : Int} (h1 : 0 ≤ hd) (h2 : hd ≤ 1152921504606846976) (h3 : 0 ≤ n) (h4 : n ≤ 1000) (h5 : 0 ≤ k) (h6 : k ≤ n) :
    (if IntKind.i64.wrap (hd + IntKind.i64.wrap (n - k)) < 1152921504606846976 then IntKind.i64.wrap (hd + IntKind.i64.wrap (n - k)) else 1152921504606846976) = min 1152921504606846976 (hd + (n - k)) := by
  rw [wrap64 (x := n - k) (by omega) (by omega), wrap64 (by omega) (by omega)]
  split <;> omega
section
variable {w0 : World} {K : Value → AH → Prop} {h : AH} {B : List (Nat × AB)}
theorem f15_5s {c : Int} {s : StM} {R : List (Nat × AB)} {z0 : Int} {z1 z2 o1 : Option Addr} {zn1 zc1 zn2 zc2 on1 oc1 : Nat} {o0 : Int}
    (hR : ∀ h' D, Own w0 h' (D ++ R) → StRd w0 h' s) (hm : MaySt s) (lt : LightS s)
    (hk : ∀ h' a' c' (os : List SesM), os.map SesM.nrm = (s.ses.map (swS c)).map SesM.nrm → SlV 8 a' os.length c' (os.flatMap SesM.cells) → (∀ o ∈ os, SesV o) → Own w0 h' (slB a' (os.flatMap SesM.cells) (c' * 8) ++ (ownSs os ++ R)) →
      K (.tuple #[.agg #[.int .i64 o0, .slice o1 on1 oc1, .slice a' os.length c'], .int .i64 0]) h') :
    ∀ (n i : Nat), i + n = s.ses.length → ∀ (a' : Option Addr) (c' : Nat) (h' : AH) (os : List SesM), os.map SesM.nrm = ((s.ses.take i).map (swS c)).map SesM.nrm → SlV 8 a' os.length c' (os.flatMap SesM.cells) → (∀ o ∈ os, SesV o) → Own w0 h' (slB a' (os.flatMap SesM.cells) (c' * 8) ++ (ownSs os ++ R)) →
      f15_5 w0 K c s.sa s.ses.length s.sc ((s.ses.length : Nat) : Int) ((i : Nat) : Int) s.clock s.ra s.ret.length s.rc s.sa s.ses.length s.sc z0 z1 zn1 zc1 z2 zn2 zc2 o0 o1 on1 oc1 a' os.length c' h' := fun n => by
  have lsl := lt.ses
  induction n with
  | zero =>
    intro i hi a' c' h' os he v vs w'
    rw [List.take_of_length_le (by omega)] at he
    exact f15_5_in _ _ _ _ _ _ _ _ _ _ _ _ _ _ _ _ _ _ _ _ _ _ _ _ _ _ _ _ (brB_of (fun z => by have := of_decide_eq_true z; omega) fun _ => hk h' a' c' os he v vs w')
  | succ n ih =>
    intro i hi a' c' h' os he v vs w'
    have g1 : s.ses[i]? = some s.ses[i] := List.getElem?_eq_getElem _
    have ht : s.ses.take (i + 1) = s.ses.take i ++ [s.ses[i]] := List.take_succ_eq_append_getElem (by omega)
    generalize s.ses[i] = x at g1 ht
    have hmem := List.mem_of_getElem? g1
    have mx := hm.ses x hmem
    have lx := lt.each x hmem
    have rd0 : ∀ h2 D, Own w0 h2 (D ++ (slB a' (os.flatMap SesM.cells) (c' * 8) ++ (ownSs os ++ R))) → SesRd w0 h2 x := fun h2 D w2 =>
      (hR h2 (D ++ (slB a' (os.flatMap SesM.cells) (c' * 8) ++ ownSs os)) (by simpa only [List.append_eq, List.append_assoc] using w2)).sesk x hmem
    have rs := hR h' (slB a' (os.flatMap SesM.cells) (c' * 8) ++ ownSs os) (by rw [List.append_assoc]; exact w')
    obtain ⟨ad, had, hat⟩ := rowLoad (enc := SesM.cells) (k := 8) (fun _ => rfl) (by decide) rs.ses g1
    have hle : os.length ≤ i := by
      have e := congrArg List.length he
      simp only [List.length_map] at e
      rw [e]; exact List.length_take_le ..
    refine f15_5_in _ _ _ _ _ _ _ _ _ _ _ _ _ _ _ _ _ _ _ _ _ _ _ _ _ _ _ _ (brB_of (fun _ => ⟨ad, had, by omega, by omega, _, _, _, _, _, _, _, _, _, _, _, _, _, _, _, _, ⟨rfl, hat⟩, ?_⟩) fun z => by have := of_decide_eq_false z; omega)
    refine f31_spec w' (fun h2 w2 => (rd0 h2 [] w2).queue.1) (fun h2 w2 => (rd0 h2 [] w2).queue.2) (by omega) (fun m hm => by have := (mx.queue m hm).may.pay; omega) fun h1 qa qc q hq qv qm w1 => ⟨qa, q.length, qc, rfl, ?_⟩
    have hqn := nrm_keys hq
    have hql : q.length = (keepM c x.queue).length := nrm_len hqn
    have hqk := keep_len c x.queue
    have mh := min_head (hd := x.head) (n := ((x.queue.length : Nat) : Int)) (k := ((q.length : Nat) : Int)) mx.head0 mx.head (by omega) (by omega) (by omega) (by omega)
    repeat' (with_reducible apply And.intro)
    all_goals
      refine f32_spec (l := x.subs) w1 (fun h2 w2 => (rd0 h2 (slB qa (q.flatMap MsgM.cells) (qc * 5) ++ ownM q) (by rw [List.append_assoc]; exact w2)).subs) (by omega) fun h2 sa sc sv w2 => ⟨sa, x.subs.length, sc, rfl, ?_⟩
      refine f33_spec (l := x.ids) w2 (fun h2 w2 => (rd0 h2 (slB sa (x.subs.flatMap WantM.cells) (sc * 2) ++ (slB qa (q.flatMap MsgM.cells) (qc * 5) ++ ownM q)) (by simp only [List.append_assoc]; exact w2)).ids) (by omega) fun h3 ia ic iv w3 => ⟨ia, x.ids.length, ic, rfl, ?_⟩
      rw [mh]
      refine f15_13s (s := s) (x := x) (fun h2 D w2 => ?_) (by omega) (fun f hf => by have := (mx.fl f hf).may.pay; omega) (fun h4 fa fc fs hfs fv fm w4 => ?_) x.fl.length 0 (by omega) none 0 h3 [] rfl SlV.nil (fun m hm => by simp at hm) w3
      · have r := rd0 h2 (D ++ (slB ia (x.ids.flatMap fun x => [Value.int .i64 x]) (ic * 1) ++ (slB sa (x.subs.flatMap WantM.cells) (sc * 2) ++ (slB qa (q.flatMap MsgM.cells) (qc * 5) ++ ownM q)))) (by simpa only [List.append_eq, List.append_assoc] using w2)
        exact ⟨r.fl, r.flm⟩
      · generalize hog : ({ client := x.client, sa := sa, sc := sc, subs := x.subs, qa := qa, qc := qc, queue := q, fa := fa, fc := fc, fl := fs, ia := ia, ic := ic, ids := x.ids, next := x.next, head := min 1152921504606846976 (x.head + (((x.queue.length : Nat) : Int) - ((q.length : Nat) : Int))), sent := x.sent } : SesM) = o
        have hoc : [Value.string x.client, .slice sa x.subs.length sc, .slice qa q.length qc, .slice fa fs.length fc, .slice ia x.ids.length ic, .int .i64 x.next, .int .i64 (min 1152921504606846976 (x.head + (((x.queue.length : Nat) : Int) - ((q.length : Nat) : Int)))), .int .i64 x.sent] = o.cells := by subst hog; rfl
        have hon : o.nrm = (swS c x).nrm := by
          subst hog
          simp only [SesM.nrm, swS, hqn, hfs, hql]
        have hfl : fs.length = x.fl.length := nrm_len hfs
        have hov : SesV o := by
          subst hog
          exact ⟨by show x.subs.length ≤ _; omega, sv, by show q.length ≤ _; omega, qv, qm, by show fs.length ≤ _; omega, fv, fm, by show x.ids.length ≤ _; omega, iv⟩
        have hoo : ownS o = slB fa (fs.flatMap FlM.cells) (fc * 8) ++ (ownM (fs.map FlM.msg) ++ (slB ia (x.ids.flatMap fun x => [.int .i64 x]) (ic * 1) ++ (slB sa (x.subs.flatMap WantM.cells) (sc * 2) ++ (slB qa (q.flatMap MsgM.cells) (qc * 5) ++ ownM q)))) := by subst hog; rfl
        have w5 : Own w0 h4 (ownS o ++ (slB a' (os.flatMap SesM.cells) (c' * 8) ++ (ownSs os ++ R))) := by
          rw [hoo]; simpa only [List.append_eq, List.append_assoc] using w4
        rw [hoc]
        refine App_mid (cs := ownS o) v w5 (by omega) (by omega) rfl (ses_cell o) fun a8 c8 h8 v8 w8 => ?_
        rw [wrapS (by omega)]
        have e2 : os.flatMap SesM.cells ++ o.cells = (os ++ [o]).flatMap SesM.cells := by simp
        rw [e2] at v8 w8
        have := ih (i + 1) (by omega) a8 c8 h8 (os ++ [o]) (by rw [ht, List.map_append, List.map_append, List.map_append, he]; simp [hon]) (by rw [List.length_append]; exact v8) (fun y hy => by
          rcases List.mem_append.1 hy with hy | hy
          · exact vs y hy
          · rw [List.mem_singleton] at hy; subst hy; exact hov) (by
          have e5 : ownSs (os ++ [o]) = ownSs os ++ ownS o := by simp [ownSs]
          rw [e5]
          refine w8.perm ?_
          have p1 := List.perm_append_comm_assoc (ownS o) (slB a8 ((os ++ [o]).flatMap SesM.cells) (c8 * 8) ++ ownSs os) R
          simpa only [List.append_eq, List.append_assoc] using p1)
        rw [List.length_append] at this
        exact this
/-- schema.Sweep. -/
theorem f15_spec {s : StM} {c : Int} (T : TabOk w0) (w : Own w0 h B) (hR : ∀ h' D, Own w0 h' (D ++ B) → StRd w0 h' s) (lt : LightS s)
    (hbad : (¬ MaySt s ∨ c < s.clock ∨ 1099511627776 < c) → ∀ h', Own w0 h' B → K (.tuple #[.agg #[.int .i64 0, .slice none 0 0, .slice none 0 0], .int .i64 1]) h')
    (hok : MaySt s → s.clock ≤ c → c ≤ 1099511627776 → ∀ h' o, o.nrm = (swM c s).nrm → StV o → Own w0 h' (ownSt o ++ B) → K (.tuple #[o.agg2, .int .i64 0]) h') :
    EvC Go.Proofs.Tryd.prog w0 15 #[s.agg2, .int .i64 c] K h := by
  have s3 : MaySt s → s.clock ≤ c → c ≤ 1099511627776 → ∀ h1, Own w0 h1 B → f15_3 w0 K c s.clock s.ra s.ret.length s.rc s.sa s.ses.length s.sc 0 none 0 0 none 0 0 h1 := fun hm h1' h2' h1 w1 => by
    refine f15_3_in _ _ _ _ _ _ _ _ _ _ _ _ _ _ _ _ ?_
    have lr := lt.ret
    refine f31_spec w1 (fun h2 w2 => (hR h2 [] w2).ret.1) (fun h2 w2 => (hR h2 [] w2).ret.2) (by omega) (fun m hx => by have := (hm.ret m hx).may.pay; omega) fun h2 qa qc q hq qv qm w2 => ⟨qa, q.length, qc, rfl, ?_⟩
    have hqn := nrm_keys hq
    have hql : q.length = (keepM c s.ret).length := nrm_len hqn
    have hqk := keep_len c s.ret
    have lss := lt.ses
    refine f15_5s (s := s) (c := c) (fun h' D w' => hR h' (D ++ (slB qa (q.flatMap MsgM.cells) (qc * 5) ++ ownM q)) (by simpa only [List.append_eq, List.append_assoc] using w')) hm lt (fun h' a' c' os hos ov ok w' => ?_) s.ses.length 0 (by omega) none 0 h2 [] rfl SlV.nil (fun o ho => by cases ho) w2
    have hol : os.length = s.ses.length := by rw [nrm_len hos, List.length_map]
    have := hok hm h1' h2' h' ⟨c, qa, qc, q, a', c', os⟩ (by simp only [StM.nrm, swM, hqn, hos]) ⟨by show q.length ≤ _; omega, qv, qm, by show os.length ≤ _; omega, ov, ok⟩ (by simpa only [ownSt, List.append_eq, List.append_assoc] using w')
    exact this
  have s2 : ∀ h1 v, Own w0 h1 B → (v = true → ¬ MaySt s ∨ c < s.clock ∨ 1099511627776 < c) → (v = false → MaySt s ∧ s.clock ≤ c ∧ c ≤ 1099511627776) → f15_2 w0 K c v s.clock s.ra s.ret.length s.rc s.sa s.ses.length s.sc 0 none 0 0 none 0 0 h1 := fun h1 v w1 h1' h2' =>
    f15_2_in _ _ _ _ _ _ _ _ _ _ _ _ _ _ _ _ _ (brB_of (fun z => hbad (h1' z) h1 w1) fun z => s3 (h2' z).1 (h2' z).2.1 (h2' z).2.2 h1 w1)
  refine f15_go _ _ _ _ _ _ _ _ _ (f11_spec (s := s) T w (fun h' w' => hR h' [] w') fun t h1 ht w1 => ⟨t, rfl, ?_⟩)
  refine brB_of (fun z1 => s2 h1 _ w1 (fun _ => .inl fun p => by have := ht.2 p; rw [this] at z1; cases z1) fun z => by cases z) fun z1 => brB_of (fun z2 => s2 h1 _ w1 (fun _ => .inr (.inl (by simpa using z2))) fun z => by cases z) fun z2 =>
    s2 h1 _ w1 (fun z3 => .inr (.inr (by simpa using z3))) fun z3 => ⟨ht.1 (by simpa using z1), by simpa using z2, by simpa using z3⟩
end
end Go.G.YtilifcggegabfaaDoor
