/- Each operation does what the evaluator says of it: new blocks, maps, conversions, calls. -/
import Derived.Test.YtpjklfmfgmicaaaGSound
import Derived.MapKept
import Derived.Maps.RangeRun
import Derived.LaidEql
namespace Go.G
open Go.RowKit Go.MapKept

section
variable {P : Program} {w0 : World} {fr : Fr} {β : Nat → Nat} {env : Env} {bx : Bxs} {h : AH} {a : Act} {w : World}

theorem boxNew_ok (s : St w0 fr β env bx h a w) {cs : List Value} (T : TypeId) {K : Nat → Bxs → Prop} (hb : boxNew env bx cs K) :
    ∃ β', K bx.length (bx ++ [some cs]) ∧ β' bx.length = w.heap.size ∧ St w0 fr β' env (bx ++ [some cs]) h a (w.alloc (.cells cs.toArray T)) := by
  unfold boxNew at hb
  split at hb
  · exact hb.elim
  · rename_i hn
    exact ⟨_, hb, by simp, s.boxNew cs T hn⟩

/-! ### maps -/
theorem map_und {t : TypeId} (hm : isMapT P t = true) : P.underlying t = some (.map (keyT P t) (elmT P t)) := by
  unfold isMapT at hm
  split at hm
  · rename_i k e hu
    simp [keyT, elmT, hu]
  · cases hm

theorem plainKey_und {t : TypeId} {k : Value} (hk : plainKey P t k = true) : ∃ d, P.underlying (keyT P t) = some d ∧ IsKey d k := by
  unfold plainKey at hk
  split at hk
  · rename_i x y z hu
    have : x = y := by simpa using hk
    subst this
    exact ⟨_, hu, by simp [IsKey]⟩
  · rename_i hu
    exact ⟨_, hu, by simp [IsKey]⟩
  · rename_i hu
    exact ⟨_, hu, by simp [IsKey]⟩
  · cases hk

theorem sameNow_eqK {t : TypeId} {d : TypeDesc} {k k' : Value} (hd : P.underlying (keyT P t) = some d) (hk : plainKey P t k = true) (hk' : plainKey P t k' = true) :
    Instr.sameNow d k k' = some (eqK k k') ∧ (eqK k k' = true → k = k') := by
  unfold plainKey at hk hk'
  rw [hd] at hk hk'
  cases d <;> cases k <;> cases k' <;> simp_all [Instr.sameNow, eqK]
  rename_i x y
  by_cases e : x = y
  · subst e
    simp [(bytes_beq x x).2 rfl]
  · have : ¬ (x == y) = true := fun q => e ((bytes_beq x y).1 q)
    simp [this, e]

def esOf (l : List MapEntry) : List (Value × Value) := l.map fun e => (e.key, e.val)

theorem findNow_eqK {t : TypeId} {d : TypeDesc} {k : Value} (hd : P.underlying (keyT P t) = some d) (hk : plainKey P t k = true) (x : Value) : ∀ (l : List MapEntry) (i : Nat), (∀ e ∈ l, plainKey P t e.key = true) →
    (Instr.findNow d k l i = some none ∧ getM k (esOf l) = none ∧ putM k x (esOf l) = esOf l ++ [(k, x)] ∧ delM k (esOf l) = esOf l) ∨
      ∃ j e, Instr.findNow d k l i = some (some (i + j, e.val)) ∧ l[j]? = some e ∧ e.key = k ∧ getM k (esOf l) = some e.val ∧
        putM k x (esOf l) = esOf (l.modify j fun e => { e with key := k, val := x }) ∧ delM k (esOf l) = esOf (l.eraseIdx j)
  | [], i, _ => .inl ⟨rfl, rfl, rfl, rfl⟩
  | e :: es, i, hall => by
    obtain ⟨h1, h2⟩ := sameNow_eqK hd hk (hall e (.head _))
    cases hq : eqK k e.key with
    | true =>
      rw [hq] at h1
      exact .inr ⟨0, e, by simp [Instr.findNow, h1], rfl, (h2 hq).symm, by simp [esOf, getM, hq], by simp [esOf, putM, hq], by simp [esOf, delM, hq]⟩
    | false =>
      rw [hq] at h1
      rcases findNow_eqK hd hk x es (i + 1) (fun y hy => hall y (.tail _ hy)) with ⟨r1, r2, r3, r4⟩ | ⟨j, y, r1, r2, r3, r4, r5, r6⟩
      · refine .inl ⟨by simp [Instr.findNow, h1, r1], ?_, ?_, ?_⟩
        · simp only [esOf, List.map_cons, getM, hq] at r2 ⊢; exact r2
        · simp only [esOf, List.map_cons, putM, hq, List.cons_append] at r3 ⊢; rw [r3]
        · simp only [esOf, List.map_cons, delM, hq] at r4 ⊢; rw [r4]
      · refine .inr ⟨j + 1, y, by simp [Instr.findNow, h1, r1]; omega, by simpa using r2, r3, ?_, ?_, ?_⟩
        · simp only [esOf, List.map_cons, getM, hq] at r4 ⊢; exact r4
        · simp only [esOf, List.map_cons, putM, hq, List.modify_succ_cons] at r5 ⊢; rw [r5]
        · simp only [esOf, List.map_cons, delM, hq, List.eraseIdx_cons_succ] at r6 ⊢; rw [r6]

/-! ### keys that are pointers -/
theorem run_sameAddr_known {a b : Addr} {ca cb : Array Value} {ta tb : TypeId} {fa fb : Nat × Nat} (hne : a ≠ b) (ha : w.heap[a.block]? = some (.cells ca ta fa)) (hb : w.heap[b.block]? = some (.cells cb tb fb)) (ao : a.off = 0) (bo : b.off = 0) (za : 0 < ca.size) (zb : 0 < cb.size)
    (la : ∀ i, i < ca.size + 1 → (decide (fa.1 ≤ i) && decide (i < fa.2)) = false) (lb : ∀ i, i < cb.size + 1 → (decide (fb.1 ≤ i) && decide (i < fb.2)) = false) :
    (sameAddr a b).run P w = .ok false w := by
  by_cases hbl : a.block = b.block
  · simp [sameAddr, hbl, hne]
  · have a0 := la 0 (by omega)
    have b0 := lb 0 (by omega)
    have an := la ca.size (by omega)
    have bn := lb cb.size (by omega)
    have A0 : fa.1 = 0 → fa.2 = 0 := fun z => by rw [z] at a0; simpa using a0
    have B0 : fb.1 = 0 → fb.2 = 0 := fun z => by rw [z] at b0; simpa using b0
    have sa : (stringish a).run P w = .ok false w := by
      simp [stringish, World.frozen?, ha, ao, World.shape?, an]
      exact A0
    have sb : (stringish b).run P w = .ok false w := by
      simp [stringish, World.frozen?, hb, bo, World.shape?, bn]
      exact B0
    simp [sameAddr, hbl, World.frozen?, ha, hb, ao, bo, noView, viewAt, World.shape?, mayBeOne, sa, sb]
    intro z1 z2
    have := A0 z1
    omega
theorem ptrKey_und {t : TypeId} (hp : isPtrKey P t = true) : ∃ e i, P.underlying (keyT P t) = some (.pointer e) ∧ P.info? e = some i ∧ i.size ≠ 0 := by
  unfold isPtrKey at hp
  split at hp
  · rename_i e hu
    unfold szT at hp
    cases hi : P.info? e with
    | none => rw [hi] at hp; cases hp
    | some i =>
      rw [hi] at hp
      dsimp only at hp
      refine ⟨e, i, hu, hi, fun z => ?_⟩
      rw [z] at hp; cases hp
  · cases hp
theorem ptrKey_known {k : Value} (r : Rw w0 h w) (hk : ptrKey w0 h k) : k = .pointer none ∨ ∃ a c T f, k = .pointer (some a) ∧ a = ⟨a.block, 0, none⟩ ∧ w.heap[a.block]? = some (.cells c T f) ∧ 0 < c.size ∧ ∀ i, i < c.size + 1 → (decide (f.1 ≤ i) && decide (i < f.2)) = false := by
  unfold ptrKey at hk
  split at hk
  · exact .inl rfl
  · rename_i a
    obtain ⟨h1, h2, h3, xs, sz, h4⟩ := hk
    obtain ⟨_, ob, ho, hf⟩ := r.fits _ _ h4
    cases ob with
    | cells c T f =>
      obtain ⟨f1, f2, f3, f4⟩ := hf
      exact .inr ⟨a, c, T, f, rfl, by cases a; simp_all, ho, by omega, fun i hi => f4 i (by omega)⟩
    | _ => exact hf.elim
  · exact hk.elim
theorem ptr_equal {t e : TypeId} {i : TypeInfo} {k k' : Value} (hu : P.underlying t = some (.pointer e)) (hi : P.info? e = some i) (hz : i.size ≠ 0) (r : Rw w0 h w) (hk : ptrKey w0 h k) (hk' : ptrKey w0 h k') :
    (Op.equal t k k').run P w = .ok (eqK k k') w ∧ (eqK k k' = true → k = k') := by
  have inn : ∀ d : Nat, (Op.equalIn (d + 1) t k k').run P w = .ok (eqK k k') w ∧ (eqK k k' = true → k = k') := fun d => by
    rcases ptrKey_known r hk with rfl | ⟨a, ca, Ta, fa, rfl, ea, ha, za, la⟩
    · rcases ptrKey_known r hk' with rfl | ⟨b, cb, Tb, fb, rfl, eb, hb, zb, lb⟩
      · exact ⟨by simp [Op.equalIn, run_underlying hu, eqK], fun _ => rfl⟩
      · exact ⟨by simp [Op.equalIn, run_underlying hu, eqK], fun z => by simp [eqK] at z⟩
    · rcases ptrKey_known r hk' with rfl | ⟨b, cb, Tb, fb, rfl, eb, hb, zb, lb⟩
      · exact ⟨by simp [Op.equalIn, run_underlying hu, eqK], fun z => by simp [eqK] at z⟩
      · by_cases hab : a = b
        · subst hab
          exact ⟨by simp [Op.equalIn, run_underlying hu, sizeOf, typeInfo, hi, hz, run_sameAddr_same, eqK], fun _ => rfl⟩
        · have hs := run_sameAddr_known (P := P) hab ha hb (by rw [ea]) (by rw [eb]) za zb la lb
          have e0 : eqK (.pointer (some a)) (.pointer (some b)) = false := by simp [eqK, hab]
          exact ⟨by rw [e0]; simp [Op.equalIn, run_underlying hu, sizeOf, typeInfo, hi, hz, hs], fun z => by rw [e0] at z; cases z⟩
  obtain ⟨h1, h2⟩ := inn 9999
  exact ⟨by simp [Op.equal, Op.maxDepth, h1], h2⟩
theorem mapAt_some {m : Option Nat} {t : TypeId} {K : List (Value × Value) → Prop} (hb : mapAt P w0 h m t K) (r : Rw w0 h w) :
    isMapT P t = true ∧ ∃ es, K es ∧ (m = none → es = []) ∧ (∀ q, m = some q → h q = some (.map es) ∧ ∃ ents clock, w.heap[q]? = some (.map ents clock) ∧ esOf ents.toList = es ∧ (∀ e ∈ ents.toList, plainKey P t e.key = true) ∧ ents.toList.Pairwise (fun x y => x.born ≠ y.born) ∧ ∀ e ∈ ents.toList, e.born < clock) := by
  unfold mapAt at hb
  split at hb
  · exact hb.elim
  · rename_i hm
    obtain ⟨es, h1, h2, h3, h4⟩ := hb
    refine ⟨hm, es, h4, h1, fun q hq => ?_⟩
    obtain ⟨g1, g2⟩ := h2 q hq
    obtain ⟨_, ob, ho, hf⟩ := r.fits _ _ g2
    cases ob with
    | map ents clock =>
      obtain ⟨hf, hd, hc⟩ := hf
      refine ⟨g2, ents, clock, ho, hf, ?_, hd, hc⟩
      intro e he
      have : (e.key, e.val) ∈ es := by rw [← hf]; exact List.mem_map.2 ⟨e, he, rfl⟩
      exact h3 _ this
    | _ => exact hf.elim

theorem findAsk_eqK {t e : TypeId} {i : TypeInfo} {k : Value} (hu : P.underlying (keyT P t) = some (.pointer e)) (hi : P.info? e = some i) (hz : i.size ≠ 0) (r : Rw w0 h w) (hk : ptrKey w0 h k) (x : Value) : ∀ (l : List MapEntry) (n : Nat), (∀ y ∈ l, ptrKey w0 h y.key) →
    ((Instr.findAsking (keyT P t) k l n).run P w = .ok none w ∧ getM k (esOf l) = none ∧ putM k x (esOf l) = esOf l ++ [(k, x)]) ∨
      ∃ j y, (Instr.findAsking (keyT P t) k l n).run P w = .ok (some (n + j, y.val)) w ∧ l[j]? = some y ∧ y.key = k ∧ getM k (esOf l) = some y.val ∧ putM k x (esOf l) = esOf (l.modify j fun e => { e with key := k, val := x })
  | [], n, _ => .inl ⟨by simp [Instr.findAsking], rfl, rfl⟩
  | y :: l, n, hall => by
    obtain ⟨h1, h2⟩ := ptr_equal (P := P) hu hi hz r hk (hall y (.head _))
    cases hq : eqK k y.key with
    | true =>
      rw [hq] at h1
      exact .inr ⟨0, y, by simp [Instr.findAsking, h1], rfl, (h2 hq).symm, by simp [esOf, getM, hq], by simp [esOf, putM, hq]⟩
    | false =>
      rw [hq] at h1
      rcases findAsk_eqK hu hi hz r hk x l (n + 1) (fun z hz' => hall z (.tail _ hz')) with ⟨r1, r2, r3⟩ | ⟨j, z, r1, r2, r3, r4, r5⟩
      · refine .inl ⟨by simp [Instr.findAsking, h1, r1], ?_, ?_⟩
        · simp only [esOf, List.map_cons, getM, hq] at r2 ⊢; exact r2
        · simp only [esOf, List.map_cons, putM, hq, List.cons_append] at r3 ⊢; rw [r3]
      · refine .inr ⟨j + 1, z, by simp [Instr.findAsking, h1, r1]; omega, by simpa using r2, r3, ?_, ?_⟩
        · simp only [esOf, List.map_cons, getM, hq] at r4 ⊢; exact r4
        · simp only [esOf, List.map_cons, putM, hq, List.modify_succ_cons] at r5 ⊢; rw [r5]
theorem findKeyP {t e : TypeId} {k : Value} (hu : P.underlying (keyT P t) = some (.pointer e)) (l : List MapEntry) : (Instr.findKey (keyT P t) k l).run P w = (Instr.findAsking (keyT P t) k l 0).run P w := by
  cases l with
  | nil => simp [Instr.findKey, run_underlying hu, Result.andThen, Instr.findNow, Instr.findAsking]
  | cons y l => simp [Instr.findKey, run_underlying hu, Result.andThen, Instr.findNow, Instr.sameNow]
theorem checkKeyP {t e : TypeId} {k : Value} (hu : P.underlying (keyT P t) = some (.pointer e)) (hk : ptrKey w0 h k) (b : Bool) : (Instr.checkKey b 10000 (keyT P t) k).run P w = .ok () w := by
  unfold Instr.checkKey
  simp only [Sem.run_bind, run_underlying hu, Result.andThen]
  cases k <;> simp_all [ptrKey]
theorem mapAtP_some {m : Option Nat} {t : TypeId} {K : List (Value × Value) → Prop} (hb : mapAtP P w0 h m t K) (r : Rw w0 h w) :
    isMapT P t = true ∧ ∃ es, K es ∧ (m = none → es = []) ∧ (∀ q, m = some q → h q = some (.map es) ∧ ∃ ents clock, w.heap[q]? = some (.map ents clock) ∧ esOf ents.toList = es ∧ (∀ e ∈ ents.toList, ptrKey w0 h e.key) ∧ ents.toList.Pairwise (fun x y => x.born ≠ y.born) ∧ ∀ e ∈ ents.toList, e.born < clock) := by
  unfold mapAtP at hb
  split at hb
  · exact hb.elim
  · rename_i hm
    obtain ⟨es, h1, h2, h3, h4⟩ := hb
    refine ⟨hm, es, h4, h1, fun q hq => ?_⟩
    obtain ⟨g1, g2⟩ := h2 q hq
    obtain ⟨_, ob, ho, hf⟩ := r.fits _ _ g2
    cases ob with
    | map ents clock =>
      obtain ⟨hf, hd, hc⟩ := hf
      refine ⟨g2, ents, clock, ho, hf, ?_, hd, hc⟩
      intro e he
      have : (e.key, e.val) ∈ es := by rw [← hf]; exact List.mem_map.2 ⟨e, he, rfl⟩
      exact h3 _ this
    | _ => exact hf.elim
theorem lookup_runP {t : TypeId} {m : Option Nat} {k z : Value} {es : List (Value × Value)} {ok : Bool} (r : Rw w0 h w) (hm : isMapT P t = true) (hp : isPtrKey P t = true) (hk : ptrKey w0 h k) (hz : zeroT P (elmT P t) = some z)
    (h1 : m = none → es = []) (h2 : ∀ q, m = some q → ∃ ents clock, w.heap[q]? = some (.map ents clock) ∧ esOf ents.toList = es ∧ ∀ e ∈ ents.toList, ptrKey w0 h e.key) :
    (Instr.lookup t (.map m) k ok).run P w = .ok (if ok then .tuple #[(getM k es).getD z, .bool (getM k es).isSome] else (getM k es).getD z) w := by
  have hu := map_und hm
  obtain ⟨e, i, hd, hi, hsz⟩ := ptrKey_und hp
  have hck : ∀ b, (Instr.checkKey b 10000 (keyT P t) k).run P w = .ok () w := fun b => checkKeyP hd hk b
  cases m with
  | none =>
    have := h1 rfl
    subst this
    have hf : (Instr.findKey (keyT P t) k []).run P w = .ok none w := by rw [findKeyP hd]; simp [Instr.findAsking]
    simp [Instr.lookup, run_und hu, hck, hf, run_zero hz, getM]
  | some q =>
    obtain ⟨ents, clock, ho, rfl, hall⟩ := h2 q rfl
    have hg := MapKept.run_getObj_map (P := P) ho
    rcases findAsk_eqK hd hi hsz r hk k ents.toList 0 hall with ⟨r1, r2, _⟩ | ⟨j, y, r1, _, _, r2, _⟩
    · have hf := (findKeyP (k := k) (w := w) hd ents.toList).trans r1
      simp [Instr.lookup, run_und hu, hck, hg, hf, run_zero hz, r2]
    · have hf := (findKeyP (k := k) (w := w) hd ents.toList).trans r1
      simp [Instr.lookup, run_und hu, hck, hg, hf, r2]

theorem lookup_run {t : TypeId} {m : Option Nat} {k z : Value} {es : List (Value × Value)} {ok : Bool} (hm : isMapT P t = true) (hk : plainKey P t k = true) (hz : zeroT P (elmT P t) = some z)
    (h1 : m = none → es = []) (h2 : ∀ q, m = some q → ∃ ents clock, w.heap[q]? = some (.map ents clock) ∧ esOf ents.toList = es ∧ ∀ e ∈ ents.toList, plainKey P t e.key = true) :
    (Instr.lookup t (.map m) k ok).run P w = .ok (if ok then .tuple #[(getM k es).getD z, .bool (getM k es).isSome] else (getM k es).getD z) w := by
  have hu := map_und hm
  obtain ⟨d, hd, hik⟩ := plainKey_und hk
  have hck : ∀ e, (Instr.checkKey e 10000 (keyT P t) k).run P w = .ok () w := fun e => run_checkKey hd hik e 9999
  cases m with
  | none =>
    have := h1 rfl
    subst this
    have hf : (Instr.findKey (keyT P t) k []).run P w = .ok none w := run_findKey hd rfl
    simp [Instr.lookup, run_und hu, hck, hf, run_zero hz, getM]

  | some q =>
    obtain ⟨ents, clock, ho, rfl, hall⟩ := h2 q rfl
    have hg := MapKept.run_getObj_map (P := P) ho
    rcases findNow_eqK hd hk k ents.toList 0 hall with ⟨r1, r2, _, _⟩ | ⟨j, e, r1, _, _, r2, _, _⟩
    · have hf := run_findKey (w := w) hd r1
      simp [Instr.lookup, run_und hu, hck, hg, hf, run_zero hz, r2]
    · have hf := run_findKey (w := w) hd r1
      simp [Instr.lookup, run_und hu, hck, hg, hf, r2]

theorem esOf_fits (l : Array MapEntry) (clock : Nat) (hd : l.toList.Pairwise (fun x y => x.born ≠ y.born)) (hc : ∀ e ∈ l.toList, e.born < clock) : fits (.map (esOf l.toList)) (.map l clock) := ⟨rfl, hd, hc⟩

theorem push_born {ents : Array MapEntry} {clock : Nat} {k x : Value} (hd : ents.toList.Pairwise (fun x y => x.born ≠ y.born)) (hc : ∀ e ∈ ents.toList, e.born < clock) :
    (ents.push { key := k, val := x, born := clock }).toList.Pairwise (fun x y => x.born ≠ y.born) ∧ ∀ e ∈ (ents.push { key := k, val := x, born := clock }).toList, e.born < clock + 1 := by
  simp only [Array.toList_push]
  refine ⟨?_, ?_⟩
  · rw [List.pairwise_append]
    exact ⟨hd, by simp, fun e he y hy => by simp at hy; subst hy; have := hc e he; show e.born ≠ clock; omega⟩
  · intro e he
    rcases List.mem_append.1 he with he | he
    · have := hc e he; omega
    · simp at he; subst he; show clock < clock + 1; omega
theorem mod_born {ents : Array MapEntry} {clock j : Nat} {k x : Value} (hd : ents.toList.Pairwise (fun x y => x.born ≠ y.born)) (hc : ∀ e ∈ ents.toList, e.born < clock) :
    (ents.modify j fun e => { e with key := k, val := x }).toList.Pairwise (fun x y => x.born ≠ y.born) ∧ ∀ e ∈ (ents.modify j fun e => { e with key := k, val := x }).toList, e.born < clock := by
  have h1 : (ents.modify j fun e => { e with key := k, val := x }).toList.map (·.born) = ents.toList.map (·.born) := by
    apply List.ext_getElem?
    intro i
    simp only [List.getElem?_map, Array.getElem?_toList, Array.getElem?_modify]
    split
    · cases ents[i]? <;> rfl
    · rfl
  have h2 : (ents.toList.map (·.born)).Pairwise (· ≠ ·) := List.pairwise_map.2 hd
  refine ⟨?_, fun e he => ?_⟩
  · rw [← h1] at h2
    exact List.pairwise_map.1 h2
  · have : e.born ∈ ents.toList.map (·.born) := by rw [← h1]; exact List.mem_map.2 ⟨e, he, rfl⟩
    obtain ⟨y, hy, hyb⟩ := List.mem_map.1 this
    rw [← hyb]
    exact hc y hy
theorem era_born {ents : Array MapEntry} {clock j : Nat} (hd : ents.toList.Pairwise (fun x y => x.born ≠ y.born)) (hc : ∀ e ∈ ents.toList, e.born < clock) :
    (ents.eraseIdxIfInBounds j).toList.Pairwise (fun x y => x.born ≠ y.born) ∧ ∀ e ∈ (ents.eraseIdxIfInBounds j).toList, e.born < clock := by
  unfold Array.eraseIdxIfInBounds
  split
  · rw [Array.toList_eraseIdx]
    exact ⟨hd.sublist (List.eraseIdx_sublist _ _), fun e he => hc e (List.mem_of_mem_eraseIdx he)⟩
  · exact ⟨hd, hc⟩

theorem setMap (s : St w0 fr β env bx h a w) {q : Nat} {es : List (Value × Value)} (hq : h q = some (.map es)) {ents : Array MapEntry} {clock : Nat} (ho : w.heap[q]? = some (.map ents clock)) (ents' : Array MapEntry) (clock' : Nat) (hd : ents'.toList.Pairwise (fun x y => x.born ≠ y.born)) (hc : ∀ e ∈ ents'.toList, e.born < clock') :
    St w0 fr β env bx (h.putm q (esOf ents'.toList)) a { w with heap := w.heap.setIfInBounds q (.map ents' clock') } := by
  obtain ⟨h1, h2⟩ := MapKept.heap_set (o' := .map ents' clock') ho
  exact s.putM (w' := { w with heap := w.heap.setIfInBounds q (.map ents' clock') }) hq rfl rfl rfl (by simp) (fun i _ hi => h2 i hi) h1 (esOf_fits ents' clock' hd hc)

theorem sameBits_key {d : TypeDesc} {k : Value} (hk : IsKey d k) : Instr.sameBits 10000 k k = true := by
  cases d <;> cases k <;> simp_all [IsKey, Instr.sameBits, bytes_beq]

theorem mapUpdate_run (s : St w0 fr β env bx h a w) {t : TypeId} {q : Nat} {k x : Value} {es : List (Value × Value)} (hm : isMapT P t = true) (hk : plainKey P t k = true) (hq : h q = some (.map es))
    {ents : Array MapEntry} {clock : Nat} (ho : w.heap[q]? = some (.map ents clock)) (hes : esOf ents.toList = es) (hall : ∀ e ∈ ents.toList, plainKey P t e.key = true) (hdi : ents.toList.Pairwise (fun x y => x.born ≠ y.born)) (hc : ∀ e ∈ ents.toList, e.born < clock) :
    ∃ w', (Instr.mapUpdate t (.map (some q)) k x).run P w = .ok () w' ∧ St w0 fr β env bx (h.putm q (putM k x es)) a w' := by
  have hu := map_und hm
  obtain ⟨d, hd, hik⟩ := plainKey_und hk
  have hck : ∀ e, (Instr.checkKey e 10000 (keyT P t) k).run P w = .ok () w := fun e => run_checkKey hd hik e 9999
  have hg := MapKept.run_getObj_map (P := P) ho
  subst hes
  rcases findNow_eqK hd hk x ents.toList 0 hall with ⟨r1, _, r2, _⟩ | ⟨j, e, r1, rj, rk, _, r2, _⟩
  · have hf := run_findKey (w := w) hd r1
    have hst := setMap s hq ho (ents.push { key := k, val := x, born := clock }) (clock + 1) (push_born hdi hc).1 (push_born hdi hc).2
    have eq1 : esOf (ents.push { key := k, val := x, born := clock }).toList = putM k x (esOf ents.toList) := by rw [r2]; simp [esOf]
    rw [eq1] at hst
    have := MapKept.run_setObj_map (P := P) (.map (ents.push { key := k, val := x, born := clock }) (clock + 1)) ho
    exact ⟨_, by simp [Instr.mapUpdate, run_und hu, hck, hg, hf, this], hst⟩
  · have hf := run_findKey (w := w) hd r1
    have hj : ents[j]? = some e := by simpa using rj
    have hst := setMap s hq ho (ents.modify j fun e => { e with key := k, val := x }) clock (mod_born hdi hc).1 (mod_born hdi hc).2
    have eq1 : esOf (ents.modify j fun e => { e with key := k, val := x }).toList = putM k x (esOf ents.toList) := by rw [r2]; simp
    rw [eq1] at hst
    have h3 := MapKept.run_setObj_map (P := P) (.map (ents.modify j fun e => { e with key := k, val := x }) clock) ho
    have hkk : (Instr.keyThatStays e.key k).run P w = .ok k w := by
      rw [rk]
      simp [Instr.keyThatStays, sameBits_key hik]
    exact ⟨_, by simp [Instr.mapUpdate, run_und hu, hck, hg, hf, hj, hkk, h3], hst⟩

theorem mapUpdate_runP (s : St w0 fr β env bx h a w) {t : TypeId} {q : Nat} {k x : Value} {es : List (Value × Value)} (hm : isMapT P t = true) (hp : isPtrKey P t = true) (hk : ptrKey w0 h k) (hq : h q = some (.map es))
    {ents : Array MapEntry} {clock : Nat} (ho : w.heap[q]? = some (.map ents clock)) (hes : esOf ents.toList = es) (hall : ∀ e ∈ ents.toList, ptrKey w0 h e.key) (hdi : ents.toList.Pairwise (fun x y => x.born ≠ y.born)) (hc : ∀ e ∈ ents.toList, e.born < clock) :
    ∃ w', (Instr.mapUpdate t (.map (some q)) k x).run P w = .ok () w' ∧ St w0 fr β env bx (h.putm q (putM k x es)) a w' := by
  have hu := map_und hm
  obtain ⟨e0, i0, hd, hi, hsz⟩ := ptrKey_und hp
  have hck : ∀ b, (Instr.checkKey b 10000 (keyT P t) k).run P w = .ok () w := fun b => checkKeyP hd hk b
  have hg := MapKept.run_getObj_map (P := P) ho
  subst hes
  rcases findAsk_eqK hd hi hsz s.rw hk x ents.toList 0 hall with ⟨r1, _, r2⟩ | ⟨j, e, r1, rj, rk, _, r2⟩
  · have hf := (findKeyP (k := k) (w := w) hd ents.toList).trans r1
    have hst := setMap s hq ho (ents.push { key := k, val := x, born := clock }) (clock + 1) (push_born hdi hc).1 (push_born hdi hc).2
    have eq1 : esOf (ents.push { key := k, val := x, born := clock }).toList = putM k x (esOf ents.toList) := by rw [r2]; simp [esOf]
    rw [eq1] at hst
    have := MapKept.run_setObj_map (P := P) (.map (ents.push { key := k, val := x, born := clock }) (clock + 1)) ho
    exact ⟨_, by simp [Instr.mapUpdate, run_und hu, hck, hg, hf, this], hst⟩
  · have hf := (findKeyP (k := k) (w := w) hd ents.toList).trans r1
    have hj : ents[j]? = some e := by simpa using rj
    have hst := setMap s hq ho (ents.modify j fun e => { e with key := k, val := x }) clock (mod_born hdi hc).1 (mod_born hdi hc).2
    have eq1 : esOf (ents.modify j fun e => { e with key := k, val := x }).toList = putM k x (esOf ents.toList) := by rw [r2]; simp
    rw [eq1] at hst
    have h3 := MapKept.run_setObj_map (P := P) (.map (ents.modify j fun e => { e with key := k, val := x }) clock) ho
    have hkk : (Instr.keyThatStays e.key k).run P w = .ok k w := by
      rw [rk]
      have : Instr.sameBits 10000 k k = true := by
        rcases ptrKey_known s.rw hk with rfl | ⟨b, _, _, _, rfl, _⟩ <;> simp [Instr.sameBits]
      simp [Instr.keyThatStays, this]
    exact ⟨_, by simp [Instr.mapUpdate, run_und hu, hck, hg, hf, hj, hkk, h3], hst⟩

theorem delete_run (s : St w0 fr β env bx h a w) {t ty : TypeId} {ats : Array TypeId} {q : Nat} {k : Value} {es : List (Value × Value)} (hat : ats[0]? = some t) (hm : isMapT P t = true) (hk : plainKey P t k = true) (hq : h q = some (.map es))
    {ents : Array MapEntry} {clock : Nat} (ho : w.heap[q]? = some (.map ents clock)) (hes : esOf ents.toList = es) (hall : ∀ e ∈ ents.toList, plainKey P t e.key = true) (hdi : ents.toList.Pairwise (fun x y => x.born ≠ y.born)) (hc : ∀ e ∈ ents.toList, e.born < clock) :
    ∃ w', (Builtin.delete_ ats ty #[.map (some q), k]).run P w = .ok (.tuple #[]) w' ∧ St w0 fr β env bx (h.putm q (delM k es)) a w' := by
  have hu := map_und hm
  obtain ⟨d, hd, hik⟩ := plainKey_und hk
  have hck : ∀ e, (Instr.checkKey e 10000 (keyT P t) k).run P w = .ok () w := fun e => run_checkKey hd hik e 9999
  have hg := MapKept.run_getObj_map (P := P) ho
  subst hes
  rcases findNow_eqK hd hk k ents.toList 0 hall with ⟨r1, _, _, r2⟩ | ⟨j, e, r1, rj, rk, _, _, r2⟩
  · have hf := run_findKey (w := w) hd r1
    have hst := setMap s hq ho ents clock hdi hc
    rw [← r2] at hst
    have := MapKept.run_setObj_map (P := P) (.map ents clock) ho
    exact ⟨_, by simp [Builtin.delete_, hat, run_und hu, hck, hg, hf, this], hst⟩
  · have hf := run_findKey (w := w) hd r1
    have hst := setMap s hq ho (ents.eraseIdxIfInBounds j) clock (era_born hdi hc).1 (era_born hdi hc).2
    have hl : j < ents.size := by
      have := (List.getElem?_eq_some_iff.1 rj).1
      simpa using this
    have eq1 : esOf (ents.eraseIdxIfInBounds j).toList = delM k (esOf ents.toList) := by rw [r2]; simp [Array.eraseIdxIfInBounds, hl]
    rw [eq1] at hst
    have := MapKept.run_setObj_map (P := P) (.map (ents.eraseIdxIfInBounds j) clock) ho
    exact ⟨_, by simp [Builtin.delete_, hat, run_und hu, hck, hg, hf, this], hst⟩

/-! ### new rows -/
theorem replF_get (zs : List Value) : ∀ (n i : Nat) (x : Value), (replF n zs)[i]? = some x → i < n * zs.length ∧ zs[i % zs.length]? = some x
  | 0, i, x, hx => by simp [replF] at hx
  | n + 1, i, x, hx => by
    simp only [replF, List.getElem?_append] at hx
    split at hx
    · rename_i hl
      refine ⟨by rw [Nat.succ_mul]; omega, ?_⟩
      rw [Nat.mod_eq_of_lt hl]; exact hx
    · rename_i hl
      obtain ⟨h1, h2⟩ := replF_get zs n _ x hx
      refine ⟨by rw [Nat.succ_mul]; omega, ?_⟩
      rw [Nat.mod_eq_sub_mod (by omega)]; exact h2
theorem replF_length (zs : List Value) : ∀ n : Nat, (replF n zs).length = n * zs.length
  | 0 => by simp [replF]
  | n + 1 => by simp only [replF, List.length_append, replF_length zs n, Nat.succ_mul]; omega

theorem fits_made (z : Value) (n sz : Nat) (hz : z.cells.size = sz) (T : TypeId) : fits (.cells (replF n z.cells.toList) (n * sz)) (.cells (madeCells z.cells (n * sz)) T) := by
  subst hz
  refine ⟨size_madeCells _ _, by simp [replF_length], fun i x hx => ?_, fun i _ => by simp⟩
  obtain ⟨h1, h2⟩ := replF_get _ _ _ _ hx
  simp only [Array.length_toList, Array.getElem?_toList] at h1 h2
  have h3 : 0 < z.cells.size := by
    rcases Nat.eq_zero_or_pos z.cells.size with h | h
    · rw [h] at h1; omega
    · exact h
  have h4 := Nat.mod_lt i h3
  rw [Array.getElem?_eq_getElem h4] at h2
  simp only [madeCells, Array.getElem?_map, Array.getElem?_range, h1, if_true, Option.map_some, Option.some.injEq]
  rw [getElem!_pos z.cells _ h4]
  simpa using h2

theorem put_put (h : AH) (b : Nat) (o o' : AB) : (h.put b o).put b o' = h.put b o' := by
  funext i
  simp only [AH.put]
  split <;> rfl

theorem fold_bytes : ∀ (l : List UInt8) (r : ByteArray), (l.map fun b : UInt8 => (b.toNat : Int)).foldl (fun r n => r.push (UInt8.ofNat n.toNat)) r = ⟨r.data ++ l.toArray⟩
  | [], r => by simp
  | b :: l, r => by
    simp only [List.map_cons, List.foldl_cons]
    rw [fold_bytes l]
    simp [ByteArray.push]

theorem ints_bytes (s : ByteArray) : (s.data.toList.map fun b : UInt8 => (b.toNat : Int)).foldl (fun r n => r.push (UInt8.ofNat n.toNat)) ByteArray.empty = s := by
  rw [fold_bytes]
  obtain ⟨d⟩ := s
  simp [ByteArray.empty, ByteArray.emptyWithCapacity]
  rfl

theorem toBytes_run (s : St w0 fr β env bx h a w) (e : TypeId) (str : ByteArray) {K : Value → AH → Prop}
    (hb : ∀ cap, str.size ≤ cap → newB w0 h (.strb (intsOf str)) fun b h' => K (.slice (some ⟨b, 0, none⟩) str.size cap) h') :
    ∃ y h' w', K y h' ∧ St w0 fr β env bx h' a w' ∧ (Conv.stringToBytes e str).run P w = .ok y w' := by
  have hcap := cut_le w str.size 0 e
  have hn := hb _ hcap w.heap.size s.rw.below.size s.rw.fresh
  let cs : Array Value := str.data.map (fun b : UInt8 => Value.int .u8 b.toNat) ++ Array.replicate (grownCap w str.size 0 e - str.size) (.int .u8 0)
  have hcs : cs.size = grownCap w str.size 0 e := by
    have : str.data.size = str.size := rfl
    simp [cs, this]; omega
  have hfit : ∀ fr : Nat × Nat, fits (.strb (intsOf str)) (.cells cs e fr) := fun fr i x hx => by
    have hi := (List.getElem?_eq_some_iff.1 hx).1
    rw [intsOf_length] at hi
    have hi' : i < str.data.size := hi
    rw [Array.getElem?_append]
    rw [if_pos (by simpa using hi')]
    simpa [intsOf] using hx
  have s1 : St w0 fr β env bx (h.put w.heap.size _) a (w.drew.alloc (.cells cs e)) := (s.drew).new (hfit (0, 0))
  have hh := put_same h w.heap.size (.strb (intsOf str))
  have hob : ((w.drew.alloc (.cells cs e)).freeze ⟨w.heap.size, cs.size, none⟩ 1).heap[w.heap.size]? = some (.cells cs e (cs.size, cs.size + 1)) := by
    have h1 : (w.drew.alloc (.cells cs e)).heap[w.heap.size]? = some (.cells cs e (0, 0)) := heap_alloc_new' w.drew (.cells cs e)
    simp only [World.freeze]
    rw [if_neg (by omega), Array.getElem?_modify, if_pos rfl, h1]
    rfl
  have hoth : ∀ i, i < (w.drew.alloc (.cells cs e)).heap.size → i ≠ w.heap.size → ((w.drew.alloc (.cells cs e)).freeze ⟨w.heap.size, cs.size, none⟩ 1).heap[i]? = (w.drew.alloc (.cells cs e)).heap[i]? := fun i _ hi => by
    simp only [World.freeze]
    rw [if_neg (by omega)]
    simp only [Array.getElem?_modify]
    rw [if_neg (Ne.symm hi)]
  have s2 := s1.put (w' := (w.drew.alloc (.cells cs e)).freeze ⟨w.heap.size, cs.size, none⟩ 1) hh
    (by simp [World.freeze]) (by simp [World.freeze]) (by simp [World.freeze]) (by simp [World.freeze]) hoth hob (hfit _)
  rw [put_put] at s2
  refine ⟨_, _, _, hn, s2, ?_⟩
  have hshape : (w.drew.alloc (.cells cs e)).shape? w.heap.size = some (e, cs.size) := by
    have h1 : (w.drew.alloc (.cells cs e)).heap[w.heap.size]? = some (.cells cs e (0, 0)) := heap_alloc_new' w.drew (.cells cs e)
    simp only [World.shape?, h1]
  simp only [Conv.stringToBytes, Sem.run_bind]
  rw [run_choose_drew, if_neg (by simp [Question.forced])]
  simp only [Result.andThen_ok, newRow, Sem.run_bind, run_newObj, Sem.run_pure, markStringish, run_shape]
  erw [hshape]
  rfl

theorem toString_run {str : ByteArray} {ad : Option Addr} {n c : Nat} (hl : (intsOf str).length = n * 1) (hc : ∀ a', ad = some a' → ∀ j v, (intsOf str)[j]? = some v → w.cell? (a'.add j) = some v) (hn : ad = none → intsOf str = []) :
    (Conv.bytesToString (.slice ad n c)).run P w = .ok (.string str) w := by
  cases ad with
  | none =>
    have h0 := hn rfl
    have : str = .empty := by
      apply bytes_ext
      simpa [intsOf] using h0
    subst this
    rfl
  | some a' =>
    have hr := run_loadCells_list (P := P) (w := w) a' (intsOf str) (hc a' rfl)
    rw [hl, Nat.mul_one] at hr
    have := run_bytesToString (P := P) w a' n c (str.data.toList.map fun b : UInt8 => (b.toNat : Int)) (by rw [hr]; simp [intsOf])
    rw [this, ints_bytes]

/-! ### ranges -/
theorem range_run (s : St w0 fr β env bx h a w) {t : TypeId} {x : Value} {K : Value → AH → Prop} (hb : rangeR P w0 t x h K) :
    ∃ y h' w', K y h' ∧ St w0 fr β env bx h' a w' ∧ (Instr.range t x).run P w = .ok y w' := by
  unfold rangeR at hb
  split at hb
  · rename_i str hu
    refine ⟨_, _, w.alloc (.stringIter str 0), hb w.heap.size s.rw.below.size s.rw.fresh, s.new (o := .sit str 0) (ob := .stringIter str 0) ⟨rfl, rfl⟩, ?_⟩
    simp [Instr.range, run_und hu]
  · rename_i k e m hu
    obtain ⟨hb0, hb1⟩ := hb
    cases m with
    | none =>
      refine ⟨_, _, w.alloc (.mapIter none 0 #[] 0), hb0 rfl w.heap.size s.rw.below.size s.rw.fresh, s.newG (o := .mit none (List.range 0) none) (ob := .mapIter none 0 #[] 0) rfl ?_, ?_⟩
      · intro m l c e
        injection e with e1 e2 e3
        subst e1 e2 e3
        exact ⟨0, #[], 0, heap_alloc_new' w _, fun _ => rfl, fun q hq => by cases hq⟩
      · simp [Instr.range, run_und hu]
    | some q =>
      obtain ⟨es, hq, hk⟩ := hb1 q rfl
      obtain ⟨_, ob, ho, hf⟩ := s.rw.fits _ _ hq
      cases ob with
      | map ents clock =>
        obtain ⟨rfl, hdi, hc⟩ := hf
        have hql := (Array.getElem?_eq_some_iff.1 ho).1
        refine ⟨_, _, w.alloc (.mapIter (some q) clock #[] clock), hk w.heap.size s.rw.below.size s.rw.fresh, s.newG (o := .mit (some q) (List.range _) none) (ob := .mapIter (some q) clock #[] clock) rfl ?_, ?_⟩
        · intro m l c e
          injection e with e1 e2 e3
          subst e1 e2 e3
          refine ⟨clock, #[], clock, heap_alloc_new' w _, (fun e => by cases e), fun q' hq' => ?_⟩
          injection hq' with hq'
          subst hq'
          refine ⟨_, (heap_alloc_old w _ q hql).trans ho, fun ents' clock' e' => ?_⟩
          injection e' with e1 e2
          subst e1 e2
          refine ⟨rfl, rfl, ?_, fun c hc => by cases hc⟩
          unfold leftI
          rw [List.filter_eq_self.2]
          · simp
          · intro i _
            cases ents[i]? <;> simp
        · have hg := MapKept.run_getObj_map (P := P) ho
          simp [Instr.range, run_und hu, hg]
      | _ => exact hf.elim
  · exact hb.elim

theorem leftI_erase {ents : Array MapEntry} {seen : Array Nat} {i : Nat} {e : MapEntry} (hi : ents[i]? = some e) (hd : ents.toList.Pairwise (fun x y => x.born ≠ y.born)) :
    leftI ents (seen.push e.born) = (leftI ents seen).erase i := by
  have hnd : (leftI ents seen).Nodup := List.Nodup.sublist List.filter_sublist List.nodup_range
  rw [hnd.erase_eq_filter]
  unfold leftI
  rw [List.filter_filter]
  apply List.filter_congr
  intro j hj
  have hj' : j < ents.size := by simpa using hj
  have hil := (Array.getElem?_eq_some_iff.1 hi).1
  rw [Array.getElem?_eq_getElem hj']
  simp only [Option.any_some, contains_push, Bool.not_or]
  have key : (ents[j].born == e.born) = (j == i) := by
    by_cases eq : j = i
    · subst eq
      rw [Array.getElem?_eq_getElem hj'] at hi
      injection hi with hi
      rw [hi]; simp
    · have hne : ents[j].born ≠ e.born := by
        have he : ents[i] = e := by
          rw [Array.getElem?_eq_getElem hil] at hi
          injection hi
        rw [← he]
        rcases Nat.lt_or_ge j i with h | h
        · have := List.pairwise_iff_getElem.1 hd j i (by simpa using hj') (by simpa using hil) h
          simpa using this
        · have := List.pairwise_iff_getElem.1 hd i j (by simpa using hil) (by simpa using hj') (by omega)
          exact fun q => this (by simpa using q.symm)
      rw [beq_eq_false_iff_ne.2 hne, beq_eq_false_iff_ne.2 eq]
  rw [key]
  simp only [bne]
  cases seen.contains ents[j].born <;> cases (j == i) <;> rfl

theorem next_run (s : St w0 fr β env bx h a w) {isS : Bool} {x : Value} {K : Value → AH → Prop} (hb : nextR isS x h K) (ty : TypeId) :
    ∃ y h' w', K y h' ∧ St w0 fr β env bx h' a w' ∧ (Instr.next x isS ty).run P w = .ok y w' := by
  unfold nextR at hb
  split at hb
  · rename_i ad
    cases isS with
    | true =>
      obtain ⟨str, pos, hoff, hh, h1, h0⟩ := hb
      obtain ⟨b, off, sp⟩ := ad
      simp only at hoff hh h1 h0
      subst hoff
      obtain ⟨_, ob, ho, hf⟩ := s.rw.fits _ _ hh
      cases ob with
      | stringIter str' pos' =>
        obtain ⟨rfl, rfl⟩ := hf
        have hg : (getObj b).run P w = .ok (.stringIter str' pos') w := by simp [getObj, Sem.run, ho]
        by_cases hl : pos' < str'.size
        · obtain ⟨g1, g2⟩ := MapKept.heap_set (o' := .stringIter str' (pos' + (Utf8.decode str' pos').2)) ho
          refine ⟨_, _, { w with heap := w.heap.setIfInBounds b (.stringIter str' (pos' + (Utf8.decode str' pos').2)) }, h1 hl, s.put (w' := { w with heap := w.heap.setIfInBounds b (.stringIter str' (pos' + (Utf8.decode str' pos').2)) }) hh rfl rfl rfl (by simp) (fun i _ hi => g2 i hi) g1 ⟨rfl, rfl⟩, ?_⟩
          have hset : (setObj b (.stringIter str' (pos' + (Utf8.decode str' pos').2))).run P w = .ok () { w with heap := w.heap.setIfInBounds b (.stringIter str' (pos' + (Utf8.decode str' pos').2)) } := by
            simp [setObj, Sem.run, ho]
          simp [Instr.next, hg, hl, hset, goInt]
        · exact ⟨_, _, w, h0 (by omega), s, by simp [Instr.next, hg, hl]⟩
      | _ => exact hf.elim
    | false =>
      obtain ⟨m, left, cur, hoff, hh, h0, h1⟩ := hb
      obtain ⟨b, off, sp⟩ := ad
      simp only at hoff hh h1 h0
      subst hoff
      obtain ⟨since, seen, last, ho, hnil, hits⟩ := s.rw.its _ _ _ _ hh
      have hg : (getObj b).run P w = .ok (.mapIter m since seen last) w := by simp [getObj, Sem.run, ho]
      cases m with
      | none => exact ⟨_, _, w, h0 (hnil rfl), s, by simp [Instr.next, hg]⟩
      | some q =>
        obtain ⟨oq, hoq, hit⟩ := hits q rfl
        obtain ⟨es, hq, hk⟩ := h1 q rfl
        obtain ⟨_, ob, ho2, hf⟩ := s.rw.fits _ _ hq
        rw [hoq] at ho2
        injection ho2 with ho2
        subst ho2
        cases oq with
        | map ents clock =>
          obtain ⟨rfl, hdi, hc⟩ := hf
          obtain ⟨rfl, rfl, rfl, hcur⟩ := hit ents clock rfl
          rcases run_next_at (P := P) w ty b q last last seen ents last ho hoq hc (Nat.le_refl _) with ⟨hz, hr⟩ | ⟨e, he, w1, hw1, hr⟩
          · refine ⟨_, _, w, h0 ?_, s, hr⟩
            unfold leftI
            rw [List.filter_eq_nil_iff]
            intro i hi hn
            have hi' : i < ents.size := by simpa using hi
            have hz' : leftOf ents seen = #[] := Array.eq_empty_of_size_eq_zero hz
            have : ents[i] ∈ leftOf ents seen := by
              unfold leftOf
              refine Array.mem_filter.2 ⟨Array.getElem_mem hi', ?_⟩
              rw [Array.getElem?_eq_getElem hi'] at hn
              simpa using hn
            rw [hz'] at this
            simp at this
          · obtain ⟨hmem, hns⟩ := mem_left he
            obtain ⟨i, hi⟩ := List.mem_iff_getElem?.1 hmem
            have hi' : ents[i]? = some e := by simpa using hi
            have hil := (Array.getElem?_eq_some_iff.1 hi').1
            have hin : i ∈ leftI ents seen := by
              unfold leftI
              refine List.mem_filter.2 ⟨List.mem_range.2 hil, ?_⟩
              rw [hi']
              simp only [Option.any_some, hns, Bool.not_false]
            have hkk := hk i e.key e.val hin (by simp [hi'])
            have s1 : St w0 fr β env bx h a w1 := by rcases hw1 with rfl | rfl; exact s; exact s.drew
            have ho1 : w1.heap[b]? = some (.mapIter (some q) last seen last) := by rcases hw1 with rfl | rfl <;> exact ho
            have hoq1 : w1.heap[q]? = some (.map ents last) := by rcases hw1 with rfl | rfl <;> exact hoq
            obtain ⟨g1, g2⟩ := MapKept.heap_set (o' := .mapIter (some q) last (seen.push e.born) last) ho1
            have hqb : q ≠ b := fun e => by subst e; rw [hoq] at ho; cases ho
            refine ⟨_, _, _, hkk, ?_, hr⟩
            refine s1.putG (w' := { w1 with heap := w1.heap.setIfInBounds b (.mapIter (some q) last (seen.push e.born) last) }) hh rfl rfl rfl (by simp) (fun i _ hi => g2 i hi) g1 rfl (fun _ _ e => by cases e) ?_
            intro m l c e'
            injection e' with e1 e2 e3
            subst e1 e2 e3
            refine ⟨last, seen.push e.born, last, g1, (fun e => by cases e), fun q' hq' => ?_⟩
            injection hq' with hq'
            subst hq'
            refine ⟨_, (g2 q hqb).trans hoq1, fun ents' clock' e' => ?_⟩
            injection e' with e1 e2
            subst e1 e2
            refine ⟨rfl, rfl, leftI_erase hi' hdi, fun c hc => ?_⟩
            injection hc with hc
            subst hc
            exact ⟨e, hi', by simp⟩
        | _ => exact hf.elim
  · exact hb.elim

theorem exK_some {t : Option TypeId} {K : Value → Prop} (hb : exK P t K) : ∃ x, K x := by
  unfold exK at hb
  split at hb
  · obtain ⟨x, hk, _⟩ := exT_some hb
    exact ⟨x, hk⟩
  · exact hb

theorem entry_run (s : St w0 fr β env bx h a w) {kt et : Option TypeId} {x : Value} {K : Value → Prop} (hb : entryR P kt et x h K) :
    ∃ y, K y ∧ (Instr.entry x).run P w = .ok y w := by
  unfold entryR at hb
  split at hb
  · rename_i ad
    · obtain ⟨q, left, c, es, hoff, hh, hq, hb⟩ := hb
      obtain ⟨k, hb⟩ := exK_some hb
      obtain ⟨v, hin, hk⟩ := exK_some hb
      obtain ⟨b, off, sp⟩ := ad
      simp only at hoff hh
      subst hoff
      obtain ⟨since, seen, last, ho, hnil, hits⟩ := s.rw.its _ _ _ _ hh
      obtain ⟨oq, hoq, hit⟩ := hits q rfl
      obtain ⟨_, ob, ho2, hf⟩ := s.rw.fits _ _ hq
      rw [hoq] at ho2
      injection ho2 with ho2
      subst ho2
      cases oq with
      | map ents clock =>
        obtain ⟨rfl, hdi, hc⟩ := hf
        obtain ⟨rfl, rfl, rfl, hcur⟩ := hit ents clock rfl
        obtain ⟨e, he, hback⟩ := hcur c rfl
        have hin' : (e.key, e.val) = (k, v) := by
          unfold entIs at hin
          simp [he] at hin
          simp [hin]
        injection hin' with hk1 hk2
        subst hk1 hk2
        refine ⟨_, hk, ?_⟩
        have hmem : e ∈ ents.toList := List.mem_iff_getElem?.2 ⟨c, by simpa using he⟩
        have hfi : ents.find? (·.born == e.born) = some e := by
          rw [← Array.find?_toList]
          exact find_born e ents.toList (List.pairwise_map.2 hdi) hmem
        have hg : (getObj b).run P w = .ok (.mapIter (some q) last seen last) w := by simp [getObj, Sem.run, ho]
        have hg2 := MapKept.run_getObj_map (P := P) hoq
        simp [Instr.entry, hg, hback, hg2, hfi]
      | _ => exact hf.elim
  · exact hb.elim
end
end Go.G
