/- Each operation does what the evaluator says of it: new blocks, maps, conversions, calls. -/
import Derived.Test.YtpnhlgghpciofaaGSound
import Derived.MapKept
namespace Go.G
open Go.RowKit Go.MapKept

section
variable {P : Program} {w0 : World} {fr : Fr} {β : Nat → Nat} {env : Env} {bx : Bxs} {h : AH} {a : Act} {w : World}

theorem boxNew_ok (s : St w0 fr β env bx h a w) {cs : List Value} (T : TypeId) {K : Nat → Bxs → Prop} (hb : boxNew env bx cs K) :
    ∃ β', K bx.length (bx ++ [some cs]) ∧ β' bx.length = w.heap.size ∧ St w0 fr β' env (bx ++ [some cs]) h a (w.alloc (.cells cs.toArray T)) := by
  unfold boxNew at hb
  split at hb
  · exact hb.elim
  · rename_i hn
    exact ⟨_, hb, by simp, s.boxNew cs T hn⟩

/-! ### maps -/
theorem map_und {t : TypeId} (hm : isMapT P t = true) : P.underlying t = some (.map (keyT P t) (elmT P t)) := by
  unfold isMapT at hm
  split at hm
  · rename_i k e hu
    simp [keyT, elmT, hu]
  · cases hm

theorem plainKey_und {t : TypeId} {k : Value} (hk : plainKey P t k = true) : ∃ d, P.underlying (keyT P t) = some d ∧ IsKey d k := by
  unfold plainKey at hk
  split at hk
  · rename_i x y z hu
    have : x = y := by simpa using hk
    subst this
    exact ⟨_, hu, by simp [IsKey]⟩
  · rename_i hu
    exact ⟨_, hu, by simp [IsKey]⟩
  · rename_i hu
    exact ⟨_, hu, by simp [IsKey]⟩
  · cases hk

theorem sameNow_eqK {t : TypeId} {d : TypeDesc} {k k' : Value} (hd : P.underlying (keyT P t) = some d) (hk : plainKey P t k = true) (hk' : plainKey P t k' = true) :
    Instr.sameNow d k k' = some (eqK k k') ∧ (eqK k k' = true → k = k') := by
  unfold plainKey at hk hk'
  rw [hd] at hk hk'
  cases d <;> cases k <;> cases k' <;> simp_all [Instr.sameNow, eqK]
  rename_i x y
  by_cases e : x = y
  · subst e
    simp [(bytes_beq x x).2 rfl]
  · have : ¬ (x == y) = true := fun q => e ((bytes_beq x y).1 q)
    simp [this, e]

def esOf (l : List MapEntry) : List (Value × Value) := l.map fun e => (e.key, e.val)

theorem findNow_eqK {t : TypeId} {d : TypeDesc} {k : Value} (hd : P.underlying (keyT P t) = some d) (hk : plainKey P t k = true) (x : Value) : ∀ (l : List MapEntry) (i : Nat), (∀ e ∈ l, plainKey P t e.key = true) →
    (Instr.findNow d k l i = some none ∧ getM k (esOf l) = none ∧ putM k x (esOf l) = esOf l ++ [(k, x)] ∧ delM k (esOf l) = esOf l) ∨
      ∃ j e, Instr.findNow d k l i = some (some (i + j, e.val)) ∧ l[j]? = some e ∧ e.key = k ∧ getM k (esOf l) = some e.val ∧
        putM k x (esOf l) = esOf (l.modify j fun e => { e with key := k, val := x }) ∧ delM k (esOf l) = esOf (l.eraseIdx j)
  | [], i, _ => .inl ⟨rfl, rfl, rfl, rfl⟩
  | e :: es, i, hall => by
    obtain ⟨h1, h2⟩ := sameNow_eqK hd hk (hall e (.head _))
    cases hq : eqK k e.key with
    | true =>
      rw [hq] at h1
      exact .inr ⟨0, e, by simp [Instr.findNow, h1], rfl, (h2 hq).symm, by simp [esOf, getM, hq], by simp [esOf, putM, hq], by simp [esOf, delM, hq]⟩
    | false =>
      rw [hq] at h1
      rcases findNow_eqK hd hk x es (i + 1) (fun y hy => hall y (.tail _ hy)) with ⟨r1, r2, r3, r4⟩ | ⟨j, y, r1, r2, r3, r4, r5, r6⟩
      · refine .inl ⟨by simp [Instr.findNow, h1, r1], ?_, ?_, ?_⟩
        · simp only [esOf, List.map_cons, getM, hq] at r2 ⊢; exact r2
        · simp only [esOf, List.map_cons, putM, hq, List.cons_append] at r3 ⊢; rw [r3]
        · simp only [esOf, List.map_cons, delM, hq] at r4 ⊢; rw [r4]
      · refine .inr ⟨j + 1, y, by simp [Instr.findNow, h1, r1]; omega, by simpa using r2, r3, ?_, ?_, ?_⟩
        · simp only [esOf, List.map_cons, getM, hq] at r4 ⊢; exact r4
        · simp only [esOf, List.map_cons, putM, hq, List.modify_succ_cons] at r5 ⊢; rw [r5]
        · simp only [esOf, List.map_cons, delM, hq, List.eraseIdx_cons_succ] at r6 ⊢; rw [r6]

theorem mapAt_some {m : Option Nat} {t : TypeId} {K : List (Value × Value) → Prop} (hb : mapAt P w0 h m t K) (r : Rw w0 h w) :
    isMapT P t = true ∧ ∃ es, K es ∧ (m = none → es = []) ∧ (∀ q, m = some q → h q = some (.map es) ∧ ∃ ents clock, w.heap[q]? = some (.map ents clock) ∧ esOf ents.toList = es ∧ ∀ e ∈ ents.toList, plainKey P t e.key = true) := by
  unfold mapAt at hb
  split at hb
  · exact hb.elim
  · rename_i hm
    obtain ⟨es, h1, h2, h3, h4⟩ := hb
    refine ⟨hm, es, h4, h1, fun q hq => ?_⟩
    obtain ⟨g1, g2⟩ := h2 q hq
    obtain ⟨_, ob, ho, hf⟩ := r.fits _ _ g2
    cases ob with
    | map ents clock =>
      refine ⟨g2, ents, clock, ho, hf, fun e he => ?_⟩
      have : (e.key, e.val) ∈ es := by rw [← hf]; exact List.mem_map.2 ⟨e, he, rfl⟩
      exact h3 _ this
    | _ => exact hf.elim

theorem lookup_run {t : TypeId} {m : Option Nat} {k z : Value} {es : List (Value × Value)} {ok : Bool} (hm : isMapT P t = true) (hk : plainKey P t k = true) (hz : zeroT P (elmT P t) = some z)
    (h1 : m = none → es = []) (h2 : ∀ q, m = some q → ∃ ents clock, w.heap[q]? = some (.map ents clock) ∧ esOf ents.toList = es ∧ ∀ e ∈ ents.toList, plainKey P t e.key = true) :
    (Instr.lookup t (.map m) k ok).run P w = .ok (if ok then .tuple #[(getM k es).getD z, .bool (getM k es).isSome] else (getM k es).getD z) w := by
  have hu := map_und hm
  obtain ⟨d, hd, hik⟩ := plainKey_und hk
  have hck : ∀ e, (Instr.checkKey e 10000 (keyT P t) k).run P w = .ok () w := fun e => run_checkKey hd hik e 9999
  cases m with
  | none =>
    have := h1 rfl
    subst this
    have hf : (Instr.findKey (keyT P t) k []).run P w = .ok none w := run_findKey hd rfl
    simp [Instr.lookup, run_und hu, hck, hf, run_zero hz, getM]

  | some q =>
    obtain ⟨ents, clock, ho, rfl, hall⟩ := h2 q rfl
    have hg := MapKept.run_getObj_map (P := P) ho
    rcases findNow_eqK hd hk k ents.toList 0 hall with ⟨r1, r2, _, _⟩ | ⟨j, e, r1, _, _, r2, _, _⟩
    · have hf := run_findKey (w := w) hd r1
      simp [Instr.lookup, run_und hu, hck, hg, hf, run_zero hz, r2]
    · have hf := run_findKey (w := w) hd r1
      simp [Instr.lookup, run_und hu, hck, hg, hf, r2]

theorem esOf_fits (l : Array MapEntry) (clock : Nat) : fits (.map (esOf l.toList)) (.map l clock) := rfl

theorem setMap (s : St w0 fr β env bx h a w) {q : Nat} {es : List (Value × Value)} (hq : h q = some (.map es)) {ents : Array MapEntry} {clock : Nat} (ho : w.heap[q]? = some (.map ents clock)) (ents' : Array MapEntry) (clock' : Nat) :
    St w0 fr β env bx (h.put q (.map (esOf ents'.toList))) a { w with heap := w.heap.setIfInBounds q (.map ents' clock') } := by
  obtain ⟨h1, h2⟩ := MapKept.heap_set (o' := .map ents' clock') ho
  exact s.put (w' := { w with heap := w.heap.setIfInBounds q (.map ents' clock') }) hq rfl rfl rfl (by simp) (fun i _ hi => h2 i hi) h1 (esOf_fits ents' clock')

theorem sameBits_key {d : TypeDesc} {k : Value} (hk : IsKey d k) : Instr.sameBits 10000 k k = true := by
  cases d <;> cases k <;> simp_all [IsKey, Instr.sameBits, bytes_beq]

theorem mapUpdate_run (s : St w0 fr β env bx h a w) {t : TypeId} {q : Nat} {k x : Value} {es : List (Value × Value)} (hm : isMapT P t = true) (hk : plainKey P t k = true) (hq : h q = some (.map es))
    {ents : Array MapEntry} {clock : Nat} (ho : w.heap[q]? = some (.map ents clock)) (hes : esOf ents.toList = es) (hall : ∀ e ∈ ents.toList, plainKey P t e.key = true) :
    ∃ w', (Instr.mapUpdate t (.map (some q)) k x).run P w = .ok () w' ∧ St w0 fr β env bx (h.put q (.map (putM k x es))) a w' := by
  have hu := map_und hm
  obtain ⟨d, hd, hik⟩ := plainKey_und hk
  have hck : ∀ e, (Instr.checkKey e 10000 (keyT P t) k).run P w = .ok () w := fun e => run_checkKey hd hik e 9999
  have hg := MapKept.run_getObj_map (P := P) ho
  subst hes
  rcases findNow_eqK hd hk x ents.toList 0 hall with ⟨r1, _, r2, _⟩ | ⟨j, e, r1, rj, rk, _, r2, _⟩
  · have hf := run_findKey (w := w) hd r1
    have hst := setMap s hq ho (ents.push { key := k, val := x, born := clock }) (clock + 1)
    have eq1 : esOf (ents.push { key := k, val := x, born := clock }).toList = putM k x (esOf ents.toList) := by rw [r2]; simp [esOf]
    rw [eq1] at hst
    have := MapKept.run_setObj_map (P := P) (.map (ents.push { key := k, val := x, born := clock }) (clock + 1)) ho
    exact ⟨_, by simp [Instr.mapUpdate, run_und hu, hck, hg, hf, this], hst⟩
  · have hf := run_findKey (w := w) hd r1
    have hj : ents[j]? = some e := by simpa using rj
    have hst := setMap s hq ho (ents.modify j fun e => { e with key := k, val := x }) clock
    have eq1 : esOf (ents.modify j fun e => { e with key := k, val := x }).toList = putM k x (esOf ents.toList) := by rw [r2]; simp
    rw [eq1] at hst
    have h3 := MapKept.run_setObj_map (P := P) (.map (ents.modify j fun e => { e with key := k, val := x }) clock) ho
    have hkk : (Instr.keyThatStays e.key k).run P w = .ok k w := by
      rw [rk]
      simp [Instr.keyThatStays, sameBits_key hik]
    exact ⟨_, by simp [Instr.mapUpdate, run_und hu, hck, hg, hf, hj, hkk, h3], hst⟩

theorem delete_run (s : St w0 fr β env bx h a w) {t ty : TypeId} {ats : Array TypeId} {q : Nat} {k : Value} {es : List (Value × Value)} (hat : ats[0]? = some t) (hm : isMapT P t = true) (hk : plainKey P t k = true) (hq : h q = some (.map es))
    {ents : Array MapEntry} {clock : Nat} (ho : w.heap[q]? = some (.map ents clock)) (hes : esOf ents.toList = es) (hall : ∀ e ∈ ents.toList, plainKey P t e.key = true) :
    ∃ w', (Builtin.delete_ ats ty #[.map (some q), k]).run P w = .ok (.tuple #[]) w' ∧ St w0 fr β env bx (h.put q (.map (delM k es))) a w' := by
  have hu := map_und hm
  obtain ⟨d, hd, hik⟩ := plainKey_und hk
  have hck : ∀ e, (Instr.checkKey e 10000 (keyT P t) k).run P w = .ok () w := fun e => run_checkKey hd hik e 9999
  have hg := MapKept.run_getObj_map (P := P) ho
  subst hes
  rcases findNow_eqK hd hk k ents.toList 0 hall with ⟨r1, _, _, r2⟩ | ⟨j, e, r1, rj, rk, _, _, r2⟩
  · have hf := run_findKey (w := w) hd r1
    have hst := setMap s hq ho ents clock
    rw [← r2] at hst
    have := MapKept.run_setObj_map (P := P) (.map ents clock) ho
    exact ⟨_, by simp [Builtin.delete_, hat, run_und hu, hck, hg, hf, this], hst⟩
  · have hf := run_findKey (w := w) hd r1
    have hst := setMap s hq ho (ents.eraseIdxIfInBounds j) clock
    have hl : j < ents.size := by
      have := (List.getElem?_eq_some_iff.1 rj).1
      simpa using this
    have eq1 : esOf (ents.eraseIdxIfInBounds j).toList = delM k (esOf ents.toList) := by rw [r2]; simp [Array.eraseIdxIfInBounds, hl]
    rw [eq1] at hst
    have := MapKept.run_setObj_map (P := P) (.map (ents.eraseIdxIfInBounds j) clock) ho
    exact ⟨_, by simp [Builtin.delete_, hat, run_und hu, hck, hg, hf, this], hst⟩

/-! ### new rows -/
theorem replF_get (zs : List Value) : ∀ (n i : Nat) (x : Value), (replF n zs)[i]? = some x → i < n * zs.length ∧ zs[i % zs.length]? = some x
  | 0, i, x, hx => by simp [replF] at hx
  | n + 1, i, x, hx => by
    simp only [replF, List.getElem?_append] at hx
    split at hx
    · rename_i hl
      refine ⟨by rw [Nat.succ_mul]; omega, ?_⟩
      rw [Nat.mod_eq_of_lt hl]; exact hx
    · rename_i hl
      obtain ⟨h1, h2⟩ := replF_get zs n _ x hx
      refine ⟨by rw [Nat.succ_mul]; omega, ?_⟩
      rw [Nat.mod_eq_sub_mod (by omega)]; exact h2
theorem replF_length (zs : List Value) : ∀ n : Nat, (replF n zs).length = n * zs.length
  | 0 => by simp [replF]
  | n + 1 => by simp only [replF, List.length_append, replF_length zs n, Nat.succ_mul]; omega

theorem fits_made (z : Value) (n sz : Nat) (hz : z.cells.size = sz) (T : TypeId) : fits (.cells (replF n z.cells.toList) (n * sz)) (.cells (madeCells z.cells (n * sz)) T) := by
  subst hz
  refine ⟨size_madeCells _ _, by simp [replF_length], fun i x hx => ?_, fun i _ => by simp⟩
  obtain ⟨h1, h2⟩ := replF_get _ _ _ _ hx
  simp only [Array.length_toList, Array.getElem?_toList] at h1 h2
  have h3 : 0 < z.cells.size := by
    rcases Nat.eq_zero_or_pos z.cells.size with h | h
    · rw [h] at h1; omega
    · exact h
  have h4 := Nat.mod_lt i h3
  rw [Array.getElem?_eq_getElem h4] at h2
  simp only [madeCells, Array.getElem?_map, Array.getElem?_range, h1, if_true, Option.map_some, Option.some.injEq]
  rw [getElem!_pos z.cells _ h4]
  simpa using h2

theorem put_put (h : AH) (b : Nat) (o o' : AB) : (h.put b o).put b o' = h.put b o' := by
  funext i
  simp only [AH.put]
  split <;> rfl

theorem fold_bytes : ∀ (l : List UInt8) (r : ByteArray), (l.map fun b : UInt8 => (b.toNat : Int)).foldl (fun r n => r.push (UInt8.ofNat n.toNat)) r = ⟨r.data ++ l.toArray⟩
  | [], r => by simp
  | b :: l, r => by
    simp only [List.map_cons, List.foldl_cons]
    rw [fold_bytes l]
    simp [ByteArray.push]

theorem ints_bytes (s : ByteArray) : (s.data.toList.map fun b : UInt8 => (b.toNat : Int)).foldl (fun r n => r.push (UInt8.ofNat n.toNat)) ByteArray.empty = s := by
  rw [fold_bytes]
  obtain ⟨d⟩ := s
  simp [ByteArray.empty, ByteArray.emptyWithCapacity]
  rfl

theorem toBytes_run (s : St w0 fr β env bx h a w) (e : TypeId) (str : ByteArray) {K : Value → AH → Prop}
    (hb : ∀ cap, str.size ≤ cap → newB w0 h (.cells (intsOf str) cap) fun b h' => K (.slice (some ⟨b, 0, none⟩) str.size cap) h') :
    ∃ y h' w', K y h' ∧ St w0 fr β env bx h' a w' ∧ (Conv.stringToBytes e str).run P w = .ok y w' := by
  have hcap := cut_le w str.size 0 e
  have hn := hb _ hcap w.heap.size s.rw.below.size s.rw.fresh
  let cs : Array Value := str.data.map (fun b : UInt8 => Value.int .u8 b.toNat) ++ Array.replicate (grownCap w str.size 0 e - str.size) (.int .u8 0)
  have hcs : cs.size = grownCap w str.size 0 e := by
    have : str.data.size = str.size := rfl
    simp [cs, this]; omega
  have hfit : ∀ fr : Nat × Nat, (∀ i, i < grownCap w str.size 0 e → (decide (fr.1 ≤ i) && decide (i < fr.2)) = false) → fits (.cells (intsOf str) (grownCap w str.size 0 e)) (.cells cs e fr) := fun fr hfr => by
    refine ⟨hcs, by rw [intsOf_length]; exact hcap, fun i x hx => ?_, hfr⟩
    have hi := (List.getElem?_eq_some_iff.1 hx).1
    rw [intsOf_length] at hi
    have hi' : i < str.data.size := hi
    rw [Array.getElem?_append]
    rw [if_pos (by simpa using hi')]
    simpa [intsOf] using hx
  have s1 : St w0 fr β env bx (h.put w.heap.size _) a (w.drew.alloc (.cells cs e)) := (s.drew).new (hfit (0, 0) (fun i _ => by simp))
  have hh := put_same h w.heap.size (.cells (intsOf str) (grownCap w str.size 0 e))
  have hob : ((w.drew.alloc (.cells cs e)).freeze ⟨w.heap.size, cs.size, none⟩ 1).heap[w.heap.size]? = some (.cells cs e (cs.size, cs.size + 1)) := by
    have h1 : (w.drew.alloc (.cells cs e)).heap[w.heap.size]? = some (.cells cs e (0, 0)) := heap_alloc_new' w.drew (.cells cs e)
    simp only [World.freeze]
    rw [if_neg (by omega), Array.getElem?_modify, if_pos rfl, h1]
    rfl
  have hoth : ∀ i, i < (w.drew.alloc (.cells cs e)).heap.size → i ≠ w.heap.size → ((w.drew.alloc (.cells cs e)).freeze ⟨w.heap.size, cs.size, none⟩ 1).heap[i]? = (w.drew.alloc (.cells cs e)).heap[i]? := fun i _ hi => by
    simp only [World.freeze]
    rw [if_neg (by omega)]
    simp only [Array.getElem?_modify]
    rw [if_neg (Ne.symm hi)]
  have s2 := s1.put (w' := (w.drew.alloc (.cells cs e)).freeze ⟨w.heap.size, cs.size, none⟩ 1) hh
    (by simp [World.freeze]) (by simp [World.freeze]) (by simp [World.freeze]) (by simp [World.freeze]) hoth hob (hfit _ (fun i hi => by simp; omega))
  rw [put_put] at s2
  refine ⟨_, _, _, hn, s2, ?_⟩
  have hshape : (w.drew.alloc (.cells cs e)).shape? w.heap.size = some (e, cs.size) := by
    have h1 : (w.drew.alloc (.cells cs e)).heap[w.heap.size]? = some (.cells cs e (0, 0)) := heap_alloc_new' w.drew (.cells cs e)
    simp only [World.shape?, h1]
  simp only [Conv.stringToBytes, Sem.run_bind]
  rw [run_choose_drew, if_neg (by simp [Question.forced])]
  simp only [Result.andThen_ok, newRow, Sem.run_bind, run_newObj, Sem.run_pure, markStringish, run_shape]
  erw [hshape]
  rfl

theorem toString_run {str : ByteArray} {ad : Option Addr} {n c : Nat} (hl : (intsOf str).length = n * 1) (hc : ∀ a', ad = some a' → ∀ j v, (intsOf str)[j]? = some v → w.cell? (a'.add j) = some v) (hn : ad = none → intsOf str = []) :
    (Conv.bytesToString (.slice ad n c)).run P w = .ok (.string str) w := by
  cases ad with
  | none =>
    have h0 := hn rfl
    have : str = .empty := by
      apply bytes_ext
      simpa [intsOf] using h0
    subst this
    rfl
  | some a' =>
    have hr := run_loadCells_list (P := P) (w := w) a' (intsOf str) (hc a' rfl)
    rw [hl, Nat.mul_one] at hr
    have := run_bytesToString (P := P) w a' n c (str.data.toList.map fun b : UInt8 => (b.toNat : Int)) (by rw [hr]; simp [intsOf])
    rw [this, ints_bytes]
end
end Go.G
