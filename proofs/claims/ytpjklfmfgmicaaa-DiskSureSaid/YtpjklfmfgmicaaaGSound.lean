/- Each operation does what the evaluator says of it: memory, calls. -/
import Derived.Test.YtpjklfmfgmicaaaGOps
namespace Go.G
open Go.RowKit

section
variable {P : Program} {w0 : World} {fr : Fr} {β : Nat → Nat} {env : Env} {bx : Bxs} {h : AH} {a : Act} {w : World}

theorem loadVar_agg {t : TypeId} (hagg : aggT P t = some true) (ad : Addr) (vs : List Value) (hl : vs.length = szT P t) (w : World) (hc : ∀ j v, vs[j]? = some v → w.cell? (ad.add j) = some v) :
    (Instr.loadAt t (.pointer (some ad))).run P w = .ok (.agg vs.toArray) w := by
  obtain ⟨i, hi⟩ := agg_info hagg
  have hr := run_loadCells_list (P := P) (w := w) ad vs hc
  rw [hl] at hr
  simp [Instr.loadAt, Instr.sureAddr, loadVar, run_agg hagg, run_sz hi, hr]
theorem loadVar_one {t : TypeId} (hagg : aggT P t = some false) (ad : Addr) (v : Value) (w : World) (hc : w.cell? ad = some v) :
    (Instr.loadAt t (.pointer (some ad))).run P w = .ok v w := by
  simp [Instr.loadAt, Instr.sureAddr, loadVar, run_agg hagg, hc]

theorem box_cell (s : St w0 fr β env bx h a w) {i : Nat} {cs : List Value} (hi : bx[i]? = some (some cs)) {w' : World} (hw : w'.heap[β i]? = w.heap[β i]?) {k : Nat} {v : Value} (hk : cs[k]? = some v) : w'.cell? ⟨β i, k, none⟩ = some v := by
  obtain ⟨_, _, _, T, hT⟩ := s.bxs i cs hi
  simp only [World.cell?, hw, hT]
  simpa using hk

theorem load_box (s : St w0 fr β env bx h a w) {t : TypeId} {i off : Nat} {K : Value → Prop} (hb : loadR P w0 t (.bp i off) bx h K) :
    ∃ y, K y ∧ ∀ w', w'.heap[β i]? = w.heap[β i]? → (Instr.loadAt t (gam β (.bp i off))).run P w' = .ok y w' := by
  simp only [loadR] at hb
  split at hb
  · rename_i hbx
    obtain ⟨cs, hi, hat⟩ := boxIs_some hbx
    rw [hat] at hb
    split at hb
    · rename_i hagg
      split at hb
      · rename_i hle
        have hle' : off + szT P t ≤ cs.length := Nat.le_of_ble_eq_true hle
        refine ⟨_, hb, fun w' hw => ?_⟩
        refine loadVar_agg hagg _ _ (by simp; omega) w' (fun j v hj => ?_)
        rw [add_plain]
        refine box_cell s hi hw ?_
        rw [List.getElem?_take] at hj
        split at hj
        · rw [List.getElem?_drop] at hj; exact hj
        · cases hj
      · exact hb.elim
    · rename_i hagg
      split at hb
      · rename_i y hy
        exact ⟨y, hb, fun w' hw => loadVar_one hagg _ _ w' (box_cell s hi hw hy)⟩
      · exact hb.elim
    · exact hb.elim
  · exact hb.elim

theorem load_heap (s : St w0 fr β env bx h a w) {t : TypeId} {ad : Addr} {K : Value → Prop} (hb : loadR P w0 t (.v (.pointer (some ad))) bx h K) :
    ∃ y, K y ∧ ∀ w', w'.heap = w.heap → (Instr.loadAt t (.pointer (some ad))).run P w' = .ok y w' := by
  simp only [loadR] at hb
  obtain ⟨y, ⟨hat, hk⟩, hshape⟩ := exT_some hb
  refine ⟨y, hk, fun w' hw => ?_⟩
  rcases hshape with ⟨hagg, vs, rfl⟩ | hagg
  · simp only [atT, hagg] at hat
    obtain ⟨hsz, hat⟩ := hat
    have hc := s.rw.at_ hat
    have hc' : ∀ j v, vs.toList[j]? = some v → w'.cell? (ad.add j) = some v := fun j v hj => by
      have := hc j v (by simpa [Value.cells] using hj)
      simpa [World.cell?, hw] using this
    have := loadVar_agg (P := P) hagg ad vs.toList (by simpa [Value.cells] using hsz) w' hc'
    simpa using this
  · simp only [atT, hagg] at hat
    have := s.rw.cell hat
    exact loadVar_one hagg ad y w' (by simpa [World.cell?, hw] using this)

theorem load_any (s : St w0 fr β env bx h a w) {t : TypeId} {x : AV} {K : Value → Prop} (hb : loadR P w0 t x bx h K) :
    ∃ y, K y ∧ ∀ w', w'.heap = w.heap → (Instr.loadAt t (gam β x)).run P w' = .ok y w' := by
  cases x with
  | bp i off =>
    obtain ⟨y, hk, hr⟩ := load_box s hb
    exact ⟨y, hk, fun w' hw => hr w' (by rw [hw])⟩
  | bs i n => simp [loadR] at hb
  | v p =>
    cases p with
    | pointer q =>
      cases q with
      | none => simp [loadR] at hb
      | some ad => exact load_heap s hb
    | _ => simp [loadR] at hb

/-! ### stores -/
theorem setCells_length (vs : List Value) : ∀ (cs : List Value) (o : Nat), (setCells cs o vs).length = cs.length := by
  induction vs with
  | nil => intro cs o; rfl
  | cons v r ih => intro cs o; simp [setCells, ih]

theorem world_setCells (b : Nat) : ∀ (vs : List Value) (o : Nat) (w : World) (c : Array Value) (T : TypeId) (fr : Nat × Nat), w.heap[b]? = some (.cells c T fr) →
    (w.setCells b o vs).heap[b]? = some (.cells (setCells c.toList o vs).toArray T fr) ∧ (w.setCells b o vs).heap.size = w.heap.size ∧ (∀ i, i ≠ b → (w.setCells b o vs).heap[i]? = w.heap[i]?) ∧
      (w.setCells b o vs).os = w.os ∧ (w.setCells b o vs).tape = w.tape ∧ (w.setCells b o vs).output = w.output
  | [], o, w, c, T, fr, hc => ⟨by simpa [World.setCells, setCells] using hc, rfl, fun _ _ => rfl, rfl, rfl, rfl⟩
  | v :: r, o, w, c, T, fr, hc => by
    have hset : (w.setCell ⟨b, o, none⟩ v).heap = w.heap.modify b fun
      | .cells c elem frozen => .cells (c.setIfInBounds o v) elem frozen
      | x => x := by
      simp only [World.setCell]
      congr 1
    have hlt := (Array.getElem?_eq_some_iff.1 hc).1
    have h1 : (w.setCell ⟨b, o, none⟩ v).heap[b]? = some (.cells (c.setIfInBounds o v) T fr) := by
      rw [hset, Array.getElem?_modify]
      simp [hc]
    obtain ⟨r1, r2, r3, r4, r5, r6⟩ := world_setCells b r (o + 1) (w.setCell ⟨b, o, none⟩ v) _ T fr h1
    refine ⟨?_, ?_, ?_, r4, r5, r6⟩
    · simp only [World.setCells, setCells]
      rw [r1]
      simp
    · simp only [World.setCells]; rw [r2, hset]; simp
    · intro i hi
      simp only [World.setCells]
      rw [r3 i hi, hset, Array.getElem?_modify]
      simp [Ne.symm hi]

theorem run_setCells (b : Nat) : ∀ (vs : List Value) (o i : Nat) (w : World), (∀ j, j < vs.length → (w.cell? ⟨b, o + i + j, none⟩).isSome = true) → (∀ j, j < vs.length → w.frozen? ⟨b, o + i + j, none⟩ = false) →
    (∀ v ∈ vs, v.oneCell' = true) → (storeCells ⟨b, o, none⟩ vs i).run P w = .ok () (w.setCells b (o + i) vs) := fun vs o i w h1 h2 h3 => by
  exact run_storeCells_cells b o vs i w h1 h2 h3

theorem getElem?_setCells (vs : List Value) : ∀ (cs : List Value) (o i : Nat), o + vs.length ≤ cs.length → (setCells cs o vs)[i]? = if o ≤ i ∧ i < o + vs.length then vs[i - o]? else cs[i]? := by
  induction vs with
  | nil => intro cs o i _; simp only [setCells, List.length_nil]; rw [if_neg (by omega)]
  | cons v r ih =>
    intro cs o i hl
    simp only [List.length_cons] at hl
    simp only [setCells]
    rw [ih (cs.set o v) (o + 1) i (by simp; omega)]
    simp only [List.length_cons]
    by_cases e : i = o
    · subst e
      rw [if_neg (by omega), if_pos (by omega)]
      simp [List.getElem?_set]; omega
    · by_cases hr : o + 1 ≤ i ∧ i < o + 1 + r.length
      · rw [if_pos hr, if_pos (by omega)]
        have : i - o = (i - (o + 1)) + 1 := by omega
        rw [this]; rfl
      · rw [if_neg hr, if_neg (by omega), List.getElem?_set]
        simp [Ne.symm e]

theorem oneC_iff {cs : List Value} {A : Prop} : oneC cs A ↔ (∀ v ∈ cs, v.oneCell' = true) ∧ A := by
  unfold oneC
  cases h : cs.all (·.oneCell') with
  | true => simpa using fun _ => by simpa using h
  | false =>
    simp only [false_iff, not_and]
    intro hc
    have : cs.all (·.oneCell') = true := by simpa using hc
    rw [this] at h; cases h

theorem store_ok (s : St w0 fr β env bx h a w) {t : TypeId} {x : AV} {y : Value} {K : Bxs → AH → Prop} (hb : storeR P w0 t x y bx h K) (hinf : ∃ i, P.info? t = some i) :
    ∃ bx' h' w', K bx' h' ∧ St w0 fr β env bx' h' a w' ∧ (Instr.storeAt t (gam β x) y).run P w = .ok () w' := by
  obtain ⟨ti, hti⟩ := hinf
  unfold storeR at hb
  split at hb
  · exact hb.elim
  · rename_i hsz
    have hsz' : y.cells.size = szT P t := Nat.eq_of_beq_eq_true hsz
    split at hb
    · rename_i i off
      split at hb
      · rename_i hbx
        simp only [Bool.and_eq_true] at hbx
        obtain ⟨hbx, hle⟩ := hbx
        obtain ⟨cs, hi, hat⟩ := boxIs_some hbx
        rw [hat] at hb hle
        have hle' : off + szT P t ≤ cs.length := Nat.le_of_ble_eq_true hle
        obtain ⟨hone, hk⟩ := oneC_iff.1 hb
        obtain ⟨g1, g2, g3, T, hT⟩ := s.bxs i cs hi
        obtain ⟨r1, r2, r3, r4, r5, r6⟩ := world_setCells (β i) y.cells.toList off w _ T (0, 0) hT
        have hrun := run_setCells (P := P) (β i) y.cells.toList off 0 w (fun j hj => by
          have : off + j < cs.length := by simp at hj; omega
          simp [World.cell?, hT, this]) (fun j hj => by simp [World.frozen?, hT]) hone
        refine ⟨_, _, _, hk, s.boxSet hi (cs' := setCells cs off y.cells.toList) r4 r5 r6 r2 (fun k _ hk => r3 k hk) (by rw [r1]), ?_⟩
        simp only [Nat.add_zero] at hrun
        simp [gam, Instr.storeAt, Instr.sureAddr, storeVar, run_sz hti, hsz', hrun]
      · exact hb.elim
    · rename_i ad
      obtain ⟨xs, sz, hbase, hspot, hh, hlen, hb⟩ := hb
      obtain ⟨hone, hk⟩ := oneC_iff.1 hb
      obtain ⟨_, ob, ho, hf⟩ := s.rw.fits _ _ hh
      cases ob with
      | cells c T fr =>
        obtain ⟨f1, f2, f3, f4⟩ := hf
        have had : ad = ⟨ad.block, ad.off, none⟩ := by cases ad; simp_all
        obtain ⟨r1, r2, r3, r4, r5, r6⟩ := world_setCells ad.block y.cells.toList ad.off w _ T fr ho
        have hrun := run_setCells (P := P) ad.block y.cells.toList ad.off 0 w (fun j hj => by
          have : ad.off + j < c.size := by simp at hj; omega
          simp [World.cell?, ho, this]) (fun j hj => by
          have : ad.off + 0 + j < sz + 1 := by simp at hj; omega
          simpa [World.frozen?, ho] using f4 _ this) hone
        refine ⟨_, _, _, hk, s.put hh r4 r5 r6 r2 (fun k _ hk => r3 k hk) r1 ⟨?_, ?_, ?_, f4⟩, ?_⟩
        · simp [setCells_length, f1]
        · rw [setCells_length]; exact f2
        · intro k v hkv
          have hlc : ad.off + y.cells.toList.length ≤ c.toList.length := by simp; omega
          have hlx : ad.off + y.cells.toList.length ≤ xs.length := by simpa using hlen
          rw [getElem?_setCells _ _ _ _ hlx] at hkv
          simp only [List.getElem?_toArray]
          rw [getElem?_setCells _ _ _ _ hlc]
          split at hkv
          · rename_i hc; rw [if_pos hc]; exact hkv
          · rename_i hc; rw [if_neg hc]; simpa using f3 k v hkv
        · simp only [Nat.add_zero] at hrun
          have hrun' : (storeCells ad y.cells.toList 0).run P w = .ok () (w.setCells ad.block ad.off y.cells.toList) := by
            rw [had]; exact hrun
          simp [gam, Instr.storeAt, Instr.sureAddr, storeVar, run_sz hti, hsz', hrun']
      | _ => exact hf.elim
    · exact hb.elim

/-! ### append -/
theorem rowsOf_some {e : Nat} {ad : Option Addr} {n : Nat} {K : List Value → Prop} (hb : rowsOf w0 h e ad n K) (r : Rw w0 h w) :
    ∃ ys, ys.length = n * e ∧ (∀ a', ad = some a' → ∀ j v, ys[j]? = some v → w.cell? (a'.add j) = some v) ∧ (ad = none → ys = []) ∧ K ys := by
  obtain ⟨ys, h1, h2, h3, h4⟩ := hb
  exact ⟨ys, h1, fun a' ha => r.at_ (h2 a' ha), h3, h4⟩

theorem src_slice {size : Nat} {tx e' : TypeId} (hk : P.underlying tx = some (.slice e')) {ad : Option Addr} {n c : Nat} {ys : List Value} (hl : ys.length = n * size)
    (hc : ∀ a', ad = some a' → ∀ j v, ys[j]? = some v → w.cell? (a'.add j) = some v) (hn : ad = none → ys = []) (h1 : ∀ y ∈ ys, y.oneCell' = true) : Src P size tx (.slice ad n c) n ys w := by
  cases ad with
  | some a' =>
    have hr : ∀ w' : World, (∀ x, w'.cell? x = w.cell? x) → (loadCells a' (n * size)).run P w' = .ok ys.toArray w' := by
      intro w' hw
      have := run_loadCells_list (P := P) (w := w') a' ys (fun j v hj => by rw [hw]; exact hc a' rfl j v hj)
      rwa [hl] at this
    exact ⟨.inl ⟨_, hk⟩, fun w' => by simp [Builtin.lenOf], by simpa [Builtin.firstCells] using hr w (fun _ => rfl), by simpa [Builtin.firstCells] using hr w.drew (fun _ => rfl), hl, h1⟩
  | none =>
    have := hn rfl
    subst this
    exact ⟨.inl ⟨_, hk⟩, fun w' => by simp [Builtin.lenOf], by simp [Builtin.firstCells], by simp [Builtin.firstCells], hl, h1⟩

theorem cut_le (w : World) (need old : Nat) (e : TypeId) : need ≤ grownCap w need old e := by
  unfold grownCap Question.cut
  simp

theorem append_ok (s : St w0 fr β env bx h a w) {st tx ty e : TypeId} {z : Value} {ti : TypeInfo} (hu : P.underlying st = some (.slice e)) (hti : P.info? e = some ti) (hz : ti.zero = some z) (hzs : z.cells.size = ti.size)
    {ad : Option Addr} {n c m : Nat} {x : Value} {ys : List Value} {K : Value → AH → Prop} (hs : Src P ti.size tx x m ys w) (hb : App w0 h ti.size ti.bytes ad n c m ys fun a' c' h' => K (.slice a' (n + m) c') h') :
    ∃ y h' w', K y h' ∧ St w0 fr β env bx h' a w' ∧ (Builtin.append_ #[st, tx] ty #[.slice ad n c, x]).run P w = .ok y w' := by
  obtain ⟨hby, hnm, hlen, hone, hb⟩ := hb
  have grow : ∀ (xs : List Value), xs.length = n * ti.size → (∀ w' : World, (∀ b, w'.cell? b = w.cell? b) → (Builtin.firstCells ti.size n (.slice ad n c)).run P w' = .ok xs.toArray w') → c < n + m →
      ∀ {K' : Nat → Nat → AH → Prop}, (∀ cap, n + m ≤ cap → newB w0 h (.cells (xs ++ ys) (cap * ti.size)) fun b h' => K' b cap h') →
      ∃ b cap h' w', K' b cap h' ∧ St w0 fr β env bx h' a w' ∧ (Builtin.append_ #[st, tx] ty #[.slice ad n c, x]).run P w = .ok (.slice (some ⟨b, 0, none⟩) (n + m) cap) w' := by
    intro xs hxl hfirst hlt K' hnew
    have hr := run_append_grow_src w st tx ty e ti z hu hti hz ad n c xs (hfirst w.drew (fun _ => rfl)) x m ys hs hlt (by omega) (growslice_fits hlt hby)
    have hcap := cut_le w (n + m) c e
    have hn := hnew _ hcap w.heap.size s.rw.below.size s.rw.fresh
    refine ⟨_, _, _, _, hn, ?_, hr⟩
    have hst := (s.drew).new (o := .cells (xs ++ ys) (grownCap w (n + m) c e * ti.size)) (ob := .cells ((xs ++ ys).toArray ++ Builtin.zeroCells z.cells (grownCap w (n + m) c e - (n + m))) e) ⟨?_, ?_, ?_, ?_⟩
    · exact hst
    · have hsub : (grownCap w (n + m) c e) = (n + m) + (grownCap w (n + m) c e - (n + m)) := by omega
      simp only [Array.size_append, List.size_toArray, List.length_append, size_zeroCells, hzs, hxl, hlen]
      rw [← Nat.add_mul, ← Nat.add_mul, ← hsub]
    · simp only [List.length_append, hxl, hlen, ← Nat.add_mul]
      exact Nat.mul_le_mul_right _ hcap
    · intro i v hv
      have hi : i < (xs ++ ys).toArray.size := by
        have := (List.getElem?_eq_some_iff.1 hv).1
        simpa using this
      rw [Array.getElem?_append, if_pos hi]
      simpa using hv
    · intro i _; simp
  cases ad with
  | none =>
    obtain ⟨rfl, rfl, hb0, hb1⟩ := hb
    by_cases hm : m = 0
    · subst hm
      have : ys = [] := List.eq_nil_of_length_eq_zero (by simpa using hlen)
      subst this
      refine ⟨_, _, w, hb0 rfl, s, ?_⟩
      have h1 := hs.cells
      have h2 := hs.len w
      have h3 : szT P e = ti.size := by simp [szT, hti]
      rw [← h3] at h1
      rcases hs.kind with ⟨e', hk⟩ | hk <;>
      simp [Builtin.append_, run_und hu, run_sz hti, run_und hk, h1, h2]
    · obtain ⟨b, cap, h', w', hk, hst, hr⟩ := grow [] (by simp) (fun w' _ => by simp [Builtin.firstCells]) (by omega) (K' := fun b cap h' => K (.slice (some ⟨b, 0, none⟩) m cap) h')
        (fun cap hc => by simpa using hb1 (by omega) cap (by omega))
      refine ⟨_, _, _, hk, hst, by simpa using hr⟩
  | some ad =>
    obtain ⟨xs, zs, hoff, hspot, hbase, hh, hxl, hnc, hfit, hgrow⟩ := hb
    obtain ⟨_, ob, ho, hf⟩ := s.rw.fits _ _ hh
    cases ob with
    | cells cc T fr =>
      obtain ⟨f1, f2, f3', f4⟩ := hf
      have f3 : ∀ (i : Nat) (v : Value), xs[i]? = some v → cc[i]? = some v := fun i v hv => f3' i v (by rw [List.getElem?_append_left (List.getElem?_eq_some_iff.1 hv).1]; exact hv)
      have had : ad = ⟨ad.block, 0, none⟩ := by cases ad; simp_all
      by_cases hroom : n + m ≤ c
      · have hlt : n * ti.size + ys.length ≤ c * ti.size := by rw [hlen, ← Nat.add_mul]; exact Nat.mul_le_mul_right _ hroom
        have hr := run_append_room_src w st tx ty e ti hu hti ad.block 0 n c x m ys hs hroom (fun j hj => by
          have : n * ti.size + j < cc.size := by omega
          simp [World.cell?, ho, this]) (fun j hj => by
          have : n * ti.size + j < c * ti.size + 1 := by omega
          simpa [World.frozen?, ho] using f4 _ this)
        obtain ⟨r1, r2, r3, r4, r5, r6⟩ := world_setCells ad.block ys (0 + n * ti.size) w _ T fr ho
        refine ⟨_, _, _, hfit hroom, s.put hh r4 r5 r6 r2 (fun k _ hk => r3 k hk) r1 ⟨?_, ?_, ?_, f4⟩, ?_⟩
        · simp [setCells_length, f1]
        · simp only [List.length_append, hxl]; exact hlt
        · intro k v hkv
          have hlc : (0 + n * ti.size) + ys.length ≤ cc.toList.length := by simp; omega
          simp only [List.getElem?_toArray]
          rw [getElem?_setCells _ _ _ _ hlc]
          rw [List.getElem?_append] at hkv
          split at hkv
          · rename_i hk
            rw [if_neg (by omega)]
            simpa using f3 k v hkv
          · rename_i hk
            have h2 := (List.getElem?_eq_some_iff.1 hkv).1
            rw [if_pos (by omega), show k - (0 + n * ti.size) = k - xs.length from by omega]
            exact hkv
        · rw [had]; exact hr
      · obtain ⟨b, cap, h', w', hk, hst, hr⟩ := grow xs hxl (fun w' hw => by
            have hl := run_loadCells_list (P := P) (w := w') ad xs (fun j v hj => by
              rw [hw, had, add_plain]
              have hj' : cc[j]? = some v := f3 j v hj
              simp [World.cell?, ho, hj'])
            rw [hxl] at hl
            simpa [Builtin.firstCells] using hl) (by omega) (K' := fun b cap h' => K (.slice (some ⟨b, 0, none⟩) (n + m) cap) h')
          (fun cap hc => hgrow (by omega) cap hc)
        exact ⟨_, _, _, hk, hst, hr⟩
    | _ => exact hf.elim

/-! ### what an operation leaves, all kinds -/
def OpOK (P : Program) (w0 : World) (fr : Fr) (K : KO) (a : Act) : Result Next → Prop
  | .ok (.value x) w => Fit w0 fr K a w x
  | .ok .skip w => Fit w0 fr K a w undef
  | .ok (.enter f args) w => Calls P f args w fun e w' => ∃ x, e = .returned x ∧ Fit w0 fr K a w' x
  | _ => False

theorem Yld.ok {K : KO} {o : Oper} (hy : Yld P w0 fr K a w o) : OpOK P w0 fr K a ((execOp a.eval o).run P w) := by
  obtain ⟨x, hr, hf⟩ := hy
  rw [hr]; exact hf

/-- Calls that are known are known truly. -/
def Snd (P : Program) (w0 : World) (X : XR) : Prop := ∀ g args K h, X g args K h → ∀ w, Rw w0 h w →
  Calls P g args w fun e w' => ∃ x h', e = .returned x ∧ Rw w0 h' w' ∧ Keep h w h' w' ∧ K x h'

theorem parts_some {ts : List TypeId} : ∀ {acc : List Value} {K : List Value → Prop}, parts P ts acc K → ∃ vs, K vs := by
  induction ts with
  | nil => intro acc K hb; exact ⟨_, hb⟩
  | cons t ts ih =>
    intro acc K hb
    simp only [parts] at hb
    obtain ⟨x, hk, _⟩ := exT_some hb
    exact ih hk
theorem retT_some {ts : Array TypeId} {K : Value → Prop} (hb : retT P ts K) : ∃ x, K x := by
  unfold retT at hb
  split at hb
  · exact ⟨_, hb⟩
  · obtain ⟨x, hk, _⟩ := exT_some hb
    exact ⟨x, hk⟩
  · obtain ⟨vs, hk⟩ := parts_some hb
    exact ⟨_, hk⟩

theorem cellA_all (r : Rw w0 h w) : ∀ (ad : Addr) (y : Value), cellA w0 h ad = some y → w.cell? ad = some y := fun _ _ hc => r.cell hc

theorem hasBody_spec {g : FuncId} (hb : hasBody P g = true) : ∃ fn, P.funcs[g]? = some fn ∧ fn.body.isNone = false ∧ (fn.name == "runtime.NumGoroutine") = false := by
  unfold hasBody at hb
  split at hb
  · rename_i fn hf
    split at hb
    · rename_i c hc
      exact ⟨fn, hf, by simp [hc], by simpa using hb⟩
    · cases hb
  · cases hb

theorem St.keep (s : St w0 fr β env bx h a w) {h' : AH} {w' : World} (r : Rw w0 h' w') (k : Keep h w h' w') : St w0 fr β env bx h' a w' := by
  refine ⟨s.tm, s.df, r, s.kp.trans k, fun i cs hi => ?_, s.inj, s.pin, s.len⟩
  obtain ⟨h1, h2, h3, T, hT⟩ := s.bxs i cs hi
  obtain ⟨k1, k2⟩ := k.same (β i) h3 (s.lt hi)
  exact ⟨h1, h2, k1, T, by rw [k2]; exact hT⟩

theorem enter_ok {X : XR} (hX : Snd P w0 X) (s : St w0 fr β env bx h a w) {g : FuncId} {args : Array Value} {ty : TypeId} {K : KO}
    (hb : enterR P w0 X g args ty h fun y h' => K env bx h' (.v y)) : OpOK P w0 fr K a ((callFunc g args).run P w) := by
  unfold enterR at hb
  split at hb
  · rename_i hbody
    obtain ⟨fn, hf, hbn, hname⟩ := hasBody_spec hbody
    have hr : (callFunc g args).run P w = .ok (.enter g args) w := by
      have h1 : ¬ fn.name = "runtime.NumGoroutine" := by simpa using hname
      have h2 : ¬ fn.body = none := by intro e; rw [e] at hbn; cases hbn
      simp [callFunc, hf, h1, h2]
    rw [hr]
    refine (hX _ _ _ _ hb w s.rw).mono ?_
    rintro e w' ⟨x, h', rfl, r, k, hk⟩
    obtain ⟨y, rfl, hk⟩ := retT_some hk
    exact ⟨x, rfl, β, env, bx, h', .v x, rfl, s.keep r k, hk⟩
  · obtain ⟨x, hr, hk⟩ := hb
    obtain ⟨y, rfl, hk⟩ := retT_some hk
    rw [hr w (cellA_all s.rw)]
    exact ⟨β, env, bx, h, .v x, rfl, s, hk⟩

theorem rowT_spec {st : TypeId} {e by' : Nat} (hr : rowT P st = some (e, by')) : ∃ et ti z, P.underlying st = some (.slice et) ∧ P.info? et = some ti ∧ ti.zero = some z ∧ z.cells.size = ti.size ∧ ti.size = e ∧ ti.bytes = by' := by
  unfold rowT at hr
  split at hr
  · rename_i et hu
    split at hr
    · rename_i ti hti
      split at hr
      · rename_i z hz
        split at hr
        · rename_i m h1 h2
          simp only [Option.some.injEq, Prod.mk.injEq] at hr
          exact ⟨et, ti, z, hu, hti, hz, Nat.eq_of_beq_eq_true h1, by omega, hr.2⟩
        · cases hr
      · cases hr
    · cases hr
  · cases hr

theorem isSlT_spec {t : TypeId} (hb : isSlT P t = true) : ∃ e, P.underlying t = some (.slice e) := by
  unfold isSlT at hb
  split at hb
  · exact ⟨_, by assumption⟩
  · cases hb
theorem isStT_spec {t : TypeId} (hb : isStT P t = true) : P.underlying t = some .string := by
  unfold isStT at hb
  split at hb
  · assumption
  · cases hb

theorem intsOf_length (s : ByteArray) : (intsOf s).length = s.size := by simp [intsOf]

theorem appendR_ok (s : St w0 fr β env bx h a w) {st tx ty : TypeId} {x y : AV} {K : Value → AH → Prop} (hb : appendR P w0 st tx x y bx h K) :
    ∃ v h' w', K v h' ∧ St w0 fr β env bx h' a w' ∧ (Builtin.append_ #[st, tx] ty #[gam β x, gam β y]).run P w = .ok v w' := by
  unfold appendR at hb
  split at hb
  · rename_i e by' ad n c hrow
    obtain ⟨et, ti, z, hu, hti, hz, hzs, rfl, rfl⟩ := rowT_spec hrow
    split at hb
    · rename_i i m
      split at hb
      · rename_i h1 h2
        obtain ⟨e', hk⟩ := isSlT_spec h1
        obtain ⟨cs, hi, hat⟩ := boxIs_some h2
        rw [hat] at hb
        have hs : Src P ti.size tx (.slice (some ⟨β i, 0, none⟩) m m) m cs w := src_slice hk hb.2.2.1 (fun a' ha j v hj => by
          injection ha with ha; subst ha
          rw [add_plain]
          exact box_cell s hi rfl (by simpa using hj)) (by simp) hb.2.2.2.1
        exact append_ok s hu hti hz hzs hs hb
      · exact hb.elim
    · rename_i b m cc
      split at hb
      · rename_i h1
        obtain ⟨e', hk⟩ := isSlT_spec h1
        obtain ⟨ys, hl, hc, hn, hb⟩ := rowsOf_some hb s.rw
        exact append_ok s hu hti hz hzs (src_slice hk hl hc hn hb.2.2.2.1) hb
      · exact hb.elim
    · rename_i str
      split at hb
      · rename_i h1 h2
        have hk := isStT_spec h1
        have hcells : ∀ w' : World, (Builtin.firstCells 1 str.size (.string str)).run P w' = .ok (intsOf str).toArray w' := by
          intro w'
          have hx : (str.extract 0 str.size).data.toList = str.data.toList := by
            rw [ByteArray.data_extract]
            show (str.data.extract 0 str.data.size).toList = _
            rw [Array.extract_size]
          have hy : (str.extract 0 str.size).data.map (fun b : UInt8 => Value.int .u8 b.toNat) = (intsOf str).toArray := by
            apply Array.ext'
            rw [Array.toList_map, hx]
            rfl
          show Result.ok _ w' = _
          rw [hy]
        have hs : Src P ti.size tx (.string str) str.size (intsOf str) w := ⟨.inr hk, fun w' => by simp [Builtin.lenOf], by rw [h2]; exact hcells w, by rw [h2]; exact hcells _, by rw [h2, intsOf_length]; omega, hb.2.2.2.1⟩
        have hb' : App w0 h ti.size ti.bytes ad n c str.size (intsOf str) (fun a' c' h' => K (.slice a' (n + str.size) c') h') := by rw [h2]; exact hb
        exact append_ok s hu hti hz hzs hs hb'
      · exact hb.elim
    · exact hb.elim
  · exact hb.elim
end
end Go.G
