/- What the library's shelf says. -/
import Derived.Test.YtpjklfmfgmicaaaDA
import Derived.Test.YtpjklfmfgmicaaaLays
import Derived.Test.YtpjklfmfgmicaaaProg
set_option maxRecDepth 100000
namespace Go.G.Ytpjklfmfgmicaaa
open Go.RowKit
/-! ### what the library's shelf says, for the evaluator -/
theorem rw_new {w0 w : World} {h : AH} {o : AB} {ob : Obj} (r : Rw w0 h w) (hf : fits o ob) (hn : ∀ m l c, o ≠ .mit m l c) : Rw w0 (h.put w.heap.size o) (w.alloc ob) :=
  r.turned (w' := w.alloc ob) r.below.size rfl rfl rfl (by rw [size_alloc']; omega) (fun i hi _ => heap_alloc_old w ob i hi) (heap_alloc_new' w ob) hf (fun q => absurd q (Nat.lt_irrefl _)) fun m l c e => absurd e (hn m l c)
theorem keep_new {w : World} {h : AH} {o : AB} {ob : Obj} : Keep h w (h.put w.heap.size o) (w.alloc ob) :=
  ⟨by rw [size_alloc']; omega, fun b hb hl => ⟨by rw [put_other _ _ (by omega)]; exact hb, heap_alloc_old w ob b hl⟩⟩
theorem heap_lt {w : World} {i : Nat} {o : Obj} (h : w.heap[i]? = some o) : i < w.heap.size := (Array.getElem?_eq_some_iff.1 h).1
theorem rw_grown {w0 w w' : World} {h : AH} (r : Rw w0 h w) (hb : Below w.heap.size w w') : Rw w0 h w' :=
  ⟨⟨hb.os.trans r.below.os, hb.tape.trans r.below.tape, hb.output.trans r.below.output, Nat.le_trans r.below.size hb.size, fun k hk => (hb.block k (Nat.lt_of_lt_of_le hk r.below.size)).trans (r.below.block k hk)⟩,
   fun i o hi => by
    obtain ⟨h1, ob, h2, h3⟩ := r.fits i o hi
    exact ⟨h1, ob, by rw [hb.block i (heap_lt h2)]; exact h2, h3⟩,
   fun i m l c hi => by
    obtain ⟨si, se, la, h1, h2, h3⟩ := r.its i m l c hi
    refine ⟨si, se, la, by rw [hb.block i (heap_lt h1)]; exact h1, h2, fun q hq => ?_⟩
    obtain ⟨oq, g1, g2⟩ := h3 q hq
    exact ⟨oq, by rw [hb.block q (heap_lt g1)]; exact g1, g2⟩⟩
theorem keep_grown {w w' : World} {h : AH} (hb : Below w.heap.size w w') : Keep h w h w' := ⟨hb.size, fun b hn hl => ⟨hn, hb.block b hl⟩⟩
theorem rw_row {w0 w w' : World} {h : AH} (r : Rw w0 h w) (hb : Below w.heap.size w w') {g : Nat} (hg : w.heap.size ≤ g) {o : AB} {ob : Obj} (ho : w'.heap[g]? = some ob) (hf : fits o ob) (hn : ∀ m l c, o ≠ .mit m l c) : Rw w0 (h.put g o) w' :=
  r.turned (w' := w') (b := g) (Nat.le_trans r.below.size hg) hb.os hb.tape hb.output hb.size (fun i hi _ => hb.block i hi) ho hf (fun q => absurd q (by omega)) fun m l c e => absurd e (hn m l c)
theorem keep_row {w w' : World} {h : AH} (hb : Below w.heap.size w w') {g : Nat} (hg : w.heap.size ≤ g) {o : AB} : Keep h w (h.put g o) w' :=
  ⟨hb.size, fun b hn hl => ⟨by rw [put_other _ _ (by omega)]; exact hn, hb.block b hl⟩⟩
theorem rw_above {w0 w : World} {h : AH} (r : Rw w0 h w) {g : Nat} (hg : w.heap.size ≤ g) : h g = none := by
  cases hb : h g with
  | none => rfl
  | some o =>
    obtain ⟨_, ob, ho, _⟩ := r.fits _ _ hb
    have := heap_lt ho
    omega

/-- maps.Clone. -/
theorem f53_spec {w0 : World} {K : Value → AH → Prop} {h : AH} {r : Nat} {es : List (Value × Value)} (hh : h r = some (.map es)) (hk : newB w0 h (.map es) fun b h' => K (.map (some b)) h') : EvC Go.Proofs.Try.prog w0 53 #[.map (some r)] K h :=
  EvC_dir _ fun w rw => by
    obtain ⟨hr, ob, ho, hf⟩ := rw.fits _ _ hh
    cases ob with
    | map ents clock =>
      refine (Go.Proofs.AnyW.maps_Clone Go.Proofs.Try.clone53 r ents clock w ho).mono fun e w' hw => ?_
      obtain ⟨rfl, rfl⟩ := hw
      exact ⟨_, _, rfl, rw_new rw hf (fun _ _ _ e => by cases e), keep_new, hk _ rw.below.size rw.fresh⟩
    | _ => exact hf.elim
/-- maps.Keys. -/
theorem f57_spec {w0 : World} {K : Value → AH → Prop} {h : AH} {r : Nat} (hk : newB w0 h (.cells [.map (some r)] 1) fun b h' => K (.func (.func 74) #[] #[.pointer (some ⟨b, 0, none⟩)]) h') : EvC Go.Proofs.Try.prog w0 57 #[.map (some r)] K h :=
  EvC_dir _ fun w rw => ((callsIn_wide (n := 5)).1 (Go.Proofs.AnyZ.keys_in Go.Proofs.Try.keys57 Fence.wide 5 trivial rfl (some r) w)).mono fun e w' hw => by
    obtain ⟨rfl, rfl⟩ := hw
    refine ⟨_, _, rfl, rw_new (o := .cells [.map (some r)] 1) rw ⟨rfl, Nat.le_refl _, fun i x hi => ?_, fun i _ => by simp⟩ (fun _ _ _ e => by cases e), keep_new, hk _ rw.below.size rw.fresh⟩
    simpa using hi

def strs (l : List ByteArray) : List Value := l.map .string
def kb : Value → List UInt8
  | .string s => s.data.toList
  | _ => []
theorem sort_L {L : List ByteArray} (hs : L.Pairwise ltB) {ss : List (List UInt8)} (hp : ss.Perm (L.map fun s => s.data.toList)) : ss.mergeSort (fun x y => decide (x ≤ y)) = L.map fun s => s.data.toList := by
  have h1 : ss.mergeSort leB = (L.map fun s : ByteArray => s.data.toList).mergeSort leB := mergeSort_of_perm hp
  rw [show ss.mergeSort (fun x y => decide (x ≤ y)) = ss.mergeSort leB from rfl, h1]
  refine List.mergeSort_of_pairwise ?_
  rw [List.pairwise_map]
  exact hs.imp fun {a b} hab => by simp only [leB, decide_eq_true_eq]; exact List.le_of_lt hab
theorem enc_strs (L : List ByteArray) : (L.map fun s : ByteArray => s.data.toList).map Go.Proofs.encStr = strs L := by
  unfold strs
  rw [List.map_map]
  exact List.map_congr_left fun s _ => by cases s; simp [Go.Proofs.encStr]
theorem sorts56 (m : Nat) : Go.Proofs.AnyZ.SortsIn Go.Proofs.Try.prog Go.Proofs.Try.sorted56_ren Fence.wide m :=
  ⟨fun blk off cap ss W hH hblk hsz => callsIn_wide.2 (Go.Proofs.AnyM.slices_Sort_string Go.Proofs.Try.sort73 blk off cap ss W hH hblk hsz),
   fun p cap W => callsIn_wide.2 (Go.Proofs.AnyM.slices_Sort_string_none Go.Proofs.Try.sort73 p cap W)⟩
set_option maxHeartbeats 1000000 in
/-- slices.Sorted(maps.Keys(..)). -/
theorem f56_spec {w0 : World} {K : Value → AH → Prop} {h : AH} {B : List (Nat × AB)} {b r : Nat} {es : List (Value × Value)} {L : List ByteArray} (w : Own w0 h B) (hb : (b, AB.cells [.map (some r)] 1) ∈ B) (hr : (r, AB.map es) ∈ B)
    (hes : (es.map (·.1)).Perm (L.map Value.string)) (hs : L.Pairwise ltB) (hl : ∀ s ∈ L, s.size ≤ 64) (hn : L.length ≤ 1000000000000)
    (hk : ∀ a c h', SlV 1 a L.length c (strs L) → Own w0 h' (slB a (strs L) (c * 1) ++ B) → K (.slice a L.length c) h') : EvC Go.Proofs.Try.prog w0 56 #[.func (.func 74) #[] #[.pointer (some ⟨b, 0, none⟩)]] K h :=
  EvC_dir _ fun W rw => by
    obtain ⟨_, ob, ho, hf⟩ := rw.fits _ _ (w.mem hr).2
    cases ob with
    | map ents clock =>
      obtain ⟨hf1, hf2, hf3⟩ := hf
      have hcell : W.cell? ⟨b, 0, none⟩ = some (.map (some r)) := rw.cell (w.cell hb (j := 0) rfl)
      have hbl : b < W.heap.size := by
        obtain ⟨_, ob2, ho2, _⟩ := rw.fits _ _ (w.mem hb).2
        exact heap_lt ho2
      have hkeys : (ents.toList.map (·.key)).Perm (L.map Value.string) := by
        have : es.map (·.1) = ents.toList.map (·.key) := by rw [← hf1, List.map_map]; rfl
        rw [← this]; exact hes
      have hkey : ∀ x ∈ ents.toList, ∃ s ∈ L, x.key = .string s := fun x hx => by
        have := hkeys.mem_iff.1 (List.mem_map.2 ⟨x, hx, rfl⟩)
        obtain ⟨s, hs1, hs2⟩ := List.mem_map.1 this
        exact ⟨s, hs1, hs2.symm⟩
      have hk9 : ∀ s : ByteArray, s.size ≤ 64 → keyOf Go.Proofs.Try.prog 9 (.string s) = some (.string s.data.toList) := fun s hs => by
        have h9 : Go.Proofs.Try.prog.underlying 9 = some .string := by kernel_rfl
        simp [keyOf, h9, mapKey, show s.size ≤ maxLen from Nat.le_trans hs (by decide)]
      have hnd : (ents.toList.map (·.key)).Nodup := by
        rw [hkeys.nodup_iff]
        have : L.Nodup := hs.imp fun {a b} hab e => by subst e; exact List.lt_irrefl _ hab
        refine List.pairwise_map.2 (this.imp fun {a b} hne e => hne (by injection e))
      have hnb : (ents.toList.map (·.born)).Nodup := List.pairwise_map.2 hf2
      have hsize : ents.size = L.length := by have := hkeys.length_eq; simpa using this
      have hrd : ∀ x ∈ ents.toList, Go.WideElems.rd Go.Proofs.Try.prog 9 (fun _ => some ((.nil : DataW Unit), ([] : List MemPlace))) x = some (.string (kb x.key), .nil) := fun x hx => by
        obtain ⟨s, hs1, hs2⟩ := hkey x hx
        unfold Go.WideElems.rd
        rw [hs2, hk9 s (hl s hs1)]
        rfl
      have hown : W.ownsMap Go.Proofs.Try.prog 9 (fun _ => some ((.nil : DataW Unit), ([] : List MemPlace))) r ents.size (.map ((ents.toList.map (Go.WideElems.rg Go.Proofs.Try.prog 9 fun _ => some ((.nil : DataW Unit), ([] : List MemPlace)))).foldr DataW.insert [])) :=
        ⟨ents, clock, ho, ⟨by rw [hsize]; exact Nat.le_trans hn (by decide), ⟨hf3, hnb, hnd⟩, fun x hx => ⟨_, hrd x hx⟩⟩, Nat.le_refl _, rfl⟩
      have hperm : (strKeys (.map ((ents.toList.map (Go.WideElems.rg Go.Proofs.Try.prog 9 fun _ => some ((.nil : DataW Unit), ([] : List MemPlace)))).foldr DataW.insert []) : DataW Unit)).Perm (L.map fun s => s.data.toList) := by
        refine ((Go.WideShapes.sorted_perm _).map _).trans ?_
        have e1 : (ents.toList.map (Go.WideElems.rg Go.Proofs.Try.prog 9 fun _ => some ((.nil : DataW Unit), ([] : List MemPlace)))).map (fun p => strOf p.1) = (ents.toList.map (·.key)).map kb := by
          rw [List.map_map, List.map_map]
          refine List.map_congr_left fun x hx => ?_
          show strOf (Go.WideElems.rg _ _ _ x).1 = kb x.key
          rw [Go.WideElems.rg_of (hrd x hx)]; rfl
        rw [e1]
        have e2 : (L.map Value.string).map kb = L.map fun s => s.data.toList := by rw [List.map_map]; rfl
        rw [← e2]; exact hkeys.map kb
      have hlen : Maps.size (.map ((ents.toList.map (Go.WideElems.rg Go.Proofs.Try.prog 9 fun _ => some ((.nil : DataW Unit), ([] : List MemPlace)))).foldr DataW.insert []) : DataW Unit) = L.length := by
        show List.length _ = _
        rw [(Go.WideShapes.sorted_perm _).length_eq, List.length_map, ← hsize]; simp
      have hseq := Go.Proofs.AnyZ.keys_gives (ρ := Go.Proofs.Try.keys57_ren) { Go.Proofs.Try.keys57 with } Fence.wide 2 trivial rfl (by omega) b r ents.size _ W hbl hcell hown
      have hcall := Go.Proofs.AnyZ.sorted_in Go.Proofs.Try.sorted56 Fence.wide 5 trivial trivial trivial trivial rfl (by omega) (sorts56 _) (Go.Proofs.enters_of Go.Proofs.Try.func73 (by kernel_rfl) rfl) 74 #[.pointer (some ⟨b, 0, none⟩)] trivial (Go.Proofs.enters_of Go.Proofs.Try.func74 (by kernel_rfl) rfl) _ _ (by rw [hlen]; exact Nat.le_trans hn (by decide)) (by rw [hlen]; omega) W hseq
      refine ((callsIn_wide (n := 5)).1 hcall).mono fun e w' hw => ?_
      obtain ⟨v, ss, rfl, hS, hrow, hnil, hbel⟩ := hw
      have hss := sort_L hs (hS.trans hperm)
      rw [hss, enc_strs] at hrow
      have hsl : ss.length = L.length := by have := (hS.trans hperm).length_eq; simpa using this
      rw [hsl] at hrow
      obtain ⟨hxl, hv⟩ := hrow
      rcases hv with ⟨rfl, hz⟩ | ⟨g, cap, cur, rfl, hg, hcur, h1, h2, h3, h4⟩
      · refine ⟨_, h, rfl, rw_grown rw hbel, keep_grown hbel, ?_⟩
        have := hk none 0 h ⟨hxl, by omega, by omega, rfl⟩ w
        rw [hz] at this
        exact this
      · have hfr := rw_above rw hg
        refine ⟨_, h.put g (.cells (strs L) (cap * 1)), rfl, rw_row rw hbel hg hcur ⟨h3, by rw [hxl]; omega, fun i x hi => ?_, fun i _ => by simp⟩ (fun _ _ _ e => by cases e), keep_row hbel hg, hk _ cap _ ⟨hxl, h1, rfl, rfl⟩ (w.new (Nat.le_trans rw.below.size hg) hfr)⟩
        rw [← h4, List.getElem?_take] at hi
        split at hi
        · rw [← Array.getElem?_toList]; exact hi
        · cases hi
    | _ => exact hf.elim
end Go.G.Ytpjklfmfgmicaaa
