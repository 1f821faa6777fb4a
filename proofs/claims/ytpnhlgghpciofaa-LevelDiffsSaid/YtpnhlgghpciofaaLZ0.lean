/- slices.Sort. -/
import Derived.Test.YtpnhlgghpciofaaGTab
import Derived.Test.YtpnhlgghpciofaaLays
import Derived.Test.YtpnhlgghpciofaaProg
set_option maxRecDepth 100000
namespace Go.G.Ytpnhlgghpciofaa
open Go.RowKit
/-! ### slices.Sort of numbers: by the library's shelf -/
theorem heap_lt {w : World} {i : Nat} {o : Obj} (h : w.heap[i]? = some o) : i < w.heap.size := (Array.getElem?_eq_some_iff.1 h).1
def sortL (zs : List Int) : List Int := zs.mergeSort fun x y => decide (x ≤ y)
theorem sortL_perm (zs : List Int) : (sortL zs).Perm zs := List.mergeSort_perm _ _
theorem sortL_len (zs : List Int) : (sortL zs).length = zs.length := (sortL_perm zs).length_eq
theorem f65_spec {w0 : World} {K : Value → AH → Prop} {h : AH} {a : Option Addr} {c : Nat} {zs : List Int} (s : Sl w0 h 1 a zs.length c (ints zs)) (hn : zs.length ≤ 1000000000000)
    (hk : ∀ h', Sl w0 h' 1 a zs.length c (ints (sortL zs)) → Ext h h' a → K (.tuple #[]) h') : EvC Go.Proofs.Try.prog w0 65 #[.slice a zs.length c] K h := by
  obtain ⟨hl, hc, hs⟩ := s
  cases a with
  | none =>
    obtain ⟨h0, rfl⟩ := hs
    have hz : zs = [] := List.length_eq_zero_iff.1 h0
    subst hz
    refine EvC_dir _ fun W rw => (Go.Proofs.AnyM.slices_Sort_int_none Go.Proofs.Try.sort65 none 0 W).mono fun e w' hw => ?_
    obtain ⟨rfl, rfl⟩ := hw
    exact ⟨_, _, rfl, rw, Keep.refl _ _, hk h (by rw [show ints (sortL []) = [] by simp [sortL, ints]]; exact Sl.nil) (Ext.refl _ _)⟩
  | some ad =>
    obtain ⟨h1, h2, h3, h4⟩ := hs
    have had : ad = ⟨ad.block, 0, none⟩ := by cases ad; simp_all
    generalize hb : ad.block = b at had h3 h4
    subst had
    refine EvC_dir _ fun W rw => ?_
    obtain ⟨_, ob, ho, hf⟩ := rw.fits _ _ h4
    cases ob with
    | cells cs t fr =>
      obtain ⟨f1, f2, f3, f4⟩ := hf
      have hH : Go.Sort.Holds (Value.int .i64) W b 0 zs.toArray := fun j hj => by
        have hj' : j < zs.length := by simpa using hj
        refine ⟨?_, ?_⟩
        · unfold World.cell?
          rw [ho]
          have := f3 j (.int .i64 zs[j]) (by simp [ints, hj'])
          simpa [hj'] using this
        · unfold World.frozen?
          rw [ho]
          have := f4 j (by omega)
          simpa using this
      refine (Go.Proofs.AnyM.slices_Sort_int Go.Proofs.Try.sort65 b 0 c zs W hH (heap_lt ho) (by omega)).mono fun e w' hw => ?_
      obtain ⟨rfl, n, os, rfl⟩ := hw
      have hsl := sortL_len zs
      have hblk : (Go.Sort.grow (Go.Sort.putRow (Value.int .i64) (Go.Sort.ahead W n) b 0 (sortL zs).toArray) os).heap[b]? = some (.cells (Go.Sort.putCells (Value.int .i64) 0 (sortL zs).toArray cs) t fr) := by
        have hlt := heap_lt ho
        unfold Go.Sort.grow Go.Sort.putRow Go.Sort.mapBlock Go.Sort.ahead
        simp only
        rw [Array.getElem?_append_left (by simpa using hlt), Array.getElem?_modify, if_pos rfl, ho]
        rfl
      have hoth : ∀ i, i < W.heap.size → i ≠ b → (Go.Sort.grow (Go.Sort.putRow (Value.int .i64) (Go.Sort.ahead W n) b 0 (sortL zs).toArray) os).heap[i]? = W.heap[i]? := fun i hi hne => by
        unfold Go.Sort.grow Go.Sort.putRow Go.Sort.mapBlock Go.Sort.ahead
        simp only
        rw [Array.getElem?_append_left (by simpa using hi), Array.getElem?_modify, if_neg (Ne.symm hne)]
      have hsz : W.heap.size ≤ (Go.Sort.grow (Go.Sort.putRow (Value.int .i64) (Go.Sort.ahead W n) b 0 (sortL zs).toArray) os).heap.size := by
        unfold Go.Sort.grow Go.Sort.putRow Go.Sort.mapBlock Go.Sort.ahead
        simp
      have hrw := rw.turned (w' := Go.Sort.grow (Go.Sort.putRow (Value.int .i64) (Go.Sort.ahead W n) b 0 (sortL zs).toArray) os) (b := b) h3 rfl rfl rfl hsz hoth (o := .cells (ints (sortL zs)) (c * 1)) hblk ⟨by simp [Go.Sort.putCells, f1], by simp [ints, hsl]; omega, fun i x hi => by
        have hil : i < (sortL zs).length := by have := (List.getElem?_eq_some_iff.1 hi).1; simpa [ints] using this
        have hx : x = .int .i64 (sortL zs)[i] := by simpa [ints, hil] using hi.symm
        have hic : i < cs.size := by omega
        unfold Go.Sort.putCells
        rw [Array.getElem?_mapIdx, Array.getElem?_eq_getElem hic, Option.map_some, if_pos (by simp; omega), hx]
        simp [hil], f4⟩ (fun _ _ _ e => by cases e) (fun _ _ _ e => by cases e)
      refine ⟨_, h.put b (.cells (ints (sortL zs)) (c * 1)), rfl, hrw, ⟨hsz, fun i hi hil => ?_⟩, hk _ ⟨by simp [ints, hsl], by omega, rfl, rfl, h3, put_same _ _ _⟩ fun i o hi hne _ => ?_⟩
      · have hne : i ≠ b := fun e => by subst e; rw [hi] at h4; cases h4
        exact ⟨by rw [put_other _ _ hne]; exact hi, hoth i hil hne⟩
      · rw [put_other _ _ (hne _ rfl)]; exact hi
    | _ => exact hf.elim
end Go.G.Ytpnhlgghpciofaa
