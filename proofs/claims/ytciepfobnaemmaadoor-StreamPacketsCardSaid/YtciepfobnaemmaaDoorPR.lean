/- Which packets may be; their bytes. -/
import Derived.Test.YtciepfobnaemmaaDoorLA
import Derived.Test.YtciepfobnaemmaaDoorProg
set_option maxRecDepth 100000
namespace Go.G.YtciepfobnaemmaaDoor
open Go.RowKit
open Value (string slice int bool agg)
/-! ### which packets may be; their bytes -/
def WantsK (l : List (ByteArray × Int)) (most : Int) : Prop := 1 ≤ l.length ∧ l.length ≤ 8 ∧ ∀ w ∈ l, filterB w.1 = true ∧ 0 ≤ w.2 ∧ w.2 ≤ most
structure MayK (k : Pk) : Prop where
  kind : 1 ≤ k.kind ∧ k.kind ≤ 14 ∧ k.til = 0
  id : ((4 ≤ k.kind ∧ k.kind ≤ 11) ∨ (k.kind = 3 ∧ k.qos ≠ 0) → 1 ≤ k.id ∧ k.id ≤ 65535) ∧ (¬ ((4 ≤ k.kind ∧ k.kind ≤ 11) ∨ (k.kind = 3 ∧ k.qos ≠ 0)) → k.id = 0)
  msg : (k.kind = 3 ∨ (k.kind = 1 ∧ k.will = true) → nameB k.topic = true ∧ k.pay.length ≤ 256 ∧ 0 ≤ k.qos ∧ k.qos ≤ 2) ∧ (¬ (k.kind = 3 ∨ (k.kind = 1 ∧ k.will = true)) → k.topic = ⟨#[]⟩ ∧ k.pay = [] ∧ k.qos = 0 ∧ k.ret = false)
  dup : k.dup = true → k.kind = 3 ∧ k.qos ≠ 0
  con : (k.kind = 1 → 0 ≤ k.alive ∧ k.alive ≤ 65535 ∧ k.client.size ≤ 64 ∧ textB k.client.data.toList = true) ∧ (k.kind ≠ 1 → k.client = ⟨#[]⟩ ∧ k.clean = false ∧ k.alive = 0 ∧ k.will = false)
  ack : (k.kind = 2 → 0 ≤ k.code ∧ k.code ≤ 5 ∧ (k.present = true → k.code = 0)) ∧ (k.kind ≠ 2 → k.present = false ∧ k.code = 0)
  wants : (k.kind = 8 → WantsK k.wants 2) ∧ (k.kind = 10 → WantsK k.wants 0) ∧ (¬ (k.kind = 8 ∨ k.kind = 10) → k.wants = [])
  codes : (k.kind = 9 → 1 ≤ k.codes.length ∧ k.codes.length ≤ 8 ∧ ∀ c ∈ k.codes, (0 ≤ c ∧ c ≤ 2) ∨ c = 128) ∧ (k.kind ≠ 9 → k.codes = [])
def textP (l : List UInt8) : List UInt8 := fixedV l.length 2 ++ l
def bitV (b : Bool) (n : Nat) : Nat := if b then n else 0
/-- What follows, and the flags. -/
def restP (k : Pk) : List UInt8 × Nat :=
  if k.kind = 1 then (textP mqttL ++ [4, UInt8.ofNat (bitV k.ret 32 + k.qos.toNat * 8 + bitV k.will 4 + bitV k.clean 2)] ++ fixedV k.alive.toNat 2 ++ textP k.client.data.toList ++ (if k.will then textP k.topic.data.toList ++ textP k.pay else []), 0)
  else if k.kind = 2 then ([UInt8.ofNat (bitV k.present 1), UInt8.ofNat k.code.toNat], 0)
  else if k.kind = 3 then (textP k.topic.data.toList ++ (if 0 < k.qos then fixedV k.id.toNat 2 else []) ++ k.pay, bitV k.dup 8 + k.qos.toNat * 2 + bitV k.ret 1)
  else if k.kind = 8 then (fixedV k.id.toNat 2 ++ k.wants.flatMap fun w => textP w.1.data.toList ++ [UInt8.ofNat w.2.toNat], 2)
  else if k.kind = 10 then (fixedV k.id.toNat 2 ++ k.wants.flatMap fun w => textP w.1.data.toList, 2)
  else if k.kind = 9 then (fixedV k.id.toNat 2 ++ k.codes.map fun c => UInt8.ofNat c.toNat, 0)
  else if k.kind = 6 then (fixedV k.id.toNat 2, 2)
  else if 12 ≤ k.kind then ([], 0)
  else (fixedV k.id.toNat 2, 0)
def encP (k : Pk) : List UInt8 := UInt8.ofNat (k.kind.toNat * 16 + (restP k).2) :: (putV (restP k).1.length ++ (restP k).1)
theorem textP_len (l : List UInt8) : (textP l).length = l.length + 2 := by
  unfold textP; rw [List.length_append, fixedV_len]; omega
theorem name_le {s : ByteArray} (h : nameB s = true) : s.size ≤ 64 := by
  unfold nameB sizedB at h
  simp only [Bool.and_eq_true, decide_eq_true_eq] at h
  omega
theorem filter_le {s : ByteArray} (h : filterB s = true) : s.size ≤ 64 := by
  unfold filterB sizedB at h
  simp only [Bool.and_eq_true, decide_eq_true_eq] at h
  omega
theorem flatMap_le {α : Type} {f : α → List UInt8} {n : Nat} : ∀ {l : List α}, (∀ x ∈ l, (f x).length ≤ n) → (l.flatMap f).length ≤ l.length * n
  | [], _ => Nat.zero_le _
  | x :: l, h => by
    rw [List.flatMap_cons, List.length_append, List.length_cons, Nat.add_mul, Nat.one_mul]
    have := h x (List.mem_cons_self ..)
    have := flatMap_le fun y hy => h y (List.mem_cons_of_mem _ hy)
    omega
/-- No packet that may be is great. -/
theorem rest_le {k : Pk} (h : MayK k) : (restP k).1.length ≤ 1000 := by
  have f2 : ∀ n, (fixedV n 2).length = 2 := fun n => fixedV_len n 2
  unfold restP
  split
  · rename_i k1
    have hc := h.con.1 k1
    have cl : k.client.data.toList.length ≤ 64 := by rw [slen]; exact hc.2.2.1
    have ml : mqttL.length = 4 := rfl
    by_cases hw : k.will = true
    · have hm := h.msg.1 (.inr ⟨k1, hw⟩)
      have tl := name_le hm.1
      rw [← slen] at tl
      rw [if_pos hw]
      simp only [List.length_append, textP_len, f2, List.length_cons, List.length_nil]
      omega
    · rw [if_neg hw]
      simp only [List.length_append, textP_len, f2, List.length_cons, List.length_nil]
      omega
  split
  · exact (by decide : 2 ≤ 1000)
  split
  · rename_i k3
    have hm := h.msg.1 (.inl k3)
    have tl := name_le hm.1
    rw [← slen] at tl
    simp only [List.length_append, textP_len]
    split
    · rw [f2]; omega
    · rw [List.length_nil]; omega
  split
  · rename_i k8
    have hw := h.wants.1 k8
    have := flatMap_le (f := fun w : ByteArray × Int => textP w.1.data.toList ++ [UInt8.ofNat w.2.toNat]) (n := 67) (l := k.wants) fun x hx => by
      have := filter_le (hw.2.2 x hx).1
      rw [← slen] at this
      simp only [List.length_append, textP_len, List.length_cons, List.length_nil]
      omega
    have := hw.2.1
    rw [List.length_append, f2]
    omega
  split
  · rename_i k10
    have hw := h.wants.2.1 k10
    have := flatMap_le (f := fun w : ByteArray × Int => textP w.1.data.toList) (n := 66) (l := k.wants) fun x hx => by
      have := filter_le (hw.2.2 x hx).1
      rw [← slen] at this
      simp only [textP_len]
      omega
    have := hw.2.1
    rw [List.length_append, f2]
    omega
  split
  · rename_i k9
    have hc := h.codes.1 k9
    rw [List.length_append, f2, List.length_map]
    omega
  split
  · rw [f2]; omega
  split
  · exact Nat.zero_le _
  · rw [f2]; omega
end Go.G.YtciepfobnaemmaaDoor
