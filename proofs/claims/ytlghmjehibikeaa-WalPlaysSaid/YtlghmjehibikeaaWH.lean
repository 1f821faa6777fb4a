/- Logs on a disk without faults. -/
import Derived.Test.YtlghmjehibikeaaWG
import Derived.Test.YtlghmjehibikeaaProg
set_option maxRecDepth 100000
namespace Go.G.Ytlghmjehibikeaa
open Go.RowKit
def f14_J : Nat → List Nat × Nat := jOf []



theorem f14_go {w0 : World} {K : Value → AH → Prop} (x0 : Option Go.Addr) (h : AH)
  (hv : (brB (Option.isNone x0) (K (Go.Value.int .i64 (0 : Int)) h) (∃ a'0 : Go.Addr, ((x0 = (some a'0)) ∧ (∃ i'1 : Int, (((Go.G.cellA w0 h (Go.Addr.add a'0 2)) = (some (Go.Value.int .i64 i'1))) ∧ (K (Go.Value.int .i64 i'1) h))))))) :
  EvC Go.Proofs.Try.prog w0 14 ([(.pointer x0)]).toArray K h := EvC_intro (P := Go.Proofs.Try.prog) f14_J (Eq.mp (by kernel_rfl) hv)
def f24_J : Nat → List Nat × Nat := jOf []



theorem f24_go {w0 : World} {K : Value → AH → Prop} (x0 : Option Go.Addr) (h : AH)
  (hv : (brB (Option.isNone x0) (K (Go.Value.int .i64 (0 : Int)) h) (∃ a'0 : Go.Addr, ((x0 = (some a'0)) ∧ (∃ i'1 : Int, (((Go.G.cellA w0 h (Go.Addr.add a'0 3)) = (some (Go.Value.int .i64 i'1))) ∧ (K (Go.Value.int .i64 i'1) h))))))) :
  EvC Go.Proofs.Try.prog w0 24 ([(.pointer x0)]).toArray K h := EvC_intro (P := Go.Proofs.Try.prog) f24_J (Eq.mp (by kernel_rfl) hv)
def f18_J : Nat → List Nat × Nat := jOf []



theorem f18_go {w0 : World} {K : Value → AH → Prop} (x0 : Option Go.Addr) (h : AH)
  (hv : (brB (Option.isNone x0) (K (Go.Value.string (ByteArray.mk #[])) h) (∃ a'0 : Go.Addr, ((x0 = (some a'0)) ∧ (∃ s'1 : ByteArray, (((Go.G.cellA w0 h (Go.Addr.add a'0 1)) = (some (Go.Value.string s'1))) ∧ (K (Go.Value.string s'1) h))))))) :
  EvC Go.Proofs.Try.prog w0 18 ([(.pointer x0)]).toArray K h := EvC_intro (P := Go.Proofs.Try.prog) f18_J (Eq.mp (by kernel_rfl) hv)
def f15_J : Nat → List Nat × Nat := jOf []



theorem f15_go {w0 : World} {K : Value → AH → Prop}  (h : AH)
  (hv : (EvC Go.Proofs.Try.prog w0 9 #[(Go.Value.int .i64 (1048576 : Int))] (fun x'0 h'1 => (∃ p'2 : Option Go.Addr, ((x'0 = (Go.Value.pointer p'2)) ∧ (EvC Go.Proofs.Try.prog w0 10 #[(Go.Value.pointer p'2), (Go.Value.string (ByteArray.mk #[(119 : UInt8)]))] (fun x'3 h'4 => (∃ p'5 : Option Go.Addr, (∃ i'6 : Int, ((x'3 = (Go.Value.tuple #[(Go.Value.pointer p'5), (Go.Value.int .i64 i'6)])) ∧ (brB (i'6 == (0 : Int)) (EvC Go.Proofs.Try.prog w0 13 #[(Go.Value.int .i64 (1 : Int)), (Go.Value.int .i64 (2 : Int))] (fun x'7 h'8 => (∃ i'9 : Int, (∃ p'10 : Option Go.Addr, (∃ n'11 : Nat, (∃ n'12 : Nat, ((x'7 = (Go.Value.agg #[(Go.Value.int .i64 i'9), (Go.Value.slice p'10 n'11 n'12)])) ∧ (EvC Go.Proofs.Try.prog w0 12 #[(Go.Value.pointer p'5), (Go.Value.agg #[(Go.Value.int .i64 i'9), (Go.Value.slice p'10 n'11 n'12)])] (fun x'13 h'14 => (∃ i'15 : Int, ((x'13 = (Go.Value.int .i64 i'15)) ∧ (brB (i'15 == (0 : Int)) (EvC Go.Proofs.Try.prog w0 13 #[(Go.Value.int .i64 (9 : Int)), (Go.Value.int .i64 (1 : Int))] (fun x'16 h'17 => (∃ i'18 : Int, (∃ p'19 : Option Go.Addr, (∃ n'20 : Nat, (∃ n'21 : Nat, ((x'16 = (Go.Value.agg #[(Go.Value.int .i64 i'18), (Go.Value.slice p'19 n'20 n'21)])) ∧ (EvC Go.Proofs.Try.prog w0 12 #[(Go.Value.pointer p'5), (Go.Value.agg #[(Go.Value.int .i64 i'18), (Go.Value.slice p'19 n'20 n'21)])] (fun x'22 h'23 => (∃ i'24 : Int, ((x'22 = (Go.Value.int .i64 i'24)) ∧ (brB (i'24 == (11 : Int)) (EvC Go.Proofs.Try.prog w0 14 #[(Go.Value.pointer p'5)] (fun x'25 h'26 => (∃ i'27 : Int, ((x'25 = (Go.Value.int .i64 i'27)) ∧ (K (Go.Value.bool (i'27 == (2 : Int))) h'26)))) h'23) (K (Go.Value.bool false) h'23))))) h'17))))))) h'14) (K (Go.Value.bool false) h'14))))) h'8))))))) h'4) (K (Go.Value.bool false) h'4)))))) h'1)))) h)) :
  EvC Go.Proofs.Try.prog w0 15 ([]).toArray K h := EvC_intro (P := Go.Proofs.Try.prog) f15_J (Eq.mp (by kernel_rfl) hv)
/-! ### logs on a disk without faults -/
structure LogAt (s : Ds) (bs : List Bat) (L : Lg) : Prop where
  last : L.last = lastB 0 bs
  size : L.size = (fileB bs).length
  torn : L.torn = false
  failed : L.failed = false
  data : hasD s L.name = some (fileB bs)
  ok : ∀ b ∈ bs, okB b
  ch : chainB 0 bs
theorem lastB_app (bs : List Bat) (x : Int) (b : Bat) : lastB x (bs ++ [b]) = b.1 + b.2.length - 1 := by
  induction bs generalizing x with
  | nil => rfl
  | cons z l ih => exact ih _
theorem chainB_app {bs : List Bat} {x : Int} {b : Bat} (h : chainB x bs) (hb : 0 < lastB x bs → b.1 = lastB x bs + 1) : chainB x (bs ++ [b]) := by
  induction bs generalizing x with
  | nil => exact ⟨hb, trivial⟩
  | cons z l ih => exact ⟨h.1, ih h.2 hb⟩
theorem fileB_app (bs : List Bat) (b : Bat) : fileB (bs ++ [b]) = fileB bs ++ frameB (encB b.1 b.2) := by simp [fileB]
theorem okB_last {b : Bat} (h : okB b) : 1 ≤ b.1 + b.2.length - 1 ∧ b.1 + b.2.length - 1 ≤ 4611686018427387904 := by
  obtain ⟨g1, g2, g3, g4, g5⟩ := mayB_zero h.1
  omega
theorem lastB_in {bs : List Bat} (h : ∀ b ∈ bs, okB b) : 0 ≤ lastB 0 bs ∧ lastB 0 bs ≤ 4611686018427387904 := by
  have : ∀ (l : List Bat) (x : Int), (∀ b ∈ l, okB b) → 0 ≤ x ∧ x ≤ 4611686018427387904 → 0 ≤ lastB x l ∧ lastB x l ≤ 4611686018427387904 := fun l => by
    induction l with
    | nil => exact fun x _ hx => hx
    | cons b l ih => exact fun x hb hx => ih _ (fun c hc => hb c (List.mem_cons_of_mem _ hc)) (by have := okB_last (hb b (List.mem_cons_self ..)); omega)
  exact this bs 0 h ⟨Int.le_refl _, by decide⟩
theorem append_log {s : Ds} {bs : List Bat} {L : Lg} {seq : Int} {ops : List Op} (q : Qu s) (a : LogAt s bs L) (ho : okB (seq, ops)) (hs : 0 < lastB 0 bs → seq = lastB 0 bs + 1)
    (hd : (fileB bs).length + (frameB (encB seq ops)).length ≤ 4194304) (hr : ((usedS s : Nat) : Int) + ((frameB (encB seq ops)).length : Nat) ≤ s.room) :
    (appendW L s seq ops).1 = 0 ∧ (appendW L s seq ops).2.1.name = L.name ∧ Qu (appendW L s seq ops).2.2 ∧ LogAt (appendW L s seq ops).2.2 (bs ++ [(seq, ops)]) (appendW L s seq ops).2.1 ∧ (∀ m, m ≠ L.name → hasD (appendW L s seq ops).2.2 m = hasD s m) ∧
      usedS (appendW L s seq ops).2.2 = usedS s + (frameB (encB seq ops)).length ∧ (appendW L s seq ops).2.2.room = s.room ∧ (appendW L s seq ops).2.2.calls = s.calls + 2 := by
  obtain ⟨a1, a2, a3, a4, a5⟩ := append_q q a.data hd hr
  obtain ⟨b1, b2, b3, b4, b5⟩ := sync_q a2 (by rw [a3, if_pos rfl])
  have e : appendW L s seq ops = (0, { L with last := seq + ops.length - 1, size := L.size + (frameB (encB seq ops)).length }, (syncS L.name (appendS L.name (frameB (encB seq ops)) s).2).2) := by
    unfold appendW
    rw [if_neg (by rw [ho.1]; simp), if_neg (by rw [a.last]; intro z; exact z.2 (hs z.1)), if_neg (by have := ho.2; simp only at this; omega), if_neg (by rw [a.torn]; simp), if_neg (by rw [a.failed]; simp), if_neg (by rw [a1]; simp), if_neg (by rw [b1]; simp)]
  rw [e]
  refine ⟨rfl, rfl, b2, ⟨?_, ?_, a.torn, a.failed, ?_, ?_, ?_⟩, ?_, b4.trans a4, b5.trans a5, ?_⟩
  · rw [lastB_app]
  · show L.size + _ = _
    rw [fileB_app, List.length_append, a.size]; simp
  · show hasD _ L.name = _
    rw [b3, a3, if_pos rfl, fileB_app]
  · intro b hb
    rcases List.mem_append.1 hb with hb | hb
    · exact a.ok b hb
    · rw [List.mem_singleton] at hb; rw [hb]; exact ho
  · exact chainB_app a.ch hs
  · intro m hm; show hasD _ m = _; rw [b3, a3, if_neg hm]
  · show (syncS _ _).2.calls = _
    rw [syncS_calls, appendS_calls]; omega
theorem LogAt.keep {s s' : Ds} {bs : List Bat} {L : Lg} (a : LogAt s bs L) (h : hasD s' L.name = hasD s L.name) : LogAt s' bs L := ⟨a.last, a.size, a.torn, a.failed, by rw [h]; exact a.data, a.ok, a.ch⟩
section
variable {w0 : World} {K : Value → AH → Prop} {h : AH} {B : List (Nat × AB)}
abbrev LgO (lb bd : Nat) (L : Lg) : Nat × AB := (lb, .cells (logC bd L) 6)
/-- Append, of a log on a disk without faults. -/
theorem f12_log {s : Ds} {D : PD} {bd : Nat} (hbd : D.bd = bd) {lb : Nat} {L : Lg} {bs : List Bat} {seq : Int} {a : Option Addr} {c : Nat} {l : List OpM} {ops : List Op} (r : PRep s D) (w : Own w0 h (LgO lb bd L :: (D.blocks s ++ B))) (hc : s.calls < 100000000) (hO : ∀ h', Own w0 h' B → OpsOk w0 h' a l)
    (q : Qu s) (la : LogAt s bs L) (he : l.map OpM.o = ops) (ho : okB (seq, ops)) (hs : 0 < lastB 0 bs → seq = lastB 0 bs + 1)
    (hd : (fileB bs).length + (frameB (encB seq ops)).length ≤ 4194304) (hr : ((usedS s : Nat) : Int) + ((frameB (encB seq ops)).length : Nat) ≤ s.room)
    (hk : ∀ h' s' D' L', D'.bd = bd → PRep s' D' → Qu s' → L'.name = L.name → LogAt s' (bs ++ [(seq, ops)]) L' → (∀ m, m ≠ L.name → hasD s' m = hasD s m) → usedS s' = usedS s + (frameB (encB seq ops)).length → s'.room = s.room → s'.calls = s.calls + 2 →
      Own w0 h' (LgO lb bd L' :: (D'.blocks s' ++ B)) → K (.int .i64 0) h') :
    EvC Go.Proofs.Try.prog w0 12 #[.pointer (some ⟨lb, 0, none⟩), .agg #[.int .i64 seq, .slice a l.length c]] K h := by
  subst hbd
  obtain ⟨g1, g2, g3, g4, g5, g6, g7, g8⟩ := append_log q la ho hs hd hr
  have h1 := lastB_in la.ok
  subst he
  refine f12_spec r w hc hO (by rw [la.last]; exact h1) (by rw [la.size]; omega) fun h' D' b' r' w' => ?_
  rw [g1]
  exact hk h' _ D' _ b' r' g3 g2 g4 g5 g6 g7 g8 w'
/-- Create, on a disk without faults. -/
theorem f10_log {s : Ds} {D : PD} {bd : Nat} (hbd : D.bd = bd) {n : ByteArray} (r : PRep s D) (w : Own w0 h (D.blocks s ++ B)) (hc : s.calls < 100000000) (q : Qu s) (hn : nameB n = true) (hf : hasD s n = none)
    (hk : ∀ h' s' D' lb, D'.bd = bd → PRep s' D' → Qu s' → LogAt s' [] ⟨n, 0, 0, false, false⟩ → (∀ m, m ≠ n → hasD s' m = hasD s m) → usedS s' = usedS s → s'.room = s.room → s'.calls = s.calls + 2 → Own w0 h' (LgO lb bd ⟨n, 0, 0, false, false⟩ :: (D'.blocks s' ++ B)) → K (.tuple #[.pointer (some ⟨lb, 0, none⟩), .int .i64 0]) h') :
    EvC Go.Proofs.Try.prog w0 10 #[.pointer (some ⟨bd, 0, none⟩), .string n] K h := by
  subst hbd
  obtain ⟨a1, a2, a3, a4, a5⟩ := create_q q hn hf
  obtain ⟨b1, b2, b3, b4, b5⟩ := syncDir_q a2
  refine f10_spec r w hc (fun z => absurd a1 z) (fun _ z => absurd b1 z) fun _ _ h' D' lb b' r' w' => ?_
  refine hk h' _ D' lb b' r' b2 ⟨rfl, rfl, rfl, rfl, ?_, fun b hb => (by cases hb), trivial⟩ ?_ (b4.trans a4) (b5.trans a5) ?_ w'
  · show hasD _ n = _; rw [b3, a3, if_pos rfl]; rfl
  · intro m hm; rw [b3, a3, if_neg hm]
  · rw [syncDirS_calls, createS_calls]; omega
/-- Create, of a name that there is, or that isn't one. -/
theorem f10_bad {s : Ds} {D : PD} {bd : Nat} (hbd : D.bd = bd) {n : ByteArray} {e : Int} (r : PRep s D) (w : Own w0 h (D.blocks s ++ B)) (hc : s.calls < 100000000) (q : Qu s) (he : (nameB n = false ∧ e = 15) ∨ (nameB n = true ∧ (∃ d, hasD s n = some d) ∧ e = 6))
    (hk : ∀ h' s' D', D'.bd = bd → PRep s' D' → Qu s' → (∀ m, hasD s' m = hasD s m) → s'.calls = s.calls + 1 → Own w0 h' (D'.blocks s' ++ B) → K (.tuple #[.pointer none, .int .i64 e]) h') :
    EvC Go.Proofs.Try.prog w0 10 #[.pointer (some ⟨bd, 0, none⟩), .string n] K h := by
  subst hbd
  have e1 : createS n s = (e, (callS s).2.2) ∧ e ≠ 0 := by
    rcases he with ⟨h1, rfl⟩ | ⟨h1, ⟨d, h2⟩, rfl⟩
    · exact ⟨create_bad q h1, by decide⟩
    · exact ⟨create_there q h1 h2, by decide⟩
  refine f10_spec r w hc (fun _ h' D' b' r' w' => ?_) (fun z => absurd (by rw [e1.1] at z; exact z) e1.2) fun z => absurd (by rw [e1.1] at z; exact z) e1.2
  rw [e1.1] at r' w' ⊢
  exact hk h' _ D' b' r' q.call.2 (hasD_call s) (callS_same s).2.2.2.2 w'
/-- Open, on a disk without faults. -/
theorem f11_log {s : Ds} {D : PD} {bd : Nat} (hbd : D.bd = bd) {n : ByteArray} {bs : List Bat} (r : PRep s D) (w : Own w0 h (D.blocks s ++ B)) (q : Qu s) (hd : hasD s n = some (fileB bs)) (hok : ∀ b ∈ bs, okB b) (hch : chainB 0 bs) (hlen : (fileB bs).length ≤ 4194304) (hb : bs.length ≤ 1000)
    (hk : ∀ h' lb a' c' ms, ms.map BaM.bat = bs → SlV 2 a' ms.length c' (batC ms) → BsV ms → LogAt s bs ⟨n, lastB 0 bs, ((fileB bs).length : Nat), false, false⟩ → Own w0 h' (LgO lb bd ⟨n, lastB 0 bs, ((fileB bs).length : Nat), false, false⟩ :: (slB a' (batC ms) (c' * 2) ++ (ownB ms ++ (D.blocks s ++ B)))) → K (.tuple #[.pointer (some ⟨lb, 0, none⟩), .slice a' ms.length c', .int .i64 0]) h') :
    EvC Go.Proofs.Try.prog w0 11 #[.pointer (some ⟨bd, 0, none⟩), .string n] K h := by
  subst hbd
  refine f11_spec (bs := bs) (tl := []) r w (by rw [List.append_nil]; exact read_q q hd) (by rw [List.append_nil]; exact hlen) hb hok hch (Or.inl rfl) fun h' lb a' c' ms he v vs w' => ?_
  exact hk h' lb a' c' ms he v vs ⟨rfl, rfl, rfl, rfl, hd, hok, hch⟩ w'
/-- Last; Size. -/
theorem f14_spec {lb bd : Nat} {L : Lg} (w : Own w0 h (LgO lb bd L :: B)) (hk : K (.int .i64 L.last) h) : EvC Go.Proofs.Try.prog w0 14 #[.pointer (some ⟨lb, 0, none⟩)] K h :=
  f14_go _ _ (brB_of (fun z => by cases z) fun _ => ⟨_, rfl, _, w.cell0 rfl, hk⟩)
theorem f24_spec {lb bd : Nat} {L : Lg} (w : Own w0 h (LgO lb bd L :: B)) (hk : K (.int .i64 L.size) h) : EvC Go.Proofs.Try.prog w0 24 #[.pointer (some ⟨lb, 0, none⟩)] K h :=
  f24_go _ _ (brB_of (fun z => by cases z) fun _ => ⟨_, rfl, _, w.cell0 rfl, hk⟩)
theorem f18_spec {lb bd : Nat} {L : Lg} (w : Own w0 h (LgO lb bd L :: B)) (hk : K (.string L.name) h) : EvC Go.Proofs.Try.prog w0 18 #[.pointer (some ⟨lb, 0, none⟩)] K h :=
  f18_go _ _ (brB_of (fun z => by cases z) fun _ => ⟨_, rfl, _, w.cell0 rfl, hk⟩)
end
theorem Own.pull2 {w0 : World} {h : AH} {x : Nat × AB} {A C D B : List (Nat × AB)} (w : Own w0 h (A ++ (C ++ (x :: (D ++ B))))) : Own w0 h (x :: (D ++ (A ++ (C ++ B)))) := by
  have p1 := List.perm_append_comm_assoc (A ++ C) (x :: D) B
  exact w.perm (by simpa only [List.append_assoc, List.cons_append] using p1)
/-! lengths -/
theorem oneS_enc (n : Nat) (hn : n ≤ 200) : ((oneS n).flatMap encO).length ≤ 32 * n := by
  induction n with
  | zero => simp [oneS]
  | succ n ih =>
    have := ih (by omega)
    rw [oneS_step, List.flatMap_append, List.length_append]
    have p1 := putV_len10 (n := 1) (by omega)
    have p2 := putV_len10 (n := 0) (by omega)
    have : ([(⟨[UInt8.ofNat (n + 1)], false, 0, []⟩ : Op)].flatMap encO).length ≤ 32 := by
      simp [encO] at p1 p2 ⊢; omega
    omega
theorem one_len {seq : Int} {n : Nat} (hn : n ≤ 200) (h0 : 1 ≤ seq) (h1 : seq ≤ 4611686018427387904) : (encB seq (oneS n)).length ≤ 32 * n + 20 ∧ (frameB (encB seq (oneS n))).length ≤ 32 * n + 34 := by
  have p1 := putV_len10 (n := seq.toNat) (by omega)
  have p2 := putV_len10 (n := (oneS n).length) (by rw [oneS_len]; omega)
  have p3 := oneS_enc n hn
  have : (encB seq (oneS n)).length ≤ 32 * n + 20 := by unfold encB; rw [List.length_append, List.length_append]; omega
  have := frameB_len (encB seq (oneS n)) (by omega)
  omega
theorem one_ok {seq : Int} {n : Nat} (h1 : 1 ≤ n) (h2 : n ≤ 200) (h3 : 1 ≤ seq) (h4 : seq ≤ 4611686018427387904 - (n : Int) + 1) : okB (seq, oneS n) :=
  ⟨mayB_one h1 (by omega) h3 h4, by have := (one_len (seq := seq) h2 h3 (by omega)).1; simp only; omega⟩
section
variable {w0 : World} {K : Value → AH → Prop} {h : AH} {B : List (Nat × AB)}
/-- awake. -/
theorem f15_spec (w : Own w0 h B) (hk : ∀ h', Own w0 h' B → K (.bool true) h') : EvC Go.Proofs.Try.prog w0 15 #[] K h := by
  refine f15_go _ (f9_spec (room := 1048576) (by omega) w fun h1 D r1 w1 => ⟨_, rfl, ?_⟩)
  refine f10_log rfl r1 w1 (by show (0 : Int) < _; decide) (newS_q _ (by omega)) (by decide) rfl fun h2 s2 D2 lb b2 r2 q2 l2 _ u2 m2 c2 w2 => ⟨_, _, rfl, brB_of (fun _ => ?_) fun z => by cases z⟩
  have hu : usedS (newS 1048576) = 0 := rfl
  have hm : (newS 1048576).room = 1048576 := rfl
  have hcn : (newS 1048576).calls = 0 := rfl
  refine f13_spec (n := 2) w2 (by omega) fun h3 a3 c3 os3 e3 v3 vs3 w3 => ⟨_, _, _, _, rfl, ?_⟩
  have hl := one_len (seq := 1) (n := 2) (by omega) (by omega) (by omega)
  have w4 := Own.pull2 w3
  have hO : ∀ h', Own w0 h' (slB a3 (opsC os3) (c3 * 4) ++ (ownO os3 ++ B)) → OpsOk w0 h' a3 os3 := fun h' w' => opsOk_own (C := []) v3 vs3 w'
  refine f12_log b2 r2 w4 (by omega) hO q2 l2 e3 (one_ok (by omega) (by omega) (by omega) (by omega)) (fun z => by cases z) (by show 0 + _ ≤ _; omega) (by omega) fun h5 s5 D5 L5 b5 r5 q5 n5 l5 _ u5 m5 c5 w5 => ⟨_, rfl, brB_of (fun _ => ?_) fun z => by cases z⟩
  refine f13_spec (n := 1) w5 (by omega) fun h6 a6 c6 os6 e6 v6 vs6 w6 => ⟨_, _, _, _, rfl, ?_⟩
  have w7 := Own.pull2 w6
  have hol : os6.length = 1 := by have := congrArg List.length e6; simpa [oneS_len] using this
  have hO6 : ∀ h', Own w0 h' (slB a6 (opsC os6) (c6 * 4) ++ (ownO os6 ++ (slB a3 (opsC os3) (c3 * 4) ++ (ownO os3 ++ B)))) → OpsOk w0 h' a6 os6 := fun h' w' => opsOk_own (C := []) v6 vs6 w'
  have hlast : L5.last = 2 := by rw [l5.last, lastB_app]; rfl
  rw [← b5] at w7
  refine f12_spec r5 w7 (by omega) hO6 (by rw [hlast]; omega) (by rw [l5.size, fileB_app, List.length_append]; have : (fileB []).length = 0 := rfl; dsimp only; omega) fun h8 D8 b8 r8 w8 => ?_
  have ea : appendW L5 s5 9 (os6.map OpM.o) = (11, L5, s5) := by
    unfold appendW
    rw [e6, if_neg (by rw [mayB_one (by omega) (by omega) (by omega) (by omega)]; simp), if_pos (by rw [hlast]; omega)]
  rw [ea] at r8 w8 ⊢
  refine ⟨_, rfl, brB_of (fun _ => ?_) fun z => by cases z⟩
  refine f14_spec w8 ⟨_, rfl, ?_⟩
  dsimp only
  rw [hlast]
  have w9 : Own w0 h8 B := (w8.tail.drop.drop.drop.drop).drop
  exact hk h8 w9
end
end Go.G.Ytlghmjehibikeaa
