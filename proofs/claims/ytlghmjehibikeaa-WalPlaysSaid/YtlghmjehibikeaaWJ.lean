/- A log on a disk that fails. -/
import Derived.Test.YtlghmjehibikeaaWI
import Derived.Test.YtlghmjehibikeaaProg
set_option maxRecDepth 100000
namespace Go.G.Ytlghmjehibikeaa
open Go.RowKit
/-! ### one file, a disk that fails -/
abbrev nW : ByteArray := ⟨#[119]⟩
structure W1 (s : Ds) (data : List UInt8) (sure : Nat) : Prop where
  ok : s.Ok
  dir : s.dir = [(nW, 0)]
  was : s.was = [[(nW, 0)]]
  fs : s.fs = [⟨data, sure⟩]
  room : s.room = 1048576
theorem W1.call {s : Ds} {d : List UInt8} {k : Nat} (a : W1 s d k) : W1 (callS s).2.2 d k := by
  obtain ⟨e1, e2, e3, e4, e5⟩ := callS_same s
  exact ⟨callS_ok a.ok, e3.trans a.dir, e4.trans a.was, e2.trans a.fs, e1.trans a.room⟩
def sW : Ds := (syncDirS (createS nW (newS 1048576)).2).2
theorem create_w : (createS nW (newS 1048576)).1 = 0 ∧ (syncDirS (createS nW (newS 1048576)).2).1 = 0 ∧ W1 sW [] 0 ∧ sW.off = false ∧ sW.fuse = 0 ∧ sW.fails = 0 ∧ sW.calls = 2 := by
  have q := newS_q 1048576 (by omega)
  obtain ⟨a1, a2, a3, a4, a5⟩ := create_q (n := nW) q (by decide) rfl
  obtain ⟨b1, b2, b3, b4, b5⟩ := syncDir_q a2
  exact ⟨a1, b1, ⟨b2.ok, by decide, by decide, by rfl, b5.trans a5⟩, b2.off, b2.fuse, b2.fails, by rfl⟩
theorem findW {s : Ds} {d : List UInt8} {k : Nat} (a : W1 s d k) : findD nW s.dir = some 0 := by rw [a.dir]; rfl
theorem append_w {s : Ds} {d b : List UInt8} {k : Nat} (a : W1 s d k) (hd : d.length + b.length ≤ 1048576) :
    ((callS s).1 ≠ 0 ∧ appendS nW b s = ((callS s).1, (callS s).2.2)) ∨
    ((callS s).1 = 0 ∧ (appendS nW b s).1 = endS (callS s).2.1 0 ∧ W1 (appendS nW b s).2 (d ++ b) k ∧ (appendS nW b s).2.off = (callS s).2.2.off ∧ (appendS nW b s).2.fuse = (callS s).2.2.fuse ∧ (appendS nW b s).2.fails = (callS s).2.2.fails) := by
  by_cases h0 : (callS s).1 = 0
  · right
    have c := a.call
    have hu : usedS (callS s).2.2 = d.length := by unfold usedS; rw [c.dir, c.fs]; simp [lenAt]
    have hl : lenAt (callS s).2.2.fs 0 = d.length := by rw [c.fs]; rfl
    have e : appendS nW b s = (endS (callS s).2.1 0, { (callS s).2.2 with fs := (callS s).2.2.fs.modify 0 fun f => { f with data := f.data ++ b } }) := by
      unfold appendS; dsimp only
      rw [if_neg (by simp [h0]), findW c]
      dsimp only
      rw [if_neg]
      rw [hu, hl, c.room, wrap64 (by omega) (by omega), wrap64 (by omega) (by omega)]; omega
    refine ⟨h0, by rw [e], ⟨appendS_ok a.ok nW b, by rw [e]; exact c.dir, by rw [e]; exact c.was, ?_, by rw [e]; exact c.room⟩, by rw [e], by rw [e], by rw [e]⟩
    rw [e]; dsimp only; rw [c.fs]; rfl
  · left
    refine ⟨h0, ?_⟩
    unfold appendS; dsimp only
    rw [if_pos h0]
theorem sync_w {s : Ds} {d : List UInt8} {k : Nat} (a : W1 s d k) :
    (((callS s).1 ≠ 0 ∨ (callS s).2.1 = true) ∧ syncS nW s = (endS (callS s).2.1 (callS s).1, (callS s).2.2)) ∨
    ((callS s).1 = 0 ∧ (callS s).2.1 = false ∧ (syncS nW s).1 = 0 ∧ W1 (syncS nW s).2 d d.length ∧ (syncS nW s).2.off = (callS s).2.2.off ∧ (syncS nW s).2.fuse = (callS s).2.2.fuse ∧ (syncS nW s).2.fails = (callS s).2.2.fails) := by
  by_cases h0 : (callS s).1 ≠ 0 ∨ (callS s).2.1 = true
  · left
    refine ⟨h0, ?_⟩
    unfold syncS; rw [if_pos h0]
  · right
    have c := a.call
    have e : syncS nW s = (0, { (callS s).2.2 with fs := (callS s).2.2.fs.modify 0 fun f => { f with sure := f.data.length } }) := by
      unfold syncS; rw [if_neg h0, findW c]
    have h1 : (callS s).1 = 0 := by
      by_cases z : (callS s).1 = 0
      · exact z
      · exact absurd (Or.inl z) h0
    have h2 : (callS s).2.1 = false := by
      cases z : (callS s).2.1 with
      | false => rfl
      | true => exact absurd (Or.inr z) h0
    refine ⟨h1, h2, by rw [e], ⟨syncS_ok a.ok nW, by rw [e]; exact c.dir, by rw [e]; exact c.was, ?_, by rw [e]; exact c.room⟩, by rw [e], by rw [e], by rw [e]⟩
    rw [e]; dsimp only; rw [c.fs]; rfl
structure Nf (s : Ds) : Prop where
  off : s.off = false
  fuse : s.fuse = 0
theorem call_nf {s : Ds} (n : Nf s) : ((callS s).1 = 0 ∨ (callS s).1 = 9) ∧ (callS s).2.1 = false ∧ Nf (callS s).2.2 := by
  have hf : (s.fuse == 1) = false := by rw [n.fuse]; rfl
  unfold callS
  rw [if_neg (by simp [n.off])]
  split
  · rw [if_neg (by simp [hf])]
    exact ⟨Or.inr rfl, rfl, n.off, by simp [tickS, n.fuse]⟩
  · exact ⟨Or.inl rfl, hf, hf, by simp [tickS, n.fuse]⟩
structure Fz (s : Ds) : Prop where
  off : s.off = false
  fails : s.fails = 0
  fuse : 1 ≤ s.fuse
theorem call_fz {s : Ds} (n : Fz s) : (callS s).1 = 0 ∧ (((callS s).2.1 = true ∧ (callS s).2.2.off = true) ∨ ((callS s).2.1 = false ∧ Fz (callS s).2.2)) := by
  have hf : failing s = false := by simp [failing, n.fails]
  have h1 := n.fuse
  have e : callS s = (0, s.fuse == 1, { tickS s with off := s.fuse == 1 }) := by
    unfold callS; rw [if_neg (by simp [n.off]), if_neg (by simp [hf])]
  rw [e]
  refine ⟨rfl, ?_⟩
  by_cases q : s.fuse = 1
  · left; exact ⟨by simp [q], by simp [q]⟩
  · right
    have q2 : (s.fuse == 1) = false := by simp [q]
    refine ⟨q2, q2, by simp [tickS, n.fails, hf], ?_⟩
    simp only [tickS]
    rw [if_pos (by omega)]; omega
section
variable {s : Ds} {L : Lg} {d : List UInt8} {seq : Int} {ops : List Op}
theorem appendW_eq (hn : L.name = nW) (ho : okB (seq, ops)) (hs : 0 < L.last → seq = L.last + 1) (ht : L.torn = false) (hf : L.failed = false) :
    appendW L s seq ops = if (appendS nW (frameB (encB seq ops)) s).1 ≠ 0 then ((appendS nW (frameB (encB seq ops)) s).1, { L with failed := true }, (appendS nW (frameB (encB seq ops)) s).2)
      else if (syncS nW (appendS nW (frameB (encB seq ops)) s).2).1 ≠ 0 then ((syncS nW (appendS nW (frameB (encB seq ops)) s).2).1, { L with failed := true }, (syncS nW (appendS nW (frameB (encB seq ops)) s).2).2)
      else (0, { L with last := seq + ops.length - 1, size := L.size + (frameB (encB seq ops)).length }, (syncS nW (appendS nW (frameB (encB seq ops)) s).2).2) := by
  unfold appendW
  rw [if_neg (by rw [ho.1]; simp), if_neg (by intro z; exact z.2 (hs z.1)), if_neg (by have := ho.2; simp only at this; omega), if_neg (by rw [ht]; simp), if_neg (by rw [hf]; simp), hn]
theorem appendW_calls (hn : L.name = nW) (ho : okB (seq, ops)) (hs : 0 < L.last → seq = L.last + 1) (ht : L.torn = false) (hf : L.failed = false) : (appendW L s seq ops).2.2.calls ≤ s.calls + 2 := by
  rw [appendW_eq hn ho hs ht hf]
  have h1 := appendS_calls nW (frameB (encB seq ops)) s
  have h2 := syncS_calls nW (appendS nW (frameB (encB seq ops)) s).2
  split
  · show (appendS _ _ s).2.calls ≤ _; omega
  · split
    · show (syncS _ _).2.calls ≤ _; omega
    · show (syncS _ _).2.calls ≤ _; omega
theorem appendW_nf (n : Nf s) (a : W1 s d d.length) (hn : L.name = nW) (ho : okB (seq, ops)) (hs : 0 < L.last → seq = L.last + 1) (ht : L.torn = false) (hf : L.failed = false) (hd : d.length + (frameB (encB seq ops)).length ≤ 1048576) :
    Nf (appendW L s seq ops).2.2 ∧ (((appendW L s seq ops).1 = 0 ∧ (appendW L s seq ops).2.1 = { L with last := seq + ops.length - 1, size := L.size + (frameB (encB seq ops)).length } ∧ W1 (appendW L s seq ops).2.2 (d ++ frameB (encB seq ops)) (d ++ frameB (encB seq ops)).length) ∨
      ((appendW L s seq ops).1 = 9 ∧ (appendW L s seq ops).2.1 = { L with failed := true } ∧ ∃ u, W1 (appendW L s seq ops).2.2 (d ++ u) d.length)) := by
  rw [appendW_eq hn ho hs ht hf]
  generalize frameB (encB seq ops) = F at *
  obtain ⟨c1, c2, c3⟩ := call_nf n
  rcases append_w a hd with ⟨h0, e⟩ | ⟨h0, e1, a1, f1, f2, f3⟩
  · have h9 : (callS s).1 = 9 := by rcases c1 with z | z; exact absurd z h0; exact z
    rw [e, if_pos h0]
    exact ⟨c3, Or.inr ⟨h9, rfl, [], by rw [List.append_nil]; exact a.call⟩⟩
  · have e2 : (appendS nW F s).1 = 0 := by rw [e1, c2]; rfl
    have n1 : Nf (appendS nW F s).2 := ⟨f1.trans c3.off, f2.trans c3.fuse⟩
    generalize hS : (appendS nW F s).2 = S at *
    obtain ⟨d1, d2, d3⟩ := call_nf n1
    rw [if_neg (by simp [e2])]
    rcases sync_w a1 with ⟨h3, e⟩ | ⟨h3, h4, e3, a2, g1, g2, g3⟩
    · have h9 : (callS S).1 = 9 := by
        rcases d1 with z | z
        · rcases h3 with y | y
          · exact absurd z y
          · rw [d2] at y; cases y
        · exact z
      rw [e, d2]
      rw [if_pos (by dsimp only; rw [h9]; decide)]
      exact ⟨d3, Or.inr ⟨h9, rfl, F, a1.call⟩⟩
    · rw [if_neg (by simp [e3])]
      exact ⟨⟨g1.trans d3.off, g2.trans d3.fuse⟩, Or.inl ⟨rfl, rfl, a2⟩⟩
theorem appendW_fz (n : Fz s) (a : W1 s d d.length) (hn : L.name = nW) (ho : okB (seq, ops)) (hs : 0 < L.last → seq = L.last + 1) (ht : L.torn = false) (hf : L.failed = false) (hd : d.length + (frameB (encB seq ops)).length ≤ 1048576) :
    ((appendW L s seq ops).1 = 0 ∧ (appendW L s seq ops).2.1 = { L with last := seq + ops.length - 1, size := L.size + (frameB (encB seq ops)).length } ∧ W1 (appendW L s seq ops).2.2 (d ++ frameB (encB seq ops)) (d ++ frameB (encB seq ops)).length ∧ Fz (appendW L s seq ops).2.2) ∨
      ((appendW L s seq ops).1 = 10 ∧ (appendW L s seq ops).2.1 = { L with failed := true } ∧ W1 (appendW L s seq ops).2.2 (d ++ frameB (encB seq ops)) d.length ∧ (appendW L s seq ops).2.2.off = true) := by
  rw [appendW_eq hn ho hs ht hf]
  generalize frameB (encB seq ops) = F at *
  obtain ⟨c1, c2⟩ := call_fz n
  rcases append_w a hd with ⟨h0, e⟩ | ⟨h0, e1, a1, f1, f2, f3⟩
  · exact absurd c1 h0
  · generalize hS : (appendS nW F s).2 = S at *
    rcases c2 with ⟨g, o⟩ | ⟨g, fz⟩
    · rw [e1, g]
      rw [if_pos (by decide)]
      exact Or.inr ⟨rfl, rfl, a1, f1.trans o⟩
    · rw [e1, g]
      rw [if_neg (by simp [endS])]
      have n1 : Fz S := ⟨f1.trans fz.off, f3.trans fz.fails, by rw [f2]; exact fz.fuse⟩
      obtain ⟨d1, d2⟩ := call_fz n1
      rcases sync_w a1 with ⟨h3, e⟩ | ⟨h3, h4, e3, a2, g1, g2, g3⟩
      · rcases d2 with ⟨g', o'⟩ | ⟨g', fz'⟩
        · rw [e, g']
          rw [if_pos (by simp [endS])]
          exact Or.inr ⟨rfl, rfl, a1.call, o'⟩
        · rcases h3 with y | y
          · exact absurd d1 y
          · rw [g'] at y; cases y
      · rcases d2 with ⟨g', o'⟩ | ⟨g', fz'⟩
        · rw [h4] at g'; cases g'
        · rw [if_neg (by simp [e3])]
          exact Or.inl ⟨rfl, rfl, a2, g1.trans fz'.off, g3.trans fz'.fails, by rw [g2]; exact fz'.fuse⟩
end
/-- Crash: what was synced is kept, and a beginning of the rest. -/
theorem crash_w {s : Ds} {d : List UInt8} {k : Nat} (a : W1 s d k) (l : List Int) : ∃ k', k ≤ k' ∧ k' ≤ d.length ∧ readS nW (crashS l s) = (0, d.take k') ∧ (l = [] → k' = k) := by
  have hk : k ≤ d.length := by
    have := a.ok.fs ⟨d, k⟩ (by rw [a.fs]; exact List.mem_cons_self ..)
    exact this.2
  have h0 : (pickS l 0).1 = 0 := Nat.le_zero.1 (pickS_le l 0)
  have hq := pickS_le (pickS l 0).2 (d.length - k)
  refine ⟨k + (pickS (pickS l 0).2 (d.length - k)).1, by omega, by omega, ?_, ?_⟩
  · have e : crashS l s = { s with dir := [(nW, 1)], was := [[(nW, 1)]], fs := [⟨d, k⟩, ⟨d.take (k + (pickS (pickS l 0).2 (d.length - k)).1), k + (pickS (pickS l 0).2 (d.length - k)).1⟩], fuse := 0, wait := 0, fails := 0, off := false } := by
      unfold crashS
      rw [a.was, a.fs]
      simp only [List.length_cons, List.length_nil, Nat.zero_add, Nat.sub_self, h0, List.getElem?_cons_zero, Option.getD_some, keepAll, fileAt, List.nil_append, List.cons_append]
    rw [e]
    unfold readS lookS
    rfl
  · rintro rfl
    rfl
theorem crash_file {s : Ds} {bs bs1 : List Bat} (a : W1 s (fileB bs ++ fileB bs1) (fileB bs).length) (h1 : bs1.length ≤ 1) (hok : ∀ b ∈ bs1, okB b) (l : List Int) :
    ∃ bs' tl, readS nW (crashS l s) = (0, fileB bs' ++ tl) ∧ cutB tl ∧ (bs' = bs ∨ (bs' = bs ++ bs1 ∧ bs1.length = 1)) := by
  obtain ⟨k', k1, k2, e, _⟩ := crash_w a l
  rw [List.length_append] at k2
  have e2 : (fileB bs ++ fileB bs1).take k' = fileB bs ++ (fileB bs1).take (k' - (fileB bs).length) := by
    rw [List.take_append, List.take_of_length_le k1]
  rw [e2] at e
  match bs1, h1, hok with
  | [], _, _ => exact ⟨bs, [], by rw [e]; simp [fileB], Or.inl rfl, Or.inl rfl⟩
  | [b], _, hok =>
    have ef : fileB [b] = frameB (encB b.1 b.2) := by simp [fileB]
    by_cases q : k' - (fileB bs).length = (fileB [b]).length
    · refine ⟨bs ++ [b], [], ?_, Or.inl rfl, Or.inr ⟨rfl, rfl⟩⟩
      rw [e, q, List.take_length, fileB_app, List.append_nil, ef]
    · refine ⟨bs, (fileB [b]).take (k' - (fileB bs).length), e, ?_, Or.inl rfl⟩
      refine Or.inr ⟨encB b.1 b.2, (fileB [b]).drop (k' - (fileB bs).length), (hok b (List.mem_cons_self ..)).2, by rw [← ef, List.take_append_drop], fun z => ?_⟩
      have := congrArg List.length z
      rw [List.length_drop, List.length_nil] at this
      omega
section
variable {w0 : World} {h : AH} {B : List (Nat × AB)}
theorem one_raw {s : Ds} {D : PD} {bd lb k : Nat} {L : Lg} {seq : Int} {K2 : Int → Int → Option Addr → Nat → Nat → AH → Prop} (hbd : D.bd = bd) (r : PRep s D) (w : Own w0 h (LgO lb bd L :: (D.blocks s ++ B))) (hc : s.calls < 1000000)
    (hk5 : k ≤ 5) (hL : 0 ≤ L.last ∧ L.last ≤ 4611686018427387904) (hS : 0 ≤ L.size ∧ L.size ≤ 1000000000000)
    (hk : ∀ h' D' a c os, os.map OpM.o = oneS k → SlV 4 a os.length c (opsC os) → OsV os → D'.bd = bd → PRep (appendW L s seq (oneS k)).2.2 D' → Own w0 h' (LgO lb bd (appendW L s seq (oneS k)).2.1 :: (D'.blocks (appendW L s seq (oneS k)).2.2 ++ (slB a (opsC os) (c * 4) ++ (ownO os ++ B)))) → K2 (appendW L s seq (oneS k)).1 seq a os.length c h') :
    EvC Go.Proofs.Try.prog w0 13 #[.int .i64 seq, .int .i64 (k : Int)] (fun x h' => ∃ i : Int, ∃ p : Option Addr, ∃ n : Nat, ∃ c : Nat, x = .agg #[.int .i64 i, .slice p n c] ∧ EvC Go.Proofs.Try.prog w0 12 #[.pointer (some ⟨lb, 0, none⟩), .agg #[.int .i64 i, .slice p n c]] (fun y h'' => ∃ e : Int, y = .int .i64 e ∧ K2 e i p n c h'') h') h := by
  subst hbd
  refine f13_spec w (by omega) fun h1 a c os e v vs w1 => ⟨_, _, _, _, rfl, ?_⟩
  have w2 := Own.pull2 w1
  refine f12_spec r w2 (by omega) (fun h' w' => opsOk_own (C := []) v vs w') hL hS fun h' D' b' r' w' => ⟨_, rfl, ?_⟩
  rw [e] at r' w' ⊢
  exact hk h' D' a c os e v vs b' r' w'
/-- What is told, beside what was kept. -/
theorem tell_all {ga a a1 : Option Addr} {gc c c1 : Nat} {ms m m1 : List BaM} {G F : AH → Prop} {P : Option Addr → Nat → AH → Prop} (w : Own w0 h (slB ga (batC ms) (gc * 2) ++ (ownB ms ++ (slB a (batC m) (c * 2) ++ (ownB m ++ (slB a1 (batC m1) (c1 * 2) ++ ownB m1))))))
    (gv : SlV 2 ga ms.length gc (batC ms)) (gvs : BsV ms) (v : SlV 2 a m.length c (batC m)) (vs : BsV m) (v1 : SlV 2 a1 m1.length c1 (batC m1)) (vs1 : BsV m1) (hml : m.length ≤ 100) (hm1 : m1.length ≤ 100) (hok : ∀ b ∈ ms.map BaM.bat, okB b)
    (hb : ms.map BaM.bat = m.map BaM.bat ∨ (ms.map BaM.bat = m.map BaM.bat ++ m1.map BaM.bat ∧ m1.length = 1)) (hG : ∀ h', Own w0 h' [] → G h')
    (hP : ∀ a3 c3 h3, EvC Go.Proofs.Try.prog w0 16 #[.slice ga ms.length gc, .slice a m.length c] (fun x h4 => ∃ t : Bool, x = .bool t ∧ brB t (G h4) (EvC Go.Proofs.Try.prog w0 16 #[.slice ga ms.length gc, .slice a3 ((0 + m.length) + m1.length) c3] (fun y h5 => ∃ t : Bool, y = .bool t ∧ brB t (G h5) (F h5)) h4)) h3 → P a3 c3 h3) :
    newB w0 h (.cells [] 0) fun b h1 => rowsOf w0 h1 2 a m.length fun ys => App w0 h1 2 32 (some ⟨b, 0, none⟩) 0 0 m.length ys fun a2 c2 h2 => rowsOf w0 h2 2 a1 m1.length fun ys1 => App w0 h2 2 32 a2 (0 + m.length) c2 m1.length ys1 P := by
  intro b hb0 hbn
  have w1 : Own w0 (h.put b (.cells [] 0)) (slB (some ⟨b, 0, none⟩) [] (0 * 2) ++ (slB ga (batC ms) (gc * 2) ++ (ownB ms ++ (slB a (batC m) (c * 2) ++ (ownB m ++ (slB a1 (batC m1) (c1 * 2) ++ ownB m1)))))) := w.new hb0 hbn (o := .cells [] 0)
  have cells : ∀ x : List BaM, ∀ y ∈ batC x, y.oneCell' = true := fun x y hy => by
    obtain ⟨z, _, hz⟩ := List.mem_flatMap.1 hy
    exact row2_cell z y hz
  have len : ∀ x : List BaM, (batC x).length = x.length * 2 := fun x => flat_len (enc := BaM.cells) (k := 2) (fun _ => rfl) x
  have rd1 : Rd w0 (h.put b (.cells [] 0)) a (batC m) := v.rd (cs := slB (some ⟨b, 0, none⟩) [] (0 * 2) ++ (slB ga (batC ms) (gc * 2) ++ ownB ms)) (bs := ownB m ++ (slB a1 (batC m1) (c1 * 2) ++ ownB m1)) (by simpa only [List.append_assoc] using w1)
  refine rowsOf_of rd1 (len m) ?_
  refine App_slB (xs := []) ⟨rfl, Nat.le_refl _, rfl, rfl⟩ w1 (by omega) (by omega) (len m) (cells m) fun a2 c2 h2 v2 w2 => ?_
  rw [List.nil_append] at v2 w2
  have rd2 : Rd w0 h2 a1 (batC m1) := v1.rd (cs := slB a2 (batC m) (c2 * 2) ++ (slB ga (batC ms) (gc * 2) ++ (ownB ms ++ (slB a (batC m) (c * 2) ++ ownB m)))) (bs := ownB m1) (by simpa only [List.append_assoc] using w2)
  refine rowsOf_of rd2 (len m1) ?_
  refine App_slB v2 w2 (by omega) (by omega) (len m1) (cells m1) fun a3 c3 h3 v3 w3 => hP a3 c3 h3 ?_
  have ea : batC m ++ batC m1 = batC (m ++ m1) := by simp [batC]
  have eo : ownB (m ++ m1) = ownB m ++ ownB m1 := by simp [ownB]
  rw [ea] at v3 w3
  have el : 0 + m.length + m1.length = (m ++ m1).length := by simp
  rw [el] at v3 ⊢
  have bg : BatsOk w0 h3 ga ms := batsOk_own (C := slB a3 (batC (m ++ m1)) (c3 * 2)) gv gvs w3
  have bm : BatsOk w0 h3 a m := batsOk_own (C := slB a3 (batC (m ++ m1)) (c3 * 2) ++ (slB ga (batC ms) (gc * 2) ++ ownB ms)) v vs (by simpa only [List.append_assoc] using w3)
  have osl : ∀ x ∈ ms, x.os.length ≤ 1000000 := fun x hx => by
    obtain ⟨g1, g2, _⟩ := mayB_zero (hok x.bat (List.mem_map.2 ⟨x, hx, rfl⟩)).1
    have : x.bat.2.length = x.os.length := by simp [BaM.bat]
    omega
  have hmsl : ms.length ≤ 1000000 := by
    rcases hb with e | ⟨e, _⟩
    · have := congrArg List.length e; simp at this; omega
    · have := congrArg List.length e; simp at this; omega
  have done : G h3 := hG h3 (partO w3 (List.nil_sublist _))
  rcases hb with e | ⟨e, e1⟩
  · exact f16_same bg bm e hmsl osl ⟨_, rfl, brB_of (fun _ => done) fun z => by cases z⟩
  · have hne : ms.length ≠ m.length := by have := congrArg List.length e; simp at this; omega
    refine f16_diff hne ⟨_, rfl, brB_of (fun z => by cases z) fun _ => ?_⟩
    have ball : BatsOk w0 h3 a3 (m ++ m1) := by
      have w4 : Own w0 h3 (slB a3 (batC (m ++ m1)) (c3 * 2) ++ (ownB (m ++ m1) ++ [])) := by
        refine partO w3 (List.Sublist.append_left ?_ _)
        rw [eo, List.append_nil]
        refine List.Sublist.trans ?_ (List.sublist_append_right _ _)
        refine List.Sublist.trans ?_ (List.sublist_append_right _ _)
        refine List.Sublist.trans ?_ (List.sublist_append_right _ _)
        exact List.Sublist.append_left (List.sublist_append_right _ _) _
      exact batsOk_own (C := []) v3 (fun x hx => by rcases List.mem_append.1 hx with hx | hx; exact vs x hx; exact vs1 x hx) w4
    exact f16_same bg ball (by rw [e, List.map_append]) hmsl osl ⟨_, rfl, brB_of (fun _ => done) fun z => by cases z⟩
end
end Go.G.Ytlghmjehibikeaa
