/- Two logs on a disk. -/
import Derived.Test.YtlghmjehibikeaaWH
import Derived.Test.YtlghmjehibikeaaProg
set_option maxRecDepth 100000
namespace Go.G.Ytlghmjehibikeaa
open Go.RowKit
/-! ### WalTwo, WalEntries -/
theorem k_of (x : Int) (m : Nat) (hm : 1 ≤ m) (hm2 : m ≤ 100) : ∃ k : Nat, 1 ≤ k ∧ k ≤ m ∧ IntKind.i64.wrap (IntKind.i64.wrap (Int.tmod (IntKind.u64.wrap x) (m : Int)) + 1) = (k : Int) := by
  have h0 : 0 ≤ IntKind.u64.wrap x := by simp only [IntKind.wrap, IntKind.signed, IntKind.bits]; exact Int.emod_nonneg _ (by decide)
  rw [Int.tmod_eq_emod_of_nonneg h0]
  have h1 := Int.emod_nonneg (IntKind.u64.wrap x) (show (m : Int) ≠ 0 by omega)
  have h2 := Int.emod_lt_of_pos (IntKind.u64.wrap x) (show (0 : Int) < (m : Int) by omega)
  generalize IntKind.u64.wrap x % (m : Int) = y at *
  refine ⟨y.toNat + 1, by omega, by omega, ?_⟩
  rw [wrap64 (x := y) (by omega) (by omega), wrap64 (by omega) (by omega)]; omega
section
variable {w0 : World} {K : Value → AH → Prop} {h : AH} {B : List (Nat × AB)}
/-- one, appended to a log. -/
theorem one_log {s : Ds} {D : PD} {bd lb k : Nat} {L : Lg} {bs : List Bat} {seq : Int} {K2 : Int → Int → Option Addr → Nat → Nat → AH → Prop} (hbd : D.bd = bd) (r : PRep s D) (w : Own w0 h (LgO lb bd L :: (D.blocks s ++ B))) (hc : s.calls < 1000000) (q : Qu s) (la : LogAt s bs L)
    (hk1 : 1 ≤ k) (hk5 : k ≤ 5) (hs : 0 < lastB 0 bs → seq = lastB 0 bs + 1) (hq1 : 1 ≤ seq) (hq2 : seq ≤ 4000000000000000000) (hd : (fileB bs).length + 200 ≤ 4194304) (hr : ((usedS s : Nat) : Int) + 200 ≤ s.room)
    (hk : ∀ h' s' D' L' a c os, os.map OpM.o = oneS k → SlV 4 a os.length c (opsC os) → OsV os → D'.bd = bd → PRep s' D' → Qu s' → L'.name = L.name → LogAt s' (bs ++ [(seq, oneS k)]) L' → (∀ m, m ≠ L.name → hasD s' m = hasD s m) → usedS s' ≤ usedS s + 200 →
      (fileB (bs ++ [(seq, oneS k)])).length ≤ (fileB bs).length + 200 → s'.room = s.room → s'.calls = s.calls + 2 → Own w0 h' (LgO lb bd L' :: (D'.blocks s' ++ (slB a (opsC os) (c * 4) ++ (ownO os ++ B)))) → K2 0 seq a os.length c h') :
    EvC Go.Proofs.Try.prog w0 13 #[.int .i64 seq, .int .i64 (k : Int)] (fun x h' => ∃ i : Int, ∃ p : Option Addr, ∃ n : Nat, ∃ c : Nat, x = .agg #[.int .i64 i, .slice p n c] ∧ EvC Go.Proofs.Try.prog w0 12 #[.pointer (some ⟨lb, 0, none⟩), .agg #[.int .i64 i, .slice p n c]] (fun y h'' => ∃ e : Int, y = .int .i64 e ∧ K2 e i p n c h'') h') h := by
  have hl := one_len (seq := seq) (n := k) (by omega) hq1 (by omega)
  refine f13_spec w (by omega) fun h1 a c os e v vs w1 => ⟨_, _, _, _, rfl, ?_⟩
  have w2 := Own.pull2 w1
  refine f12_log hbd r w2 (by omega) (fun h' w' => opsOk_own (C := []) v vs w') q la e (one_ok hk1 (by omega) hq1 (by omega)) hs (by omega) (by omega) fun h' s' D' L' b' r' q' n' l' o' u' m' c' w' => ⟨_, rfl, ?_⟩
  refine hk h' s' D' L' a c os e v vs b' r' q' n' l' o' (by omega) ?_ m' c' w'
  rw [fileB_app, List.length_append]; simp only; omega
end
theorem partO {w0 : World} {h : AH} {A C : List (Nat × AB)} (w : Own w0 h A) (hs : C.Sublist A) : Own w0 h C :=
  ⟨List.Nodup.sublist (hs.map _) w.nd, fun p hp => w.is p (hs.subset hp), fun p hp => w.pl p (hs.subset hp)⟩
/-! two logs -/
structure Pt where
  lb : Nat
  L : Lg
  m : List BaM
  a : Option Addr
  c : Nat
def Pt.own (bd : Nat) (p : Pt) : List (Nat × AB) := LgO p.lb bd p.L :: (slB p.a (batC p.m) (p.c * 2) ++ ownB p.m)
def Pt.bs (p : Pt) : List Bat := p.m.map BaM.bat
structure PtOk (s : Ds) (n : ByteArray) (p : Pt) : Prop where
  la : LogAt s p.bs p.L
  nm : p.L.name = n
  v : SlV 2 p.a p.m.length p.c (batC p.m)
  vs : BsV p.m
  sz : (fileB p.bs).length ≤ 200 * p.m.length
  ls : p.L.last ≤ 4 * p.m.length
structure Two (w0 : World) (h : AH) (bd : Nat) (s : Ds) (D : PD) (m n : ByteArray) (p q : Pt) (i : Nat) : Prop where
  hbd : D.bd = bd
  r : PRep s D
  qu : Qu s
  p1 : PtOk s m p
  p2 : PtOk s n q
  ne : m ≠ n
  hi : p.m.length + q.m.length = i
  us : usedS s ≤ 200 * i
  rm : s.room = 4194304
  ca : s.calls ≤ 4 + 2 * i
  w : Own w0 h (D.blocks s ++ (p.own bd ++ q.own bd))
theorem Two.swap {w0 : World} {h : AH} {bd : Nat} {s : Ds} {D : PD} {m n : ByteArray} {p q : Pt} {i : Nat} (t : Two w0 h bd s D m n p q i) : Two w0 h bd s D n m q p i :=
  ⟨t.hbd, t.r, t.qu, t.p2, t.p1, t.ne.symm, by rw [← t.hi, Nat.add_comm], t.us, t.rm, t.ca, t.w.perm (List.Perm.append_left _ List.perm_append_comm)⟩
section
variable {w0 : World} {K : Value → AH → Prop} {h : AH} {bd : Nat} {s : Ds} {D : PD} {m n : ByteArray} {p q : Pt} {i : Nat}
theorem Two.first (t : Two w0 h bd s D m n p q i) : Own w0 h (LgO p.lb bd p.L :: (D.blocks s ++ (slB p.a (batC p.m) (p.c * 2) ++ (ownB p.m ++ q.own bd)))) := by
  refine t.w.perm ?_
  have := List.perm_middle (a := LgO p.lb bd p.L) (l₁ := D.blocks s) (l₂ := slB p.a (batC p.m) (p.c * 2) ++ (ownB p.m ++ q.own bd))
  simpa only [Pt.own, List.append_assoc, List.cons_append] using this
theorem two_step (t : Two w0 h bd s D m n p q i) (hi : i < 20) {k : Nat} (hk1 : 1 ≤ k) (hk4 : k ≤ 4) {G : Option Addr → Nat → AH → Prop} {F : AH → Prop}
    (hk : ∀ h' s' D' p', Two w0 h' bd s' D' m n p' q (i + 1) → p'.m.length = p.m.length + 1 → p'.lb = p.lb → G p'.a p'.c h') :
    EvC Go.Proofs.Try.prog w0 14 #[.pointer (some ⟨p.lb, 0, none⟩)] (fun x h' => ∃ l : Int, x = .int .i64 l ∧ EvC Go.Proofs.Try.prog w0 13 #[.int .i64 (IntKind.i64.wrap (l + 1)), .int .i64 (k : Int)] (fun x h' => ∃ i : Int, ∃ p1 : Option Addr, ∃ n1 : Nat, ∃ c : Nat, x = .agg #[.int .i64 i, .slice p1 n1 c] ∧ EvC Go.Proofs.Try.prog w0 12 #[.pointer (some ⟨p.lb, 0, none⟩), .agg #[.int .i64 i, .slice p1 n1 c]] (fun y h'' => ∃ e : Int, y = .int .i64 e ∧
      brB (e != (0 : Int)) (F h'') (App w0 h'' 2 32 p.a p.m.length p.c 1 [.int .i64 i, .slice p1 n1 c] G)) h') h') h := by
  have w := t.first
  have ls := t.p1.ls
  have l0 := lastB_in t.p1.la.ok
  have e0 := t.p1.la.last
  have ti := t.hi
  have tu := t.us
  have tm := t.rm
  have tc := t.ca
  have tz := t.p1.sz
  refine f14_spec w ⟨_, rfl, ?_⟩
  rw [wrap64 (by omega) (by omega)]
  refine one_log (K2 := fun e i p1 n1 c h'' => brB (e != (0 : Int)) (F h'') (App w0 h'' 2 32 p.a p.m.length p.c 1 [.int .i64 i, .slice p1 n1 c] G)) t.hbd t.r w (by omega) t.qu t.p1.la hk1 (by omega) (fun _ => by rw [← e0]) (by omega) (by omega) (by omega) (by omega) fun h' s' D' L' a c os e v vs b' r' q' n' l' o' u' z' m' c' w' => brB_of (fun z => by cases z) fun _ => ?_
  have w2 : Own w0 h' ((LgO p.lb bd L' :: (D'.blocks s' ++ (slB a (opsC os) (c * 4) ++ ownO os))) ++ (slB p.a (batC p.m) (p.c * 2) ++ (ownB p.m ++ q.own bd))) := by
    simpa only [List.append_assoc, List.cons_append] using w'
  refine App_mid t.p1.v w2 (by omega) (by omega) rfl (row2_cell ⟨p.L.last + 1, a, c, os⟩) fun a8 c8 h8 v8 w8 => ?_
  have eo : batC p.m ++ [.int .i64 (p.L.last + 1), .slice a os.length c] = batC (p.m ++ [(⟨p.L.last + 1, a, c, os⟩ : BaM)]) := by simp [batC]
  rw [eo] at v8 w8
  have eb : (⟨p.lb, L', p.m ++ [⟨p.L.last + 1, a, c, os⟩], a8, c8⟩ : Pt).bs = p.bs ++ [(p.L.last + 1, oneS k)] := by simp [Pt.bs, BaM.bat, e]
  have hl : (p.m ++ [(⟨p.L.last + 1, a, c, os⟩ : BaM)]).length = p.m.length + 1 := by simp
  refine hk h8 s' D' ⟨p.lb, L', p.m ++ [⟨p.L.last + 1, a, c, os⟩], a8, c8⟩ ⟨b', r', q', ⟨by rw [eb]; exact l', n'.trans t.p1.nm, by rw [hl]; exact v8, ?_, ?_, ?_⟩, ⟨?_, t.p2.nm, t.p2.v, t.p2.vs, t.p2.sz, t.p2.ls⟩, t.ne, by rw [hl]; omega, by omega, by omega, by omega, ?_⟩ hl rfl
  · intro x hx
    rcases List.mem_append.1 hx with hx | hx
    · exact t.p1.vs x hx
    · rw [List.mem_singleton] at hx; subst hx; exact ⟨v, vs⟩
  · rw [eb, hl]; show _ ≤ 200 * (p.m.length + 1); have := t.p1.sz; omega
  · show L'.last ≤ _
    rw [l'.last, lastB_app, hl, oneS_len]; simp only; omega
  · exact t.p2.la.keep (o' _ (by rw [t.p2.nm, t.p1.nm]; exact t.ne.symm))
  · have eow : ownB (p.m ++ [(⟨p.L.last + 1, a, c, os⟩ : BaM)]) = ownB p.m ++ (slB a (opsC os) (c * 4) ++ ownO os) := by simp [ownB]
    refine w8.perm ?_
    simp only [Pt.own, eow, List.append_assoc, List.cons_append]
    refine List.Perm.trans ?_ (List.perm_middle (a := LgO p.lb bd L')).symm
    refine List.Perm.cons _ (List.Perm.append_left _ ?_)
    have p1 := List.perm_append_comm_assoc (slB a (opsC os) (c * 4) ++ ownO os) (slB a8 (batC (p.m ++ [(⟨p.L.last + 1, a, c, os⟩ : BaM)])) (c8 * 2) ++ ownB p.m) (LgO q.lb bd q.L :: (slB q.a (batC q.m) (q.c * 2) ++ ownB q.m))
    simpa only [List.append_assoc] using p1
theorem two_open (t : Two w0 h bd s D m n p q i) (hi : i ≤ 20) {G : Option Addr → AH → Prop} {F : AH → Prop}
    (hk : ∀ h' p', Two w0 h' bd s D m n p' q i → p'.m = p.m → p'.a = p.a → p'.c = p.c → G (some ⟨p'.lb, 0, none⟩) h') :
    EvC Go.Proofs.Try.prog w0 11 #[.pointer (some ⟨bd, 0, none⟩), .string m] (fun x h' => ∃ p1 : Option Addr, ∃ p2 : Option Addr, ∃ n1 : Nat, ∃ c1 : Nat, ∃ e : Int, x = .tuple #[.pointer p1, .slice p2 n1 c1, .int .i64 e] ∧ brB (e != (0 : Int)) (F h') (G p1 h')) h := by
  have ti := t.hi
  have tz := t.p1.sz
  have hbl : p.bs.length = p.m.length := by simp [Pt.bs]
  refine f11_log t.hbd t.r t.w t.qu (by rw [← t.p1.nm]; exact t.p1.la.data) t.p1.la.ok t.p1.la.ch (by omega) (by omega) fun h' lb a' c' ms he v vs la' w' => ⟨_, _, _, _, _, rfl, brB_of (fun z => by cases z) fun _ => ?_⟩
  refine hk h' ⟨lb, _, p.m, p.a, p.c⟩ ⟨t.hbd, t.r, t.qu, ⟨la', rfl, t.p1.v, t.p1.vs, t.p1.sz, ?_⟩, t.p2, t.ne, t.hi, t.us, t.rm, t.ca, ?_⟩ rfl rfl rfl
  · show lastB 0 p.bs ≤ _
    rw [← t.p1.la.last]; exact t.p1.ls
  · have w1 : Own w0 h' ((LgO lb bd ⟨m, lastB 0 p.bs, ((fileB p.bs).length : Nat), false, false⟩ :: (slB a' (batC ms) (c' * 2) ++ ownB ms)) ++ (D.blocks s ++ (LgO p.lb bd p.L :: ((slB p.a (batC p.m) (p.c * 2) ++ ownB p.m) ++ q.own bd)))) := by
      simpa only [Pt.own, List.append_assoc, List.cons_append] using w'
    have w2 : Own w0 h' (LgO lb bd ⟨m, lastB 0 p.bs, ((fileB p.bs).length : Nat), false, false⟩ :: (D.blocks s ++ ((slB p.a (batC p.m) (p.c * 2) ++ ownB p.m) ++ q.own bd))) := by
      refine partO w1 ?_
      refine List.Sublist.cons_cons _ ?_
      refine List.Sublist.trans ?_ (List.sublist_append_right _ _)
      exact List.Sublist.append_left (List.sublist_cons_self ..) _
    exact w2.perm (by simpa only [Pt.own, List.cons_append] using (List.perm_middle (a := LgO lb bd ⟨m, lastB 0 p.bs, ((fileB p.bs).length : Nat), false, false⟩) (l₁ := D.blocks s) (l₂ := (slB p.a (batC p.m) (p.c * 2) ++ ownB p.m) ++ q.own bd)).symm)
end
end Go.G.Ytlghmjehibikeaa
