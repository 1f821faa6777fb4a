/- Copies, and where they lie. -/
import Derived.Test.YtpnhlgghpciofaaLM
import Derived.Test.YtpnhlgghpciofaaLN
import Derived.Test.YtpnhlgghpciofaaLE
import Derived.Test.YtpnhlgghpciofaaProg
set_option maxRecDepth 100000
namespace Go.G.Ytpnhlgghpciofaa
open Go.RowKit
/-! ### tables in memory of their own -/
/-- These bytes lie in a row of the law's own that h0 does not know and that is not x's. -/
structure Own8 (w0 : World) (h h0 : AH) (x p : Option Addr) (n c : Nat) (l : List UInt8) : Prop where
  sl : Sl w0 h 1 p n c (u8s l)
  new : New h0 p
  ne : ∀ ad bd, p = some ad → x = some bd → ad.block ≠ bd.block
theorem Own8.known {w0 : World} {h h0 : AH} {x : Option Addr} {ad : Addr} {n c : Nat} {l : List UInt8} (o : Own8 w0 h h0 x (some ad) n c l) : ∃ b, h ad.block = some b := ⟨_, o.sl.2.2.2.2.2⟩
theorem Own8.ext {w0 : World} {h h' h0 : AH} {x p : Option Addr} {n c : Nat} {l : List UInt8} (o : Own8 w0 h h0 x p n c l) (e : Ext h h' none) : Own8 w0 h' h0 x p n c l := ⟨o.sl.ext e, o.new, o.ne⟩
theorem Own8.grow {w0 : World} {h h' h0 : AH} {x x' p : Option Addr} {n c : Nat} {l : List UInt8} (o : Own8 w0 h h0 x p n c l) (e : Ext h h' x) (g : x' = x ∨ ∃ ad, x' = some ad ∧ h ad.block = none) : Own8 w0 h' h0 x' p n c l := by
  refine ⟨o.sl.extX e o.ne, o.new, fun ad bd ha hb q => ?_⟩
  rcases g with rfl | ⟨ad', hq, hn⟩
  · exact o.ne ad bd ha hb q
  · rw [hq] at hb
    injection hb with hb
    subst hb
    subst ha
    obtain ⟨b, hb⟩ := o.known
    rw [q, hn] at hb; cases hb
/-- .. another row, one that h0 knows, changes, or grows to x'. -/
theorem Own8.past {w0 : World} {h h' h0 : AH} {x y y' p : Option Addr} {n c : Nat} {l : List UInt8} (o : Own8 w0 h h0 x p n c l) (e : Ext h h' y) (hy : ∀ bd, y = some bd → ∃ b, h0 bd.block = some b ∧ b.plain = true) (g : y' = y ∨ ∃ ad, y' = some ad ∧ h ad.block = none) : Own8 w0 h' h0 y' p n c l := by
  have hne : ∀ ad bd, p = some ad → y = some bd → ad.block ≠ bd.block := fun ad bd ha hb q => by
    obtain ⟨b, h1, h2⟩ := hy bd hb
    exact o.new ad ha b (by rw [q]; exact h1) h2
  exact Own8.grow ⟨o.sl, o.new, hne⟩ e g

structure TOwn (w0 : World) (h h0 : AH) (x : Option Addr) (t : Tab) : Prop where
  num : -9223372036854775808 ≤ t.num ∧ t.num ≤ 9223372036854775807
  lev : -9223372036854775808 ≤ t.lev ∧ t.lev ≤ 9223372036854775807
  siz : -9223372036854775808 ≤ t.siz ∧ t.siz ≤ 9223372036854775807
  lb : Own8 w0 h h0 x t.lp t.ln t.lc t.lb
  mb : Own8 w0 h h0 x t.mp t.mn t.mc t.mb
  lsm : t.ln ≤ 140737488355328
  msm : t.mn ≤ 140737488355328
theorem TOwn.ok {w0 : World} {h h0 : AH} {x : Option Addr} {t : Tab} (o : TOwn w0 h h0 x t) : t.Ok w0 h := by
  refine ⟨o.num, o.lev, o.siz, o.lb.sl.rs, o.mb.sl.rs, ?_, ?_, o.lsm, o.msm⟩
  · have := o.lb.sl.1; rw [u8s_length] at this; omega
  · have := o.mb.sl.1; rw [u8s_length] at this; omega
theorem TOwn.ext {w0 : World} {h h' h0 : AH} {x : Option Addr} {t : Tab} (o : TOwn w0 h h0 x t) (e : Ext h h' none) : TOwn w0 h' h0 x t := ⟨o.num, o.lev, o.siz, o.lb.ext e, o.mb.ext e, o.lsm, o.msm⟩
theorem TOwn.grow {w0 : World} {h h' h0 : AH} {x x' : Option Addr} {t : Tab} (o : TOwn w0 h h0 x t) (e : Ext h h' x) (g : x' = x ∨ ∃ ad, x' = some ad ∧ h ad.block = none) : TOwn w0 h' h0 x' t := ⟨o.num, o.lev, o.siz, o.lb.grow e g, o.mb.grow e g, o.lsm, o.msm⟩
theorem TOwn.past {w0 : World} {h h' h0 : AH} {x y y' : Option Addr} {t : Tab} (o : TOwn w0 h h0 x t) (e : Ext h h' y) (hy : ∀ bd, y = some bd → ∃ b, h0 bd.block = some b ∧ b.plain = true) (g : y' = y ∨ ∃ ad, y' = some ad ∧ h ad.block = none) : TOwn w0 h' h0 y' t :=
  ⟨o.num, o.lev, o.siz, o.lb.past e hy g, o.mb.past e hy g, o.lsm, o.msm⟩
theorem TOwn.okX {w0 : World} {h h0 : AH} {x : Option Addr} {t : Tab} (o : TOwn w0 h h0 x t) : t.OkX w0 h x := fun _ e => (o.grow e (.inl rfl)).ok

theorem f58x_loop {w0 : World} {K : Value → AH → Prop} {h0 : AH} {a : Option Addr} {n c : Nat} {ts : List Tab} (s : TS w0 h0 a n c ts) (hn : n ≤ 1000000)
    (hk : ∀ a' n' c' h' ts', Sl w0 h' 5 a' n' c' (tabs ts') → ts'.map Tab.dat = ts.map Tab.dat → (∀ t ∈ ts', TOwn w0 h' h0 a' t) → Ext h0 h' none → New h0 a' → K (.slice a' n' c') h') :
    ∀ (rest : List Tab) (i : Nat) (a3 : Option Addr) (n3 c3 : Nat) (h : AH) (out : List Tab), ts.drop i = rest → i ≤ n → Ext h0 h none → New h0 a3 → Sl w0 h 5 a3 n3 c3 (tabs out) → out.map Tab.dat = (ts.take i).map Tab.dat → (∀ t ∈ out, TOwn w0 h h0 a3 t) →
      f58_3 w0 K a3 n3 c3 a n c ((n : Nat) : Int) ((i : Nat) : Int) h := by
  intro rest
  induction rest with
  | nil =>
    intro i a3 n3 c3 h out hd hi hx hnew so hdat hok
    have := drop_done hd
    have hl := s.len
    rw [List.take_of_length_le (by omega)] at hdat
    exact f58_3_in _ _ _ _ _ _ _ _ _ (brB_of (fun q => by simp at q; omega) fun _ => hk _ _ _ _ _ so hdat hok hx hnew)
  | cons t r ih =>
    intro i a3 n3 c3 h out hd hi hx hnew so hdat hok
    obtain ⟨hget, hd', hlt⟩ := drop_step hd
    have hl := s.len
    have hlo := congrArg List.length hdat
    simp at hlo
    have hl5 := so.len5
    have o := (s.ext hx).ok t (List.mem_of_getElem? hget)
    have hlsm := o.lsm
    have hmsm := o.msm
    refine f58_3_in _ _ _ _ _ _ _ _ _ (brB_of (fun _ => tabLoad (s.ext hx).rs.rd s.len hget ?_) fun q => by simp at q; omega)
    refine rowsOf_of o.lb.rd (by rw [u8s_length, o.ln]; omega) ?_
    refine App_own Sl.nil (by omega) (by omega) (by rw [u8s_length, o.ln]; omega) (u8s_cell _) fun a1 c1 h1 s1 x1 f1 => ?_
    have e1 : Ext h h1 none := (Ext.refl _ _).past New.none x1
    refine rowsOf_of (o.ext e1).mb.rd (by rw [u8s_length, o.mn]; omega) ?_
    refine App_own Sl.nil (by omega) (by omega) (by rw [u8s_length, o.mn]; omega) (u8s_cell _) fun a2 c2 h2 s2 x2 f2 => ?_
    have e2 : Ext h1 h2 none := (Ext.refl _ _).past New.none x2
    have e12 := e1.trans e2
    refine App_own (so.ext e12) (by omega) (by omega) rfl ?_ fun a3' c3' h3 s3 x3 f3 => ?_
    · intro y hy
      simp at hy
      rcases hy with rfl | rfl | rfl | rfl | rfl <;> rfl
    rw [wrapS (by omega)]
    have hx2 := hx.trans e12
    have htake : ts.take (i + 1) = ts.take i ++ [t] := by rw [List.take_add_one, hget]; rfl
    have fresh : ∀ {g : AH} {p : Option Addr}, Ext h0 g none → (Ext h g none) → (p = none ∨ ∃ ad, p = some ad ∧ g ad.block = none) → New h0 p ∧ ∀ ad bd, p = some ad → a3 = some bd → ad.block ≠ bd.block := fun {g p} hg hhg hp => by
      refine ⟨fun ad e o ho pl => ?_, fun ad bd e e' q => ?_⟩
      · rcases hp with rfl | ⟨ad', rfl, hn'⟩
        · cases e
        · injection e with e
          subst e
          have := hg _ _ ho (fun _ e => by cases e) pl
          rw [hn'] at this; cases this
      · rcases hp with rfl | ⟨ad', rfl, hn'⟩
        · cases e
        · injection e with e
          subst e
          subst e'
          have h5 := hhg _ _ so.2.2.2.2.2 (fun _ e => by cases e) rfl
          rw [← q, hn'] at h5; cases h5
    obtain ⟨w1, v1⟩ := fresh hx (Ext.refl _ _) f1
    obtain ⟨w2, v2⟩ := fresh (hx.trans e1) e1 f2
    refine ih (i + 1) a3' (n3 + 1) c3' h3 (out ++ [{ t with lp := a1, ln := 0 + t.ln, lc := c1, mp := a2, mn := 0 + t.mn, mc := c2 }]) hd' (by omega) (hx2.past hnew x3) (hnew.grown hx2 f3) ?_ ?_ ?_
    · rw [tabs_append]; exact s3
    · rw [htake, List.map_append, List.map_append, hdat]; rfl
    · intro u hu
      rcases List.mem_append.1 hu with hu | hu
      · exact ((hok u hu).ext e12).grow x3 f3
      · obtain rfl := List.mem_singleton.1 hu
        exact ⟨o.num, o.lev, o.siz, Own8.grow ⟨s1.ext e2, w1, v1⟩ x3 f3, Own8.grow ⟨s2, w2, v2⟩ x3 f3, by simpa using hlsm, by simpa using hmsm⟩

/-- level.own, and where the copies lie. -/
theorem f58x_spec {w0 : World} {K : Value → AH → Prop} {h0 : AH} {a : Option Addr} {n c : Nat} {ts : List Tab} (s : TS w0 h0 a n c ts) (hn : n ≤ 1000000)
    (hk : ∀ a' n' c' h' ts', Sl w0 h' 5 a' n' c' (tabs ts') → ts'.map Tab.dat = ts.map Tab.dat → (∀ t ∈ ts', TOwn w0 h' h0 a' t) → Ext h0 h' none → New h0 a' → K (.slice a' n' c') h') : EvC Go.Proofs.Try.prog w0 58 #[.slice a n c] K h0 :=
  f58_go _ _ _ _ (f58x_loop s hn hk ts 0 none 0 0 h0 [] rfl (by omega) (Ext.refl _ _) New.none Sl.nil rfl fun _ ht => by cases ht)
end Go.G.Ytpnhlgghpciofaa
