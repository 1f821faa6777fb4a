/- SortStableFunc of what is in order. -/
import Derived.Test.YtpnhlgghpciofaaLS
import Derived.Test.YtpnhlgghpciofaaProg
set_option maxRecDepth 100000
namespace Go.G.Ytpnhlgghpciofaa
open Go.RowKit
/-- slices.SortStableFunc, of what is in order. -/
theorem f59_sorted {w0 : World} {K : Value → AH → Prop} {h : AH} {a : Option Addr} {n c : Nat} {us : List Tab} (s : TS w0 h a n c us) (hs : Strict us) (hn : n ≤ 1000000) (hk : K (.tuple #[]) h) : EvC Go.Proofs.Try.prog w0 59 #[.slice a n c, .func (.func 53) #[] #[]] K h := by
  have hl := s.len
  have f80 : ∀ {K : Value → AH → Prop} {lo hi : Nat}, hi ≤ n → lo ≤ n → K (.tuple #[]) h → EvC Go.Proofs.Try.prog w0 80 #[.slice a n c, .int .i64 ((lo : Nat) : Int), .int .i64 ((hi : Nat) : Int), .func (.func 53) #[] #[]] K h := fun {K lo hi} h1 h2 hk => by
    cases a with
    | some ad => exact f80_sorted s hs.sorted hk h1 h2
    | none =>
      have hn0 : n = 0 := by
        cases us with
        | nil => simpa using hl
        | cons t r =>
          obtain ⟨ad, e, _⟩ := tab_at s.rs.rd (i := 0) (t := t) rfl
          cases e
      subst hn0
      have : hi = 0 := by omega
      subst this
      have : lo = 0 := by omega
      subst this
      refine f80_go _ _ _ _ _ _ ?_
      rw [wrapS (by omega)]
      exact f80_1_in _ _ _ _ _ _ _ (brB_of (fun q => by simp at q) fun _ => hk)
  have f81 : ∀ {K : Value → AH → Prop} {x m b : Nat}, x < m → m < b → b ≤ n → K (.tuple #[]) h → EvC Go.Proofs.Try.prog w0 81 #[.slice a n c, .int .i64 ((x : Nat) : Int), .int .i64 ((m : Nat) : Int), .int .i64 ((b : Nat) : Int), .func (.func 53) #[] #[]] K h := fun {K x m b} h1 h2 h3 hk => by
    cases a with
    | some ad => exact f81_sorted_n s hs (by omega) _ K x m b (Nat.le_refl _) h1 h2 h3 hk
    | none =>
      cases us with
      | nil => simp at hl; omega
      | cons t r =>
        obtain ⟨ad, e, _⟩ := tab_at s.rs.rd (i := 0) (t := t) rfl
        cases e
  refine f59_go _ _ _ _ (f72_go _ _ _ _ _ ?_)
  suffices H : ∀ K' : Value → AH → Prop, K' (.tuple #[]) h → f72_2 w0 K' a n c ((n : Nat) : Int) (20 : Int) (0 : Int) (20 : Int) h from H _ ⟨rfl, hk⟩
  intro K' hdone
  -- the merges
  have merges : ∀ (d bs : Nat), n - bs ≤ d → 1 ≤ bs → bs ≤ 4000000 → f72_7 w0 K' a n c ((n : Nat) : Int) ((bs : Nat) : Int) h := by
    intro d
    induction d with
    | zero =>
      intro bs hd h1 h2
      exact f72_7_in _ _ _ _ _ _ (brB_of (fun q => by simp at q; omega) fun _ => hdone)
    | succ d ihd =>
      intro bs hd h1 h2
      refine f72_7_in _ _ _ _ _ _ (brB_of (fun q => ?_) fun _ => hdone)
      have hbs : bs < n := by simp at q; omega
      have e2 : IntKind.i64.wrap ((2 : Int) * ((bs : Nat) : Int)) = ((2 * bs : Nat) : Int) := by rw [wrap64 (by omega) (by omega)]; omega
      have e3 : IntKind.i64.wrap (((bs : Nat) : Int) * (2 : Int)) = ((2 * bs : Nat) : Int) := by rw [wrap64 (by omega) (by omega)]; omega
      have next : f72_7 w0 K' a n c ((n : Nat) : Int) ((2 * bs : Nat) : Int) h := ihd (2 * bs) (by omega) (by omega) (by omega)
      rw [e2]
      have inner : ∀ (k x : Nat), n - x ≤ k → x ≤ n → f72_9 w0 K' a n c ((n : Nat) : Int) ((bs : Nat) : Int) ((x : Nat) : Int) ((x + 2 * bs : Nat) : Int) h := by
        intro k
        induction k with
        | zero =>
          intro x hk' hxn
          refine f72_9_in _ _ _ _ _ _ _ _ (brB_of (fun z => by simp at z; omega) fun _ => ?_)
          rw [addS (by omega), e3]
          exact brB_of (fun z => by simp at z; omega) fun _ => next
        | succ k ihk =>
          intro x hk' hxn
          refine f72_9_in _ _ _ _ _ _ _ _ (brB_of (fun z => ?_) fun z => ?_)
          · have hxb : x + 2 * bs ≤ n := by simp at z; omega
            rw [addS (by omega), e2, addS (by omega)]
            exact f81 (by omega) (by omega) hxb ⟨rfl, ihk (x + 2 * bs) (by omega) hxb⟩
          · rw [addS (by omega), e3]
            exact brB_of (fun z2 => f81 (by omega) (by simp at z2; omega) (Nat.le_refl _) ⟨rfl, next⟩) fun _ => next
      have := inner n 0 (by omega) (by omega)
      simpa using this
  -- the blocks
  have blocks : ∀ (k x : Nat), n - x ≤ k → x ≤ n → f72_2 w0 K' a n c ((n : Nat) : Int) (20 : Int) ((x : Nat) : Int) ((x + 20 : Nat) : Int) h := by
    intro k
    induction k with
    | zero =>
      intro x hk' hxn
      refine f72_2_in _ _ _ _ _ _ _ _ (brB_of (fun z => by simp at z; omega) fun _ => f80 (Nat.le_refl _) hxn ⟨rfl, merges n 20 (by omega) (by omega) (by omega)⟩)
    | succ k ihk =>
      intro x hk' hxn
      refine f72_2_in _ _ _ _ _ _ _ _ (brB_of (fun z => ?_) fun _ => f80 (Nat.le_refl _) hxn ⟨rfl, merges n 20 (by omega) (by omega) (by omega)⟩)
      have hxb : x + 20 ≤ n := by simp at z; omega
      refine f80 hxb hxn ⟨rfl, ?_⟩
      have : IntKind.i64.wrap (((x + 20 : Nat) : Int) + (20 : Int)) = ((x + 20 + 20 : Nat) : Int) := by rw [wrap64 (by omega) (by omega)]; omega
      rw [this]
      exact ihk (x + 20) (by omega) hxb
  have := blocks n 0 (by omega) (by omega)
  simpa using this
end Go.G.Ytpnhlgghpciofaa
