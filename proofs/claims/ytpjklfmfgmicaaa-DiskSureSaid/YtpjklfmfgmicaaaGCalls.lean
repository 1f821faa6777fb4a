/- What the evaluator says of a call is so. -/
import Derived.Test.YtpjklfmfgmicaaaGDrawn
namespace Go.G
open Go.RowKit

section
variable {P : Program} {w0 : World} {fr : Fr} {β : Nat → Nat} {env : Env} {bx : Bxs} {h : AH} {a : Act} {w : World}

def resOne (tmps : Array Value) : ResultVar → Sem Value
  | .tmp t => pure (tmps.getD t undef)
  | .cell a t => do loadVar t (← asAddr (tmps.getD a undef))
def pack : List Value → Value
  | [x] => x
  | l => .tuple l.toArray

theorem results_eq (fn : Func) (tmps : Array Value) : results fn tmps = (do let vs ← fn.results.mapM (resOne tmps); pure (if h : vs.size = 1 then vs[0] else .tuple vs)) := rfl

theorem results_run {fn : Func} {tmps : Array Value} {vs : List Value} (hr : (fn.results.toList.mapM (resOne tmps)).run P w = .ok vs w) : (results fn tmps).run P w = .ok (pack vs) w := by
  rw [results_eq, Array.mapM_eq_mapM_toList]
  simp only [Sem.run_bind, Sem.run_map, hr, Result.andThen_ok, Sem.run_pure]
  match vs with
  | [] => rfl
  | [x] => rfl
  | x :: y :: r => simp [pack]

theorem loadVar_of {t : TypeId} {x : AV} {y : Value} {K : Value → Prop} (hb : loadR P w0 t x bx h K) (hr : (Instr.loadAt t (gam β x)).run P w = .ok y w) : (do loadVar t (← asAddr (gam β x)) : Sem Value).run P w = .ok y w := by
  cases x with
  | bp i off => simpa [gam, Instr.loadAt, Instr.sureAddr, asAddr] using hr
  | bs i n => simp [loadR] at hb
  | v p =>
    cases p with
    | pointer q =>
      cases q with
      | none => simp [loadR] at hb
      | some ad => simpa [gam, Instr.loadAt, Instr.sureAddr, asAddr] using hr
    | _ => simp [loadR] at hb

theorem pack_acc (acc : List Value) (K : Value → AH → Prop) : (match acc with | [x] => K x h | l => K (.tuple l.reverse.toArray) h) → K (pack acc.reverse) h := by
  intro hk
  match acc, hk with
  | [], hk => exact hk
  | [x], hk => exact hk
  | x :: y :: r, hk =>
    have : pack ((x :: y :: r).reverse) = .tuple (x :: y :: r).reverse.toArray := by
      have hl : (x :: y :: r).reverse.length = r.length + 2 := by simp
      match hq : (x :: y :: r).reverse, hl with
      | [z], hl => simp at hl
      | [], hl => simp at hl
      | z :: u :: q, _ => rfl
    rw [this]
    exact hk

theorem resOf_ok (s : St w0 fr β env bx h a w) : ∀ (rs : List ResultVar) (acc : List Value) (K : Value → AH → Prop), resOf P rs env bx h w0 acc K →
    ∃ vs, (rs.mapM (resOne a.tmps)).run P w = .ok vs w ∧ K (pack (acc.reverse ++ vs)) h
  | [], acc, K, hb => ⟨[], by simp, by simp only [List.append_nil]; exact pack_acc acc K hb⟩
  | .tmp t :: r, acc, K, hb => by
    simp only [resOf] at hb
    split at hb
    · rename_i y hy
      obtain ⟨vs, hr, hk⟩ := resOf_ok s r (y :: acc) K hb
      have ev := opd_eval s (.tmp t)
      rw [hy] at ev
      simp only [Act.eval, gam] at ev
      refine ⟨y :: vs, ?_, by simpa using hk⟩
      rw [List.mapM_cons]
      simp [resOne, ev, hr]
    · exact hb.elim
  | .cell t ty :: r, acc, K, hb => by
    simp only [resOf] at hb
    obtain ⟨y, hk, hrun⟩ := load_any s hb
    obtain ⟨vs, hr, hk⟩ := resOf_ok s r (y :: acc) K hk
    have ev := opd_eval s (.tmp t)
    have hv := loadVar_of hb (hrun w rfl)
    rw [← ev] at hv
    simp only [Act.eval] at hv
    refine ⟨y :: vs, ?_, by simpa using hk⟩
    rw [List.mapM_cons]
    have h1 : (resOne a.tmps (.cell t ty)).run P w = .ok y w := hv
    simp only [Sem.run_bind, h1, Result.andThen_ok, hr, Sem.run_pure]

theorem resK_ok {fn : Func} {K : Value → AH → Prop} (hb : resK P fn.results.toList w0 env bx h K) (s : St w0 fr β env bx h a w) :
    ∃ x env' bx' h', (results fn a.tmps).run P w = .ok x w ∧ K x h' ∧ St w0 fr β env' bx' h' a w := by
  obtain ⟨env', bx', h', hk, s'⟩ := exposeAll_sound hb s
  obtain ⟨vs, hr, hk⟩ := resOf_ok s' _ _ _ hk
  exact ⟨_, env', bx', h', results_run hr, by simpa using hk, s'⟩

/-- The frame of a call. -/
def outer (w : World) (h : AH) : Fr := { we := w, he := h, own := fun _ => False, N := 0, β0 := fun i => i }

theorem entry (r : Rw w0 h w) (g : FuncId) (args : Array Value) {fn : Func} (hf : P.funcs[g]? = some fn) :
    St w0 (outer w h) (fun i => i) (env0 P g args.toList) [] h { tmps := args ++ Array.replicate (fn.ntmps - args.size) undef, defers := [] } w := by
  refine ⟨?_, rfl, r, ⟨Nat.le_refl _, fun b hb _ _ => ⟨hb, rfl⟩⟩, fun i cs hi => by simp at hi, fun i j hi => by simp [boxIs] at hi, fun i hi => rfl, Nat.le_refl _⟩
  have hnt : ntOf P g = fn.ntmps := by simp [ntOf, hf]
  simp [env0, hnt, gam, Function.comp_def]

variable (hm : P.follows .mixedOrders = true)
include hm

theorem LP_good {X : XR} (hX : Snd P w0 X) (h0 : fr.N = 0) (J : Nat → List Nat × Nat) (g : FuncId) (K : Value → AH → Prop) (F : Act → World → Prop)
    (hK : ∀ β env bx h a w, resK P (resVars P g) w0 env bx h K → St w0 fr β env bx h a w → F a w) :
    (∀ c S env bx h, LP P w0 X J g K c S env bx h → ∀ β a w, St w0 fr β env bx h a w → Good P F (.code c :: items S) a w) := by
  intro c S env bx h hl
  refine hl (fun c S env bx h => ∀ β a w, St w0 fr β env bx h a w → Good P F (.code c :: items S) a w) fun Z0 hZ0 c S env bx h hev => ?_
  exact (ev_good P w0 fr h0 X (hops_ok hX) (fun id ops K β env bx h a w hsel hb s => hdraw_ok hsel hX hm id β env bx h a w hb s) J Z0 _ F hZ0 hK (fun _ _ _ _ _ _ _ _ hx s => exposeAll_sound hx s) 400).1 c S env bx h hev

theorem EvC_sound : Snd P w0 (EvC P w0) := by
  intro g args K h hc
  refine hc (fun g args K h => ∀ w, Rw w0 h w → Calls P g args w fun e w' => ∃ x h', e = .returned x ∧ Rw w0 h' w' ∧ Keep h w h' w' ∧ K x h') (fun X0 hX0 g args K h hev w r => ?_) fun g args K h hd => hd
  obtain ⟨J, hev⟩ := hev
  have hX : Snd P w0 X0 := fun g args K h hx => hX0 g args K h hx
  unfold evF at hev
  split at hev
  · rename_i hbody
    obtain ⟨fn, hf, hbn, _⟩ := hasBody_spec hbody
    cases hc : fn.body with
    | none => rw [hc] at hbn; cases hbn
    | some c =>
      have hbo : bodyOf P g = c := by simp [bodyOf, hf, hc]
      have hrv : resVars P g = fn.results.toList := by simp [resVars, hf]
      rw [hbo] at hev
      let F : Act → World → Prop := fun a' w' => a'.defers = [] ∧ ∃ v h', (results fn a'.tmps).run P w' = .ok v w' ∧ Rw w0 h' w' ∧ Keep h w h' w' ∧ K v h'
      have hK : ∀ β env bx h2 a2 w2, resK P (resVars P g) w0 env bx h2 K → St w0 (outer w h) β env bx h2 a2 w2 → F a2 w2 := by
        intro β env bx h2 a2 w2 hres s
        rw [hrv] at hres
        obtain ⟨x, env', bx', h', hr, hk, s'⟩ := resK_ok hres s
        exact ⟨s'.df, x, h', hr, s'.rw, ⟨s'.kp.size, fun b hb hl => s'.kp.same b hb hl (fun q => q)⟩, hk⟩
      have hgood := (ev_good P w0 (outer w h) rfl X0 (hops_ok hX) (fun id ops K β env bx h a w hsel hb s => hdraw_ok hsel hX hm id β env bx h a w hb s) J _ _ F
        (LP_good hm hX rfl J g K F hK) hK (fun _ _ _ _ _ _ _ _ hx s => exposeAll_sound hx s) 400).1 c [] _ [] h hev _ _ _ (entry r g args hf)
      intro cs
      let b : Frame := { (default : Frame) with fn := g, kind := .normal }
      have henter : Frame.enter P g args .normal = b.at { tmps := args ++ Array.replicate (fn.ntmps - args.size) undef, defers := [] } [.code c] := by
        simp [Frame.enter, Frame.at, hf, hc, b]
      obtain ⟨a', w', todo, ⟨hd, v, h', hr, hrw, hkeep, hk⟩, hst⟩ := hgood b cs
      have hst' : Steps P (lone (Frame.enter P g args .normal) cs w) (lone { b.at a' todo with mode := .returning } cs w') := by
        rw [henter]; exact hst
      exact ⟨.returned v, w', _, ⟨v, h', rfl, hrw, hkeep, hk⟩, hst', rfl, rfl, hd, rfl, fn, hf, hr⟩
  · exact hev.elim
end
end Go.G
