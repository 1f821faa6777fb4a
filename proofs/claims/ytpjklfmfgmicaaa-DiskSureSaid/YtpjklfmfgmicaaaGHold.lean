/- Every operation, with its guard, does what the evaluator says. -/
import Derived.Test.YtpjklfmfgmicaaaGMore
namespace Go.G
open Go.RowKit Go.MapKept

section
variable {P : Program} {w0 : World} {fr : Fr} {β : Nat → Nat} {env : Env} {bx : Bxs} {h : AH} {a : Act} {w : World}

theorem OpOK.val {K : KO} {r : Result Next} {x : Value} {w' : World} (hr : r = .ok (.value x) w') (hf : Fit w0 fr K a w' x) : OpOK P w0 fr K a r := by
  rw [hr]; exact hf

set_option maxHeartbeats 1000000 in
theorem op_ok {X : XR} (hX : Snd P w0 X) {o : Oper} {K : KO} (hb : evOp P w0 X o.op o.type env bx h K) (s : St w0 fr β env bx h a w) : OpOK P w0 fr K a ((execOp a.eval o).run P w) := by
  by_cases hp : pureOp P o.op = true
  · exact (pure_ok hp hb s).ok
  obtain ⟨dst, op, ty, pos, aft, gd⟩ := o
  have ev := opd_eval s
  cases op with
  | alloc t =>
    simp only [evOp] at hb
    split at hb
    · rename_i z hz
      have hr : (execOp a.eval ⟨dst, .alloc t, ty, pos, aft, gd⟩).run P w = .ok (.value (.pointer (some ⟨w.heap.size, 0, none⟩))) (w.alloc (.cells z.cells t)) := by simp [execOp, Instr.alloc, run_zero hz, newVar, newRow]
      split at hb
      · obtain ⟨β', hk, hβ, hst⟩ := boxNew_ok s t hb
        exact OpOK.val (x := .pointer (some ⟨w.heap.size, 0, none⟩)) (w' := w.alloc (.cells z.cells t)) hr ⟨β', env, _, h, .bp bx.length 0, by simp [gam, hβ], by simpa using hst, hk⟩
      · refine OpOK.val (x := .pointer (some ⟨w.heap.size, 0, none⟩)) (w' := w.alloc (.cells z.cells t)) hr ⟨β, env, bx, _, .v (.pointer (some ⟨w.heap.size, 0, none⟩)), rfl, s.new (o := .cells z.cells.toList z.cells.toList.length) (ob := .cells z.cells t) ?_, hb _ s.rw.below.size s.rw.fresh⟩
        exact ⟨by simp, Nat.le_refl _, fun i x hx => by simpa using hx, fun i _ => by simp⟩
    · exact hb.elim
  | box t x =>
    simp only [evOp] at hb
    obtain ⟨env', bx', h', hk, s'⟩ := vals_sound hb s
    simp only [List.map_cons, List.map_nil] at hk
    obtain ⟨β', hk, hβ, hst⟩ := boxNew_ok s' t hk
    refine OpOK.val (x := .pointer (some ⟨w.heap.size, 0, none⟩)) (w' := w.alloc (.cells (a.eval x).cells t)) (by simp [execOp, Instr.box, newVar, newRow]) ⟨β', env', _, h', .bp bx'.length 0, by simp [gam, hβ], by simpa using hst, hk⟩
  | build t ps =>
    simp only [evOp] at hb
    obtain ⟨env', bx', h', hk, s'⟩ := vals_sound hb s
    unfold buildR at hk
    split at hk
    · rename_i cs hcs
      rw [zip_map] at hcs
      have hr := run_build (P := P) w t (ps.map fun (i, x) => (i, a.eval x)) cs (by rw [← hcs]; simp)
      exact OpOK.val (x := .agg cs) (w' := w) (by simp [execOp, hr]) ⟨β, env', bx', h', .v (.agg cs), rfl, s', hk⟩
    · exact hk.elim
  | buildSlice t n ps =>
    simp only [evOp] at hb
    obtain ⟨env', bx', h', hk, s'⟩ := vals_sound hb s
    unfold buildSliceR at hk
    split at hk
    · rename_i e hu
      split at hk
      · rename_i ie hie
        split at hk
        · rename_i z hz
          split at hk
          · rename_i h1 h2
            split at hk
            · rename_i cs hcs
              rw [zip_map] at hcs
              have h1' := Nat.le_of_ble_eq_true h1
              have h2' : ¬ n * ie.size = 0 := by
                intro e
                rw [e] at h2
                cases h2
              have hr := run_buildSlice (P := P) w t e n (ps.map fun (i, x) => (i, a.eval x)) cs ie z hu hie hz (by omega) h2' (by rw [← hcs]; simp)
              obtain ⟨β', hk, hβ, hst⟩ := boxNew_ok s' e hk
              exact OpOK.val (x := .slice (some ⟨w.heap.size, 0, none⟩) n n) (w' := w.alloc (.cells cs e)) (by simp [execOp, hr]) ⟨β', env', _, h', .bs bx'.length n, by simp [gam, hβ], by simpa using hst, hk⟩
            · exact hk.elim
          · rename_i h1 h2 h3
            have hps : ps = #[] := by
              have := congrArg List.length h3
              simp at this
              first | exact this | (apply Array.eq_empty_of_size_eq_zero; omega)
            subst hps
            have h2' : n * ie.size = 0 := Nat.eq_of_beq_eq_true h2
            obtain ⟨β', hk, hβ, hst⟩ := boxNew_ok s' e hk
            refine OpOK.val (x := .slice (some ⟨w.heap.size, 0, none⟩) n n) (w' := w.alloc (.cells #[] e)) ?_ ⟨β', env', _, h', .bs bx'.length n, by simp [gam, hβ], by simpa using hst, hk⟩
            have hsz : szT P e = ie.size := by simp [szT, hie]
            simp [execOp, Instr.buildSlice, run_und hu, run_sz hie, hsz, h2', Instr.fill, newRow, Array.range_zero']
          · exact hk.elim
        · exact hk.elim
      · exact hk.elim
    · exact hk.elim
  | load t x =>
    simp only [evOp] at hb
    obtain ⟨y, hk, hr⟩ := load_any s hb
    exact OpOK.val (x := y) (w' := w) (by simp [execOp, ev x, hr w rfl]) ⟨β, env, bx, h, .v y, rfl, s, hk⟩
  | store t x y =>
    simp only [evOp] at hb
    obtain ⟨env', bx', h', hk, s'⟩ := vals_sound hb s
    simp only [List.map_cons, List.map_nil] at hk
    obtain ⟨hi, _, hk⟩ := posT_iff.1 hk
    obtain ⟨bx2, h2, w2, hk, s2, hr⟩ := store_ok s' hk hi
    have e1 := opd_eval s' x
    have : (execOp a.eval ⟨dst, .store t x y, ty, pos, aft, gd⟩).run P w = .ok .skip w2 := by simp [execOp, e1, hr]
    rw [this]
    exact ⟨β, env', bx2, h2, .v undef, rfl, s2, hk⟩
  | convert src dst' x =>
    have hni : isIntT P dst' = false := by
      cases h : isIntT P dst' with
      | false => rfl
      | true => exact (hp (by simp [pureOp, h])).elim
    simp only [evOp] at hb
    cases hop : opd env x with
    | bp i off => rw [hop] at hb; exact hb.elim
    | bs i m =>
      rw [hop] at hb
      simp only at hb
      split at hb
      · rename_i hsd hby
        have hsd' : src = dst' := Nat.eq_of_beq_eq_true hsd
        subst hsd'
        unfold exposeS at hb
        split at hb
        · rename_i hbi
          obtain ⟨cs, hi, hat⟩ := boxIs_some hbi
          obtain ⟨h1, h2, h3⟩ := s.exposed hi
          rw [hat] at hb
          have hk := hb (β i) h1 h2
          obtain ⟨_, _, _, T, hT⟩ := s.bxs i cs hi
          obtain ⟨e, hu, he⟩ : ∃ e, P.underlying src = some (.slice e) ∧ P.underlying e = some (.int .u8) := by
            unfold isBytesT at hby
            split at hby
            · rename_i e hu
              split at hby
              · exact ⟨e, hu, by assumption⟩
              · cases hby
            · cases hby
          have hlt : β i < w.heap.size := (Array.getElem?_eq_some_iff.1 hT).1
          have hob : (w.freeze ⟨β i, cs.toArray.size, none⟩ 1).heap[β i]? = some (.cells cs.toArray T (cs.toArray.size, cs.toArray.size + 1)) := by
            simp only [World.freeze]
            rw [if_neg (by omega), Array.getElem?_modify, if_pos rfl, hT]
            rfl
          have hoth : ∀ j, j < w.heap.size → j ≠ β i → (w.freeze ⟨β i, cs.toArray.size, none⟩ 1).heap[j]? = w.heap[j]? := fun j _ hj => by
            simp only [World.freeze]
            rw [if_neg (by omega)]
            simp only [Array.getElem?_modify]
            rw [if_neg (Ne.symm hj)]
          have s2 := h3.put (o := .strb cs) (w' := w.freeze ⟨β i, cs.toArray.size, none⟩ 1) (put_same _ _ _) (by simp [World.freeze]) (by simp [World.freeze]) (by simp [World.freeze]) (by simp [World.freeze]) hoth hob
            (fun j v hj => by simpa using hj)
          rw [put_put] at s2
          have e1 : a.eval x = .slice (some ⟨β i, 0, none⟩) m m := by rw [ev x, hop]; rfl
          have hshape : w.shape? (β i) = some (T, cs.toArray.size) := by simp only [World.shape?, hT]
          have hre : gam β (opd (env.map (subB i (β i))) x) = .slice (some ⟨β i, 0, none⟩) m m := by
            have := opd_eval h3 x
            rw [← this, e1]
          refine OpOK.val (x := .slice (some ⟨β i, 0, none⟩) m m) (w' := w.freeze ⟨β i, cs.toArray.size, none⟩ 1) ?_ ⟨β, _, _, _, _, hre.symm, s2, hk⟩
          have hrun : (markStringish ⟨β i, 0, none⟩).run P w = .ok () (w.freeze ⟨β i, cs.toArray.size, none⟩ 1) := by
            simp only [markStringish, Sem.run_bind, run_shape, hshape, Result.andThen_ok]
            rfl
          simp [execOp, e1, convert, run_und hu, run_und he, hrun]
        · exact hb.elim
      · exact hb.elim
    | v y =>
    rw [hop] at hb
    simp only at hb
    have e1 : a.eval x = y := by rw [ev x, hop]; rfl
    unfold convR at hb
    split at hb
    · rename_i hd
      simp [isIntT, hd] at hni
    · rename_i d k n hs hd
      refine OpOK.val (x := .string (Utf8.encode n)) (w' := w) ?_ ⟨β, env, bx, h, .v (.string (Utf8.encode n)), rfl, s, hb⟩
      simp [execOp, e1, convert, run_und hs, run_und hd, Conv.intToString]
    · rename_i d str hs hd
      refine OpOK.val (x := .string str) (w' := w) ?_ ⟨β, env, bx, h, .v (.string str), rfl, s, hb⟩
      cases d <;> simp [execOp, e1, convert, run_und hs, run_und hd]
    · rename_i d e str hs hd
      split at hb
      · rename_i he
        obtain ⟨y, h', w', hk, hst, hr⟩ := toBytes_run (P := P) s e str (K := fun y h' => K env bx h' (.v y)) hb
        refine OpOK.val (x := y) (w' := w') ?_ ⟨β, env, bx, h', .v y, rfl, hst, hk⟩
        cases d <;> simp [execOp, e1, convert, run_und hs, run_und hd, run_und he, hr]
      · exact hb.elim
    · rename_i e ad n c hs hd
      split at hb
      · rename_i he
        obtain ⟨ys, h1, h2, h3, str, rfl, hk⟩ := rowsOf_some hb s.rw
        have hr := toString_run (P := P) h1 h2 h3 (c := c)
        refine OpOK.val (x := .string str) (w' := w) ?_ ⟨β, env, bx, h, .v (.string str), rfl, s, hk⟩
        simp [execOp, e1, convert, run_und hs, run_und hd, run_und he, hr]
      · exact hb.elim
    · exact hb.elim
  | makeFunc fn first cap =>
    simp only [evOp] at hb
    obtain ⟨env', bx', h', hk, s'⟩ := vals_sound hb s
    refine OpOK.val (x := .func fn (first.map a.eval) (cap.map a.eval)) (w' := w) (by simp [execOp, Instr.makeFunc]) ⟨β, env', bx', h', _, ?_, s', hk⟩
    simp [gam]
    constructor <;> (apply Array.ext'; simp)
  | makeMap t r =>
    cases r with
    | none =>
      simp only [evOp] at hb
      refine OpOK.val (x := .map (some w.heap.size)) (w' := w.alloc (.map #[] 0)) (by simp [execOp, Instr.makeMap]) ⟨β, env, bx, _, .v (.map (some w.heap.size)), rfl, s.new (o := .map []) (ob := .map #[] 0) ⟨rfl, by simp, by simp⟩, hb _ s.rw.below.size s.rw.fresh⟩
    | some r => simp only [evOp] at hb
  | makeSlice t l c =>
    simp only [evOp] at hb
    split at hb
    · rename_i z lv cv hsl hz hl hc
      obtain ⟨e, hu⟩ := isSlT_spec hsl
      have het : elT P t = e := by simp [elT, hu]
      rw [het] at hz hb
      obtain ⟨⟨ti, hti⟩, _, h0, hlc, hby, hcap, hzs, hb⟩ := posT_iff.1 hb
      have hz' : ti.zero = some z := by simpa [zeroT, hti] using hz
      have hbt : byT P e = ti.bytes := by simp [byT, hti]
      have hst : szT P e = ti.size := by simp [szT, hti]
      rw [hbt] at hby
      have hr := run_make (P := P) w t e ti z hu hti hz' .i64 .i64 lv cv h0 hlc (by rw [Int.mul_comm]; omega) (by omega)
      have hn := hb _ s.rw.below.size s.rw.fresh
      rw [hst] at hn hzs
      have e1 : a.eval l = .int .i64 lv := by rw [ev l, hl]; rfl
      have e2 : a.eval c = .int .i64 cv := by rw [ev c, hc]; rfl
      exact OpOK.val (x := .slice (some ⟨w.heap.size, 0, none⟩) lv.toNat cv.toNat) (by simp [execOp, e1, e2, hr]) ⟨β, env, bx, _, .v _, rfl, s.new (fits_made z cv.toNat ti.size hzs e), hn⟩
    · exact hb.elim
  | lookup t m k ok =>
    simp only [evOp] at hb
    split at hb
    · rename_i mv kv z hm hk hz
      split at hb
      · rename_i hptr
        obtain ⟨hpk, hb⟩ := hb
        obtain ⟨hmt, es, hb, h1, h2⟩ := mapAtP_some hb s.rw
        obtain ⟨y, ⟨rfl, hb⟩, _⟩ := exT_some hb
        have e1 : a.eval m = .map mv := by rw [ev m, hm]; rfl
        have e2 : a.eval k = kv := by rw [ev k, hk]; rfl
        have hr := lookup_runP (w := w) (ok := ok) s.rw hmt hptr hpk hz h1 (fun q hq => by obtain ⟨_, ents, clock, ho, hes, hall, _⟩ := h2 q hq; exact ⟨ents, clock, ho, hes, hall⟩)
        refine OpOK.val (x := if ok then .tuple #[(getM kv es).getD z, .bool (getM kv es).isSome] else (getM kv es).getD z) (w' := w) (by simp [execOp, e1, e2, hr]) ⟨β, env, bx, h, .v (if ok then .tuple #[(getM kv es).getD z, .bool (getM kv es).isSome] else (getM kv es).getD z), rfl, s, ?_⟩
        cases ok with
        | true => simpa using hb
        | false => simpa using hb
      · skip
        obtain ⟨hpk, hb⟩ := hb
        obtain ⟨hmt, es, hb, h1, h2⟩ := mapAt_some hb s.rw
        obtain ⟨y, ⟨rfl, hb⟩, _⟩ := exT_some hb
        have e1 : a.eval m = .map mv := by rw [ev m, hm]; rfl
        have e2 : a.eval k = kv := by rw [ev k, hk]; rfl
        have hr := lookup_run (w := w) (ok := ok) hmt hpk hz h1 (fun q hq => by obtain ⟨_, ents, clock, ho, hes, hall, _⟩ := h2 q hq; exact ⟨ents, clock, ho, hes, hall⟩)
        refine OpOK.val (x := if ok then .tuple #[(getM kv es).getD z, .bool (getM kv es).isSome] else (getM kv es).getD z) (w' := w) (by simp [execOp, e1, e2, hr]) ⟨β, env, bx, h, .v (if ok then .tuple #[(getM kv es).getD z, .bool (getM kv es).isSome] else (getM kv es).getD z), rfl, s, ?_⟩
        cases ok with
        | true => simpa using hb
        | false => simpa using hb
    · exact hb.elim
  | mapUpdate t m k x =>
    simp only [evOp] at hb
    obtain ⟨env', bx', h', hk, s'⟩ := vals_sound hb s
    simp only [List.map_cons, List.map_nil] at hk
    split at hk
    · rename_i mv kv xv heq
      simp only [List.cons.injEq, and_true] at heq
      obtain ⟨e1, e2, e3⟩ := heq
      split at hk
      · rename_i hptr
        obtain ⟨hpk, q, rfl, hk⟩ := hk
        obtain ⟨hmt, es, hk, _, h2⟩ := mapAtP_some hk s'.rw
        obtain ⟨hq, ents, clock, ho, hes, hall, hdi, hc⟩ := h2 q rfl
        obtain ⟨w', hr, hst⟩ := mapUpdate_runP s' (x := xv) hmt hptr hpk hq ho hes hall hdi hc
        have : (execOp a.eval ⟨dst, .mapUpdate t m k x, ty, pos, aft, gd⟩).run P w = .ok .skip w' := by simp [execOp, e1, e2, e3, hr]
        rw [this]
        exact ⟨β, env', bx', _, .v undef, rfl, hst, hk⟩
      · skip
        obtain ⟨hpk, q, rfl, hk⟩ := hk
        obtain ⟨hmt, es, hk, _, h2⟩ := mapAt_some hk s'.rw
        obtain ⟨hq, ents, clock, ho, hes, hall, hdi, hc⟩ := h2 q rfl
        obtain ⟨w', hr, hst⟩ := mapUpdate_run s' (x := xv) hmt hpk hq ho hes hall hdi hc
        have : (execOp a.eval ⟨dst, .mapUpdate t m k x, ty, pos, aft, gd⟩).run P w = .ok .skip w' := by simp [execOp, e1, e2, e3, hr]
        rw [this]
        exact ⟨β, env', bx', _, .v undef, rfl, hst, hk⟩
    · exact hk.elim
  | range t x =>
    simp only [evOp] at hb
    obtain ⟨p, hp', hb⟩ := withV_some hb
    have e1 : a.eval x = p := by rw [ev x, hp']; rfl
    obtain ⟨y, h', w', hk, hst, hr⟩ := range_run s hb
    exact OpOK.val (x := y) (w' := w') (by simp [execOp, e1, hr]) ⟨β, env, bx, h', .v y, rfl, hst, hk⟩
  | next x isS =>
    simp only [evOp] at hb
    obtain ⟨p, hp', hb⟩ := withV_some hb
    have e1 : a.eval x = p := by rw [ev x, hp']; rfl
    obtain ⟨y, h', w', hk, hst, hr⟩ := next_run (P := P) s hb ty
    exact OpOK.val (x := y) (w' := w') (by simp [execOp, e1, hr]) ⟨β, env, bx, h', .v y, rfl, hst, hk⟩
  | entry x =>
    simp only [evOp] at hb
    obtain ⟨p, hp', hb⟩ := withV_some hb
    have e1 : a.eval x = p := by rw [ev x, hp']; rfl
    obtain ⟨kt, et, hb⟩ := hb
    obtain ⟨y, hk, hr⟩ := entry_run s hb
    exact OpOK.val (x := y) (w' := w) (by simp [execOp, e1, hr]) ⟨β, env, bx, h, .v y, rfl, s, hk⟩
  | call c =>
    obtain ⟨callee, args, ats⟩ := c
    cases callee with
    | builtin b =>
      simp only [evOp, callR, builtinR] at hb
      split at hb
      · rename_i x y hargs
        split at hb
        · rename_i st tx hats
          have h1 : args = #[x, y] := by cases args; simp_all
          have h2 : ats = #[st, tx] := by cases ats; simp_all
          subst h1 h2
          obtain ⟨env1, bx1, h1, hb1, s1⟩ := exposeAll_sound hb s
          obtain ⟨v, h', w', hk, hst, hr⟩ := appendR_ok s1 hb1 (ty := ty)
          refine OpOK.val (x := v) (w' := w') ?_ ⟨β, env1, bx1, h', .v v, rfl, hst, hk⟩
          simp [execOp, resolve, invoke, builtin, opd_eval s1 x, opd_eval s1 y, hr]
        · exact hb.elim
      · rename_i x hargs
        split at hb
        · rename_i t hats
          have h1 : args = #[x] := by cases args; simp_all
          subst h1
          unfold lenR at hb
          split at hb
          · rename_i e ad n c hu hx
            have e1 : a.eval x = .slice ad n c := by rw [ev x, hx]; rfl
            exact OpOK.val (x := .int .i64 n) (w' := w) (by simp [execOp, resolve, invoke, builtin, Builtin.len_, e1, hats, run_und hu, goInt]) ⟨β, env, bx, h, .v _, rfl, s, hb⟩
          · rename_i str hu hx
            have e1 : a.eval x = .string str := by rw [ev x, hx]; rfl
            exact OpOK.val (x := .int .i64 str.size) (w' := w) (by simp [execOp, resolve, invoke, builtin, Builtin.len_, e1, hats, run_und hu, goInt]) ⟨β, env, bx, h, .v _, rfl, s, hb⟩
          · rename_i e b n hu hx
            have e1 : a.eval x = .slice (some ⟨β b, 0, none⟩) n n := by rw [ev x, hx]; rfl
            exact OpOK.val (x := .int .i64 n) (w' := w) (by simp [execOp, resolve, invoke, builtin, Builtin.len_, e1, hats, run_und hu, goInt]) ⟨β, env, bx, h, .v _, rfl, s, hb⟩
          · rename_i n e cs hu hx
            have e1 : a.eval x = .agg cs := by rw [ev x, hx]; rfl
            exact OpOK.val (x := .int .i64 n) (w' := w) (by simp [execOp, resolve, invoke, builtin, Builtin.len_, e1, hats, run_und hu, goInt]) ⟨β, env, bx, h, .v _, rfl, s, hb⟩
          · rename_i k e m hu hx
            have e1 : a.eval x = .map m := by rw [ev x, hx]; rfl
            obtain ⟨hmt, es, hb, h1, h2⟩ := mapAt_some hb s.rw
            refine OpOK.val (x := .int .i64 es.length) (w' := w) ?_ ⟨β, env, bx, h, .v _, rfl, s, hb⟩
            cases m with
            | none =>
              have := h1 rfl
              subst this
              simp [execOp, resolve, invoke, builtin, Builtin.len_, e1, hats, run_und hu, goInt]
            | some q =>
              obtain ⟨_, ents, clock, ho, rfl, _, _, _⟩ := h2 q rfl
              have hg := MapKept.run_getObj_map (P := P) ho
              simp [execOp, resolve, invoke, builtin, Builtin.len_, e1, hats, run_und hu, goInt, hg, esOf]
          · exact hb.elim
        · exact hb.elim
      · exact (hp (by simp [pureOp])).elim
      · exact (hp (by simp [pureOp])).elim
      · rename_i m k hargs
        split at hb
        · rename_i t mv kv hats hm hk
          have h1 : args = #[m, k] := by cases args; simp_all
          subst h1
          have e1 : a.eval m = .map mv := by rw [ev m, hm]; rfl
          have e2 : a.eval k = kv := by rw [ev k, hk]; rfl
          obtain ⟨hpk, hb⟩ := hb
          obtain ⟨hmt, es, ⟨hb1, hb2⟩, h1, h2⟩ := mapAt_some hb s.rw
          cases mv with
          | none =>
            obtain ⟨d, hd, hik⟩ := plainKey_und hpk
            have hck : ∀ e, (Instr.checkKey e 10000 (keyT P t) kv).run P w = .ok () w := fun e => run_checkKey hd hik e 9999
            refine OpOK.val (x := .tuple #[]) (w' := w) ?_ ⟨β, env, bx, h, .v _, rfl, s, hb1 rfl⟩
            simp [execOp, resolve, invoke, builtin, Builtin.delete_, e1, e2, hats, run_und (map_und hmt), hck]
          | some q =>
            obtain ⟨hq, ents, clock, ho, hes, hall, hdi, hc⟩ := h2 q rfl
            obtain ⟨w', hr, hst⟩ := delete_run s (ty := ty) hats hmt hpk hq ho hes hall hdi hc
            refine OpOK.val (x := .tuple #[]) (w' := w') ?_ ⟨β, env, bx, _, .v _, rfl, hst, hb2 q rfl⟩
            simp [execOp, resolve, invoke, builtin, e1, e2, hr]
        · exact hb.elim
      · exact hb.elim
    | value f =>
      have stat : ∀ g, f = .func g → OpOK P w0 fr K a ((execOp a.eval ⟨dst, .call ⟨.value f, args, ats⟩, ty, pos, aft, gd⟩).run P w) := by
        rintro g rfl
        simp only [evOp, callR] at hb
        obtain ⟨env', bx', h', hk, s'⟩ := vals_sound hb s
        have := enter_ok hX s' hk
        have e1 : (args.toList.map a.eval).toArray = args.map a.eval := by apply Array.ext'; simp
        rw [e1] at this
        simpa [execOp, resolve, Deferred.ofValue, invoke, Act.eval] using this
      have dyn : (∀ g, f ≠ .func g) → OpOK P w0 fr K a ((execOp a.eval ⟨dst, .call ⟨.value f, args, ats⟩, ty, pos, aft, gd⟩).run P w) := by
        intro hf
        have hb' : vals w0 args.toList env bx h fun vs env bx h => withV (opd env f) fun fv => dynR P w0 X fv vs.toArray ty h fun y h' => K env bx h' (.v y) := by
          cases f with
          | func g => exact (hf g rfl).elim
          | _ => simpa only [evOp, callR] using hb
        obtain ⟨env', bx', h', hk, s'⟩ := vals_sound hb' s
        obtain ⟨fv, hfv, hk⟩ := withV_some hk
        unfold dynR at hk
        split at hk
        case h_2 => exact hk.elim
        rename_i g first cap
        have := enter_ok hX s' hk
        have e1 : (args.toList.map a.eval).toArray = args.map a.eval := by apply Array.ext'; simp
        rw [e1] at this
        have e2 : a.eval f = .func (.func g) first cap := by rw [opd_eval s' f, hfv]; rfl
        simpa [execOp, resolve, Deferred.ofValue, invoke, e2] using this
      cases f with
      | func g => exact stat g rfl
      | _ => exact dyn (by intro g e; cases e)
    | _ => simp only [evOp, callR] at hb
  | _ => first | (simp [pureOp] at hp; done) | (simp only [evOp] at hb; done)
end
end Go.G
