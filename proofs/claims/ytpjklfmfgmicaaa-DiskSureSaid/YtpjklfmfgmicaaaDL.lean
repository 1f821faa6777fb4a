/- Append. -/
import Derived.Test.YtpjklfmfgmicaaaDK
import Derived.Test.YtpjklfmfgmicaaaProg
set_option maxRecDepth 100000
namespace Go.G.Ytpjklfmfgmicaaa
open Go.RowKit
def f16_J : Nat → List Nat × Nat := jOf [(11, [0, 1, 3, 4, 5, 6, 7, 10, 11, 12, 13, 14, 15, 16, 17, 18, 19, 20, 21, 22, 23, 24, 25, 26, 27, 28, 29, 30, 32, 33, 34, 35, 36, 37, 38, 39, 40, 41, 42, 43, 44, 45, 46, 47, 48, 49, 50, 51, 52, 53, 54, 55, 56, 57, 58, 59, 60, 61, 62, 63], 0)]

def f16_11 (w0 : World) (K : Value → AH → Prop) (a2 : Option Go.Addr) (n2 : Nat) (c2 : Nat) (x8 : Bool) (x9 : Option Go.Addr) (x31 : Bool) (h : AH) : Prop :=
  ∀ j : Nat → Value, LPk Go.Proofs.Try.prog w0 (EvC Go.Proofs.Try.prog w0) f16_J 16 K 11 [.v (j 0), .v (j 1), .v (.slice a2 n2 c2), .v (j 3), .v (j 4), .v (j 5), .v (j 6), .v (j 7), .v (.bool x8), .v (.pointer x9), .v (j 10), .v (j 11), .v (j 12), .v (j 13), .v (j 14), .v (j 15), .v (j 16), .v (j 17), .v (j 18), .v (j 19), .v (j 20), .v (j 21), .v (j 22), .v (j 23), .v (j 24), .v (j 25), .v (j 26), .v (j 27), .v (j 28), .v (j 29), .v (j 30), .v (.bool x31), .v (j 32), .v (j 33), .v (j 34), .v (j 35), .v (j 36), .v (j 37), .v (j 38), .v (j 39), .v (j 40), .v (j 41), .v (j 42), .v (j 43), .v (j 44), .v (j 45), .v (j 46), .v (j 47), .v (j 48), .v (j 49), .v (j 50), .v (j 51), .v (j 52), .v (j 53), .v (j 54), .v (j 55), .v (j 56), .v (j 57), .v (j 58), .v (j 59), .v (j 60), .v (j 61), .v (j 62), .v (j 63)] [] h

theorem f16_11_in {w0 : World} {K : Value → AH → Prop} (a2 : Option Go.Addr) (n2 : Nat) (c2 : Nat) (x8 : Bool) (x9 : Option Go.Addr) (x31 : Bool) (h : AH)
  (hv : (brB x31 (EvC Go.Proofs.Try.prog w0 43 #[(Go.Value.bool x8), (Go.Value.int .i64 (8 : Int))] (fun x'24 h'25 => (∃ i'26 : Int, ((x'24 = (Go.Value.int .i64 i'26)) ∧ (K (Go.Value.int .i64 i'26) h'25)))) h) (∃ a'27 : Go.Addr, ((x9 = (some a'27)) ∧ (∃ p'28 : Option Go.Addr, (∃ n'29 : Nat, (∃ n'30 : Nat, (((Go.G.cellA w0 h (Go.Addr.add a'27 0)) = (some (Go.Value.slice p'28 n'29 n'30))) ∧ (rowsOf w0 h 1 a2 n2 (fun ys'31 => (App w0 h 1 1 p'28 n'29 n'30 n2 ys'31 (fun a'32 c'33 h'34 => (∃ a'35 : Go.Addr, ((x9 = (some a'35)) ∧ (∃ l'36 : List Go.Value, (∃ n'37 : Nat, (((Array.size (Go.World.heap w0)) ≤ (Go.Addr.block (Go.Addr.add a'35 0))) ∧ (((Go.Addr.spot (Go.Addr.add a'35 0)) = none) ∧ (((h'34 (Go.Addr.block (Go.Addr.add a'35 0))) = (some (Go.G.AB.cells l'36 n'37))) ∧ ((((Go.Addr.off (Go.Addr.add a'35 0)) + (Array.size #[(Go.Value.slice a'32 (n'29 + n2) c'33)])) ≤ (List.length l'36)) ∧ (EvC Go.Proofs.Try.prog w0 45 #[(Go.Value.bool x8)] (fun x'38 h'39 => (∃ i'40 : Int, ((x'38 = (Go.Value.int .i64 i'40)) ∧ (K (Go.Value.int .i64 i'40) h'39)))) (Go.G.AH.put h'34 (Go.Addr.block (Go.Addr.add a'35 0)) (Go.G.AB.cells (Go.G.setCells l'36 (Go.Addr.off (Go.Addr.add a'35 0)) [(Go.Value.slice a'32 (n'29 + n2) c'33)]) n'37))))))))))))))))))))))) :
  f16_11 w0 K a2 n2 c2 x8 x9 x31 h := fun j => LP_intro (P := Go.Proofs.Try.prog) (Eq.mp (by kernel_rfl) hv)

theorem f16_go {w0 : World} {K : Value → AH → Prop} (x0 : Option Go.Addr) (x1 : ByteArray) (a2 : Option Go.Addr) (n2 : Nat) (c2 : Nat) (h : AH)
  (hv : (brB (Option.isNone x0) (K (Go.Value.int .i64 (1 : Int)) h) (EvC Go.Proofs.Try.prog w0 41 #[(Go.Value.pointer x0)] (fun x'0 h'1 => (∃ i'2 : Int, (∃ t'3 : Bool, ((x'0 = (Go.Value.tuple #[(Go.Value.int .i64 i'2), (Go.Value.bool t'3)])) ∧ (brB (i'2 != (0 : Int)) (K (Go.Value.int .i64 i'2) h'1) (∃ a'4 : Go.Addr, ((x0 = (some a'4)) ∧ (∃ p'5 : Option Nat, (((Go.G.cellA w0 h'1 (Go.Addr.add a'4 1)) = (some (Go.Value.map p'5))) ∧ (((Go.G.plainKey Go.Proofs.Try.prog 65 (Go.Value.string x1)) = true) ∧ (mapAt Go.Proofs.Try.prog w0 h'1 p'5 65 (fun es'6 => (∃ p'7 : Option Go.Addr, (((Go.Value.pointer p'7) = (Option.getD (Go.G.getM (Go.Value.string x1) es'6) (Go.Value.pointer none))) ∧ (brB (Option.isNone p'7) (EvC Go.Proofs.Try.prog w0 43 #[(Go.Value.bool t'3), (Go.Value.int .i64 (7 : Int))] (fun x'8 h'9 => (∃ i'10 : Int, ((x'8 = (Go.Value.int .i64 i'10)) ∧ (K (Go.Value.int .i64 i'10) h'9)))) h'1) (∃ a'11 : Go.Addr, ((p'7 = (some a'11)) ∧ (∃ p'12 : Option Go.Addr, (∃ n'13 : Nat, (∃ n'14 : Nat, (((Go.G.cellA w0 h'1 (Go.Addr.add a'11 0)) = (some (Go.Value.slice p'12 n'13 n'14))) ∧ (brB (decide (((Go.IntKind.wrap .i64 ((4194304 : Int) - ((n'13 : Nat) : Int))) < ((n2 : Nat) : Int)))) (f16_11 w0 K a2 n2 c2 t'3 p'7 true h'1) (∃ a'15 : Go.Addr, ((x0 = (some a'15)) ∧ ((∃ i'16 : Int, (((Go.G.cellA w0 h'1 (Go.Addr.add a'15 0)) = (some (Go.Value.int .i64 i'16))) ∧ (EvC Go.Proofs.Try.prog w0 18 #[(Go.Value.pointer x0)] (fun x'17 h'18 => (∃ i'19 : Int, ((x'17 = (Go.Value.int .i64 i'19)) ∧ (f16_11 w0 K a2 n2 c2 t'3 p'7 (decide (((Go.IntKind.wrap .i64 (i'16 - i'19)) < ((n2 : Nat) : Int)))) h'18)))) h'1))) ∧ (EvC Go.Proofs.Try.prog w0 18 #[(Go.Value.pointer x0)] (fun x'20 h'21 => (∃ i'22 : Int, ((x'20 = (Go.Value.int .i64 i'22)) ∧ (∃ i'23 : Int, (((Go.G.cellA w0 h'21 (Go.Addr.add a'15 0)) = (some (Go.Value.int .i64 i'23))) ∧ (f16_11 w0 K a2 n2 c2 t'3 p'7 (decide (((Go.IntKind.wrap .i64 (i'23 - i'22)) < ((n2 : Nat) : Int)))) h'21)))))) h'1)))))))))))))))))))))))))) h))) :
  EvC Go.Proofs.Try.prog w0 16 ([(.pointer x0), (.string x1), (.slice a2 n2 c2)]).toArray K h := EvC_intro (P := Go.Proofs.Try.prog) f16_J (Eq.mp (by kernel_rfl) hv)
/-- Append. -/
theorem f16_spec {w0 : World} {K : Value → AH → Prop} {h : AH} {B : List (Nat × AB)} {s : Ds} {D : PD} {n : ByteArray} {a : Option Addr} {c : Nat} {ys : List UInt8} (r : PRep s D) (w : Own w0 h (D.blocks s ++ B)) (hc : s.calls < 1000000000)
    (hr : ∀ h', Own w0 h' B → Rd w0 h' a (u8s ys)) (hy : ys.length ≤ 1000000000000)
    (hk : ∀ h' D', D'.bd = D.bd → PRep (appendS n ys s).2 D' → Own w0 h' (D'.blocks (appendS n ys s).2 ++ B) → K (.int .i64 (appendS n ys s).1) h') :
    EvC Go.Proofs.Try.prog w0 16 #[.pointer (some ⟨D.bd, 0, none⟩), .string n, .slice a ys.length c] K h := by
  have ook := appendS_ok r.ok n ys
  have oc := r.ok.calls
  refine f16_go _ _ _ _ _ _ (brB_of (fun q => by cases q) fun _ => f41_rep r w (by omega) fun h1 w1 => ⟨_, _, rfl, brB_of (fun q => ?_) fun q => ?_⟩)
  · have e : appendS n ys s = ((callS s).1, (callS s).2.2) := by unfold appendS; dsimp only; rw [if_pos (by simpa using q)]
    rw [e] at hk
    exact hk h1 D rfl r.call w1
  have q0 : (callS s).1 = 0 := by simpa using q
  have r1 := r.call
  have e5 := (callS_same s).2.2.2.2
  generalize hg : (callS s).2.1 = g
  have ecr : appendS n ys s = match findD n (callS s).2.2.dir with
    | none => (endS g 7, (callS s).2.2)
    | some i => if IntKind.i64.wrap (4194304 - (lenAt (callS s).2.2.fs i : Nat)) < (ys.length : Nat) ∨ IntKind.i64.wrap ((callS s).2.2.room - (usedS (callS s).2.2 : Nat)) < (ys.length : Nat) then (endS g 8, (callS s).2.2)
      else (endS g 0, { (callS s).2.2 with fs := (callS s).2.2.fs.modify i fun f => { f with data := f.data ++ ys } }) := by
    rw [← hg]; unfold appendS; dsimp only; rw [if_neg (by simp [q0])]
    cases findD n (callS s).2.2.dir <;> rfl
  rw [ecr] at hk ook
  generalize (callS s).2.2 = t at hk ook w1 r1 e5
  have wf := w1
  rw [PD.flat] at wf
  refine ⟨_, rfl, _, wf.cell0 rfl, by kernel_rfl, mapAt_D wf (List.mem_cons_of_mem _ (List.mem_cons_self ..)) ?_⟩
  rw [r1.find]
  cases hf : findD n t.dir with
  | none =>
    rw [hf] at hk
    exact ⟨none, rfl, brB_of (fun _ => f43_spec ⟨_, rfl, hk h1 D rfl r1 w1⟩) fun q => by cases q⟩
  | some i =>
    rw [hf] at hk ook
    dsimp only at hk ook
    refine ⟨_, rfl, brB_of (fun q => by cases q) fun _ => ?_⟩
    have hid := (r1.ok.dir.ids _ (findD_mem hf)).1
    have hfl : i < D.F.length := by rw [r1.len]; exact hid
    have hgi := List.getElem?_eq_getElem hfl
    generalize hfo : D.F[i] = fo at hgi
    have hmem : ∀ p ∈ fobs D.F, p ∈ D.blocks t ++ B := fun p hp => by rw [PD.flat]; simp [hp]
    obtain ⟨hp, c0, _⟩ := file_cells w1 hmem hgi
    have hln := lenAt_abs r1.fs hgi
    have hle := lenAt_le r1.ok i
    rw [hp]
    refine ⟨_, rfl, _, _, _, c0, ?_⟩
    have no : ∀ h1 x45, Own w0 h1 (D.blocks t ++ B) → x45 = true → (IntKind.i64.wrap (4194304 - (lenAt t.fs i : Nat)) < (ys.length : Nat) ∨ IntKind.i64.wrap (t.room - (usedS t : Nat)) < (ys.length : Nat)) → f16_11 w0 K a ys.length c g (some ⟨fo.b, 0, none⟩) x45 h1 := fun h1 x45 w1 hx hn => by
      subst hx
      rw [if_pos hn] at hk
      exact f16_11_in _ _ _ _ _ _ _ (brB_of (fun _ => f43_spec ⟨_, rfl, hk h1 D rfl r1 w1⟩) fun q => by cases q)
    have yes : ∀ h1 x45, Own w0 h1 (D.blocks t ++ B) → x45 = false → ¬ (IntKind.i64.wrap (4194304 - (lenAt t.fs i : Nat)) < (ys.length : Nat) ∨ IntKind.i64.wrap (t.room - (usedS t : Nat)) < (ys.length : Nat)) → f16_11 w0 K a ys.length c g (some ⟨fo.b, 0, none⟩) x45 h1 := fun h1 x45 w1 hx hn => by
      subst hx
      rw [if_neg hn] at hk ook
      obtain ⟨hp, c0, _⟩ := file_cells w1 hmem hgi
      have wf := w1
      rw [PD.flat] at wf
      have hfv : SlV 1 fo.a fo.data.length fo.c (u8s fo.data) := r1.fv _ (List.mem_of_getElem? hgi)
      have ws : Own w0 h1 (((D.bd, .cells (pcells t D) 9) :: (D.md, .map (mapC D.F D.ed)) :: (D.ms, .map (mapC D.F D.es)) :: (slB D.ra (rowC D.F D.row) (D.rc * 3) ++ fobs (D.F.take i))) ++ ((fo.b, .cells fo.cells 2) :: (slB fo.a (u8s fo.data) (fo.c * 1) ++ (fobs (D.F.drop (i + 1)) ++ B)))) := by
        rw [fobs_split hgi] at wf
        simpa only [FO.blocks, List.cons_append, List.append_assoc] using wf
      generalize hC : ((D.bd, .cells (pcells t D) 9) :: (D.md, .map (mapC D.F D.ed)) :: (D.ms, .map (mapC D.F D.es)) :: (slB D.ra (rowC D.F D.row) (D.rc * 3) ++ fobs (D.F.take i)) : List (Nat × AB)) = C at ws
      have hfd : fo.data.length ≤ 4194304 := by rw [← hln]; exact hle
      have rd2 : Rd w0 h1 a (u8s ys) := hr h1 (by
        have := ws.drop
        exact Own.drop (cs := fobs (D.F.drop (i + 1))) (Own.drop (cs := slB fo.a (u8s fo.data) (fo.c * 1)) this.tail))
      refine f16_11_in _ _ _ _ _ _ _ (brB_of (fun q => by cases q) fun _ => ⟨_, rfl, _, _, _, c0, rowsOf_of rd2 (by rw [u8s_length, Nat.mul_one]) ?_⟩)
      have ws2 : Own w0 h1 ((C ++ [(fo.b, .cells fo.cells 2)]) ++ (slB fo.a (u8s fo.data) (fo.c * 1) ++ (fobs (D.F.drop (i + 1)) ++ B))) := by
        simpa only [List.append_assoc, List.cons_append, List.nil_append] using ws
      refine App_mid hfv ws2 (by omega) (by omega) (by rw [u8s_length, Nat.mul_one]) (u8s_cell _) fun a3 c3 h3 v3 w3 => ?_
      have w3' : Own w0 h3 (C ++ ((fo.b, .cells fo.cells 2) :: (slB a3 (u8s fo.data ++ u8s ys) (c3 * 1) ++ (fobs (D.F.drop (i + 1)) ++ B)))) := by
        simpa only [List.append_assoc, List.cons_append, List.nil_append] using w3
      have gb := w3'.drop
      refine ⟨_, rfl, _, 2, gb.ge, rfl, gb.hd, by simp [FO.cells, Addr.add], f45_spec ⟨_, rfl, ?_⟩⟩
      have hdat : u8s fo.data ++ u8s ys = u8s (fo.data ++ ys) := by simp [u8s]
      have hlen2 : fo.data.length + ys.length = (fo.data ++ ys).length := by simp
      rw [hdat, hlen2] at v3
      rw [hdat] at w3'
      rw [hlen2]
      generalize hf' : ({ fo with a := a3, c := c3, data := fo.data ++ ys } : FO) = f'
      have w4 : Own w0 (h3.put fo.b (.cells f'.cells 2)) (C ++ ((fo.b, .cells f'.cells 2) :: (slB a3 (u8s (fo.data ++ ys)) (c3 * 1) ++ (fobs (D.F.drop (i + 1)) ++ B)))) := w3'.upd
      have hset := fobs_set (f' := f') hgi
      have hbl : ∀ j, blk D.F j = blk (D.F.set i f') j := fun j => (blk_set hgi (by rw [← hf'])).symm
      have e1 : mapC D.F D.ed = mapC (D.F.set i f') D.ed := mapC_eq fun e _ => hbl _
      have e2 : mapC D.F D.es = mapC (D.F.set i f') D.es := mapC_eq fun e _ => hbl _
      have e3 : rowC D.F D.row = rowC (D.F.set i f') D.row := rowC_eq fun c _ i _ => hbl _
      have hput : h3.put fo.b (.cells f'.cells 2) = h3.put (Addr.add ⟨fo.b, 0, none⟩ 0).block (AB.cells (setCells fo.cells (Addr.add ⟨fo.b, 0, none⟩ 0).off [Value.slice a3 (fo.data ++ ys).length c3]) 2) := by rw [← hf']; rfl
      rw [hput] at w4
      refine hk _ { D with F := D.F.set i f' } rfl ⟨ook, set_abs r1.fs hgi (by rw [← hf']; rfl), FV_set r1.fv (by rw [← hf']; exact v3), by rw [← e3]; exact r1.rv, fun c hc j hj => ?_, r1.dm, r1.wr, r1.la⟩ ?_
      · show j < (t.fs.modify i _).length
        rw [List.length_modify]; exact r1.ri c hc j hj
      generalize (h3.put (Addr.add ⟨fo.b, 0, none⟩ 0).block (AB.cells (setCells fo.cells (Addr.add ⟨fo.b, 0, none⟩ 0).off [Value.slice a3 (fo.data ++ ys).length c3]) 2)) = hN at w4 ⊢
      rw [PD.flat]
      show Own w0 hN ((D.bd, .cells (pcells t D) 9) :: (D.md, .map (mapC (D.F.set i f') D.ed)) :: (D.ms, .map (mapC (D.F.set i f') D.es)) :: (slB D.ra (rowC (D.F.set i f') D.row) (D.rc * 3) ++ (fobs (D.F.set i f') ++ B)))
      rw [← e1, ← e2, ← e3, hset]
      have hfb : f'.blocks = (fo.b, .cells f'.cells 2) :: slB a3 (u8s (fo.data ++ ys)) (c3 * 1) := by rw [← hf']; rfl
      rw [hfb]
      rw [← hC] at w4
      simpa only [List.append_assoc, List.cons_append, List.nil_append] using w4
    refine brB_of (fun q => ?_) fun q => ?_
    · have : IntKind.i64.wrap (4194304 - (lenAt t.fs i : Nat)) < (ys.length : Nat) := by rw [hln]; simpa using q
      exact no _ _ w1 rfl (.inl this)
    · have hq : ¬ IntKind.i64.wrap (4194304 - (lenAt t.fs i : Nat)) < (ys.length : Nat) := by rw [hln]; simpa using q
      have fin : ∀ h1 x45, Own w0 h1 (D.blocks t ++ B) → x45 = decide (IntKind.i64.wrap (t.room - (usedS t : Nat)) < (ys.length : Nat)) → f16_11 w0 K a ys.length c g (some ⟨fo.b, 0, none⟩) x45 h1 := fun h1 x45 w1 hx => by
        cases hd : decide (IntKind.i64.wrap (t.room - (usedS t : Nat)) < (ys.length : Nat)) with
        | true => exact no _ _ w1 (by rw [hx, hd]) (.inr (by simpa using hd))
        | false => exact yes _ _ w1 (by rw [hx, hd]) (fun o => o.elim hq (by simpa using hd))
      refine ⟨_, rfl, ⟨_, wf.cell0 rfl, f18_spec r1 w1 (by omega) fun h2 w2 => ⟨_, rfl, fin h2 _ w2 rfl⟩⟩, f18_spec r1 w1 (by omega) fun h2 w2 => ⟨_, rfl, t.room, ?_, fin h2 _ w2 rfl⟩⟩
      rw [PD.flat] at w2
      exact w2.cell0 rfl
end Go.G.Ytpjklfmfgmicaaa
