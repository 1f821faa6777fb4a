/- Crash of the program's disk. -/
import Derived.Test.YtpjklfmfgmicaaaDS
import Derived.Test.YtpjklfmfgmicaaaProg
set_option maxRecDepth 100000
namespace Go.G.Ytpjklfmfgmicaaa
open Go.RowKit
set_option maxHeartbeats 1000000 in
/-- Crash. -/
theorem f28_spec {w0 : World} {K : Value → AH → Prop} {h : AH} {B : List (Nat × AB)} {s : Ds} {D : PD} {a : Option Addr} {c : Nat} {l : List Int} (r : PRep s D) (w : Own w0 h (D.blocks s ++ B)) (hc : s.calls < 1000000000) (p : PickOk w0 a c l)
    (hk : ∀ h' D', D'.bd = D.bd → PRep (crashS l s) D' → Own w0 h' (D'.blocks (crashS l s) ++ B) → K (.tuple #[]) h') :
    EvC Go.Proofs.Try.prog w0 28 #[.pointer (some ⟨D.bd, 0, none⟩), .slice a l.length c] K h := by
  have ook := crashS_ok r.ok l
  have hrl := r.rowlen
  obtain ⟨d0, ewas, hes⟩ := r.wr
  have hwl : s.was.length - 1 = D.row.length := by rw [ewas, scanC_length]; rfl
  have ecr : crashS l s = { s with dir := (keepAll (pickS l D.row.length).2 ((s.was[(pickS l D.row.length).1]?).getD []) s.fs).1, was := [(keepAll (pickS l D.row.length).2 ((s.was[(pickS l D.row.length).1]?).getD []) s.fs).1], fs := (keepAll (pickS l D.row.length).2 ((s.was[(pickS l D.row.length).1]?).getD []) s.fs).2, fuse := 0, wait := 0, fails := 0, off := false } := by
    unfold crashS; rw [hwl]
  rw [ecr] at hk ook
  have hple := pickS_le l D.row.length
  generalize hpk : pickS l D.row.length = pk at *
  have wf := w
  rw [PD.flat] at wf
  have rv := r.rv
  have hcap := rv.2.1
  refine f28_go _ _ _ _ _ (brB_of (fun q => by cases q) fun _ => ⟨_, rfl, _, wf.cell0 rfl, f53_spec (wf.mem (List.mem_cons_of_mem _ (List.mem_cons_of_mem _ (List.mem_cons_self ..)))).2 fun mb hb hbn => ⟨_, rfl, _, rfl, _, rfl, ?_⟩⟩)
  have w1 : Own w0 (h.put mb (.map (mapC D.F D.es))) ((mb, .map (mapC D.F D.es)) :: (D.bd, .cells (pc s.room D.md D.ms D.ra D.row.length D.rc s.off s.calls s.fuse s.wait s.fails) 9) :: (slB D.ra (rowC D.F D.row) (D.rc * 3) ++ (fobs D.F ++ B))) := by
    have := wf.new (o := .map (mapC D.F D.es)) hb hbn
    exact Own.cut (cs := [_, _]) (ds := [(D.md, .map (mapC D.F D.ed)), (D.ms, .map (mapC D.F D.es))]) (bs := slB D.ra (rowC D.F D.row) (D.rc * 3) ++ (fobs D.F ++ B)) this
  generalize (h.put mb (.map (mapC D.F D.es))) = h1 at w1 ⊢
  have wb := w1.tail
  -- the changes that are kept
  have four : ∀ (pb : Nat) (a' : Option Addr) (c' : Nat), PickOk w0 a' c' pk.2 → ∀ (k i : Nat), i + k = pk.1 → ∀ (d e : Dir) (h' : AH), (scanC d0 D.row)[i]? = some d → e.Perm d →
      Own w0 h' ((pb, .cells [.slice a' pk.2.length c'] 1) :: (mb, .map (mapC D.F e)) :: (D.bd, .cells (pc s.room D.md D.ms D.ra D.row.length D.rc s.off s.calls s.fuse s.wait s.fails) 9) :: (slB D.ra (rowC D.F D.row) (D.rc * 3) ++ (fobs D.F ++ B))) →
      f28_4 w0 K (some ⟨D.bd, 0, none⟩) ⟨pb, 0, none⟩ (some mb) D.ra pk.1 D.rc ((pk.1 : Nat) : Int) ((i : Nat) : Int) h' := fun pb a' c' p' k => by
    induction k with
    | zero =>
      intro i hi d e h' hd hed w'
      have hi' : i = pk.1 := by omega
      subst hi'
      have hdw : s.was[pk.1]? = some d := by rw [ewas]; exact hd
      have od : DirOk s.calls s.fs.length d := r.ok.was d (List.mem_of_getElem? hdw)
      rw [hdw] at hk ook
      dsimp only [Option.getD_some] at hk ook
      have hdl := od.len
      refine f28_4_in _ _ _ _ _ _ _ _ _ (brB_of (fun q => absurd (of_decide_eq_true q) (by omega)) fun _ => f57_spec fun b hb hbn => ⟨_, rfl, ?_⟩)
      have w2 := w'.new (o := .cells [.map (some mb)] 1) hb hbn
      refine f56_spec (r := mb) (es := mapC D.F e) (L := d.map (·.1)) w2 (List.mem_cons_self ..) (List.mem_cons_of_mem _ (List.mem_cons_of_mem _ (List.mem_cons_self ..))) (keys_C hed) od.so (fun n hn => ?_) (by simp; omega) fun na nc h3 v3 w3 => ⟨_, _, _, rfl, ?_⟩
      · obtain ⟨x, hx, rfl⟩ := List.mem_map.1 hn
        exact nameB_size (od.ids x hx).2
      have w4 : Own w0 h3 ((pb, .cells [.slice a' pk.2.length c'] 1) :: (mb, .map (mapC D.F e)) :: (D.bd, .cells (pc s.room D.md D.ms D.ra D.row.length D.rc s.off s.calls s.fuse s.wait s.fails) 9) :: (slB na (strs (d.map (·.1))) (nc * 1) ++ (fobs D.F ++ B))) := by
        have q1 : Own w0 h3 ((slB na (strs (d.map (·.1))) (nc * 1) ++ [(b, AB.cells [.map (some mb)] 1)]) ++ ([(pb, AB.cells [.slice a' pk.2.length c'] 1), (mb, .map (mapC D.F e)), (D.bd, .cells (pc s.room D.md D.ms D.ra D.row.length D.rc s.off s.calls s.fuse s.wait s.fails) 9)] ++ (slB D.ra (rowC D.F D.row) (D.rc * 3) ++ (fobs D.F ++ B)))) := by
          simpa only [List.append_assoc, List.cons_append, List.nil_append] using w3
        have q2 := q1.front
        have q3 : Own w0 h3 (([(pb, AB.cells [.slice a' pk.2.length c'] 1), (mb, .map (mapC D.F e)), (D.bd, .cells (pc s.room D.md D.ms D.ra D.row.length D.rc s.off s.calls s.fuse s.wait s.fails) 9)] ++ slB na (strs (d.map (·.1))) (nc * 1)) ++ (([(b, AB.cells [.map (some mb)] 1)] ++ slB D.ra (rowC D.F D.row) (D.rc * 3)) ++ (fobs D.F ++ B))) := by
          simpa only [List.append_assoc] using q2
        simpa only [List.append_assoc, List.cons_append, List.nil_append] using q3.cut
      have fin := crash_loop (K := K) (B := B) (s := s) (R1 := (keepAll pk.2 d s.fs).1) (R2 := (keepAll pk.2 d s.fs).2) v3 (by simp; omega) ook (fun h' D' e1 r' w' => hk h' D' e1 r' w') d [] pk.2 D.F e a' c' h3 p' r.fv (by rw [r.fs]; exact r.ok.fs) hed od.nd (fun x hx => by rw [r.len]; exact (od.ids x hx).1) (by simp) (by simp) (by rw [r.fs]; rfl) (by rw [r.fs]) w4
      exact fin
    | succ k ih =>
      intro i hi d e h' hd hed w'
      have hil : i < D.row.length := by omega
      have hget := List.getElem?_eq_getElem hil
      generalize D.row[i] = ch at hget
      have hnx := scanC_get hd hget
      have rdR : Rd w0 h' D.ra (rowC D.F D.row) := rv.rd (cs := [_, _, _]) w'
      obtain ⟨ad, had, hat⟩ := chgLoad rdR hget
      have hdw : d ∈ s.was := by rw [ewas]; exact List.mem_of_getElem? hd
      refine f28_4_in _ _ _ _ _ _ _ _ _ (brB_of (fun _ => ⟨ad, had, by omega, by omega, _, _, _, ⟨rfl, hat⟩, f55_spec (c := ch) (A := [_]) w' fun h3 w3 => ⟨rfl, ?_⟩⟩) fun q => absurd (of_decide_eq_false q) (by omega))
      rw [wrapS (by omega)]
      exact ih (i + 1) (by omega) (ch.play d) (ch.playL e) h3 hnx (playL_perm hed (r.ok.was d hdw).nd) w3
  have hd0 : (scanC d0 D.row)[0]? = some d0 := by cases D.row <;> rfl
  have start : ∀ pb, w0.heap.size ≤ pb → h1 pb = none → ∀ (Q : Int → AH → Prop), (∀ h' a' c', PickOk w0 a' c' pk.2 → Own w0 h' ((pb, .cells [.slice a' pk.2.length c'] 1) :: (mb, .map (mapC D.F D.es)) :: (D.bd, .cells (pc s.room D.md D.ms D.ra D.row.length D.rc s.off s.calls s.fuse s.wait s.fails) 9) :: (slB D.ra (rowC D.F D.row) (D.rc * 3) ++ (fobs D.F ++ B))) → Q ((pk.1 : Nat) : Int) h') →
      EvC Go.Proofs.Try.prog w0 54 #[.pointer (some ⟨pb, 0, none⟩), .int .i64 ((D.row.length : Nat) : Int)] (fun x h => ∃ i : Int, x = .int .i64 i ∧ Q i h) (h1.put pb (.cells [.slice a l.length c] 1)) := fun pb hb hbn Q hQ =>
    f54_spec (w1.new (o := .cells [.slice a l.length c] 1) hb hbn) p (by omega) rfl fun h' a' c' p' w' => ⟨_, rfl, by rw [hpk] at p' w' ⊢; exact hQ h' a' c' p' w'⟩
  have e4 : ∀ pb a' c' h', PickOk w0 a' c' pk.2 → Own w0 h' ((pb, .cells [.slice a' pk.2.length c'] 1) :: (mb, .map (mapC D.F D.es)) :: (D.bd, .cells (pc s.room D.md D.ms D.ra D.row.length D.rc s.off s.calls s.fuse s.wait s.fails) 9) :: (slB D.ra (rowC D.F D.row) (D.rc * 3) ++ (fobs D.F ++ B))) →
      ((0 : Int) ≤ ((pk.1 : Nat) : Int) ∧ ((pk.1 : Nat) : Int) ≤ ((D.rc : Nat) : Int) ∧ f28_4 w0 K (some ⟨D.bd, 0, none⟩) ⟨pb, 0, none⟩ (some mb) D.ra (Int.toNat ((pk.1 : Nat) : Int)) D.rc (((Int.toNat ((pk.1 : Nat) : Int)) : Nat) : Int) (0 : Int) h') := fun pb a' c' h' p' w' =>
    ⟨by omega, by omega, by rw [Int.toNat_natCast]; exact four pb a' c' p' pk.1 0 (by omega) d0 D.es h' hd0 hes w'⟩
  exact ⟨⟨_, _, _, wb.cell0 rfl, _, _, _, wb.cell0 rfl, fun pb hb hbn => start pb hb hbn _ fun h' a' c' p' w' => e4 pb a' c' h' p' w'⟩,
    _, _, _, wb.cell0 rfl, ⟨_, _, _, wb.cell0 rfl, fun pb hb hbn => start pb hb hbn _ fun h' a' c' p' w' => e4 pb a' c' h' p' w'⟩,
    fun pb hb hbn => start pb hb hbn _ fun h' a' c' p' w' => ⟨_, _, _, w'.tail.tail.cell0 rfl, e4 pb a' c' h' p' w'⟩⟩
end Go.G.Ytpjklfmfgmicaaa
