/- How a disk lies in memory. -/
import Derived.Test.YtpjklfmfgmicaaaDA
import Derived.Test.YtpjklfmfgmicaaaProg
set_option maxRecDepth 100000
namespace Go.G.Ytpjklfmfgmicaaa
open Go.RowKit
/-! ### how a disk lies in memory -/
structure FO where
  b : Nat
  a : Option Addr
  c : Nat
  data : List UInt8
  sure : Nat
def FO.abs (f : FO) : Fl := ⟨f.data, f.sure⟩
def FO.cells (f : FO) : List Value := [.slice f.a f.data.length f.c, .int .i64 (f.sure : Nat)]
def FO.blocks (f : FO) : List (Nat × AB) := (f.b, .cells f.cells 2) :: slB f.a (u8s f.data) (f.c * 1)
def fobs (F : List FO) : List (Nat × AB) := F.flatMap FO.blocks
def blk (F : List FO) (i : Nat) : Nat := ((F[i]?).map FO.b).getD 0
def ptrF (F : List FO) (i : Nat) : Option Addr := some ⟨blk F i, 0, none⟩
def FV (F : List FO) : Prop := ∀ f ∈ F, SlV 1 f.a f.data.length f.c (u8s f.data)

def mapC (F : List FO) (d : Dir) : List (Value × Value) := d.map fun e => (.string e.1, .pointer (ptrF F e.2))
def chgC (F : List FO) (c : Chg) : List Value := [.string c.old, .string c.name, .pointer (match c.f with | none => none | some i => ptrF F i)]
def rowC (F : List FO) (row : List Chg) : List Value := row.flatMap (chgC F)
def entC (F : List FO) (d : Dir) : List Value := d.flatMap fun e => [.string e.1, .pointer (ptrF F e.2)]

/-! the program's -/
structure PD where
  bd : Nat
  md : Nat
  ms : Nat
  ra : Option Addr
  rc : Nat
  row : List Chg
  F : List FO
  ed : Dir
  es : Dir
def pc (r : Int) (m n : Nat) (a : Option Addr) (l c : Nat) (off : Bool) (ca fu wa fa : Int) : List Value :=
  [.int .i64 r, .map (some m), .map (some n), .slice a l c, .bool off, .int .i64 ca, .int .i64 fu, .int .i64 wa, .int .i64 fa]
def pcells (s : Ds) (D : PD) : List Value := pc s.room D.md D.ms D.ra D.row.length D.rc s.off s.calls s.fuse s.wait s.fails
def PD.rest (D : PD) : List (Nat × AB) := (D.md, .map (mapC D.F D.ed)) :: (D.ms, .map (mapC D.F D.es)) :: (slB D.ra (rowC D.F D.row) (D.rc * 3) ++ fobs D.F)
def PD.blocks (s : Ds) (D : PD) : List (Nat × AB) := (D.bd, .cells (pcells s D) 9) :: D.rest
def scanC : Dir → List Chg → List Dir
  | d, [] => [d]
  | d, c :: r => d :: scanC (c.play d) r
structure PRep (s : Ds) (D : PD) : Prop where
  ok : s.Ok
  fs : D.F.map FO.abs = s.fs
  fv : FV D.F
  rv : SlV 3 D.ra D.row.length D.rc (rowC D.F D.row)
  ri : ∀ c ∈ D.row, ∀ i, c.f = some i → i < s.fs.length
  dm : D.ed.Perm s.dir
  wr : ∃ d, s.was = scanC d D.row ∧ D.es.Perm d
  la : s.was.getLast? = some s.dir

/-! the document's answer's -/
structure RD where
  bd : Nat
  la : Option Addr
  lc : Nat
  wa : Option Addr
  wc : Nat
  W : List (Option Addr × Nat)
  F : List FO
def rcl (r : Int) (a : Option Addr) (l c : Nat) (b : Option Addr) (m d : Nat) (ca fu wa fa : Int) (off : Bool) : List Value :=
  [.int .i64 r, .slice a l c, .slice b m d, .int .i64 ca, .int .i64 fu, .int .i64 wa, .int .i64 fa, .bool off]
def rcells (s : Ds) (R : RD) : List Value := rcl s.room R.la s.dir.length R.lc R.wa s.was.length R.wc s.calls s.fuse s.wait s.fails s.off
def wasC : List Dir → List (Option Addr × Nat) → List Value
  | d :: r, p :: q => .slice p.1 d.length p.2 :: wasC r q
  | _, _ => []
def wasB (F : List FO) : List Dir → List (Option Addr × Nat) → List (Nat × AB)
  | d :: r, p :: q => slB p.1 (entC F d) (p.2 * 2) ++ wasB F r q
  | _, _ => []
def WasV (F : List FO) : List Dir → List (Option Addr × Nat) → Prop
  | d :: r, p :: q => SlV 2 p.1 d.length p.2 (entC F d) ∧ WasV F r q
  | [], [] => True
  | _, _ => False
def RD.rest (s : Ds) (R : RD) : List (Nat × AB) := slB R.la (entC R.F s.dir) (R.lc * 2) ++ (slB R.wa (wasC s.was R.W) (R.wc * 1) ++ (wasB R.F s.was R.W ++ fobs R.F))
def RD.blocks (s : Ds) (R : RD) : List (Nat × AB) := (R.bd, .cells (rcells s R) 8) :: R.rest s
structure RRep (s : Ds) (R : RD) : Prop where
  ok : s.Ok
  fs : R.F.map FO.abs = s.fs
  fv : FV R.F
  lv : SlV 2 R.la s.dir.length R.lc (entC R.F s.dir)
  wv : SlV 1 R.wa s.was.length R.wc (wasC s.was R.W)
  ww : WasV R.F s.was R.W

/-! files -/
theorem fobs_split {F : List FO} {i : Nat} {f : FO} (hi : F[i]? = some f) : fobs F = fobs (F.take i) ++ (f.blocks ++ fobs (F.drop (i + 1))) := by
  have hl := (List.getElem?_eq_some_iff.1 hi).1
  have e : F = F.take i ++ f :: F.drop (i + 1) := by
    have h1 : F.drop i = f :: F.drop (i + 1) := by
      rw [List.drop_eq_getElem_cons hl]
      congr 1
      exact (List.getElem?_eq_some_iff.1 hi).2
    rw [← h1, List.take_append_drop]
  conv => lhs; rw [e]
  simp [fobs]
theorem set_split {F : List FO} {i : Nat} {f f' : FO} (hi : F[i]? = some f) : F.set i f' = F.take i ++ f' :: F.drop (i + 1) := by
  have hl := (List.getElem?_eq_some_iff.1 hi).1
  rw [List.set_eq_take_append_cons_drop, if_pos hl]
theorem fobs_set {F : List FO} {i : Nat} {f f' : FO} (hi : F[i]? = some f) : fobs (F.set i f') = fobs (F.take i) ++ (f'.blocks ++ fobs (F.drop (i + 1))) := by
  rw [set_split hi]; simp [fobs]
theorem blk_set {F : List FO} {i j : Nat} {f f' : FO} (hi : F[i]? = some f) (hb : f'.b = f.b) : blk (F.set i f') j = blk F j := by
  unfold blk
  rw [List.getElem?_set]
  split
  · rename_i e
    subst e
    rw [hi]
    split <;> simp [hb]
    rename_i hl
    exact absurd (List.getElem?_eq_some_iff.1 hi).1 hl
  · rfl
theorem blk_push {F : List FO} {f : FO} {j : Nat} (hj : j < F.length) : blk (F ++ [f]) j = blk F j := by
  unfold blk
  rw [List.getElem?_append_left hj]
theorem blk_last {F : List FO} {f : FO} : blk (F ++ [f]) F.length = f.b := by
  unfold blk
  simp
theorem blk_at {F : List FO} {i : Nat} {f : FO} (hi : F[i]? = some f) : blk F i = f.b := by simp [blk, hi]
theorem mapC_eq {F G : List FO} {d : Dir} (h : ∀ e ∈ d, blk F e.2 = blk G e.2) : mapC F d = mapC G d := List.map_congr_left fun e he => by simp [ptrF, h e he]
theorem entC_eq {F G : List FO} {d : Dir} (h : ∀ e ∈ d, blk F e.2 = blk G e.2) : entC F d = entC G d := by
  unfold entC
  induction d with
  | nil => rfl
  | cons e r ih =>
    rw [List.flatMap_cons, List.flatMap_cons, ih fun x hx => h x (List.mem_cons_of_mem _ hx)]
    simp [ptrF, h e (List.mem_cons_self ..)]
theorem rowC_eq {F G : List FO} {row : List Chg} (h : ∀ c ∈ row, ∀ i, c.f = some i → blk F i = blk G i) : rowC F row = rowC G row := by
  unfold rowC
  induction row with
  | nil => rfl
  | cons c r ih =>
    rw [List.flatMap_cons, List.flatMap_cons, ih fun x hx => h x (List.mem_cons_of_mem _ hx)]
    congr 1
    unfold chgC
    cases hf : c.f with
    | none => rfl
    | some i => simp [ptrF, h c (List.mem_cons_self ..) i hf]
theorem wasB_eq {F G : List FO} : ∀ {was : List Dir} {W : List (Option Addr × Nat)}, (∀ d ∈ was, ∀ e ∈ d, blk F e.2 = blk G e.2) → wasB F was W = wasB G was W
  | [], _, _ => by unfold wasB; rfl
  | d :: r, [], _ => rfl
  | d :: r, p :: q, h => by
    unfold wasB
    rw [entC_eq (h d (List.mem_cons_self ..)), wasB_eq fun x hx => h x (List.mem_cons_of_mem _ hx)]
theorem WasV_eq {F G : List FO} : ∀ {was : List Dir} {W : List (Option Addr × Nat)}, (∀ d ∈ was, ∀ e ∈ d, blk F e.2 = blk G e.2) → WasV F was W → WasV G was W
  | [], [], _, v => v
  | [], _ :: _, _, v => v
  | d :: r, [], _, v => v
  | d :: r, p :: q, h, v => by
    refine ⟨?_, WasV_eq (fun x hx => h x (List.mem_cons_of_mem _ hx)) v.2⟩
    have := v.1
    rw [entC_eq (h d (List.mem_cons_self ..))] at this
    exact this
theorem entC_length (F : List FO) (d : Dir) : (entC F d).length = d.length * 2 := by
  induction d with
  | nil => rfl
  | cons e r ih => simp [entC] at ih ⊢; omega
theorem entC_append (F : List FO) (d e : Dir) : entC F (d ++ e) = entC F d ++ entC F e := by simp [entC]
theorem entC_get {F : List FO} : ∀ {d : Dir} {i : Nat} {e : ByteArray × Nat}, d[i]? = some e → (entC F d)[i * 2]? = some (.string e.1) ∧ (entC F d)[i * 2 + 1]? = some (.pointer (ptrF F e.2))
  | [], i, e, h => by simp at h
  | x :: r, 0, e, h => by
    simp at h; subst h
    exact ⟨rfl, rfl⟩
  | x :: r, i + 1, e, h => by
    have ih := entC_get (F := F) (d := r) (i := i) (e := e) (by simpa using h)
    have e1 : entC F (x :: r) = [.string x.1, .pointer (ptrF F x.2)] ++ entC F r := by simp [entC]
    rw [e1, show (i + 1) * 2 = (i * 2) + 2 by omega, show i * 2 + 2 + 1 = (i * 2 + 1) + 2 by omega]
    exact ih
theorem wasC_length : ∀ {was : List Dir} {W : List (Option Addr × Nat)} {F : List FO}, WasV F was W → (wasC was W).length = was.length
  | [], [], _, _ => rfl
  | [], _ :: _, _, v => v.elim
  | _ :: _, [], _, v => v.elim
  | d :: r, p :: q, F, v => by simp [wasC, wasC_length v.2]
theorem wasC_snoc {F : List FO} {d : Dir} {p : Option Addr × Nat} : ∀ {was : List Dir} {W : List (Option Addr × Nat)}, WasV F was W → wasC (was ++ [d]) (W ++ [p]) = wasC was W ++ [.slice p.1 d.length p.2]
  | [], [], _ => rfl
  | [], _ :: _, v => v.elim
  | _ :: _, [], v => v.elim
  | e :: r, x :: q, v => by simp [wasC, wasC_snoc v.2]
theorem wasB_snoc {F : List FO} {d : Dir} {p : Option Addr × Nat} : ∀ {was : List Dir} {W : List (Option Addr × Nat)}, WasV F was W → wasB F (was ++ [d]) (W ++ [p]) = wasB F was W ++ slB p.1 (entC F d) (p.2 * 2)
  | [], [], _ => by simp [wasB]
  | [], _ :: _, v => v.elim
  | _ :: _, [], v => v.elim
  | e :: r, x :: q, v => by simp [wasB, wasB_snoc v.2]
theorem WasV_snoc {F : List FO} {d : Dir} {p : Option Addr × Nat} (hd : SlV 2 p.1 d.length p.2 (entC F d)) : ∀ {was : List Dir} {W : List (Option Addr × Nat)}, WasV F was W → WasV F (was ++ [d]) (W ++ [p])
  | [], [], _ => ⟨hd, trivial⟩
  | [], _ :: _, v => v.elim
  | _ :: _, [], v => v.elim
  | _ :: _, _ :: _, v => ⟨v.1, WasV_snoc hd v.2⟩
theorem scanC_snoc {c : Chg} : ∀ {row : List Chg} {d x : Dir}, (scanC d row).getLast? = some x → scanC d (row ++ [c]) = scanC d row ++ [c.play x]
  | [], d, x, h => by simp [scanC] at h ⊢; rw [h]
  | a :: r, d, x, h => by
    have ih := scanC_snoc (c := c) (row := r) (d := a.play d) (x := x) (by
      simp only [scanC] at h
      rw [List.getLast?_cons] at h
      cases hq : (scanC (a.play d) r).getLast? with
      | none => cases r <;> simp [scanC] at hq
      | some y => rw [hq] at h; simpa using h)
    simp only [List.cons_append, scanC, ih]
theorem scanC_ne (d : Dir) (row : List Chg) : scanC d row ≠ [] := by cases row <;> simp [scanC]
theorem scanC_length : ∀ (d : Dir) (row : List Chg), (scanC d row).length = row.length + 1
  | d, [] => rfl
  | d, c :: r => by simp [scanC, scanC_length]
theorem rowC_length (F : List FO) (row : List Chg) : (rowC F row).length = row.length * 3 := by
  induction row with
  | nil => rfl
  | cons c r ih => simp [rowC, chgC] at ih ⊢; omega
theorem findM {F : List FO} {n : ByteArray} : ∀ {d : Dir}, getM (.string n) (mapC F d) = (findD n d).map fun i => .pointer (ptrF F i)
  | [] => rfl
  | e :: r => by
    have ih := findM (F := F) (n := n) (d := r)
    by_cases q : e.1 = n
    · simp [mapC, getM, eqK, findD, q]
    · have q' : ¬ n = e.1 := fun x => q x.symm
      simp only [mapC, List.map_cons, getM, eqK, q', decide_false]
      rw [show findD n (e :: r) = findD n r by simp [findD, q]]
      exact ih
theorem putM_L {F : List FO} {n : ByteArray} {i : Nat} : ∀ {d : Dir}, putM (.string n) (.pointer (ptrF F i)) (mapC F d) = mapC F (putL n i d)
  | [] => rfl
  | e :: r => by
    have ih := putM_L (F := F) (n := n) (i := i) (d := r)
    by_cases q : n = e.1
    · subst q
      simp [mapC, putM, eqK, putL]
    · simp only [mapC, List.map_cons, putM, eqK, q, decide_false, putL, if_false] at ih ⊢
      rw [ih]
theorem delM_L {F : List FO} {n : ByteArray} : ∀ {d : Dir}, delM (.string n) (mapC F d) = mapC F (delL n d)
  | [] => rfl
  | e :: r => by
    have ih := delM_L (F := F) (n := n) (d := r)
    by_cases q : n = e.1
    · subst q
      simp [mapC, delM, eqK, delL]
    · simp only [mapC, List.map_cons, delM, eqK, q, decide_false, delL, if_false] at ih ⊢
      rw [ih]
theorem keysOk_C {F : List FO} {d : Dir} : keysOk Go.Proofs.Try.prog 65 (mapC F d) := fun e he => by
  obtain ⟨x, _, rfl⟩ := List.mem_map.1 he
  kernel_rfl
theorem mapC_length (F : List FO) (d : Dir) : (mapC F d).length = d.length := by simp [mapC]
end Go.G.Ytpjklfmfgmicaaa
