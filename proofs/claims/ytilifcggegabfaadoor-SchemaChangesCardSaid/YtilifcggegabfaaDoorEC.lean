/- Entries, plainly. -/
import Derived.Test.YtilifcggegabfaaDoorEB
import Derived.Test.YtilifcggegabfaaDoorProg
set_option maxRecDepth 100000
namespace Go.G.YtilifcggegabfaaDoor
open Go.RowKit
open Value (string slice int bool agg)
/-! ### entries, plainly -/
abbrev EDat := List UInt8 × Int × List UInt8
structure EntM where
  ka : Option Addr
  kc : Nat
  key : List UInt8
  til : Int
  va : Option Addr
  vc : Nat
  val : List UInt8
@[reducible] def EntM.cells (e : EntM) : List Value := [.slice e.ka e.key.length e.kc, .int .i64 0, .bool false, .int .i64 e.til, .slice e.va e.val.length e.vc]
def EntM.dat (e : EntM) : EDat := (e.key, e.til, e.val)
def retE (m : MsgM) : EDat := (keyL 2 m.topic, m.til, msgL m)
def sesE (x : SesM) : EDat := (keyL 3 x.client, 0, putV x.next.toNat ++ putV x.head.toNat ++ putV x.sent.toNat)
def subE (x : SesM) (w : WantM) : EDat := (keyL 4 x.client ++ partE w.filter.data.toList, 0, [UInt8.ofNat w.qos.toNat])
def queE (x : SesM) : Nat → List MsgM → List EDat
  | _, [] => []
  | j, m :: l => (keyL 5 x.client ++ numL (x.head + (j : Nat)), m.til, msgL m) :: queE x (j + 1) l
def flE (x : SesM) (f : FlM) : EDat := (keyL 6 x.client ++ numL f.order, 0, putV f.id.toNat ++ [UInt8.ofNat f.step.toNat] ++ msgL f.msg)
def idE (x : SesM) (n : Int) : EDat := (keyL 7 x.client ++ numL n, 0, [])
def clockE (s : StM) : List EDat := if 0 < s.clock then [([1], 0, putV s.clock.toNat)] else []
def idsD (l : List SesM) : List EDat := l.flatMap fun x => x.ids.map (idE x)
def flsD (l : List SesM) : List EDat := l.flatMap fun x => x.fl.map (flE x)
def quesD (l : List SesM) : List EDat := l.flatMap fun x => queE x 0 x.queue
def subsD (l : List SesM) : List EDat := l.flatMap fun x => x.subs.map (subE x)
def entsD (s : StM) : List EDat := clockE s ++ (s.ret.map retE ++ (s.ses.map sesE ++ (subsD s.ses ++ (quesD s.ses ++ (flsD s.ses ++ idsD s.ses)))))
theorem queE_len (x : SesM) : ∀ (l : List MsgM) (j : Nat), (queE x j l).length = l.length
  | [], _ => rfl
  | m :: l, j => by simp [queE, queE_len x l]
theorem flat_le {α β : Type} {f : α → List β} {k : Nat} : ∀ {l : List α}, (∀ x ∈ l, (f x).length ≤ k) → (l.flatMap f).length ≤ l.length * k
  | [], _ => by simp
  | x :: l, h => by
    have h1 := h x (List.mem_cons_self ..)
    have h2 := flat_le (l := l) fun y hy => h y (List.mem_cons_of_mem _ hy)
    rw [List.flatMap_cons, List.length_append, List.length_cons, Nat.add_mul, Nat.one_mul]; omega
theorem entsD_len {s : StM} (h : MaySt s) : (entsD s).length ≤ 10000 := by
  have h1 := h.rl
  have h2 := h.sl
  have a1 : (subsD s.ses).length ≤ s.ses.length * 16 := flat_le fun x hx => by rw [List.length_map]; exact (h.ses x hx).sl
  have a2 : (quesD s.ses).length ≤ s.ses.length * 16 := flat_le fun x hx => by rw [queE_len]; exact (h.ses x hx).ql
  have a3 : (flsD s.ses).length ≤ s.ses.length * 4 := flat_le fun x hx => by rw [List.length_map]; exact (h.ses x hx).fll
  have a4 : (idsD s.ses).length ≤ s.ses.length * 64 := flat_le fun x hx => by rw [List.length_map]; exact (h.ses x hx).il
  have a5 : (clockE s).length ≤ 1 := by unfold clockE; split <;> simp
  simp only [entsD, List.length_append, List.length_map]
  omega
def ownE (l : List EntM) : List (Nat × AB) := l.flatMap fun e => slB e.va (u8s e.val) (e.vc * 1) ++ slB e.ka (u8s e.key) (e.kc * 1)
structure EntV (e : EntM) : Prop where
  key : SlV 1 e.ka e.key.length e.kc (u8s e.key)
  val : SlV 1 e.va e.val.length e.vc (u8s e.val)
theorem ent_cell (e : EntM) : ∀ y ∈ e.cells, y.oneCell' = true := by
  intro y hy
  simp at hy
  rcases hy with rfl | rfl | rfl | rfl | rfl <;> rfl
/-- The entries so far. -/
structure Out (D : List EDat) (a : Option Addr) (c : Nat) (es : List EntM) : Prop where
  dat : es.map EntM.dat = D
  v : SlV 5 a es.length c (es.flatMap EntM.cells)
  ev : ∀ e ∈ es, EntV e
@[reducible] def outB (a : Option Addr) (c : Nat) (es : List EntM) : List (Nat × AB) := slB a (es.flatMap EntM.cells) (c * 5) ++ ownE es
theorem Out.nil : Out [] none 0 [] := ⟨rfl, SlV.nil, fun _ z => by cases z⟩
theorem Out.len {D : List EDat} {a : Option Addr} {c : Nat} {es : List EntM} (o : Out D a c es) : es.length = D.length := by
  have := congrArg List.length o.dat
  simpa using this
/-- One more. -/
theorem ent_step {w0 : World} {h : AH} {B : List (Nat × AB)} {D : List EDat} {a : Option Addr} {c : Nat} {es : List EntM} {Q : Option Addr → Nat → AH → Prop} (o : Out D a c es) {ka va : Option Addr} {kc vc : Nat} {key val : List UInt8} {til : Int}
    (kv : SlV 1 ka key.length kc (u8s key)) (vv : SlV 1 va val.length vc (u8s val)) (w : Own w0 h (slB va (u8s val) (vc * 1) ++ (slB ka (u8s key) (kc * 1) ++ (outB a c es ++ B)))) (hl : D.length ≤ 100000)
    (hk : ∀ a' c' h' es', Out (D ++ [(key, til, val)]) a' c' es' → es'.length = es.length + 1 → Own w0 h' (outB a' c' es' ++ B) → Q a' c' h') :
    App w0 h 5 72 a es.length c 1 [.slice ka key.length kc, .int .i64 0, .bool false, .int .i64 til, .slice va val.length vc] Q := by
  have le := o.len
  have w1 : Own w0 h ((slB va (u8s val) (vc * 1) ++ slB ka (u8s key) (kc * 1)) ++ (slB a (es.flatMap EntM.cells) (c * 5) ++ (ownE es ++ B))) := by simpa only [outB, List.append_eq, List.append_assoc] using w
  generalize hg : (⟨ka, kc, key, til, va, vc, val⟩ : EntM) = e
  have hec : [Value.slice ka key.length kc, .int .i64 0, .bool false, .int .i64 til, .slice va val.length vc] = e.cells := by subst hg; rfl
  rw [hec]
  refine App_mid (cs := slB va (u8s val) (vc * 1) ++ slB ka (u8s key) (kc * 1)) o.v w1 (by omega) (by omega) rfl (ent_cell e) fun a' c' h' v' w' => ?_
  have e2 : es.flatMap EntM.cells ++ e.cells = (es ++ [e]).flatMap EntM.cells := by simp
  rw [e2] at v' w'
  refine hk a' c' h' (es ++ [e]) ⟨by rw [List.map_append, o.dat]; subst hg; rfl, by rw [List.length_append]; exact v', fun x hx => ?_⟩ (by simp) ?_
  · rcases List.mem_append.1 hx with hx | hx
    · exact o.ev x hx
    · rw [List.mem_singleton] at hx; subst hx; subst hg; exact ⟨kv, vv⟩
  · have e5 : ownE (es ++ [e]) = ownE es ++ (slB va (u8s val) (vc * 1) ++ slB ka (u8s key) (kc * 1)) := by subst hg; simp [ownE]
    rw [outB, e5]
    refine w'.perm ?_
    have p1 := List.perm_append_comm_assoc (slB va (u8s val) (vc * 1) ++ slB ka (u8s key) (kc * 1)) (slB a' ((es ++ [e]).flatMap EntM.cells) (c' * 5) ++ ownE es) B
    simpa only [List.append_assoc] using p1
theorem pre_len {D R E : List EDat} {s : StM} (hm : MaySt s) (h : D ++ R = E) (hE : E = entsD s) : D.length ≤ 10000 := by
  have := congrArg List.length h
  rw [List.length_append] at this
  have := entsD_len hm
  rw [hE] at *
  omega
theorem drop_cons {α : Type} {l : List α} {i : Nat} {x : α} (h : l[i]? = some x) : l.drop i = x :: l.drop (i + 1) := by
  obtain ⟨hi, rfl⟩ := List.getElem?_eq_some_iff.1 h
  exact List.drop_eq_getElem_cons hi
theorem toNat_u64 {x : Int} (h0 : 0 ≤ x) (h1 : x ≤ 1152921504606846976) : IntKind.u64.wrap x = ((x.toNat : Nat) : Int) := by
  rw [wrap64u h0 (by omega)]; omega
theorem lit_own {w0 : World} {h : AH} {B : List (Nat × AB)} {k : UInt8} {b : Nat} (w : Own w0 h ((b, .cells [.int .u8 ((k.toNat : Nat) : Int)] 1) :: B)) : SlV 1 (some ⟨b, 0, none⟩) [k].length 1 (u8s [k]) ∧ Own w0 h (slB (some ⟨b, 0, none⟩) (u8s [k]) (1 * 1) ++ B) := ⟨⟨rfl, Nat.le_refl _, rfl, rfl⟩, w⟩
end Go.G.YtilifcggegabfaaDoor
