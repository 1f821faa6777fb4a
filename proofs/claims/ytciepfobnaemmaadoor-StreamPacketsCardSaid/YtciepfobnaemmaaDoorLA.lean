/- PacketDecodes. -/
import Derived.Test.YtciepfobnaemmaaDoorPK
import Derived.Test.YtciepfobnaemmaaDoorProg
set_option maxRecDepth 100000
namespace Go.G.YtciepfobnaemmaaDoor
open Go.RowKit
open Value (string slice int bool agg)
def f17_J : Nat → List Nat × Nat := jOf []



theorem f17_go {w0 : World} {K : Value → AH → Prop}  (h : AH)
  (hv : (newB w0 h (AB.cells [(int .u8 (48 : Int)), (int .u8 (5 : Int)), (int .u8 (0 : Int)), (int .u8 (1 : Int)), (int .u8 (116 : Int)), (int .u8 (104 : Int)), (int .u8 (105 : Int))] 7) (fun k m => (EvC Proofs.Tryd.prog w0 14 #[(slice (some (Addr.mk k 0 none)) 7 7)] (fun n a => (∃ b : Int, (∃ o : Int, (∃ p : Bool, (∃ c : ByteArray, (∃ d : Option Addr, (∃ e : Nat, (∃ q : Nat, (∃ r : Int, (∃ s : Bool, (∃ t : Int, (∃ u : ByteArray, (∃ v : Bool, (∃ x : Int, (∃ y : Bool, (∃ z : Bool, (∃ A : Int, (∃ B : Option Addr, (∃ C : Nat, (∃ D : Nat, (∃ E : Option Addr, (∃ F : Nat, (∃ L : Nat, (∃ g : Int, ((n = (Value.tuple #[(agg #[(int .i64 b), (int .i64 o), (bool p), (string c), (slice d e q), (int .i64 r), (bool s), (int .i64 t), (string u), (bool v), (int .i64 x), (bool y), (bool z), (int .i64 A), (slice B C D), (slice E F L)]), (int .i64 g)])) ∧ (brB (g == (0 : Int)) (brB (b == (3 : Int)) (brB (decide ((c = (ByteArray.mk #[(116 : UInt8)])))) (rowsOf w0 a 1 d e (fun M => (∃ i : ByteArray, ((M = (intsOf i)) ∧ (K (bool (decide ((i = (ByteArray.mk #[(104 : UInt8), (105 : UInt8)]))))) a))))) (K (bool false) a)) (K (bool false) a)) (K (bool false) a))))))))))))))))))))))))))) m)))) :
  EvC Proofs.Tryd.prog w0 17 ([]).toArray K h := EvC_intro (P := Proofs.Tryd.prog) f17_J (Eq.mp (by kernel_rfl) hv)
def f3_J : Nat → List Nat × Nat := jOf []



theorem f3_go {w0 : World} {K : Value → AH → Prop} (a : Option Addr) (b c : Nat) (h : AH)
  (hv : (EvC Proofs.Tryd.prog w0 14 #[(slice a b c)] (fun b4 b5 => (∃ e : Int, (∃ g : Int, (∃ i : Bool, (∃ k : ByteArray, (∃ m : Option Addr, (∃ n : Nat, (∃ o : Nat, (∃ p : Int, (∃ q : Bool, (∃ r : Int, (∃ s : ByteArray, (∃ t : Bool, (∃ u : Int, (∃ v : Bool, (∃ x : Bool, (∃ y : Int, (∃ z : Option Addr, (∃ A : Nat, (∃ B : Nat, (∃ C : Option Addr, (∃ D : Nat, (∃ E : Nat, (∃ F : Int, ((b4 = (Value.tuple #[(agg #[(int .i64 e), (int .i64 g), (bool i), (string k), (slice m n o), (int .i64 p), (bool q), (int .i64 r), (string s), (bool t), (int .i64 u), (bool v), (bool x), (int .i64 y), (slice z A B), (slice C D E)]), (int .i64 F)])) ∧ (EvC Proofs.Tryd.prog w0 15 #[(slice a b c)] (fun b6 b7 => (∃ G : Int, (∃ L : Int, (∃ M : Bool, (∃ N : ByteArray, (∃ Q : Option Addr, (∃ R : Nat, (∃ T : Nat, (∃ U : Int, (∃ V : Bool, (∃ Y : Int, (∃ Z : ByteArray, (∃ a0 : Bool, (∃ a1 : Int, (∃ a2 : Bool, (∃ a3 : Bool, (∃ a4 : Int, (∃ a5 : Option Addr, (∃ a6 : Nat, (∃ a7 : Nat, (∃ a8 : Option Addr, (∃ a9 : Nat, (∃ b0 : Nat, (∃ b1 : Int, ((b6 = (Value.tuple #[(agg #[(int .i64 G), (int .i64 L), (bool M), (string N), (slice Q R T), (int .i64 U), (bool V), (int .i64 Y), (string Z), (bool a0), (int .i64 a1), (bool a2), (bool a3), (int .i64 a4), (slice a5 a6 a7), (slice a8 a9 b0)]), (int .i64 b1)])) ∧ (EvC Proofs.Tryd.prog w0 16 #[(agg #[(int .i64 e), (int .i64 g), (bool i), (string k), (slice m n o), (int .i64 p), (bool q), (int .i64 r), (string s), (bool t), (int .i64 u), (bool v), (bool x), (int .i64 y), (slice z A B), (slice C D E)]), (agg #[(int .i64 G), (int .i64 L), (bool M), (string N), (slice Q R T), (int .i64 U), (bool V), (int .i64 Y), (string Z), (bool a0), (int .i64 a1), (bool a2), (bool a3), (int .i64 a4), (slice a5 a6 a7), (slice a8 a9 b0)])] (fun b8 d => (∃ b2 : Bool, ((b8 = (bool b2)) ∧ (brB b2 (brB (F == b1) (EvC Proofs.Tryd.prog w0 17 #[] (fun b9 c0 => (∃ b3 : Bool, ((b9 = (bool b3)) ∧ (K (bool b3) c0)))) d) (K (bool false) d)) (K (bool false) d))))) b7)))))))))))))))))))))))))) b5)))))))))))))))))))))))))) h)) :
  EvC Proofs.Tryd.prog w0 3 ([(.slice a b c)]).toArray K h := EvC_intro (P := Proofs.Tryd.prog) f3_J (Eq.mp (by kernel_rfl) hv)
/-! ### a packet that every program must know; PacketDecodes -/
theorem wantsF_len (sub : Bool) : ∀ (n : Nat) (acc : List (ByteArray × Int)) (s : RS), (wantsF sub n acc s).1.length ≤ n + acc.length
  | 0, acc, s => by simp [wantsF]
  | n + 1, acc, s => by
    unfold wantsF
    split
    · dsimp only
      split
      · refine Nat.le_trans (wantsF_len sub n _ _) ?_
        rw [List.length_append, List.length_singleton]; omega
      · refine Nat.le_trans (wantsF_len sub n _ _) ?_
        rw [List.length_append, List.length_singleton]; omega
    · show acc.length ≤ _
      omega
theorem codesF_len : ∀ (n : Nat) (acc : List Int) (s : RS), (codesF n acc s).1.length ≤ n + acc.length
  | 0, acc, s => by simp [codesF]
  | n + 1, acc, s => by
    unfold codesF
    split
    · dsimp only
      refine Nat.le_trans (codesF_len n _ _) ?_
      rw [List.length_append, List.length_singleton]; omega
    · show acc.length ≤ _
      omega
def smallP (k : Pk) : Prop := k.wants.length ≤ 9 ∧ k.codes.length ≤ 9
theorem bodyS_small (x : Nat) (l : List UInt8) : smallP (bodyS x l).1 := by
  unfold bodyS
  dsimp only
  split
  · exact ⟨Nat.zero_le _, Nat.zero_le _⟩
  split
  · exact ⟨Nat.zero_le _, Nat.zero_le _⟩
  split
  · exact ⟨Nat.zero_le _, Nat.zero_le _⟩
  split
  · exact ⟨wantsF_len _ 9 [] _, Nat.zero_le _⟩
  split
  · exact ⟨Nat.zero_le _, codesF_len 9 [] _⟩
  · exact ⟨Nat.zero_le _, Nat.zero_le _⟩
theorem endP_small {y : Pk × RS} (h : smallP y.1) : smallP (endP y).1 := by
  unfold endP
  split
  · exact h
  · exact ⟨Nat.zero_le _, Nat.zero_le _⟩
theorem decL_small (l : List UInt8) : smallP (decL l).1 := by
  unfold decL
  split
  · exact ⟨Nat.zero_le _, Nat.zero_le _⟩
  · split
    · exact ⟨Nat.zero_le _, Nat.zero_le _⟩
    split
    · exact ⟨Nat.zero_le _, Nat.zero_le _⟩
    split
    · exact ⟨Nat.zero_le _, Nat.zero_le _⟩
    split
    · exact ⟨Nat.zero_le _, Nat.zero_le _⟩
    · exact endP_small (bodyS_small _ _)
section
variable {w0 : World} {K : Value → AH → Prop} {h : AH} {R X : List (Nat × AB)} {c : Nat}
theorem PkV.rd {m : PkM} {B : List (Nat × AB)} (v : PkV m) (w : Own w0 h B) (hs : ownP m ⊆ B) (hm : smallP m.key) : PkRd w0 h m := by
  have sl : ∀ {e : Nat} {a : Option Addr} {n c : Nat} {xs : List Value}, SlV e a n c xs → (∀ y ∈ slB a xs (c * e), y ∈ ownP m) → Rd w0 h a xs := fun {e a n c xs} v hin => by
    obtain ⟨h1, h2, h3⟩ := v
    have s : Sl w0 h e a n c xs := by
      refine ⟨h1, h2, ?_⟩
      cases a with
      | none => exact h3
      | some ad => exact ⟨h3.1, h3.2, (w.mem (hs (hin _ (List.mem_singleton_self _)))).1, (w.mem (hs (hin _ (List.mem_singleton_self _)))).2⟩
    exact s.rd
  refine ⟨sl v.pay fun y hy => List.mem_append_left _ hy, sl v.wants fun y hy => List.mem_append_right _ (List.mem_append_left _ hy), sl v.codes fun y hy => List.mem_append_right _ (List.mem_append_right _ hy), ?_, ?_⟩
  · have := hm.1
    simp only [PkM.key, List.length_map] at this
    omega
  · have := hm.2
    simp only [PkM.key] at this
    omega
def awakeL : List UInt8 := [48, 5, 0, 1, 116, 104, 105]
theorem dec_awake : decL awakeL = ({ kind := 3, topic := ⟨#[116]⟩, pay := [104, 105] }, 0) := by kernel_rfl
theorem f17_spec (T : TabOk w0) (w : Own w0 h X) (hk : ∀ h', Own w0 h' X → K (.bool true) h') : EvC Go.Proofs.Tryd.prog w0 17 #[] K h := by
  refine f17_go _ fun b hb hbn => ?_
  have w1 := Own.new (o := .cells (u8s awakeL) 7) w hb hbn
  have r : Rdr w0 [(b, .cells (u8s awakeL) 7)] (some ⟨b, 0, none⟩) 7 awakeL := ⟨fun h' hx => by
    obtain ⟨g1, g2⟩ := hx _ (List.mem_singleton_self _)
    exact fun j x hj => ⟨_, rfl, own_cell g1 g2 hj⟩, by decide, by decide⟩
  refine f14_spec (l := awakeL) T w1 r (by intro x hx; rw [List.mem_singleton] at hx; subst hx; exact List.mem_cons_self ..) fun h2 m e em v2 w2 => ?_
  rw [dec_awake] at em
  have ek := congrArg Prod.fst em
  have ee : e = 0 := congrArg Prod.snd em
  subst ee
  dsimp only at ek
  have k0 : m.kind = 3 := congrArg Pk.kind ek
  have k3 : m.topic = ⟨#[116]⟩ := congrArg Pk.topic ek
  have k4 : m.pay = [104, 105] := congrArg Pk.pay ek
  have rd := (v2.rd w2 (fun x hx => List.mem_append_left _ hx) (by rw [ek]; exact ⟨Nat.zero_le _, Nat.zero_le _⟩)).pay
  refine ⟨_, _, _, _, _, _, _, _, _, _, _, _, _, _, _, _, _, _, _, _, _, _, _, rfl, brB_of (fun _ => brB_of (fun _ => brB_of (fun _ => rows8 rd rfl ?_) fun z => by rw [k3] at z; simp at z) fun z => by rw [k0] at z; simp at z) fun z => by simp at z⟩
  rw [k4, decide_eq_true rfl]
  exact hk h2 w2.drop.tail
/-- PacketDecodes. -/
theorem f3_spec {a : Option Addr} {l : List UInt8} (T : TabOk w0) (hr : Rd0 w0 a (u8s l)) (hc : l.length ≤ c) (hl : l.length ≤ 140737488355328) (hk : ∀ h, K (.bool true) h) : EvC Go.Proofs.Tryd.prog w0 3 #[.slice a l.length c] K (fun _ => none) := by
  have r : Rdr w0 [] a c l := ⟨fun h' _ => hr.rd h', hc, hl⟩
  refine f3_go _ _ _ _ (f14_spec T Own.nil r (List.nil_subset _) fun h1 m e em v1 w1 => ⟨_, _, _, _, _, _, _, _, _, _, _, _, _, _, _, _, _, _, _, _, _, _, _, rfl, f15_spec T w1 r (List.nil_subset _) fun h2 m2 e2 em2 v2 w2 => ⟨_, _, _, _, _, _, _, _, _, _, _, _, _, _, _, _, _, _, _, _, _, _, _, rfl, ?_⟩⟩)
  have ee := em.trans em2.symm
  have ek : m.key = m2.key := congrArg Prod.fst ee
  have e3 : e = e2 := congrArg Prod.snd ee
  subst e3
  have sm : smallP m.key := by have := decL_small l; rw [← em] at this; exact this
  have sm2 : smallP m2.key := by rw [← ek]; exact sm
  refine f16_spec (v1.rd w2 (fun x hx => List.mem_append_right _ (List.mem_append_left _ hx)) sm) (v2.rd w2 (fun x hx => List.mem_append_left _ hx) sm2) ek ⟨_, rfl, brB_of (fun _ => brB_of (fun _ => f17_spec T w2 fun h3 _ => ⟨_, rfl, hk h3⟩) fun z => by simp at z) fun z => by cases z⟩
end
end Go.G.YtciepfobnaemmaaDoor
