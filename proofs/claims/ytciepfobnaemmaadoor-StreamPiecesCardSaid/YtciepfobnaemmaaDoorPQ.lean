/- x -/
import Derived.Test.YtciepfobnaemmaaDoorPN
import Derived.Test.YtciepfobnaemmaaDoorProg
set_option maxRecDepth 100000
namespace Go.G.YtciepfobnaemmaaDoor
open Go.RowKit
open Value (string slice int bool agg)
def f12_J : Nat → List Nat × Nat := jOf [(9, [2, 3, 4, 12, 13, 14, 15, 16, 17, 18, 19, 20, 21, 22, 23, 24, 25, 26, 27, 28, 29, 30, 31, 32, 33, 34, 35, 36, 37, 38, 39, 40, 41, 42, 43, 44, 45, 46, 47, 48, 49, 50, 51, 52, 53, 54, 55, 56, 57, 58, 59, 60, 61, 62, 63, 64, 65, 66, 67, 68, 69, 70, 71, 72, 73, 74, 75, 76, 77, 78, 79, 80, 81, 82, 83, 84, 85, 86, 87, 88, 89, 90, 91, 92, 93, 94, 95, 96, 97, 98, 99, 100, 101, 102, 103, 104, 105, 106], 0), (11, [2, 3, 4, 9, 12, 13, 14, 15, 16, 17, 18, 19, 20, 21, 22, 23, 24, 25, 26, 27, 28, 29, 30, 31, 32, 33, 34, 35, 36, 37, 38, 39, 40, 41, 42, 43, 44, 45, 46, 47, 48, 49, 50, 51, 52, 53, 54, 55, 56, 57, 58, 59, 60, 61, 62, 63, 64, 65, 66, 67, 68, 69, 70, 71, 72, 73, 74, 75, 76, 77, 78, 79, 80, 81, 82, 83, 84, 85, 86, 87, 88, 89, 90, 91, 92, 93, 94, 95, 96, 97, 98, 99, 100, 101, 102, 103, 104, 105, 106], 0), (19, [0, 1, 2, 3, 4, 10, 11, 12, 13, 14, 15, 16, 17, 18, 19, 20, 21, 22, 23, 24, 25, 26, 27, 28, 29, 30, 31, 32, 33, 34, 35, 36, 37, 38, 39, 40, 41, 42, 43, 44, 45, 46, 47, 48, 49, 50, 51, 52, 53, 54, 55, 56, 57, 58, 59, 60, 61, 62, 63, 64, 65, 66, 67, 68, 69, 70, 71, 72, 73, 74, 75, 76, 77, 78, 79, 80, 81, 82, 83, 84, 85, 86, 87, 88, 89, 90, 91, 92, 93, 94, 95, 96, 97, 98, 99, 100, 101, 102, 103, 104, 105, 106], 0), (14, [2, 3, 4, 9, 13, 14, 15, 16, 17, 18, 19, 20, 21, 22, 23, 24, 25, 26, 27, 28, 29, 30, 31, 32, 33, 34, 35, 36, 37, 38, 39, 40, 41, 42, 43, 44, 45, 46, 47, 48, 49, 50, 51, 52, 53, 54, 55, 56, 57, 58, 59, 60, 61, 62, 63, 64, 65, 66, 67, 68, 69, 70, 71, 72, 73, 74, 75, 76, 77, 78, 79, 80, 81, 82, 83, 84, 85, 86, 87, 88, 89, 90, 91, 92, 93, 94, 95, 96, 97, 98, 99, 100, 101, 102, 103, 104, 105, 106], 0), (20, [0, 1, 2, 3, 4, 5, 8, 9, 10, 11, 12, 13, 14, 15, 16, 17, 18, 19, 20, 21, 22, 23, 24, 25, 26, 27, 28, 29, 30, 31, 32, 33, 34, 35, 36, 37, 38, 39, 40, 41, 42, 43, 44, 45, 46, 47, 48, 49, 50, 51, 52, 53, 54, 55, 56, 57, 58, 59, 60, 61, 62, 63, 64, 65, 66, 67, 68, 69, 70, 71, 72, 73, 74, 75, 76, 77, 78, 79, 80, 81, 83, 84, 85, 86, 87, 88, 89, 90, 91, 92, 93, 94, 95, 96, 97, 98, 99, 100, 101, 102, 103, 104, 105, 106], 0), (21, [0, 1, 2, 3, 4, 5, 8, 9, 10, 11, 12, 13, 14, 15, 16, 17, 18, 19, 20, 21, 22, 23, 24, 25, 26, 27, 28, 29, 30, 31, 32, 33, 34, 35, 36, 37, 38, 39, 40, 41, 42, 43, 44, 45, 46, 47, 48, 49, 50, 51, 52, 53, 54, 55, 56, 57, 58, 59, 60, 61, 62, 63, 64, 65, 66, 67, 68, 69, 70, 71, 72, 73, 74, 75, 76, 77, 78, 79, 80, 81, 82, 83, 84, 85, 86, 87, 88, 89, 90, 91, 92, 93, 94, 95, 96, 97, 98, 99, 100, 101, 102, 103, 104, 105, 106], 0)]

def f12_9 (w0 : World) (K : Value → AH → Prop) (a : Option Addr) (b : Nat) (c : Nat) (d : Option Addr) (e : Nat) (g : Nat) (i : Option Addr) (k : Nat) (m : Nat) (n : Int) (o : Option Addr) (p : Option Addr) (q : Nat) (r : Nat) (s : Int) (t : Int) (u : Int) (h : AH) : Prop :=
  ∀ j : Nat → Value, LPk Proofs.Tryd.prog w0 (EvC Proofs.Tryd.prog w0) f12_J 12 K 9 [.v (.slice a b c), .v (.slice d e g), .v (j 2), .v (j 3), .v (j 4), .v (.slice i k m), .v (.int .i64 n), .v (.pointer o), .v (.slice p q r), .v (.int .i64 s), .v (.int .i64 t), .v (.int .i64 u), .v (j 12), .v (j 13), .v (j 14), .v (j 15), .v (j 16), .v (j 17), .v (j 18), .v (j 19), .v (j 20), .v (j 21), .v (j 22), .v (j 23), .v (j 24), .v (j 25), .v (j 26), .v (j 27), .v (j 28), .v (j 29), .v (j 30), .v (j 31), .v (j 32), .v (j 33), .v (j 34), .v (j 35), .v (j 36), .v (j 37), .v (j 38), .v (j 39), .v (j 40), .v (j 41), .v (j 42), .v (j 43), .v (j 44), .v (j 45), .v (j 46), .v (j 47), .v (j 48), .v (j 49), .v (j 50), .v (j 51), .v (j 52), .v (j 53), .v (j 54), .v (j 55), .v (j 56), .v (j 57), .v (j 58), .v (j 59), .v (j 60), .v (j 61), .v (j 62), .v (j 63), .v (j 64), .v (j 65), .v (j 66), .v (j 67), .v (j 68), .v (j 69), .v (j 70), .v (j 71), .v (j 72), .v (j 73), .v (j 74), .v (j 75), .v (j 76), .v (j 77), .v (j 78), .v (j 79), .v (j 80), .v (j 81), .v (j 82), .v (j 83), .v (j 84), .v (j 85), .v (j 86), .v (j 87), .v (j 88), .v (j 89), .v (j 90), .v (j 91), .v (j 92), .v (j 93), .v (j 94), .v (j 95), .v (j 96), .v (j 97), .v (j 98), .v (j 99), .v (j 100), .v (j 101), .v (j 102), .v (j 103), .v (j 104), .v (j 105), .v (j 106)] [] h

def f12_11 (w0 : World) (K : Value → AH → Prop) (a : Option Addr) (b : Nat) (c : Nat) (d : Option Addr) (e : Nat) (g : Nat) (i : Option Addr) (k : Nat) (m : Nat) (n : Int) (o : Option Addr) (p : Option Addr) (q : Nat) (r : Nat) (s : Int) (t : Int) (h : AH) : Prop :=
  ∀ j : Nat → Value, LPk Proofs.Tryd.prog w0 (EvC Proofs.Tryd.prog w0) f12_J 12 K 11 [.v (.slice a b c), .v (.slice d e g), .v (j 2), .v (j 3), .v (j 4), .v (.slice i k m), .v (.int .i64 n), .v (.pointer o), .v (.slice p q r), .v (j 9), .v (.int .i64 s), .v (.int .i64 t), .v (j 12), .v (j 13), .v (j 14), .v (j 15), .v (j 16), .v (j 17), .v (j 18), .v (j 19), .v (j 20), .v (j 21), .v (j 22), .v (j 23), .v (j 24), .v (j 25), .v (j 26), .v (j 27), .v (j 28), .v (j 29), .v (j 30), .v (j 31), .v (j 32), .v (j 33), .v (j 34), .v (j 35), .v (j 36), .v (j 37), .v (j 38), .v (j 39), .v (j 40), .v (j 41), .v (j 42), .v (j 43), .v (j 44), .v (j 45), .v (j 46), .v (j 47), .v (j 48), .v (j 49), .v (j 50), .v (j 51), .v (j 52), .v (j 53), .v (j 54), .v (j 55), .v (j 56), .v (j 57), .v (j 58), .v (j 59), .v (j 60), .v (j 61), .v (j 62), .v (j 63), .v (j 64), .v (j 65), .v (j 66), .v (j 67), .v (j 68), .v (j 69), .v (j 70), .v (j 71), .v (j 72), .v (j 73), .v (j 74), .v (j 75), .v (j 76), .v (j 77), .v (j 78), .v (j 79), .v (j 80), .v (j 81), .v (j 82), .v (j 83), .v (j 84), .v (j 85), .v (j 86), .v (j 87), .v (j 88), .v (j 89), .v (j 90), .v (j 91), .v (j 92), .v (j 93), .v (j 94), .v (j 95), .v (j 96), .v (j 97), .v (j 98), .v (j 99), .v (j 100), .v (j 101), .v (j 102), .v (j 103), .v (j 104), .v (j 105), .v (j 106)] [] h

def f12_19 (w0 : World) (K : Value → AH → Prop) (a : Option Addr) (b : Nat) (c : Nat) (d : Int) (e : Option Addr) (g : Option Addr) (i : Nat) (k : Nat) (m : Int) (h : AH) : Prop :=
  ∀ j : Nat → Value, LPk Proofs.Tryd.prog w0 (EvC Proofs.Tryd.prog w0) f12_J 12 K 19 [.v (j 0), .v (j 1), .v (j 2), .v (j 3), .v (j 4), .v (.slice a b c), .v (.int .i64 d), .v (.pointer e), .v (.slice g i k), .v (.int .i64 m), .v (j 10), .v (j 11), .v (j 12), .v (j 13), .v (j 14), .v (j 15), .v (j 16), .v (j 17), .v (j 18), .v (j 19), .v (j 20), .v (j 21), .v (j 22), .v (j 23), .v (j 24), .v (j 25), .v (j 26), .v (j 27), .v (j 28), .v (j 29), .v (j 30), .v (j 31), .v (j 32), .v (j 33), .v (j 34), .v (j 35), .v (j 36), .v (j 37), .v (j 38), .v (j 39), .v (j 40), .v (j 41), .v (j 42), .v (j 43), .v (j 44), .v (j 45), .v (j 46), .v (j 47), .v (j 48), .v (j 49), .v (j 50), .v (j 51), .v (j 52), .v (j 53), .v (j 54), .v (j 55), .v (j 56), .v (j 57), .v (j 58), .v (j 59), .v (j 60), .v (j 61), .v (j 62), .v (j 63), .v (j 64), .v (j 65), .v (j 66), .v (j 67), .v (j 68), .v (j 69), .v (j 70), .v (j 71), .v (j 72), .v (j 73), .v (j 74), .v (j 75), .v (j 76), .v (j 77), .v (j 78), .v (j 79), .v (j 80), .v (j 81), .v (j 82), .v (j 83), .v (j 84), .v (j 85), .v (j 86), .v (j 87), .v (j 88), .v (j 89), .v (j 90), .v (j 91), .v (j 92), .v (j 93), .v (j 94), .v (j 95), .v (j 96), .v (j 97), .v (j 98), .v (j 99), .v (j 100), .v (j 101), .v (j 102), .v (j 103), .v (j 104), .v (j 105), .v (j 106)] [] h

def f12_14 (w0 : World) (K : Value → AH → Prop) (a : Option Addr) (b : Nat) (c : Nat) (d : Option Addr) (e : Nat) (g : Nat) (i : Option Addr) (k : Nat) (m : Nat) (n : Int) (o : Option Addr) (p : Option Addr) (q : Nat) (r : Nat) (s : Int) (t : Int) (u : Int) (h : AH) : Prop :=
  ∀ j : Nat → Value, LPk Proofs.Tryd.prog w0 (EvC Proofs.Tryd.prog w0) f12_J 12 K 14 [.v (.slice a b c), .v (.slice d e g), .v (j 2), .v (j 3), .v (j 4), .v (.slice i k m), .v (.int .i64 n), .v (.pointer o), .v (.slice p q r), .v (j 9), .v (.int .i64 s), .v (.int .i64 t), .v (.int .i64 u), .v (j 13), .v (j 14), .v (j 15), .v (j 16), .v (j 17), .v (j 18), .v (j 19), .v (j 20), .v (j 21), .v (j 22), .v (j 23), .v (j 24), .v (j 25), .v (j 26), .v (j 27), .v (j 28), .v (j 29), .v (j 30), .v (j 31), .v (j 32), .v (j 33), .v (j 34), .v (j 35), .v (j 36), .v (j 37), .v (j 38), .v (j 39), .v (j 40), .v (j 41), .v (j 42), .v (j 43), .v (j 44), .v (j 45), .v (j 46), .v (j 47), .v (j 48), .v (j 49), .v (j 50), .v (j 51), .v (j 52), .v (j 53), .v (j 54), .v (j 55), .v (j 56), .v (j 57), .v (j 58), .v (j 59), .v (j 60), .v (j 61), .v (j 62), .v (j 63), .v (j 64), .v (j 65), .v (j 66), .v (j 67), .v (j 68), .v (j 69), .v (j 70), .v (j 71), .v (j 72), .v (j 73), .v (j 74), .v (j 75), .v (j 76), .v (j 77), .v (j 78), .v (j 79), .v (j 80), .v (j 81), .v (j 82), .v (j 83), .v (j 84), .v (j 85), .v (j 86), .v (j 87), .v (j 88), .v (j 89), .v (j 90), .v (j 91), .v (j 92), .v (j 93), .v (j 94), .v (j 95), .v (j 96), .v (j 97), .v (j 98), .v (j 99), .v (j 100), .v (j 101), .v (j 102), .v (j 103), .v (j 104), .v (j 105), .v (j 106)] [] h

def f12_20 (w0 : World) (K : Value → AH → Prop) (a : Int) (b : Option Addr) (c : Bool) (h : AH) : Prop :=
  ∀ j : Nat → Value, LPk Proofs.Tryd.prog w0 (EvC Proofs.Tryd.prog w0) f12_J 12 K 20 [.v (j 0), .v (j 1), .v (j 2), .v (j 3), .v (j 4), .v (j 5), .v (.int .i64 a), .v (.pointer b), .v (j 8), .v (j 9), .v (j 10), .v (j 11), .v (j 12), .v (j 13), .v (j 14), .v (j 15), .v (j 16), .v (j 17), .v (j 18), .v (j 19), .v (j 20), .v (j 21), .v (j 22), .v (j 23), .v (j 24), .v (j 25), .v (j 26), .v (j 27), .v (j 28), .v (j 29), .v (j 30), .v (j 31), .v (j 32), .v (j 33), .v (j 34), .v (j 35), .v (j 36), .v (j 37), .v (j 38), .v (j 39), .v (j 40), .v (j 41), .v (j 42), .v (j 43), .v (j 44), .v (j 45), .v (j 46), .v (j 47), .v (j 48), .v (j 49), .v (j 50), .v (j 51), .v (j 52), .v (j 53), .v (j 54), .v (j 55), .v (j 56), .v (j 57), .v (j 58), .v (j 59), .v (j 60), .v (j 61), .v (j 62), .v (j 63), .v (j 64), .v (j 65), .v (j 66), .v (j 67), .v (j 68), .v (j 69), .v (j 70), .v (j 71), .v (j 72), .v (j 73), .v (j 74), .v (j 75), .v (j 76), .v (j 77), .v (j 78), .v (j 79), .v (j 80), .v (j 81), .v (.bool c), .v (j 83), .v (j 84), .v (j 85), .v (j 86), .v (j 87), .v (j 88), .v (j 89), .v (j 90), .v (j 91), .v (j 92), .v (j 93), .v (j 94), .v (j 95), .v (j 96), .v (j 97), .v (j 98), .v (j 99), .v (j 100), .v (j 101), .v (j 102), .v (j 103), .v (j 104), .v (j 105), .v (j 106)] [] h

def f12_21 (w0 : World) (K : Value → AH → Prop) (a : Int) (b : Option Addr) (h : AH) : Prop :=
  ∀ j : Nat → Value, LPk Proofs.Tryd.prog w0 (EvC Proofs.Tryd.prog w0) f12_J 12 K 21 [.v (j 0), .v (j 1), .v (j 2), .v (j 3), .v (j 4), .v (j 5), .v (.int .i64 a), .v (.pointer b), .v (j 8), .v (j 9), .v (j 10), .v (j 11), .v (j 12), .v (j 13), .v (j 14), .v (j 15), .v (j 16), .v (j 17), .v (j 18), .v (j 19), .v (j 20), .v (j 21), .v (j 22), .v (j 23), .v (j 24), .v (j 25), .v (j 26), .v (j 27), .v (j 28), .v (j 29), .v (j 30), .v (j 31), .v (j 32), .v (j 33), .v (j 34), .v (j 35), .v (j 36), .v (j 37), .v (j 38), .v (j 39), .v (j 40), .v (j 41), .v (j 42), .v (j 43), .v (j 44), .v (j 45), .v (j 46), .v (j 47), .v (j 48), .v (j 49), .v (j 50), .v (j 51), .v (j 52), .v (j 53), .v (j 54), .v (j 55), .v (j 56), .v (j 57), .v (j 58), .v (j 59), .v (j 60), .v (j 61), .v (j 62), .v (j 63), .v (j 64), .v (j 65), .v (j 66), .v (j 67), .v (j 68), .v (j 69), .v (j 70), .v (j 71), .v (j 72), .v (j 73), .v (j 74), .v (j 75), .v (j 76), .v (j 77), .v (j 78), .v (j 79), .v (j 80), .v (j 81), .v (j 82), .v (j 83), .v (j 84), .v (j 85), .v (j 86), .v (j 87), .v (j 88), .v (j 89), .v (j 90), .v (j 91), .v (j 92), .v (j 93), .v (j 94), .v (j 95), .v (j 96), .v (j 97), .v (j 98), .v (j 99), .v (j 100), .v (j 101), .v (j 102), .v (j 103), .v (j 104), .v (j 105), .v (j 106)] [] h

theorem f12_9_in {w0 : World} {K : Value → AH → Prop} (p : Option Addr) (n : Nat) (q : Nat) (r : Option Addr) (s : Nat) (t : Nat) (a : Option Addr) (b : Nat) (c : Nat) (d : Int) (e : Option Addr) (g : Option Addr) (i : Nat) (k : Nat) (m : Int) (o : Int) (u : Int) (h : AH)
  (hv : (brB (decide ((o < ((n : Nat) : Int)))) (brB (m == (0 : Int)) (f12_11 w0 K p n q r s t a b c d e g i k o u h) (f12_19 w0 K a b c d e g i k m h)) (f12_19 w0 K a b c d e g i k m h))) :
  f12_9 w0 K p n q r s t a b c d e g i k m o u h := fun j => LP_intro (P := Proofs.Tryd.prog) (Eq.mp (by kernel_rfl) hv)

theorem f12_11_in {w0 : World} {K : Value → AH → Prop} (d : Option Addr) (e : Nat) (g : Nat) (c : Option Addr) (b : Nat) (i : Nat) (k : Option Addr) (m : Nat) (n : Nat) (o : Int) (p : Option Addr) (q : Option Addr) (r : Nat) (s : Nat) (t : Int) (a : Int) (h : AH)
  (hv : (brB (decide ((a < ((b : Nat) : Int)))) (∃ u : Addr, ((c = (some u)) ∧ (((0 : Int) ≤ a) ∧ ((a < ((b : Nat) : Int)) ∧ (∃ v : Int, (((cellA w0 h (Addr.add u ((Int.toNat a) * 1))) = (some (int .i64 v))) ∧ (((20 : Int) ≠ (0 : Int)) ∧ (f12_14 w0 K d e g c b i k m n o p q r s t a (IntKind.wrap .i64 ((IntKind.wrap .i64 (Int.tmod (IntKind.wrap .u64 v) (20 : Int))) + (1 : Int))) h)))))))) (f12_14 w0 K d e g c b i k m n o p q r s t a (1 : Int) h))) :
  f12_11 w0 K d e g c b i k m n o p q r s t a h := fun j => LP_intro (P := Proofs.Tryd.prog) (Eq.mp (by kernel_rfl) hv)

theorem f12_19_in {w0 : World} {K : Value → AH → Prop} (c : Option Addr) (d : Nat) (e : Nat) (a : Int) (b : Option Addr) (g : Option Addr) (i : Nat) (k : Nat) (m : Int) (h : AH)
  (hv : (brB (m != a) (f12_20 w0 K a b true h) (EvC Proofs.Tryd.prog w0 29 #[(slice g i k), (slice c d e)] (fun o p => (∃ n : Bool, ((o = (bool n)) ∧ (f12_20 w0 K a b (!n) p)))) h))) :
  f12_19 w0 K c d e a b g i k m h := fun j => LP_intro (P := Proofs.Tryd.prog) (Eq.mp (by kernel_rfl) hv)

theorem f12_14_in {w0 : World} {K : Value → AH → Prop} (g : Option Addr) (b : Nat) (d : Nat) (m : Option Addr) (n : Nat) (o : Nat) (p : Option Addr) (q : Nat) (r : Nat) (s : Int) (i : Option Addr) (t : Option Addr) (k : Nat) (u : Nat) (a : Int) (v : Int) (c : Int) (h : AH)
  (hv : (((0 : Int) ≤ a) ∧ ((a ≤ (IntKind.wrap .i64 (a + (if ((IntKind.wrap .i64 (((b : Nat) : Int) - a)) < c) then (IntKind.wrap .i64 (((b : Nat) : Int) - a)) else c)))) ∧ (((IntKind.wrap .i64 (a + (if ((IntKind.wrap .i64 (((b : Nat) : Int) - a)) < c) then (IntKind.wrap .i64 (((b : Nat) : Int) - a)) else c))) ≤ ((d : Nat) : Int)) ∧ (EvC Proofs.Tryd.prog w0 27 #[(Value.pointer i), (slice (cutA 1 g d (Int.toNat a)) ((Int.toNat (IntKind.wrap .i64 (a + (if ((IntKind.wrap .i64 (((b : Nat) : Int) - a)) < c) then (IntKind.wrap .i64 (((b : Nat) : Int) - a)) else c)))) - (Int.toNat a)) (d - (Int.toNat a)))] (fun A x => (∃ y : Option Addr, (∃ e : Nat, (∃ B : Nat, (∃ z : Int, ((A = (Value.tuple #[(slice y e B), (int .i64 z)])) ∧ (rowsOf w0 x 16 y e (fun C => (App w0 x 16 184 t k u e C (fun D E F => (f12_9 w0 K g b d m n o p q r s i D (k + e) E z (IntKind.wrap .i64 (a + (if ((IntKind.wrap .i64 (((b : Nat) : Int) - a)) < c) then (IntKind.wrap .i64 (((b : Nat) : Int) - a)) else c))) (IntKind.wrap .i64 (v + (1 : Int))) F))))))))))) h))))) :
  f12_14 w0 K g b d m n o p q r s i t k u a v c h := fun j => LP_intro (P := Proofs.Tryd.prog) (Eq.mp (by kernel_rfl) hv)

theorem f12_20_in {w0 : World} {K : Value → AH → Prop} (a : Int) (b : Option Addr) (c : Bool) (h : AH)
  (hv : (brB c (K (bool false) h) (f12_21 w0 K a b h))) :
  f12_20 w0 K a b c h := fun j => LP_intro (P := Proofs.Tryd.prog) (Eq.mp (by kernel_rfl) hv)

theorem f12_21_in {w0 : World} {K : Value → AH → Prop} (c : Int) (a : Option Addr) (h : AH)
  (hv : (brB (c != (0 : Int)) (newB w0 h (AB.cells [(int .u8 (192 : Int)), (int .u8 (0 : Int))] 2) (fun n o => (EvC Proofs.Tryd.prog w0 27 #[(Value.pointer a), (slice (some (Addr.mk n 0 none)) 2 2)] (fun p b => (∃ q : Option Addr, (∃ d : Nat, (∃ r : Nat, (∃ e : Int, ((p = (Value.tuple #[(slice q d r), (int .i64 e)])) ∧ (brB (e == (16 : Int)) (brB (((d : Nat) : Int) == (0 : Int)) (EvC Proofs.Tryd.prog w0 30 #[(Value.pointer a)] (fun s g => (∃ i : Int, ((s = (int .i64 i)) ∧ (brB (i == (0 : Int)) (EvC Proofs.Tryd.prog w0 31 #[] (fun t u => (∃ k : Bool, ((t = (bool k)) ∧ (K (bool k) u)))) g) (K (bool false) g))))) b) (K (bool false) b)) (K (bool false) b)))))))) o))) (EvC Proofs.Tryd.prog w0 31 #[] (fun v x => (∃ m : Bool, ((v = (bool m)) ∧ (K (bool m) x)))) h))) :
  f12_21 w0 K c a h := fun j => LP_intro (P := Proofs.Tryd.prog) (Eq.mp (by kernel_rfl) hv)

theorem f12_go {w0 : World} {K : Value → AH → Prop} (b : Option Addr) (a : Nat) (c : Nat) (d : Option Addr) (e : Nat) (g : Nat) (h : AH)
  (hv : (brB (decide (((3000 : Int) < ((a : Nat) : Int)))) (EvC Proofs.Tryd.prog w0 31 #[] (fun r s => (∃ i : Bool, ((r = (bool i)) ∧ (K (bool i) s)))) h) (EvC Proofs.Tryd.prog w0 26 #[] (fun t u => (∃ k : Option Addr, ((t = (Value.pointer k)) ∧ (EvC Proofs.Tryd.prog w0 27 #[(Value.pointer k), (slice b a c)] (fun v x => (∃ m : Option Addr, (∃ n : Nat, (∃ o : Nat, (∃ p : Int, ((v = (Value.tuple #[(slice m n o), (int .i64 p)])) ∧ (EvC Proofs.Tryd.prog w0 26 #[] (fun y z => (∃ q : Option Addr, ((y = (Value.pointer q)) ∧ (f12_9 w0 K b a c d e g m n o p q none 0 0 (0 : Int) (0 : Int) (0 : Int) z)))) x))))))) u)))) h))) :
  EvC Proofs.Tryd.prog w0 12 ([(.slice b a c), (.slice d e g)]).toArray K h := EvC_intro (P := Proofs.Tryd.prog) f12_J (Eq.mp (by kernel_rfl) hv)
/-! ### bytes in pieces, plainly -/
theorem lenF_app : ∀ (f k n : Nat) (u v : List UInt8), (lenF f k n u).2.2 ≠ 5 → lenF f k n (u ++ v) = lenF f k n u
  | 0, _, _, _, _, _ => rfl
  | _ + 1, _, _, [], _, h => absurd rfl h
  | f + 1, k, n, b :: r, v, h => by
    rw [List.cons_append, lenF_step, lenF_step] at *
    split
    · rename_i q
      rw [if_pos q] at h
      exact lenF_app f (k + 1) _ r v h
    · rfl
theorem lenS_app {u v : List UInt8} (h : (lenS u).2.2 ≠ 5) : lenS (u ++ v) = lenS u := lenF_app 4 0 0 u v h
theorem whole_app {u : List UInt8} (v : List UInt8) (h : wholeL u ≠ (0, 0)) : wholeL (u ++ v) = wholeL u := by
  match u, h with
  | [], h => exact absurd rfl h
  | x :: r, h =>
    rw [List.cons_append, whole_cons]
    rw [whole_cons] at h
    by_cases h5 : (lenS r).2.2 = 5
    · rw [if_pos h5] at h; exact absurd rfl h
    rw [lenS_app h5, whole_cons, if_neg h5, if_neg h5]
    rw [if_neg h5] at h
    by_cases h0 : (lenS r).2.2 ≠ 0
    · rw [if_pos h0, if_pos h0]
    rw [if_neg h0] at h ⊢
    rw [if_neg h0]
    by_cases h1 : 1024 < (lenS r).1
    · rw [if_pos h1, if_pos h1]
    rw [if_neg h1] at h ⊢
    rw [if_neg h1]
    by_cases h2 : r.length < (lenS r).2.1 + (lenS r).1
    · rw [if_pos h2] at h; exact absurd rfl h
    · rw [if_neg h2, if_neg (by rw [List.length_append]; omega)]
theorem feed_enough : ∀ (f g : Nat) (l : List UInt8), l.length ≤ f → l.length ≤ g → feedF f l = feedF g l
  | 0, g, l, h, _ => by
    have : l = [] := List.eq_nil_of_length_eq_zero (by omega)
    subst this
    cases g with
    | zero => rfl
    | succ g => rfl
  | f + 1, 0, l, _, h => by
    have : l = [] := List.eq_nil_of_length_eq_zero (by omega)
    subst this
    rfl
  | f + 1, g + 1, l, h1, h2 => by
    have w := whole_le l
    rw [feedF, feedF]
    split
    · rfl
    split
    · rfl
    split
    · rfl
    · have e : feedF f (l.drop (wholeL l).1) = feedF g (l.drop (wholeL l).1) := feed_enough f g _ (by rw [List.length_drop]; omega) (by rw [List.length_drop]; omega)
      rw [e]
theorem feed_step {l : List UInt8} (hl : l ≠ []) : feedL l = if (wholeL l).2 ≠ 0 then ([], (wholeL l).2, []) else if (wholeL l).1 = 0 then ([], 0, l) else if (decL (l.take (wholeL l).1)).2 ≠ 0 then ([], (decL (l.take (wholeL l).1)).2, [])
    else ((decL (l.take (wholeL l).1)).1 :: (feedL (l.drop (wholeL l).1)).1, (feedL (l.drop (wholeL l).1)).2) := by
  have w := whole_le l
  unfold feedL
  cases hn : l.length with
  | zero => exact absurd (List.eq_nil_of_length_eq_zero hn) hl
  | succ n =>
    rw [feedF]
    split
    · rfl
    split
    · rfl
    split
    · rfl
    · have e : feedF n (l.drop (wholeL l).1) = feedF (l.drop (wholeL l).1).length (l.drop (wholeL l).1) := feed_enough _ _ _ (by rw [List.length_drop]; omega) (Nat.le_refl _)
      rw [e]
/-- What comes behind is told behind. -/
theorem feed_app : ∀ (f : Nat) (u v : List UInt8), u.length ≤ f → feedL (u ++ v) = if (feedL u).2.1 ≠ 0 then ((feedL u).1, (feedL u).2.1, []) else ((feedL u).1 ++ (feedL ((feedL u).2.2 ++ v)).1, (feedL ((feedL u).2.2 ++ v)).2)
  | 0, u, v, h => by
    have : u = [] := List.eq_nil_of_length_eq_zero (by omega)
    subst this
    rfl
  | f + 1, u, v, h => by
    by_cases hu : u = []
    · subst hu; rfl
    have huv : u ++ v ≠ [] := fun e => hu (List.append_eq_nil_iff.1 e).1
    have w := whole_le u
    rw [feed_step hu]
    by_cases hw : wholeL u = (0, 0)
    · rw [hw]
      rw [if_neg (by simp), if_pos rfl, if_neg (by simp)]
      rfl
    rw [feed_step huv, whole_app v hw]
    by_cases h1 : (wholeL u).2 ≠ 0
    · rw [if_pos h1, if_pos h1, if_pos h1]
    rw [if_neg h1, if_neg h1]
    have hn : (wholeL u).1 ≠ 0 := fun e => hw (Prod.ext e (Classical.byContradiction h1))
    rw [if_neg hn, if_neg hn]
    have et : (u ++ v).take (wholeL u).1 = u.take (wholeL u).1 := List.take_append_of_le_length w.1
    have ed : (u ++ v).drop (wholeL u).1 = u.drop (wholeL u).1 ++ v := List.drop_append_of_le_length w.1
    rw [et, ed]
    by_cases h2 : (decL (u.take (wholeL u).1)).2 ≠ 0
    · rw [if_pos h2, if_pos h2, if_pos h2]
    rw [if_neg h2, if_neg h2]
    have ih := feed_app f (u.drop (wholeL u).1) v (by rw [List.length_drop]; omega)
    rw [ih]
    dsimp only
    split
    · rfl
    · rw [List.cons_append]
theorem feedL_count (l : List UInt8) : (feedL l).1.length ≤ l.length := feedF_count _ l
theorem feedL_rest (l : List UInt8) : (feedL l).2.2.length ≤ l.length := feedF_rest _ l
theorem feedL_small (l : List UInt8) : ∀ k ∈ (feedL l).1, smallP k := feedF_small _ l
theorem feedL_err (l : List UInt8) : (feedL l).2.1 ≠ 0 → (feedL l).2.2 = [] := feedF_err _ l
section
variable {w0 : World} {K : Value → AH → Prop} {h : AH} {c : Nat}
theorem f12_21s {s : Nat} {p : Option Addr} {e : Int} {buf : List UInt8} {c1 : Nat} {X : List (Nat × AB)} (T : TabOk w0) (he : e ≠ 0 → buf = []) (w : Own w0 h (stB s p buf.length c1 (decide (e ≠ 0)) :: X)) (hk : ∀ h', K (.bool true) h') : f12_21 w0 K e (some ⟨s, 0, none⟩) h := by
  have done : ∀ h', EvC Go.Proofs.Tryd.prog w0 31 #[] (fun x h'' => ∃ t : Bool, x = .bool t ∧ K (.bool t) h'') h' := fun h' => f31_spec T (X := []) ⟨List.nodup_nil, (fun _ z => by cases z), fun _ z => by cases z⟩ fun h'' => ⟨_, rfl, hk h''⟩
  refine f12_21_in _ _ _ (brB_of (fun z => fun b hb hn => ?_) fun z => done h)
  have ne : e ≠ 0 := by simpa using z
  rw [he ne, decide_eq_true ne] at w
  have w2 := Own.sw (Own.new (o := .cells (u8s [192, 0]) 2) w hb hn)
  exact f27_bad w2 ⟨_, _, _, _, rfl, brB_of (fun _ => brB_of (fun _ => f30_spec w2 ⟨_, rfl, brB_of (fun _ => done _) fun z => by simp at z⟩) fun z => by simp at z) fun z => by simp at z⟩
/-- StreamPieces. -/
theorem f12_spec {a a1 : Option Addr} {l : List UInt8} {cuts : List Int} {c1 : Nat} (T : TabOk w0) (hr : Rd0 w0 a (u8s l)) (hc : l.length ≤ c) (hl : l.length ≤ 140737488355328) (hr1 : Rd0 w0 a1 (ints cuts)) (hk : ∀ h', K (.bool true) h') :
    EvC Go.Proofs.Tryd.prog w0 12 #[.slice a l.length c, .slice a1 cuts.length c1] K (fun _ => none) := by
  have done : ∀ h', EvC Go.Proofs.Tryd.prog w0 31 #[] (fun x h'' => ∃ t : Bool, x = .bool t ∧ K (.bool t) h'') h' := fun h' => f31_spec T (X := []) ⟨List.nodup_nil, (fun _ z => by cases z), fun _ z => by cases z⟩ fun h'' => ⟨_, rfl, hk h''⟩
  refine f12_go _ _ _ _ _ _ _ (brB_of (fun _ => done _) fun z => f26_spec (X := []) Own.nil fun h1 s1 w1 => ⟨_, rfl, ?_⟩)
  have hl3 : l.length ≤ 3000 := by have := of_decide_eq_false z; omega
  have rl : Rdr w0 [] a c l := ⟨fun h' _ => hr.rd h', hc, hl⟩
  refine f27_spec (buf := []) (p := none) (c := 0) (X := []) T SlV.nil w1 rl (List.nil_subset _) (by rw [List.length_nil]; omega) fun h2 a2 c2 ms p2 d2 ek v2 vp2 w2 => ⟨_, _, _, _, rfl, f26_spec w2 fun h3 s w3 => ⟨_, rfl, ?_⟩⟩
  rw [List.nil_append] at *
  have hsm := feedL_small l
  have hcount := feedL_count l
  -- what stays all the time
  have w4 : Own w0 h3 (stB s none 0 0 false :: (outP a2 c2 ms)) := (w3.perm (by
    classical
    rw [List.perm_iff_count]
    intro t
    simp only [List.count_append, List.count_cons, List.count_nil]
    omega : (_ : List (Nat × AB)).Perm ((stB s1 p2 (feedL l).2.2.length d2 (decide ((feedL l).2.1 ≠ 0)) :: slB p2 (u8s (feedL l).2.2) (d2 * 1)) ++ (stB s none 0 0 false :: (outP a2 c2 ms))))).drop
  have fin : ∀ (h : AH) (a8 : Option Addr) (d8 : Nat) (ns : List PkM) (p : Option Addr) (buf : List UInt8) (c9 : Nat) (e : Int), e = (feedL l).2.1 → ns.map PkM.key = (feedL l).1 → PksV a8 d8 ns → (e ≠ 0 → buf = []) → Own w0 h (stB s p buf.length c9 (decide (e ≠ 0)) :: (slB p (u8s buf) (c9 * 1) ++ (outP a8 d8 ns ++ outP a2 c2 ms))) →
      f12_19 w0 K a2 ms.length c2 (feedL l).2.1 (some ⟨s, 0, none⟩) a8 ns.length d8 e h := fun h a8 d8 ns p buf c9 e he hn v8 hb w => by
    subst he
    refine f12_19_in _ _ _ _ _ _ _ _ _ _ (brB_of (fun z => by simp at z) fun _ => ?_)
    have s1 : outP a8 d8 ns ⊆ stB s p buf.length c9 (decide ((feedL l).2.1 ≠ 0)) :: (slB p (u8s buf) (c9 * 1) ++ (outP a8 d8 ns ++ outP a2 c2 ms)) := fun y hy => List.mem_cons_of_mem _ (List.mem_append_right _ (List.mem_append_left _ hy))
    have s2 : outP a2 c2 ms ⊆ stB s p buf.length c9 (decide ((feedL l).2.1 ≠ 0)) :: (slB p (u8s buf) (c9 * 1) ++ (outP a8 d8 ns ++ outP a2 c2 ms)) := fun y hy => List.mem_cons_of_mem _ (List.mem_append_right _ (List.mem_append_right _ hy))
    have en : ns.length ≤ 1000000000000 := by
      have := congrArg List.length hn
      rw [List.length_map] at this
      omega
    refine f29_spec (v8.rd w s1) (v2.rd w s2) en (hn.trans ek.symm) (v8.each_rd w (fun y hy => s1 (List.mem_append_right _ hy)) (by rw [hn]; exact hsm)) (v2.each_rd w (fun y hy => s2 (List.mem_append_right _ hy)) (by rw [ek]; exact hsm)) ⟨_, rfl, ?_⟩
    exact f12_20_in _ _ _ _ (brB_of (fun z => by cases z) fun _ => f12_21s T hb w hk)
  have loop : ∀ (n at' : Nat), at' + n = l.length → ∀ (i : Nat) (h : AH) (a8 : Option Addr) (d8 : Nat) (ns : List PkM) (p : Option Addr) (c9 : Nat), i ≤ at' → ns.map PkM.key = (feedL (l.take at')).1 → PksV a8 d8 ns → SlV 1 p (feedL (l.take at')).2.2.length c9 (u8s (feedL (l.take at')).2.2) →
      Own w0 h (stB s p (feedL (l.take at')).2.2.length c9 (decide ((feedL (l.take at')).2.1 ≠ 0)) :: (slB p (u8s (feedL (l.take at')).2.2) (c9 * 1) ++ (outP a8 d8 ns ++ outP a2 c2 ms))) →
      f12_9 w0 K a l.length c a1 cuts.length c1 a2 ms.length c2 (feedL l).2.1 (some ⟨s, 0, none⟩) a8 ns.length d8 (feedL (l.take at')).2.1 ((at' : Nat) : Int) ((i : Nat) : Int) h := by
    intro n
    induction n using Nat.strongRecOn with
    | _ n ih =>
    intro at' ha i h a8 d8 ns p c9 hi hn v8 vp w
    have happ := feed_app (l.take at').length (l.take at') (l.drop at') (Nat.le_refl _)
    rw [List.take_append_drop] at happ
    have herr := feedL_err (l.take at')
    refine f12_9_in _ _ _ _ _ _ _ _ _ _ _ _ _ _ _ _ _ _ (brB_of (fun z => brB_of (fun y => ?_) fun y => ?_) fun z => ?_)
    · have hlt : at' < l.length := by have := of_decide_eq_true z; omega
      have e0 : (feedL (l.take at')).2.1 = 0 := by simpa using y
      have fourteen : ∀ k : Nat, 1 ≤ k → k ≤ 20 → f12_14 w0 K a l.length c a1 cuts.length c1 a2 ms.length c2 (feedL l).2.1 (some ⟨s, 0, none⟩) a8 ns.length d8 ((at' : Nat) : Int) ((i : Nat) : Int) ((k : Nat) : Int) h := fun k hk1 hk2 => by
        have em : IntKind.i64.wrap (((at' : Nat) : Int) + (if (IntKind.i64.wrap (((l.length : Nat) : Int) - ((at' : Nat) : Int)) < ((k : Nat) : Int)) then IntKind.i64.wrap (((l.length : Nat) : Int) - ((at' : Nat) : Int)) else ((k : Nat) : Int))) = ((at' + min (l.length - at') k : Nat) : Int) := by
          rw [wrap64 (x := ((l.length : Nat) : Int) - ((at' : Nat) : Int)) (by omega) (by omega)]
          split
          · rw [wrap64 (by omega) (by omega)]; omega
          · rw [wrap64 (by omega) (by omega)]; omega
        refine f12_14_in _ _ _ _ _ _ _ _ _ _ _ _ _ _ _ _ _ _ ?_
        rw [em, Int.toNat_natCast, Int.toNat_natCast]
        generalize hm : min (l.length - at') k = m
        have hm1 : 1 ≤ m := by omega
        have hm2 : at' + m ≤ l.length := by omega
        refine ⟨by omega, by omega, by omega, ?_⟩
        have rp : Rdr w0 [] (cutA 1 a c at') (c - at') ((l.drop at').take m) := (rl.drop (by omega)).take
        have elp : at' + m - at' = ((l.drop at').take m).length := by rw [List.length_take, List.length_drop]; omega
        rw [elp]
        rw [e0] at w
        have hrest := feedL_rest (l.take at')
        rw [List.length_take] at hrest
        have hb : (feedL (l.take at')).2.2.length ≤ 3000 := by omega
        refine f27_spec T vp w rp (List.nil_subset _) (by rw [List.length_take, List.length_drop]; omega) fun h5 a5 d5 qs p5 e5 ek5 v5 vp5 w5 => ⟨_, _, _, _, rfl, ?_⟩
        have et : l.take (at' + m) = l.take at' ++ (l.drop at').take m := by rw [List.take_add]
        have hap := feed_app (l.take at').length (l.take at') ((l.drop at').take m) (Nat.le_refl _)
        rw [← et, e0, if_neg (by simp)] at hap
        have hap1 : (feedL (l.take (at' + m))).1 = (feedL (l.take at')).1 ++ (feedL ((feedL (l.take at')).2.2 ++ (l.drop at').take m)).1 := by rw [hap]
        have hap2 : (feedL (l.take (at' + m))).2 = (feedL ((feedL (l.take at')).2.2 ++ (l.drop at').take m)).2 := by rw [hap]
        rw [← hap2] at vp5 w5 ⊢
        have hq : qs.length ≤ 10000 := by
          have h1 := congrArg List.length ek5
          rw [List.length_map] at h1
          have h2 := feedL_count ((feedL (l.take at')).2.2 ++ (l.drop at').take m)
          rw [List.length_append, List.length_take, List.length_drop] at h2
          omega
        have hnl : ns.length ≤ 10000 := by
          have h1 := congrArg List.length hn
          rw [List.length_map] at h1
          have h2 := feedL_count (l.take at')
          rw [List.length_take] at h2
          omega
        have w6 : Own w0 h5 ((stB s p5 (feedL (l.take (at' + m))).2.2.length e5 (decide ((feedL (l.take (at' + m))).2.1 ≠ 0)) :: (slB p5 (u8s (feedL (l.take (at' + m))).2.2) (e5 * 1) ++ outP a5 d5 qs)) ++ (slB a8 (ns.flatMap PkM.cells) (d8 * 16) ++ (ownPs ns ++ outP a2 c2 ms))) := by
          have := w5
          simpa only [outP, List.append_assoc, List.cons_append] using this
        have rq : Rd w0 h5 a5 (qs.flatMap PkM.cells) := v5.rd w5 fun y hy => List.mem_cons_of_mem _ (List.mem_append_right _ (List.mem_append_left _ hy))
        have el16 : ∀ l : List PkM, (l.flatMap PkM.cells).length = l.length * 16 := flat_len fun _ => rfl
        refine rowsOf_of rq (el16 qs) (App_mid v8.sl w6 (by omega) (by omega) (el16 qs) (fun y hy => by
          obtain ⟨m, _, hm⟩ := List.mem_flatMap.1 hy
          exact pk_cell m y hm) fun a7 d7 h7 v7 w7 => ?_)
        rw [← List.flatMap_append] at v7 w7
        have pm : List.Perm ((stB s p5 (feedL (l.take (at' + m))).2.2.length e5 (decide ((feedL (l.take (at' + m))).2.1 ≠ 0)) :: (slB p5 (u8s (feedL (l.take (at' + m))).2.2) (e5 * 1) ++ outP a5 d5 qs)) ++ (slB a7 ((ns ++ qs).flatMap PkM.cells) (d7 * 16) ++ (ownPs ns ++ outP a2 c2 ms)))
            (slB a5 (qs.flatMap PkM.cells) (d5 * 16) ++ (stB s p5 (feedL (l.take (at' + m))).2.2.length e5 (decide ((feedL (l.take (at' + m))).2.1 ≠ 0)) :: (slB p5 (u8s (feedL (l.take (at' + m))).2.2) (e5 * 1) ++ (outP a7 d7 (ns ++ qs) ++ outP a2 c2 ms)))) := by
          have eo : ownPs (ns ++ qs) = ownPs ns ++ ownPs qs := List.flatMap_append
          classical
          rw [List.perm_iff_count]
          intro t
          simp only [outP, eo, List.count_append, List.count_cons]
          omega
        have w8 := (w7.perm pm).drop
        have enq : ns.length + qs.length = (ns ++ qs).length := (List.length_append ..).symm
        rw [wrapS (by omega), enq]
        rw [enq] at v7
        have vv : PksV a7 d7 (ns ++ qs) := ⟨v7, fun x hx => (List.mem_append.1 hx).elim (v8.each x) (v5.each x)⟩
        exact ih (n - m) (by omega) (at' + m) (by omega) (i + 1) h7 a7 d7 (ns ++ qs) p5 e5 (by omega) (by rw [List.map_append, hn, ek5, hap1]) vv vp5 w8
      refine f12_11_in _ _ _ _ _ _ _ _ _ _ _ _ _ _ _ _ _ (brB_of (fun u => ?_) fun u => fourteen 1 (Nat.le_refl _) (by decide))
      have hic : i < cuts.length := by have := of_decide_eq_true u; omega
      have g1 : cuts[i]? = some cuts[i] := List.getElem?_eq_getElem hic
      obtain ⟨ad, had, hcc⟩ := hr1.rd h _ _ (ints_get g1)
      refine ⟨ad, had, by omega, by omega, cuts[i], by rw [Int.toNat_natCast, Nat.mul_one]; exact hcc, by decide, ?_⟩
      generalize cuts[i] = x
      have hu : 0 ≤ IntKind.u64.wrap x ∧ IntKind.u64.wrap x < 18446744073709551616 := by
        simp [IntKind.wrap, IntKind.signed, IntKind.bits]; omega
      have ht : Int.tmod (IntKind.u64.wrap x) 20 = (((IntKind.u64.wrap x).toNat % 20 : Nat) : Int) := by
        rw [Int.tmod_eq_emod_of_nonneg hu.1]; omega
      have hm : (IntKind.u64.wrap x).toNat % 20 < 20 := Nat.mod_lt _ (by decide)
      rw [ht, wrap64 (x := (((IntKind.u64.wrap x).toNat % 20 : Nat) : Int)) (by omega) (by omega), wrap64 (by omega) (by omega)]
      exact fourteen ((IntKind.u64.wrap x).toNat % 20 + 1) (by omega) (by omega)
    · have e0 : (feedL (l.take at')).2.1 ≠ 0 := by simpa using y
      rw [if_pos e0] at happ
      exact fin h a8 d8 ns p _ c9 _ (by rw [happ]) (by rw [hn, happ]) v8 herr w
    · have hlt : at' = l.length := by have := of_decide_eq_false z; omega
      subst hlt
      rw [List.take_length] at *
      exact fin h a8 d8 ns p _ c9 _ rfl hn v8 herr w
  exact loop l.length 0 (by omega) 0 h3 none 0 [] none 0 (Nat.le_refl _) rfl PksV.nil SlV.nil w4
end
end Go.G.YtciepfobnaemmaaDoor
