/- DiskPieces by the evaluator. -/
import Derived.Test.YtpjklfmfgmicaaaDN
import Derived.Test.YtpjklfmfgmicaaaLT
import Derived.Test.YtpjklfmfgmicaaaProg
set_option maxRecDepth 100000
namespace Go.G.Ytpjklfmfgmicaaa
open Go.RowKit
def f4_J : Nat → List Nat × Nat := jOf [(6, [0, 3, 4, 5, 6, 9, 10, 11, 12, 13, 14, 15, 16, 17, 18, 19, 20, 24, 25, 26, 27, 28, 29, 30, 31, 32, 33, 34, 35, 36, 37, 38, 39, 40, 41, 42, 43, 44, 45, 46, 47, 48, 49, 50, 51, 52, 53, 54, 55, 56, 57, 58, 59, 60, 61, 62, 63, 64, 65, 66, 67, 68, 69, 70, 71, 72, 73, 74, 75, 76, 77, 78, 79, 80, 81, 82, 83, 84, 85, 86, 87, 88, 89, 90, 91, 92, 93, 94, 95, 96, 97, 98, 99, 100, 101, 102, 103, 104, 105, 106, 107, 108, 109, 110, 111, 112, 113, 114, 115, 116, 117, 118, 119, 120, 121, 122, 123], 0), (13, [0, 3, 4, 5, 6, 9, 10, 11, 12, 13, 14, 15, 16, 17, 18, 19, 20, 21, 22, 23, 24, 25, 26, 27, 28, 29, 30, 31, 32, 33, 34, 35, 36, 37, 38, 39, 40, 41, 42, 43, 44, 45, 46, 47, 48, 49, 50, 51, 52, 53, 54, 55, 56, 57, 58, 59, 60, 61, 62, 63, 64, 65, 66, 67, 68, 69, 70, 71, 72, 73, 74, 75, 76, 77, 78, 79, 80, 81, 82, 83, 84, 85, 86, 87, 88, 89, 90, 91, 92, 93, 94, 95, 96, 97, 98, 99, 100, 101, 102, 103, 104, 105, 106, 107, 108, 109, 110, 111, 112, 113, 114, 115, 116, 117, 118, 119, 120, 121, 122, 123], 0), (9, [0, 3, 4, 5, 6, 9, 11, 12, 13, 14, 15, 16, 17, 18, 19, 20, 24, 25, 26, 27, 28, 29, 30, 31, 32, 33, 34, 35, 36, 37, 38, 39, 40, 41, 42, 43, 44, 45, 46, 47, 48, 49, 50, 51, 52, 53, 54, 55, 56, 57, 58, 59, 60, 61, 62, 63, 64, 65, 66, 67, 68, 69, 70, 71, 72, 73, 74, 75, 76, 77, 78, 79, 80, 81, 82, 83, 84, 85, 86, 87, 88, 89, 90, 91, 92, 93, 94, 95, 96, 97, 98, 99, 100, 101, 102, 103, 104, 105, 106, 107, 108, 109, 110, 111, 112, 113, 114, 115, 116, 117, 118, 119, 120, 121, 122, 123], 0), (16, [0, 3, 4, 5, 6, 9, 10, 11, 12, 13, 14, 15, 16, 17, 18, 19, 20, 21, 22, 23, 24, 25, 26, 27, 28, 29, 30, 31, 32, 33, 34, 35, 36, 37, 38, 39, 40, 41, 42, 43, 44, 45, 46, 47, 48, 49, 50, 51, 52, 53, 54, 55, 56, 57, 58, 59, 60, 61, 62, 63, 64, 65, 66, 67, 68, 69, 70, 71, 72, 73, 74, 75, 76, 77, 79, 80, 81, 82, 83, 84, 85, 86, 87, 88, 89, 90, 91, 92, 93, 94, 95, 96, 97, 98, 99, 100, 101, 102, 103, 104, 105, 106, 107, 108, 109, 110, 111, 112, 113, 114, 115, 116, 117, 118, 119, 120, 121, 122, 123], 0), (17, [0, 3, 4, 5, 6, 9, 10, 11, 12, 13, 14, 15, 16, 17, 18, 19, 20, 21, 22, 23, 24, 25, 26, 27, 28, 29, 30, 31, 32, 33, 34, 35, 36, 37, 38, 39, 40, 41, 42, 43, 44, 45, 46, 47, 48, 49, 50, 51, 52, 53, 54, 55, 56, 57, 58, 59, 60, 61, 62, 63, 64, 65, 66, 67, 68, 69, 70, 71, 72, 73, 74, 75, 76, 77, 78, 79, 80, 81, 82, 83, 84, 85, 86, 87, 88, 89, 90, 91, 92, 93, 94, 95, 96, 97, 98, 99, 100, 101, 102, 103, 104, 105, 106, 107, 108, 109, 110, 111, 112, 113, 114, 115, 116, 117, 118, 119, 120, 121, 122, 123], 0), (18, [0, 3, 4, 5, 6, 9, 10, 11, 12, 13, 14, 15, 16, 17, 18, 19, 20, 21, 22, 23, 24, 25, 26, 27, 28, 29, 30, 31, 32, 33, 34, 35, 36, 37, 38, 39, 40, 41, 42, 43, 44, 45, 46, 47, 48, 49, 50, 51, 52, 53, 54, 55, 56, 57, 58, 59, 60, 61, 62, 63, 64, 65, 66, 67, 68, 69, 70, 71, 72, 73, 74, 75, 76, 77, 78, 79, 80, 81, 82, 83, 84, 85, 86, 87, 88, 89, 90, 91, 92, 93, 94, 95, 96, 97, 99, 100, 101, 102, 103, 104, 105, 106, 107, 108, 109, 110, 111, 112, 113, 114, 115, 116, 117, 118, 119, 120, 121, 122, 123], 0)]

def f4_6 (w0 : World) (K : Value → AH → Prop) (x1 : Int) (x2 : Int) (x7 : Option Go.Addr) (a8 : Option Go.Addr) (n8 : Nat) (c8 : Nat) (a21 : Option Go.Addr) (n21 : Nat) (c21 : Nat) (x22 : Int) (x23 : Int) (h : AH) : Prop :=
  ∀ j : Nat → Value, LPk Go.Proofs.Try.prog w0 (EvC Go.Proofs.Try.prog w0) f4_J 4 K 6 [.v (j 0), .v (.int .i64 x1), .v (.int .i64 x2), .v (j 3), .v (j 4), .v (j 5), .v (j 6), .v (.pointer x7), .v (.slice a8 n8 c8), .v (j 9), .v (j 10), .v (j 11), .v (j 12), .v (j 13), .v (j 14), .v (j 15), .v (j 16), .v (j 17), .v (j 18), .v (j 19), .v (j 20), .v (.slice a21 n21 c21), .v (.int .i64 x22), .v (.int .i64 x23), .v (j 24), .v (j 25), .v (j 26), .v (j 27), .v (j 28), .v (j 29), .v (j 30), .v (j 31), .v (j 32), .v (j 33), .v (j 34), .v (j 35), .v (j 36), .v (j 37), .v (j 38), .v (j 39), .v (j 40), .v (j 41), .v (j 42), .v (j 43), .v (j 44), .v (j 45), .v (j 46), .v (j 47), .v (j 48), .v (j 49), .v (j 50), .v (j 51), .v (j 52), .v (j 53), .v (j 54), .v (j 55), .v (j 56), .v (j 57), .v (j 58), .v (j 59), .v (j 60), .v (j 61), .v (j 62), .v (j 63), .v (j 64), .v (j 65), .v (j 66), .v (j 67), .v (j 68), .v (j 69), .v (j 70), .v (j 71), .v (j 72), .v (j 73), .v (j 74), .v (j 75), .v (j 76), .v (j 77), .v (j 78), .v (j 79), .v (j 80), .v (j 81), .v (j 82), .v (j 83), .v (j 84), .v (j 85), .v (j 86), .v (j 87), .v (j 88), .v (j 89), .v (j 90), .v (j 91), .v (j 92), .v (j 93), .v (j 94), .v (j 95), .v (j 96), .v (j 97), .v (j 98), .v (j 99), .v (j 100), .v (j 101), .v (j 102), .v (j 103), .v (j 104), .v (j 105), .v (j 106), .v (j 107), .v (j 108), .v (j 109), .v (j 110), .v (j 111), .v (j 112), .v (j 113), .v (j 114), .v (j 115), .v (j 116), .v (j 117), .v (j 118), .v (j 119), .v (j 120), .v (j 121), .v (j 122), .v (j 123)] [] h

def f4_13 (w0 : World) (K : Value → AH → Prop) (x1 : Int) (x2 : Int) (x7 : Option Go.Addr) (a8 : Option Go.Addr) (n8 : Nat) (c8 : Nat) (h : AH) : Prop :=
  ∀ j : Nat → Value, LPk Go.Proofs.Try.prog w0 (EvC Go.Proofs.Try.prog w0) f4_J 4 K 13 [.v (j 0), .v (.int .i64 x1), .v (.int .i64 x2), .v (j 3), .v (j 4), .v (j 5), .v (j 6), .v (.pointer x7), .v (.slice a8 n8 c8), .v (j 9), .v (j 10), .v (j 11), .v (j 12), .v (j 13), .v (j 14), .v (j 15), .v (j 16), .v (j 17), .v (j 18), .v (j 19), .v (j 20), .v (j 21), .v (j 22), .v (j 23), .v (j 24), .v (j 25), .v (j 26), .v (j 27), .v (j 28), .v (j 29), .v (j 30), .v (j 31), .v (j 32), .v (j 33), .v (j 34), .v (j 35), .v (j 36), .v (j 37), .v (j 38), .v (j 39), .v (j 40), .v (j 41), .v (j 42), .v (j 43), .v (j 44), .v (j 45), .v (j 46), .v (j 47), .v (j 48), .v (j 49), .v (j 50), .v (j 51), .v (j 52), .v (j 53), .v (j 54), .v (j 55), .v (j 56), .v (j 57), .v (j 58), .v (j 59), .v (j 60), .v (j 61), .v (j 62), .v (j 63), .v (j 64), .v (j 65), .v (j 66), .v (j 67), .v (j 68), .v (j 69), .v (j 70), .v (j 71), .v (j 72), .v (j 73), .v (j 74), .v (j 75), .v (j 76), .v (j 77), .v (j 78), .v (j 79), .v (j 80), .v (j 81), .v (j 82), .v (j 83), .v (j 84), .v (j 85), .v (j 86), .v (j 87), .v (j 88), .v (j 89), .v (j 90), .v (j 91), .v (j 92), .v (j 93), .v (j 94), .v (j 95), .v (j 96), .v (j 97), .v (j 98), .v (j 99), .v (j 100), .v (j 101), .v (j 102), .v (j 103), .v (j 104), .v (j 105), .v (j 106), .v (j 107), .v (j 108), .v (j 109), .v (j 110), .v (j 111), .v (j 112), .v (j 113), .v (j 114), .v (j 115), .v (j 116), .v (j 117), .v (j 118), .v (j 119), .v (j 120), .v (j 121), .v (j 122), .v (j 123)] [] h

def f4_9 (w0 : World) (K : Value → AH → Prop) (x1 : Int) (x2 : Int) (x7 : Option Go.Addr) (a8 : Option Go.Addr) (n8 : Nat) (c8 : Nat) (a10 : Option Go.Addr) (n10 : Nat) (c10 : Nat) (a21 : Option Go.Addr) (n21 : Nat) (c21 : Nat) (x22 : Int) (x23 : Int) (h : AH) : Prop :=
  ∀ j : Nat → Value, LPk Go.Proofs.Try.prog w0 (EvC Go.Proofs.Try.prog w0) f4_J 4 K 9 [.v (j 0), .v (.int .i64 x1), .v (.int .i64 x2), .v (j 3), .v (j 4), .v (j 5), .v (j 6), .v (.pointer x7), .v (.slice a8 n8 c8), .v (j 9), .v (.slice a10 n10 c10), .v (j 11), .v (j 12), .v (j 13), .v (j 14), .v (j 15), .v (j 16), .v (j 17), .v (j 18), .v (j 19), .v (j 20), .v (.slice a21 n21 c21), .v (.int .i64 x22), .v (.int .i64 x23), .v (j 24), .v (j 25), .v (j 26), .v (j 27), .v (j 28), .v (j 29), .v (j 30), .v (j 31), .v (j 32), .v (j 33), .v (j 34), .v (j 35), .v (j 36), .v (j 37), .v (j 38), .v (j 39), .v (j 40), .v (j 41), .v (j 42), .v (j 43), .v (j 44), .v (j 45), .v (j 46), .v (j 47), .v (j 48), .v (j 49), .v (j 50), .v (j 51), .v (j 52), .v (j 53), .v (j 54), .v (j 55), .v (j 56), .v (j 57), .v (j 58), .v (j 59), .v (j 60), .v (j 61), .v (j 62), .v (j 63), .v (j 64), .v (j 65), .v (j 66), .v (j 67), .v (j 68), .v (j 69), .v (j 70), .v (j 71), .v (j 72), .v (j 73), .v (j 74), .v (j 75), .v (j 76), .v (j 77), .v (j 78), .v (j 79), .v (j 80), .v (j 81), .v (j 82), .v (j 83), .v (j 84), .v (j 85), .v (j 86), .v (j 87), .v (j 88), .v (j 89), .v (j 90), .v (j 91), .v (j 92), .v (j 93), .v (j 94), .v (j 95), .v (j 96), .v (j 97), .v (j 98), .v (j 99), .v (j 100), .v (j 101), .v (j 102), .v (j 103), .v (j 104), .v (j 105), .v (j 106), .v (j 107), .v (j 108), .v (j 109), .v (j 110), .v (j 111), .v (j 112), .v (j 113), .v (j 114), .v (j 115), .v (j 116), .v (j 117), .v (j 118), .v (j 119), .v (j 120), .v (j 121), .v (j 122), .v (j 123)] [] h

def f4_16 (w0 : World) (K : Value → AH → Prop) (x1 : Int) (x2 : Int) (x7 : Option Go.Addr) (a8 : Option Go.Addr) (n8 : Nat) (c8 : Nat) (x78 : Bool) (h : AH) : Prop :=
  ∀ j : Nat → Value, LPk Go.Proofs.Try.prog w0 (EvC Go.Proofs.Try.prog w0) f4_J 4 K 16 [.v (j 0), .v (.int .i64 x1), .v (.int .i64 x2), .v (j 3), .v (j 4), .v (j 5), .v (j 6), .v (.pointer x7), .v (.slice a8 n8 c8), .v (j 9), .v (j 10), .v (j 11), .v (j 12), .v (j 13), .v (j 14), .v (j 15), .v (j 16), .v (j 17), .v (j 18), .v (j 19), .v (j 20), .v (j 21), .v (j 22), .v (j 23), .v (j 24), .v (j 25), .v (j 26), .v (j 27), .v (j 28), .v (j 29), .v (j 30), .v (j 31), .v (j 32), .v (j 33), .v (j 34), .v (j 35), .v (j 36), .v (j 37), .v (j 38), .v (j 39), .v (j 40), .v (j 41), .v (j 42), .v (j 43), .v (j 44), .v (j 45), .v (j 46), .v (j 47), .v (j 48), .v (j 49), .v (j 50), .v (j 51), .v (j 52), .v (j 53), .v (j 54), .v (j 55), .v (j 56), .v (j 57), .v (j 58), .v (j 59), .v (j 60), .v (j 61), .v (j 62), .v (j 63), .v (j 64), .v (j 65), .v (j 66), .v (j 67), .v (j 68), .v (j 69), .v (j 70), .v (j 71), .v (j 72), .v (j 73), .v (j 74), .v (j 75), .v (j 76), .v (j 77), .v (.bool x78), .v (j 79), .v (j 80), .v (j 81), .v (j 82), .v (j 83), .v (j 84), .v (j 85), .v (j 86), .v (j 87), .v (j 88), .v (j 89), .v (j 90), .v (j 91), .v (j 92), .v (j 93), .v (j 94), .v (j 95), .v (j 96), .v (j 97), .v (j 98), .v (j 99), .v (j 100), .v (j 101), .v (j 102), .v (j 103), .v (j 104), .v (j 105), .v (j 106), .v (j 107), .v (j 108), .v (j 109), .v (j 110), .v (j 111), .v (j 112), .v (j 113), .v (j 114), .v (j 115), .v (j 116), .v (j 117), .v (j 118), .v (j 119), .v (j 120), .v (j 121), .v (j 122), .v (j 123)] [] h

def f4_17 (w0 : World) (K : Value → AH → Prop) (x1 : Int) (x2 : Int) (x7 : Option Go.Addr) (a8 : Option Go.Addr) (n8 : Nat) (c8 : Nat) (h : AH) : Prop :=
  ∀ j : Nat → Value, LPk Go.Proofs.Try.prog w0 (EvC Go.Proofs.Try.prog w0) f4_J 4 K 17 [.v (j 0), .v (.int .i64 x1), .v (.int .i64 x2), .v (j 3), .v (j 4), .v (j 5), .v (j 6), .v (.pointer x7), .v (.slice a8 n8 c8), .v (j 9), .v (j 10), .v (j 11), .v (j 12), .v (j 13), .v (j 14), .v (j 15), .v (j 16), .v (j 17), .v (j 18), .v (j 19), .v (j 20), .v (j 21), .v (j 22), .v (j 23), .v (j 24), .v (j 25), .v (j 26), .v (j 27), .v (j 28), .v (j 29), .v (j 30), .v (j 31), .v (j 32), .v (j 33), .v (j 34), .v (j 35), .v (j 36), .v (j 37), .v (j 38), .v (j 39), .v (j 40), .v (j 41), .v (j 42), .v (j 43), .v (j 44), .v (j 45), .v (j 46), .v (j 47), .v (j 48), .v (j 49), .v (j 50), .v (j 51), .v (j 52), .v (j 53), .v (j 54), .v (j 55), .v (j 56), .v (j 57), .v (j 58), .v (j 59), .v (j 60), .v (j 61), .v (j 62), .v (j 63), .v (j 64), .v (j 65), .v (j 66), .v (j 67), .v (j 68), .v (j 69), .v (j 70), .v (j 71), .v (j 72), .v (j 73), .v (j 74), .v (j 75), .v (j 76), .v (j 77), .v (j 78), .v (j 79), .v (j 80), .v (j 81), .v (j 82), .v (j 83), .v (j 84), .v (j 85), .v (j 86), .v (j 87), .v (j 88), .v (j 89), .v (j 90), .v (j 91), .v (j 92), .v (j 93), .v (j 94), .v (j 95), .v (j 96), .v (j 97), .v (j 98), .v (j 99), .v (j 100), .v (j 101), .v (j 102), .v (j 103), .v (j 104), .v (j 105), .v (j 106), .v (j 107), .v (j 108), .v (j 109), .v (j 110), .v (j 111), .v (j 112), .v (j 113), .v (j 114), .v (j 115), .v (j 116), .v (j 117), .v (j 118), .v (j 119), .v (j 120), .v (j 121), .v (j 122), .v (j 123)] [] h

def f4_18 (w0 : World) (K : Value → AH → Prop) (x1 : Int) (x2 : Int) (x7 : Option Go.Addr) (a8 : Option Go.Addr) (n8 : Nat) (c8 : Nat) (x98 : Bool) (h : AH) : Prop :=
  ∀ j : Nat → Value, LPk Go.Proofs.Try.prog w0 (EvC Go.Proofs.Try.prog w0) f4_J 4 K 18 [.v (j 0), .v (.int .i64 x1), .v (.int .i64 x2), .v (j 3), .v (j 4), .v (j 5), .v (j 6), .v (.pointer x7), .v (.slice a8 n8 c8), .v (j 9), .v (j 10), .v (j 11), .v (j 12), .v (j 13), .v (j 14), .v (j 15), .v (j 16), .v (j 17), .v (j 18), .v (j 19), .v (j 20), .v (j 21), .v (j 22), .v (j 23), .v (j 24), .v (j 25), .v (j 26), .v (j 27), .v (j 28), .v (j 29), .v (j 30), .v (j 31), .v (j 32), .v (j 33), .v (j 34), .v (j 35), .v (j 36), .v (j 37), .v (j 38), .v (j 39), .v (j 40), .v (j 41), .v (j 42), .v (j 43), .v (j 44), .v (j 45), .v (j 46), .v (j 47), .v (j 48), .v (j 49), .v (j 50), .v (j 51), .v (j 52), .v (j 53), .v (j 54), .v (j 55), .v (j 56), .v (j 57), .v (j 58), .v (j 59), .v (j 60), .v (j 61), .v (j 62), .v (j 63), .v (j 64), .v (j 65), .v (j 66), .v (j 67), .v (j 68), .v (j 69), .v (j 70), .v (j 71), .v (j 72), .v (j 73), .v (j 74), .v (j 75), .v (j 76), .v (j 77), .v (j 78), .v (j 79), .v (j 80), .v (j 81), .v (j 82), .v (j 83), .v (j 84), .v (j 85), .v (j 86), .v (j 87), .v (j 88), .v (j 89), .v (j 90), .v (j 91), .v (j 92), .v (j 93), .v (j 94), .v (j 95), .v (j 96), .v (j 97), .v (.bool x98), .v (j 99), .v (j 100), .v (j 101), .v (j 102), .v (j 103), .v (j 104), .v (j 105), .v (j 106), .v (j 107), .v (j 108), .v (j 109), .v (j 110), .v (j 111), .v (j 112), .v (j 113), .v (j 114), .v (j 115), .v (j 116), .v (j 117), .v (j 118), .v (j 119), .v (j 120), .v (j 121), .v (j 122), .v (j 123)] [] h

theorem f4_6_in {w0 : World} {K : Value → AH → Prop} (x1 : Int) (x2 : Int) (x7 : Option Go.Addr) (a8 : Option Go.Addr) (n8 : Nat) (c8 : Nat) (a21 : Option Go.Addr) (n21 : Nat) (c21 : Nat) (x22 : Int) (x23 : Int) (h : AH)
  (hv : (brB (decide ((x23 < x22))) (∃ a'6 : Go.Addr, ((a21 = (some a'6)) ∧ (((0 : Int) ≤ x23) ∧ ((x23 < ((n21 : Nat) : Int)) ∧ (∃ p'7 : Option Go.Addr, (∃ n'8 : Nat, (∃ n'9 : Nat, (((Go.G.cellA w0 h (Go.Addr.add a'6 ((Int.toNat x23) * 1))) = (some (Go.Value.slice p'7 n'8 n'9))) ∧ (brB (decide (((30 : Int) ≤ x23))) (f4_13 w0 K x1 x2 x7 a8 n8 c8 h) (brB (decide (((2000 : Int) < ((n'8 : Nat) : Int)))) (f4_13 w0 K x1 x2 x7 a8 n8 c8 h) (f4_9 w0 K x1 x2 x7 a8 n8 c8 p'7 n'8 n'9 a21 n21 c21 x22 x23 h))))))))))) (f4_13 w0 K x1 x2 x7 a8 n8 c8 h))) :
  f4_6 w0 K x1 x2 x7 a8 n8 c8 a21 n21 c21 x22 x23 h := fun j => LP_intro (P := Go.Proofs.Try.prog) (Eq.mp (by kernel_rfl) hv)

theorem f4_13_in {w0 : World} {K : Value → AH → Prop} (x1 : Int) (x2 : Int) (x7 : Option Go.Addr) (a8 : Option Go.Addr) (n8 : Nat) (c8 : Nat) (h : AH)
  (hv : (EvC Go.Proofs.Try.prog w0 21 #[(Go.Value.pointer x7), (Go.Value.string (ByteArray.mk #[(102 : UInt8)]))] (fun x'10 h'11 => (∃ p'12 : Option Go.Addr, (∃ n'13 : Nat, (∃ n'14 : Nat, (∃ i'15 : Int, ((x'10 = (Go.Value.tuple #[(Go.Value.slice p'12 n'13 n'14), (Go.Value.int .i64 i'15)])) ∧ (EvC Go.Proofs.Try.prog w0 22 #[(Go.Value.pointer x7), (Go.Value.string (ByteArray.mk #[(102 : UInt8)]))] (fun x'16 h'17 => (∃ i'18 : Int, (∃ i'19 : Int, ((x'16 = (Go.Value.tuple #[(Go.Value.int .i64 i'18), (Go.Value.int .i64 i'19)])) ∧ (brB (i'15 != (0 : Int)) (f4_16 w0 K x1 x2 x7 a8 n8 c8 true h'17) (brB (i'19 != (0 : Int)) (f4_16 w0 K x1 x2 x7 a8 n8 c8 true h'17) (rowsOf w0 h'17 1 p'12 n'13 (fun ys'20 => (∃ s'21 : ByteArray, ((ys'20 = (Go.G.intsOf s'21)) ∧ (rowsOf w0 h'17 1 a8 n8 (fun ys'22 => (∃ s'23 : ByteArray, ((ys'22 = (Go.G.intsOf s'23)) ∧ (brB (!(decide ((s'21 = s'23)))) (f4_16 w0 K x1 x2 x7 a8 n8 c8 true h'17) (brB (i'18 != ((n8 : Nat) : Int)) (f4_16 w0 K x1 x2 x7 a8 n8 c8 true h'17) (EvC Go.Proofs.Try.prog w0 18 #[(Go.Value.pointer x7)] (fun x'24 h'25 => (∃ i'26 : Int, ((x'24 = (Go.Value.int .i64 i'26)) ∧ (f4_16 w0 K x1 x2 x7 a8 n8 c8 (i'26 != ((n8 : Nat) : Int)) h'25)))) h'17))))))))))))))))) h'11))))))) h)) :
  f4_13 w0 K x1 x2 x7 a8 n8 c8 h := fun j => LP_intro (P := Go.Proofs.Try.prog) (Eq.mp (by kernel_rfl) hv)

theorem f4_9_in {w0 : World} {K : Value → AH → Prop} (x1 : Int) (x2 : Int) (x7 : Option Go.Addr) (a8 : Option Go.Addr) (n8 : Nat) (c8 : Nat) (a10 : Option Go.Addr) (n10 : Nat) (c10 : Nat) (a21 : Option Go.Addr) (n21 : Nat) (c21 : Nat) (x22 : Int) (x23 : Int) (h : AH)
  (hv : (EvC Go.Proofs.Try.prog w0 16 #[(Go.Value.pointer x7), (Go.Value.string (ByteArray.mk #[(102 : UInt8)])), (Go.Value.slice a10 n10 c10)] (fun x'27 h'28 => (∃ i'29 : Int, ((x'27 = (Go.Value.int .i64 i'29)) ∧ (brB (i'29 != (0 : Int)) (K (Go.Value.bool false) h'28) (rowsOf w0 h'28 1 a10 n10 (fun ys'30 => (App w0 h'28 1 1 a8 n8 c8 n10 ys'30 (fun a'31 c'32 h'33 => (f4_6 w0 K x1 x2 x7 a'31 (n8 + n10) c'32 a21 n21 c21 x22 (Go.IntKind.wrap .i64 (x23 + (1 : Int))) h'33))))))))) h)) :
  f4_9 w0 K x1 x2 x7 a8 n8 c8 a10 n10 c10 a21 n21 c21 x22 x23 h := fun j => LP_intro (P := Go.Proofs.Try.prog) (Eq.mp (by kernel_rfl) hv)

theorem f4_16_in {w0 : World} {K : Value → AH → Prop} (x1 : Int) (x2 : Int) (x7 : Option Go.Addr) (a8 : Option Go.Addr) (n8 : Nat) (c8 : Nat) (x78 : Bool) (h : AH)
  (hv : (brB x78 (K (Go.Value.bool false) h) (f4_17 w0 K x1 x2 x7 a8 n8 c8 h))) :
  f4_16 w0 K x1 x2 x7 a8 n8 c8 x78 h := fun j => LP_intro (P := Go.Proofs.Try.prog) (Eq.mp (by kernel_rfl) hv)

theorem f4_17_in {w0 : World} {K : Value → AH → Prop} (x1 : Int) (x2 : Int) (x7 : Option Go.Addr) (a8 : Option Go.Addr) (n8 : Nat) (c8 : Nat) (h : AH)
  (hv : (brB (decide ((x1 < (0 : Int)))) (f4_18 w0 K x1 x2 x7 a8 n8 c8 true h) (brB (decide ((x2 < (0 : Int)))) (f4_18 w0 K x1 x2 x7 a8 n8 c8 true h) (brB (decide ((((n8 : Nat) : Int) < x1))) (f4_18 w0 K x1 x2 x7 a8 n8 c8 true h) (f4_18 w0 K x1 x2 x7 a8 n8 c8 (decide (((Go.IntKind.wrap .i64 (((n8 : Nat) : Int) - x1)) < x2))) h))))) :
  f4_17 w0 K x1 x2 x7 a8 n8 c8 h := fun j => LP_intro (P := Go.Proofs.Try.prog) (Eq.mp (by kernel_rfl) hv)

theorem f4_18_in {w0 : World} {K : Value → AH → Prop} (x1 : Int) (x2 : Int) (x7 : Option Go.Addr) (a8 : Option Go.Addr) (n8 : Nat) (c8 : Nat) (x98 : Bool) (h : AH)
  (hv : (brB x98 (EvC Go.Proofs.Try.prog w0 20 #[] (fun x'34 h'35 => (∃ t'36 : Bool, ((x'34 = (Go.Value.bool t'36)) ∧ (K (Go.Value.bool t'36) h'35)))) h) (EvC Go.Proofs.Try.prog w0 23 #[(Go.Value.pointer x7), (Go.Value.string (ByteArray.mk #[(102 : UInt8)])), (Go.Value.int .i64 x1), (Go.Value.int .i64 x2)] (fun x'37 h'38 => (∃ p'39 : Option Go.Addr, (∃ n'40 : Nat, (∃ n'41 : Nat, (∃ i'42 : Int, ((x'37 = (Go.Value.tuple #[(Go.Value.slice p'39 n'40 n'41), (Go.Value.int .i64 i'42)])) ∧ (brB (i'42 == (0 : Int)) (((0 : Int) ≤ x1) ∧ ((x1 ≤ (Go.IntKind.wrap .i64 (x1 + x2))) ∧ (((Go.IntKind.wrap .i64 (x1 + x2)) ≤ ((c8 : Nat) : Int)) ∧ ((rowsOf w0 h'38 1 p'39 n'40 (fun ys'43 => (∃ s'44 : ByteArray, ((ys'43 = (Go.G.intsOf s'44)) ∧ (rowsOf w0 h'38 1 (Go.G.cutA 1 a8 c8 (Int.toNat x1)) ((Int.toNat (Go.IntKind.wrap .i64 (x1 + x2))) - (Int.toNat x1)) (fun ys'45 => (∃ s'46 : ByteArray, ((ys'45 = (Go.G.intsOf s'46)) ∧ (brB (decide ((s'44 = s'46))) (EvC Go.Proofs.Try.prog w0 20 #[] (fun x'47 h'48 => (∃ t'49 : Bool, ((x'47 = (Go.Value.bool t'49)) ∧ (K (Go.Value.bool t'49) h'48)))) h'38) (K (Go.Value.bool false) h'38)))))))))) ∧ (rowsOf w0 h'38 1 (Go.G.cutA 1 a8 c8 (Int.toNat x1)) ((Int.toNat (Go.IntKind.wrap .i64 (x1 + x2))) - (Int.toNat x1)) (fun ys'50 => (∃ s'51 : ByteArray, ((ys'50 = (Go.G.intsOf s'51)) ∧ (rowsOf w0 h'38 1 p'39 n'40 (fun ys'52 => (∃ s'53 : ByteArray, ((ys'52 = (Go.G.intsOf s'53)) ∧ (brB (decide ((s'53 = s'51))) (EvC Go.Proofs.Try.prog w0 20 #[] (fun x'54 h'55 => (∃ t'56 : Bool, ((x'54 = (Go.Value.bool t'56)) ∧ (K (Go.Value.bool t'56) h'55)))) h'38) (K (Go.Value.bool false) h'38)))))))))))))) ((K (Go.Value.bool false) h'38) ∧ (K (Go.Value.bool false) h'38))))))))) h))) :
  f4_18 w0 K x1 x2 x7 a8 n8 c8 x98 h := fun j => LP_intro (P := Go.Proofs.Try.prog) (Eq.mp (by kernel_rfl) hv)

theorem f4_go {w0 : World} {K : Value → AH → Prop} (a0 : Option Go.Addr) (n0 : Nat) (c0 : Nat) (x1 : Int) (x2 : Int) (h : AH)
  (hv : (EvC Go.Proofs.Try.prog w0 12 #[(Go.Value.int .i64 (1048576 : Int))] (fun x'0 h'1 => (∃ p'2 : Option Go.Addr, ((x'0 = (Go.Value.pointer p'2)) ∧ (EvC Go.Proofs.Try.prog w0 14 #[(Go.Value.pointer p'2), (Go.Value.string (ByteArray.mk #[(102 : UInt8)]))] (fun x'3 h'4 => (∃ i'5 : Int, ((x'3 = (Go.Value.int .i64 i'5)) ∧ (brB (i'5 != (0 : Int)) (K (Go.Value.bool false) h'4) (f4_6 w0 K x1 x2 p'2 none 0 0 a0 n0 c0 ((n0 : Nat) : Int) (0 : Int) h'4))))) h'1)))) h)) :
  EvC Go.Proofs.Try.prog w0 4 ([(.slice a0 n0 c0), (.int .i64 x1), (.int .i64 x2)]).toArray K h := EvC_intro (P := Go.Proofs.Try.prog) f4_J (Eq.mp (by kernel_rfl) hv)
def nF : ByteArray := ⟨#[102]⟩
/-- The disk of one file. -/
def sQ (all : List UInt8) (c : Int) : Ds := ⟨1048576, [⟨all, 0⟩], [(nF, 0)], [[], [(nF, 0)]], c, 0, 0, 0, false⟩
theorem create_Q : createS nF (newS 1048576) = (0, sQ [] 1) := by kernel_rfl
theorem call_Q (all : List UInt8) (c : Int) : callS (sQ all c) = (0, false, sQ all (c + 1)) := rfl
theorem find_Q (all : List UInt8) (c : Int) : findD nF (sQ all c).dir = some 0 := by kernel_rfl
theorem used_Q (all : List UInt8) (c : Int) : usedS (sQ all c) = all.length := by simp [usedS, sQ, lenAt]
theorem append_Q {all p : List UInt8} {c : Int} (h1 : all.length ≤ 100000) (h2 : p.length ≤ 2000) : appendS nF p (sQ all c) = (0, sQ (all ++ p) (c + 1)) := by
  unfold appendS
  rw [call_Q]
  dsimp only
  rw [find_Q, used_Q, if_neg (by decide)]
  have hl : lenAt (sQ all (c + 1)).fs 0 = all.length := by simp [sQ, lenAt]
  dsimp only
  rw [hl, if_neg]
  · rfl
  · have hr : (sQ all (c + 1)).room = 1048576 := rfl
    rw [hr, wrap64 (by omega) (by omega), wrap64 (by omega) (by omega)]
    omega
theorem read_Q (all : List UInt8) (c : Int) : readS nF (sQ all c) = (0, all) := by
  have : lookS nF (sQ all c) = (0, some 0) := by
    unfold lookS
    rw [if_neg (show ¬ (sQ all c).off = true from Bool.false_ne_true), find_Q]
  unfold readS
  rw [this]
  rfl
theorem readAt_Q {all : List UInt8} {c : Int} {x y : Nat} (h : x + y ≤ all.length) : readAtS nF (x : Int) (y : Int) (sQ all c) = (0, (all.drop x).take y) := by
  unfold readAtS
  rw [read_Q, if_neg (by simp), if_neg (by omega), if_neg]
  · simp
  · dsimp only; omega

/-- DiskPieces. -/
theorem f4_spec {w0 : World} {K : Value → AH → Prop} {a0 : Option Addr} {n0 c0 : Nat} {l : List Bs} {x1 x2 : Int} (b : BSS w0 a0 n0 c0 l) (h1 : x1 ≤ 9223372036854775807 ∧ -9223372036854775808 ≤ x1) (h2 : x2 ≤ 9223372036854775807) (hk : ∀ h, K (.bool true) h) :
    EvC Go.Proofs.Try.prog w0 4 #[.slice a0 n0 c0, .int .i64 x1, .int .i64 x2] K (fun _ => none) := by
  obtain ⟨blen, ble, bsm, brd, bok⟩ := b
  have twenty : ∀ h B, Own w0 h B → EvC Go.Proofs.Try.prog w0 20 #[] (fun x'18 h'19 => (∃ t'20 : Bool, ((x'18 = (.bool t'20)) ∧ (K (.bool t'20) h'19)))) h := fun h B w => f20_spec w fun h' _ => ⟨_, rfl, hk h'⟩
  refine f4_go _ _ _ _ _ _ (f12_spec (by omega) Own.nil fun h1' D r1 w1 => ⟨_, rfl, f14_spec (n := nF) r1 w1 (by decide) fun h2' D2 hD2 r2 w2 => ⟨_, rfl, ?_⟩⟩)
  rw [create_Q] at r2 w2 ⊢
  refine brB_of (fun q => by cases q) fun _ => ?_
  rw [← hD2]
  clear r1 w1 hD2 D
  -- behind the pieces
  have fin : ∀ (all : List UInt8) (c : Int) (D : PD) (a8 : Option Addr) (c8 : Nat) (h : AH), all.length ≤ 100000 → c ≤ 100 → PRep (sQ all c) D → SlV 1 a8 all.length c8 (u8s all) → Own w0 h (D.blocks (sQ all c) ++ (slB a8 (u8s all) (c8 * 1) ++ [])) →
      f4_13 w0 K x1 x2 (some ⟨D.bd, 0, none⟩) a8 all.length c8 h := fun all c D a8 c8 h hal hc r v w => by
    refine f4_13_in _ _ _ _ _ _ _ (f21_spec (n := nF) r w fun h3 a3 c3 v3 w3 => ?_)
    rw [read_Q] at v3 w3 ⊢
    refine ⟨_, _, _, _, rfl, f22_spec (B := slB a8 (u8s all) (c8 * 1) ++ slB a3 (u8s all) (c3 * 1)) (n := nF) r (by
      have := w3.swap
      simpa only [List.append_assoc, List.append_nil] using this) ?_⟩
    rw [read_Q]
    have rd3 : Rd w0 h3 a3 (u8s all) := v3.rd (cs := []) w3
    have rd8 : Rd w0 h3 a8 (u8s all) := v.rd (cs := slB a3 (u8s all) (c3 * 1) ++ D.blocks (sQ all c)) (bs := []) (by simpa only [List.append_assoc] using w3)
    refine ⟨_, _, rfl, brB_of (fun q => by cases q) fun _ => brB_of (fun q => by cases q) fun _ => rows8 rd3 rfl (rows8 rd8 rfl (brB_of (fun q => by simp at q) fun _ => brB_of (fun q => by simp at q) fun _ => ?_))⟩
    refine f18_spec r w3.drop (by show c < 2000000000; omega) fun h4 w4 => ⟨_, rfl, ?_⟩
    rw [used_Q]
    have eighteen : ∀ x, x = decide (x1 < 0 ∨ x2 < 0 ∨ (all.length : Int) < x1 ∨ (all.length : Int) - x1 < x2) → f4_18 w0 K x1 x2 (some ⟨D.bd, 0, none⟩) a8 all.length c8 x h4 := fun x hx => by
      refine f4_18_in _ _ _ _ _ _ _ _ (brB_of (fun _ => twenty h4 _ w4) fun q => ?_)
      rw [q] at hx
      have hn : ¬ (x1 < 0 ∨ x2 < 0 ∨ (all.length : Int) < x1 ∨ (all.length : Int) - x1 < x2) := of_decide_eq_false hx.symm
      obtain ⟨x, rfl⟩ : ∃ x : Nat, x1 = (x : Int) := ⟨x1.toNat, by omega⟩
      obtain ⟨y, rfl⟩ : ∃ y : Nat, x2 = (y : Int) := ⟨x2.toNat, by omega⟩
      have hxy : x + y ≤ all.length := by omega
      refine f23_spec (n := nF) r w4 (by omega) (by omega) fun h5 a5 c5 v5 w5 => ?_
      rw [readAt_Q hxy] at v5 w5 ⊢
      have hlen : ((all.drop x).take y).length = y := by rw [List.length_take, List.length_drop]; omega
      have e1 : IntKind.i64.wrap (((x : Nat) : Int) + ((y : Nat) : Int)) = ((x + y : Nat) : Int) := by rw [wrap64 (by omega) (by omega)]; omega
      have rd5 : Rd w0 h5 a5 (u8s ((all.drop x).take y)) := v5.rd (cs := []) w5
      have rd8' : Rd w0 h5 a8 (u8s all) := v.rd (cs := slB a5 (u8s ((all.drop x).take y)) (c5 * 1) ++ D.blocks (sQ all c)) (bs := []) (by simpa only [List.append_assoc] using w5)
      have hcap := v.2.1
      have rdc : Rd w0 h5 (cutA 1 a8 c8 x) (u8s ((all.drop x).take y)) := by
        have e3 : u8s all = u8s (all.take x) ++ u8s (all.drop x) := by unfold u8s; rw [← List.map_append, List.take_append_drop]
        rw [e3] at rd8'
        have := rd8'.cut (c := c8) (k := x) (e := 1) (by rw [u8s_length, List.length_take]; omega) (fun hne e => by
          have : x = all.length := by omega
          rw [this, List.drop_length] at hne
          exact hne rfl)
        have e4 : u8s (all.drop x) = u8s ((all.drop x).take y) ++ u8s ((all.drop x).drop y) := by unfold u8s; rw [← List.map_append, List.take_append_drop]
        rw [e4] at this
        exact this.front
      refine ⟨_, _, _, _, rfl, brB_of (fun _ => ?_) fun q => by cases q⟩
      rw [e1]
      simp only [Int.toNat_natCast]
      rw [show x + y - x = y by omega]
      exact ⟨by omega, by omega, by omega, rows8 rd5 rfl (rows8 rdc hlen.symm (brB_of (fun _ => twenty h5 _ w5) fun q => by simp at q)), rows8 rdc hlen.symm (rows8 rd5 rfl (brB_of (fun _ => twenty h5 _ w5) fun q => by simp at q))⟩
    refine f4_16_in _ _ _ _ _ _ _ _ (brB_of (fun q => by simp at q) fun _ => f4_17_in _ _ _ _ _ _ _ (brB_of (fun q => eighteen _ ?_) fun q1 => brB_of (fun q => eighteen _ ?_) fun q2 => brB_of (fun q => eighteen _ ?_) fun q3 => eighteen _ ?_))
    · simp at q; simp [q]
    · simp at q; simp [q]
    · simp at q; simp [q]
    · simp at q1 q2 q3
      rw [wrap64 (by omega) (by omega), decide_eq_decide]
      omega
  have loop : ∀ (k i : Nat) (all : List UInt8) (D : PD) (a8 : Option Addr) (c8 : Nat) (h : AH), i + k = n0 → i ≤ 30 → all.length ≤ i * 2000 → PRep (sQ all (1 + i)) D → SlV 1 a8 all.length c8 (u8s all) → Own w0 h (D.blocks (sQ all (1 + i)) ++ (slB a8 (u8s all) (c8 * 1) ++ [])) →
      f4_6 w0 K x1 x2 (some ⟨D.bd, 0, none⟩) a8 all.length c8 a0 n0 c0 ((n0 : Nat) : Int) ((i : Nat) : Int) h := by
    intro k
    induction k with
    | zero =>
      intro i all D a8 c8 h hi h30 hal r v w
      exact f4_6_in _ _ _ _ _ _ _ _ _ _ _ _ (brB_of (fun q => by simp at q; omega) fun _ => fin all (1 + i) D a8 c8 h (by omega) (by omega) r v w)
    | succ k ih =>
      intro i all D a8 c8 h hi h30 hal r v w
      have hil : i < l.length := by omega
      have hget := List.getElem?_eq_getElem hil
      have pok := bok _ (List.getElem_mem hil)
      generalize l[i] = p at hget pok
      obtain ⟨ad, rfl, hcell⟩ := brd.rd h i p.val (by rw [List.getElem?_map, hget]; rfl)
      refine f4_6_in _ _ _ _ _ _ _ _ _ _ _ _ (brB_of (fun _ => ⟨_, rfl, by omega, by omega, p.a, p.l.length, p.c, ?_, brB_of (fun _ => fin all (1 + i) D a8 c8 h (by omega) (by omega) r v w) fun q => brB_of (fun _ => fin all (1 + i) D a8 c8 h (by omega) (by omega) r v w) fun q2 => ?_⟩) fun q => by simp at q; omega)
      · rw [Int.toNat_natCast, Nat.mul_one]; exact hcell
      simp at q q2
      refine f4_9_in _ _ _ _ _ _ _ _ _ _ _ _ _ _ _ (f16_spec (n := nF) r w (by show (1 + (i : Int)) < 1000000000; omega) (fun h' _ => pok.rd.rd h') (by have := pok.sm; omega) fun h3 D3 hD3 r3 w3 => ⟨_, rfl, ?_⟩)
      rw [append_Q (by omega) (by omega)] at r3 w3 ⊢
      have wsz : ((all ++ p.l).length : Nat) = all.length + p.l.length := by simp
      refine brB_of (fun z => by cases z) fun _ => rowsOf_of (pok.rd.rd h3) (by rw [u8s_length, Nat.mul_one]) (App_mid v w3 (by omega) (by omega) (by rw [u8s_length, Nat.mul_one]) (u8s_cell _) fun a4 c4 h4 v4 w4 => ?_)
      rw [wrapS (by omega), ← hD3]
      have hdat : u8s all ++ u8s p.l = u8s (all ++ p.l) := by simp [u8s]
      rw [hdat] at v4 w4
      have ec : (1 + (i : Int) + 1) = 1 + ((i + 1 : Nat) : Int) := by omega
      rw [ec] at r3 w4
      rw [← wsz] at v4 ⊢
      exact ih (i + 1) (all ++ p.l) D3 a4 c4 h4 (by omega) (by omega) (by rw [wsz]; omega) r3 v4 w4
  exact loop n0 0 [] D2 none 0 h2' (by omega) (by omega) (by simp) r2 SlV.nil w2
end Go.G.Ytpjklfmfgmicaaa
