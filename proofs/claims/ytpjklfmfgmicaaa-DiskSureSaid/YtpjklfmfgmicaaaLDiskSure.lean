/- DiskSure by the evaluator. -/
import Derived.Test.YtpjklfmfgmicaaaDSu
import Derived.Test.YtpjklfmfgmicaaaDCp
import Derived.Test.YtpjklfmfgmicaaaProg
set_option maxRecDepth 100000
namespace Go.G.Ytpjklfmfgmicaaa
open Go.RowKit
def f9_J : Nat → List Nat × Nat := jOf [(3, [3, 4, 5, 6, 9, 10, 11, 12, 13, 14, 15, 16, 17, 18, 19, 20, 21, 22, 23, 24, 25, 26, 27, 28, 29, 30, 31, 32, 33, 34, 35, 36, 37, 38, 39, 40, 41, 42, 43, 44, 45, 46, 47, 48, 49, 50, 51, 52, 53, 54, 55, 56, 57, 58, 59, 60, 61, 62, 63, 64, 65, 66, 67, 68, 69, 70, 71, 72, 73, 74, 75, 76, 77, 78, 79, 80, 81, 82, 83, 84, 85, 86, 87, 88, 89, 90, 91, 92, 93, 94, 95, 96, 97, 98, 99, 100, 101, 102, 103, 104, 105, 106, 107, 108, 109, 110, 111, 112, 113, 114, 115, 116, 117, 118, 119, 120, 121, 122, 123, 124, 125, 126, 127, 128, 129, 130, 131, 132, 133, 134, 135, 136, 137, 138, 139, 140, 141, 142, 143, 144, 145, 146, 147, 148, 149, 150, 151, 152, 153, 154, 155], 0), (5, [3, 4, 5, 6, 9, 10, 11, 12, 13, 14, 15, 16, 17, 18, 19, 20, 21, 22, 23, 24, 25, 26, 27, 28, 29, 30, 31, 32, 33, 34, 35, 36, 37, 38, 39, 40, 41, 42, 43, 44, 45, 46, 47, 48, 49, 50, 51, 52, 53, 54, 55, 56, 57, 58, 59, 60, 61, 62, 63, 64, 65, 66, 67, 68, 69, 70, 71, 72, 73, 74, 75, 76, 77, 78, 79, 80, 81, 82, 83, 84, 85, 86, 87, 88, 89, 90, 91, 92, 93, 94, 95, 96, 97, 98, 99, 100, 101, 102, 103, 104, 105, 106, 107, 108, 109, 110, 111, 112, 113, 114, 115, 116, 117, 118, 119, 120, 121, 122, 123, 124, 125, 126, 127, 128, 129, 130, 131, 132, 133, 134, 135, 136, 137, 138, 139, 140, 141, 142, 143, 144, 145, 146, 147, 148, 149, 150, 151, 152, 153, 154, 155], 0), (7, [0, 3, 4, 5, 6, 8, 9, 10, 11, 12, 13, 14, 15, 16, 17, 18, 19, 20, 21, 22, 23, 24, 25, 26, 27, 28, 29, 30, 31, 32, 33, 34, 35, 36, 37, 38, 39, 40, 41, 42, 43, 44, 45, 46, 47, 48, 49, 50, 51, 52, 53, 54, 55, 56, 57, 58, 59, 60, 61, 62, 63, 64, 65, 66, 67, 68, 69, 70, 71, 72, 73, 74, 75, 76, 77, 78, 79, 80, 81, 82, 83, 84, 85, 86, 87, 88, 89, 90, 91, 92, 93, 94, 95, 96, 97, 98, 99, 100, 101, 102, 103, 104, 105, 106, 107, 108, 109, 110, 111, 112, 113, 114, 115, 116, 117, 118, 119, 120, 121, 122, 123, 124, 125, 126, 127, 128, 129, 130, 131, 132, 133, 134, 135, 136, 137, 138, 139, 140, 141, 142, 143, 144, 145, 146, 147, 148, 149, 150, 151, 152, 153, 154, 155], 0), (6, [3, 4, 5, 6, 9, 10, 11, 12, 13, 14, 15, 16, 17, 18, 19, 20, 21, 22, 23, 24, 25, 26, 27, 28, 29, 30, 31, 32, 33, 34, 35, 36, 37, 38, 39, 40, 41, 42, 43, 44, 45, 46, 47, 48, 49, 50, 51, 52, 54, 55, 56, 57, 58, 59, 60, 61, 62, 63, 64, 65, 66, 67, 68, 69, 70, 71, 72, 73, 74, 75, 76, 77, 78, 79, 80, 81, 82, 83, 84, 85, 86, 87, 88, 89, 90, 91, 92, 93, 94, 95, 96, 97, 98, 99, 100, 101, 102, 103, 104, 105, 106, 107, 108, 109, 110, 111, 112, 113, 114, 115, 116, 117, 118, 119, 120, 121, 122, 123, 124, 125, 126, 127, 128, 129, 130, 131, 132, 133, 134, 135, 136, 137, 138, 139, 140, 141, 142, 143, 144, 145, 146, 147, 148, 149, 150, 151, 152, 153, 154, 155], 0), (9, [0, 3, 4, 5, 6, 8, 10, 11, 12, 13, 14, 15, 16, 17, 18, 19, 20, 21, 22, 23, 24, 25, 26, 27, 28, 29, 30, 31, 32, 33, 34, 35, 36, 37, 38, 39, 40, 41, 42, 43, 44, 45, 46, 47, 48, 49, 50, 51, 52, 53, 54, 55, 56, 57, 58, 59, 60, 61, 62, 66, 67, 68, 69, 70, 71, 72, 73, 74, 75, 76, 77, 78, 79, 80, 81, 82, 83, 84, 85, 86, 87, 88, 89, 90, 91, 92, 93, 94, 95, 96, 97, 98, 99, 100, 101, 102, 103, 104, 105, 106, 107, 108, 109, 110, 111, 112, 113, 114, 115, 116, 117, 118, 119, 120, 121, 122, 123, 124, 125, 126, 127, 128, 129, 130, 131, 132, 133, 134, 135, 136, 137, 138, 139, 140, 141, 142, 143, 144, 145, 146, 147, 148, 149, 150, 151, 152, 153, 154, 155], 0), (19, [0, 3, 4, 5, 6, 8, 10, 11, 13, 14, 15, 16, 17, 18, 19, 20, 21, 22, 23, 24, 25, 26, 27, 28, 29, 30, 31, 32, 33, 34, 35, 36, 37, 38, 39, 40, 41, 42, 43, 44, 45, 46, 47, 48, 49, 50, 51, 52, 53, 54, 55, 56, 57, 58, 59, 60, 61, 62, 63, 64, 65, 66, 67, 68, 69, 70, 71, 72, 73, 74, 75, 76, 77, 78, 79, 80, 81, 82, 83, 84, 85, 86, 87, 88, 89, 90, 91, 92, 93, 95, 96, 97, 98, 99, 100, 101, 102, 103, 104, 105, 106, 107, 108, 109, 110, 111, 112, 113, 114, 115, 116, 117, 118, 119, 120, 121, 122, 123, 124, 125, 126, 127, 128, 129, 130, 131, 132, 133, 134, 135, 136, 137, 138, 139, 140, 141, 142, 143, 144, 145, 146, 147, 148, 149, 150, 151, 152, 153, 154, 155], 0), (20, [0, 3, 4, 5, 6, 8, 10, 11, 13, 14, 15, 16, 17, 18, 19, 20, 21, 22, 23, 24, 25, 26, 27, 28, 29, 30, 31, 32, 33, 34, 35, 36, 37, 38, 39, 40, 41, 42, 43, 44, 45, 46, 47, 48, 49, 50, 51, 52, 53, 54, 55, 56, 57, 58, 59, 60, 61, 62, 63, 64, 65, 66, 67, 68, 69, 70, 71, 72, 73, 74, 75, 76, 77, 78, 79, 80, 81, 82, 83, 84, 85, 86, 87, 88, 89, 90, 91, 92, 93, 94, 95, 96, 97, 98, 99, 100, 101, 102, 103, 104, 105, 106, 107, 108, 109, 110, 111, 112, 113, 114, 115, 116, 117, 118, 119, 120, 121, 122, 123, 124, 125, 126, 127, 128, 129, 130, 131, 132, 133, 134, 135, 136, 137, 138, 139, 140, 141, 142, 143, 144, 145, 146, 147, 148, 149, 150, 151, 152, 153, 154, 155], 0), (21, [0, 3, 4, 5, 6, 8, 10, 11, 13, 14, 15, 16, 17, 18, 19, 20, 21, 22, 23, 24, 25, 26, 27, 28, 29, 30, 31, 32, 33, 34, 35, 36, 37, 38, 39, 40, 41, 42, 43, 44, 45, 46, 47, 48, 49, 50, 51, 52, 53, 54, 55, 56, 57, 58, 59, 60, 61, 62, 63, 64, 65, 66, 67, 68, 69, 70, 71, 72, 73, 74, 75, 76, 77, 78, 79, 80, 81, 82, 83, 84, 85, 86, 87, 88, 89, 90, 91, 92, 93, 94, 95, 99, 100, 101, 102, 103, 104, 105, 106, 107, 108, 109, 110, 111, 112, 113, 114, 115, 116, 117, 118, 119, 120, 121, 122, 123, 124, 125, 126, 127, 128, 129, 130, 131, 132, 133, 134, 135, 136, 137, 138, 139, 140, 141, 142, 143, 144, 145, 146, 147, 148, 149, 150, 151, 152, 153, 154, 155], 0), (26, [0, 3, 4, 5, 6, 8, 10, 11, 13, 14, 15, 16, 17, 18, 19, 20, 21, 22, 23, 24, 25, 26, 27, 28, 29, 30, 31, 32, 33, 34, 35, 36, 37, 38, 39, 40, 41, 42, 43, 44, 45, 46, 47, 48, 49, 50, 51, 52, 53, 54, 55, 56, 57, 58, 59, 60, 61, 62, 63, 64, 65, 66, 67, 68, 69, 70, 71, 72, 73, 74, 75, 76, 77, 78, 79, 80, 81, 82, 83, 84, 85, 86, 87, 88, 89, 90, 91, 92, 93, 94, 95, 99, 100, 101, 102, 103, 104, 105, 106, 107, 108, 109, 110, 111, 112, 113, 114, 115, 116, 117, 118, 119, 120, 121, 122, 123, 124, 125, 127, 128, 129, 130, 131, 132, 133, 134, 135, 136, 137, 138, 139, 140, 141, 142, 143, 144, 145, 146, 147, 148, 149, 150, 151, 152, 153, 154, 155], 0)]

def f9_3 (w0 : World) (K : Value → AH → Prop) (a0 : Option Go.Addr) (n0 : Nat) (c0 : Nat) (a1 : Option Go.Addr) (n1 : Nat) (c1 : Nat) (a2 : Option Go.Addr) (n2 : Nat) (c2 : Nat) (x7 : Option Go.Addr) (x8 : Int) (h : AH) : Prop :=
  ∀ j : Nat → Value, LPk Go.Proofs.Try.prog w0 (EvC Go.Proofs.Try.prog w0) f9_J 9 K 3 [.v (.slice a0 n0 c0), .v (.slice a1 n1 c1), .v (.slice a2 n2 c2), .v (j 3), .v (j 4), .v (j 5), .v (j 6), .v (.pointer x7), .v (.int .i64 x8), .v (j 9), .v (j 10), .v (j 11), .v (j 12), .v (j 13), .v (j 14), .v (j 15), .v (j 16), .v (j 17), .v (j 18), .v (j 19), .v (j 20), .v (j 21), .v (j 22), .v (j 23), .v (j 24), .v (j 25), .v (j 26), .v (j 27), .v (j 28), .v (j 29), .v (j 30), .v (j 31), .v (j 32), .v (j 33), .v (j 34), .v (j 35), .v (j 36), .v (j 37), .v (j 38), .v (j 39), .v (j 40), .v (j 41), .v (j 42), .v (j 43), .v (j 44), .v (j 45), .v (j 46), .v (j 47), .v (j 48), .v (j 49), .v (j 50), .v (j 51), .v (j 52), .v (j 53), .v (j 54), .v (j 55), .v (j 56), .v (j 57), .v (j 58), .v (j 59), .v (j 60), .v (j 61), .v (j 62), .v (j 63), .v (j 64), .v (j 65), .v (j 66), .v (j 67), .v (j 68), .v (j 69), .v (j 70), .v (j 71), .v (j 72), .v (j 73), .v (j 74), .v (j 75), .v (j 76), .v (j 77), .v (j 78), .v (j 79), .v (j 80), .v (j 81), .v (j 82), .v (j 83), .v (j 84), .v (j 85), .v (j 86), .v (j 87), .v (j 88), .v (j 89), .v (j 90), .v (j 91), .v (j 92), .v (j 93), .v (j 94), .v (j 95), .v (j 96), .v (j 97), .v (j 98), .v (j 99), .v (j 100), .v (j 101), .v (j 102), .v (j 103), .v (j 104), .v (j 105), .v (j 106), .v (j 107), .v (j 108), .v (j 109), .v (j 110), .v (j 111), .v (j 112), .v (j 113), .v (j 114), .v (j 115), .v (j 116), .v (j 117), .v (j 118), .v (j 119), .v (j 120), .v (j 121), .v (j 122), .v (j 123), .v (j 124), .v (j 125), .v (j 126), .v (j 127), .v (j 128), .v (j 129), .v (j 130), .v (j 131), .v (j 132), .v (j 133), .v (j 134), .v (j 135), .v (j 136), .v (j 137), .v (j 138), .v (j 139), .v (j 140), .v (j 141), .v (j 142), .v (j 143), .v (j 144), .v (j 145), .v (j 146), .v (j 147), .v (j 148), .v (j 149), .v (j 150), .v (j 151), .v (j 152), .v (j 153), .v (j 154), .v (j 155)] [] h

def f9_5 (w0 : World) (K : Value → AH → Prop) (a0 : Option Go.Addr) (n0 : Nat) (c0 : Nat) (a1 : Option Go.Addr) (n1 : Nat) (c1 : Nat) (a2 : Option Go.Addr) (n2 : Nat) (c2 : Nat) (x7 : Option Go.Addr) (x8 : Int) (h : AH) : Prop :=
  ∀ j : Nat → Value, LPk Go.Proofs.Try.prog w0 (EvC Go.Proofs.Try.prog w0) f9_J 9 K 5 [.v (.slice a0 n0 c0), .v (.slice a1 n1 c1), .v (.slice a2 n2 c2), .v (j 3), .v (j 4), .v (j 5), .v (j 6), .v (.pointer x7), .v (.int .i64 x8), .v (j 9), .v (j 10), .v (j 11), .v (j 12), .v (j 13), .v (j 14), .v (j 15), .v (j 16), .v (j 17), .v (j 18), .v (j 19), .v (j 20), .v (j 21), .v (j 22), .v (j 23), .v (j 24), .v (j 25), .v (j 26), .v (j 27), .v (j 28), .v (j 29), .v (j 30), .v (j 31), .v (j 32), .v (j 33), .v (j 34), .v (j 35), .v (j 36), .v (j 37), .v (j 38), .v (j 39), .v (j 40), .v (j 41), .v (j 42), .v (j 43), .v (j 44), .v (j 45), .v (j 46), .v (j 47), .v (j 48), .v (j 49), .v (j 50), .v (j 51), .v (j 52), .v (j 53), .v (j 54), .v (j 55), .v (j 56), .v (j 57), .v (j 58), .v (j 59), .v (j 60), .v (j 61), .v (j 62), .v (j 63), .v (j 64), .v (j 65), .v (j 66), .v (j 67), .v (j 68), .v (j 69), .v (j 70), .v (j 71), .v (j 72), .v (j 73), .v (j 74), .v (j 75), .v (j 76), .v (j 77), .v (j 78), .v (j 79), .v (j 80), .v (j 81), .v (j 82), .v (j 83), .v (j 84), .v (j 85), .v (j 86), .v (j 87), .v (j 88), .v (j 89), .v (j 90), .v (j 91), .v (j 92), .v (j 93), .v (j 94), .v (j 95), .v (j 96), .v (j 97), .v (j 98), .v (j 99), .v (j 100), .v (j 101), .v (j 102), .v (j 103), .v (j 104), .v (j 105), .v (j 106), .v (j 107), .v (j 108), .v (j 109), .v (j 110), .v (j 111), .v (j 112), .v (j 113), .v (j 114), .v (j 115), .v (j 116), .v (j 117), .v (j 118), .v (j 119), .v (j 120), .v (j 121), .v (j 122), .v (j 123), .v (j 124), .v (j 125), .v (j 126), .v (j 127), .v (j 128), .v (j 129), .v (j 130), .v (j 131), .v (j 132), .v (j 133), .v (j 134), .v (j 135), .v (j 136), .v (j 137), .v (j 138), .v (j 139), .v (j 140), .v (j 141), .v (j 142), .v (j 143), .v (j 144), .v (j 145), .v (j 146), .v (j 147), .v (j 148), .v (j 149), .v (j 150), .v (j 151), .v (j 152), .v (j 153), .v (j 154), .v (j 155)] [] h

def f9_7 (w0 : World) (K : Value → AH → Prop) (a1 : Option Go.Addr) (n1 : Nat) (c1 : Nat) (a2 : Option Go.Addr) (n2 : Nat) (c2 : Nat) (x7 : Option Go.Addr) (h : AH) : Prop :=
  ∀ j : Nat → Value, LPk Go.Proofs.Try.prog w0 (EvC Go.Proofs.Try.prog w0) f9_J 9 K 7 [.v (j 0), .v (.slice a1 n1 c1), .v (.slice a2 n2 c2), .v (j 3), .v (j 4), .v (j 5), .v (j 6), .v (.pointer x7), .v (j 8), .v (j 9), .v (j 10), .v (j 11), .v (j 12), .v (j 13), .v (j 14), .v (j 15), .v (j 16), .v (j 17), .v (j 18), .v (j 19), .v (j 20), .v (j 21), .v (j 22), .v (j 23), .v (j 24), .v (j 25), .v (j 26), .v (j 27), .v (j 28), .v (j 29), .v (j 30), .v (j 31), .v (j 32), .v (j 33), .v (j 34), .v (j 35), .v (j 36), .v (j 37), .v (j 38), .v (j 39), .v (j 40), .v (j 41), .v (j 42), .v (j 43), .v (j 44), .v (j 45), .v (j 46), .v (j 47), .v (j 48), .v (j 49), .v (j 50), .v (j 51), .v (j 52), .v (j 53), .v (j 54), .v (j 55), .v (j 56), .v (j 57), .v (j 58), .v (j 59), .v (j 60), .v (j 61), .v (j 62), .v (j 63), .v (j 64), .v (j 65), .v (j 66), .v (j 67), .v (j 68), .v (j 69), .v (j 70), .v (j 71), .v (j 72), .v (j 73), .v (j 74), .v (j 75), .v (j 76), .v (j 77), .v (j 78), .v (j 79), .v (j 80), .v (j 81), .v (j 82), .v (j 83), .v (j 84), .v (j 85), .v (j 86), .v (j 87), .v (j 88), .v (j 89), .v (j 90), .v (j 91), .v (j 92), .v (j 93), .v (j 94), .v (j 95), .v (j 96), .v (j 97), .v (j 98), .v (j 99), .v (j 100), .v (j 101), .v (j 102), .v (j 103), .v (j 104), .v (j 105), .v (j 106), .v (j 107), .v (j 108), .v (j 109), .v (j 110), .v (j 111), .v (j 112), .v (j 113), .v (j 114), .v (j 115), .v (j 116), .v (j 117), .v (j 118), .v (j 119), .v (j 120), .v (j 121), .v (j 122), .v (j 123), .v (j 124), .v (j 125), .v (j 126), .v (j 127), .v (j 128), .v (j 129), .v (j 130), .v (j 131), .v (j 132), .v (j 133), .v (j 134), .v (j 135), .v (j 136), .v (j 137), .v (j 138), .v (j 139), .v (j 140), .v (j 141), .v (j 142), .v (j 143), .v (j 144), .v (j 145), .v (j 146), .v (j 147), .v (j 148), .v (j 149), .v (j 150), .v (j 151), .v (j 152), .v (j 153), .v (j 154), .v (j 155)] [] h

def f9_6 (w0 : World) (K : Value → AH → Prop) (a0 : Option Go.Addr) (n0 : Nat) (c0 : Nat) (a1 : Option Go.Addr) (n1 : Nat) (c1 : Nat) (a2 : Option Go.Addr) (n2 : Nat) (c2 : Nat) (x7 : Option Go.Addr) (x8 : Int) (x53 : Bool) (h : AH) : Prop :=
  ∀ j : Nat → Value, LPk Go.Proofs.Try.prog w0 (EvC Go.Proofs.Try.prog w0) f9_J 9 K 6 [.v (.slice a0 n0 c0), .v (.slice a1 n1 c1), .v (.slice a2 n2 c2), .v (j 3), .v (j 4), .v (j 5), .v (j 6), .v (.pointer x7), .v (.int .i64 x8), .v (j 9), .v (j 10), .v (j 11), .v (j 12), .v (j 13), .v (j 14), .v (j 15), .v (j 16), .v (j 17), .v (j 18), .v (j 19), .v (j 20), .v (j 21), .v (j 22), .v (j 23), .v (j 24), .v (j 25), .v (j 26), .v (j 27), .v (j 28), .v (j 29), .v (j 30), .v (j 31), .v (j 32), .v (j 33), .v (j 34), .v (j 35), .v (j 36), .v (j 37), .v (j 38), .v (j 39), .v (j 40), .v (j 41), .v (j 42), .v (j 43), .v (j 44), .v (j 45), .v (j 46), .v (j 47), .v (j 48), .v (j 49), .v (j 50), .v (j 51), .v (j 52), .v (.bool x53), .v (j 54), .v (j 55), .v (j 56), .v (j 57), .v (j 58), .v (j 59), .v (j 60), .v (j 61), .v (j 62), .v (j 63), .v (j 64), .v (j 65), .v (j 66), .v (j 67), .v (j 68), .v (j 69), .v (j 70), .v (j 71), .v (j 72), .v (j 73), .v (j 74), .v (j 75), .v (j 76), .v (j 77), .v (j 78), .v (j 79), .v (j 80), .v (j 81), .v (j 82), .v (j 83), .v (j 84), .v (j 85), .v (j 86), .v (j 87), .v (j 88), .v (j 89), .v (j 90), .v (j 91), .v (j 92), .v (j 93), .v (j 94), .v (j 95), .v (j 96), .v (j 97), .v (j 98), .v (j 99), .v (j 100), .v (j 101), .v (j 102), .v (j 103), .v (j 104), .v (j 105), .v (j 106), .v (j 107), .v (j 108), .v (j 109), .v (j 110), .v (j 111), .v (j 112), .v (j 113), .v (j 114), .v (j 115), .v (j 116), .v (j 117), .v (j 118), .v (j 119), .v (j 120), .v (j 121), .v (j 122), .v (j 123), .v (j 124), .v (j 125), .v (j 126), .v (j 127), .v (j 128), .v (j 129), .v (j 130), .v (j 131), .v (j 132), .v (j 133), .v (j 134), .v (j 135), .v (j 136), .v (j 137), .v (j 138), .v (j 139), .v (j 140), .v (j 141), .v (j 142), .v (j 143), .v (j 144), .v (j 145), .v (j 146), .v (j 147), .v (j 148), .v (j 149), .v (j 150), .v (j 151), .v (j 152), .v (j 153), .v (j 154), .v (j 155)] [] h

def f9_9 (w0 : World) (K : Value → AH → Prop) (a1 : Option Go.Addr) (n1 : Nat) (c1 : Nat) (a2 : Option Go.Addr) (n2 : Nat) (c2 : Nat) (x7 : Option Go.Addr) (x9 : Option Go.Addr) (a63 : Option Go.Addr) (n63 : Nat) (c63 : Nat) (x64 : Int) (x65 : Int) (h : AH) : Prop :=
  ∀ j : Nat → Value, LPk Go.Proofs.Try.prog w0 (EvC Go.Proofs.Try.prog w0) f9_J 9 K 9 [.v (j 0), .v (.slice a1 n1 c1), .v (.slice a2 n2 c2), .v (j 3), .v (j 4), .v (j 5), .v (j 6), .v (.pointer x7), .v (j 8), .v (.pointer x9), .v (j 10), .v (j 11), .v (j 12), .v (j 13), .v (j 14), .v (j 15), .v (j 16), .v (j 17), .v (j 18), .v (j 19), .v (j 20), .v (j 21), .v (j 22), .v (j 23), .v (j 24), .v (j 25), .v (j 26), .v (j 27), .v (j 28), .v (j 29), .v (j 30), .v (j 31), .v (j 32), .v (j 33), .v (j 34), .v (j 35), .v (j 36), .v (j 37), .v (j 38), .v (j 39), .v (j 40), .v (j 41), .v (j 42), .v (j 43), .v (j 44), .v (j 45), .v (j 46), .v (j 47), .v (j 48), .v (j 49), .v (j 50), .v (j 51), .v (j 52), .v (j 53), .v (j 54), .v (j 55), .v (j 56), .v (j 57), .v (j 58), .v (j 59), .v (j 60), .v (j 61), .v (j 62), .v (.slice a63 n63 c63), .v (.int .i64 x64), .v (.int .i64 x65), .v (j 66), .v (j 67), .v (j 68), .v (j 69), .v (j 70), .v (j 71), .v (j 72), .v (j 73), .v (j 74), .v (j 75), .v (j 76), .v (j 77), .v (j 78), .v (j 79), .v (j 80), .v (j 81), .v (j 82), .v (j 83), .v (j 84), .v (j 85), .v (j 86), .v (j 87), .v (j 88), .v (j 89), .v (j 90), .v (j 91), .v (j 92), .v (j 93), .v (j 94), .v (j 95), .v (j 96), .v (j 97), .v (j 98), .v (j 99), .v (j 100), .v (j 101), .v (j 102), .v (j 103), .v (j 104), .v (j 105), .v (j 106), .v (j 107), .v (j 108), .v (j 109), .v (j 110), .v (j 111), .v (j 112), .v (j 113), .v (j 114), .v (j 115), .v (j 116), .v (j 117), .v (j 118), .v (j 119), .v (j 120), .v (j 121), .v (j 122), .v (j 123), .v (j 124), .v (j 125), .v (j 126), .v (j 127), .v (j 128), .v (j 129), .v (j 130), .v (j 131), .v (j 132), .v (j 133), .v (j 134), .v (j 135), .v (j 136), .v (j 137), .v (j 138), .v (j 139), .v (j 140), .v (j 141), .v (j 142), .v (j 143), .v (j 144), .v (j 145), .v (j 146), .v (j 147), .v (j 148), .v (j 149), .v (j 150), .v (j 151), .v (j 152), .v (j 153), .v (j 154), .v (j 155)] [] h

def f9_19 (w0 : World) (K : Value → AH → Prop) (a1 : Option Go.Addr) (n1 : Nat) (c1 : Nat) (a2 : Option Go.Addr) (n2 : Nat) (c2 : Nat) (x7 : Option Go.Addr) (x9 : Option Go.Addr) (x12 : Option Go.Addr) (x94 : Bool) (h : AH) : Prop :=
  ∀ j : Nat → Value, LPk Go.Proofs.Try.prog w0 (EvC Go.Proofs.Try.prog w0) f9_J 9 K 19 [.v (j 0), .v (.slice a1 n1 c1), .v (.slice a2 n2 c2), .v (j 3), .v (j 4), .v (j 5), .v (j 6), .v (.pointer x7), .v (j 8), .v (.pointer x9), .v (j 10), .v (j 11), .v (.pointer x12), .v (j 13), .v (j 14), .v (j 15), .v (j 16), .v (j 17), .v (j 18), .v (j 19), .v (j 20), .v (j 21), .v (j 22), .v (j 23), .v (j 24), .v (j 25), .v (j 26), .v (j 27), .v (j 28), .v (j 29), .v (j 30), .v (j 31), .v (j 32), .v (j 33), .v (j 34), .v (j 35), .v (j 36), .v (j 37), .v (j 38), .v (j 39), .v (j 40), .v (j 41), .v (j 42), .v (j 43), .v (j 44), .v (j 45), .v (j 46), .v (j 47), .v (j 48), .v (j 49), .v (j 50), .v (j 51), .v (j 52), .v (j 53), .v (j 54), .v (j 55), .v (j 56), .v (j 57), .v (j 58), .v (j 59), .v (j 60), .v (j 61), .v (j 62), .v (j 63), .v (j 64), .v (j 65), .v (j 66), .v (j 67), .v (j 68), .v (j 69), .v (j 70), .v (j 71), .v (j 72), .v (j 73), .v (j 74), .v (j 75), .v (j 76), .v (j 77), .v (j 78), .v (j 79), .v (j 80), .v (j 81), .v (j 82), .v (j 83), .v (j 84), .v (j 85), .v (j 86), .v (j 87), .v (j 88), .v (j 89), .v (j 90), .v (j 91), .v (j 92), .v (j 93), .v (.bool x94), .v (j 95), .v (j 96), .v (j 97), .v (j 98), .v (j 99), .v (j 100), .v (j 101), .v (j 102), .v (j 103), .v (j 104), .v (j 105), .v (j 106), .v (j 107), .v (j 108), .v (j 109), .v (j 110), .v (j 111), .v (j 112), .v (j 113), .v (j 114), .v (j 115), .v (j 116), .v (j 117), .v (j 118), .v (j 119), .v (j 120), .v (j 121), .v (j 122), .v (j 123), .v (j 124), .v (j 125), .v (j 126), .v (j 127), .v (j 128), .v (j 129), .v (j 130), .v (j 131), .v (j 132), .v (j 133), .v (j 134), .v (j 135), .v (j 136), .v (j 137), .v (j 138), .v (j 139), .v (j 140), .v (j 141), .v (j 142), .v (j 143), .v (j 144), .v (j 145), .v (j 146), .v (j 147), .v (j 148), .v (j 149), .v (j 150), .v (j 151), .v (j 152), .v (j 153), .v (j 154), .v (j 155)] [] h

def f9_20 (w0 : World) (K : Value → AH → Prop) (a1 : Option Go.Addr) (n1 : Nat) (c1 : Nat) (a2 : Option Go.Addr) (n2 : Nat) (c2 : Nat) (x7 : Option Go.Addr) (x9 : Option Go.Addr) (x12 : Option Go.Addr) (h : AH) : Prop :=
  ∀ j : Nat → Value, LPk Go.Proofs.Try.prog w0 (EvC Go.Proofs.Try.prog w0) f9_J 9 K 20 [.v (j 0), .v (.slice a1 n1 c1), .v (.slice a2 n2 c2), .v (j 3), .v (j 4), .v (j 5), .v (j 6), .v (.pointer x7), .v (j 8), .v (.pointer x9), .v (j 10), .v (j 11), .v (.pointer x12), .v (j 13), .v (j 14), .v (j 15), .v (j 16), .v (j 17), .v (j 18), .v (j 19), .v (j 20), .v (j 21), .v (j 22), .v (j 23), .v (j 24), .v (j 25), .v (j 26), .v (j 27), .v (j 28), .v (j 29), .v (j 30), .v (j 31), .v (j 32), .v (j 33), .v (j 34), .v (j 35), .v (j 36), .v (j 37), .v (j 38), .v (j 39), .v (j 40), .v (j 41), .v (j 42), .v (j 43), .v (j 44), .v (j 45), .v (j 46), .v (j 47), .v (j 48), .v (j 49), .v (j 50), .v (j 51), .v (j 52), .v (j 53), .v (j 54), .v (j 55), .v (j 56), .v (j 57), .v (j 58), .v (j 59), .v (j 60), .v (j 61), .v (j 62), .v (j 63), .v (j 64), .v (j 65), .v (j 66), .v (j 67), .v (j 68), .v (j 69), .v (j 70), .v (j 71), .v (j 72), .v (j 73), .v (j 74), .v (j 75), .v (j 76), .v (j 77), .v (j 78), .v (j 79), .v (j 80), .v (j 81), .v (j 82), .v (j 83), .v (j 84), .v (j 85), .v (j 86), .v (j 87), .v (j 88), .v (j 89), .v (j 90), .v (j 91), .v (j 92), .v (j 93), .v (j 94), .v (j 95), .v (j 96), .v (j 97), .v (j 98), .v (j 99), .v (j 100), .v (j 101), .v (j 102), .v (j 103), .v (j 104), .v (j 105), .v (j 106), .v (j 107), .v (j 108), .v (j 109), .v (j 110), .v (j 111), .v (j 112), .v (j 113), .v (j 114), .v (j 115), .v (j 116), .v (j 117), .v (j 118), .v (j 119), .v (j 120), .v (j 121), .v (j 122), .v (j 123), .v (j 124), .v (j 125), .v (j 126), .v (j 127), .v (j 128), .v (j 129), .v (j 130), .v (j 131), .v (j 132), .v (j 133), .v (j 134), .v (j 135), .v (j 136), .v (j 137), .v (j 138), .v (j 139), .v (j 140), .v (j 141), .v (j 142), .v (j 143), .v (j 144), .v (j 145), .v (j 146), .v (j 147), .v (j 148), .v (j 149), .v (j 150), .v (j 151), .v (j 152), .v (j 153), .v (j 154), .v (j 155)] [] h

def f9_21 (w0 : World) (K : Value → AH → Prop) (a1 : Option Go.Addr) (n1 : Nat) (c1 : Nat) (a2 : Option Go.Addr) (n2 : Nat) (c2 : Nat) (x7 : Option Go.Addr) (x9 : Option Go.Addr) (x12 : Option Go.Addr) (a96 : Option Go.Addr) (n96 : Nat) (c96 : Nat) (x97 : Int) (x98 : Int) (h : AH) : Prop :=
  ∀ j : Nat → Value, LPk Go.Proofs.Try.prog w0 (EvC Go.Proofs.Try.prog w0) f9_J 9 K 21 [.v (j 0), .v (.slice a1 n1 c1), .v (.slice a2 n2 c2), .v (j 3), .v (j 4), .v (j 5), .v (j 6), .v (.pointer x7), .v (j 8), .v (.pointer x9), .v (j 10), .v (j 11), .v (.pointer x12), .v (j 13), .v (j 14), .v (j 15), .v (j 16), .v (j 17), .v (j 18), .v (j 19), .v (j 20), .v (j 21), .v (j 22), .v (j 23), .v (j 24), .v (j 25), .v (j 26), .v (j 27), .v (j 28), .v (j 29), .v (j 30), .v (j 31), .v (j 32), .v (j 33), .v (j 34), .v (j 35), .v (j 36), .v (j 37), .v (j 38), .v (j 39), .v (j 40), .v (j 41), .v (j 42), .v (j 43), .v (j 44), .v (j 45), .v (j 46), .v (j 47), .v (j 48), .v (j 49), .v (j 50), .v (j 51), .v (j 52), .v (j 53), .v (j 54), .v (j 55), .v (j 56), .v (j 57), .v (j 58), .v (j 59), .v (j 60), .v (j 61), .v (j 62), .v (j 63), .v (j 64), .v (j 65), .v (j 66), .v (j 67), .v (j 68), .v (j 69), .v (j 70), .v (j 71), .v (j 72), .v (j 73), .v (j 74), .v (j 75), .v (j 76), .v (j 77), .v (j 78), .v (j 79), .v (j 80), .v (j 81), .v (j 82), .v (j 83), .v (j 84), .v (j 85), .v (j 86), .v (j 87), .v (j 88), .v (j 89), .v (j 90), .v (j 91), .v (j 92), .v (j 93), .v (j 94), .v (j 95), .v (.slice a96 n96 c96), .v (.int .i64 x97), .v (.int .i64 x98), .v (j 99), .v (j 100), .v (j 101), .v (j 102), .v (j 103), .v (j 104), .v (j 105), .v (j 106), .v (j 107), .v (j 108), .v (j 109), .v (j 110), .v (j 111), .v (j 112), .v (j 113), .v (j 114), .v (j 115), .v (j 116), .v (j 117), .v (j 118), .v (j 119), .v (j 120), .v (j 121), .v (j 122), .v (j 123), .v (j 124), .v (j 125), .v (j 126), .v (j 127), .v (j 128), .v (j 129), .v (j 130), .v (j 131), .v (j 132), .v (j 133), .v (j 134), .v (j 135), .v (j 136), .v (j 137), .v (j 138), .v (j 139), .v (j 140), .v (j 141), .v (j 142), .v (j 143), .v (j 144), .v (j 145), .v (j 146), .v (j 147), .v (j 148), .v (j 149), .v (j 150), .v (j 151), .v (j 152), .v (j 153), .v (j 154), .v (j 155)] [] h

def f9_26 (w0 : World) (K : Value → AH → Prop) (a1 : Option Go.Addr) (n1 : Nat) (c1 : Nat) (a2 : Option Go.Addr) (n2 : Nat) (c2 : Nat) (x7 : Option Go.Addr) (x9 : Option Go.Addr) (x12 : Option Go.Addr) (a96 : Option Go.Addr) (n96 : Nat) (c96 : Nat) (x97 : Int) (x98 : Int) (x126 : Bool) (h : AH) : Prop :=
  ∀ j : Nat → Value, LPk Go.Proofs.Try.prog w0 (EvC Go.Proofs.Try.prog w0) f9_J 9 K 26 [.v (j 0), .v (.slice a1 n1 c1), .v (.slice a2 n2 c2), .v (j 3), .v (j 4), .v (j 5), .v (j 6), .v (.pointer x7), .v (j 8), .v (.pointer x9), .v (j 10), .v (j 11), .v (.pointer x12), .v (j 13), .v (j 14), .v (j 15), .v (j 16), .v (j 17), .v (j 18), .v (j 19), .v (j 20), .v (j 21), .v (j 22), .v (j 23), .v (j 24), .v (j 25), .v (j 26), .v (j 27), .v (j 28), .v (j 29), .v (j 30), .v (j 31), .v (j 32), .v (j 33), .v (j 34), .v (j 35), .v (j 36), .v (j 37), .v (j 38), .v (j 39), .v (j 40), .v (j 41), .v (j 42), .v (j 43), .v (j 44), .v (j 45), .v (j 46), .v (j 47), .v (j 48), .v (j 49), .v (j 50), .v (j 51), .v (j 52), .v (j 53), .v (j 54), .v (j 55), .v (j 56), .v (j 57), .v (j 58), .v (j 59), .v (j 60), .v (j 61), .v (j 62), .v (j 63), .v (j 64), .v (j 65), .v (j 66), .v (j 67), .v (j 68), .v (j 69), .v (j 70), .v (j 71), .v (j 72), .v (j 73), .v (j 74), .v (j 75), .v (j 76), .v (j 77), .v (j 78), .v (j 79), .v (j 80), .v (j 81), .v (j 82), .v (j 83), .v (j 84), .v (j 85), .v (j 86), .v (j 87), .v (j 88), .v (j 89), .v (j 90), .v (j 91), .v (j 92), .v (j 93), .v (j 94), .v (j 95), .v (.slice a96 n96 c96), .v (.int .i64 x97), .v (.int .i64 x98), .v (j 99), .v (j 100), .v (j 101), .v (j 102), .v (j 103), .v (j 104), .v (j 105), .v (j 106), .v (j 107), .v (j 108), .v (j 109), .v (j 110), .v (j 111), .v (j 112), .v (j 113), .v (j 114), .v (j 115), .v (j 116), .v (j 117), .v (j 118), .v (j 119), .v (j 120), .v (j 121), .v (j 122), .v (j 123), .v (j 124), .v (j 125), .v (.bool x126), .v (j 127), .v (j 128), .v (j 129), .v (j 130), .v (j 131), .v (j 132), .v (j 133), .v (j 134), .v (j 135), .v (j 136), .v (j 137), .v (j 138), .v (j 139), .v (j 140), .v (j 141), .v (j 142), .v (j 143), .v (j 144), .v (j 145), .v (j 146), .v (j 147), .v (j 148), .v (j 149), .v (j 150), .v (j 151), .v (j 152), .v (j 153), .v (j 154), .v (j 155)] [] h

theorem f9_3_in {w0 : World} {K : Value → AH → Prop} (a0 : Option Go.Addr) (n0 : Nat) (c0 : Nat) (a1 : Option Go.Addr) (n1 : Nat) (c1 : Nat) (a2 : Option Go.Addr) (n2 : Nat) (c2 : Nat) (x7 : Option Go.Addr) (x8 : Int) (h : AH)
  (hv : (brB (decide ((x8 < ((n0 : Nat) : Int)))) (brB (decide ((x8 < (40 : Int)))) (f9_5 w0 K a0 n0 c0 a1 n1 c1 a2 n2 c2 x7 x8 h) (f9_7 w0 K a1 n1 c1 a2 n2 c2 x7 h)) (f9_7 w0 K a1 n1 c1 a2 n2 c2 x7 h))) :
  f9_3 w0 K a0 n0 c0 a1 n1 c1 a2 n2 c2 x7 x8 h := fun j => LP_intro (P := Go.Proofs.Try.prog) (Eq.mp (by kernel_rfl) hv)

theorem f9_5_in {w0 : World} {K : Value → AH → Prop} (a0 : Option Go.Addr) (n0 : Nat) (c0 : Nat) (a1 : Option Go.Addr) (n1 : Nat) (c1 : Nat) (a2 : Option Go.Addr) (n2 : Nat) (c2 : Nat) (x7 : Option Go.Addr) (x8 : Int) (h : AH)
  (hv : (∃ a'3 : Go.Addr, ((a0 = (some a'3)) ∧ (((0 : Int) ≤ x8) ∧ ((x8 < ((n0 : Nat) : Int)) ∧ (∃ i'4 : Int, (((Go.G.cellA w0 h (Go.Addr.add (Go.Addr.add a'3 ((Int.toNat x8) * 8)) 0)) = (some (Go.Value.int .i64 i'4))) ∧ (brB (decide ((i'4 ≤ (5 : Int)))) (∃ a'5 : Go.Addr, ((a0 = (some a'5)) ∧ (((0 : Int) ≤ x8) ∧ ((x8 < ((n0 : Nat) : Int)) ∧ (∃ i'6 : Int, (((Go.G.cellA w0 h (Go.Addr.add (Go.Addr.add a'5 ((Int.toNat x8) * 8)) 0)) = (some (Go.Value.int .i64 i'6))) ∧ (brB (decide (((0 : Int) ≤ i'6))) (∃ a'7 : Go.Addr, ((a0 = (some a'7)) ∧ (((0 : Int) ≤ x8) ∧ ((x8 < ((n0 : Nat) : Int)) ∧ (∃ p'8 : Option Go.Addr, (∃ n'9 : Nat, (∃ n'10 : Nat, (((Go.G.cellA w0 h (Go.Addr.add (Go.Addr.add a'7 ((Int.toNat x8) * 8)) 3)) = (some (Go.Value.slice p'8 n'9 n'10))) ∧ (f9_6 w0 K a0 n0 c0 a1 n1 c1 a2 n2 c2 x7 x8 (decide ((((n'9 : Nat) : Int) ≤ (5000 : Int)))) h))))))))) (f9_6 w0 K a0 n0 c0 a1 n1 c1 a2 n2 c2 x7 x8 false h)))))))) (f9_6 w0 K a0 n0 c0 a1 n1 c1 a2 n2 c2 x7 x8 false h))))))))) :
  f9_5 w0 K a0 n0 c0 a1 n1 c1 a2 n2 c2 x7 x8 h := fun j => LP_intro (P := Go.Proofs.Try.prog) (Eq.mp (by kernel_rfl) hv)

theorem f9_7_in {w0 : World} {K : Value → AH → Prop} (a1 : Option Go.Addr) (n1 : Nat) (c1 : Nat) (a2 : Option Go.Addr) (n2 : Nat) (c2 : Nat) (x7 : Option Go.Addr) (h : AH)
  (hv : (EvC Go.Proofs.Try.prog w0 37 #[(Go.Value.pointer x7)] (fun x'11 h'12 => (∃ p'13 : Option Go.Addr, ((x'11 = (Go.Value.pointer p'13)) ∧ (EvC Go.Proofs.Try.prog w0 38 #[(Go.Value.pointer x7)] (fun x'14 h'15 => (∃ p'16 : Option Go.Addr, (∃ n'17 : Nat, (∃ n'18 : Nat, ((x'14 = (Go.Value.slice p'16 n'17 n'18)) ∧ (f9_9 w0 K a1 n1 c1 a2 n2 c2 x7 p'13 p'16 n'17 n'18 ((n'17 : Nat) : Int) (0 : Int) h'15)))))) h'12)))) h)) :
  f9_7 w0 K a1 n1 c1 a2 n2 c2 x7 h := fun j => LP_intro (P := Go.Proofs.Try.prog) (Eq.mp (by kernel_rfl) hv)

theorem f9_6_in {w0 : World} {K : Value → AH → Prop} (a0 : Option Go.Addr) (n0 : Nat) (c0 : Nat) (a1 : Option Go.Addr) (n1 : Nat) (c1 : Nat) (a2 : Option Go.Addr) (n2 : Nat) (c2 : Nat) (x7 : Option Go.Addr) (x8 : Int) (x53 : Bool) (h : AH)
  (hv : (brB x53 (∃ a'19 : Go.Addr, ((a0 = (some a'19)) ∧ (((0 : Int) ≤ x8) ∧ ((x8 < ((n0 : Nat) : Int)) ∧ (∃ i'20 : Int, (∃ s'21 : ByteArray, (∃ s'22 : ByteArray, (∃ p'23 : Option Go.Addr, (∃ n'24 : Nat, (∃ n'25 : Nat, (∃ i'26 : Int, (∃ i'27 : Int, (∃ i'28 : Int, (∃ p'29 : Option Go.Addr, (∃ n'30 : Nat, (∃ n'31 : Nat, ((((Array.size #[(Go.Value.int .i64 i'20), (Go.Value.string s'21), (Go.Value.string s'22), (Go.Value.slice p'23 n'24 n'25), (Go.Value.int .i64 i'26), (Go.Value.int .i64 i'27), (Go.Value.int .i64 i'28), (Go.Value.slice p'29 n'30 n'31)]) = 8) ∧ (At w0 h (Go.Addr.add a'19 ((Int.toNat x8) * 8)) [(Go.Value.int .i64 i'20), (Go.Value.string s'21), (Go.Value.string s'22), (Go.Value.slice p'23 n'24 n'25), (Go.Value.int .i64 i'26), (Go.Value.int .i64 i'27), (Go.Value.int .i64 i'28), (Go.Value.slice p'29 n'30 n'31)])) ∧ (EvC Go.Proofs.Try.prog w0 32 #[(Go.Value.pointer x7), (Go.Value.agg #[(Go.Value.int .i64 i'20), (Go.Value.string s'21), (Go.Value.string s'22), (Go.Value.slice p'23 n'24 n'25), (Go.Value.int .i64 i'26), (Go.Value.int .i64 i'27), (Go.Value.int .i64 i'28), (Go.Value.slice p'29 n'30 n'31)])] (fun x'32 h'33 => (∃ i'34 : Int, ((x'32 = (Go.Value.int .i64 i'34)) ∧ (f9_3 w0 K a0 n0 c0 a1 n1 c1 a2 n2 c2 x7 (Go.IntKind.wrap .i64 (x8 + (1 : Int))) h'33)))) h)))))))))))))))))) (f9_3 w0 K a0 n0 c0 a1 n1 c1 a2 n2 c2 x7 (Go.IntKind.wrap .i64 (x8 + (1 : Int))) h))) :
  f9_6 w0 K a0 n0 c0 a1 n1 c1 a2 n2 c2 x7 x8 x53 h := fun j => LP_intro (P := Go.Proofs.Try.prog) (Eq.mp (by kernel_rfl) hv)

theorem f9_9_in {w0 : World} {K : Value → AH → Prop} (a1 : Option Go.Addr) (n1 : Nat) (c1 : Nat) (a2 : Option Go.Addr) (n2 : Nat) (c2 : Nat) (x7 : Option Go.Addr) (x9 : Option Go.Addr) (a63 : Option Go.Addr) (n63 : Nat) (c63 : Nat) (x64 : Int) (x65 : Int) (h : AH)
  (hv : (brB (decide ((x65 < x64))) (∃ a'35 : Go.Addr, ((a63 = (some a'35)) ∧ (((0 : Int) ≤ x65) ∧ ((x65 < ((n63 : Nat) : Int)) ∧ (∃ s'36 : ByteArray, (((Go.G.cellA w0 h (Go.Addr.add a'35 ((Int.toNat x65) * 1))) = (some (Go.Value.string s'36))) ∧ (EvC Go.Proofs.Try.prog w0 29 #[(Go.Value.pointer x7), (Go.Value.string s'36)] (fun x'37 h'38 => (∃ i'39 : Int, ((x'37 = (Go.Value.int .i64 i'39)) ∧ (brB (i'39 != (0 : Int)) (K (Go.Value.bool false) h'38) (f9_9 w0 K a1 n1 c1 a2 n2 c2 x7 x9 a63 n63 c63 x64 (Go.IntKind.wrap .i64 (x65 + (1 : Int))) h'38))))) h))))))) (EvC Go.Proofs.Try.prog w0 30 #[(Go.Value.pointer x7)] (fun x'40 h'41 => (∃ i'42 : Int, ((x'40 = (Go.Value.int .i64 i'42)) ∧ (brB (i'42 != (0 : Int)) (K (Go.Value.bool false) h'41) (EvC Go.Proofs.Try.prog w0 37 #[(Go.Value.pointer x7)] (fun x'43 h'44 => (∃ p'45 : Option Go.Addr, ((x'43 = (Go.Value.pointer p'45)) ∧ (EvC Go.Proofs.Try.prog w0 28 #[(Go.Value.pointer p'45), (Go.Value.slice a1 n1 c1)] (fun x'46 h'47 => ((x'46 = (Go.Value.tuple #[])) ∧ (EvC Go.Proofs.Try.prog w0 38 #[(Go.Value.pointer p'45)] (fun x'48 h'49 => (∃ p'50 : Option Go.Addr, (∃ n'51 : Nat, (∃ n'52 : Nat, ((x'48 = (Go.Value.slice p'50 n'51 n'52)) ∧ (EvC Go.Proofs.Try.prog w0 38 #[(Go.Value.pointer x7)] (fun x'53 h'54 => (∃ p'55 : Option Go.Addr, (∃ n'56 : Nat, (∃ n'57 : Nat, ((x'53 = (Go.Value.slice p'55 n'56 n'57)) ∧ (EvC Go.Proofs.Try.prog w0 39 #[(Go.Value.slice p'50 n'51 n'52), (Go.Value.slice p'55 n'56 n'57)] (fun x'58 h'59 => (∃ t'60 : Bool, ((x'58 = (Go.Value.bool t'60)) ∧ (brB (!t'60) (f9_19 w0 K a1 n1 c1 a2 n2 c2 x7 x9 p'45 true h'59) (EvC Go.Proofs.Try.prog w0 18 #[(Go.Value.pointer p'45)] (fun x'61 h'62 => (∃ i'63 : Int, ((x'61 = (Go.Value.int .i64 i'63)) ∧ (EvC Go.Proofs.Try.prog w0 18 #[(Go.Value.pointer x7)] (fun x'64 h'65 => (∃ i'66 : Int, ((x'64 = (Go.Value.int .i64 i'66)) ∧ (f9_19 w0 K a1 n1 c1 a2 n2 c2 x7 x9 p'45 (i'63 != i'66) h'65)))) h'62)))) h'59))))) h'54)))))) h'49)))))) h'47))) h'44)))) h'41))))) h))) :
  f9_9 w0 K a1 n1 c1 a2 n2 c2 x7 x9 a63 n63 c63 x64 x65 h := fun j => LP_intro (P := Go.Proofs.Try.prog) (Eq.mp (by kernel_rfl) hv)

theorem f9_19_in {w0 : World} {K : Value → AH → Prop} (a1 : Option Go.Addr) (n1 : Nat) (c1 : Nat) (a2 : Option Go.Addr) (n2 : Nat) (c2 : Nat) (x7 : Option Go.Addr) (x9 : Option Go.Addr) (x12 : Option Go.Addr) (x94 : Bool) (h : AH)
  (hv : (brB x94 (K (Go.Value.bool false) h) (f9_20 w0 K a1 n1 c1 a2 n2 c2 x7 x9 x12 h))) :
  f9_19 w0 K a1 n1 c1 a2 n2 c2 x7 x9 x12 x94 h := fun j => LP_intro (P := Go.Proofs.Try.prog) (Eq.mp (by kernel_rfl) hv)

theorem f9_20_in {w0 : World} {K : Value → AH → Prop} (a1 : Option Go.Addr) (n1 : Nat) (c1 : Nat) (a2 : Option Go.Addr) (n2 : Nat) (c2 : Nat) (x7 : Option Go.Addr) (x9 : Option Go.Addr) (x12 : Option Go.Addr) (h : AH)
  (hv : (EvC Go.Proofs.Try.prog w0 38 #[(Go.Value.pointer x7)] (fun x'67 h'68 => (∃ p'69 : Option Go.Addr, (∃ n'70 : Nat, (∃ n'71 : Nat, ((x'67 = (Go.Value.slice p'69 n'70 n'71)) ∧ (f9_21 w0 K a1 n1 c1 a2 n2 c2 x7 x9 x12 p'69 n'70 n'71 ((n'70 : Nat) : Int) (0 : Int) h'68)))))) h)) :
  f9_20 w0 K a1 n1 c1 a2 n2 c2 x7 x9 x12 h := fun j => LP_intro (P := Go.Proofs.Try.prog) (Eq.mp (by kernel_rfl) hv)

theorem f9_21_in {w0 : World} {K : Value → AH → Prop} (a1 : Option Go.Addr) (n1 : Nat) (c1 : Nat) (a2 : Option Go.Addr) (n2 : Nat) (c2 : Nat) (x7 : Option Go.Addr) (x9 : Option Go.Addr) (x12 : Option Go.Addr) (a96 : Option Go.Addr) (n96 : Nat) (c96 : Nat) (x97 : Int) (x98 : Int) (h : AH)
  (hv : (brB (decide ((x98 < x97))) (∃ a'72 : Go.Addr, ((a96 = (some a'72)) ∧ (((0 : Int) ≤ x98) ∧ ((x98 < ((n96 : Nat) : Int)) ∧ (∃ s'73 : ByteArray, (((Go.G.cellA w0 h (Go.Addr.add a'72 ((Int.toNat x98) * 1))) = (some (Go.Value.string s'73))) ∧ (EvC Go.Proofs.Try.prog w0 21 #[(Go.Value.pointer x7), (Go.Value.string s'73)] (fun x'74 h'75 => (∃ p'76 : Option Go.Addr, (∃ n'77 : Nat, (∃ n'78 : Nat, (∃ i'79 : Int, ((x'74 = (Go.Value.tuple #[(Go.Value.slice p'76 n'77 n'78), (Go.Value.int .i64 i'79)])) ∧ (EvC Go.Proofs.Try.prog w0 21 #[(Go.Value.pointer x12), (Go.Value.string s'73)] (fun x'80 h'81 => (∃ p'82 : Option Go.Addr, (∃ n'83 : Nat, (∃ n'84 : Nat, (∃ i'85 : Int, ((x'80 = (Go.Value.tuple #[(Go.Value.slice p'82 n'83 n'84), (Go.Value.int .i64 i'85)])) ∧ (brB (i'79 != (0 : Int)) (f9_26 w0 K a1 n1 c1 a2 n2 c2 x7 x9 x12 a96 n96 c96 x97 x98 true h'81) (brB (i'85 != (0 : Int)) (f9_26 w0 K a1 n1 c1 a2 n2 c2 x7 x9 x12 a96 n96 c96 x97 x98 true h'81) (rowsOf w0 h'81 1 p'76 n'77 (fun ys'86 => (∃ s'87 : ByteArray, ((ys'86 = (Go.G.intsOf s'87)) ∧ (rowsOf w0 h'81 1 p'82 n'83 (fun ys'88 => (∃ s'89 : ByteArray, ((ys'88 = (Go.G.intsOf s'89)) ∧ (f9_26 w0 K a1 n1 c1 a2 n2 c2 x7 x9 x12 a96 n96 c96 x97 x98 (!(decide ((s'87 = s'89)))) h'81))))))))))))))))) h'75))))))) h))))))) (EvC Go.Proofs.Try.prog w0 28 #[(Go.Value.pointer x9), (Go.Value.slice a2 n2 c2)] (fun x'90 h'91 => ((x'90 = (Go.Value.tuple #[])) ∧ (EvC Go.Proofs.Try.prog w0 37 #[(Go.Value.pointer x9)] (fun x'92 h'93 => (∃ p'94 : Option Go.Addr, ((x'92 = (Go.Value.pointer p'94)) ∧ (EvC Go.Proofs.Try.prog w0 28 #[(Go.Value.pointer x9), (Go.Value.slice a1 n1 c1)] (fun x'95 h'96 => ((x'95 = (Go.Value.tuple #[])) ∧ (EvC Go.Proofs.Try.prog w0 38 #[(Go.Value.pointer p'94)] (fun x'97 h'98 => (∃ p'99 : Option Go.Addr, (∃ n'100 : Nat, (∃ n'101 : Nat, ((x'97 = (Go.Value.slice p'99 n'100 n'101)) ∧ (EvC Go.Proofs.Try.prog w0 38 #[(Go.Value.pointer x9)] (fun x'102 h'103 => (∃ p'104 : Option Go.Addr, (∃ n'105 : Nat, (∃ n'106 : Nat, ((x'102 = (Go.Value.slice p'104 n'105 n'106)) ∧ (EvC Go.Proofs.Try.prog w0 39 #[(Go.Value.slice p'99 n'100 n'101), (Go.Value.slice p'104 n'105 n'106)] (fun x'107 h'108 => (∃ t'109 : Bool, ((x'107 = (Go.Value.bool t'109)) ∧ (brB t'109 (EvC Go.Proofs.Try.prog w0 18 #[(Go.Value.pointer p'94)] (fun x'110 h'111 => (∃ i'112 : Int, ((x'110 = (Go.Value.int .i64 i'112)) ∧ (EvC Go.Proofs.Try.prog w0 18 #[(Go.Value.pointer x9)] (fun x'113 h'114 => (∃ i'115 : Int, ((x'113 = (Go.Value.int .i64 i'115)) ∧ (brB (i'112 == i'115) (EvC Go.Proofs.Try.prog w0 18 #[(Go.Value.pointer x9)] (fun x'116 h'117 => (∃ i'118 : Int, ((x'116 = (Go.Value.int .i64 i'118)) ∧ (brB (decide ((i'118 ≤ (1048576 : Int)))) (EvC Go.Proofs.Try.prog w0 20 #[] (fun x'119 h'120 => (∃ t'121 : Bool, ((x'119 = (Go.Value.bool t'121)) ∧ (K (Go.Value.bool t'121) h'120)))) h'117) (K (Go.Value.bool false) h'117))))) h'114) (K (Go.Value.bool false) h'114))))) h'111)))) h'108) (K (Go.Value.bool false) h'108))))) h'103)))))) h'98)))))) h'96))) h'93)))) h'91))) h))) :
  f9_21 w0 K a1 n1 c1 a2 n2 c2 x7 x9 x12 a96 n96 c96 x97 x98 h := fun j => LP_intro (P := Go.Proofs.Try.prog) (Eq.mp (by kernel_rfl) hv)

theorem f9_26_in {w0 : World} {K : Value → AH → Prop} (a1 : Option Go.Addr) (n1 : Nat) (c1 : Nat) (a2 : Option Go.Addr) (n2 : Nat) (c2 : Nat) (x7 : Option Go.Addr) (x9 : Option Go.Addr) (x12 : Option Go.Addr) (a96 : Option Go.Addr) (n96 : Nat) (c96 : Nat) (x97 : Int) (x98 : Int) (x126 : Bool) (h : AH)
  (hv : (brB x126 (K (Go.Value.bool false) h) (f9_21 w0 K a1 n1 c1 a2 n2 c2 x7 x9 x12 a96 n96 c96 x97 (Go.IntKind.wrap .i64 (x98 + (1 : Int))) h))) :
  f9_26 w0 K a1 n1 c1 a2 n2 c2 x7 x9 x12 a96 n96 c96 x97 x98 x126 h := fun j => LP_intro (P := Go.Proofs.Try.prog) (Eq.mp (by kernel_rfl) hv)

theorem f9_go {w0 : World} {K : Value → AH → Prop} (a0 : Option Go.Addr) (n0 : Nat) (c0 : Nat) (a1 : Option Go.Addr) (n1 : Nat) (c1 : Nat) (a2 : Option Go.Addr) (n2 : Nat) (c2 : Nat) (h : AH)
  (hv : (EvC Go.Proofs.Try.prog w0 12 #[(Go.Value.int .i64 (1048576 : Int))] (fun x'0 h'1 => (∃ p'2 : Option Go.Addr, ((x'0 = (Go.Value.pointer p'2)) ∧ (f9_3 w0 K a0 n0 c0 a1 n1 c1 a2 n2 c2 p'2 (0 : Int) h'1)))) h)) :
  EvC Go.Proofs.Try.prog w0 9 ([(.slice a0 n0 c0), (.slice a1 n1 c1), (.slice a2 n2 c2)]).toArray K h := EvC_intro (P := Go.Proofs.Try.prog) f9_J (Eq.mp (by kernel_rfl) hv)
/-! ### DiskSure -/
theorem awakeX {w0 : World} {K : Value → AH → Prop} {h : AH} {B : List (Nat × AB)} (w : Own w0 h B) (hk : ∀ h, K (.bool true) h) : EvC Go.Proofs.Try.prog w0 20 #[] (fun x h' => (∃ t : Bool, ((x = (.bool t)) ∧ (K (.bool t) h')))) h := f20_spec w fun h' _ => ⟨_, rfl, hk h'⟩
theorem modify_at (fs : List Fl) (g : Fl → Fl) (i j : Nat) : fileAt (fs.modify i g) j = if i = j ∧ j < fs.length then g (fileAt fs j) else fileAt fs j := by
  unfold fileAt
  rw [List.getElem?_modify]
  by_cases hj : j < fs.length
  · rw [List.getElem?_eq_getElem hj]
    by_cases q : i = j <;> simp [q, hj]
  · rw [List.getElem?_eq_none (by omega)]
    simp [hj]
theorem sync_step {s : Ds} {T i : Nat} {n : ByteArray} (o : s.Ok) (q : Qt s T) (hf : findD n s.dir = some i) :
    (syncS n s).1 = 0 ∧ Qt (syncS n s).2 T ∧ (syncS n s).2.dir = s.dir ∧ (syncS n s).2.was = s.was ∧ FSure (fileAt (syncS n s).2.fs i) ∧ ∀ j, FSure (fileAt s.fs j) → FSure (fileAt (syncS n s).2.fs j) := by
  obtain ⟨c1, c2, c3⟩ := q.call
  obtain ⟨e1, e2, e3, e4, e5⟩ := callS_same s
  have hil : i < s.fs.length := (o.dir.ids _ (findD_mem hf)).1
  have e : syncS n s = (0, { (callS s).2.2 with fs := (callS s).2.2.fs.modify i fun f => { f with sure := f.data.length } }) := by
    unfold syncS
    rw [if_neg (by rw [c1, c2]; simp), e3, hf]
  rw [e]
  refine ⟨rfl, ⟨c3.off, c3.fuse, c3.fails, c3.ids, ?_⟩, e3, e4, ?_, fun j hj => ?_⟩
  · exact Nat.le_trans (total_modify _ 0 (fun f => by simp) _ _) (by have := c3.tot; omega)
  · show FSure (fileAt ((callS s).2.2.fs.modify i _) i)
    rw [e2, modify_at, if_pos ⟨rfl, hil⟩]; rfl
  · show FSure (fileAt ((callS s).2.2.fs.modify i _) j)
    rw [e2, modify_at]
    split
    · rfl
    · exact hj
theorem syncdir_step {s : Ds} {T : Nat} (q : Qt s T) : (syncDirS s).1 = 0 ∧ (syncDirS s).2.dir = s.dir ∧ (syncDirS s).2.was = [s.dir] ∧ (syncDirS s).2.fs = s.fs ∧ (syncDirS s).2.off = false := by
  obtain ⟨c1, c2, c3⟩ := q.call
  obtain ⟨e1, e2, e3, e4, e5⟩ := callS_same s
  have e : syncDirS s = (0, { (callS s).2.2 with was := [(callS s).2.2.dir] }) := by
    unfold syncDirS
    rw [if_neg (by rw [c1, c2]; simp)]
  rw [e]
  exact ⟨rfl, e3, by show [(callS s).2.2.dir] = _; rw [e3], e2, c3.off⟩
set_option maxHeartbeats 1000000 in
theorem f9_spec {w0 : World} {K : Value → AH → Prop} {a a1 a2 : Option Addr} {n c n1 c1 n2 c2 : Nat} {l : List Cl} {l1 l2 : List Int} (S : CS w0 a n c l) (S1 : n1 = l1.length ∧ PickOk w0 a1 c1 l1) (S2 : n2 = l2.length ∧ PickOk w0 a2 c2 l2) (hk : ∀ h, K (.bool true) h) :
    EvC Go.Proofs.Try.prog w0 9 #[.slice a n c, .slice a1 n1 c1, .slice a2 n2 c2] K (fun _ => none) := by
  have hn := S.len
  obtain ⟨rfl, p1⟩ := S1
  obtain ⟨rfl, p2⟩ := S2
  have lle : ∀ {s : Ds}, s.Ok → s.calls ≤ 1000 → (listS s).length ≤ 1000 := fun {s} o hc => by
    have := o.dir.len
    unfold listS; split
    · simp
    · simp; omega
  -- the loose copy crashes twice
  have fin : ∀ (x12 a96 : Option Addr) (n96 c96 : Nat) (h : AH) (D : PD) (s : Ds) (x7 : Option Addr) (x98 : Int) (X : List (Nat × AB)), PRep s D → s.calls ≤ 100 → (∀ d ∈ s.was, lens s.fs d ≤ 1048576) → Own w0 h (D.blocks s ++ X) → decide (x98 < ((n96 : Nat) : Int)) = false →
      f9_21 w0 K a1 l1.length c1 a2 l2.length c2 x7 (some ⟨D.bd, 0, none⟩) x12 a96 n96 c96 ((n96 : Nat) : Int) x98 h := fun x12 a96 n96 c96 h D s x7 x98 X r hc hu w hx => by
    have o := r.ok
    refine f9_21_in _ _ _ _ _ _ _ _ _ _ _ _ _ _ _ (brB_of (fun z => by rw [hx] at z; cases z) fun _ => ?_)
    refine f28_spec r w (by omega) p2 fun h1 D1 b1 r1 w1 => ⟨rfl, ?_⟩
    rw [← b1]
    have hc1 : (crashS l2 s).calls = s.calls := rfl
    have u1 := used_crash o r.ne l2 hu
    have s1 := crash_sure o l2
    generalize crashS l2 s = t1 at r1 w1 hc1 u1 s1
    refine f37_spec r1 w1 (by omega) fun h2 seen D2 v r2 w2 => ⟨_, rfl, ?_⟩
    have hc2 : (reS seen t1).calls = t1.calls := rfl
    have e2 := reS_same v
    generalize reS seen t1 = t2 at r2 w2 hc2 e2
    refine f28_spec r1 w2.front (by omega) p1 fun h3 D3 b3 r3 w3 => ⟨rfl, ?_⟩
    rw [← b3]
    have hc3 : (crashS l1 t1).calls = t1.calls := rfl
    have e3 := crash_same r1.ok s1 l1
    generalize crashS l1 t1 = t3 at r3 w3 hc3 e3
    have e23 := e2.trans e3.symm
    refine f38_spec r2 w3.front (by omega) fun b1 d1 h4 v4 w4 => ⟨_, _, _, rfl, ?_⟩
    refine f38_spec r3 (sinkO w4).front (by omega) fun b2 d2 h5 v5 w5 => ⟨_, _, _, rfl, ?_⟩
    have w6 : Own w0 h5 (D3.blocks t3 ++ (D2.blocks t2 ++ (slB b2 (strs (listS t3)) (d2 * 1) ++ (slB b1 (strs (listS t2)) (d1 * 1) ++ X)))) := sinkO w5
    have rd1 : Rd w0 h5 b1 (strs (listS t2)) := v4.rd (cs := D3.blocks t3 ++ (D2.blocks t2 ++ slB b2 (strs (listS t3)) (d2 * 1))) (bs := X) (by simpa only [List.append_assoc] using w6)
    have rd2 : Rd w0 h5 b2 (strs (listS t3)) := v5.rd (cs := D3.blocks t3 ++ D2.blocks t2) (bs := slB b1 (strs (listS t2)) (d1 * 1) ++ X) (by simpa only [List.append_assoc] using w6)
    have hll := lle r2.ok (by omega)
    rw [← e23.list] at rd2 ⊢
    refine f39_same rd1 rd2 (by omega) ⟨_, rfl, brB_of (fun _ => ?_) fun z => by cases z⟩
    refine f18_spec r2 w6.front (by omega) fun h7 w7 => ⟨_, rfl, f18_spec r3 w7.front (by omega) fun h8 w8 => ⟨_, rfl, brB_of (fun _ => ?_) fun z => ?_⟩⟩
    · refine f18_spec r3 w8 (by omega) fun h9 w9 => ⟨_, rfl, brB_of (fun _ => awakeX w9 hk) fun z => ?_⟩
      have : usedS t3 ≤ 1048576 := by rw [e3.used]; exact u1
      simp at z; omega
    · rw [e23.used] at z
      simp at z
  -- what was read is the same
  have reads : ∀ (D3 D4 Dl : PD) (s3 s4 sl : Ds) (a96 : Option Addr) (c96 : Nat), PRep s3 D3 → PRep s4 D4 → PRep sl Dl → s3.calls ≤ 200 → s4.calls ≤ 200 → sl.calls ≤ 100 → s3.off = false → Same s4 s3 → (∀ d ∈ sl.was, lens sl.fs d ≤ 1048576) → SlV 1 a96 (listS s3).length c96 (strs (listS s3)) →
      ∀ (k i : Nat), i + k = (listS s3).length → ∀ (h : AH) (X : List (Nat × AB)), Own w0 h (D4.blocks s4 ++ (D3.blocks s3 ++ (Dl.blocks sl ++ (slB a96 (strs (listS s3)) (c96 * 1) ++ X)))) →
      f9_21 w0 K a1 l1.length c1 a2 l2.length c2 (some ⟨D3.bd, 0, none⟩) (some ⟨Dl.bd, 0, none⟩) (some ⟨D4.bd, 0, none⟩) a96 (listS s3).length c96 (((listS s3).length : Nat) : Int) ((i : Nat) : Int) h := by
    intro D3 D4 Dl s3 s4 sl a96 c96 r3 r4 rl hc3 hc4 hcl hoff e43 hu v k
    have hll := lle r3.ok (by omega)
    induction k with
    | zero =>
      intro i hi h X w
      exact fin _ _ _ _ h Dl sl _ _ _ rl hcl hu (w.drop.drop) (by simp; omega)
    | succ k ih =>
      intro i hi h X w
      have hil : i < (listS s3).length := by omega
      have hg : (strs (listS s3))[i]? = some (.string (listS s3)[i]) := by simp [strs, hil]
      have rd : Rd w0 h a96 (strs (listS s3)) := v.rd (cs := D4.blocks s4 ++ (D3.blocks s3 ++ Dl.blocks sl)) (bs := X) (by simpa only [List.append_assoc] using w)
      obtain ⟨ad, had, cc⟩ := rd _ _ hg
      have hfd : ∃ y, readS (listS s3)[i] s3 = (0, y) := by
        have hl : listS s3 = s3.dir.map (·.1) := by unfold listS; rw [hoff]; rfl
        have hmem : (listS s3)[i] ∈ s3.dir.map (·.1) := by rw [← hl]; exact List.getElem_mem hil
        obtain ⟨x, hx, ex⟩ := List.mem_map.1 hmem
        unfold readS lookS
        rw [hoff, ← ex, findD_of_mem r3.ok.dir.nd hx]
        exact ⟨_, rfl⟩
      obtain ⟨y, hy⟩ := hfd
      have hy4 : readS (listS s3)[i] s4 = (0, y) := by rw [e43.read, hy]
      refine f9_21_in _ _ _ _ _ _ _ _ _ _ _ _ _ _ _ (brB_of (fun _ => ⟨ad, had, by omega, by omega, _, by rw [Int.toNat_natCast, Nat.mul_one]; exact cc, ?_⟩) fun q => by simp at q; omega)
      refine f21_spec r3 w.front fun h1 b1 d1 v1 w1 => ⟨_, _, _, _, rfl, ?_⟩
      rw [hy] at v1 w1 ⊢
      have w1' : Own w0 h1 (D4.blocks s4 ++ (D3.blocks s3 ++ (Dl.blocks sl ++ (slB a96 (strs (listS s3)) (c96 * 1) ++ (slB b1 (u8s y) (d1 * 1) ++ X))))) := by
        have q := Own.front (cs := slB b1 (u8s y) (d1 * 1)) (ds := D3.blocks s3 ++ (D4.blocks s4 ++ (Dl.blocks sl ++ slB a96 (strs (listS s3)) (c96 * 1)))) (bs := X) (by simpa only [List.append_assoc] using w1)
        have q2 : Own w0 h1 (D3.blocks s3 ++ (D4.blocks s4 ++ (Dl.blocks sl ++ (slB a96 (strs (listS s3)) (c96 * 1) ++ (slB b1 (u8s y) (d1 * 1) ++ X))))) := by simpa only [List.append_assoc] using q
        exact q2.front
      refine f21_spec r4 w1' fun h2 b2 d2 v2 w2 => ⟨_, _, _, _, rfl, brB_of (fun z => by simp at z) fun _ => ?_⟩
      rw [hy4] at v2 w2 ⊢
      have w2' : Own w0 h2 (D4.blocks s4 ++ (D3.blocks s3 ++ (Dl.blocks sl ++ (slB a96 (strs (listS s3)) (c96 * 1) ++ (slB b2 (u8s y) (d2 * 1) ++ (slB b1 (u8s y) (d1 * 1) ++ X)))))) := by
        have q := Own.front (cs := slB b2 (u8s y) (d2 * 1)) (ds := D4.blocks s4 ++ (D3.blocks s3 ++ (Dl.blocks sl ++ slB a96 (strs (listS s3)) (c96 * 1)))) (bs := slB b1 (u8s y) (d1 * 1) ++ X) (by simpa only [List.append_assoc] using w2)
        simpa only [List.append_assoc] using q
      have rd1 : Rd w0 h2 b1 (u8s y) := v1.rd (cs := D4.blocks s4 ++ (D3.blocks s3 ++ (Dl.blocks sl ++ (slB a96 (strs (listS s3)) (c96 * 1) ++ slB b2 (u8s y) (d2 * 1))))) (bs := X) (by simpa only [List.append_assoc] using w2')
      have rd2 : Rd w0 h2 b2 (u8s y) := v2.rd (cs := D4.blocks s4 ++ (D3.blocks s3 ++ (Dl.blocks sl ++ slB a96 (strs (listS s3)) (c96 * 1)))) (bs := slB b1 (u8s y) (d1 * 1) ++ X) (by simpa only [List.append_assoc] using w2')
      refine brB_of (fun z => by simp at z) fun _ => rows8 rd1 rfl (rows8 rd2 rfl ?_)
      simp only [decide_true, Bool.not_true]
      refine f9_26_in _ _ _ _ _ _ _ _ _ _ _ _ _ _ _ _ (brB_of (fun z => by cases z) fun _ => ?_)
      rw [wrapS (by omega)]
      exact ih (i + 1) (by omega) h2 (slB b2 (u8s y) (d2 * 1) ++ (slB b1 (u8s y) (d1 * 1) ++ X)) w2'
  -- the copy of what is sure crashes
  have crash : ∀ (D3 Dl : PD) (s3 sl : Ds), PRep s3 D3 → PRep sl Dl → s3.calls ≤ 200 → sl.calls ≤ 100 → Sure s3 → (∀ d ∈ sl.was, lens sl.fs d ≤ 1048576) → ∀ (h : AH) (X : List (Nat × AB)), Own w0 h (D3.blocks s3 ++ (Dl.blocks sl ++ X)) →
      EvC Go.Proofs.Try.prog w0 37 #[.pointer (some ⟨D3.bd, 0, none⟩)] (fun x'43 h'44 => ∃ p'45 : Option Addr, (x'43 = (.pointer p'45)) ∧ EvC Go.Proofs.Try.prog w0 28 #[(.pointer p'45), (.slice a1 l1.length c1)] (fun x'46 h'47 => (x'46 = (.tuple #[])) ∧ EvC Go.Proofs.Try.prog w0 38 #[(.pointer p'45)] (fun x'48 h'49 => ∃ p'50 : Option Addr, ∃ n'51 : Nat, ∃ n'52 : Nat, (x'48 = (.slice p'50 n'51 n'52)) ∧ EvC Go.Proofs.Try.prog w0 38 #[(.pointer (some ⟨D3.bd, 0, none⟩))] (fun x'53 h'54 => ∃ p'55 : Option Addr, ∃ n'56 : Nat, ∃ n'57 : Nat, (x'53 = (.slice p'55 n'56 n'57)) ∧ EvC Go.Proofs.Try.prog w0 39 #[(.slice p'50 n'51 n'52), (.slice p'55 n'56 n'57)] (fun x'58 h'59 => ∃ t'60 : Bool, (x'58 = (.bool t'60)) ∧ brB (!t'60) (f9_19 w0 K a1 l1.length c1 a2 l2.length c2 (some ⟨D3.bd, 0, none⟩) (some ⟨Dl.bd, 0, none⟩) p'45 true h'59) (EvC Go.Proofs.Try.prog w0 18 #[(.pointer p'45)] (fun x'61 h'62 => ∃ i'63 : Int, (x'61 = (.int .i64 i'63)) ∧ EvC Go.Proofs.Try.prog w0 18 #[(.pointer (some ⟨D3.bd, 0, none⟩))] (fun x'64 h'65 => (∃ i'66 : Int, ((x'64 = (.int .i64 i'66)) ∧ (f9_19 w0 K a1 l1.length c1 a2 l2.length c2 (some ⟨D3.bd, 0, none⟩) (some ⟨Dl.bd, 0, none⟩) p'45 (i'63 != i'66) h'65)))) h'62) h'59)) h'54) h'49) h'47) h'44) h := by
    intro D3 Dl s3 sl r3 rl hc3 hcl su hu h X w
    refine f37_spec r3 w (by omega) fun h1 seen D2 v r2 w1 => ⟨_, rfl, ?_⟩
    have hc2 : (reS seen s3).calls = s3.calls := rfl
    have e2 := reS_same v
    have su2 := reS_sure v su
    generalize reS seen s3 = t2 at r2 w1 hc2 e2 su2
    refine f28_spec r2 w1 (by omega) p1 fun h2 D4 b4 r4 w2 => ⟨rfl, ?_⟩
    rw [← b4]
    have hc4 : (crashS l1 t2).calls = t2.calls := rfl
    have e4 := (crash_same r2.ok su2 l1).trans e2
    generalize crashS l1 t2 = s4 at r4 w2 hc4 e4
    refine f38_spec r4 w2 (by omega) fun b1 d1 h4 v4 w4 => ⟨_, _, _, rfl, ?_⟩
    have w4' : Own w0 h4 (D3.blocks s3 ++ (D4.blocks s4 ++ (Dl.blocks sl ++ (slB b1 (strs (listS s4)) (d1 * 1) ++ X)))) := by
      have q := Own.front (cs := slB b1 (strs (listS s4)) (d1 * 1)) (ds := D4.blocks s4 ++ (D3.blocks s3 ++ Dl.blocks sl)) (bs := X) (by simpa only [List.append_assoc] using w4)
      have q2 : Own w0 h4 (D4.blocks s4 ++ (D3.blocks s3 ++ (Dl.blocks sl ++ (slB b1 (strs (listS s4)) (d1 * 1) ++ X)))) := by simpa only [List.append_assoc] using q
      exact q2.front
    refine f38_spec r3 w4' (by omega) fun b2 d2 h5 v5 w5 => ⟨_, _, _, rfl, ?_⟩
    have w6 : Own w0 h5 (D4.blocks s4 ++ (D3.blocks s3 ++ (Dl.blocks sl ++ (slB b2 (strs (listS s3)) (d2 * 1) ++ (slB b1 (strs (listS s4)) (d1 * 1) ++ X))))) := by
      have q := Own.front (cs := slB b2 (strs (listS s3)) (d2 * 1)) (ds := D3.blocks s3 ++ (D4.blocks s4 ++ Dl.blocks sl)) (bs := slB b1 (strs (listS s4)) (d1 * 1) ++ X) (by simpa only [List.append_assoc] using w5)
      have q2 : Own w0 h5 (D3.blocks s3 ++ (D4.blocks s4 ++ (Dl.blocks sl ++ (slB b2 (strs (listS s3)) (d2 * 1) ++ (slB b1 (strs (listS s4)) (d1 * 1) ++ X))))) := by simpa only [List.append_assoc] using q
      exact q2.front
    have rd1 : Rd w0 h5 b1 (strs (listS s4)) := v4.rd (cs := D4.blocks s4 ++ (D3.blocks s3 ++ (Dl.blocks sl ++ slB b2 (strs (listS s3)) (d2 * 1)))) (bs := X) (by simpa only [List.append_assoc] using w6)
    have rd2 : Rd w0 h5 b2 (strs (listS s3)) := v5.rd (cs := D4.blocks s4 ++ (D3.blocks s3 ++ Dl.blocks sl)) (bs := slB b1 (strs (listS s4)) (d1 * 1) ++ X) (by simpa only [List.append_assoc] using w6)
    have hll := lle r3.ok (by omega)
    rw [e4.list] at rd1 ⊢
    refine f39_same rd1 rd2 (by omega) ⟨_, rfl, brB_of (fun z => by cases z) fun _ => ?_⟩
    refine f18_spec r4 w6 (by omega) fun h7 w7 => ⟨_, rfl, f18_spec r3 w7.front (by omega) fun h8 w8 => ⟨_, rfl, ?_⟩⟩
    rw [e4.used, bne_self_eq_false]
    refine f9_19_in _ _ _ _ _ _ _ _ _ _ _ (brB_of (fun z => by cases z) fun _ => f9_20_in _ _ _ _ _ _ _ _ _ _ (f38_spec r3 w8 (by omega) fun b5 d5 h9 v9 w9 => ⟨_, _, _, rfl, ?_⟩))
    have w9' : Own w0 h9 (D4.blocks s4 ++ (D3.blocks s3 ++ (Dl.blocks sl ++ (slB b5 (strs (listS s3)) (d5 * 1) ++ (slB b2 (strs (listS s3)) (d2 * 1) ++ (slB b1 (strs (listS s4)) (d1 * 1) ++ X)))))) := by
      have q := Own.front (cs := slB b5 (strs (listS s3)) (d5 * 1)) (ds := D3.blocks s3 ++ (D4.blocks s4 ++ Dl.blocks sl)) (bs := slB b2 (strs (listS s3)) (d2 * 1) ++ (slB b1 (strs (listS s4)) (d1 * 1) ++ X)) (by simpa only [List.append_assoc] using w9)
      have q2 : Own w0 h9 (D3.blocks s3 ++ (D4.blocks s4 ++ (Dl.blocks sl ++ (slB b5 (strs (listS s3)) (d5 * 1) ++ (slB b2 (strs (listS s3)) (d2 * 1) ++ (slB b1 (strs (listS s4)) (d1 * 1) ++ X)))))) := by simpa only [List.append_assoc] using q
      exact q2.front
    exact reads D3 D4 Dl s3 s4 sl b5 d5 r3 r4 rl hc3 (by omega) hcl su.off e4 hu v9 (listS s3).length 0 (by omega) h9 _ w9'
  -- each file is made sure
  have sync : ∀ (s : Ds) (Dl : PD) (sl : Ds) (a63 : Option Addr) (c63 : Nat), s.off = false → (s.dir.length : Int) ≤ 100 → PRep sl Dl → sl.calls ≤ 100 → (∀ d ∈ sl.was, lens sl.fs d ≤ 1048576) → SlV 1 a63 (listS s).length c63 (strs (listS s)) →
      ∀ (k i : Nat), i + k = s.dir.length → ∀ (h : AH) (t : Ds) (D : PD) (T : Nat) (X : List (Nat × AB)), PRep t D → t.dir = s.dir → Qt t T → t.calls ≤ 60 + (i : Int) → (∀ e ∈ s.dir.take i, FSure (fileAt t.fs e.2)) → Own w0 h (D.blocks t ++ (Dl.blocks sl ++ (slB a63 (strs (listS s)) (c63 * 1) ++ X))) →
      f9_9 w0 K a1 l1.length c1 a2 l2.length c2 (some ⟨D.bd, 0, none⟩) (some ⟨Dl.bd, 0, none⟩) a63 (listS s).length c63 (((listS s).length : Nat) : Int) ((i : Nat) : Int) h := by
    intro s Dl sl a63 c63 hoff hdl rl hcl hu v k
    have hl : listS s = s.dir.map (·.1) := by unfold listS; rw [hoff]; rfl
    have hlen : (listS s).length = s.dir.length := by rw [hl, List.length_map]
    induction k with
    | zero =>
      intro i hi h t D T X r hd q hc hs w
      have hi' : i = s.dir.length := by omega
      subst hi'
      rw [List.take_length] at hs
      obtain ⟨g1, g2, g3, g4, g5⟩ := syncdir_step q
      have gc := syncDirS_calls t
      refine f9_9_in _ _ _ _ _ _ _ _ _ _ _ _ _ _ (brB_of (fun z => by simp at z; omega) fun _ => f30_spec r w (by omega) fun h1 D1 b1 r1 w1 => ⟨_, rfl, ?_⟩)
      rw [g1]
      refine brB_of (fun z => by cases z) fun _ => ?_
      rw [← b1]
      refine crash D1 Dl _ sl r1 rl (by omega) hcl ⟨by rw [g3, g2], g5, fun e he => ?_⟩ hu h1 _ w1
      rw [g2, hd] at he
      rw [g4]
      exact hs e he
    | succ k ih =>
      intro i hi h t D T X r hd q hc hs w
      have hil : i < s.dir.length := by omega
      have hge := List.getElem?_eq_getElem hil
      have htk : s.dir.take (i + 1) = s.dir.take i ++ [s.dir[i]] := by rw [List.take_add_one, hge]; rfl
      have hmem := List.getElem_mem hil
      generalize s.dir[i] = e at hge htk hmem
      have hg : (strs (listS s))[i]? = some (.string e.1) := by rw [hl]; simp [strs, hge]
      have rd : Rd w0 h a63 (strs (listS s)) := v.rd (cs := D.blocks t ++ Dl.blocks sl) (bs := X) (by simpa only [List.append_assoc] using w)
      obtain ⟨ad, had, cc⟩ := rd _ _ hg
      have hfd : findD e.1 t.dir = some e.2 := by rw [hd]; exact findD_of_mem (by rw [← hd]; exact r.ok.dir.nd) hmem
      obtain ⟨g1, g2, g3, g4, g5, g6⟩ := sync_step r.ok q hfd
      have gc := syncS_calls e.1 t
      refine f9_9_in _ _ _ _ _ _ _ _ _ _ _ _ _ _ (brB_of (fun _ => ⟨ad, had, by omega, by omega, _, by rw [Int.toNat_natCast, Nat.mul_one]; exact cc, f29_spec r w (by omega) fun h1 D1 b1 r1 w1 => ⟨_, rfl, ?_⟩⟩) fun z => by simp at z; omega)
      rw [g1]
      refine brB_of (fun z => by cases z) fun _ => ?_
      rw [← b1, wrapS (by omega)]
      refine ih (i + 1) (by omega) h1 _ D1 T X r1 (by rw [g3, hd]) g2 (by omega) (fun x hx => ?_) w1
      rw [htk] at hx
      rcases List.mem_append.1 hx with hx | hx
      · exact g6 _ (hs x hx)
      · rw [List.mem_singleton] at hx
        subst hx; exact g5
  -- the loose copy
  have loose : ∀ (h : AH) (s : Ds) (D : PD) (X : List (Nat × AB)), s.calls ≤ 40 → Qt s 200000 → PRep s D → Own w0 h (D.blocks s ++ X) → f9_7 w0 K a1 l1.length c1 a2 l2.length c2 (some ⟨D.bd, 0, none⟩) h := fun h s D X hc q r w => by
    refine f9_7_in _ _ _ _ _ _ _ _ (f37_spec r w (by omega) fun h1 seen Dl v rl w1 => ⟨_, rfl, f38_spec r w1.front (by omega) fun b1 d1 h2 v2 w2 => ⟨_, _, _, rfl, ?_⟩⟩)
    have hu : ∀ d ∈ s.was, lens s.fs d ≤ 1048576 := fun d hd => Nat.le_trans (lens_total (q.ids d hd) fun e he => ((r.ok.was d hd).ids e he).1) (by have := q.tot; omega)
    have hdl := r.ok.dir.len
    refine sync s Dl (reS seen s) b1 d1 q.off (by omega) rl (by show s.calls ≤ 100; omega) (reS_lens v hu) v2 s.dir.length 0 (by omega) h2 s D 200000 X r rfl q (by omega) (fun e he => by simp at he) ?_
    exact (sinkO w2)
  have loop : ∀ (k i : Nat), i + k = 40 → ∀ (h : AH) (s : Ds) (D : PD) (X : List (Nat × AB)), s.calls ≤ (i : Int) → Qt s (5000 * i) → PRep s D → Own w0 h (D.blocks s ++ X) →
      f9_3 w0 K a n c a1 l1.length c1 a2 l2.length c2 (some ⟨D.bd, 0, none⟩) ((i : Nat) : Int) h := by
    intro k
    induction k with
    | zero =>
      intro i hi h s D X hc q r w
      have qq : Qt s 200000 := ⟨q.off, q.fuse, q.fails, q.ids, by have := q.tot; omega⟩
      exact f9_3_in _ _ _ _ _ _ _ _ _ _ _ _ (brB_of (fun _ => brB_of (fun q => by simp at q; omega) fun _ => loose h s D X (by omega) qq r w) fun _ => loose h s D X (by omega) qq r w)
    | succ k ih =>
      intro i hi h s D X hc q r w
      have qq : Qt s 200000 := ⟨q.off, q.fuse, q.fails, q.ids, by have := q.tot; omega⟩
      have qn : Qt s (5000 * (i + 1)) := ⟨q.off, q.fuse, q.fails, q.ids, by have := q.tot; omega⟩
      refine f9_3_in _ _ _ _ _ _ _ _ _ _ _ _ (brB_of (fun q9 => brB_of (fun _ => f9_5_in _ _ _ _ _ _ _ _ _ _ _ _ ?_) fun _ => loose h s D X (by omega) qq r w) fun _ => loose h s D X (by omega) qq r w)
      have hil : i < l.length := by have := of_decide_eq_true q9; omega
      have hg := List.getElem?_eq_getElem hil
      have ox := S.ok _ (List.getElem_mem hil)
      generalize l[i] = x at hg ox
      obtain ⟨ad, had, hat⟩ := clLoad S hg
      have hat' : ∀ h, At w0 h (Addr.add ad ((Int.toNat ((i : Nat) : Int)) * 8)) x.cells := fun h => by rw [Int.toNat_natCast]; exact hat h
      have hd : ∀ h, cellA w0 h (Addr.add (Addr.add ad ((Int.toNat ((i : Nat) : Int)) * 8)) 3) = some (.slice x.da x.data.length x.dc) := fun h => hat' h 3 _ rfl
      have ho : ∀ h, cellA w0 h (Addr.add (Addr.add ad ((Int.toNat ((i : Nat) : Int)) * 8)) 0) = some (.int .i64 x.op) := fun h => hat' h 0 _ rfl
      have h0 : (0 : Int) ≤ ((i : Nat) : Int) := by omega
      have h1 : ((i : Nat) : Int) < ((n : Nat) : Int) := by omega
      have skip : f9_6 w0 K a n c a1 l1.length c1 a2 l2.length c2 (some ⟨D.bd, 0, none⟩) ((i : Nat) : Int) false h := by
        refine f9_6_in _ _ _ _ _ _ _ _ _ _ _ _ _ (brB_of (fun z => by cases z) fun _ => ?_)
        rw [wrapS (by omega)]
        exact ih (i + 1) (by omega) h s D X (by omega) qn r w
      refine ⟨ad, had, h0, h1, _, ho h, brB_of (fun q5 => ⟨ad, had, h0, h1, _, ho h, brB_of (fun q0 => ⟨ad, had, h0, h1, _, _, _, hd h, ?_⟩) fun _ => skip⟩) fun _ => skip⟩
      by_cases hdl : x.data.length ≤ 5000
      · rw [show decide (((x.data.length : Nat) : Int) ≤ (5000 : Int)) = true by simp; omega]
        have hdc := doS_calls x s
        have hmw : s.dir ∈ s.was := List.mem_of_getLast? r.la
        refine f9_6_in _ _ _ _ _ _ _ _ _ _ _ _ _ (brB_of (fun _ => ⟨ad, had, h0, h1, _, _, _, _, _, _, _, _, _, _, _, _, ⟨rfl, hat' h⟩, f32_spec ox r w (by omega) hdl fun h2 D2 b2 r2 w2 => ⟨_, rfl, ?_⟩⟩) fun z => by cases z)
        rw [wrapS (by omega), ← b2]
        exact ih (i + 1) (by omega) h2 _ D2 X (by omega) (doS_qt r.ok hmw q (of_decide_eq_true q0) (of_decide_eq_true q5) hdl) r2 w2
      · rw [show decide (((x.data.length : Nat) : Int) ≤ (5000 : Int)) = false by simp; omega]
        exact skip
  refine f9_go _ _ _ _ _ _ _ _ _ _ (f12_spec (by omega) Own.nil fun h1 D r w1 => ⟨_, rfl, ?_⟩)
  exact loop 40 0 (by omega) h1 (newS 1048576) D [] (Int.le_refl _) ⟨rfl, rfl, rfl, fun d hd => by
    have : d = [] := by simpa [newS] using hd
    subst this; simp, Nat.le_refl _⟩ r w1
end Go.G.Ytpjklfmfgmicaaa
