/- What the document's answers compute of versions: Apply. -/
import Derived.Test.YtpnhlgghpciofaaLC
import Derived.Test.YtpnhlgghpciofaaProg
set_option maxRecDepth 100000
namespace Go.G.Ytpnhlgghpciofaa
open Go.RowKit
def f34_J : Nat → List Nat × Nat := jOf [(2, [0, 1, 5, 6, 7, 8, 9, 10, 11, 12, 13, 14, 15, 16, 17, 18, 19, 20, 21, 22, 23, 24, 25, 27, 28, 29, 30, 31, 32, 33, 34, 35, 36, 37, 38, 39, 40, 41, 42, 43, 44, 45, 46, 47, 48, 49, 50, 51, 52, 53, 54, 55, 56, 57, 58, 59, 60, 61, 62, 63, 64, 65, 66, 67, 68, 69, 70, 71, 72, 73, 74, 75, 76, 77, 78, 79, 80, 81, 82, 83, 84, 85, 86, 87, 88, 89, 90, 91, 92, 93, 94, 95, 96, 97, 98, 99, 100, 101, 102, 103, 104, 105, 106, 107, 108, 109, 110, 111, 112, 113, 114, 115, 116, 117, 118, 119, 120, 121, 122, 123, 124, 125, 126, 127, 128, 129, 130, 131, 132, 133, 134, 135, 136, 137, 138, 139, 140, 141, 142, 143, 144, 145, 146, 147, 148, 149], 3), (3, [0, 1, 5, 6, 7, 8, 9, 10, 11, 12, 13, 14, 15, 16, 17, 18, 19, 20, 21, 22, 23, 24, 25, 26, 27, 28, 29, 30, 31, 32, 33, 34, 35, 36, 37, 38, 39, 40, 41, 42, 43, 44, 45, 46, 47, 48, 49, 50, 51, 52, 53, 54, 55, 56, 57, 58, 59, 60, 61, 62, 63, 64, 65, 66, 67, 68, 69, 70, 71, 72, 73, 74, 75, 76, 77, 78, 79, 80, 81, 82, 83, 84, 85, 86, 87, 88, 89, 90, 91, 92, 93, 94, 95, 96, 97, 98, 99, 100, 101, 102, 103, 104, 105, 106, 107, 108, 109, 110, 111, 112, 113, 114, 115, 116, 117, 118, 119, 120, 121, 122, 123, 124, 125, 126, 127, 128, 129, 130, 131, 132, 133, 134, 135, 136, 137, 138, 139, 140, 141, 142, 143, 144, 145, 146, 147, 148, 149], 3), (4, [0, 1, 5, 6, 7, 8, 9, 10, 11, 12, 13, 14, 15, 16, 17, 18, 19, 20, 21, 22, 23, 24, 25, 26, 27, 28, 32, 33, 34, 35, 36, 37, 38, 39, 40, 41, 42, 43, 44, 45, 46, 47, 48, 49, 50, 51, 52, 53, 54, 55, 56, 57, 58, 59, 60, 61, 62, 63, 64, 65, 66, 67, 68, 69, 70, 71, 72, 73, 74, 75, 76, 77, 78, 79, 80, 81, 82, 83, 84, 85, 86, 87, 88, 89, 90, 91, 92, 93, 94, 95, 96, 97, 98, 99, 100, 101, 102, 103, 104, 105, 106, 107, 108, 109, 110, 111, 112, 113, 114, 115, 116, 117, 118, 119, 120, 121, 122, 123, 124, 125, 126, 127, 128, 129, 130, 131, 132, 133, 134, 135, 136, 137, 138, 139, 140, 141, 142, 143, 144, 145, 146, 147, 148, 149], 3), (11, [0, 1, 5, 6, 7, 8, 9, 10, 11, 12, 13, 14, 15, 16, 17, 18, 19, 20, 21, 22, 23, 24, 25, 26, 27, 28, 29, 30, 31, 32, 33, 34, 35, 36, 37, 38, 39, 40, 41, 42, 43, 44, 45, 46, 50, 51, 52, 53, 54, 55, 56, 57, 58, 59, 60, 61, 62, 63, 64, 65, 66, 67, 68, 69, 70, 71, 72, 73, 74, 75, 76, 77, 78, 79, 80, 81, 82, 83, 84, 85, 86, 87, 88, 89, 90, 91, 92, 93, 94, 95, 96, 97, 98, 99, 100, 101, 102, 103, 104, 105, 106, 107, 108, 109, 110, 111, 112, 113, 114, 115, 116, 117, 118, 119, 120, 121, 122, 123, 124, 125, 126, 127, 128, 129, 130, 131, 132, 133, 134, 135, 136, 137, 138, 139, 140, 141, 142, 143, 144, 145, 146, 147, 148, 149], 3), (15, [0, 1, 5, 6, 7, 8, 9, 10, 11, 12, 13, 14, 15, 16, 17, 18, 19, 20, 21, 22, 23, 24, 25, 26, 27, 28, 29, 30, 31, 32, 33, 34, 35, 36, 37, 38, 39, 40, 41, 42, 43, 44, 45, 46, 50, 51, 52, 53, 54, 55, 56, 57, 58, 59, 60, 61, 62, 63, 64, 65, 66, 67, 68, 70, 71, 72, 73, 74, 75, 76, 77, 78, 79, 80, 81, 82, 83, 84, 85, 86, 87, 88, 89, 90, 91, 92, 93, 94, 95, 96, 97, 98, 99, 100, 101, 102, 103, 104, 105, 106, 107, 108, 109, 110, 111, 112, 113, 114, 115, 116, 117, 118, 119, 120, 121, 122, 123, 124, 125, 126, 127, 128, 129, 130, 131, 132, 133, 134, 135, 136, 137, 138, 139, 140, 141, 142, 143, 144, 145, 146, 147, 148, 149], 3), (18, [0, 1, 5, 6, 7, 8, 9, 10, 11, 12, 13, 14, 15, 16, 17, 18, 19, 20, 21, 22, 23, 24, 25, 26, 27, 28, 29, 30, 31, 32, 33, 34, 35, 36, 37, 38, 39, 40, 41, 42, 43, 44, 45, 46, 47, 48, 49, 50, 51, 52, 53, 54, 55, 56, 57, 58, 59, 60, 61, 62, 63, 64, 65, 66, 67, 68, 69, 70, 71, 72, 73, 74, 75, 76, 77, 78, 79, 80, 81, 82, 83, 84, 85, 86, 87, 88, 89, 91, 92, 93, 94, 95, 96, 97, 98, 99, 100, 101, 102, 103, 104, 105, 106, 107, 108, 109, 110, 111, 112, 113, 114, 115, 116, 117, 118, 119, 120, 121, 122, 123, 124, 125, 126, 127, 128, 129, 130, 131, 132, 133, 134, 135, 136, 137, 138, 139, 140, 141, 142, 143, 144, 145, 146, 147, 148, 149], 3), (19, [0, 1, 5, 6, 7, 8, 9, 10, 11, 12, 13, 14, 15, 16, 17, 18, 19, 20, 21, 22, 23, 24, 25, 26, 27, 28, 29, 30, 31, 32, 33, 34, 35, 36, 37, 38, 39, 40, 41, 42, 43, 44, 45, 46, 47, 48, 49, 50, 51, 52, 53, 54, 55, 56, 57, 58, 59, 60, 61, 62, 63, 64, 65, 66, 67, 68, 69, 70, 71, 72, 73, 74, 75, 76, 77, 78, 79, 80, 81, 82, 83, 84, 85, 86, 87, 88, 89, 90, 91, 92, 93, 94, 95, 96, 97, 98, 99, 100, 101, 102, 103, 104, 105, 106, 107, 108, 109, 110, 111, 112, 113, 114, 115, 116, 117, 118, 119, 120, 121, 122, 123, 124, 125, 126, 127, 128, 129, 130, 131, 132, 133, 134, 135, 136, 137, 138, 139, 140, 141, 142, 143, 144, 145, 146, 147, 148, 149], 3), (23, [0, 1, 2, 5, 6, 7, 8, 9, 10, 11, 12, 13, 15, 16, 17, 18, 19, 20, 21, 22, 23, 24, 25, 26, 27, 28, 29, 30, 31, 32, 33, 34, 35, 36, 37, 38, 39, 40, 41, 42, 43, 44, 45, 46, 47, 48, 49, 50, 51, 52, 53, 54, 55, 56, 57, 58, 59, 60, 61, 62, 63, 64, 65, 66, 67, 68, 69, 70, 71, 72, 73, 74, 75, 76, 77, 78, 79, 80, 81, 82, 83, 84, 85, 86, 87, 88, 89, 90, 91, 92, 93, 94, 95, 96, 97, 98, 99, 100, 101, 102, 103, 104, 105, 106, 107, 108, 109, 110, 111, 112, 116, 117, 118, 119, 120, 121, 122, 123, 124, 125, 126, 127, 128, 129, 130, 131, 132, 133, 134, 135, 136, 137, 138, 139, 140, 141, 142, 143, 144, 145, 146, 147, 148, 149], 4), (29, [0, 1, 2, 3, 5, 6, 7, 8, 9, 10, 11, 12, 13, 15, 16, 17, 18, 19, 20, 21, 22, 23, 24, 25, 26, 27, 28, 29, 30, 31, 32, 33, 34, 35, 36, 37, 38, 39, 40, 41, 42, 43, 44, 45, 46, 47, 48, 49, 50, 51, 52, 53, 54, 55, 56, 57, 58, 59, 60, 61, 62, 63, 64, 65, 66, 67, 68, 69, 70, 71, 72, 73, 74, 75, 76, 77, 78, 79, 80, 81, 82, 83, 84, 85, 86, 87, 88, 89, 90, 91, 92, 93, 94, 95, 96, 97, 98, 99, 100, 101, 102, 103, 104, 105, 106, 107, 108, 109, 110, 111, 112, 113, 114, 115, 116, 117, 118, 119, 120, 121, 122, 123, 124, 125, 126, 127, 128, 129, 130, 131, 132, 136, 137, 138, 139, 140, 141, 142, 143, 144, 145, 146, 147, 148, 149], 4)]

def f34_2 (w0 : World) (K : Value → AH → Prop) (x26 : Bool) (xb0_0 : Int) (xb0_1 : Int) (xb0_2 : Int) (ab0_3 : Option Go.Addr) (nb0_3 : Nat) (cb0_3 : Nat) (xb1_0 : Int) (xb1_1 : Int) (xb1_2 : Int) (ab1_3 : Option Go.Addr) (nb1_3 : Nat) (cb1_3 : Nat) (ab1_4 : Option Go.Addr) (nb1_4 : Nat) (cb1_4 : Nat) (xb2_0 : Int) (xb2_1 : Int) (xb2_2 : Int) (ab2_3 : Option Go.Addr) (nb2_3 : Nat) (cb2_3 : Nat) (h : AH) : Prop :=
  ∀ j : Nat → Value, LPk Go.Proofs.Try.prog w0 (EvC Go.Proofs.Try.prog w0) f34_J 34 K 2 [.v (j 0), .v (j 1), .bp 0 0, .bp 1 0, .bp 2 0, .v (j 5), .v (j 6), .v (j 7), .v (j 8), .v (j 9), .v (j 10), .v (j 11), .v (j 12), .v (j 13), .v (j 14), .v (j 15), .v (j 16), .v (j 17), .v (j 18), .v (j 19), .v (j 20), .v (j 21), .v (j 22), .v (j 23), .v (j 24), .v (j 25), .v (.bool x26), .v (j 27), .v (j 28), .v (j 29), .v (j 30), .v (j 31), .v (j 32), .v (j 33), .v (j 34), .v (j 35), .v (j 36), .v (j 37), .v (j 38), .v (j 39), .v (j 40), .v (j 41), .v (j 42), .v (j 43), .v (j 44), .v (j 45), .v (j 46), .v (j 47), .v (j 48), .v (j 49), .v (j 50), .v (j 51), .v (j 52), .v (j 53), .v (j 54), .v (j 55), .v (j 56), .v (j 57), .v (j 58), .v (j 59), .v (j 60), .v (j 61), .v (j 62), .v (j 63), .v (j 64), .v (j 65), .v (j 66), .v (j 67), .v (j 68), .v (j 69), .v (j 70), .v (j 71), .v (j 72), .v (j 73), .v (j 74), .v (j 75), .v (j 76), .v (j 77), .v (j 78), .v (j 79), .v (j 80), .v (j 81), .v (j 82), .v (j 83), .v (j 84), .v (j 85), .v (j 86), .v (j 87), .v (j 88), .v (j 89), .v (j 90), .v (j 91), .v (j 92), .v (j 93), .v (j 94), .v (j 95), .v (j 96), .v (j 97), .v (j 98), .v (j 99), .v (j 100), .v (j 101), .v (j 102), .v (j 103), .v (j 104), .v (j 105), .v (j 106), .v (j 107), .v (j 108), .v (j 109), .v (j 110), .v (j 111), .v (j 112), .v (j 113), .v (j 114), .v (j 115), .v (j 116), .v (j 117), .v (j 118), .v (j 119), .v (j 120), .v (j 121), .v (j 122), .v (j 123), .v (j 124), .v (j 125), .v (j 126), .v (j 127), .v (j 128), .v (j 129), .v (j 130), .v (j 131), .v (j 132), .v (j 133), .v (j 134), .v (j 135), .v (j 136), .v (j 137), .v (j 138), .v (j 139), .v (j 140), .v (j 141), .v (j 142), .v (j 143), .v (j 144), .v (j 145), .v (j 146), .v (j 147), .v (j 148), .v (j 149)] [some [(.int .i64 xb0_0), (.int .i64 xb0_1), (.int .i64 xb0_2), (.slice ab0_3 nb0_3 cb0_3)], some [(.int .i64 xb1_0), (.int .i64 xb1_1), (.int .i64 xb1_2), (.slice ab1_3 nb1_3 cb1_3), (.slice ab1_4 nb1_4 cb1_4)], some [(.int .i64 xb2_0), (.int .i64 xb2_1), (.int .i64 xb2_2), (.slice ab2_3 nb2_3 cb2_3)]] h

def f34_3 (w0 : World) (K : Value → AH → Prop) (xb0_0 : Int) (xb0_1 : Int) (xb0_2 : Int) (ab0_3 : Option Go.Addr) (nb0_3 : Nat) (cb0_3 : Nat) (xb1_0 : Int) (xb1_1 : Int) (xb1_2 : Int) (ab1_3 : Option Go.Addr) (nb1_3 : Nat) (cb1_3 : Nat) (ab1_4 : Option Go.Addr) (nb1_4 : Nat) (cb1_4 : Nat) (xb2_0 : Int) (xb2_1 : Int) (xb2_2 : Int) (ab2_3 : Option Go.Addr) (nb2_3 : Nat) (cb2_3 : Nat) (h : AH) : Prop :=
  ∀ j : Nat → Value, LPk Go.Proofs.Try.prog w0 (EvC Go.Proofs.Try.prog w0) f34_J 34 K 3 [.v (j 0), .v (j 1), .bp 0 0, .bp 1 0, .bp 2 0, .v (j 5), .v (j 6), .v (j 7), .v (j 8), .v (j 9), .v (j 10), .v (j 11), .v (j 12), .v (j 13), .v (j 14), .v (j 15), .v (j 16), .v (j 17), .v (j 18), .v (j 19), .v (j 20), .v (j 21), .v (j 22), .v (j 23), .v (j 24), .v (j 25), .v (j 26), .v (j 27), .v (j 28), .v (j 29), .v (j 30), .v (j 31), .v (j 32), .v (j 33), .v (j 34), .v (j 35), .v (j 36), .v (j 37), .v (j 38), .v (j 39), .v (j 40), .v (j 41), .v (j 42), .v (j 43), .v (j 44), .v (j 45), .v (j 46), .v (j 47), .v (j 48), .v (j 49), .v (j 50), .v (j 51), .v (j 52), .v (j 53), .v (j 54), .v (j 55), .v (j 56), .v (j 57), .v (j 58), .v (j 59), .v (j 60), .v (j 61), .v (j 62), .v (j 63), .v (j 64), .v (j 65), .v (j 66), .v (j 67), .v (j 68), .v (j 69), .v (j 70), .v (j 71), .v (j 72), .v (j 73), .v (j 74), .v (j 75), .v (j 76), .v (j 77), .v (j 78), .v (j 79), .v (j 80), .v (j 81), .v (j 82), .v (j 83), .v (j 84), .v (j 85), .v (j 86), .v (j 87), .v (j 88), .v (j 89), .v (j 90), .v (j 91), .v (j 92), .v (j 93), .v (j 94), .v (j 95), .v (j 96), .v (j 97), .v (j 98), .v (j 99), .v (j 100), .v (j 101), .v (j 102), .v (j 103), .v (j 104), .v (j 105), .v (j 106), .v (j 107), .v (j 108), .v (j 109), .v (j 110), .v (j 111), .v (j 112), .v (j 113), .v (j 114), .v (j 115), .v (j 116), .v (j 117), .v (j 118), .v (j 119), .v (j 120), .v (j 121), .v (j 122), .v (j 123), .v (j 124), .v (j 125), .v (j 126), .v (j 127), .v (j 128), .v (j 129), .v (j 130), .v (j 131), .v (j 132), .v (j 133), .v (j 134), .v (j 135), .v (j 136), .v (j 137), .v (j 138), .v (j 139), .v (j 140), .v (j 141), .v (j 142), .v (j 143), .v (j 144), .v (j 145), .v (j 146), .v (j 147), .v (j 148), .v (j 149)] [some [(.int .i64 xb0_0), (.int .i64 xb0_1), (.int .i64 xb0_2), (.slice ab0_3 nb0_3 cb0_3)], some [(.int .i64 xb1_0), (.int .i64 xb1_1), (.int .i64 xb1_2), (.slice ab1_3 nb1_3 cb1_3), (.slice ab1_4 nb1_4 cb1_4)], some [(.int .i64 xb2_0), (.int .i64 xb2_1), (.int .i64 xb2_2), (.slice ab2_3 nb2_3 cb2_3)]] h

def f34_4 (w0 : World) (K : Value → AH → Prop) (a29 : Option Go.Addr) (n29 : Nat) (c29 : Nat) (x30 : Int) (x31 : Int) (xb0_0 : Int) (xb0_1 : Int) (xb0_2 : Int) (ab0_3 : Option Go.Addr) (nb0_3 : Nat) (cb0_3 : Nat) (xb1_0 : Int) (xb1_1 : Int) (xb1_2 : Int) (ab1_3 : Option Go.Addr) (nb1_3 : Nat) (cb1_3 : Nat) (ab1_4 : Option Go.Addr) (nb1_4 : Nat) (cb1_4 : Nat) (xb2_0 : Int) (xb2_1 : Int) (xb2_2 : Int) (ab2_3 : Option Go.Addr) (nb2_3 : Nat) (cb2_3 : Nat) (h : AH) : Prop :=
  ∀ j : Nat → Value, LPk Go.Proofs.Try.prog w0 (EvC Go.Proofs.Try.prog w0) f34_J 34 K 4 [.v (j 0), .v (j 1), .bp 0 0, .bp 1 0, .bp 2 0, .v (j 5), .v (j 6), .v (j 7), .v (j 8), .v (j 9), .v (j 10), .v (j 11), .v (j 12), .v (j 13), .v (j 14), .v (j 15), .v (j 16), .v (j 17), .v (j 18), .v (j 19), .v (j 20), .v (j 21), .v (j 22), .v (j 23), .v (j 24), .v (j 25), .v (j 26), .v (j 27), .v (j 28), .v (.slice a29 n29 c29), .v (.int .i64 x30), .v (.int .i64 x31), .v (j 32), .v (j 33), .v (j 34), .v (j 35), .v (j 36), .v (j 37), .v (j 38), .v (j 39), .v (j 40), .v (j 41), .v (j 42), .v (j 43), .v (j 44), .v (j 45), .v (j 46), .v (j 47), .v (j 48), .v (j 49), .v (j 50), .v (j 51), .v (j 52), .v (j 53), .v (j 54), .v (j 55), .v (j 56), .v (j 57), .v (j 58), .v (j 59), .v (j 60), .v (j 61), .v (j 62), .v (j 63), .v (j 64), .v (j 65), .v (j 66), .v (j 67), .v (j 68), .v (j 69), .v (j 70), .v (j 71), .v (j 72), .v (j 73), .v (j 74), .v (j 75), .v (j 76), .v (j 77), .v (j 78), .v (j 79), .v (j 80), .v (j 81), .v (j 82), .v (j 83), .v (j 84), .v (j 85), .v (j 86), .v (j 87), .v (j 88), .v (j 89), .v (j 90), .v (j 91), .v (j 92), .v (j 93), .v (j 94), .v (j 95), .v (j 96), .v (j 97), .v (j 98), .v (j 99), .v (j 100), .v (j 101), .v (j 102), .v (j 103), .v (j 104), .v (j 105), .v (j 106), .v (j 107), .v (j 108), .v (j 109), .v (j 110), .v (j 111), .v (j 112), .v (j 113), .v (j 114), .v (j 115), .v (j 116), .v (j 117), .v (j 118), .v (j 119), .v (j 120), .v (j 121), .v (j 122), .v (j 123), .v (j 124), .v (j 125), .v (j 126), .v (j 127), .v (j 128), .v (j 129), .v (j 130), .v (j 131), .v (j 132), .v (j 133), .v (j 134), .v (j 135), .v (j 136), .v (j 137), .v (j 138), .v (j 139), .v (j 140), .v (j 141), .v (j 142), .v (j 143), .v (j 144), .v (j 145), .v (j 146), .v (j 147), .v (j 148), .v (j 149)] [some [(.int .i64 xb0_0), (.int .i64 xb0_1), (.int .i64 xb0_2), (.slice ab0_3 nb0_3 cb0_3)], some [(.int .i64 xb1_0), (.int .i64 xb1_1), (.int .i64 xb1_2), (.slice ab1_3 nb1_3 cb1_3), (.slice ab1_4 nb1_4 cb1_4)], some [(.int .i64 xb2_0), (.int .i64 xb2_1), (.int .i64 xb2_2), (.slice ab2_3 nb2_3 cb2_3)]] h

def f34_11 (w0 : World) (K : Value → AH → Prop) (a47 : Option Go.Addr) (n47 : Nat) (c47 : Nat) (x48 : Int) (x49 : Int) (xb0_0 : Int) (xb0_1 : Int) (xb0_2 : Int) (ab0_3 : Option Go.Addr) (nb0_3 : Nat) (cb0_3 : Nat) (xb1_0 : Int) (xb1_1 : Int) (xb1_2 : Int) (ab1_3 : Option Go.Addr) (nb1_3 : Nat) (cb1_3 : Nat) (ab1_4 : Option Go.Addr) (nb1_4 : Nat) (cb1_4 : Nat) (xb2_0 : Int) (xb2_1 : Int) (xb2_2 : Int) (ab2_3 : Option Go.Addr) (nb2_3 : Nat) (cb2_3 : Nat) (h : AH) : Prop :=
  ∀ j : Nat → Value, LPk Go.Proofs.Try.prog w0 (EvC Go.Proofs.Try.prog w0) f34_J 34 K 11 [.v (j 0), .v (j 1), .bp 0 0, .bp 1 0, .bp 2 0, .v (j 5), .v (j 6), .v (j 7), .v (j 8), .v (j 9), .v (j 10), .v (j 11), .v (j 12), .v (j 13), .v (j 14), .v (j 15), .v (j 16), .v (j 17), .v (j 18), .v (j 19), .v (j 20), .v (j 21), .v (j 22), .v (j 23), .v (j 24), .v (j 25), .v (j 26), .v (j 27), .v (j 28), .v (j 29), .v (j 30), .v (j 31), .v (j 32), .v (j 33), .v (j 34), .v (j 35), .v (j 36), .v (j 37), .v (j 38), .v (j 39), .v (j 40), .v (j 41), .v (j 42), .v (j 43), .v (j 44), .v (j 45), .v (j 46), .v (.slice a47 n47 c47), .v (.int .i64 x48), .v (.int .i64 x49), .v (j 50), .v (j 51), .v (j 52), .v (j 53), .v (j 54), .v (j 55), .v (j 56), .v (j 57), .v (j 58), .v (j 59), .v (j 60), .v (j 61), .v (j 62), .v (j 63), .v (j 64), .v (j 65), .v (j 66), .v (j 67), .v (j 68), .v (j 69), .v (j 70), .v (j 71), .v (j 72), .v (j 73), .v (j 74), .v (j 75), .v (j 76), .v (j 77), .v (j 78), .v (j 79), .v (j 80), .v (j 81), .v (j 82), .v (j 83), .v (j 84), .v (j 85), .v (j 86), .v (j 87), .v (j 88), .v (j 89), .v (j 90), .v (j 91), .v (j 92), .v (j 93), .v (j 94), .v (j 95), .v (j 96), .v (j 97), .v (j 98), .v (j 99), .v (j 100), .v (j 101), .v (j 102), .v (j 103), .v (j 104), .v (j 105), .v (j 106), .v (j 107), .v (j 108), .v (j 109), .v (j 110), .v (j 111), .v (j 112), .v (j 113), .v (j 114), .v (j 115), .v (j 116), .v (j 117), .v (j 118), .v (j 119), .v (j 120), .v (j 121), .v (j 122), .v (j 123), .v (j 124), .v (j 125), .v (j 126), .v (j 127), .v (j 128), .v (j 129), .v (j 130), .v (j 131), .v (j 132), .v (j 133), .v (j 134), .v (j 135), .v (j 136), .v (j 137), .v (j 138), .v (j 139), .v (j 140), .v (j 141), .v (j 142), .v (j 143), .v (j 144), .v (j 145), .v (j 146), .v (j 147), .v (j 148), .v (j 149)] [some [(.int .i64 xb0_0), (.int .i64 xb0_1), (.int .i64 xb0_2), (.slice ab0_3 nb0_3 cb0_3)], some [(.int .i64 xb1_0), (.int .i64 xb1_1), (.int .i64 xb1_2), (.slice ab1_3 nb1_3 cb1_3), (.slice ab1_4 nb1_4 cb1_4)], some [(.int .i64 xb2_0), (.int .i64 xb2_1), (.int .i64 xb2_2), (.slice ab2_3 nb2_3 cb2_3)]] h

def f34_15 (w0 : World) (K : Value → AH → Prop) (a47 : Option Go.Addr) (n47 : Nat) (c47 : Nat) (x48 : Int) (x49 : Int) (x69 : Bool) (xb0_0 : Int) (xb0_1 : Int) (xb0_2 : Int) (ab0_3 : Option Go.Addr) (nb0_3 : Nat) (cb0_3 : Nat) (xb1_0 : Int) (xb1_1 : Int) (xb1_2 : Int) (ab1_3 : Option Go.Addr) (nb1_3 : Nat) (cb1_3 : Nat) (ab1_4 : Option Go.Addr) (nb1_4 : Nat) (cb1_4 : Nat) (xb2_0 : Int) (xb2_1 : Int) (xb2_2 : Int) (ab2_3 : Option Go.Addr) (nb2_3 : Nat) (cb2_3 : Nat) (h : AH) : Prop :=
  ∀ j : Nat → Value, LPk Go.Proofs.Try.prog w0 (EvC Go.Proofs.Try.prog w0) f34_J 34 K 15 [.v (j 0), .v (j 1), .bp 0 0, .bp 1 0, .bp 2 0, .v (j 5), .v (j 6), .v (j 7), .v (j 8), .v (j 9), .v (j 10), .v (j 11), .v (j 12), .v (j 13), .v (j 14), .v (j 15), .v (j 16), .v (j 17), .v (j 18), .v (j 19), .v (j 20), .v (j 21), .v (j 22), .v (j 23), .v (j 24), .v (j 25), .v (j 26), .v (j 27), .v (j 28), .v (j 29), .v (j 30), .v (j 31), .v (j 32), .v (j 33), .v (j 34), .v (j 35), .v (j 36), .v (j 37), .v (j 38), .v (j 39), .v (j 40), .v (j 41), .v (j 42), .v (j 43), .v (j 44), .v (j 45), .v (j 46), .v (.slice a47 n47 c47), .v (.int .i64 x48), .v (.int .i64 x49), .v (j 50), .v (j 51), .v (j 52), .v (j 53), .v (j 54), .v (j 55), .v (j 56), .v (j 57), .v (j 58), .v (j 59), .v (j 60), .v (j 61), .v (j 62), .v (j 63), .v (j 64), .v (j 65), .v (j 66), .v (j 67), .v (j 68), .v (.bool x69), .v (j 70), .v (j 71), .v (j 72), .v (j 73), .v (j 74), .v (j 75), .v (j 76), .v (j 77), .v (j 78), .v (j 79), .v (j 80), .v (j 81), .v (j 82), .v (j 83), .v (j 84), .v (j 85), .v (j 86), .v (j 87), .v (j 88), .v (j 89), .v (j 90), .v (j 91), .v (j 92), .v (j 93), .v (j 94), .v (j 95), .v (j 96), .v (j 97), .v (j 98), .v (j 99), .v (j 100), .v (j 101), .v (j 102), .v (j 103), .v (j 104), .v (j 105), .v (j 106), .v (j 107), .v (j 108), .v (j 109), .v (j 110), .v (j 111), .v (j 112), .v (j 113), .v (j 114), .v (j 115), .v (j 116), .v (j 117), .v (j 118), .v (j 119), .v (j 120), .v (j 121), .v (j 122), .v (j 123), .v (j 124), .v (j 125), .v (j 126), .v (j 127), .v (j 128), .v (j 129), .v (j 130), .v (j 131), .v (j 132), .v (j 133), .v (j 134), .v (j 135), .v (j 136), .v (j 137), .v (j 138), .v (j 139), .v (j 140), .v (j 141), .v (j 142), .v (j 143), .v (j 144), .v (j 145), .v (j 146), .v (j 147), .v (j 148), .v (j 149)] [some [(.int .i64 xb0_0), (.int .i64 xb0_1), (.int .i64 xb0_2), (.slice ab0_3 nb0_3 cb0_3)], some [(.int .i64 xb1_0), (.int .i64 xb1_1), (.int .i64 xb1_2), (.slice ab1_3 nb1_3 cb1_3), (.slice ab1_4 nb1_4 cb1_4)], some [(.int .i64 xb2_0), (.int .i64 xb2_1), (.int .i64 xb2_2), (.slice ab2_3 nb2_3 cb2_3)]] h

def f34_18 (w0 : World) (K : Value → AH → Prop) (x90 : Bool) (xb0_0 : Int) (xb0_1 : Int) (xb0_2 : Int) (ab0_3 : Option Go.Addr) (nb0_3 : Nat) (cb0_3 : Nat) (xb1_0 : Int) (xb1_1 : Int) (xb1_2 : Int) (ab1_3 : Option Go.Addr) (nb1_3 : Nat) (cb1_3 : Nat) (ab1_4 : Option Go.Addr) (nb1_4 : Nat) (cb1_4 : Nat) (xb2_0 : Int) (xb2_1 : Int) (xb2_2 : Int) (ab2_3 : Option Go.Addr) (nb2_3 : Nat) (cb2_3 : Nat) (h : AH) : Prop :=
  ∀ j : Nat → Value, LPk Go.Proofs.Try.prog w0 (EvC Go.Proofs.Try.prog w0) f34_J 34 K 18 [.v (j 0), .v (j 1), .bp 0 0, .bp 1 0, .bp 2 0, .v (j 5), .v (j 6), .v (j 7), .v (j 8), .v (j 9), .v (j 10), .v (j 11), .v (j 12), .v (j 13), .v (j 14), .v (j 15), .v (j 16), .v (j 17), .v (j 18), .v (j 19), .v (j 20), .v (j 21), .v (j 22), .v (j 23), .v (j 24), .v (j 25), .v (j 26), .v (j 27), .v (j 28), .v (j 29), .v (j 30), .v (j 31), .v (j 32), .v (j 33), .v (j 34), .v (j 35), .v (j 36), .v (j 37), .v (j 38), .v (j 39), .v (j 40), .v (j 41), .v (j 42), .v (j 43), .v (j 44), .v (j 45), .v (j 46), .v (j 47), .v (j 48), .v (j 49), .v (j 50), .v (j 51), .v (j 52), .v (j 53), .v (j 54), .v (j 55), .v (j 56), .v (j 57), .v (j 58), .v (j 59), .v (j 60), .v (j 61), .v (j 62), .v (j 63), .v (j 64), .v (j 65), .v (j 66), .v (j 67), .v (j 68), .v (j 69), .v (j 70), .v (j 71), .v (j 72), .v (j 73), .v (j 74), .v (j 75), .v (j 76), .v (j 77), .v (j 78), .v (j 79), .v (j 80), .v (j 81), .v (j 82), .v (j 83), .v (j 84), .v (j 85), .v (j 86), .v (j 87), .v (j 88), .v (j 89), .v (.bool x90), .v (j 91), .v (j 92), .v (j 93), .v (j 94), .v (j 95), .v (j 96), .v (j 97), .v (j 98), .v (j 99), .v (j 100), .v (j 101), .v (j 102), .v (j 103), .v (j 104), .v (j 105), .v (j 106), .v (j 107), .v (j 108), .v (j 109), .v (j 110), .v (j 111), .v (j 112), .v (j 113), .v (j 114), .v (j 115), .v (j 116), .v (j 117), .v (j 118), .v (j 119), .v (j 120), .v (j 121), .v (j 122), .v (j 123), .v (j 124), .v (j 125), .v (j 126), .v (j 127), .v (j 128), .v (j 129), .v (j 130), .v (j 131), .v (j 132), .v (j 133), .v (j 134), .v (j 135), .v (j 136), .v (j 137), .v (j 138), .v (j 139), .v (j 140), .v (j 141), .v (j 142), .v (j 143), .v (j 144), .v (j 145), .v (j 146), .v (j 147), .v (j 148), .v (j 149)] [some [(.int .i64 xb0_0), (.int .i64 xb0_1), (.int .i64 xb0_2), (.slice ab0_3 nb0_3 cb0_3)], some [(.int .i64 xb1_0), (.int .i64 xb1_1), (.int .i64 xb1_2), (.slice ab1_3 nb1_3 cb1_3), (.slice ab1_4 nb1_4 cb1_4)], some [(.int .i64 xb2_0), (.int .i64 xb2_1), (.int .i64 xb2_2), (.slice ab2_3 nb2_3 cb2_3)]] h

def f34_19 (w0 : World) (K : Value → AH → Prop) (xb0_0 : Int) (xb0_1 : Int) (xb0_2 : Int) (ab0_3 : Option Go.Addr) (nb0_3 : Nat) (cb0_3 : Nat) (xb1_0 : Int) (xb1_1 : Int) (xb1_2 : Int) (ab1_3 : Option Go.Addr) (nb1_3 : Nat) (cb1_3 : Nat) (ab1_4 : Option Go.Addr) (nb1_4 : Nat) (cb1_4 : Nat) (xb2_0 : Int) (xb2_1 : Int) (xb2_2 : Int) (ab2_3 : Option Go.Addr) (nb2_3 : Nat) (cb2_3 : Nat) (h : AH) : Prop :=
  ∀ j : Nat → Value, LPk Go.Proofs.Try.prog w0 (EvC Go.Proofs.Try.prog w0) f34_J 34 K 19 [.v (j 0), .v (j 1), .bp 0 0, .bp 1 0, .bp 2 0, .v (j 5), .v (j 6), .v (j 7), .v (j 8), .v (j 9), .v (j 10), .v (j 11), .v (j 12), .v (j 13), .v (j 14), .v (j 15), .v (j 16), .v (j 17), .v (j 18), .v (j 19), .v (j 20), .v (j 21), .v (j 22), .v (j 23), .v (j 24), .v (j 25), .v (j 26), .v (j 27), .v (j 28), .v (j 29), .v (j 30), .v (j 31), .v (j 32), .v (j 33), .v (j 34), .v (j 35), .v (j 36), .v (j 37), .v (j 38), .v (j 39), .v (j 40), .v (j 41), .v (j 42), .v (j 43), .v (j 44), .v (j 45), .v (j 46), .v (j 47), .v (j 48), .v (j 49), .v (j 50), .v (j 51), .v (j 52), .v (j 53), .v (j 54), .v (j 55), .v (j 56), .v (j 57), .v (j 58), .v (j 59), .v (j 60), .v (j 61), .v (j 62), .v (j 63), .v (j 64), .v (j 65), .v (j 66), .v (j 67), .v (j 68), .v (j 69), .v (j 70), .v (j 71), .v (j 72), .v (j 73), .v (j 74), .v (j 75), .v (j 76), .v (j 77), .v (j 78), .v (j 79), .v (j 80), .v (j 81), .v (j 82), .v (j 83), .v (j 84), .v (j 85), .v (j 86), .v (j 87), .v (j 88), .v (j 89), .v (j 90), .v (j 91), .v (j 92), .v (j 93), .v (j 94), .v (j 95), .v (j 96), .v (j 97), .v (j 98), .v (j 99), .v (j 100), .v (j 101), .v (j 102), .v (j 103), .v (j 104), .v (j 105), .v (j 106), .v (j 107), .v (j 108), .v (j 109), .v (j 110), .v (j 111), .v (j 112), .v (j 113), .v (j 114), .v (j 115), .v (j 116), .v (j 117), .v (j 118), .v (j 119), .v (j 120), .v (j 121), .v (j 122), .v (j 123), .v (j 124), .v (j 125), .v (j 126), .v (j 127), .v (j 128), .v (j 129), .v (j 130), .v (j 131), .v (j 132), .v (j 133), .v (j 134), .v (j 135), .v (j 136), .v (j 137), .v (j 138), .v (j 139), .v (j 140), .v (j 141), .v (j 142), .v (j 143), .v (j 144), .v (j 145), .v (j 146), .v (j 147), .v (j 148), .v (j 149)] [some [(.int .i64 xb0_0), (.int .i64 xb0_1), (.int .i64 xb0_2), (.slice ab0_3 nb0_3 cb0_3)], some [(.int .i64 xb1_0), (.int .i64 xb1_1), (.int .i64 xb1_2), (.slice ab1_3 nb1_3 cb1_3), (.slice ab1_4 nb1_4 cb1_4)], some [(.int .i64 xb2_0), (.int .i64 xb2_1), (.int .i64 xb2_2), (.slice ab2_3 nb2_3 cb2_3)]] h

def f34_23 (w0 : World) (K : Value → AH → Prop) (a113 : Option Go.Addr) (n113 : Nat) (c113 : Nat) (x114 : Int) (x115 : Int) (xb0_0 : Int) (xb0_1 : Int) (xb0_2 : Int) (ab0_3 : Option Go.Addr) (nb0_3 : Nat) (cb0_3 : Nat) (xb1_0 : Int) (xb1_1 : Int) (xb1_2 : Int) (ab1_3 : Option Go.Addr) (nb1_3 : Nat) (cb1_3 : Nat) (ab1_4 : Option Go.Addr) (nb1_4 : Nat) (cb1_4 : Nat) (xb2_0 : Int) (xb2_1 : Int) (xb2_2 : Int) (ab2_3 : Option Go.Addr) (nb2_3 : Nat) (cb2_3 : Nat) (xb3_0 : Int) (xb3_1 : Int) (xb3_2 : Int) (ab3_3 : Option Go.Addr) (nb3_3 : Nat) (cb3_3 : Nat) (h : AH) : Prop :=
  ∀ j : Nat → Value, LPk Go.Proofs.Try.prog w0 (EvC Go.Proofs.Try.prog w0) f34_J 34 K 23 [.v (j 0), .v (j 1), .v (j 2), .bp 1 0, .bp 2 0, .v (j 5), .v (j 6), .v (j 7), .v (j 8), .v (j 9), .v (j 10), .v (j 11), .v (j 12), .v (j 13), .bp 3 0, .v (j 15), .v (j 16), .v (j 17), .v (j 18), .v (j 19), .v (j 20), .v (j 21), .v (j 22), .v (j 23), .v (j 24), .v (j 25), .v (j 26), .v (j 27), .v (j 28), .v (j 29), .v (j 30), .v (j 31), .v (j 32), .v (j 33), .v (j 34), .v (j 35), .v (j 36), .v (j 37), .v (j 38), .v (j 39), .v (j 40), .v (j 41), .v (j 42), .v (j 43), .v (j 44), .v (j 45), .v (j 46), .v (j 47), .v (j 48), .v (j 49), .v (j 50), .v (j 51), .v (j 52), .v (j 53), .v (j 54), .v (j 55), .v (j 56), .v (j 57), .v (j 58), .v (j 59), .v (j 60), .v (j 61), .v (j 62), .v (j 63), .v (j 64), .v (j 65), .v (j 66), .v (j 67), .v (j 68), .v (j 69), .v (j 70), .v (j 71), .v (j 72), .v (j 73), .v (j 74), .v (j 75), .v (j 76), .v (j 77), .v (j 78), .v (j 79), .v (j 80), .v (j 81), .v (j 82), .v (j 83), .v (j 84), .v (j 85), .v (j 86), .v (j 87), .v (j 88), .v (j 89), .v (j 90), .v (j 91), .v (j 92), .v (j 93), .v (j 94), .v (j 95), .v (j 96), .v (j 97), .v (j 98), .v (j 99), .v (j 100), .v (j 101), .v (j 102), .v (j 103), .v (j 104), .v (j 105), .v (j 106), .v (j 107), .v (j 108), .v (j 109), .v (j 110), .v (j 111), .v (j 112), .v (.slice a113 n113 c113), .v (.int .i64 x114), .v (.int .i64 x115), .v (j 116), .v (j 117), .v (j 118), .v (j 119), .v (j 120), .v (j 121), .v (j 122), .v (j 123), .v (j 124), .v (j 125), .v (j 126), .v (j 127), .v (j 128), .v (j 129), .v (j 130), .v (j 131), .v (j 132), .v (j 133), .v (j 134), .v (j 135), .v (j 136), .v (j 137), .v (j 138), .v (j 139), .v (j 140), .v (j 141), .v (j 142), .v (j 143), .v (j 144), .v (j 145), .v (j 146), .v (j 147), .v (j 148), .v (j 149)] [some [(.int .i64 xb0_0), (.int .i64 xb0_1), (.int .i64 xb0_2), (.slice ab0_3 nb0_3 cb0_3)], some [(.int .i64 xb1_0), (.int .i64 xb1_1), (.int .i64 xb1_2), (.slice ab1_3 nb1_3 cb1_3), (.slice ab1_4 nb1_4 cb1_4)], some [(.int .i64 xb2_0), (.int .i64 xb2_1), (.int .i64 xb2_2), (.slice ab2_3 nb2_3 cb2_3)], some [(.int .i64 xb3_0), (.int .i64 xb3_1), (.int .i64 xb3_2), (.slice ab3_3 nb3_3 cb3_3)]] h

def f34_29 (w0 : World) (K : Value → AH → Prop) (a133 : Option Go.Addr) (n133 : Nat) (c133 : Nat) (x134 : Int) (x135 : Int) (xb0_0 : Int) (xb0_1 : Int) (xb0_2 : Int) (ab0_3 : Option Go.Addr) (nb0_3 : Nat) (cb0_3 : Nat) (xb1_0 : Int) (xb1_1 : Int) (xb1_2 : Int) (ab1_3 : Option Go.Addr) (nb1_3 : Nat) (cb1_3 : Nat) (ab1_4 : Option Go.Addr) (nb1_4 : Nat) (cb1_4 : Nat) (xb2_0 : Int) (xb2_1 : Int) (xb2_2 : Int) (ab2_3 : Option Go.Addr) (nb2_3 : Nat) (cb2_3 : Nat) (xb3_0 : Int) (xb3_1 : Int) (xb3_2 : Int) (ab3_3 : Option Go.Addr) (nb3_3 : Nat) (cb3_3 : Nat) (h : AH) : Prop :=
  ∀ j : Nat → Value, LPk Go.Proofs.Try.prog w0 (EvC Go.Proofs.Try.prog w0) f34_J 34 K 29 [.v (j 0), .v (j 1), .v (j 2), .v (j 3), .bp 2 0, .v (j 5), .v (j 6), .v (j 7), .v (j 8), .v (j 9), .v (j 10), .v (j 11), .v (j 12), .v (j 13), .bp 3 0, .v (j 15), .v (j 16), .v (j 17), .v (j 18), .v (j 19), .v (j 20), .v (j 21), .v (j 22), .v (j 23), .v (j 24), .v (j 25), .v (j 26), .v (j 27), .v (j 28), .v (j 29), .v (j 30), .v (j 31), .v (j 32), .v (j 33), .v (j 34), .v (j 35), .v (j 36), .v (j 37), .v (j 38), .v (j 39), .v (j 40), .v (j 41), .v (j 42), .v (j 43), .v (j 44), .v (j 45), .v (j 46), .v (j 47), .v (j 48), .v (j 49), .v (j 50), .v (j 51), .v (j 52), .v (j 53), .v (j 54), .v (j 55), .v (j 56), .v (j 57), .v (j 58), .v (j 59), .v (j 60), .v (j 61), .v (j 62), .v (j 63), .v (j 64), .v (j 65), .v (j 66), .v (j 67), .v (j 68), .v (j 69), .v (j 70), .v (j 71), .v (j 72), .v (j 73), .v (j 74), .v (j 75), .v (j 76), .v (j 77), .v (j 78), .v (j 79), .v (j 80), .v (j 81), .v (j 82), .v (j 83), .v (j 84), .v (j 85), .v (j 86), .v (j 87), .v (j 88), .v (j 89), .v (j 90), .v (j 91), .v (j 92), .v (j 93), .v (j 94), .v (j 95), .v (j 96), .v (j 97), .v (j 98), .v (j 99), .v (j 100), .v (j 101), .v (j 102), .v (j 103), .v (j 104), .v (j 105), .v (j 106), .v (j 107), .v (j 108), .v (j 109), .v (j 110), .v (j 111), .v (j 112), .v (j 113), .v (j 114), .v (j 115), .v (j 116), .v (j 117), .v (j 118), .v (j 119), .v (j 120), .v (j 121), .v (j 122), .v (j 123), .v (j 124), .v (j 125), .v (j 126), .v (j 127), .v (j 128), .v (j 129), .v (j 130), .v (j 131), .v (j 132), .v (.slice a133 n133 c133), .v (.int .i64 x134), .v (.int .i64 x135), .v (j 136), .v (j 137), .v (j 138), .v (j 139), .v (j 140), .v (j 141), .v (j 142), .v (j 143), .v (j 144), .v (j 145), .v (j 146), .v (j 147), .v (j 148), .v (j 149)] [some [(.int .i64 xb0_0), (.int .i64 xb0_1), (.int .i64 xb0_2), (.slice ab0_3 nb0_3 cb0_3)], some [(.int .i64 xb1_0), (.int .i64 xb1_1), (.int .i64 xb1_2), (.slice ab1_3 nb1_3 cb1_3), (.slice ab1_4 nb1_4 cb1_4)], some [(.int .i64 xb2_0), (.int .i64 xb2_1), (.int .i64 xb2_2), (.slice ab2_3 nb2_3 cb2_3)], some [(.int .i64 xb3_0), (.int .i64 xb3_1), (.int .i64 xb3_2), (.slice ab3_3 nb3_3 cb3_3)]] h

theorem f34_2_in {w0 : World} {K : Value → AH → Prop} (x26 : Bool) (xb0_0 : Int) (xb0_1 : Int) (xb0_2 : Int) (ab0_3 : Option Go.Addr) (nb0_3 : Nat) (cb0_3 : Nat) (xb1_0 : Int) (xb1_1 : Int) (xb1_2 : Int) (ab1_3 : Option Go.Addr) (nb1_3 : Nat) (cb1_3 : Nat) (ab1_4 : Option Go.Addr) (nb1_4 : Nat) (cb1_4 : Nat) (xb2_0 : Int) (xb2_1 : Int) (xb2_2 : Int) (ab2_3 : Option Go.Addr) (nb2_3 : Nat) (cb2_3 : Nat) (h : AH)
  (hv : (brB x26 (K (Go.Value.tuple #[(Go.Value.agg #[(Go.Value.int .i64 (0 : Int)), (Go.Value.int .i64 (0 : Int)), (Go.Value.int .i64 (0 : Int)), (Go.Value.slice none 0 0)]), (Go.Value.int .i64 (1 : Int))]) h) (f34_3 w0 K xb0_0 xb0_1 xb0_2 ab0_3 nb0_3 cb0_3 xb1_0 xb1_1 xb1_2 ab1_3 nb1_3 cb1_3 ab1_4 nb1_4 cb1_4 xb2_0 xb2_1 xb2_2 ab2_3 nb2_3 cb2_3 h))) :
  f34_2 w0 K x26 xb0_0 xb0_1 xb0_2 ab0_3 nb0_3 cb0_3 xb1_0 xb1_1 xb1_2 ab1_3 nb1_3 cb1_3 ab1_4 nb1_4 cb1_4 xb2_0 xb2_1 xb2_2 ab2_3 nb2_3 cb2_3 h := fun j => LP_intro (P := Go.Proofs.Try.prog) (Eq.mp (by kernel_rfl) hv)

theorem f34_3_in {w0 : World} {K : Value → AH → Prop} (xb0_0 : Int) (xb0_1 : Int) (xb0_2 : Int) (ab0_3 : Option Go.Addr) (nb0_3 : Nat) (cb0_3 : Nat) (xb1_0 : Int) (xb1_1 : Int) (xb1_2 : Int) (ab1_3 : Option Go.Addr) (nb1_3 : Nat) (cb1_3 : Nat) (ab1_4 : Option Go.Addr) (nb1_4 : Nat) (cb1_4 : Nat) (xb2_0 : Int) (xb2_1 : Int) (xb2_2 : Int) (ab2_3 : Option Go.Addr) (nb2_3 : Nat) (cb2_3 : Nat) (h : AH)
  (hv : (f34_4 w0 K ab1_4 nb1_4 cb1_4 ((nb1_4 : Nat) : Int) (0 : Int) xb0_0 xb0_1 xb0_2 ab0_3 nb0_3 cb0_3 xb1_0 xb1_1 xb1_2 ab1_3 nb1_3 cb1_3 ab1_4 nb1_4 cb1_4 xb2_0 xb2_1 xb2_2 ab2_3 nb2_3 cb2_3 h)) :
  f34_3 w0 K xb0_0 xb0_1 xb0_2 ab0_3 nb0_3 cb0_3 xb1_0 xb1_1 xb1_2 ab1_3 nb1_3 cb1_3 ab1_4 nb1_4 cb1_4 xb2_0 xb2_1 xb2_2 ab2_3 nb2_3 cb2_3 h := fun j => LP_intro (P := Go.Proofs.Try.prog) (Eq.mp (by kernel_rfl) hv)

theorem f34_4_in {w0 : World} {K : Value → AH → Prop} (a29 : Option Go.Addr) (n29 : Nat) (c29 : Nat) (x30 : Int) (x31 : Int) (xb0_0 : Int) (xb0_1 : Int) (xb0_2 : Int) (ab0_3 : Option Go.Addr) (nb0_3 : Nat) (cb0_3 : Nat) (xb1_0 : Int) (xb1_1 : Int) (xb1_2 : Int) (ab1_3 : Option Go.Addr) (nb1_3 : Nat) (cb1_3 : Nat) (ab1_4 : Option Go.Addr) (nb1_4 : Nat) (cb1_4 : Nat) (xb2_0 : Int) (xb2_1 : Int) (xb2_2 : Int) (ab2_3 : Option Go.Addr) (nb2_3 : Nat) (cb2_3 : Nat) (h : AH)
  (hv : (brB (decide ((x31 < x30))) (∃ a'6 : Go.Addr, ((a29 = (some a'6)) ∧ (((0 : Int) ≤ x31) ∧ ((x31 < ((n29 : Nat) : Int)) ∧ (∃ i'7 : Int, (((Go.G.cellA w0 h (Go.Addr.add a'6 ((Int.toNat x31) * 1))) = (some (Go.Value.int .i64 i'7))) ∧ (EvC Go.Proofs.Try.prog w0 61 #[(Go.Value.slice ab0_3 nb0_3 cb0_3), (Go.Value.int .i64 i'7)] (fun x'8 h'9 => (∃ i'10 : Int, (∃ i'11 : Int, (∃ i'12 : Int, (∃ p'13 : Option Go.Addr, (∃ n'14 : Nat, (∃ n'15 : Nat, (∃ p'16 : Option Go.Addr, (∃ n'17 : Nat, (∃ n'18 : Nat, (∃ t'19 : Bool, ((x'8 = (Go.Value.tuple #[(Go.Value.agg #[(Go.Value.int .i64 i'10), (Go.Value.int .i64 i'11), (Go.Value.int .i64 i'12), (Go.Value.slice p'13 n'14 n'15), (Go.Value.slice p'16 n'17 n'18)]), (Go.Value.bool t'19)])) ∧ (brB (!t'19) (K (Go.Value.tuple #[(Go.Value.agg #[(Go.Value.int .i64 (0 : Int)), (Go.Value.int .i64 (0 : Int)), (Go.Value.int .i64 (0 : Int)), (Go.Value.slice none 0 0)]), (Go.Value.int .i64 (7 : Int))]) h'9) (f34_4 w0 K a29 n29 c29 x30 (Go.IntKind.wrap .i64 (x31 + (1 : Int))) xb0_0 xb0_1 xb0_2 ab0_3 nb0_3 cb0_3 xb1_0 xb1_1 xb1_2 ab1_3 nb1_3 cb1_3 ab1_4 nb1_4 cb1_4 xb2_0 xb2_1 xb2_2 ab2_3 nb2_3 cb2_3 h'9)))))))))))))) h))))))) (f34_11 w0 K ab1_3 nb1_3 cb1_3 ((nb1_3 : Nat) : Int) (0 : Int) xb0_0 xb0_1 xb0_2 ab0_3 nb0_3 cb0_3 xb1_0 xb1_1 xb1_2 ab1_3 nb1_3 cb1_3 ab1_4 nb1_4 cb1_4 xb2_0 xb2_1 xb2_2 ab2_3 nb2_3 cb2_3 h))) :
  f34_4 w0 K a29 n29 c29 x30 x31 xb0_0 xb0_1 xb0_2 ab0_3 nb0_3 cb0_3 xb1_0 xb1_1 xb1_2 ab1_3 nb1_3 cb1_3 ab1_4 nb1_4 cb1_4 xb2_0 xb2_1 xb2_2 ab2_3 nb2_3 cb2_3 h := fun j => LP_intro (P := Go.Proofs.Try.prog) (Eq.mp (by kernel_rfl) hv)

theorem f34_11_in {w0 : World} {K : Value → AH → Prop} (a47 : Option Go.Addr) (n47 : Nat) (c47 : Nat) (x48 : Int) (x49 : Int) (xb0_0 : Int) (xb0_1 : Int) (xb0_2 : Int) (ab0_3 : Option Go.Addr) (nb0_3 : Nat) (cb0_3 : Nat) (xb1_0 : Int) (xb1_1 : Int) (xb1_2 : Int) (ab1_3 : Option Go.Addr) (nb1_3 : Nat) (cb1_3 : Nat) (ab1_4 : Option Go.Addr) (nb1_4 : Nat) (cb1_4 : Nat) (xb2_0 : Int) (xb2_1 : Int) (xb2_2 : Int) (ab2_3 : Option Go.Addr) (nb2_3 : Nat) (cb2_3 : Nat) (h : AH)
  (hv : (brB (decide ((x49 < x48))) (∃ a'20 : Go.Addr, ((a47 = (some a'20)) ∧ (((0 : Int) ≤ x49) ∧ ((x49 < ((n47 : Nat) : Int)) ∧ (∃ i'21 : Int, (∃ i'22 : Int, (∃ i'23 : Int, (∃ p'24 : Option Go.Addr, (∃ n'25 : Nat, (∃ n'26 : Nat, (∃ p'27 : Option Go.Addr, (∃ n'28 : Nat, (∃ n'29 : Nat, ((((Array.size #[(Go.Value.int .i64 i'21), (Go.Value.int .i64 i'22), (Go.Value.int .i64 i'23), (Go.Value.slice p'24 n'25 n'26), (Go.Value.slice p'27 n'28 n'29)]) = 5) ∧ (At w0 h (Go.Addr.add a'20 ((Int.toNat x49) * 5)) [(Go.Value.int .i64 i'21), (Go.Value.int .i64 i'22), (Go.Value.int .i64 i'23), (Go.Value.slice p'24 n'25 n'26), (Go.Value.slice p'27 n'28 n'29)])) ∧ (EvC Go.Proofs.Try.prog w0 61 #[(Go.Value.slice ab0_3 nb0_3 cb0_3), (Go.Value.int .i64 i'21)] (fun x'30 h'31 => (∃ i'32 : Int, (∃ i'33 : Int, (∃ i'34 : Int, (∃ p'35 : Option Go.Addr, (∃ n'36 : Nat, (∃ n'37 : Nat, (∃ p'38 : Option Go.Addr, (∃ n'39 : Nat, (∃ n'40 : Nat, (∃ t'41 : Bool, ((x'30 = (Go.Value.tuple #[(Go.Value.agg #[(Go.Value.int .i64 i'32), (Go.Value.int .i64 i'33), (Go.Value.int .i64 i'34), (Go.Value.slice p'35 n'36 n'37), (Go.Value.slice p'38 n'39 n'40)]), (Go.Value.bool t'41)])) ∧ (brB t'41 (EvC Go.Proofs.Try.prog w0 62 #[(Go.Value.slice ab1_4 nb1_4 cb1_4), (Go.Value.int .i64 i'21)] (fun x'42 h'43 => (∃ t'44 : Bool, ((x'42 = (Go.Value.bool t'44)) ∧ (f34_15 w0 K a47 n47 c47 x48 x49 (!t'44) xb0_0 xb0_1 xb0_2 ab0_3 nb0_3 cb0_3 xb1_0 xb1_1 xb1_2 ab1_3 nb1_3 cb1_3 ab1_4 nb1_4 cb1_4 xb2_0 xb2_1 xb2_2 ab2_3 nb2_3 cb2_3 h'43)))) h'31) (f34_15 w0 K a47 n47 c47 x48 x49 false xb0_0 xb0_1 xb0_2 ab0_3 nb0_3 cb0_3 xb1_0 xb1_1 xb1_2 ab1_3 nb1_3 cb1_3 ab1_4 nb1_4 cb1_4 xb2_0 xb2_1 xb2_2 ab2_3 nb2_3 cb2_3 h'31)))))))))))))) h))))))))))))))) (brB (decide ((xb1_0 < xb0_0))) (f34_18 w0 K true xb0_0 xb0_1 xb0_2 ab0_3 nb0_3 cb0_3 xb1_0 xb1_1 xb1_2 ab1_3 nb1_3 cb1_3 ab1_4 nb1_4 cb1_4 xb2_0 xb2_1 xb2_2 ab2_3 nb2_3 cb2_3 h) (brB (decide ((xb1_1 < xb0_1))) (f34_18 w0 K true xb0_0 xb0_1 xb0_2 ab0_3 nb0_3 cb0_3 xb1_0 xb1_1 xb1_2 ab1_3 nb1_3 cb1_3 ab1_4 nb1_4 cb1_4 xb2_0 xb2_1 xb2_2 ab2_3 nb2_3 cb2_3 h) (f34_18 w0 K (decide ((xb1_2 < xb0_2))) xb0_0 xb0_1 xb0_2 ab0_3 nb0_3 cb0_3 xb1_0 xb1_1 xb1_2 ab1_3 nb1_3 cb1_3 ab1_4 nb1_4 cb1_4 xb2_0 xb2_1 xb2_2 ab2_3 nb2_3 cb2_3 h))))) :
  f34_11 w0 K a47 n47 c47 x48 x49 xb0_0 xb0_1 xb0_2 ab0_3 nb0_3 cb0_3 xb1_0 xb1_1 xb1_2 ab1_3 nb1_3 cb1_3 ab1_4 nb1_4 cb1_4 xb2_0 xb2_1 xb2_2 ab2_3 nb2_3 cb2_3 h := fun j => LP_intro (P := Go.Proofs.Try.prog) (Eq.mp (by kernel_rfl) hv)

theorem f34_15_in {w0 : World} {K : Value → AH → Prop} (a47 : Option Go.Addr) (n47 : Nat) (c47 : Nat) (x48 : Int) (x49 : Int) (x69 : Bool) (xb0_0 : Int) (xb0_1 : Int) (xb0_2 : Int) (ab0_3 : Option Go.Addr) (nb0_3 : Nat) (cb0_3 : Nat) (xb1_0 : Int) (xb1_1 : Int) (xb1_2 : Int) (ab1_3 : Option Go.Addr) (nb1_3 : Nat) (cb1_3 : Nat) (ab1_4 : Option Go.Addr) (nb1_4 : Nat) (cb1_4 : Nat) (xb2_0 : Int) (xb2_1 : Int) (xb2_2 : Int) (ab2_3 : Option Go.Addr) (nb2_3 : Nat) (cb2_3 : Nat) (h : AH)
  (hv : (brB x69 (K (Go.Value.tuple #[(Go.Value.agg #[(Go.Value.int .i64 (0 : Int)), (Go.Value.int .i64 (0 : Int)), (Go.Value.int .i64 (0 : Int)), (Go.Value.slice none 0 0)]), (Go.Value.int .i64 (6 : Int))]) h) (f34_11 w0 K a47 n47 c47 x48 (Go.IntKind.wrap .i64 (x49 + (1 : Int))) xb0_0 xb0_1 xb0_2 ab0_3 nb0_3 cb0_3 xb1_0 xb1_1 xb1_2 ab1_3 nb1_3 cb1_3 ab1_4 nb1_4 cb1_4 xb2_0 xb2_1 xb2_2 ab2_3 nb2_3 cb2_3 h))) :
  f34_15 w0 K a47 n47 c47 x48 x49 x69 xb0_0 xb0_1 xb0_2 ab0_3 nb0_3 cb0_3 xb1_0 xb1_1 xb1_2 ab1_3 nb1_3 cb1_3 ab1_4 nb1_4 cb1_4 xb2_0 xb2_1 xb2_2 ab2_3 nb2_3 cb2_3 h := fun j => LP_intro (P := Go.Proofs.Try.prog) (Eq.mp (by kernel_rfl) hv)

theorem f34_18_in {w0 : World} {K : Value → AH → Prop} (x90 : Bool) (xb0_0 : Int) (xb0_1 : Int) (xb0_2 : Int) (ab0_3 : Option Go.Addr) (nb0_3 : Nat) (cb0_3 : Nat) (xb1_0 : Int) (xb1_1 : Int) (xb1_2 : Int) (ab1_3 : Option Go.Addr) (nb1_3 : Nat) (cb1_3 : Nat) (ab1_4 : Option Go.Addr) (nb1_4 : Nat) (cb1_4 : Nat) (xb2_0 : Int) (xb2_1 : Int) (xb2_2 : Int) (ab2_3 : Option Go.Addr) (nb2_3 : Nat) (cb2_3 : Nat) (h : AH)
  (hv : (brB x90 (K (Go.Value.tuple #[(Go.Value.agg #[(Go.Value.int .i64 (0 : Int)), (Go.Value.int .i64 (0 : Int)), (Go.Value.int .i64 (0 : Int)), (Go.Value.slice none 0 0)]), (Go.Value.int .i64 (11 : Int))]) h) (f34_19 w0 K xb0_0 xb0_1 xb0_2 ab0_3 nb0_3 cb0_3 xb1_0 xb1_1 xb1_2 ab1_3 nb1_3 cb1_3 ab1_4 nb1_4 cb1_4 xb2_0 xb2_1 xb2_2 ab2_3 nb2_3 cb2_3 h))) :
  f34_18 w0 K x90 xb0_0 xb0_1 xb0_2 ab0_3 nb0_3 cb0_3 xb1_0 xb1_1 xb1_2 ab1_3 nb1_3 cb1_3 ab1_4 nb1_4 cb1_4 xb2_0 xb2_1 xb2_2 ab2_3 nb2_3 cb2_3 h := fun j => LP_intro (P := Go.Proofs.Try.prog) (Eq.mp (by kernel_rfl) hv)

theorem f34_19_in {w0 : World} {K : Value → AH → Prop} (xb0_0 : Int) (xb0_1 : Int) (xb0_2 : Int) (ab0_3 : Option Go.Addr) (nb0_3 : Nat) (cb0_3 : Nat) (xb1_0 : Int) (xb1_1 : Int) (xb1_2 : Int) (ab1_3 : Option Go.Addr) (nb1_3 : Nat) (cb1_3 : Nat) (ab1_4 : Option Go.Addr) (nb1_4 : Nat) (cb1_4 : Nat) (xb2_0 : Int) (xb2_1 : Int) (xb2_2 : Int) (ab2_3 : Option Go.Addr) (nb2_3 : Nat) (cb2_3 : Nat) (h : AH)
  (hv : (brB (decide (((200 : Int) < (Go.IntKind.wrap .i64 ((Go.IntKind.wrap .i64 (((nb0_3 : Nat) : Int) - ((nb1_4 : Nat) : Int))) + ((nb1_3 : Nat) : Int)))))) (K (Go.Value.tuple #[(Go.Value.agg #[(Go.Value.int .i64 (0 : Int)), (Go.Value.int .i64 (0 : Int)), (Go.Value.int .i64 (0 : Int)), (Go.Value.slice none 0 0)]), (Go.Value.int .i64 (13 : Int))]) h) (f34_23 w0 K ab0_3 nb0_3 cb0_3 ((nb0_3 : Nat) : Int) (0 : Int) xb0_0 xb0_1 xb0_2 ab0_3 nb0_3 cb0_3 xb1_0 xb1_1 xb1_2 ab1_3 nb1_3 cb1_3 ab1_4 nb1_4 cb1_4 xb2_0 xb2_1 xb2_2 ab2_3 nb2_3 cb2_3 xb1_0 xb1_1 xb1_2 none 0 0 h))) :
  f34_19 w0 K xb0_0 xb0_1 xb0_2 ab0_3 nb0_3 cb0_3 xb1_0 xb1_1 xb1_2 ab1_3 nb1_3 cb1_3 ab1_4 nb1_4 cb1_4 xb2_0 xb2_1 xb2_2 ab2_3 nb2_3 cb2_3 h := fun j => LP_intro (P := Go.Proofs.Try.prog) (Eq.mp (by kernel_rfl) hv)

theorem f34_23_in {w0 : World} {K : Value → AH → Prop} (a113 : Option Go.Addr) (n113 : Nat) (c113 : Nat) (x114 : Int) (x115 : Int) (xb0_0 : Int) (xb0_1 : Int) (xb0_2 : Int) (ab0_3 : Option Go.Addr) (nb0_3 : Nat) (cb0_3 : Nat) (xb1_0 : Int) (xb1_1 : Int) (xb1_2 : Int) (ab1_3 : Option Go.Addr) (nb1_3 : Nat) (cb1_3 : Nat) (ab1_4 : Option Go.Addr) (nb1_4 : Nat) (cb1_4 : Nat) (xb2_0 : Int) (xb2_1 : Int) (xb2_2 : Int) (ab2_3 : Option Go.Addr) (nb2_3 : Nat) (cb2_3 : Nat) (xb3_0 : Int) (xb3_1 : Int) (xb3_2 : Int) (ab3_3 : Option Go.Addr) (nb3_3 : Nat) (cb3_3 : Nat) (h : AH)
  (hv : (brB (decide ((x115 < x114))) (∃ a'45 : Go.Addr, ((a113 = (some a'45)) ∧ (((0 : Int) ≤ x115) ∧ ((x115 < ((n113 : Nat) : Int)) ∧ (∃ i'46 : Int, (∃ i'47 : Int, (∃ i'48 : Int, (∃ p'49 : Option Go.Addr, (∃ n'50 : Nat, (∃ n'51 : Nat, (∃ p'52 : Option Go.Addr, (∃ n'53 : Nat, (∃ n'54 : Nat, ((((Array.size #[(Go.Value.int .i64 i'46), (Go.Value.int .i64 i'47), (Go.Value.int .i64 i'48), (Go.Value.slice p'49 n'50 n'51), (Go.Value.slice p'52 n'53 n'54)]) = 5) ∧ (At w0 h (Go.Addr.add a'45 ((Int.toNat x115) * 5)) [(Go.Value.int .i64 i'46), (Go.Value.int .i64 i'47), (Go.Value.int .i64 i'48), (Go.Value.slice p'49 n'50 n'51), (Go.Value.slice p'52 n'53 n'54)])) ∧ (EvC Go.Proofs.Try.prog w0 62 #[(Go.Value.slice ab1_4 nb1_4 cb1_4), (Go.Value.int .i64 i'46)] (fun x'55 h'56 => (∃ t'57 : Bool, ((x'55 = (Go.Value.bool t'57)) ∧ (brB (!t'57) (App w0 h'56 5 72 ab3_3 nb3_3 cb3_3 1 [(Go.Value.int .i64 i'46), (Go.Value.int .i64 i'47), (Go.Value.int .i64 i'48), (Go.Value.slice p'49 n'50 n'51), (Go.Value.slice p'52 n'53 n'54)] (fun a'58 c'59 h'60 => (f34_23 w0 K a113 n113 c113 x114 (Go.IntKind.wrap .i64 (x115 + (1 : Int))) xb0_0 xb0_1 xb0_2 ab0_3 nb0_3 cb0_3 xb1_0 xb1_1 xb1_2 ab1_3 nb1_3 cb1_3 ab1_4 nb1_4 cb1_4 xb2_0 xb2_1 xb2_2 ab2_3 nb2_3 cb2_3 xb3_0 xb3_1 xb3_2 a'58 (nb3_3 + 1) c'59 h'60))) (f34_23 w0 K a113 n113 c113 x114 (Go.IntKind.wrap .i64 (x115 + (1 : Int))) xb0_0 xb0_1 xb0_2 ab0_3 nb0_3 cb0_3 xb1_0 xb1_1 xb1_2 ab1_3 nb1_3 cb1_3 ab1_4 nb1_4 cb1_4 xb2_0 xb2_1 xb2_2 ab2_3 nb2_3 cb2_3 xb3_0 xb3_1 xb3_2 ab3_3 nb3_3 cb3_3 h'56))))) h))))))))))))))) (f34_29 w0 K ab1_3 nb1_3 cb1_3 ((nb1_3 : Nat) : Int) (0 : Int) xb0_0 xb0_1 xb0_2 ab0_3 nb0_3 cb0_3 xb1_0 xb1_1 xb1_2 ab1_3 nb1_3 cb1_3 ab1_4 nb1_4 cb1_4 xb2_0 xb2_1 xb2_2 ab2_3 nb2_3 cb2_3 xb3_0 xb3_1 xb3_2 ab3_3 nb3_3 cb3_3 h))) :
  f34_23 w0 K a113 n113 c113 x114 x115 xb0_0 xb0_1 xb0_2 ab0_3 nb0_3 cb0_3 xb1_0 xb1_1 xb1_2 ab1_3 nb1_3 cb1_3 ab1_4 nb1_4 cb1_4 xb2_0 xb2_1 xb2_2 ab2_3 nb2_3 cb2_3 xb3_0 xb3_1 xb3_2 ab3_3 nb3_3 cb3_3 h := fun j => LP_intro (P := Go.Proofs.Try.prog) (Eq.mp (by kernel_rfl) hv)

theorem f34_29_in {w0 : World} {K : Value → AH → Prop} (a133 : Option Go.Addr) (n133 : Nat) (c133 : Nat) (x134 : Int) (x135 : Int) (xb0_0 : Int) (xb0_1 : Int) (xb0_2 : Int) (ab0_3 : Option Go.Addr) (nb0_3 : Nat) (cb0_3 : Nat) (xb1_0 : Int) (xb1_1 : Int) (xb1_2 : Int) (ab1_3 : Option Go.Addr) (nb1_3 : Nat) (cb1_3 : Nat) (ab1_4 : Option Go.Addr) (nb1_4 : Nat) (cb1_4 : Nat) (xb2_0 : Int) (xb2_1 : Int) (xb2_2 : Int) (ab2_3 : Option Go.Addr) (nb2_3 : Nat) (cb2_3 : Nat) (xb3_0 : Int) (xb3_1 : Int) (xb3_2 : Int) (ab3_3 : Option Go.Addr) (nb3_3 : Nat) (cb3_3 : Nat) (h : AH)
  (hv : (brB (decide ((x135 < x134))) (∃ a'61 : Go.Addr, ((a133 = (some a'61)) ∧ (((0 : Int) ≤ x135) ∧ ((x135 < ((n133 : Nat) : Int)) ∧ (∃ i'62 : Int, (∃ i'63 : Int, (∃ i'64 : Int, (∃ p'65 : Option Go.Addr, (∃ n'66 : Nat, (∃ n'67 : Nat, (∃ p'68 : Option Go.Addr, (∃ n'69 : Nat, (∃ n'70 : Nat, ((((Array.size #[(Go.Value.int .i64 i'62), (Go.Value.int .i64 i'63), (Go.Value.int .i64 i'64), (Go.Value.slice p'65 n'66 n'67), (Go.Value.slice p'68 n'69 n'70)]) = 5) ∧ (At w0 h (Go.Addr.add a'61 ((Int.toNat x135) * 5)) [(Go.Value.int .i64 i'62), (Go.Value.int .i64 i'63), (Go.Value.int .i64 i'64), (Go.Value.slice p'65 n'66 n'67), (Go.Value.slice p'68 n'69 n'70)])) ∧ (EvC Go.Proofs.Try.prog w0 63 #[(Go.Value.slice ab3_3 nb3_3 cb3_3), (Go.Value.agg #[(Go.Value.int .i64 i'62), (Go.Value.int .i64 i'63), (Go.Value.int .i64 i'64), (Go.Value.slice p'65 n'66 n'67), (Go.Value.slice p'68 n'69 n'70)])] (fun x'71 h'72 => (∃ p'73 : Option Go.Addr, (∃ n'74 : Nat, (∃ n'75 : Nat, ((x'71 = (Go.Value.slice p'73 n'74 n'75)) ∧ (f34_29 w0 K a133 n133 c133 x134 (Go.IntKind.wrap .i64 (x135 + (1 : Int))) xb0_0 xb0_1 xb0_2 ab0_3 nb0_3 cb0_3 xb1_0 xb1_1 xb1_2 ab1_3 nb1_3 cb1_3 ab1_4 nb1_4 cb1_4 xb2_0 xb2_1 xb2_2 ab2_3 nb2_3 cb2_3 xb3_0 xb3_1 xb3_2 p'73 n'74 n'75 h'72)))))) h))))))))))))))) (EvC Go.Proofs.Try.prog w0 32 #[(Go.Value.agg #[(Go.Value.int .i64 xb3_0), (Go.Value.int .i64 xb3_1), (Go.Value.int .i64 xb3_2), (Go.Value.slice ab3_3 nb3_3 cb3_3)])] (fun x'76 h'77 => (∃ t'78 : Bool, ((x'76 = (Go.Value.bool t'78)) ∧ (brB (!t'78) (K (Go.Value.tuple #[(Go.Value.agg #[(Go.Value.int .i64 (0 : Int)), (Go.Value.int .i64 (0 : Int)), (Go.Value.int .i64 (0 : Int)), (Go.Value.slice none 0 0)]), (Go.Value.int .i64 (1 : Int))]) h'77) (K (Go.Value.tuple #[(Go.Value.agg #[(Go.Value.int .i64 xb3_0), (Go.Value.int .i64 xb3_1), (Go.Value.int .i64 xb3_2), (Go.Value.slice ab3_3 nb3_3 cb3_3)]), (Go.Value.int .i64 (0 : Int))]) h'77))))) h))) :
  f34_29 w0 K a133 n133 c133 x134 x135 xb0_0 xb0_1 xb0_2 ab0_3 nb0_3 cb0_3 xb1_0 xb1_1 xb1_2 ab1_3 nb1_3 cb1_3 ab1_4 nb1_4 cb1_4 xb2_0 xb2_1 xb2_2 ab2_3 nb2_3 cb2_3 xb3_0 xb3_1 xb3_2 ab3_3 nb3_3 cb3_3 h := fun j => LP_intro (P := Go.Proofs.Try.prog) (Eq.mp (by kernel_rfl) hv)

theorem f34_go {w0 : World} {K : Value → AH → Prop} (x0_0 : Int) (x0_1 : Int) (x0_2 : Int) (a0_3 : Option Go.Addr) (n0_3 : Nat) (c0_3 : Nat) (x1_0 : Int) (x1_1 : Int) (x1_2 : Int) (a1_3 : Option Go.Addr) (n1_3 : Nat) (c1_3 : Nat) (a1_4 : Option Go.Addr) (n1_4 : Nat) (c1_4 : Nat) (h : AH)
  (hv : (EvC Go.Proofs.Try.prog w0 32 #[(Go.Value.agg #[(Go.Value.int .i64 x0_0), (Go.Value.int .i64 x0_1), (Go.Value.int .i64 x0_2), (Go.Value.slice a0_3 n0_3 c0_3)])] (fun x'0 h'1 => (∃ t'2 : Bool, ((x'0 = (Go.Value.bool t'2)) ∧ (brB (!t'2) (f34_2 w0 K true x0_0 x0_1 x0_2 a0_3 n0_3 c0_3 x1_0 x1_1 x1_2 a1_3 n1_3 c1_3 a1_4 n1_4 c1_4 (0 : Int) (0 : Int) (0 : Int) none 0 0 h'1) (EvC Go.Proofs.Try.prog w0 60 #[(Go.Value.agg #[(Go.Value.int .i64 x1_0), (Go.Value.int .i64 x1_1), (Go.Value.int .i64 x1_2), (Go.Value.slice a1_3 n1_3 c1_3), (Go.Value.slice a1_4 n1_4 c1_4)])] (fun x'3 h'4 => (∃ t'5 : Bool, ((x'3 = (Go.Value.bool t'5)) ∧ (f34_2 w0 K (!t'5) x0_0 x0_1 x0_2 a0_3 n0_3 c0_3 x1_0 x1_1 x1_2 a1_3 n1_3 c1_3 a1_4 n1_4 c1_4 (0 : Int) (0 : Int) (0 : Int) none 0 0 h'4)))) h'1))))) h)) :
  EvC Go.Proofs.Try.prog w0 34 ([(.agg #[(.int .i64 x0_0), (.int .i64 x0_1), (.int .i64 x0_2), (.slice a0_3 n0_3 c0_3)]), (.agg #[(.int .i64 x1_0), (.int .i64 x1_1), (.int .i64 x1_2), (.slice a1_3 n1_3 c1_3), (.slice a1_4 n1_4 c1_4)])]).toArray K h := EvC_intro (P := Go.Proofs.Try.prog) f34_J (Eq.mp (by kernel_rfl) hv)
theorem mem_putR {t x : Tab} : ∀ {l : List Tab}, x ∈ putR t l → x = t ∨ x ∈ l
  | [], hx => by simpa [putR] using hx
  | u :: r, hx => by
    unfold putR at hx
    split at hx
    · rcases List.mem_cons.1 hx with rfl | hx
      · exact .inr (.head _)
      · rcases mem_putR hx with rfl | hx
        · exact .inl rfl
        · exact .inr (.tail _ hx)
    · rcases List.mem_cons.1 hx with rfl | hx
      · exact .inl rfl
      · exact .inr hx
theorem putR_length {t : Tab} : ∀ {l : List Tab}, (putR t l).length = l.length + 1
  | [] => rfl
  | u :: r => by
    unfold putR
    split
    · simp [putR_length (l := r)]
    · simp

section
variable {w0 : World} {K : Value → AH → Prop} {h0 : AH} {v : Ver} {lo nx sq : Int} {a b e : Option Addr} {n c m d p g : Nat} {add : List Tab} {rem : List Int}
variable (hk : ∀ a' n' c' h', TS w0 h' a' n' c' (applyR v lo nx sq add rem).1.ts → Ext h0 h' none →
  K (.tuple #[.agg #[.int .i64 (applyR v lo nx sq add rem).1.lo, .int .i64 (applyR v lo nx sq add rem).1.nx, .int .i64 (applyR v lo nx sq add rem).1.sq, .slice a' n' c'], .int .i64 (applyR v lo nx sq add rem).2]) h')
include hk

theorem f34_fail {z : Int} (hr : applyR v lo nx sq add rem = (⟨0, 0, 0, []⟩, z)) : K (.tuple #[.agg #[.int .i64 0, .int .i64 0, .int .i64 0, .slice none 0 0], .int .i64 z]) h0 := by
  have := hk none 0 0 h0 (by rw [hr]; exact TS.none0) (Ext.refl _ _)
  rw [hr] at this; exact this

theorem f34_fin {h : AH} {a' : Option Addr} {n' c' : Nat} {out : List Tab} (hx : Ext h0 h none) (so : TS w0 h a' n' c' out)
    (hr : applyR v lo nx sq add rem = if mayV lo nx sq out then (⟨lo, nx, sq, out⟩, 0) else (⟨0, 0, 0, []⟩, 1)) :
    EvC Go.Proofs.Try.prog w0 32 #[.agg #[.int .i64 lo, .int .i64 nx, .int .i64 sq, .slice a' n' c']] (fun x h' => ∃ t : Bool, x = .bool t ∧
      brB (!t) (K (.tuple #[.agg #[.int .i64 0, .int .i64 0, .int .i64 0, .slice none 0 0], .int .i64 1]) h') (K (.tuple #[.agg #[.int .i64 lo, .int .i64 nx, .int .i64 sq, .slice a' n' c'], .int .i64 0]) h')) h := by
  refine f32_spec so ⟨_, rfl, brB_of (fun q => ?_) fun q => ?_⟩
  · have q' : mayV lo nx sq out = false := by simpa using q
    rw [q'] at hr
    have := hk none 0 0 h (by rw [hr]; exact TS.none0) hx
    rw [hr] at this; exact this
  · have q' : mayV lo nx sq out = true := by simpa using q
    rw [q'] at hr
    have := hk a' n' c' h (by rw [hr]; exact so) hx
    rw [hr] at this; exact this

variable (sv : TS w0 h0 a n c v.ts) (sa : TS w0 h0 b m d add) (sr : IS w0 h0 e p g rem) (hn : n ≤ 200) (hm : m ≤ 200) (hp : p ≤ 200)
include sv sa sr hn hm hp

omit sv sr hp hn in
theorem f34_29_ok (hr : applyR v lo nx sq add rem = if mayV lo nx sq (add.foldl (fun l t => putR t l) (v.ts.filter fun t => !(rem.any fun m => m == t.num))) then (⟨lo, nx, sq, add.foldl (fun l t => putR t l) (v.ts.filter fun t => !(rem.any fun m => m == t.num))⟩, 0) else (⟨0, 0, 0, []⟩, 1)) :
    ∀ (rest : List Tab) (i : Nat) (a3 : Option Addr) (n3 c3 : Nat) (out : List Tab) (h : AH), add.drop i = rest → i ≤ m → Ext h0 h none → TS w0 h a3 n3 c3 out → n3 ≤ 200 + i →
      add.foldl (fun l t => putR t l) (v.ts.filter fun t => !(rem.any fun m => m == t.num)) = rest.foldl (fun l t => putR t l) out →
      f34_29 w0 K b m d ((m : Nat) : Int) ((i : Nat) : Int) v.lo v.nx v.sq a n c lo nx sq b m d e p g 0 0 0 none 0 0 lo nx sq a3 n3 c3 h := by
  intro rest
  induction rest with
  | nil =>
    intro i a3 n3 c3 out h hd hi hx so hn3 he
    have := drop_done hd
    have := sa.len
    refine f34_29_in _ _ _ _ _ _ _ _ _ _ _ _ _ _ _ _ _ _ _ _ _ _ _ _ _ _ _ _ _ _ _ _ _ (brB_of (fun q => by simp at q; omega) fun _ => f34_fin hk hx so ?_)
    rw [hr, he]; rfl
  | cons t r ih =>
    intro i a3 n3 c3 out h hd hi hx so hn3 he
    obtain ⟨hget, hd', hlt⟩ := drop_step hd
    have hsl := sa.len
    have hsm := sa.sm
    refine f34_29_in _ _ _ _ _ _ _ _ _ _ _ _ _ _ _ _ _ _ _ _ _ _ _ _ _ _ _ _ _ _ _ _ _ (brB_of (fun _ => tabLoad (sa.ext hx).rs.rd sa.len hget ?_) fun q => by simp at q; omega)
    have ot := (sa.ext hx).ok t (List.mem_of_getElem? hget)
    refine f63_spec (t := t) so (by omega) ot fun a' n' c' h' s' x' w' => ⟨_, _, _, rfl, ?_⟩
    rw [wrapS (by omega)]
    have hl : n' = n3 + 1 := by rw [s'.len5, putR_length, so.len]
    refine ih (i + 1) a' n' c' (putR t out) h' hd' (by omega) (hx.trans x') (s'.ts (by omega) fun y hy => ?_) (by omega) he
    rcases mem_putR hy with rfl | hy
    · exact ot.ext x'
    · exact (so.ok y hy).ext x'

omit hp in
theorem f34_23_ok (hr : applyR v lo nx sq add rem = if mayV lo nx sq (add.foldl (fun l t => putR t l) (v.ts.filter fun t => !(rem.any fun m => m == t.num))) then (⟨lo, nx, sq, add.foldl (fun l t => putR t l) (v.ts.filter fun t => !(rem.any fun m => m == t.num))⟩, 0) else (⟨0, 0, 0, []⟩, 1)) :
    ∀ (rest : List Tab) (i : Nat) (a3 : Option Addr) (n3 c3 : Nat) (h : AH), v.ts.drop i = rest → i ≤ n → Ext h0 h none → New h0 a3 →
      Sl w0 h 5 a3 n3 c3 (tabs ((v.ts.take i).filter fun t => !(rem.any fun m => m == t.num))) →
      f34_23 w0 K a n c ((n : Nat) : Int) ((i : Nat) : Int) v.lo v.nx v.sq a n c lo nx sq b m d e p g 0 0 0 none 0 0 lo nx sq a3 n3 c3 h := by
  intro rest
  induction rest with
  | nil =>
    intro i a3 n3 c3 h hd hi hx hnew s3
    have hdone := drop_done hd
    have hlen := sv.len
    rw [List.take_of_length_le (by omega)] at s3
    have hl := s3.len5
    have := List.length_filter_le (fun t : Tab => !(rem.any fun m => m == t.num)) v.ts
    refine f34_23_in _ _ _ _ _ _ _ _ _ _ _ _ _ _ _ _ _ _ _ _ _ _ _ _ _ _ _ _ _ _ _ _ _ (brB_of (fun q => by simp at q; omega) fun _ => f34_29_ok hk sa hm hr _ 0 a3 n3 c3 _ h rfl (by omega) hx (s3.ts (by omega) fun y hy => ?_) (by omega) rfl)
    exact (sv.ok y (List.mem_filter.1 hy).1).ext hx
  | cons t r ih =>
    intro i a3 n3 c3 h hd hi hx hnew s3
    obtain ⟨hget, hd', hlt⟩ := drop_step hd
    have hsl := sv.len
    have hl := s3.len5
    have := List.length_filter_le (fun t : Tab => !(rem.any fun m => m == t.num)) (v.ts.take i)
    have : (v.ts.take i).length ≤ i := by simp; omega
    have htake : v.ts.take (i + 1) = v.ts.take i ++ [t] := by rw [List.take_add_one, hget]; rfl
    refine f34_23_in _ _ _ _ _ _ _ _ _ _ _ _ _ _ _ _ _ _ _ _ _ _ _ _ _ _ _ _ _ _ _ _ _ (brB_of (fun _ => tabLoad (sv.ext hx).rs.rd sv.len hget ?_) fun q => by simp at q; omega)
    refine f62_spec (sr.ext hx) ⟨_, rfl, brB_of (fun q => ?_) fun q => ?_⟩
    · refine App_own s3 (by omega) (by omega) rfl (tabs_cell [t]) fun a' c' h' s' x' f' => ?_
      rw [wrapS (by omega)]
      refine ih (i + 1) a' (n3 + 1) c' h' hd' (by omega) (hx.past hnew x') (hnew.grown hx f') ?_
      have : tabs ((v.ts.take (i + 1)).filter fun t => !(rem.any fun m => m == t.num)) = tabs ((v.ts.take i).filter fun t => !(rem.any fun m => m == t.num)) ++ [.int .i64 t.num, .int .i64 t.lev, .int .i64 t.siz, .slice t.lp t.ln t.lc, .slice t.mp t.mn t.mc] := by
        rw [htake, List.filter_append, tabs_append, List.filter_cons, if_pos q]
        rfl
      rw [this]; exact s'
    · rw [wrapS (by omega)]
      refine ih (i + 1) a3 n3 c3 h hd' (by omega) hx hnew ?_
      have : ((v.ts.take (i + 1)).filter fun t => !(rem.any fun m => m == t.num)) = ((v.ts.take i).filter fun t => !(rem.any fun m => m == t.num)) := by
        rw [htake, List.filter_append, List.filter_cons, if_neg (by rw [q]; simp)]
        simp
      rw [this]; exact s3

theorem f34_11_ok (h1 : (mayV v.lo v.nx v.sq v.ts && mayE lo nx sq add rem) = true) (h2 : (rem.any fun n => !(v.ts.any fun t => t.num == n)) = false) :
    ∀ (rest : List Tab) (i : Nat), add.drop i = rest → i ≤ m → (add.any fun t => (v.ts.any fun u => u.num == t.num) && !(rem.any fun m => m == t.num)) = rest.any (fun t => (v.ts.any fun u => u.num == t.num) && !(rem.any fun m => m == t.num)) →
      f34_11 w0 K b m d ((m : Nat) : Int) ((i : Nat) : Int) v.lo v.nx v.sq a n c lo nx sq b m d e p g 0 0 0 none 0 0 h0 := by
  intro rest
  induction rest with
  | nil =>
    intro i hd hi he
    have h3 : (add.any fun t => (v.ts.any fun u => u.num == t.num) && !(rem.any fun m => m == t.num)) = false := he
    have hdone := drop_done hd
    have hla := sa.len
    have hlv := sv.len
    have hlr := sr.len
    have step : ∀ q : Bool, (q = true → lo < v.lo ∨ nx < v.nx ∨ sq < v.sq) → (q = false → ¬ (lo < v.lo ∨ nx < v.nx ∨ sq < v.sq)) →
        f34_18 w0 K q v.lo v.nx v.sq a n c lo nx sq b m d e p g 0 0 0 none 0 0 h0 := fun q g1 g0 => by
      refine f34_18_in _ _ _ _ _ _ _ _ _ _ _ _ _ _ _ _ _ _ _ _ _ _ _ (brB_of (fun e1 => ?_) fun e1 => f34_19_in _ _ _ _ _ _ _ _ _ _ _ _ _ _ _ _ _ _ _ _ _ _ ?_)
      · refine f34_fail hk ?_
        unfold applyR
        rw [h1, h2, h3]
        simp only [Bool.not_true, Bool.false_eq_true, if_false]
        rw [if_pos (g1 e1)]
      · have w1 : IntKind.i64.wrap (IntKind.i64.wrap (((n : Nat) : Int) - ((p : Nat) : Int)) + ((m : Nat) : Int)) = (v.ts.length : Int) - rem.length + add.length := by
          rw [wrap64 (x := ((n : Nat) : Int) - ((p : Nat) : Int)) (by omega) (by omega), wrap64 (by omega) (by omega)]; omega
        rw [w1]
        refine brB_of (fun e2 => ?_) fun e2 => ?_
        · refine f34_fail hk ?_
          unfold applyR
          rw [h1, h2, h3]
          simp only [Bool.not_true, Bool.false_eq_true, if_false]
          rw [if_neg (g0 e1), if_pos (by simpa using e2)]
        · refine f34_23_ok hk sv sa sr hn hm ?_ _ 0 none 0 0 h0 rfl (by omega) (Ext.refl _ _) New.none (by simpa [tabs] using Sl.nil)
          unfold applyR
          rw [h1, h2, h3]
          simp only [Bool.not_true, Bool.false_eq_true, if_false]
          rw [if_neg (g0 e1), if_neg (by simpa using e2)]
    refine f34_11_in _ _ _ _ _ _ _ _ _ _ _ _ _ _ _ _ _ _ _ _ _ _ _ _ _ _ _ (brB_of (fun q => by simp at q; omega) fun _ => brB_of (fun q => step _ (fun _ => ?_) (fun z => by cases z)) fun q => brB_of (fun q2 => step _ (fun _ => ?_) (fun z => by cases z)) fun q2 => step _ (fun q3 => ?_) fun q3 => ?_)
    all_goals simp only [decide_eq_true_eq, decide_eq_false_iff_not] at *
    all_goals omega
  | cons t r ih =>
    intro i hd hi he
    obtain ⟨hget, hd', hlt⟩ := drop_step hd
    have hsl := sa.len
    have step : ∀ q : Bool, (q = ((v.ts.any fun u => u.num == t.num) && !(rem.any fun m => m == t.num))) → f34_15 w0 K b m d ((m : Nat) : Int) ((i : Nat) : Int) q v.lo v.nx v.sq a n c lo nx sq b m d e p g 0 0 0 none 0 0 h0 := fun q hq => by
      refine f34_15_in _ _ _ _ _ _ _ _ _ _ _ _ _ _ _ _ _ _ _ _ _ _ _ _ _ _ _ _ (brB_of (fun e1 => ?_) fun e1 => ?_)
      · refine f34_fail hk ?_
        unfold applyR
        rw [h1, h2, he]
        simp only [Bool.not_true, Bool.false_eq_true, if_false]
        rw [List.any_cons, ← hq, e1]
        rfl
      · rw [wrapS (by omega)]
        exact ih (i + 1) hd' (by omega) (by rw [he, List.any_cons, ← hq, e1]; rfl)
    refine f34_11_in _ _ _ _ _ _ _ _ _ _ _ _ _ _ _ _ _ _ _ _ _ _ _ _ _ _ _ (brB_of (fun _ => tabLoad sa.rs.rd sa.len hget ?_) fun q => by simp at q; omega)
    refine f61_spec sv (fun u hu => ⟨_, _, _, _, _, _, _, _, _, _, rfl, ?_⟩) fun hu => ⟨_, _, _, _, _, _, _, _, _, _, rfl, ?_⟩
    · have hany : (v.ts.any fun u => u.num == t.num) = true := by rw [List.any_eq_true]; exact ⟨u, List.mem_of_find?_eq_some hu, List.find?_some (p := fun u : Tab => u.num == t.num) hu⟩
      refine brB_of (fun _ => f62_spec sr ⟨_, rfl, step _ ?_⟩) fun q => by cases q
      rw [hany]; rfl
    · have hany : (v.ts.any fun u => u.num == t.num) = false := by
        rw [List.any_eq_false]; intro u hmem; exact List.find?_eq_none.1 hu u hmem
      refine brB_of (fun q => by cases q) fun _ => step _ ?_
      rw [hany]; rfl

theorem f34_4_ok (h1 : (mayV v.lo v.nx v.sq v.ts && mayE lo nx sq add rem) = true) :
    ∀ (rest : List Int) (i : Nat), rem.drop i = rest → i ≤ p → (rem.any fun n => !(v.ts.any fun t => t.num == n)) = rest.any (fun n => !(v.ts.any fun t => t.num == n)) →
      f34_4 w0 K e p g ((p : Nat) : Int) ((i : Nat) : Int) v.lo v.nx v.sq a n c lo nx sq b m d e p g 0 0 0 none 0 0 h0 := by
  intro rest
  induction rest with
  | nil =>
    intro i hd hi he
    have hdone := drop_done hd
    have hlr := sr.len
    exact f34_4_in _ _ _ _ _ _ _ _ _ _ _ _ _ _ _ _ _ _ _ _ _ _ _ _ _ _ _ (brB_of (fun q => by simp at q; omega) fun _ => f34_11_ok hk sv sa sr hn hm hp h1 he _ 0 rfl (by omega) rfl)
  | cons x r ih =>
    intro i hd hi he
    obtain ⟨hget, hd', hlt⟩ := drop_step hd
    have hsl := sr.len
    refine f34_4_in _ _ _ _ _ _ _ _ _ _ _ _ _ _ _ _ _ _ _ _ _ _ _ _ _ _ _ (brB_of (fun _ => intLoad sr.rs.rd sr.len hget ?_) fun q => by simp at q; omega)
    refine f61_spec sv (fun u hu => ⟨_, _, _, _, _, _, _, _, _, _, rfl, ?_⟩) fun hu => ⟨_, _, _, _, _, _, _, _, _, _, rfl, ?_⟩
    · have hany : (v.ts.any fun u => u.num == x) = true := by rw [List.any_eq_true]; exact ⟨u, List.mem_of_find?_eq_some hu, List.find?_some (p := fun u : Tab => u.num == x) hu⟩
      refine brB_of (fun q => by cases q) fun _ => ?_
      rw [wrapS (by omega)]
      exact ih (i + 1) hd' (by omega) (by rw [he, List.any_cons, hany]; rfl)
    · have hany : (v.ts.any fun u => u.num == x) = false := by
        rw [List.any_eq_false]; intro u hmem; exact List.find?_eq_none.1 hu u hmem
      refine brB_of (fun _ => f34_fail hk ?_) fun q => by cases q
      unfold applyR
      rw [h1, he, List.any_cons, hany]
      rfl
end

theorem mayV_len {lo nx sq : Int} {ts : List Tab} (h : mayV lo nx sq ts = true) : ts.length ≤ 200 := by
  simp only [mayV, Bool.and_eq_true, decide_eq_true_eq] at h; exact h.1.2
theorem mayE_len {lo nx sq : Int} {add : List Tab} {rem : List Int} (h : mayE lo nx sq add rem = true) : add.length ≤ 200 ∧ rem.length ≤ 200 := by
  simp only [mayE, Bool.and_eq_true, decide_eq_true_eq] at h; exact ⟨h.1.1.1.2, h.1.1.2⟩

/-- ref Apply. -/
theorem f34_spec {w0 : World} {K : Value → AH → Prop} {h0 : AH} {v : Ver} {lo nx sq : Int} {a b e : Option Addr} {n c m d p g : Nat} {add : List Tab} {rem : List Int}
    (hk : ∀ a' n' c' h', TS w0 h' a' n' c' (applyR v lo nx sq add rem).1.ts → Ext h0 h' none →
      K (.tuple #[.agg #[.int .i64 (applyR v lo nx sq add rem).1.lo, .int .i64 (applyR v lo nx sq add rem).1.nx, .int .i64 (applyR v lo nx sq add rem).1.sq, .slice a' n' c'], .int .i64 (applyR v lo nx sq add rem).2]) h')
    (sv : TS w0 h0 a n c v.ts) (sa : TS w0 h0 b m d add) (sr : IS w0 h0 e p g rem) :
    EvC Go.Proofs.Try.prog w0 34 #[.agg #[.int .i64 v.lo, .int .i64 v.nx, .int .i64 v.sq, .slice a n c], .agg #[.int .i64 lo, .int .i64 nx, .int .i64 sq, .slice b m d, .slice e p g]] K h0 := by
  have step : ∀ q : Bool, (q = true → (mayV v.lo v.nx v.sq v.ts && mayE lo nx sq add rem) = false) → (q = false → (mayV v.lo v.nx v.sq v.ts && mayE lo nx sq add rem) = true) →
      f34_2 w0 K q v.lo v.nx v.sq a n c lo nx sq b m d e p g 0 0 0 none 0 0 h0 := fun q g1 g0 => by
    refine f34_2_in _ _ _ _ _ _ _ _ _ _ _ _ _ _ _ _ _ _ _ _ _ _ _ (brB_of (fun e1 => f34_fail hk ?_) fun e1 => ?_)
    · unfold applyR
      rw [g1 e1]; rfl
    · have h1 := g0 e1
      have h1' := h1
      rw [Bool.and_eq_true] at h1'
      have l1 := mayV_len h1'.1
      have l2 := mayE_len h1'.2
      have := sv.len
      have := sa.len
      have := sr.len
      exact f34_3_in _ _ _ _ _ _ _ _ _ _ _ _ _ _ _ _ _ _ _ _ _ _ (f34_4_ok hk sv sa sr (by omega) (by omega) (by omega) h1 _ 0 rfl (by omega) rfl)
  refine f34_go _ _ _ _ _ _ _ _ _ _ _ _ _ _ _ _ (f32_spec sv ⟨_, rfl, brB_of (fun q => step _ (fun _ => ?_) (fun z => by cases z)) fun q => f60_spec sa sr ⟨_, rfl, step _ (fun q2 => ?_) fun q2 => ?_⟩⟩)
  · have : mayV v.lo v.nx v.sq v.ts = false := by simpa using q
    rw [this]; rfl
  · have : mayE lo nx sq add rem = false := by simpa using q2
    rw [this]; simp
  · have h1 : mayV v.lo v.nx v.sq v.ts = true := by simpa using q
    have h2 : mayE lo nx sq add rem = true := by simpa using q2
    rw [h1, h2]; rfl
end Go.G.Ytpnhlgghpciofaa
