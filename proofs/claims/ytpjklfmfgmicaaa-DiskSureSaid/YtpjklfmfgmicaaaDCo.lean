/- own, a closure of Copy. -/
import Derived.Test.YtpjklfmfgmicaaaDRe
import Derived.Test.YtpjklfmfgmicaaaProg
set_option maxRecDepth 100000
namespace Go.G.Ytpjklfmfgmicaaa
open Go.RowKit
def f68_J : Nat → List Nat × Nat := jOf [(2, [2, 3, 4, 5, 6, 7, 8, 9, 10, 12, 13, 14, 15, 16, 17, 18, 19, 20, 21, 22, 23, 24, 25, 26, 27], 0)]

def f68_2 (w0 : World) (K : Value → AH → Prop) (x0 : Option Go.Addr) (x1 : Go.Addr) (x11 : Bool) (h : AH) : Prop :=
  ∀ j : Nat → Value, LPk Go.Proofs.Try.prog w0 (EvC Go.Proofs.Try.prog w0) f68_J 68 K 2 [.v (.pointer x0), .v (.pointer (some x1)), .v (j 2), .v (j 3), .v (j 4), .v (j 5), .v (j 6), .v (j 7), .v (j 8), .v (j 9), .v (j 10), .v (.bool x11), .v (j 12), .v (j 13), .v (j 14), .v (j 15), .v (j 16), .v (j 17), .v (j 18), .v (j 19), .v (j 20), .v (j 21), .v (j 22), .v (j 23), .v (j 24), .v (j 25), .v (j 26), .v (j 27)] [] h

theorem f68_2_in {w0 : World} {K : Value → AH → Prop} (x0 : Option Go.Addr) (x1 : Go.Addr) (x11 : Bool) (h : AH)
  (hv : (brB x11 (∃ a'3 : Go.Addr, ((x0 = (some a'3)) ∧ (∃ a'4 : Go.Addr, ((x0 = (some a'4)) ∧ ((∃ p'5 : Option Nat, (((Go.G.cellA w0 h x1) = (some (Go.Value.map p'5))) ∧ ((∃ p'6 : Option Go.Addr, (∃ n'7 : Nat, (∃ n'8 : Nat, (((Go.G.cellA w0 h (Go.Addr.add a'3 0)) = (some (Go.Value.slice p'6 n'7 n'8))) ∧ ((rowsOf w0 h 1 p'6 n'7 (fun ys'9 => (App w0 h 1 1 none 0 0 n'7 ys'9 (fun a'10 c'11 h'12 => (∃ i'13 : Int, (((Go.G.cellA w0 h'12 (Go.Addr.add a'4 1)) = (some (Go.Value.int .i64 i'13))) ∧ (newB w0 h'12 (Go.G.AB.cells [(Go.Value.slice a'10 (0 + n'7) c'11), (Go.Value.int .i64 i'13)] (List.length [(Go.Value.slice a'10 (0 + n'7) c'11), (Go.Value.int .i64 i'13)])) (fun b'14 h'15 => ((ptrKey w0 h'15 (Go.Value.pointer x0)) ∧ (∃ n'16 : Nat, ((p'5 = (some n'16)) ∧ (mapAtP Go.Proofs.Try.prog w0 h'15 (some n'16) 104 (fun es'17 => (∃ p'18 : Option Nat, (((Go.G.cellA w0 (Go.G.AH.putm h'15 n'16 (Go.G.putM (Go.Value.pointer x0) (Go.Value.pointer (some (Go.Addr.mk b'14 0 none))) es'17)) x1) = (some (Go.Value.map p'18))) ∧ ((ptrKey w0 (Go.G.AH.putm h'15 n'16 (Go.G.putM (Go.Value.pointer x0) (Go.Value.pointer (some (Go.Addr.mk b'14 0 none))) es'17)) (Go.Value.pointer x0)) ∧ (mapAtP Go.Proofs.Try.prog w0 (Go.G.AH.putm h'15 n'16 (Go.G.putM (Go.Value.pointer x0) (Go.Value.pointer (some (Go.Addr.mk b'14 0 none))) es'17)) p'18 104 (fun es'19 => (∃ p'20 : Option Go.Addr, (((Go.Value.pointer p'20) = (Option.getD (Go.G.getM (Go.Value.pointer x0) es'19) (Go.Value.pointer none))) ∧ (K (Go.Value.pointer p'20) (Go.G.AH.putm h'15 n'16 (Go.G.putM (Go.Value.pointer x0) (Go.Value.pointer (some (Go.Addr.mk b'14 0 none))) es'17))))))))))))))))))))))) ∧ (∃ i'21 : Int, (((Go.G.cellA w0 h (Go.Addr.add a'4 1)) = (some (Go.Value.int .i64 i'21))) ∧ (rowsOf w0 h 1 p'6 n'7 (fun ys'22 => (App w0 h 1 1 none 0 0 n'7 ys'22 (fun a'23 c'24 h'25 => (newB w0 h'25 (Go.G.AB.cells [(Go.Value.slice a'23 (0 + n'7) c'24), (Go.Value.int .i64 i'21)] (List.length [(Go.Value.slice a'23 (0 + n'7) c'24), (Go.Value.int .i64 i'21)])) (fun b'26 h'27 => ((ptrKey w0 h'27 (Go.Value.pointer x0)) ∧ (∃ n'28 : Nat, ((p'5 = (some n'28)) ∧ (mapAtP Go.Proofs.Try.prog w0 h'27 (some n'28) 104 (fun es'29 => (∃ p'30 : Option Nat, (((Go.G.cellA w0 (Go.G.AH.putm h'27 n'28 (Go.G.putM (Go.Value.pointer x0) (Go.Value.pointer (some (Go.Addr.mk b'26 0 none))) es'29)) x1) = (some (Go.Value.map p'30))) ∧ ((ptrKey w0 (Go.G.AH.putm h'27 n'28 (Go.G.putM (Go.Value.pointer x0) (Go.Value.pointer (some (Go.Addr.mk b'26 0 none))) es'29)) (Go.Value.pointer x0)) ∧ (mapAtP Go.Proofs.Try.prog w0 (Go.G.AH.putm h'27 n'28 (Go.G.putM (Go.Value.pointer x0) (Go.Value.pointer (some (Go.Addr.mk b'26 0 none))) es'29)) p'30 104 (fun es'31 => (∃ p'32 : Option Go.Addr, (((Go.Value.pointer p'32) = (Option.getD (Go.G.getM (Go.Value.pointer x0) es'31) (Go.Value.pointer none))) ∧ (K (Go.Value.pointer p'32) (Go.G.AH.putm h'27 n'28 (Go.G.putM (Go.Value.pointer x0) (Go.Value.pointer (some (Go.Addr.mk b'26 0 none))) es'29)))))))))))))))))))))))))))) ∧ (∃ i'33 : Int, (((Go.G.cellA w0 h (Go.Addr.add a'4 1)) = (some (Go.Value.int .i64 i'33))) ∧ (∃ p'34 : Option Go.Addr, (∃ n'35 : Nat, (∃ n'36 : Nat, (((Go.G.cellA w0 h (Go.Addr.add a'3 0)) = (some (Go.Value.slice p'34 n'35 n'36))) ∧ (rowsOf w0 h 1 p'34 n'35 (fun ys'37 => (App w0 h 1 1 none 0 0 n'35 ys'37 (fun a'38 c'39 h'40 => (newB w0 h'40 (Go.G.AB.cells [(Go.Value.slice a'38 (0 + n'35) c'39), (Go.Value.int .i64 i'33)] (List.length [(Go.Value.slice a'38 (0 + n'35) c'39), (Go.Value.int .i64 i'33)])) (fun b'41 h'42 => ((ptrKey w0 h'42 (Go.Value.pointer x0)) ∧ (∃ n'43 : Nat, ((p'5 = (some n'43)) ∧ (mapAtP Go.Proofs.Try.prog w0 h'42 (some n'43) 104 (fun es'44 => (∃ p'45 : Option Nat, (((Go.G.cellA w0 (Go.G.AH.putm h'42 n'43 (Go.G.putM (Go.Value.pointer x0) (Go.Value.pointer (some (Go.Addr.mk b'41 0 none))) es'44)) x1) = (some (Go.Value.map p'45))) ∧ ((ptrKey w0 (Go.G.AH.putm h'42 n'43 (Go.G.putM (Go.Value.pointer x0) (Go.Value.pointer (some (Go.Addr.mk b'41 0 none))) es'44)) (Go.Value.pointer x0)) ∧ (mapAtP Go.Proofs.Try.prog w0 (Go.G.AH.putm h'42 n'43 (Go.G.putM (Go.Value.pointer x0) (Go.Value.pointer (some (Go.Addr.mk b'41 0 none))) es'44)) p'45 104 (fun es'46 => (∃ p'47 : Option Go.Addr, (((Go.Value.pointer p'47) = (Option.getD (Go.G.getM (Go.Value.pointer x0) es'46) (Go.Value.pointer none))) ∧ (K (Go.Value.pointer p'47) (Go.G.AH.putm h'42 n'43 (Go.G.putM (Go.Value.pointer x0) (Go.Value.pointer (some (Go.Addr.mk b'41 0 none))) es'44)))))))))))))))))))))))))))))) ∧ ((∃ p'48 : Option Go.Addr, (∃ n'49 : Nat, (∃ n'50 : Nat, (((Go.G.cellA w0 h (Go.Addr.add a'3 0)) = (some (Go.Value.slice p'48 n'49 n'50))) ∧ ((∃ p'51 : Option Nat, (((Go.G.cellA w0 h x1) = (some (Go.Value.map p'51))) ∧ ((rowsOf w0 h 1 p'48 n'49 (fun ys'52 => (App w0 h 1 1 none 0 0 n'49 ys'52 (fun a'53 c'54 h'55 => (∃ i'56 : Int, (((Go.G.cellA w0 h'55 (Go.Addr.add a'4 1)) = (some (Go.Value.int .i64 i'56))) ∧ (newB w0 h'55 (Go.G.AB.cells [(Go.Value.slice a'53 (0 + n'49) c'54), (Go.Value.int .i64 i'56)] (List.length [(Go.Value.slice a'53 (0 + n'49) c'54), (Go.Value.int .i64 i'56)])) (fun b'57 h'58 => ((ptrKey w0 h'58 (Go.Value.pointer x0)) ∧ (∃ n'59 : Nat, ((p'51 = (some n'59)) ∧ (mapAtP Go.Proofs.Try.prog w0 h'58 (some n'59) 104 (fun es'60 => (∃ p'61 : Option Nat, (((Go.G.cellA w0 (Go.G.AH.putm h'58 n'59 (Go.G.putM (Go.Value.pointer x0) (Go.Value.pointer (some (Go.Addr.mk b'57 0 none))) es'60)) x1) = (some (Go.Value.map p'61))) ∧ ((ptrKey w0 (Go.G.AH.putm h'58 n'59 (Go.G.putM (Go.Value.pointer x0) (Go.Value.pointer (some (Go.Addr.mk b'57 0 none))) es'60)) (Go.Value.pointer x0)) ∧ (mapAtP Go.Proofs.Try.prog w0 (Go.G.AH.putm h'58 n'59 (Go.G.putM (Go.Value.pointer x0) (Go.Value.pointer (some (Go.Addr.mk b'57 0 none))) es'60)) p'61 104 (fun es'62 => (∃ p'63 : Option Go.Addr, (((Go.Value.pointer p'63) = (Option.getD (Go.G.getM (Go.Value.pointer x0) es'62) (Go.Value.pointer none))) ∧ (K (Go.Value.pointer p'63) (Go.G.AH.putm h'58 n'59 (Go.G.putM (Go.Value.pointer x0) (Go.Value.pointer (some (Go.Addr.mk b'57 0 none))) es'60))))))))))))))))))))))) ∧ (∃ i'64 : Int, (((Go.G.cellA w0 h (Go.Addr.add a'4 1)) = (some (Go.Value.int .i64 i'64))) ∧ (rowsOf w0 h 1 p'48 n'49 (fun ys'65 => (App w0 h 1 1 none 0 0 n'49 ys'65 (fun a'66 c'67 h'68 => (newB w0 h'68 (Go.G.AB.cells [(Go.Value.slice a'66 (0 + n'49) c'67), (Go.Value.int .i64 i'64)] (List.length [(Go.Value.slice a'66 (0 + n'49) c'67), (Go.Value.int .i64 i'64)])) (fun b'69 h'70 => ((ptrKey w0 h'70 (Go.Value.pointer x0)) ∧ (∃ n'71 : Nat, ((p'51 = (some n'71)) ∧ (mapAtP Go.Proofs.Try.prog w0 h'70 (some n'71) 104 (fun es'72 => (∃ p'73 : Option Nat, (((Go.G.cellA w0 (Go.G.AH.putm h'70 n'71 (Go.G.putM (Go.Value.pointer x0) (Go.Value.pointer (some (Go.Addr.mk b'69 0 none))) es'72)) x1) = (some (Go.Value.map p'73))) ∧ ((ptrKey w0 (Go.G.AH.putm h'70 n'71 (Go.G.putM (Go.Value.pointer x0) (Go.Value.pointer (some (Go.Addr.mk b'69 0 none))) es'72)) (Go.Value.pointer x0)) ∧ (mapAtP Go.Proofs.Try.prog w0 (Go.G.AH.putm h'70 n'71 (Go.G.putM (Go.Value.pointer x0) (Go.Value.pointer (some (Go.Addr.mk b'69 0 none))) es'72)) p'73 104 (fun es'74 => (∃ p'75 : Option Go.Addr, (((Go.Value.pointer p'75) = (Option.getD (Go.G.getM (Go.Value.pointer x0) es'74) (Go.Value.pointer none))) ∧ (K (Go.Value.pointer p'75) (Go.G.AH.putm h'70 n'71 (Go.G.putM (Go.Value.pointer x0) (Go.Value.pointer (some (Go.Addr.mk b'69 0 none))) es'72)))))))))))))))))))))))))) ∧ ((rowsOf w0 h 1 p'48 n'49 (fun ys'76 => (App w0 h 1 1 none 0 0 n'49 ys'76 (fun a'77 c'78 h'79 => ((∃ p'80 : Option Nat, (((Go.G.cellA w0 h'79 x1) = (some (Go.Value.map p'80))) ∧ (∃ i'81 : Int, (((Go.G.cellA w0 h'79 (Go.Addr.add a'4 1)) = (some (Go.Value.int .i64 i'81))) ∧ (newB w0 h'79 (Go.G.AB.cells [(Go.Value.slice a'77 (0 + n'49) c'78), (Go.Value.int .i64 i'81)] (List.length [(Go.Value.slice a'77 (0 + n'49) c'78), (Go.Value.int .i64 i'81)])) (fun b'82 h'83 => ((ptrKey w0 h'83 (Go.Value.pointer x0)) ∧ (∃ n'84 : Nat, ((p'80 = (some n'84)) ∧ (mapAtP Go.Proofs.Try.prog w0 h'83 (some n'84) 104 (fun es'85 => (∃ p'86 : Option Nat, (((Go.G.cellA w0 (Go.G.AH.putm h'83 n'84 (Go.G.putM (Go.Value.pointer x0) (Go.Value.pointer (some (Go.Addr.mk b'82 0 none))) es'85)) x1) = (some (Go.Value.map p'86))) ∧ ((ptrKey w0 (Go.G.AH.putm h'83 n'84 (Go.G.putM (Go.Value.pointer x0) (Go.Value.pointer (some (Go.Addr.mk b'82 0 none))) es'85)) (Go.Value.pointer x0)) ∧ (mapAtP Go.Proofs.Try.prog w0 (Go.G.AH.putm h'83 n'84 (Go.G.putM (Go.Value.pointer x0) (Go.Value.pointer (some (Go.Addr.mk b'82 0 none))) es'85)) p'86 104 (fun es'87 => (∃ p'88 : Option Go.Addr, (((Go.Value.pointer p'88) = (Option.getD (Go.G.getM (Go.Value.pointer x0) es'87) (Go.Value.pointer none))) ∧ (K (Go.Value.pointer p'88) (Go.G.AH.putm h'83 n'84 (Go.G.putM (Go.Value.pointer x0) (Go.Value.pointer (some (Go.Addr.mk b'82 0 none))) es'85))))))))))))))))))))) ∧ (∃ i'89 : Int, (((Go.G.cellA w0 h'79 (Go.Addr.add a'4 1)) = (some (Go.Value.int .i64 i'89))) ∧ ((∃ p'90 : Option Nat, (((Go.G.cellA w0 h'79 x1) = (some (Go.Value.map p'90))) ∧ (newB w0 h'79 (Go.G.AB.cells [(Go.Value.slice a'77 (0 + n'49) c'78), (Go.Value.int .i64 i'89)] (List.length [(Go.Value.slice a'77 (0 + n'49) c'78), (Go.Value.int .i64 i'89)])) (fun b'91 h'92 => ((ptrKey w0 h'92 (Go.Value.pointer x0)) ∧ (∃ n'93 : Nat, ((p'90 = (some n'93)) ∧ (mapAtP Go.Proofs.Try.prog w0 h'92 (some n'93) 104 (fun es'94 => (∃ p'95 : Option Nat, (((Go.G.cellA w0 (Go.G.AH.putm h'92 n'93 (Go.G.putM (Go.Value.pointer x0) (Go.Value.pointer (some (Go.Addr.mk b'91 0 none))) es'94)) x1) = (some (Go.Value.map p'95))) ∧ ((ptrKey w0 (Go.G.AH.putm h'92 n'93 (Go.G.putM (Go.Value.pointer x0) (Go.Value.pointer (some (Go.Addr.mk b'91 0 none))) es'94)) (Go.Value.pointer x0)) ∧ (mapAtP Go.Proofs.Try.prog w0 (Go.G.AH.putm h'92 n'93 (Go.G.putM (Go.Value.pointer x0) (Go.Value.pointer (some (Go.Addr.mk b'91 0 none))) es'94)) p'95 104 (fun es'96 => (∃ p'97 : Option Go.Addr, (((Go.Value.pointer p'97) = (Option.getD (Go.G.getM (Go.Value.pointer x0) es'96) (Go.Value.pointer none))) ∧ (K (Go.Value.pointer p'97) (Go.G.AH.putm h'92 n'93 (Go.G.putM (Go.Value.pointer x0) (Go.Value.pointer (some (Go.Addr.mk b'91 0 none))) es'94))))))))))))))))))) ∧ (∃ p'98 : Option Nat, (((Go.G.cellA w0 h'79 x1) = (some (Go.Value.map p'98))) ∧ (newB w0 h'79 (Go.G.AB.cells [(Go.Value.slice a'77 (0 + n'49) c'78), (Go.Value.int .i64 i'89)] (List.length [(Go.Value.slice a'77 (0 + n'49) c'78), (Go.Value.int .i64 i'89)])) (fun b'99 h'100 => ((ptrKey w0 h'100 (Go.Value.pointer x0)) ∧ (∃ n'101 : Nat, ((p'98 = (some n'101)) ∧ (mapAtP Go.Proofs.Try.prog w0 h'100 (some n'101) 104 (fun es'102 => (∃ p'103 : Option Nat, (((Go.G.cellA w0 (Go.G.AH.putm h'100 n'101 (Go.G.putM (Go.Value.pointer x0) (Go.Value.pointer (some (Go.Addr.mk b'99 0 none))) es'102)) x1) = (some (Go.Value.map p'103))) ∧ ((ptrKey w0 (Go.G.AH.putm h'100 n'101 (Go.G.putM (Go.Value.pointer x0) (Go.Value.pointer (some (Go.Addr.mk b'99 0 none))) es'102)) (Go.Value.pointer x0)) ∧ (mapAtP Go.Proofs.Try.prog w0 (Go.G.AH.putm h'100 n'101 (Go.G.putM (Go.Value.pointer x0) (Go.Value.pointer (some (Go.Addr.mk b'99 0 none))) es'102)) p'103 104 (fun es'104 => (∃ p'105 : Option Go.Addr, (((Go.Value.pointer p'105) = (Option.getD (Go.G.getM (Go.Value.pointer x0) es'104) (Go.Value.pointer none))) ∧ (K (Go.Value.pointer p'105) (Go.G.AH.putm h'100 n'101 (Go.G.putM (Go.Value.pointer x0) (Go.Value.pointer (some (Go.Addr.mk b'99 0 none))) es'102))))))))))))))))))))))))))) ∧ (∃ i'106 : Int, (((Go.G.cellA w0 h (Go.Addr.add a'4 1)) = (some (Go.Value.int .i64 i'106))) ∧ ((∃ p'107 : Option Nat, (((Go.G.cellA w0 h x1) = (some (Go.Value.map p'107))) ∧ (rowsOf w0 h 1 p'48 n'49 (fun ys'108 => (App w0 h 1 1 none 0 0 n'49 ys'108 (fun a'109 c'110 h'111 => (newB w0 h'111 (Go.G.AB.cells [(Go.Value.slice a'109 (0 + n'49) c'110), (Go.Value.int .i64 i'106)] (List.length [(Go.Value.slice a'109 (0 + n'49) c'110), (Go.Value.int .i64 i'106)])) (fun b'112 h'113 => ((ptrKey w0 h'113 (Go.Value.pointer x0)) ∧ (∃ n'114 : Nat, ((p'107 = (some n'114)) ∧ (mapAtP Go.Proofs.Try.prog w0 h'113 (some n'114) 104 (fun es'115 => (∃ p'116 : Option Nat, (((Go.G.cellA w0 (Go.G.AH.putm h'113 n'114 (Go.G.putM (Go.Value.pointer x0) (Go.Value.pointer (some (Go.Addr.mk b'112 0 none))) es'115)) x1) = (some (Go.Value.map p'116))) ∧ ((ptrKey w0 (Go.G.AH.putm h'113 n'114 (Go.G.putM (Go.Value.pointer x0) (Go.Value.pointer (some (Go.Addr.mk b'112 0 none))) es'115)) (Go.Value.pointer x0)) ∧ (mapAtP Go.Proofs.Try.prog w0 (Go.G.AH.putm h'113 n'114 (Go.G.putM (Go.Value.pointer x0) (Go.Value.pointer (some (Go.Addr.mk b'112 0 none))) es'115)) p'116 104 (fun es'117 => (∃ p'118 : Option Go.Addr, (((Go.Value.pointer p'118) = (Option.getD (Go.G.getM (Go.Value.pointer x0) es'117) (Go.Value.pointer none))) ∧ (K (Go.Value.pointer p'118) (Go.G.AH.putm h'113 n'114 (Go.G.putM (Go.Value.pointer x0) (Go.Value.pointer (some (Go.Addr.mk b'112 0 none))) es'115))))))))))))))))))))))) ∧ (rowsOf w0 h 1 p'48 n'49 (fun ys'119 => (App w0 h 1 1 none 0 0 n'49 ys'119 (fun a'120 c'121 h'122 => ((∃ p'123 : Option Nat, (((Go.G.cellA w0 h'122 x1) = (some (Go.Value.map p'123))) ∧ (newB w0 h'122 (Go.G.AB.cells [(Go.Value.slice a'120 (0 + n'49) c'121), (Go.Value.int .i64 i'106)] (List.length [(Go.Value.slice a'120 (0 + n'49) c'121), (Go.Value.int .i64 i'106)])) (fun b'124 h'125 => ((ptrKey w0 h'125 (Go.Value.pointer x0)) ∧ (∃ n'126 : Nat, ((p'123 = (some n'126)) ∧ (mapAtP Go.Proofs.Try.prog w0 h'125 (some n'126) 104 (fun es'127 => (∃ p'128 : Option Nat, (((Go.G.cellA w0 (Go.G.AH.putm h'125 n'126 (Go.G.putM (Go.Value.pointer x0) (Go.Value.pointer (some (Go.Addr.mk b'124 0 none))) es'127)) x1) = (some (Go.Value.map p'128))) ∧ ((ptrKey w0 (Go.G.AH.putm h'125 n'126 (Go.G.putM (Go.Value.pointer x0) (Go.Value.pointer (some (Go.Addr.mk b'124 0 none))) es'127)) (Go.Value.pointer x0)) ∧ (mapAtP Go.Proofs.Try.prog w0 (Go.G.AH.putm h'125 n'126 (Go.G.putM (Go.Value.pointer x0) (Go.Value.pointer (some (Go.Addr.mk b'124 0 none))) es'127)) p'128 104 (fun es'129 => (∃ p'130 : Option Go.Addr, (((Go.Value.pointer p'130) = (Option.getD (Go.G.getM (Go.Value.pointer x0) es'129) (Go.Value.pointer none))) ∧ (K (Go.Value.pointer p'130) (Go.G.AH.putm h'125 n'126 (Go.G.putM (Go.Value.pointer x0) (Go.Value.pointer (some (Go.Addr.mk b'124 0 none))) es'127))))))))))))))))))) ∧ (∃ p'131 : Option Nat, (((Go.G.cellA w0 h'122 x1) = (some (Go.Value.map p'131))) ∧ (newB w0 h'122 (Go.G.AB.cells [(Go.Value.slice a'120 (0 + n'49) c'121), (Go.Value.int .i64 i'106)] (List.length [(Go.Value.slice a'120 (0 + n'49) c'121), (Go.Value.int .i64 i'106)])) (fun b'132 h'133 => ((ptrKey w0 h'133 (Go.Value.pointer x0)) ∧ (∃ n'134 : Nat, ((p'131 = (some n'134)) ∧ (mapAtP Go.Proofs.Try.prog w0 h'133 (some n'134) 104 (fun es'135 => (∃ p'136 : Option Nat, (((Go.G.cellA w0 (Go.G.AH.putm h'133 n'134 (Go.G.putM (Go.Value.pointer x0) (Go.Value.pointer (some (Go.Addr.mk b'132 0 none))) es'135)) x1) = (some (Go.Value.map p'136))) ∧ ((ptrKey w0 (Go.G.AH.putm h'133 n'134 (Go.G.putM (Go.Value.pointer x0) (Go.Value.pointer (some (Go.Addr.mk b'132 0 none))) es'135)) (Go.Value.pointer x0)) ∧ (mapAtP Go.Proofs.Try.prog w0 (Go.G.AH.putm h'133 n'134 (Go.G.putM (Go.Value.pointer x0) (Go.Value.pointer (some (Go.Addr.mk b'132 0 none))) es'135)) p'136 104 (fun es'137 => (∃ p'138 : Option Go.Addr, (((Go.Value.pointer p'138) = (Option.getD (Go.G.getM (Go.Value.pointer x0) es'137) (Go.Value.pointer none))) ∧ (K (Go.Value.pointer p'138) (Go.G.AH.putm h'133 n'134 (Go.G.putM (Go.Value.pointer x0) (Go.Value.pointer (some (Go.Addr.mk b'132 0 none))) es'135))))))))))))))))))))))))))))))))) ∧ (∃ i'139 : Int, (((Go.G.cellA w0 h (Go.Addr.add a'4 1)) = (some (Go.Value.int .i64 i'139))) ∧ ((∃ p'140 : Option Nat, (((Go.G.cellA w0 h x1) = (some (Go.Value.map p'140))) ∧ (∃ p'141 : Option Go.Addr, (∃ n'142 : Nat, (∃ n'143 : Nat, (((Go.G.cellA w0 h (Go.Addr.add a'3 0)) = (some (Go.Value.slice p'141 n'142 n'143))) ∧ (rowsOf w0 h 1 p'141 n'142 (fun ys'144 => (App w0 h 1 1 none 0 0 n'142 ys'144 (fun a'145 c'146 h'147 => (newB w0 h'147 (Go.G.AB.cells [(Go.Value.slice a'145 (0 + n'142) c'146), (Go.Value.int .i64 i'139)] (List.length [(Go.Value.slice a'145 (0 + n'142) c'146), (Go.Value.int .i64 i'139)])) (fun b'148 h'149 => ((ptrKey w0 h'149 (Go.Value.pointer x0)) ∧ (∃ n'150 : Nat, ((p'140 = (some n'150)) ∧ (mapAtP Go.Proofs.Try.prog w0 h'149 (some n'150) 104 (fun es'151 => (∃ p'152 : Option Nat, (((Go.G.cellA w0 (Go.G.AH.putm h'149 n'150 (Go.G.putM (Go.Value.pointer x0) (Go.Value.pointer (some (Go.Addr.mk b'148 0 none))) es'151)) x1) = (some (Go.Value.map p'152))) ∧ ((ptrKey w0 (Go.G.AH.putm h'149 n'150 (Go.G.putM (Go.Value.pointer x0) (Go.Value.pointer (some (Go.Addr.mk b'148 0 none))) es'151)) (Go.Value.pointer x0)) ∧ (mapAtP Go.Proofs.Try.prog w0 (Go.G.AH.putm h'149 n'150 (Go.G.putM (Go.Value.pointer x0) (Go.Value.pointer (some (Go.Addr.mk b'148 0 none))) es'151)) p'152 104 (fun es'153 => (∃ p'154 : Option Go.Addr, (((Go.Value.pointer p'154) = (Option.getD (Go.G.getM (Go.Value.pointer x0) es'153) (Go.Value.pointer none))) ∧ (K (Go.Value.pointer p'154) (Go.G.AH.putm h'149 n'150 (Go.G.putM (Go.Value.pointer x0) (Go.Value.pointer (some (Go.Addr.mk b'148 0 none))) es'151))))))))))))))))))))))))))) ∧ (∃ p'155 : Option Go.Addr, (∃ n'156 : Nat, (∃ n'157 : Nat, (((Go.G.cellA w0 h (Go.Addr.add a'3 0)) = (some (Go.Value.slice p'155 n'156 n'157))) ∧ ((∃ p'158 : Option Nat, (((Go.G.cellA w0 h x1) = (some (Go.Value.map p'158))) ∧ (rowsOf w0 h 1 p'155 n'156 (fun ys'159 => (App w0 h 1 1 none 0 0 n'156 ys'159 (fun a'160 c'161 h'162 => (newB w0 h'162 (Go.G.AB.cells [(Go.Value.slice a'160 (0 + n'156) c'161), (Go.Value.int .i64 i'139)] (List.length [(Go.Value.slice a'160 (0 + n'156) c'161), (Go.Value.int .i64 i'139)])) (fun b'163 h'164 => ((ptrKey w0 h'164 (Go.Value.pointer x0)) ∧ (∃ n'165 : Nat, ((p'158 = (some n'165)) ∧ (mapAtP Go.Proofs.Try.prog w0 h'164 (some n'165) 104 (fun es'166 => (∃ p'167 : Option Nat, (((Go.G.cellA w0 (Go.G.AH.putm h'164 n'165 (Go.G.putM (Go.Value.pointer x0) (Go.Value.pointer (some (Go.Addr.mk b'163 0 none))) es'166)) x1) = (some (Go.Value.map p'167))) ∧ ((ptrKey w0 (Go.G.AH.putm h'164 n'165 (Go.G.putM (Go.Value.pointer x0) (Go.Value.pointer (some (Go.Addr.mk b'163 0 none))) es'166)) (Go.Value.pointer x0)) ∧ (mapAtP Go.Proofs.Try.prog w0 (Go.G.AH.putm h'164 n'165 (Go.G.putM (Go.Value.pointer x0) (Go.Value.pointer (some (Go.Addr.mk b'163 0 none))) es'166)) p'167 104 (fun es'168 => (∃ p'169 : Option Go.Addr, (((Go.Value.pointer p'169) = (Option.getD (Go.G.getM (Go.Value.pointer x0) es'168) (Go.Value.pointer none))) ∧ (K (Go.Value.pointer p'169) (Go.G.AH.putm h'164 n'165 (Go.G.putM (Go.Value.pointer x0) (Go.Value.pointer (some (Go.Addr.mk b'163 0 none))) es'166))))))))))))))))))))))) ∧ (rowsOf w0 h 1 p'155 n'156 (fun ys'170 => (App w0 h 1 1 none 0 0 n'156 ys'170 (fun a'171 c'172 h'173 => ((∃ p'174 : Option Nat, (((Go.G.cellA w0 h'173 x1) = (some (Go.Value.map p'174))) ∧ (newB w0 h'173 (Go.G.AB.cells [(Go.Value.slice a'171 (0 + n'156) c'172), (Go.Value.int .i64 i'139)] (List.length [(Go.Value.slice a'171 (0 + n'156) c'172), (Go.Value.int .i64 i'139)])) (fun b'175 h'176 => ((ptrKey w0 h'176 (Go.Value.pointer x0)) ∧ (∃ n'177 : Nat, ((p'174 = (some n'177)) ∧ (mapAtP Go.Proofs.Try.prog w0 h'176 (some n'177) 104 (fun es'178 => (∃ p'179 : Option Nat, (((Go.G.cellA w0 (Go.G.AH.putm h'176 n'177 (Go.G.putM (Go.Value.pointer x0) (Go.Value.pointer (some (Go.Addr.mk b'175 0 none))) es'178)) x1) = (some (Go.Value.map p'179))) ∧ ((ptrKey w0 (Go.G.AH.putm h'176 n'177 (Go.G.putM (Go.Value.pointer x0) (Go.Value.pointer (some (Go.Addr.mk b'175 0 none))) es'178)) (Go.Value.pointer x0)) ∧ (mapAtP Go.Proofs.Try.prog w0 (Go.G.AH.putm h'176 n'177 (Go.G.putM (Go.Value.pointer x0) (Go.Value.pointer (some (Go.Addr.mk b'175 0 none))) es'178)) p'179 104 (fun es'180 => (∃ p'181 : Option Go.Addr, (((Go.Value.pointer p'181) = (Option.getD (Go.G.getM (Go.Value.pointer x0) es'180) (Go.Value.pointer none))) ∧ (K (Go.Value.pointer p'181) (Go.G.AH.putm h'176 n'177 (Go.G.putM (Go.Value.pointer x0) (Go.Value.pointer (some (Go.Addr.mk b'175 0 none))) es'178))))))))))))))))))) ∧ (∃ p'182 : Option Nat, (((Go.G.cellA w0 h'173 x1) = (some (Go.Value.map p'182))) ∧ (newB w0 h'173 (Go.G.AB.cells [(Go.Value.slice a'171 (0 + n'156) c'172), (Go.Value.int .i64 i'139)] (List.length [(Go.Value.slice a'171 (0 + n'156) c'172), (Go.Value.int .i64 i'139)])) (fun b'183 h'184 => ((ptrKey w0 h'184 (Go.Value.pointer x0)) ∧ (∃ n'185 : Nat, ((p'182 = (some n'185)) ∧ (mapAtP Go.Proofs.Try.prog w0 h'184 (some n'185) 104 (fun es'186 => (∃ p'187 : Option Nat, (((Go.G.cellA w0 (Go.G.AH.putm h'184 n'185 (Go.G.putM (Go.Value.pointer x0) (Go.Value.pointer (some (Go.Addr.mk b'183 0 none))) es'186)) x1) = (some (Go.Value.map p'187))) ∧ ((ptrKey w0 (Go.G.AH.putm h'184 n'185 (Go.G.putM (Go.Value.pointer x0) (Go.Value.pointer (some (Go.Addr.mk b'183 0 none))) es'186)) (Go.Value.pointer x0)) ∧ (mapAtP Go.Proofs.Try.prog w0 (Go.G.AH.putm h'184 n'185 (Go.G.putM (Go.Value.pointer x0) (Go.Value.pointer (some (Go.Addr.mk b'183 0 none))) es'186)) p'187 104 (fun es'188 => (∃ p'189 : Option Go.Addr, (((Go.Value.pointer p'189) = (Option.getD (Go.G.getM (Go.Value.pointer x0) es'188) (Go.Value.pointer none))) ∧ (K (Go.Value.pointer p'189) (Go.G.AH.putm h'184 n'185 (Go.G.putM (Go.Value.pointer x0) (Go.Value.pointer (some (Go.Addr.mk b'183 0 none))) es'186)))))))))))))))))))))))))))))))))))))) (∃ p'190 : Option Nat, (((Go.G.cellA w0 h x1) = (some (Go.Value.map p'190))) ∧ ((ptrKey w0 h (Go.Value.pointer x0)) ∧ (mapAtP Go.Proofs.Try.prog w0 h p'190 104 (fun es'191 => (∃ p'192 : Option Go.Addr, (((Go.Value.pointer p'192) = (Option.getD (Go.G.getM (Go.Value.pointer x0) es'191) (Go.Value.pointer none))) ∧ (K (Go.Value.pointer p'192) h)))))))))) :
  f68_2 w0 K x0 x1 x11 h := fun j => LP_intro (P := Go.Proofs.Try.prog) (Eq.mp (by kernel_rfl) hv)

theorem f68_go {w0 : World} {K : Value → AH → Prop} (x0 : Option Go.Addr) (xf0 : Go.Addr) (h : AH)
  (hv : (brB (Option.isSome x0) (∃ p'0 : Option Nat, (((Go.G.cellA w0 h xf0) = (some (Go.Value.map p'0))) ∧ ((ptrKey w0 h (Go.Value.pointer x0)) ∧ (mapAtP Go.Proofs.Try.prog w0 h p'0 104 (fun es'1 => (∃ p'2 : Option Go.Addr, (((Go.Value.pointer p'2) = (Option.getD (Go.G.getM (Go.Value.pointer x0) es'1) (Go.Value.pointer none))) ∧ (f68_2 w0 K x0 xf0 (Option.isNone p'2) h)))))))) (f68_2 w0 K x0 xf0 false h))) :
  EvC Go.Proofs.Try.prog w0 68 ([(.pointer x0), (.pointer (some xf0))]).toArray K h := EvC_intro (P := Go.Proofs.Try.prog) f68_J (Eq.mp (by kernel_rfl) hv)
/-! ### own, a closure of Copy: a file's copy, made once -/
def madeC (F : List FO) (seen : List Nat) (G : List FO) : List (Value × Value) := List.zipWith (fun i (g : FO) => (Value.pointer (ptrF F i), Value.pointer (some ⟨g.b, 0, none⟩))) seen G
structure Made (F : List FO) (seen : List Nat) (G : List FO) : Prop where
  nd : seen.Nodup
  lt : ∀ i ∈ seen, i < F.length
  abs : G.map FO.abs = seen.map (fileAt (F.map FO.abs))
  fv : FV G
theorem Made.len {F : List FO} {seen : List Nat} {G : List FO} (M : Made F seen G) : G.length = seen.length := by
  have := congrArg List.length M.abs
  simpa using this
def Inj (F : List FO) : Prop := ∀ i j, i < F.length → j < F.length → blk F i = blk F j → i = j
theorem blk_cons (g : FO) (G : List FO) (k : Nat) : blk (g :: G) (k + 1) = blk G k := by simp [blk]
theorem madeC_get {F : List FO} (inj : Inj F) : ∀ {seen : List Nat} {G : List FO}, G.length = seen.length → (∀ i ∈ seen, i < F.length) → ∀ {i}, i < F.length → getM (.pointer (ptrF F i)) (madeC F seen G) = if i ∈ seen then some (.pointer (ptrF G (nx seen i))) else none
  | [], [], _, _, i, _ => rfl
  | [], _ :: _, hl, _, _, _ => by simp at hl
  | _ :: _, [], hl, _, _, _ => by simp at hl
  | j :: seen, g :: G, hl, hlt, i, hi => by
    have ih := madeC_get inj (seen := seen) (G := G) (by simpa using hl) (fun x hx => hlt x (List.mem_cons_of_mem _ hx)) hi
    unfold madeC at ih ⊢
    rw [List.zipWith_cons_cons]
    simp only [getM, eqK]
    by_cases q : j = i
    · subst q
      simp [nx, ptrF, blk]
    · have hne : (ptrF F i == ptrF F j) = false := by
        rw [beq_eq_false_iff_ne]
        intro e
        have : blk F i = blk F j := by simpa [ptrF] using e
        exact q (inj _ _ hi (hlt j (List.mem_cons_self ..)) this).symm
      rw [hne]
      dsimp only
      rw [ih]
      have q' : ¬ i = j := fun e => q e.symm
      have e1 : nx (j :: seen) i = nx seen i + 1 := by
        unfold nx
        rw [List.idxOf_cons]
        have : (j == i) = false := by simpa using q
        rw [this]; rfl
      rw [e1]
      simp only [List.mem_cons, q', false_or, ptrF, blk_cons]
theorem madeC_none {F : List FO} : ∀ {seen : List Nat} {G : List FO}, getM (.pointer none) (madeC F seen G) = none
  | [], G => by unfold madeC; rfl
  | _ :: _, [] => rfl
  | j :: seen, g :: G => by
    have ih := madeC_none (F := F) (seen := seen) (G := G)
    unfold madeC at ih ⊢
    rw [List.zipWith_cons_cons]
    simp only [getM, eqK, ptrF]
    exact ih
theorem madeC_put {F : List FO} (inj : Inj F) {g : FO} : ∀ {seen : List Nat} {G : List FO}, G.length = seen.length → (∀ i ∈ seen, i < F.length) → ∀ {i}, i < F.length → i ∉ seen → putM (.pointer (ptrF F i)) (.pointer (some ⟨g.b, 0, none⟩)) (madeC F seen G) = madeC F (seen ++ [i]) (G ++ [g])
  | [], [], _, _, i, _, _ => rfl
  | [], _ :: _, hl, _, _, _, _ => by simp at hl
  | _ :: _, [], hl, _, _, _, _ => by simp at hl
  | j :: seen, x :: G, hl, hlt, i, hi, hn => by
    have ih := madeC_put inj (g := g) (seen := seen) (G := G) (by simpa using hl) (fun x hx => hlt x (List.mem_cons_of_mem _ hx)) hi (fun h => hn (List.mem_cons_of_mem _ h))
    unfold madeC at ih ⊢
    rw [List.cons_append, List.cons_append, List.zipWith_cons_cons, List.zipWith_cons_cons]
    simp only [putM, eqK]
    have hne : (ptrF F i == ptrF F j) = false := by
      rw [beq_eq_false_iff_ne]
      intro e
      have : blk F i = blk F j := by simpa [ptrF] using e
      have := inj _ _ hi (hlt j (List.mem_cons_self ..)) this
      subst this
      exact hn (List.mem_cons_self ..)
    rw [hne]
    dsimp only
    rw [ih]
theorem Made.push {F : List FO} {seen : List Nat} {G : List FO} {i : Nat} {fo g : FO} (M : Made F seen G) (hi : F[i]? = some fo) (hn : i ∉ seen) (hg : g.abs = fo.abs) (hv : SlV 1 g.a g.data.length g.c (u8s g.data)) : Made F (seen ++ [i]) (G ++ [g]) := by
  refine ⟨?_, fun j hj => ?_, ?_, fun f hf => ?_⟩
  · rw [List.nodup_append]
    refine ⟨M.nd, by simp, fun a ha b hb e => ?_⟩
    rw [List.mem_singleton] at hb
    subst hb e
    exact hn ha
  · rcases List.mem_append.1 hj with hj | hj
    · exact M.lt j hj
    · rw [List.mem_singleton] at hj
      subst hj
      exact (List.getElem?_eq_some_iff.1 hi).1
  · rw [List.map_append, List.map_append, M.abs]
    simp only [List.map_cons, List.map_nil, abs_at hi, hg]
  · rcases List.mem_append.1 hf with hf | hf
    · exact M.fv f hf
    · rw [List.mem_singleton] at hf
      subst hf; exact hv
/-- Iterators over other maps stay. -/
def Itk (mm : Nat) (h h' : AH) : Prop := ∀ b left cur r, r ≠ mm → h b = some (.mit (some r) left cur) → h' b = some (.mit (some r) left cur)
theorem Itk.refl {mm : Nat} {h : AH} : Itk mm h h := fun _ _ _ _ _ hb => hb
theorem Itk.put {mm b : Nat} {h h' : AH} {o : AB} (t : Itk mm h h') (hb : h' b = none) : Itk mm h (h'.put b o) := fun i left cur r hr hi => by
  have := t i left cur r hr hi
  rw [put_other _ _ (fun e => by subst e; rw [hb] at this; cases this)]; exact this
theorem Itk.putm {mm : Nat} {h h' : AH} {es es' : List (Value × Value)} (t : Itk mm h h') (hm : h' mm = some (.map es)) : Itk mm h (h'.putm mm es') := fun i left cur r hr hi => by
  have := t i left cur r hr hi
  unfold AH.putm
  rw [put_other _ _ (fun e => by subst e; rw [hm] at this; cases this)]
  unfold AH.noIt
  rw [this]
  exact if_neg hr
/-- A new slice: what is known stays. -/
theorem App_newI {w0 : World} {h : AH} {bs : List (Nat × AB)} {e by' m : Nat} {ys : List Value} {K : Option Addr → Nat → AH → Prop} (w : Own w0 h bs)
    (hby : (0 + m) * by' ≤ 140737488355328) (hn : 0 + m ≤ 140737488355328) (hl : ys.length = m * e) (h1 : ∀ y ∈ ys, y.oneCell' = true)
    (hk : ∀ a' c' h', SlV e a' m c' ys → Own w0 h' (slB a' ys (c' * e) ++ bs) → Own w0 h' bs → (∀ mm h0, Itk mm h0 h → Itk mm h0 h') → K a' c' h') : App w0 h e by' none 0 0 m ys K := by
  refine ⟨hby, hn, hl, h1, rfl, rfl, fun hm => ?_, fun hm cap hcap b hb hbn => ?_⟩
  · subst hm
    have : ys = [] := List.eq_nil_of_length_eq_zero (by simpa using hl)
    subst this
    exact hk none 0 h SlV.nil w w fun _ _ t => t
  · exact hk _ _ _ ⟨hl, hcap, rfl, rfl⟩ (w.new hb hbn) (w.new (o := .cells ys (cap * e)) hb hbn).tail fun _ _ t => t.put hbn
theorem mapAtP_own {P : Program} {w0 : World} {h : AH} {t : TypeId} {r : Nat} {es : List (Value × Value)} {K : List (Value × Value) → Prop} (hb : w0.heap.size ≤ r) (hh : h r = some (.map es)) (ht : isMapT P t = true) (ho : ∀ e ∈ es, ptrKey w0 h e.1) (hk : K es) : mapAtP P w0 h (some r) t K := by
  unfold mapAtP
  rw [ht]
  exact ⟨es, fun e => (by cases e), fun r' e => by injection e with e; subst e; exact ⟨hb, hh⟩, ho, hk⟩
theorem file_key {w0 : World} {h : AH} {bs : List (Nat × AB)} {F : List FO} {i : Nat} (w : Own w0 h bs) (hm : ∀ p ∈ fobs F, p ∈ bs) (hi : i < F.length) : ptrKey w0 h (.pointer (ptrF F i)) := by
  have hg := List.getElem?_eq_getElem hi
  have := w.mem (hm _ (fobs_mem hg))
  have e : ptrF F i = some ⟨F[i].b, 0, none⟩ := by simp [ptrF, blk_at hg]
  rw [e]
  exact ⟨rfl, rfl, this.1, _, 1, this.2⟩
theorem madeC_keys {w0 : World} {h : AH} {bs : List (Nat × AB)} {F : List FO} (w : Own w0 h bs) (hm : ∀ p ∈ fobs F, p ∈ bs) : ∀ {seen : List Nat} {G : List FO}, (∀ i ∈ seen, i < F.length) → ∀ e ∈ madeC F seen G, ptrKey w0 h e.1
  | [], G, _, e, he => by unfold madeC at he; cases he
  | _ :: _, [], _, e, he => by cases he
  | j :: seen, g :: G, hl, e, he => by
    unfold madeC at he
    rw [List.zipWith_cons_cons] at he
    rcases List.mem_cons.1 he with rfl | he
    · exact file_key w hm (hl j (List.mem_cons_self ..))
    · exact madeC_keys w hm (fun x hx => hl x (List.mem_cons_of_mem _ hx)) e he
/-- own. -/
theorem f68_spec {w0 : World} {K : Value → AH → Prop} {h : AH} {F G : List FO} {seen : List Nat} {cb mm : Nat} {X : List (Nat × AB)} {o : Option Nat} (M : Made F seen G) (inj : Inj F) (hF : ∀ p ∈ fobs F, p ∈ X) (fv : FV F) (fok : ∀ f ∈ F, f.data.length ≤ 4194304)
    (hfr : ∀ h', Own w0 h' X → ∀ (i : Nat) (fo : FO), F[i]? = some fo → Rd w0 h' fo.a (u8s fo.data)) (ho : ∀ i, o = some i → i < F.length)
    (w : Own w0 h ((mm, .map (madeC F seen G)) :: (cb, .cells [.map (some mm)] 1) :: (fobs G ++ X)))
    (hk : ∀ h' a b, Made F (seen ++ a) (G ++ b) → (∀ i, o = some i → i ∈ seen ++ a) → Own w0 h' ((mm, .map (madeC F (seen ++ a) (G ++ b))) :: (cb, .cells [.map (some mm)] 1) :: (fobs (G ++ b) ++ X)) → Itk mm h h' →
      K (.pointer (match (generalizing := false) o with | none => none | some i => ptrF (G ++ b) (nx (seen ++ a) i))) h') :
    EvC Go.Proofs.Try.prog w0 68 #[.pointer (match (generalizing := false) o with | none => none | some i => ptrF F i), .pointer (some ⟨cb, 0, none⟩)] K h := by
  have hX : ∀ {h' : AH}, Own w0 h' ((mm, .map (madeC F seen G)) :: (cb, .cells [.map (some mm)] 1) :: (fobs G ++ X)) → Own w0 h' X := fun w' => (w'.tail.tail).drop
  have cm : ∀ h', Own w0 h' ((mm, .map (madeC F seen G)) :: (cb, .cells [.map (some mm)] 1) :: (fobs G ++ X)) → cellA w0 h' ⟨cb, 0, none⟩ = some (.map (some mm)) := fun h' w' => Own.cell0 (j := 0) w'.tail rfl
  have hall : ∀ p ∈ fobs F, p ∈ ((mm, AB.map (madeC F seen G)) :: (cb, AB.cells [.map (some mm)] 1) :: (fobs G ++ X)) := fun p hp => by simp [hF p hp]
  cases o with
  | none =>
    refine f68_go _ _ _ (brB_of (fun q => by cases q) fun _ => f68_2_in _ _ _ _ (brB_of (fun q => by cases q) fun _ => ⟨_, cm _ w, trivial, mapAtP_own w.ge w.hd (by kernel_rfl) (madeC_keys w hall M.lt) ⟨none, by rw [madeC_none]; rfl, ?_⟩⟩))
    have := hk h [] [] (by simpa using M) (fun i e => by cases e) (by simpa using w) Itk.refl
    simpa using this
  | some i =>
    have hil := ho i rfl
    have hg : F[i]? = some F[i] := List.getElem?_eq_getElem hil
    generalize F[i] = fo at hg
    have eptr : ptrF F i = some ⟨fo.b, 0, none⟩ := by simp [ptrF, blk_at hg]
    have pk : ∀ h', Own w0 h' X → ptrKey w0 h' (.pointer (ptrF F i)) := fun h' w' => file_key w' hF hil
    have hget := madeC_get inj M.len M.lt hil
    dsimp only
    by_cases hs : i ∈ seen
    · rw [if_pos hs] at hget
      have hkk := hk h [] [] (by simpa using M) (fun j e => by injection e with e; subst e; simpa using hs) (by simpa using w) Itk.refl
      simp only [List.append_nil] at hkk
      have ep : ptrF G (nx seen i) = some ⟨blk G (nx seen i), 0, none⟩ := rfl
      refine f68_go _ _ _ (brB_of (fun _ => ⟨_, cm _ w, pk _ (hX w), mapAtP_own w.ge w.hd (by kernel_rfl) (madeC_keys w hall M.lt) ⟨ptrF G (nx seen i), by rw [hget]; rfl, ?_⟩⟩) fun q => by cases q)
      refine f68_2_in _ _ _ _ (brB_of (fun q => by cases q) fun _ => ⟨_, cm _ w, pk _ (hX w), mapAtP_own w.ge w.hd (by kernel_rfl) (madeC_keys w hall M.lt) ⟨ptrF G (nx seen i), by rw [hget]; rfl, hkk⟩⟩)
    · rw [if_neg hs] at hget
      refine f68_go _ _ _ (brB_of (fun _ => ⟨_, cm _ w, pk _ (hX w), mapAtP_own w.ge w.hd (by kernel_rfl) (madeC_keys w hall M.lt) ⟨none, by rw [hget]; rfl, ?_⟩⟩) fun q => by cases q)
      have hfm : fo ∈ F := List.mem_of_getElem? hg
      have hdl := fok fo hfm
      have cd : ∀ h', Own w0 h' ((mm, .map (madeC F seen G)) :: (cb, .cells [.map (some mm)] 1) :: (fobs G ++ X)) → cellA w0 h' (Addr.add ⟨fo.b, 0, none⟩ 0) = some (.slice fo.a fo.data.length fo.c) := fun h' w' => (file_cells w' hall hg).2.1
      have cs : ∀ h', Own w0 h' ((mm, .map (madeC F seen G)) :: (cb, .cells [.map (some mm)] 1) :: (fobs G ++ X)) → cellA w0 h' (Addr.add ⟨fo.b, 0, none⟩ 1) = some (.int .i64 (fo.sure : Nat)) := fun h' w' => (file_cells w' hall hg).2.2
      have rd : ∀ h', Own w0 h' ((mm, .map (madeC F seen G)) :: (cb, .cells [.map (some mm)] 1) :: (fobs G ++ X)) → Rd w0 h' fo.a (u8s fo.data) := fun h' w' => hfr h' (hX w') i fo hg
      have app : ∀ h1 (K' : Option Addr → Nat → AH → Prop), Own w0 h1 ((mm, .map (madeC F seen G)) :: (cb, .cells [.map (some mm)] 1) :: (fobs G ++ X)) → Itk mm h h1 →
          (∀ a' c' h', SlV 1 a' fo.data.length c' (u8s fo.data) → Own w0 h' (slB a' (u8s fo.data) (c' * 1) ++ ((mm, .map (madeC F seen G)) :: (cb, .cells [.map (some mm)] 1) :: (fobs G ++ X))) → Own w0 h' ((mm, .map (madeC F seen G)) :: (cb, .cells [.map (some mm)] 1) :: (fobs G ++ X)) → Itk mm h h' → K' a' c' h') →
          App w0 h1 1 1 none 0 0 fo.data.length (u8s fo.data) K' := fun h1 K' w1 t1 hk' =>
        App_newI w1 (by omega) (by omega) (by rw [u8s_length, Nat.mul_one]) (u8s_cell _) fun a' c' h' v w' w'' t' => hk' a' c' h' v w' w'' (t' mm h t1)
      have leaf : ∀ h1 a' c', SlV 1 a' fo.data.length c' (u8s fo.data) → Own w0 h1 (slB a' (u8s fo.data) (c' * 1) ++ ((mm, .map (madeC F seen G)) :: (cb, .cells [.map (some mm)] 1) :: (fobs G ++ X))) → Itk mm h h1 →
          newB w0 h1 (.cells [.slice a' (0 + fo.data.length) c', .int .i64 ((fo.sure : Nat) : Int)] (List.length [Value.slice a' (0 + fo.data.length) c', .int .i64 ((fo.sure : Nat) : Int)])) fun b h'15 => (ptrKey w0 h'15 (.pointer (ptrF F i))) ∧ ∃ n'16 : Nat, (((some mm : Option Nat) = some n'16) ∧ (mapAtP Go.Proofs.Try.prog w0 h'15 (some n'16) 104 (fun es'17 => (∃ p'18 : Option Nat, (((Go.G.cellA w0 (Go.G.AH.putm h'15 n'16 (Go.G.putM (Go.Value.pointer (ptrF F i)) (Go.Value.pointer (some (Go.Addr.mk b 0 none))) es'17)) ⟨cb, 0, none⟩) = (some (Go.Value.map p'18))) ∧ ((ptrKey w0 (Go.G.AH.putm h'15 n'16 (Go.G.putM (Go.Value.pointer (ptrF F i)) (Go.Value.pointer (some (Go.Addr.mk b 0 none))) es'17)) (Go.Value.pointer (ptrF F i))) ∧ (mapAtP Go.Proofs.Try.prog w0 (Go.G.AH.putm h'15 n'16 (Go.G.putM (Go.Value.pointer (ptrF F i)) (Go.Value.pointer (some (Go.Addr.mk b 0 none))) es'17)) p'18 104 (fun es'19 => (∃ p'20 : Option Go.Addr, (((Go.Value.pointer p'20) = (Option.getD (Go.G.getM (Go.Value.pointer (ptrF F i)) es'19) (Go.Value.pointer none))) ∧ (K (Go.Value.pointer p'20) (Go.G.AH.putm h'15 n'16 (Go.G.putM (Go.Value.pointer (ptrF F i)) (Go.Value.pointer (some (Go.Addr.mk b 0 none))) es'17))))))))))))) := by
        intro h1 a' c' v w1 t1 b hb hbn
        generalize hf' : (⟨b, a', c', fo.data, fo.sure⟩ : FO) = f'
        have hcells : [Value.slice a' (0 + fo.data.length) c', .int .i64 ((fo.sure : Nat) : Int)] = f'.cells := by rw [← hf', Nat.zero_add]; rfl
        rw [hcells, show f'.cells.length = 2 from rfl]
        have hfb : f'.b = b := by rw [← hf']
        have hbl : fobs (G ++ [f']) = fobs G ++ f'.blocks := by simp [fobs]
        have hfbl : f'.blocks = (b, .cells f'.cells 2) :: slB a' (u8s fo.data) (c' * 1) := by rw [← hf']; rfl
        have w2 := w1.new (o := .cells f'.cells 2) hb hbn
        have t2 : Itk mm h (h1.put b (.cells f'.cells 2)) := t1.put hbn
        generalize h1.put b (.cells f'.cells 2) = h2 at w2 t2 ⊢
        have w3 : Own w0 h2 ((mm, .map (madeC F seen G)) :: (cb, .cells [.map (some mm)] 1) :: (fobs (G ++ [f']) ++ X)) := by
          rw [hbl, hfbl]
          refine w2.perm ?_
          have p1 : ((b, AB.cells f'.cells 2) :: slB a' (u8s fo.data) (c' * 1)) ++ ([(mm, AB.map (madeC F seen G)), (cb, AB.cells [.map (some mm)] 1)] ++ fobs G) |>.Perm (([(mm, AB.map (madeC F seen G)), (cb, AB.cells [.map (some mm)] 1)] ++ fobs G) ++ ((b, AB.cells f'.cells 2) :: slB a' (u8s fo.data) (c' * 1))) := List.perm_append_comm
          have p2 := p1.append_right X
          simpa only [List.append_assoc, List.cons_append, List.nil_append] using p2
        have w3X : Own w0 h2 X := (w3.tail.tail).drop
        have hall3 : ∀ p ∈ fobs F, p ∈ ((mm, AB.map (madeC F seen G)) :: (cb, AB.cells [.map (some mm)] 1) :: (fobs (G ++ [f']) ++ X)) := fun p hp => by simp [hF p hp]
        refine ⟨pk _ w3X, mm, rfl, mapAtP_own w3.ge w3.hd (by kernel_rfl) (madeC_keys w3 hall3 M.lt) ?_⟩
        rw [← hfb, madeC_put inj M.len M.lt hil hs]
        have M' : Made F (seen ++ [i]) (G ++ [f']) := M.push hg hs (by rw [← hf']; rfl) (by rw [← hf']; exact v)
        have w4 := w3.putm (es := madeC F (seen ++ [i]) (G ++ [f']))
        have t4 : Itk mm h (h2.putm mm (madeC F (seen ++ [i]) (G ++ [f']))) := t2.putm w3.hd
        generalize h2.putm mm (madeC F (seen ++ [i]) (G ++ [f'])) = h3 at w4 t4 ⊢
        have hall4 : ∀ p ∈ fobs F, p ∈ ((mm, AB.map (madeC F (seen ++ [i]) (G ++ [f']))) :: (cb, AB.cells [.map (some mm)] 1) :: (fobs (G ++ [f']) ++ X)) := fun p hp => by simp [hF p hp]
        refine ⟨some mm, Own.cell0 (j := 0) w4.tail rfl, pk _ ((w4.tail.tail).drop), mapAtP_own w4.ge w4.hd (by kernel_rfl) (madeC_keys w4 hall4 M'.lt) ⟨ptrF (G ++ [f']) (nx (seen ++ [i]) i), ?_, ?_⟩⟩
        · rw [madeC_get inj M'.len M'.lt hil, if_pos (by simp)]; rfl
        · exact hk h3 [i] [f'] M' (fun j e => by injection e with e; subst e; simp) w4 t4
      have t0 : Itk mm h h := Itk.refl
      rw [eptr] at leaf ⊢
      refine f68_2_in _ _ _ _ (brB_of (fun _ => ?_) fun q => by cases q)
      repeat' first
        | exact leaf _ _ _ (by assumption) (by assumption) (by assumption)
        | refine ⟨_, rfl, ?_⟩
        | refine ⟨_, cm _ (by assumption), ?_⟩
        | refine ⟨_, cs _ (by assumption), ?_⟩
        | refine ⟨_, _, _, cd _ (by assumption), ?_⟩
        | refine rowsOf_of (rd _ (by assumption)) (by rw [u8s_length, Nat.mul_one]) ?_
        | refine app _ _ (by assumption) (by assumption) fun _ _ _ _ _ _ _ => ?_
        | refine And.intro ?_ ?_
end Go.G.Ytpjklfmfgmicaaa
