import Derived.Test.YtphbdmafchjjeaaGreatDoorTQBSPureM
namespace Go.Proofs.YtphbdmafchjjeaaGreatDoorS
open Go Go.Proofs
open Go renaming undef → U, World → W, Value → V
open Go.Value renaming int → I, slice → S, bool → T, pointer → P, agg → G
open Go.IntKind renaming u8 → B, u16 → H, u32 → D, u64 → Q, i64 → L
open Option renaming none → N
set_option autoImplicit true
set_option relaxedAutoImplicit true
set_option maxRecDepth 100000
set_option linter.unusedVariables false
def qq85.ords:Nat→Od
 | _=>.nil
def qq85.joins (p:List Nat):Bool:=false
def qq85.s (i0_0 i0_1:Int) (i0_2 i0_3:Bool) (i0_4 i0_5 i0_6 i0_7 i0_8:Int) (I0_9:Option Addr) (in0_9 ic0_9:Nat) (I0_10:Option Addr) (in0_10 ic0_10:Nat) (w:W) (R:E):Prop:=
(Let (w.heap.size) fun g1:Nat=>
 Let (w.alloc (.cells #[I B i0_0,I H i0_1,T i0_2,T i0_3,I L i0_4,I B i0_5,I B i0_6,I D i0_7,I D i0_8,S I0_9 in0_9 ic0_9,S I0_10 in0_10 ic0_10] 37)) fun w2:W=>
 Let (w2.heap.size) fun g3:Nat=>
 Let (w2.alloc (.cells #[I B 0,I H 0,T false,T false,I L 0,I B 0,I B 0,I D 0,I D 0,S N 0 0] 35)) fun w4:W=>
 ∃ x5 x6:Int,∃ b7 b8:Bool,∃ x9 x10 x11 x12 x13:Int,∃ (A14:Option Addr) (n14_ c14_:Nat),∃ (A15:Option Addr) (n15_ c15_:Nat),(11=11∧At w4 ⟨g1,0,N⟩ [I B x5,I H x6,T b7,T b8,I L x9,I B x10,I B x11,I D x12,I D x13,S A14 n14_ c14_,S A15 n15_ c15_])∧
(Calls Tryz.prog 90 #[G #[I B x5,I H x6,T b7,T b8,I L x9,I B x10,I B x11,I D x12,I D x13,S A14 n14_ c14_,S A15 n15_ c15_]] w4 (fun (e17:Ending) (w16:W)=>
 ∃ x18 x19 x20:Int,∃ (A21:Option Addr) (n21_ c21_:Nat),∃ x22:Int,e17=.returned (.tuple #[G #[I B x18,I B x19,I D x20,S A21 n21_ c21_],I L x22])∧
(Let (w16.heap.size) fun g23:Nat=>
 Let (w16.alloc (.cells #[I B 0,I B 0,I D 0,S N 0 0] 106)) fun w24:W=>
 May w24 ⟨g23,0,N⟩ 4∧
(Let (putCells w24 ⟨g23,0,N⟩ [I B x18,I B x19,I D x20,S A21 n21_ c21_] 0) fun w25:W=>
(if (x22 != 0)=true then
(May w25 ⟨g3,0,N⟩ 10∧
(Let (putCells w25 ⟨g3,0,N⟩ [I B 0,I H 0,T false,T false,I L 0,I B 0,I B 0,I D 0,I D 0,S N 0 0] 0) fun w26:W=>
 ∃ x27 x28:Int,∃ b29 b30:Bool,∃ x31 x32 x33 x34 x35:Int,∃ (A36:Option Addr) (n36_ c36_:Nat),(10=10∧At w26 ⟨g3,0,N⟩ [I B x27,I H x28,T b29,T b30,I L x31,I B x32,I B x33,I D x34,I D x35,S A36 n36_ c36_])∧
(R (.returned (.tuple #[G #[I B x27,I H x28,T b29,T b30,I L x31,I B x32,I B x33,I D x34,I D x35,S A36 n36_ c36_],S N 0 0,I L x22])) w26)))
else
(∃ x37:Int,w25.cell? ⟨g23,0,N⟩=some (I B x37)∧
(Calls Tryz.prog 91 #[I B x37] w25 (fun (e39:Ending) (w38:W)=>
 ∃ b40:Bool,e39=.returned (T b40)∧
((if (!b40)=true then
(May w38 ⟨g3,0,N⟩ 10∧
(Let (putCells w38 ⟨g3,0,N⟩ [I B 0,I H 0,T false,T false,I L 0,I B 0,I B 0,I D 0,I D 0,S N 0 0] 0) fun w41:W=>
 ∃ x42 x43:Int,∃ b44 b45:Bool,∃ x46 x47 x48 x49 x50:Int,∃ (A51:Option Addr) (n51_ c51_:Nat),(10=10∧At w41 ⟨g3,0,N⟩ [I B x42,I H x43,T b44,T b45,I L x46,I B x47,I B x48,I D x49,I D x50,S A51 n51_ c51_])∧
(R (.returned (.tuple #[G #[I B x42,I H x43,T b44,T b45,I L x46,I B x47,I B x48,I D x49,I D x50,S A51 n51_ c51_],S N 0 0,I L 62])) w41)))
else
(∃ (A52:Option Addr) (n52_ c52_:Nat),w38.cell? ⟨g23,3,N⟩=some (S A52 n52_ c52_)∧
(Calls Tryz.prog 92 #[S A52 n52_ c52_] w38 (fun (e54:Ending) (w53:W)=>
 ∃ x55 x56:Int,∃ b57 b58:Bool,∃ x59 x60 x61 x62 x63:Int,∃ (A64:Option Addr) (n64_ c64_:Nat),∃ (A65:Option Addr) (n65_ c65_:Nat),∃ x66:Int,e54=.returned (.tuple #[G #[I B x55,I H x56,T b57,T b58,I L x59,I B x60,I B x61,I D x62,I D x63,S A64 n64_ c64_],S A65 n65_ c65_,I L x66])∧
(May w53 ⟨g3,0,N⟩ 10∧
(Let (putCells w53 ⟨g3,0,N⟩ [I B x55,I H x56,T b57,T b58,I L x59,I B x60,I B x61,I D x62,I D x63,S A64 n64_ c64_] 0) fun w67:W=>
 ∃ x68 x69:Int,∃ b70 b71:Bool,∃ x72 x73 x74 x75 x76:Int,∃ (A77:Option Addr) (n77_ c77_:Nat),(10=10∧At w67 ⟨g3,0,N⟩ [I B x68,I H x69,T b70,T b71,I L x72,I B x73,I B x74,I D x75,I D x76,S A77 n77_ c77_])∧
(R (.returned (.tuple #[G #[I B x68,I H x69,T b70,T b71,I L x72,I B x73,I B x74,I D x75,I D x76,S A77 n77_ c77_],S A65 n65_ c65_,I L x66])) w67)))))))))))))))))
theorem qq85.run (h:qq85.s i0_0 i0_1 i0_2 i0_3 i0_4 i0_5 i0_6 i0_7 i0_8 I0_9 in0_9 ic0_9 I0_10 in0_10 ic0_10 w R):Calls Tryz.prog 55 #[G #[I B i0_0,I H i0_1,T i0_2,T i0_3,I L i0_4,I B i0_5,I B i0_6,I D i0_7,I D i0_8,S I0_9 in0_9 ic0_9,S I0_10 in0_10 ic0_10]] w R:=
 calls_segk (ords:=qq85.ords) (J:=qq85.joins) ents mixed Tryz.func55 rfl h (by kernel_rfl)
def qq86.ords:Nat→Od
 | _=>.nil
def qq86.joins (p:List Nat):Bool:=false
def qq86.s (i0_0 i0_1 i0_2:Int) (I0_3:Option Addr) (in0_3 ic0_3:Nat) (w:W) (R:E):Prop:=
(Let (w.heap.size) fun g1:Nat=>
 Let (w.alloc (.cells #[I B i0_0,I B i0_1,I D i0_2,S I0_3 in0_3 ic0_3] 106)) fun w2:W=>
 ∃ (A3:Option Addr) (n3_ c3_:Nat),w2.cell? ⟨g1,3,N⟩=some (S A3 n3_ c3_)∧
((if decide ((n3_:Int) > 65507)=true then
(R (.returned (.tuple #[S N 0 0,I L 37])) w2)
else
(∃ x4:Int,w2.cell? ⟨g1,0,N⟩=some (I B x4)∧
(∃ x5:Int,w2.cell? ⟨g1,1,N⟩=some (I B x5)∧
(∃ x6:Int,w2.cell? ⟨g1,2,N⟩=some (I D x6)∧
(Let (Int.fdiv x6 16777216) fun x7:Int=>
 Let (B.wrap x7) fun x8:Int=>
 ∃ x9:Int,w2.cell? ⟨g1,2,N⟩=some (I D x9)∧
(Let (Int.fdiv x9 65536) fun x10:Int=>
 Let (B.wrap x10) fun x11:Int=>
 ∃ x12:Int,w2.cell? ⟨g1,2,N⟩=some (I D x12)∧
(Let (Int.fdiv x12 256) fun x13:Int=>
 Let (B.wrap x13) fun x14:Int=>
 ∃ x15:Int,w2.cell? ⟨g1,2,N⟩=some (I D x15)∧
(Let (B.wrap x15) fun x16:Int=>
 Let (w2.heap.size) fun g17:Nat=>
 Let (w2.alloc (.cells #[I B x4,I B x5,I B 0,I B 0,I B x8,I B x11,I B x14,I B x16] 5)) fun w18:W=>
 ∃ (A19:Option Addr) (n19_ c19_:Nat),w18.cell? ⟨g1,3,N⟩=some (S A19 n19_ c19_)∧
(AppE w18 1 1 5 [I B 0] (some ⟨g17,0,N⟩) 8 8 A19 n19_ (fun (A20:Option Addr) (c21:Nat) (w22:W)=>
 Let (w22.heap.size) fun g23:Nat=>
 Let (w22.alloc (.cells #[S A20 (8+n19_) c21] 33)) fun w24:W=>
 Calls Tryz.prog 61 #[S (some ⟨g23,0,N⟩) 1 1] w24 (fun (e26:Ending) (w25:W)=>
 ∃ x27:Int,e26=.returned (I H x27)∧
(Let (Int.fdiv x27 256) fun x28:Int=>
 Let (B.wrap x28) fun x29:Int=>
 Let (B.wrap x27) fun x30:Int=>
 ∃ a31:Addr,A20=some a31∧(0≤(2:Int)∧(2:Int) < (((8+n19_):Nat):Int))∧
(MayC w25 (a31.add 2)∧
(Let (w25.setCell (a31.add 2) (I B x29)) fun w32:W=>
 ∃ a33:Addr,A20=some a33∧(0≤(3:Int)∧(3:Int) < (((8+n19_):Nat):Int))∧
(MayC w32 (a33.add 3)∧
(Let (w32.setCell (a33.add 3) (I B x30)) fun w34:W=>
 R (.returned (.tuple #[S A20 (8+n19_) c21,I L 0])) w34))))))))))))))))))
theorem qq86.run (h:qq86.s i0_0 i0_1 i0_2 I0_3 in0_3 ic0_3 w R):Calls Tryz.prog 62 #[G #[I B i0_0,I B i0_1,I D i0_2,S I0_3 in0_3 ic0_3]] w R:=
 calls_segk (ords:=qq86.ords) (J:=qq86.joins) ents mixed Tryz.func62 rfl h (by kernel_rfl)
def qq87.ords:Nat→Od
 | 7=>(.tk 0 (.tk 1 (.tk 2 (.tk 3 (.tk 4 (.tk 5 (.tk 6 (.tk 7 (.tk 8 (.tk 9 (.tk 10 (.tk 11 (.tk 12 (.tk 13 (.tk 14 (.tk 15 (.tk 16 (.tk 17 (.tk 18 (.tk 19 (.tk 20 (.tk 21 (.tk 22 .nil)))))))))))))))))))))))
 | 8=>(.tk 0 (.tk 1 (.tk 2 (.tk 3 (.tk 4 (.tk 5 (.tk 6 (.tk 7 (.tk 8 (.on 9 (.tk 10 (.on 11 (.tk 12 .nil)))))))))))))
 | _=>.nil
def qq87.joins (p:List Nat):Bool:=false
def qq87.s (I0:Option Addr) (in0 ic0:Nat) (w:W) (R:E):Prop:=
(Let (w.heap.size) fun g1:Nat=>
 Let (w.alloc (.cells #[I B 0,I B 0,I D 0,S N 0 0] 106)) fun w2:W=>
(if decide ((in0:Int) < 8)=true then
(May w2 ⟨g1,0,N⟩ 4∧
(Let (putCells w2 ⟨g1,0,N⟩ [I B 0,I B 0,I D 0,S N 0 0] 0) fun w3:W=>
 ∃ x4 x5 x6:Int,∃ (A7:Option Addr) (n7_ c7_:Nat),(4=4∧At w3 ⟨g1,0,N⟩ [I B x4,I B x5,I D x6,S A7 n7_ c7_])∧
(R (.returned (.tuple #[G #[I B x4,I B x5,I D x6,S A7 n7_ c7_],I L 30])) w3)))
else
((if decide ((in0:Int) > 65515)=true then
(May w2 ⟨g1,0,N⟩ 4∧
(Let (putCells w2 ⟨g1,0,N⟩ [I B 0,I B 0,I D 0,S N 0 0] 0) fun w8:W=>
 ∃ x9 x10 x11:Int,∃ (A12:Option Addr) (n12_ c12_:Nat),(4=4∧At w8 ⟨g1,0,N⟩ [I B x9,I B x10,I D x11,S A12 n12_ c12_])∧
(R (.returned (.tuple #[G #[I B x9,I B x10,I D x11,S A12 n12_ c12_],I L 37])) w8)))
else
(Let (w2.heap.size) fun g13:Nat=>
 Let (w2.alloc (.cells #[S I0 in0 ic0] 33)) fun w14:W=>
 Calls Tryz.prog 61 #[S (some ⟨g13,0,N⟩) 1 1] w14 (fun (e16:Ending) (w15:W)=>
 ∃ x17:Int,e16=.returned (I H x17)∧
((if (x17 != 0)=true then
(May w15 ⟨g1,0,N⟩ 4∧
(Let (putCells w15 ⟨g1,0,N⟩ [I B 0,I B 0,I D 0,S N 0 0] 0) fun w18:W=>
 ∃ x19 x20 x21:Int,∃ (A22:Option Addr) (n22_ c22_:Nat),(4=4∧At w18 ⟨g1,0,N⟩ [I B x19,I B x20,I D x21,S A22 n22_ c22_])∧
(R (.returned (.tuple #[G #[I B x19,I B x20,I D x21,S A22 n22_ c22_],I L 33])) w18)))
else
(∃ S23:W→Prop,S23 w15.drew∧
(Let (w15.drew) fun w24:W=>
 ∃ a25:Addr,I0=some a25∧(0≤(4:Int)∧(4:Int) < (in0:Int))∧
(∃ x26:Int,(∀ w',S23 w'→w'.cell? (a25.add 4)=some (I B x26))∧
(Let (D.wrap x26) fun x27:Int=>
 Let (D.wrap (x27 * 16777216)) fun x28:Int=>
 ∃ a29:Addr,I0=some a29∧(0≤(5:Int)∧(5:Int) < (in0:Int))∧
(∃ x30:Int,(∀ w',S23 w'→w'.cell? (a29.add 5)=some (I B x30))∧
(Let (D.wrap x30) fun x31:Int=>
 Let (D.wrap (x31 * 65536)) fun x32:Int=>
 Let (Go.bits .or .u32 x28 x32) fun x33:Int=>
 ∃ a34:Addr,I0=some a34∧(0≤(6:Int)∧(6:Int) < (in0:Int))∧
(∃ x35:Int,(∀ w',S23 w'→w'.cell? (a34.add 6)=some (I B x35))∧
(Let (D.wrap x35) fun x36:Int=>
 Let (D.wrap (x36 * 256)) fun x37:Int=>
 Let (Go.bits .or .u32 x33 x37) fun x38:Int=>
 ∃ a39:Addr,I0=some a39∧(0≤(7:Int)∧(7:Int) < (in0:Int))∧
(∃ x40:Int,(∀ w',S23 w'→w'.cell? (a39.add 7)=some (I B x40))∧
(Let (D.wrap x40) fun x41:Int=>
 Let (Go.bits .or .u32 x38 x41) fun x42:Int=>
 ∃ S43:W→Prop,S43 w24.drew∧
(Let (w24.drew) fun w44:W=>
 ∃ a45:Addr,I0=some a45∧(0≤(0:Int)∧(0:Int) < (in0:Int))∧
(∃ x46:Int,(∀ w',S43 w'→w'.cell? a45=some (I B x46))∧
(∃ a47:Addr,I0=some a47∧(0≤(1:Int)∧(1:Int) < (in0:Int))∧
(∃ x48:Int,(∀ w',S43 w'→w'.cell? (a47.add 1)=some (I B x48))∧
((0≤(8:Int)∧(8:Int)≤(in0:Int))∧
(AppE w44 1 1 5 [I B 0] N 0 0 (cutA I0 8 ic0 1) (in0-8) (fun (A49:Option Addr) (c50:Nat) (w51:W)=>
 S43 w51∧
(May w51 ⟨g1,0,N⟩ 4∧
(Let (putCells w51 ⟨g1,0,N⟩ [I B x46,I B x48,I D x42,S A49 (0+(in0-8)) c50] 0) fun w52:W=>
 S43 w52∧
(∃ x53 x54 x55:Int,∃ (A56:Option Addr) (n56_ c56_:Nat),(4=4∧At w52 ⟨g1,0,N⟩ [I B x53,I B x54,I D x55,S A56 n56_ c56_])∧
(R (.returned (.tuple #[G #[I B x53,I B x54,I D x55,S A56 n56_ c56_],I L 0])) w52)))))))))))))))))))))))))))))
theorem qq87.run (h:qq87.s I0 in0 ic0 w R):Calls Tryz.prog 56 #[S I0 in0 ic0] w R:=
 calls_segk (ords:=qq87.ords) (J:=qq87.joins) ents mixed Tryz.func56 rfl h (by kernel_rfl)
def qq74.ords:Nat→Od
 | _=>.nil
def qq74.joins (p:List Nat):Bool:=false
def qq74.s (i0:Int) (w:W) (R:E):Prop:=
(Let (L.wrap i0) fun x1:Int=>
(if decide (x1 < 13)=true then
((0≤(i0:Int)∧(i0:Int) < 13)∧
(∃ b2:Bool,w.cell? ((⟨1,0,N⟩:Addr).add i0.toNat)=some (T b2)∧
(R (.returned (T b2)) w)))
else
(R (.returned (T false)) w)))
theorem qq74.run (h:qq74.s i0 w R):Calls Tryz.prog 91 #[I B i0] w R:=
 calls_segk (ords:=qq74.ords) (J:=qq74.joins) ents mixed Tryz.func91 rfl h (by kernel_rfl)
def qq75.ords:Nat→Od
 | _=>.nil
def qq75.joins (p:List Nat):Bool:=p == [1,1,1]
def qq75.j1 (yg1 yg2:Nat) (d0 d3 d4 d5 d6 d7 d8 d9 dA dB dC dD dE dF dG dH dI dJ dK dL dM dN dO dP dQ dR dS dT dU dV dW dX dY dZ:V) (w:W) (R:E):Prop:=
 seg Tryz.prog entE qq75.ords qq75.joins Tryz.f90 [1,1,1] [1,1,1] [] [d0,P (some ⟨yg1,0,N⟩),P (some ⟨yg2,0,N⟩),d3,d4,d5,d6,d7,d8,d9,dA,dB,dC,dD,dE,dF,dG,dH,dI,dJ,dK,dL,dM,dN,dO,dP,dQ,dR,dS,dT,dU,dV,dW,dX,dY,dZ] w R
theorem qq75.j1_eq:qq75.j1 yg1 yg2 d0 d3 d4 d5 d6 d7 d8 d9 dA dB dC dD dE dF dG dH dI dJ dK dL dM dN dO dP dQ dR dS dT dU dV dW dX dY dZ w R =
(∃ (A1:Option Addr) (n1_ c1_:Nat),w.cell? ⟨yg1,10,N⟩=some (S A1 n1_ c1_)∧
(Calls Tryz.prog 56 #[S A1 n1_ c1_] w (fun (e3:Ending) (w2:W)=>
 ∃ x4 x5 x6:Int,∃ (A7:Option Addr) (n7_ c7_:Nat),∃ x8:Int,e3=.returned (.tuple #[G #[I B x4,I B x5,I D x6,S A7 n7_ c7_],I L x8])∧
(May w2 ⟨yg2,0,N⟩ 4∧
(Let (putCells w2 ⟨yg2,0,N⟩ [I B x4,I B x5,I D x6,S A7 n7_ c7_] 0) fun w9:W=>
 ∃ x10 x11 x12:Int,∃ (A13:Option Addr) (n13_ c13_:Nat),(4=4∧At w9 ⟨yg2,0,N⟩ [I B x10,I B x11,I D x12,S A13 n13_ c13_])∧
(R (.returned (.tuple #[G #[I B x10,I B x11,I D x12,S A13 n13_ c13_],I L x8])) w9)))))):=by kernel_rfl
def qq75.s (i0_0 i0_1:Int) (i0_2 i0_3:Bool) (i0_4 i0_5 i0_6 i0_7 i0_8:Int) (I0_9:Option Addr) (in0_9 ic0_9:Nat) (I0_10:Option Addr) (in0_10 ic0_10:Nat) (w:W) (R:E):Prop:=
(Let (w.heap.size) fun g1:Nat=>
 Let (w.alloc (.cells #[I B i0_0,I H i0_1,T i0_2,T i0_3,I L i0_4,I B i0_5,I B i0_6,I D i0_7,I D i0_8,S I0_9 in0_9 ic0_9,S I0_10 in0_10 ic0_10] 37)) fun w2:W=>
 Let (w2.heap.size) fun g3:Nat=>
 Let (w2.alloc (.cells #[I B 0,I B 0,I D 0,S N 0 0] 106)) fun w4:W=>
 ∃ x5 x6:Int,∃ b7 b8:Bool,∃ x9 x10 x11 x12 x13:Int,∃ (A14:Option Addr) (n14_ c14_:Nat),∃ (A15:Option Addr) (n15_ c15_:Nat),(11=11∧At w4 ⟨g1,0,N⟩ [I B x5,I H x6,T b7,T b8,I L x9,I B x10,I B x11,I D x12,I D x13,S A14 n14_ c14_,S A15 n15_ c15_])∧
(Calls Tryz.prog 34 #[G #[I B x5,I H x6,T b7,T b8,I L x9,I B x10,I B x11,I D x12,I D x13,S A14 n14_ c14_,S A15 n15_ c15_]] w4 (fun (e17:Ending) (w16:W)=>
 ∃ (A18:Option Addr) (n18_ c18_:Nat),∃ x19:Int,e17=.returned (.tuple #[S A18 n18_ c18_,I L x19])∧
((if (x19 != 0)=true then
(May w16 ⟨g3,0,N⟩ 4∧
(Let (putCells w16 ⟨g3,0,N⟩ [I B 0,I B 0,I D 0,S N 0 0] 0) fun w20:W=>
 ∃ x21 x22 x23:Int,∃ (A24:Option Addr) (n24_ c24_:Nat),(4=4∧At w20 ⟨g3,0,N⟩ [I B x21,I B x22,I D x23,S A24 n24_ c24_])∧
(R (.returned (.tuple #[G #[I B x21,I B x22,I D x23,S A24 n24_ c24_],I L x19])) w20)))
else
(∃ x25:Int,w16.cell? ⟨g1,6,N⟩=some (I B x25)∧
((if (x25 != 1)=true then
(May w16 ⟨g3,0,N⟩ 4∧
(Let (putCells w16 ⟨g3,0,N⟩ [I B 0,I B 0,I D 0,S N 0 0] 0) fun w26:W=>
 ∃ x27 x28 x29:Int,∃ (A30:Option Addr) (n30_ c30_:Nat),(4=4∧At w26 ⟨g3,0,N⟩ [I B x27,I B x28,I D x29,S A30 n30_ c30_])∧
(R (.returned (.tuple #[G #[I B x27,I B x28,I D x29,S A30 n30_ c30_],I L 60])) w26)))
else
(∃ x31:Int,w16.cell? ⟨g1,4,N⟩=some (I L x31)∧
((if decide (x31 > 0)=true then
(May w16 ⟨g3,0,N⟩ 4∧
(Let (putCells w16 ⟨g3,0,N⟩ [I B 0,I B 0,I D 0,S N 0 0] 0) fun w32:W=>
 ∃ x33 x34 x35:Int,∃ (A36:Option Addr) (n36_ c36_:Nat),(4=4∧At w32 ⟨g3,0,N⟩ [I B x33,I B x34,I D x35,S A36 n36_ c36_])∧
(R (.returned (.tuple #[G #[I B x33,I B x34,I D x35,S A36 n36_ c36_],I L 60])) w32)))
else
(∃ b37:Bool,w16.cell? ⟨g1,3,N⟩=some (T b37)∧
((if b37=true then
(May w16 ⟨g3,0,N⟩ 4∧
(Let (putCells w16 ⟨g3,0,N⟩ [I B 0,I B 0,I D 0,S N 0 0] 0) fun w38:W=>
 ∃ x39 x40 x41:Int,∃ (A42:Option Addr) (n42_ c42_:Nat),(4=4∧At w38 ⟨g3,0,N⟩ [I B x39,I B x40,I D x41,S A42 n42_ c42_])∧
(R (.returned (.tuple #[G #[I B x39,I B x40,I D x41,S A42 n42_ c42_],I L 60])) w38)))
else
(Leaf (qq75.j1 g1 g3 (G #[I B i0_0,I H i0_1,T i0_2,T i0_3,I L i0_4,I B i0_5,I B i0_6,I D i0_7,I D i0_8,S I0_9 in0_9 ic0_9,S I0_10 in0_10 ic0_10]) (I L 0) (S A18 n18_ c18_) (I L x19) (.tuple #[S A18 n18_ c18_,I L x19]) (G #[I B x5,I H x6,T b7,T b8,I L x9,I B x10,I B x11,I D x12,I D x13,S A14 n14_ c14_,S A15 n15_ c15_]) (.tuple #[S A18 n18_ c18_,I L x19]) (S A18 n18_ c18_) (I L x19) (I L x19) (T (x19 != 0)) U U (P (some ⟨g1,0,N⟩)) (P (some ⟨g1,6,N⟩)) (I B x25) (T (x25 != 1)) (T false) (P (some ⟨g1,0,N⟩)) (P (some ⟨g1,4,N⟩)) (I L x31) (T (decide (x31 > 0))) (T (decide (x31 > 0))) (T false) (P (some ⟨g1,0,N⟩)) (P (some ⟨g1,3,N⟩)) (T b37) (T b37) U U U U U U w16 R))))))))))))))))
theorem qq75.run (h:qq75.s i0_0 i0_1 i0_2 i0_3 i0_4 i0_5 i0_6 i0_7 i0_8 I0_9 in0_9 ic0_9 I0_10 in0_10 ic0_10 w R):Calls Tryz.prog 90 #[G #[I B i0_0,I H i0_1,T i0_2,T i0_3,I L i0_4,I B i0_5,I B i0_6,I D i0_7,I D i0_8,S I0_9 in0_9 ic0_9,S I0_10 in0_10 ic0_10]] w R:=
 calls_segk (ords:=qq75.ords) (J:=qq75.joins) ents mixed Tryz.func90 rfl h (by kernel_rfl)
end Go.Proofs.YtphbdmafchjjeaaGreatDoorS
