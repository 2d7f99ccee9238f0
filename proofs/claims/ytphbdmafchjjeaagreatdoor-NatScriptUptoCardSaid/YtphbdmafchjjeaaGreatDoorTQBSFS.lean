import Derived.Test.YtphbdmafchjjeaaGreatDoorTQBSPureM
namespace Go.Proofs.YtphbdmafchjjeaaGreatDoorS
open Go Go.Proofs
open Go renaming undef → U, World → W, Value → V
open Go.Value renaming int → I, slice → S, bool → T, pointer → P, agg → G
open Go.IntKind renaming u8 → B, u16 → H, u32 → D, u64 → Q, i64 → L
open Option renaming none → N
set_option autoImplicit true
set_option relaxedAutoImplicit true
set_option maxRecDepth 100000
set_option linter.unusedVariables false
def qq52.ords:Nat→Od
 | _=>.nil
def qq52.joins (p:List Nat):Bool:=false
def qq52.s (i0_0 i0_1:Int) (i0_2 i0_3:Bool) (i0_4 i0_5 i0_6 i0_7 i0_8:Int) (I0_9:Option Addr) (in0_9 ic0_9:Nat) (I0_10:Option Addr) (in0_10 ic0_10:Nat) (w:W) (R:E):Prop:=
(Let (w.heap.size) fun g1:Nat=>
 Let (w.alloc (.cells #[I B i0_0,I H i0_1,T i0_2,T i0_3,I L i0_4,I B i0_5,I B i0_6,I D i0_7,I D i0_8,S I0_9 in0_9 ic0_9,S I0_10 in0_10 ic0_10] 37)) fun w2:W=>
 Let (w2.heap.size) fun g3:Nat=>
 Let (w2.alloc (.cells #[I B 0,I H 0,T false,T false,I L 0,I B 0,I B 0,I D 0,I D 0,S N 0 0] 35)) fun w4:W=>
 Let (w4.heap.size) fun g5:Nat=>
 Let (w4.alloc (.cells #[I B 0,I H 0,T false,T false,I L 0,I B 0,I B 0,I D 0,I D 0,S N 0 0] 35)) fun w6:W=>
 ∃ x7 x8:Int,∃ b9 b10:Bool,∃ x11 x12 x13 x14 x15:Int,∃ (A16:Option Addr) (n16_ c16_:Nat),∃ (A17:Option Addr) (n17_ c17_:Nat),(11=11∧At w6 ⟨g1,0,N⟩ [I B x7,I H x8,T b9,T b10,I L x11,I B x12,I B x13,I D x14,I D x15,S A16 n16_ c16_,S A17 n17_ c17_])∧
(Calls Tryz.prog 83 #[G #[I B x7,I H x8,T b9,T b10,I L x11,I B x12,I B x13,I D x14,I D x15,S A16 n16_ c16_,S A17 n17_ c17_]] w6 (fun (e19:Ending) (w18:W)=>
 ∃ x20 x21 x22:Int,∃ (A23:Option Addr) (n23_ c23_:Nat),∃ x24:Int,e19=.returned (.tuple #[G #[I B x20,I B x21,I D x22,S A23 n23_ c23_],I L x24])∧
(Let (w18.heap.size) fun g25:Nat=>
 Let (w18.alloc (.cells #[I B 0,I B 0,I D 0,S N 0 0] 106)) fun w26:W=>
 May w26 ⟨g25,0,N⟩ 4∧
(Let (putCells w26 ⟨g25,0,N⟩ [I B x20,I B x21,I D x22,S A23 n23_ c23_] 0) fun w27:W=>
(if (x24 != 0)=true then
(∃ x28 x29:Int,∃ b30 b31:Bool,∃ x32 x33 x34 x35 x36:Int,∃ (A37:Option Addr) (n37_ c37_:Nat),(10=10∧At w27 ⟨g5,0,N⟩ [I B x28,I H x29,T b30,T b31,I L x32,I B x33,I B x34,I D x35,I D x36,S A37 n37_ c37_])∧
(May w27 ⟨g3,0,N⟩ 10∧
(Let (putCells w27 ⟨g3,0,N⟩ [I B x28,I H x29,T b30,T b31,I L x32,I B x33,I B x34,I D x35,I D x36,S A37 n37_ c37_] 0) fun w38:W=>
 ∃ x39 x40:Int,∃ b41 b42:Bool,∃ x43 x44 x45 x46 x47:Int,∃ (A48:Option Addr) (n48_ c48_:Nat),(10=10∧At w38 ⟨g3,0,N⟩ [I B x39,I H x40,T b41,T b42,I L x43,I B x44,I B x45,I D x46,I D x47,S A48 n48_ c48_])∧
(R (.returned (.tuple #[G #[I B x39,I H x40,T b41,T b42,I L x43,I B x44,I B x45,I D x46,I D x47,S A48 n48_ c48_],S N 0 0,I L x24])) w38))))
else
(∃ x49:Int,w27.cell? ⟨g25,0,N⟩=some (I B x49)∧
(Calls Tryz.prog 84 #[I B x49] w27 (fun (e51:Ending) (w50:W)=>
 ∃ b52:Bool,e51=.returned (T b52)∧
((if (!b52)=true then
(∃ x53 x54:Int,∃ b55 b56:Bool,∃ x57 x58 x59 x60 x61:Int,∃ (A62:Option Addr) (n62_ c62_:Nat),(10=10∧At w50 ⟨g5,0,N⟩ [I B x53,I H x54,T b55,T b56,I L x57,I B x58,I B x59,I D x60,I D x61,S A62 n62_ c62_])∧
(May w50 ⟨g3,0,N⟩ 10∧
(Let (putCells w50 ⟨g3,0,N⟩ [I B x53,I H x54,T b55,T b56,I L x57,I B x58,I B x59,I D x60,I D x61,S A62 n62_ c62_] 0) fun w63:W=>
 ∃ x64 x65:Int,∃ b66 b67:Bool,∃ x68 x69 x70 x71 x72:Int,∃ (A73:Option Addr) (n73_ c73_:Nat),(10=10∧At w63 ⟨g3,0,N⟩ [I B x64,I H x65,T b66,T b67,I L x68,I B x69,I B x70,I D x71,I D x72,S A73 n73_ c73_])∧
(R (.returned (.tuple #[G #[I B x64,I H x65,T b66,T b67,I L x68,I B x69,I B x70,I D x71,I D x72,S A73 n73_ c73_],S N 0 0,I L 62])) w63))))
else
(∃ (A74:Option Addr) (n74_ c74_:Nat),w50.cell? ⟨g25,3,N⟩=some (S A74 n74_ c74_)∧
(Calls Tryz.prog 85 #[S A74 n74_ c74_] w50 (fun (e76:Ending) (w75:W)=>
 ∃ x77 x78:Int,∃ b79 b80:Bool,∃ x81 x82 x83 x84 x85:Int,∃ (A86:Option Addr) (n86_ c86_:Nat),∃ (A87:Option Addr) (n87_ c87_:Nat),∃ x88:Int,e76=.returned (.tuple #[G #[I B x77,I H x78,T b79,T b80,I L x81,I B x82,I B x83,I D x84,I D x85,S A86 n86_ c86_],S A87 n87_ c87_,I L x88])∧
(May w75 ⟨g3,0,N⟩ 10∧
(Let (putCells w75 ⟨g3,0,N⟩ [I B x77,I H x78,T b79,T b80,I L x81,I B x82,I B x83,I D x84,I D x85,S A86 n86_ c86_] 0) fun w89:W=>
 ∃ x90 x91:Int,∃ b92 b93:Bool,∃ x94 x95 x96 x97 x98:Int,∃ (A99:Option Addr) (n99_ c99_:Nat),(10=10∧At w89 ⟨g3,0,N⟩ [I B x90,I H x91,T b92,T b93,I L x94,I B x95,I B x96,I D x97,I D x98,S A99 n99_ c99_])∧
(R (.returned (.tuple #[G #[I B x90,I H x91,T b92,T b93,I L x94,I B x95,I B x96,I D x97,I D x98,S A99 n99_ c99_],S A87 n87_ c87_,I L x88])) w89)))))))))))))))))
theorem qq52.run (h:qq52.s i0_0 i0_1 i0_2 i0_3 i0_4 i0_5 i0_6 i0_7 i0_8 I0_9 in0_9 ic0_9 I0_10 in0_10 ic0_10 w R):Calls Tryz.prog 49 #[G #[I B i0_0,I H i0_1,T i0_2,T i0_3,I L i0_4,I B i0_5,I B i0_6,I D i0_7,I D i0_8,S I0_9 in0_9 ic0_9,S I0_10 in0_10 ic0_10]] w R:=
 calls_segk (ords:=qq52.ords) (J:=qq52.joins) ents mixed Tryz.func49 rfl h (by kernel_rfl)
def qq47.ords:Nat→Od
 | _=>.nil
def qq47.joins (p:List Nat):Bool:=false
def qq47.s (i0_0 i0_1 i0_2:Int) (I0_3:Option Addr) (in0_3 ic0_3:Nat) (w:W) (R:E):Prop:=
(Let (w.heap.size) fun g1:Nat=>
 Let (w.alloc (.cells #[I B i0_0,I B i0_1,I D i0_2,S I0_3 in0_3 ic0_3] 106)) fun w2:W=>
 ∃ (A3:Option Addr) (n3_ c3_:Nat),w2.cell? ⟨g1,3,N⟩=some (S A3 n3_ c3_)∧
((if decide ((n3_:Int) > 65507)=true then
(R (.returned (.tuple #[S N 0 0,I L 37])) w2)
else
(∃ x4 x5 x6:Int,∃ (A7:Option Addr) (n7_ c7_:Nat),(4=4∧At w2 ⟨g1,0,N⟩ [I B x4,I B x5,I D x6,S A7 n7_ c7_])∧
(Calls Tryz.prog 89 #[G #[I B x4,I B x5,I D x6,S A7 n7_ c7_],I H 0] w2 (fun (e9:Ending) (w8:W)=>
 ∃ (A10:Option Addr) (n10_ c10_:Nat),e9=.returned (S A10 n10_ c10_)∧
(Let (w8.heap.size) fun g11:Nat=>
 Let (w8.alloc (.cells #[S A10 n10_ c10_] 33)) fun w12:W=>
 Calls Tryz.prog 53 #[S (some ⟨g11,0,N⟩) 1 1] w12 (fun (e14:Ending) (w13:W)=>
 ∃ x15:Int,e14=.returned (I H x15)∧
(∃ x16 x17 x18:Int,∃ (A19:Option Addr) (n19_ c19_:Nat),(4=4∧At w13 ⟨g1,0,N⟩ [I B x16,I B x17,I D x18,S A19 n19_ c19_])∧
(Calls Tryz.prog 89 #[G #[I B x16,I B x17,I D x18,S A19 n19_ c19_],I H x15] w13 (fun (e21:Ending) (w20:W)=>
 ∃ (A22:Option Addr) (n22_ c22_:Nat),e21=.returned (S A22 n22_ c22_)∧
(R (.returned (.tuple #[S A22 n22_ c22_,I L 0])) w20))))))))))))
theorem qq47.run (h:qq47.s i0_0 i0_1 i0_2 I0_3 in0_3 ic0_3 w R):Calls Tryz.prog 54 #[G #[I B i0_0,I B i0_1,I D i0_2,S I0_3 in0_3 ic0_3]] w R:=
 calls_segk (ords:=qq47.ords) (J:=qq47.joins) ents mixed Tryz.func54 rfl h (by kernel_rfl)
def qq57.ords:Nat→Od
 | 13=>(.tk 0 (.tk 1 (.tk 2 (.tk 3 (.tk 4 (.tk 5 (.tk 6 (.tk 7 (.tk 8 (.tk 9 (.on 10 (.tk 11 (.on 12 (.tk 13 .nil))))))))))))))
 | _=>.nil
def qq57.joins (p:List Nat):Bool:=false
def qq57.l1 (n:Nat) (Y0:Option Addr) (yn0 yc0 yg2:Nat) (y5 y6:Int) (d1 d3 d4 d7 d8 d9 dA dB dC dD dE dF dG dH dI dJ dK dL dM dN dO dP dQ dR dS dT dU dV dW dX dY dZ k0 k1 k2 k3 k4 k5 k6 k7:V) (w:W) (R:E):Prop:=
 lseg Tryz.prog entE qq57.ords qq57.joins Tryz.f50 [1,1,1,1,1,1,0,1,0] [0,1,0,1,1,1,1,1,1] [] n [S Y0 yn0 yc0,d1,P (some ⟨yg2,0,N⟩),d3,d4,I L y5,I L y6,d7,d8,d9,dA,dB,dC,dD,dE,dF,dG,dH,dI,dJ,dK,dL,dM,dN,dO,dP,dQ,dR,dS,dT,dU,dV,dW,dX,dY,dZ,k0,k1,k2,k3,k4,k5,k6,k7] w R
abbrev qq57.L1 (n:Nat) (Y0:Option Addr) (yn0 yc0 yg2:Nat) (y5 y6:Int) (w:W) (R:E):Prop:=∀ d1 d3 d4 d7 d8 d9 dA dB dC dD dE dF dG dH dI dJ dK dL dM dN dO dP dQ dR dS dT dU dV dW dX dY dZ k0 k1 k2 k3 k4 k5 k6 k7,qq57.l1 n Y0 yn0 yc0 yg2 y5 y6 d1 d3 d4 d7 d8 d9 dA dB dC dD dE dF dG dH dI dJ dK dL dM dN dO dP dQ dR dS dT dU dV dW dX dY dZ k0 k1 k2 k3 k4 k5 k6 k7 w R
theorem qq57.l1_eq {n:Nat}:qq57.l1 (n+1) Y0 yn0 yc0 yg2 y5 y6 d1 d3 d4 d7 d8 d9 dA dB dC dD dE dF dG dH dI dJ dK dL dM dN dO dP dQ dR dS dT dU dV dW dX dY dZ k0 k1 k2 k3 k4 k5 k6 k7 w R =
((if decide (y6 < 8)=true then
(Let (L.wrap (256 * y5)) fun x1:Int=>
 ∃ a2:Addr,Y0=some a2∧(0≤y6∧y6 < (yn0:Int))∧
(∃ x3:Int,w.cell? (a2.add y6.toNat)=some (I B x3)∧
(Let (L.wrap x3) fun x4:Int=>
 Let (L.wrap (x1+x4)) fun x5:Int=>
 Let (L.wrap (y6+1)) fun x6:Int=>
 qq57.l1 n Y0 yn0 yc0 yg2 x5 x6 d1 d3 d4 d7 d8 d9 dA dB dC dD dE dF dG dH dI dJ (I L y6) (T (decide (y6 < 8))) (I L y6) (I L x6) (I L y5) (I L x1) (S Y0 yn0 yc0) (I L y6) (P (some (a2.add y6.toNat))) (I B x3) (I L x4) (I L x5) dW dX dY dZ k0 k1 k2 k3 k4 k5 k6 k7 w R)))
else
(∃ S7:W→Prop,S7 w.drew∧
(Let (w.drew) fun w8:W=>
 ∃ a9:Addr,Y0=some a9∧(0≤(0:Int)∧(0:Int) < (yn0:Int))∧
(∃ x10:Int,(∀ w',S7 w'→w'.cell? a9=some (I B x10))∧
(∃ a11:Addr,Y0=some a11∧(0≤(1:Int)∧(1:Int) < (yn0:Int))∧
(∃ x12:Int,(∀ w',S7 w'→w'.cell? (a11.add 1)=some (I B x12))∧
(Let (D.wrap y5) fun x13:Int=>
(0≤(8:Int)∧(8:Int)≤(yn0:Int))∧
(Calls Tryz.prog 86 #[S (cutA Y0 8 yc0 1) (yn0-8) (yc0-8)] w8 (fun (e15:Ending) (w14:W)=>
 ∃ (A16:Option Addr) (n16_ c16_:Nat),e15=.returned (S A16 n16_ c16_)∧
(S7 w14∧
(May w14 ⟨yg2,0,N⟩ 4∧
(Let (putCells w14 ⟨yg2,0,N⟩ [I B x10,I B x12,I D x13,S A16 n16_ c16_] 0) fun w17:W=>
 S7 w17∧
(∃ x18 x19 x20:Int,∃ (A21:Option Addr) (n21_ c21_:Nat),(4=4∧At w17 ⟨yg2,0,N⟩ [I B x18,I B x19,I D x20,S A21 n21_ c21_])∧
(R (.returned (.tuple #[G #[I B x18,I B x19,I D x20,S A21 n21_ c21_],I L 0])) w17))))))))))))))):=by kernel_rfl
def qq57.s (I0:Option Addr) (in0 ic0:Nat) (w:W) (R:E):Prop:=
(Let (w.heap.size) fun g1:Nat=>
 Let (w.alloc (.cells #[I B 0,I B 0,I D 0,S N 0 0] 106)) fun w2:W=>
 Let (w2.heap.size) fun g3:Nat=>
 Let (w2.alloc (.cells #[I B 0,I B 0,I D 0,S N 0 0] 106)) fun w4:W=>
(if decide ((in0:Int) < 8)=true then
(∃ x5 x6 x7:Int,∃ (A8:Option Addr) (n8_ c8_:Nat),(4=4∧At w4 ⟨g3,0,N⟩ [I B x5,I B x6,I D x7,S A8 n8_ c8_])∧
(May w4 ⟨g1,0,N⟩ 4∧
(Let (putCells w4 ⟨g1,0,N⟩ [I B x5,I B x6,I D x7,S A8 n8_ c8_] 0) fun w9:W=>
 ∃ x10 x11 x12:Int,∃ (A13:Option Addr) (n13_ c13_:Nat),(4=4∧At w9 ⟨g1,0,N⟩ [I B x10,I B x11,I D x12,S A13 n13_ c13_])∧
(R (.returned (.tuple #[G #[I B x10,I B x11,I D x12,S A13 n13_ c13_],I L 30])) w9))))
else
((if decide ((in0:Int) > 65515)=true then
(∃ x14 x15 x16:Int,∃ (A17:Option Addr) (n17_ c17_:Nat),(4=4∧At w4 ⟨g3,0,N⟩ [I B x14,I B x15,I D x16,S A17 n17_ c17_])∧
(May w4 ⟨g1,0,N⟩ 4∧
(Let (putCells w4 ⟨g1,0,N⟩ [I B x14,I B x15,I D x16,S A17 n17_ c17_] 0) fun w18:W=>
 ∃ x19 x20 x21:Int,∃ (A22:Option Addr) (n22_ c22_:Nat),(4=4∧At w18 ⟨g1,0,N⟩ [I B x19,I B x20,I D x21,S A22 n22_ c22_])∧
(R (.returned (.tuple #[G #[I B x19,I B x20,I D x21,S A22 n22_ c22_],I L 37])) w18))))
else
(Let (w4.heap.size) fun g23:Nat=>
 Let (w4.alloc (.cells #[S I0 in0 ic0] 33)) fun w24:W=>
 Calls Tryz.prog 53 #[S (some ⟨g23,0,N⟩) 1 1] w24 (fun (e26:Ending) (w25:W)=>
 ∃ x27:Int,e26=.returned (I H x27)∧
((if (x27 != 0)=true then
(∃ x28 x29 x30:Int,∃ (A31:Option Addr) (n31_ c31_:Nat),(4=4∧At w25 ⟨g3,0,N⟩ [I B x28,I B x29,I D x30,S A31 n31_ c31_])∧
(May w25 ⟨g1,0,N⟩ 4∧
(Let (putCells w25 ⟨g1,0,N⟩ [I B x28,I B x29,I D x30,S A31 n31_ c31_] 0) fun w32:W=>
 ∃ x33 x34 x35:Int,∃ (A36:Option Addr) (n36_ c36_:Nat),(4=4∧At w32 ⟨g1,0,N⟩ [I B x33,I B x34,I D x35,S A36 n36_ c36_])∧
(R (.returned (.tuple #[G #[I B x33,I B x34,I D x35,S A36 n36_ c36_],I L 33])) w32))))
else
(∃ n37:Nat,qq57.l1 n37 I0 in0 ic0 g1 0 4 U (I L 0) (P (some ⟨g3,0,N⟩)) (S I0 in0 ic0) (I L (in0:Int)) (T (decide ((in0:Int) < 8))) U (S I0 in0 ic0) (I L (in0:Int)) (T (decide ((in0:Int) > 65515))) U (S I0 in0 ic0) (S (some ⟨g23,0,N⟩) 1 1) (I H x27) (T (x27 != 0)) U U U U U U U U U U U U U U U U U U U U U U U U U w25 R)))))))))
theorem qq57.run (h:qq57.s I0 in0 ic0 w R):Calls Tryz.prog 50 #[S I0 in0 ic0] w R:=
 calls_segk (ords:=qq57.ords) (J:=qq57.joins) ents mixed Tryz.func50 rfl h (by kernel_rfl)
def qq48.ords:Nat→Od
 | _=>.nil
def qq48.joins (p:List Nat):Bool:=false
def qq48.l1 (n:Nat) (Y0:Option Addr) (yn0 yc0:Nat) (Y3:Option Addr) (yn3 yc3:Nat) (y4:Int) (d1 d2 d5 d6 d7 d8 d9 dA dB dC dD dE dF dG dH dI:V) (w:W) (R:E):Prop:=
 lseg Tryz.prog entE qq48.ords qq48.joins Tryz.f86 [1,1,0,1,0] [0,1,0,1,1] [] n [S Y0 yn0 yc0,d1,d2,S Y3 yn3 yc3,I L y4,d5,d6,d7,d8,d9,dA,dB,dC,dD,dE,dF,dG,dH,dI] w R
abbrev qq48.L1 (n:Nat) (Y0:Option Addr) (yn0 yc0:Nat) (Y3:Option Addr) (yn3 yc3:Nat) (y4:Int) (w:W) (R:E):Prop:=∀ d1 d2 d5 d6 d7 d8 d9 dA dB dC dD dE dF dG dH dI,qq48.l1 n Y0 yn0 yc0 Y3 yn3 yc3 y4 d1 d2 d5 d6 d7 d8 d9 dA dB dC dD dE dF dG dH dI w R
theorem qq48.l1_eq {n:Nat}:qq48.l1 (n+1) Y0 yn0 yc0 Y3 yn3 yc3 y4 d1 d2 d5 d6 d7 d8 d9 dA dB dC dD dE dF dG dH dI w R =
((if decide (y4 < (yn0:Int))=true then
(∃ a1:Addr,Y0=some a1∧(0≤y4∧y4 < (yn0:Int))∧
(∃ x2:Int,w.cell? (a1.add y4.toNat)=some (I B x2)∧
(Let (w.heap.size) fun g3:Nat=>
 Let (w.alloc (.cells #[I B x2] 5)) fun w4:W=>
 AppE w4 1 1 5 [I B 0] Y3 yn3 yc3 (some ⟨g3,0,N⟩) 1 (fun (A5:Option Addr) (c6:Nat) (w7:W)=>
 Let (L.wrap (y4+1)) fun x8:Int=>
 qq48.l1 n Y0 yn0 yc0 A5 (yn3+1) c6 x8 d1 d2 (I L y4) (S Y0 yn0 yc0) (I L (yn0:Int)) (T (decide (y4 < (yn0:Int)))) (I L y4) (I L x8) (S Y3 yn3 yc3) (S Y0 yn0 yc0) (I L y4) (P (some (a1.add y4.toNat))) (I B x2) (S (some ⟨g3,0,N⟩) 1 1) (S A5 (yn3+1) c6) dI w7 R))))
else
(R (.returned (S Y3 yn3 yc3)) w))):=by kernel_rfl
def qq48.s (I0:Option Addr) (in0 ic0:Nat) (w:W) (R:E):Prop:=
(∃ n1:Nat,qq48.l1 n1 I0 in0 ic0 N 0 0 0 U (S N 0 0) U U U U U U U U U U U U U U w R)
theorem qq48.run (h:qq48.s I0 in0 ic0 w R):Calls Tryz.prog 86 #[S I0 in0 ic0] w R:=
 calls_segk (ords:=qq48.ords) (J:=qq48.joins) ents mixed Tryz.func86 rfl h (by kernel_rfl)
def qq25.ords:Nat→Od
 | _=>.nil
def qq25.joins (p:List Nat):Bool:=false
def qq25.s (i0:Int) (w:W) (R:E):Prop:=
((if (i0 == 3)=true then
(R (.returned (T true)) w)
else
((if (i0 == 4)=true then
(R (.returned (T true)) w)
else
((if (i0 == 5)=true then
(R (.returned (T true)) w)
else
((if (i0 == 11)=true then
(R (.returned (T true)) w)
else
(R (.returned (T (i0 == 12))) w)))))))))
theorem qq25.run (h:qq25.s i0 w R):Calls Tryz.prog 84 #[I B i0] w R:=
 calls_segk (ords:=qq25.ords) (J:=qq25.joins) ents mixed Tryz.func84 rfl h (by kernel_rfl)
def qq20.ords:Nat→Od
 | _=>.nil
def qq20.joins (p:List Nat):Bool:=p == [1,0,1,1,1,1] || p == [1,1,1,1,1]
def qq20.j1 (yg1 yg2 yg4:Nat) (y30:Bool) (d0 d3 d5 d6 d7 d8 d9 dA dB dC dD dE dF dG dH dI dJ dK dL dM dN dO dP dQ dR dS dT dV dW dX dY dZ k0:V) (w:W) (R:E):Prop:=
 seg Tryz.prog entE qq20.ords qq20.joins Tryz.f83 [1,1,1,1,0,1] [1,0,1,1,1,1] [] [d0,P (some ⟨yg1,0,N⟩),P (some ⟨yg2,0,N⟩),d3,P (some ⟨yg4,0,N⟩),d5,d6,d7,d8,d9,dA,dB,dC,dD,dE,dF,dG,dH,dI,dJ,dK,dL,dM,dN,dO,dP,dQ,dR,dS,dT,T y30,dV,dW,dX,dY,dZ,k0] w R
def qq20.j2 (yg1 yg2:Nat) (d0 d3 d4 d5 d6 d7 d8 d9 dA dB dC dD dE dF dG dH dI dJ dK dL dM dN dO dP dQ dR dS dT dU dV dW dX dY dZ k0:V) (w:W) (R:E):Prop:=
 seg Tryz.prog entE qq20.ords qq20.joins Tryz.f83 [1,1,1,1,1] [1,1,1,1,1] [] [d0,P (some ⟨yg1,0,N⟩),P (some ⟨yg2,0,N⟩),d3,d4,d5,d6,d7,d8,d9,dA,dB,dC,dD,dE,dF,dG,dH,dI,dJ,dK,dL,dM,dN,dO,dP,dQ,dR,dS,dT,dU,dV,dW,dX,dY,dZ,k0] w R
abbrev qq20.J1 (yg1 yg2 yg4:Nat) (y30:Bool) (w:W) (R:E):Prop:=∀ d0 d3 d5 d6 d7 d8 d9 dA dB dC dD dE dF dG dH dI dJ dK dL dM dN dO dP dQ dR dS dT dV dW dX dY dZ k0,qq20.j1 yg1 yg2 yg4 y30 d0 d3 d5 d6 d7 d8 d9 dA dB dC dD dE dF dG dH dI dJ dK dL dM dN dO dP dQ dR dS dT dV dW dX dY dZ k0 w R
theorem qq20.j1_eq:qq20.j1 yg1 yg2 yg4 y30 d0 d3 d5 d6 d7 d8 d9 dA dB dC dD dE dF dG dH dI dJ dK dL dM dN dO dP dQ dR dS dT dV dW dX dY dZ k0 w R =
((if y30=true then
(∃ x1 x2 x3:Int,∃ (A4:Option Addr) (n4_ c4_:Nat),(4=4∧At w ⟨yg4,0,N⟩ [I B x1,I B x2,I D x3,S A4 n4_ c4_])∧
(May w ⟨yg2,0,N⟩ 4∧
(Let (putCells w ⟨yg2,0,N⟩ [I B x1,I B x2,I D x3,S A4 n4_ c4_] 0) fun w5:W=>
 ∃ x6 x7 x8:Int,∃ (A9:Option Addr) (n9_ c9_:Nat),(4=4∧At w5 ⟨yg2,0,N⟩ [I B x6,I B x7,I D x8,S A9 n9_ c9_])∧
(R (.returned (.tuple #[G #[I B x6,I B x7,I D x8,S A9 n9_ c9_],I L 60])) w5))))
else
(Leaf (qq20.j2 yg1 yg2 d0 d3 (P (some ⟨yg4,0,N⟩)) d5 d6 d7 d8 d9 dA dB dC dD dE dF dG dH dI dJ dK dL dM dN dO dP dQ dR dS dT (T y30) dV dW dX dY dZ k0 w R)))):=by kernel_rfl
theorem qq20.j2_eq:qq20.j2 yg1 yg2 d0 d3 d4 d5 d6 d7 d8 d9 dA dB dC dD dE dF dG dH dI dJ dK dL dM dN dO dP dQ dR dS dT dU dV dW dX dY dZ k0 w R =
(∃ (A1:Option Addr) (n1_ c1_:Nat),w.cell? ⟨yg1,10,N⟩=some (S A1 n1_ c1_)∧
(Calls Tryz.prog 50 #[S A1 n1_ c1_] w (fun (e3:Ending) (w2:W)=>
 ∃ x4 x5 x6:Int,∃ (A7:Option Addr) (n7_ c7_:Nat),∃ x8:Int,e3=.returned (.tuple #[G #[I B x4,I B x5,I D x6,S A7 n7_ c7_],I L x8])∧
(May w2 ⟨yg2,0,N⟩ 4∧
(Let (putCells w2 ⟨yg2,0,N⟩ [I B x4,I B x5,I D x6,S A7 n7_ c7_] 0) fun w9:W=>
 ∃ x10 x11 x12:Int,∃ (A13:Option Addr) (n13_ c13_:Nat),(4=4∧At w9 ⟨yg2,0,N⟩ [I B x10,I B x11,I D x12,S A13 n13_ c13_])∧
(R (.returned (.tuple #[G #[I B x10,I B x11,I D x12,S A13 n13_ c13_],I L x8])) w9)))))):=by kernel_rfl
def qq20.s (i0_0 i0_1:Int) (i0_2 i0_3:Bool) (i0_4 i0_5 i0_6 i0_7 i0_8:Int) (I0_9:Option Addr) (in0_9 ic0_9:Nat) (I0_10:Option Addr) (in0_10 ic0_10:Nat) (w:W) (R:E):Prop:=
(Let (w.heap.size) fun g1:Nat=>
 Let (w.alloc (.cells #[I B i0_0,I H i0_1,T i0_2,T i0_3,I L i0_4,I B i0_5,I B i0_6,I D i0_7,I D i0_8,S I0_9 in0_9 ic0_9,S I0_10 in0_10 ic0_10] 37)) fun w2:W=>
 Let (w2.heap.size) fun g3:Nat=>
 Let (w2.alloc (.cells #[I B 0,I B 0,I D 0,S N 0 0] 106)) fun w4:W=>
 Let (w4.heap.size) fun g5:Nat=>
 Let (w4.alloc (.cells #[I B 0,I B 0,I D 0,S N 0 0] 106)) fun w6:W=>
 ∃ x7 x8:Int,∃ b9 b10:Bool,∃ x11 x12 x13 x14 x15:Int,∃ (A16:Option Addr) (n16_ c16_:Nat),∃ (A17:Option Addr) (n17_ c17_:Nat),(11=11∧At w6 ⟨g1,0,N⟩ [I B x7,I H x8,T b9,T b10,I L x11,I B x12,I B x13,I D x14,I D x15,S A16 n16_ c16_,S A17 n17_ c17_])∧
(Calls Tryz.prog 42 #[G #[I B x7,I H x8,T b9,T b10,I L x11,I B x12,I B x13,I D x14,I D x15,S A16 n16_ c16_,S A17 n17_ c17_]] w6 (fun (e19:Ending) (w18:W)=>
 ∃ (A20:Option Addr) (n20_ c20_:Nat),∃ x21:Int,e19=.returned (.tuple #[S A20 n20_ c20_,I L x21])∧
((if (x21 != 0)=true then
(∃ x22 x23 x24:Int,∃ (A25:Option Addr) (n25_ c25_:Nat),(4=4∧At w18 ⟨g5,0,N⟩ [I B x22,I B x23,I D x24,S A25 n25_ c25_])∧
(May w18 ⟨g3,0,N⟩ 4∧
(Let (putCells w18 ⟨g3,0,N⟩ [I B x22,I B x23,I D x24,S A25 n25_ c25_] 0) fun w26:W=>
 ∃ x27 x28 x29:Int,∃ (A30:Option Addr) (n30_ c30_:Nat),(4=4∧At w26 ⟨g3,0,N⟩ [I B x27,I B x28,I D x29,S A30 n30_ c30_])∧
(R (.returned (.tuple #[G #[I B x27,I B x28,I D x29,S A30 n30_ c30_],I L x21])) w26))))
else
(∃ x31:Int,w18.cell? ⟨g1,6,N⟩=some (I B x31)∧
((if (x31 != 1)=true then
(Leaf (qq20.j1 g1 g3 g5 true (G #[I B i0_0,I H i0_1,T i0_2,T i0_3,I L i0_4,I B i0_5,I B i0_6,I D i0_7,I D i0_8,S I0_9 in0_9 ic0_9,S I0_10 in0_10 ic0_10]) (I L 0) (S A20 n20_ c20_) (I L x21) (.tuple #[S A20 n20_ c20_,I L x21]) (G #[I B x7,I H x8,T b9,T b10,I L x11,I B x12,I B x13,I D x14,I D x15,S A16 n16_ c16_,S A17 n17_ c17_]) (.tuple #[S A20 n20_ c20_,I L x21]) (S A20 n20_ c20_) (I L x21) (I L x21) (T (x21 != 0)) U U (P (some ⟨g1,0,N⟩)) (P (some ⟨g1,6,N⟩)) (I B x31) (T (x31 != 1)) (T true) U U U U (T true) (T true) U U U U U U U U U w18 R))
else
(∃ x32:Int,w18.cell? ⟨g1,4,N⟩=some (I L x32)∧
((if decide (x32 > 0)=true then
(Leaf (qq20.j1 g1 g3 g5 true (G #[I B i0_0,I H i0_1,T i0_2,T i0_3,I L i0_4,I B i0_5,I B i0_6,I D i0_7,I D i0_8,S I0_9 in0_9 ic0_9,S I0_10 in0_10 ic0_10]) (I L 0) (S A20 n20_ c20_) (I L x21) (.tuple #[S A20 n20_ c20_,I L x21]) (G #[I B x7,I H x8,T b9,T b10,I L x11,I B x12,I B x13,I D x14,I D x15,S A16 n16_ c16_,S A17 n17_ c17_]) (.tuple #[S A20 n20_ c20_,I L x21]) (S A20 n20_ c20_) (I L x21) (I L x21) (T (x21 != 0)) U U (P (some ⟨g1,0,N⟩)) (P (some ⟨g1,6,N⟩)) (I B x31) (T (x31 != 1)) (T false) (P (some ⟨g1,0,N⟩)) (P (some ⟨g1,4,N⟩)) (I L x32) (T (decide (x32 > 0))) (T (decide (x32 > 0))) (T true) U U U U U U U U U w18 R))
else
(∃ b33:Bool,w18.cell? ⟨g1,3,N⟩=some (T b33)∧
(Leaf (qq20.j1 g1 g3 g5 b33 (G #[I B i0_0,I H i0_1,T i0_2,T i0_3,I L i0_4,I B i0_5,I B i0_6,I D i0_7,I D i0_8,S I0_9 in0_9 ic0_9,S I0_10 in0_10 ic0_10]) (I L 0) (S A20 n20_ c20_) (I L x21) (.tuple #[S A20 n20_ c20_,I L x21]) (G #[I B x7,I H x8,T b9,T b10,I L x11,I B x12,I B x13,I D x14,I D x15,S A16 n16_ c16_,S A17 n17_ c17_]) (.tuple #[S A20 n20_ c20_,I L x21]) (S A20 n20_ c20_) (I L x21) (I L x21) (T (x21 != 0)) U U (P (some ⟨g1,0,N⟩)) (P (some ⟨g1,6,N⟩)) (I B x31) (T (x31 != 1)) (T false) (P (some ⟨g1,0,N⟩)) (P (some ⟨g1,4,N⟩)) (I L x32) (T (decide (x32 > 0))) (T (decide (x32 > 0))) (T false) (P (some ⟨g1,0,N⟩)) (P (some ⟨g1,3,N⟩)) (T b33) U U U U U U w18 R))))))))))))))
theorem qq20.run (h:qq20.s i0_0 i0_1 i0_2 i0_3 i0_4 i0_5 i0_6 i0_7 i0_8 I0_9 in0_9 ic0_9 I0_10 in0_10 ic0_10 w R):Calls Tryz.prog 83 #[G #[I B i0_0,I H i0_1,T i0_2,T i0_3,I L i0_4,I B i0_5,I B i0_6,I D i0_7,I D i0_8,S I0_9 in0_9 ic0_9,S I0_10 in0_10 ic0_10]] w R:=
 calls_segk (ords:=qq20.ords) (J:=qq20.joins) ents mixed Tryz.func83 rfl h (by kernel_rfl)
def qq73.ords:Nat→Od
 | _=>.nil
def qq73.joins (p:List Nat):Bool:=false
def qq73.l1 (n yg2:Nat) (Y6:Option Addr) (yn6 yc6:Nat) (y7:Int) (d0 d1 d3 d4 d5 d8 d9 dA dB dC dD dE dF dG dH dI dJ dK dL dM dN dO dP dQ dR dS dT dU dV dW dX dY dZ k0 k1 k2 k3 k4 k5 k6 k7 k8 k9 kA kB kC kD kE kF:V) (w:W) (R:E):Prop:=
 lseg Tryz.prog entE qq73.ords qq73.joins Tryz.f89 [1,1,1,0,1,0] [0,1,0,1,1,1] [] n [d0,d1,P (some ⟨yg2,0,N⟩),d3,d4,d5,S Y6 yn6 yc6,I L y7,d8,d9,dA,dB,dC,dD,dE,dF,dG,dH,dI,dJ,dK,dL,dM,dN,dO,dP,dQ,dR,dS,dT,dU,dV,dW,dX,dY,dZ,k0,k1,k2,k3,k4,k5,k6,k7,k8,k9,kA,kB,kC,kD,kE,kF] w R
abbrev qq73.L1 (n yg2:Nat) (Y6:Option Addr) (yn6 yc6:Nat) (y7:Int) (w:W) (R:E):Prop:=∀ d0 d1 d3 d4 d5 d8 d9 dA dB dC dD dE dF dG dH dI dJ dK dL dM dN dO dP dQ dR dS dT dU dV dW dX dY dZ k0 k1 k2 k3 k4 k5 k6 k7 k8 k9 kA kB kC kD kE kF,qq73.l1 n yg2 Y6 yn6 yc6 y7 d0 d1 d3 d4 d5 d8 d9 dA dB dC dD dE dF dG dH dI dJ dK dL dM dN dO dP dQ dR dS dT dU dV dW dX dY dZ k0 k1 k2 k3 k4 k5 k6 k7 k8 k9 kA kB kC kD kE kF w R
theorem qq73.l1_eq {n:Nat}:qq73.l1 (n+1) yg2 Y6 yn6 yc6 y7 d0 d1 d3 d4 d5 d8 d9 dA dB dC dD dE dF dG dH dI dJ dK dL dM dN dO dP dQ dR dS dT dU dV dW dX dY dZ k0 k1 k2 k3 k4 k5 k6 k7 k8 k9 kA kB kC kD kE kF w R =
(∃ (A1:Option Addr) (n1_ c1_:Nat),w.cell? ⟨yg2,3,N⟩=some (S A1 n1_ c1_)∧
((if decide (y7 < (n1_:Int))=true then
(∃ (A2:Option Addr) (n2_ c2_:Nat),w.cell? ⟨yg2,3,N⟩=some (S A2 n2_ c2_)∧
(∃ a3:Addr,A2=some a3∧(0≤y7∧y7 < (n2_:Int))∧
(∃ x4:Int,w.cell? (a3.add y7.toNat)=some (I B x4)∧
(Let (w.heap.size) fun g5:Nat=>
 Let (w.alloc (.cells #[I B x4] 5)) fun w6:W=>
 AppE w6 1 1 5 [I B 0] Y6 yn6 yc6 (some ⟨g5,0,N⟩) 1 (fun (A7:Option Addr) (c8:Nat) (w9:W)=>
 Let (L.wrap (y7+1)) fun x10:Int=>
 qq73.l1 n yg2 A7 (yn6+1) c8 x10 d0 d1 d3 d4 d5 d8 d9 dA dB dC dD dE dF dG dH dI dJ dK dL dM dN dO dP dQ dR dS dT dU dV dW dX dY dZ (I L y7) (P (some ⟨yg2,3,N⟩)) (S A1 n1_ c1_) (I L (n1_:Int)) (T (decide (y7 < (n1_:Int)))) (I L y7) (I L x10) (S Y6 yn6 yc6) (P (some ⟨yg2,3,N⟩)) (S A2 n2_ c2_) (I L y7) (P (some (a3.add y7.toNat))) (I B x4) (S (some ⟨g5,0,N⟩) 1 1) (S A7 (yn6+1) c8) kF w9 R)))))
else
(R (.returned (S Y6 yn6 yc6)) w)))):=by kernel_rfl
def qq73.s (i0_0 i0_1 i0_2:Int) (I0_3:Option Addr) (in0_3 ic0_3:Nat) (i1:Int) (w:W) (R:E):Prop:=
(Let (w.heap.size) fun g1:Nat=>
 Let (w.alloc (.cells #[I B i0_0,I B i0_1,I D i0_2,S I0_3 in0_3 ic0_3] 106)) fun w2:W=>
 ∃ x3:Int,w2.cell? ⟨g1,2,N⟩=some (I D x3)∧
(Let (L.wrap x3) fun x4:Int=>
 ∃ x5:Int,w2.cell? ⟨g1,0,N⟩=some (I B x5)∧
(∃ x6:Int,w2.cell? ⟨g1,1,N⟩=some (I B x6)∧
(Let (H.wrap (Int.tdiv i1 256)) fun x7:Int=>
 Let (B.wrap x7) fun x8:Int=>
 Let (Int.tmod i1 256) fun x9:Int=>
 Let (B.wrap x9) fun x10:Int=>
 Let (L.wrap (Int.tdiv x4 16777216)) fun x11:Int=>
 Let (B.wrap x11) fun x12:Int=>
 Let (L.wrap (Int.tdiv x4 65536)) fun x13:Int=>
 Let (Int.tmod x13 256) fun x14:Int=>
 Let (B.wrap x14) fun x15:Int=>
 Let (L.wrap (Int.tdiv x4 256)) fun x16:Int=>
 Let (Int.tmod x16 256) fun x17:Int=>
 Let (B.wrap x17) fun x18:Int=>
 Let (Int.tmod x4 256) fun x19:Int=>
 Let (B.wrap x19) fun x20:Int=>
 Let (w2.heap.size) fun g21:Nat=>
 Let (w2.alloc (.cells #[I B x5,I B x6,I B x8,I B x10,I B x12,I B x15,I B x18,I B x20] 5)) fun w22:W=>
 ∃ n23:Nat,qq73.l1 n23 g1 (some ⟨g21,0,N⟩) 8 8 0 (G #[I B i0_0,I B i0_1,I D i0_2,S I0_3 in0_3 ic0_3]) (I H i1) U (S N 0 0) (I L x4) (P (some ⟨g1,2,N⟩)) (I D x3) (I L x4) (P (some ⟨g1,0,N⟩)) (I B x5) (P (some ⟨g1,1,N⟩)) (I B x6) (I H i1) (I H x7) (I B x8) (I H i1) (I H x9) (I B x10) (I L x4) (I L x11) (I B x12) (I L x4) (I L x13) (I L x14) (I B x15) (I L x4) (I L x16) (I L x17) (I B x18) (I L x4) (I L x19) (I B x20) (S (some ⟨g21,0,N⟩) 8 8) U U U U U U U U U U U U U U U U w22 R))))
theorem qq73.run (h:qq73.s i0_0 i0_1 i0_2 I0_3 in0_3 ic0_3 i1 w R):Calls Tryz.prog 89 #[G #[I B i0_0,I B i0_1,I D i0_2,S I0_3 in0_3 ic0_3],I H i1] w R:=
 calls_segk (ords:=qq73.ords) (J:=qq73.joins) ents mixed Tryz.func89 rfl h (by kernel_rfl)
end Go.Proofs.YtphbdmafchjjeaaGreatDoorS
