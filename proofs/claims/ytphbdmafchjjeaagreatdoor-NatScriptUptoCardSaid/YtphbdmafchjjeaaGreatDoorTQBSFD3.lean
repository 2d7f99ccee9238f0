import Derived.Test.YtphbdmafchjjeaaGreatDoorTQBSPureM
namespace Go.Proofs.YtphbdmafchjjeaaGreatDoorS
open Go Go.Proofs
open Go renaming undef → U, World → W, Value → V
open Go.Value renaming int → I, slice → S, bool → T, pointer → P, agg → G
open Go.IntKind renaming u8 → B, u16 → H, u32 → D, u64 → Q, i64 → L
open Option renaming none → N
set_option autoImplicit true
set_option relaxedAutoImplicit true
set_option maxRecDepth 100000
set_option linter.unusedVariables false
def qq59.ords:Nat→Od
 | _=>.nil
def qq59.joins (p:List Nat):Bool:=p == [1,0,1,1,1,1,1] || p == [1,1,1,1,1,1]
def qq59.j1 (yg2 yg3 yg4 yg6 yg9:Nat) (y33:Bool) (d0 d1 d5 d7 d8 dA dB dC dD dE dF dG dH dI dJ dK dL dM dN dO dP dQ dR dS dT dU dV dW dY dZ k0 k1 k2 k3 k4 k5 k6 k7 k8 k9 kA kB kC kD kE kF kG kH kI kJ kK:V) (w:W) (R:E):Prop:=
 seg Tryz.prog entE qq59.ords qq59.joins Tryz.f27 [1,1,1,1,1,0,1] [1,0,1,1,1,1,1] [] [d0,d1,P (some ⟨yg2,0,N⟩),P (some ⟨yg3,0,N⟩),P (some ⟨yg4,0,N⟩),d5,P (some ⟨yg6,0,N⟩),d7,d8,P (some ⟨yg9,0,N⟩),dA,dB,dC,dD,dE,dF,dG,dH,dI,dJ,dK,dL,dM,dN,dO,dP,dQ,dR,dS,dT,dU,dV,dW,T y33,dY,dZ,k0,k1,k2,k3,k4,k5,k6,k7,k8,k9,kA,kB,kC,kD,kE,kF,kG,kH,kI,kJ,kK] w R
def qq59.j2 (yg2 yg3 yg4 yg9:Nat) (d0 d1 d5 d6 d7 d8 dA dB dC dD dE dF dG dH dI dJ dK dL dM dN dO dP dQ dR dS dT dU dV dW dX dY dZ k0 k1 k2 k3 k4 k5 k6 k7 k8 k9 kA kB kC kD kE kF kG kH kI kJ kK:V) (w:W) (R:E):Prop:=
 seg Tryz.prog entE qq59.ords qq59.joins Tryz.f27 [1,1,1,1,1,1] [1,1,1,1,1,1] [] [d0,d1,P (some ⟨yg2,0,N⟩),P (some ⟨yg3,0,N⟩),P (some ⟨yg4,0,N⟩),d5,d6,d7,d8,P (some ⟨yg9,0,N⟩),dA,dB,dC,dD,dE,dF,dG,dH,dI,dJ,dK,dL,dM,dN,dO,dP,dQ,dR,dS,dT,dU,dV,dW,dX,dY,dZ,k0,k1,k2,k3,k4,k5,k6,k7,k8,k9,kA,kB,kC,kD,kE,kF,kG,kH,kI,kJ,kK] w R
abbrev qq59.J1 (yg2 yg3 yg4 yg6 yg9:Nat) (y33:Bool) (w:W) (R:E):Prop:=∀ d0 d1 d5 d7 d8 dA dB dC dD dE dF dG dH dI dJ dK dL dM dN dO dP dQ dR dS dT dU dV dW dY dZ k0 k1 k2 k3 k4 k5 k6 k7 k8 k9 kA kB kC kD kE kF kG kH kI kJ kK,qq59.j1 yg2 yg3 yg4 yg6 yg9 y33 d0 d1 d5 d7 d8 dA dB dC dD dE dF dG dH dI dJ dK dL dM dN dO dP dQ dR dS dT dU dV dW dY dZ k0 k1 k2 k3 k4 k5 k6 k7 k8 k9 kA kB kC kD kE kF kG kH kI kJ kK w R
abbrev qq59.J2 (yg2 yg3 yg4 yg9:Nat) (w:W) (R:E):Prop:=∀ d0 d1 d5 d6 d7 d8 dA dB dC dD dE dF dG dH dI dJ dK dL dM dN dO dP dQ dR dS dT dU dV dW dX dY dZ k0 k1 k2 k3 k4 k5 k6 k7 k8 k9 kA kB kC kD kE kF kG kH kI kJ kK,qq59.j2 yg2 yg3 yg4 yg9 d0 d1 d5 d6 d7 d8 dA dB dC dD dE dF dG dH dI dJ dK dL dM dN dO dP dQ dR dS dT dU dV dW dX dY dZ k0 k1 k2 k3 k4 k5 k6 k7 k8 k9 kA kB kC kD kE kF kG kH kI kJ kK w R
theorem qq59.j1_eq:qq59.j1 yg2 yg3 yg4 yg6 yg9 y33 d0 d1 d5 d7 d8 dA dB dC dD dE dF dG dH dI dJ dK dL dM dN dO dP dQ dR dS dT dU dV dW dY dZ k0 k1 k2 k3 k4 k5 k6 k7 k8 k9 kA kB kC kD kE kF kG kH kI kJ kK w R =
((if y33=true then
(∃ x1 x2:Int,∃ b3 b4:Bool,∃ x5 x6 x7 x8 x9:Int,∃ (A10:Option Addr) (n10_ c10_:Nat),∃ (A11:Option Addr) (n11_ c11_:Nat),(11=11∧At w ⟨yg6,0,N⟩ [I B x1,I H x2,T b3,T b4,I L x5,I B x6,I B x7,I D x8,I D x9,S A10 n10_ c10_,S A11 n11_ c11_])∧
(May w ⟨yg4,0,N⟩ 11∧
(Let (putCells w ⟨yg4,0,N⟩ [I B x1,I H x2,T b3,T b4,I L x5,I B x6,I B x7,I D x8,I D x9,S A10 n10_ c10_,S A11 n11_ c11_] 0) fun w12:W=>
 ∃ x13 x14:Int,∃ b15 b16:Bool,∃ x17 x18 x19 x20 x21:Int,∃ (A22:Option Addr) (n22_ c22_:Nat),∃ (A23:Option Addr) (n23_ c23_:Nat),(11=11∧At w12 ⟨yg4,0,N⟩ [I B x13,I H x14,T b15,T b16,I L x17,I B x18,I B x19,I D x20,I D x21,S A22 n22_ c22_,S A23 n23_ c23_])∧
(R (.returned (.tuple #[G #[I B x13,I H x14,T b15,T b16,I L x17,I B x18,I B x19,I D x20,I D x21,S A22 n22_ c22_,S A23 n23_ c23_],I L 230])) w12))))
else
(Leaf (qq59.j2 yg2 yg3 yg4 yg9 d0 d1 d5 (P (some ⟨yg6,0,N⟩)) d7 d8 dA dB dC dD dE dF dG dH dI dJ dK dL dM dN dO dP dQ dR dS dT dU dV dW (T y33) dY dZ k0 k1 k2 k3 k4 k5 k6 k7 k8 k9 kA kB kC kD kE kF kG kH kI kJ kK w R)))):=by kernel_rfl
theorem qq59.j2_eq:qq59.j2 yg2 yg3 yg4 yg9 d0 d1 d5 d6 d7 d8 dA dB dC dD dE dF dG dH dI dJ dK dL dM dN dO dP dQ dR dS dT dU dV dW dX dY dZ k0 k1 k2 k3 k4 k5 k6 k7 k8 k9 kA kB kC kD kE kF kG kH kI kJ kK w R =
(∃ x1 x2:Int,∃ b3 b4:Bool,∃ x5 x6 x7 x8 x9:Int,∃ (A10:Option Addr) (n10_ c10_:Nat),∃ (A11:Option Addr) (n11_ c11_:Nat),(11=11∧At w ⟨yg2,0,N⟩ [I B x1,I H x2,T b3,T b4,I L x5,I B x6,I B x7,I D x8,I D x9,S A10 n10_ c10_,S A11 n11_ c11_])∧
(Let (w.heap.size) fun g12:Nat=>
 Let (w.alloc (.cells #[I B 0,I H 0,T false,T false,I L 0,I B 0,I B 0,I D 0,I D 0,S N 0 0,S N 0 0] 37)) fun w13:W=>
 May w13 ⟨g12,0,N⟩ 11∧
(Let (putCells w13 ⟨g12,0,N⟩ [I B x1,I H x2,T b3,T b4,I L x5,I B x6,I B x7,I D x8,I D x9,S A10 n10_ c10_,S A11 n11_ c11_] 0) fun w14:W=>
 ∃ (A15:Option Addr) (n15_ c15_:Nat),w14.cell? ⟨yg2,9,N⟩=some (S A15 n15_ c15_)∧
(Calls Tryz.prog 45 #[S A15 n15_ c15_] w14 (fun (e17:Ending) (w16:W)=>
 ∃ (A18:Option Addr) (n18_ c18_:Nat),e17=.returned (S A18 n18_ c18_)∧
(MayC w16 ⟨g12,9,N⟩∧
(Let (w16.setCell ⟨g12,9,N⟩ (S A18 n18_ c18_)) fun w19:W=>
 ∃ x20:Int,w19.cell? ⟨yg3,0,N⟩=some (I D x20)∧
(MayC w19 ⟨g12,7,N⟩∧
(Let (w19.setCell ⟨g12,7,N⟩ (I D x20)) fun w21:W=>
 ∃ x22:Int,w21.cell? ⟨yg3,1,N⟩=some (I D x22)∧
(MayC w21 ⟨g12,8,N⟩∧
(Let (w21.setCell ⟨g12,8,N⟩ (I D x22)) fun w23:W=>
 ∃ (A24:Option Addr) (n24_ c24_:Nat),w23.cell? ⟨yg2,10,N⟩=some (S A24 n24_ c24_)∧
(∃ x25 x26 x27 x28 x29:Int,(5=5∧At w23 ⟨yg9,0,N⟩ [I D x25,I D x26,I B x27,I H x28,I H x29])∧
(∃ x30 x31 x32 x33 x34:Int,(5=5∧At w23 ⟨yg3,0,N⟩ [I D x30,I D x31,I B x32,I H x33,I H x34])∧
(Calls Tryz.prog 46 #[S A24 n24_ c24_,G #[I D x25,I D x26,I B x27,I H x28,I H x29],G #[I D x30,I D x31,I B x32,I H x33,I H x34],T true] w23 (fun (e36:Ending) (w35:W)=>
 ∃ (A37:Option Addr) (n37_ c37_:Nat),e36=.returned (S A37 n37_ c37_)∧
(MayC w35 ⟨g12,10,N⟩∧
(Let (w35.setCell ⟨g12,10,N⟩ (S A37 n37_ c37_)) fun w38:W=>
 ∃ x39 x40:Int,∃ b41 b42:Bool,∃ x43 x44 x45 x46 x47:Int,∃ (A48:Option Addr) (n48_ c48_:Nat),∃ (A49:Option Addr) (n49_ c49_:Nat),(11=11∧At w38 ⟨g12,0,N⟩ [I B x39,I H x40,T b41,T b42,I L x43,I B x44,I B x45,I D x46,I D x47,S A48 n48_ c48_,S A49 n49_ c49_])∧
(May w38 ⟨yg4,0,N⟩ 11∧
(Let (putCells w38 ⟨yg4,0,N⟩ [I B x39,I H x40,T b41,T b42,I L x43,I B x44,I B x45,I D x46,I D x47,S A48 n48_ c48_,S A49 n49_ c49_] 0) fun w50:W=>
 ∃ x51 x52:Int,∃ b53 b54:Bool,∃ x55 x56 x57 x58 x59:Int,∃ (A60:Option Addr) (n60_ c60_:Nat),∃ (A61:Option Addr) (n61_ c61_:Nat),(11=11∧At w50 ⟨yg4,0,N⟩ [I B x51,I H x52,T b53,T b54,I L x55,I B x56,I B x57,I D x58,I D x59,S A60 n60_ c60_,S A61 n61_ c61_])∧
(R (.returned (.tuple #[G #[I B x51,I H x52,T b53,T b54,I L x55,I B x56,I B x57,I D x58,I D x59,S A60 n60_ c60_,S A61 n61_ c61_],I L 0])) w50)))))))))))))))))))):=by kernel_rfl
def qq59.s (i0_0 i0_1:Int) (i0_2 i0_3:Bool) (i0_4 i0_5 i0_6 i0_7 i0_8:Int) (I0_9:Option Addr) (in0_9 ic0_9:Nat) (I0_10:Option Addr) (in0_10 ic0_10:Nat) (i1_0 i1_1 i1_2 i1_3 i1_4:Int) (w:W) (R:E):Prop:=
(Let (w.heap.size) fun g1:Nat=>
 Let (w.alloc (.cells #[I B i0_0,I H i0_1,T i0_2,T i0_3,I L i0_4,I B i0_5,I B i0_6,I D i0_7,I D i0_8,S I0_9 in0_9 ic0_9,S I0_10 in0_10 ic0_10] 37)) fun w2:W=>
 Let (w2.heap.size) fun g3:Nat=>
 Let (w2.alloc (.cells #[I D i1_0,I D i1_1,I B i1_2,I H i1_3,I H i1_4] 39)) fun w4:W=>
 Let (w4.heap.size) fun g5:Nat=>
 Let (w4.alloc (.cells #[I B 0,I H 0,T false,T false,I L 0,I B 0,I B 0,I D 0,I D 0,S N 0 0,S N 0 0] 37)) fun w6:W=>
 Let (w6.heap.size) fun g7:Nat=>
 Let (w6.alloc (.cells #[I B 0,I H 0,T false,T false,I L 0,I B 0,I B 0,I D 0,I D 0,S N 0 0,S N 0 0] 37)) fun w8:W=>
 ∃ x9 x10:Int,∃ b11 b12:Bool,∃ x13 x14 x15 x16 x17:Int,∃ (A18:Option Addr) (n18_ c18_:Nat),∃ (A19:Option Addr) (n19_ c19_:Nat),(11=11∧At w8 ⟨g1,0,N⟩ [I B x9,I H x10,T b11,T b12,I L x13,I B x14,I B x15,I D x16,I D x17,S A18 n18_ c18_,S A19 n19_ c19_])∧
(Calls Tryz.prog 42 #[G #[I B x9,I H x10,T b11,T b12,I L x13,I B x14,I B x15,I D x16,I D x17,S A18 n18_ c18_,S A19 n19_ c19_]] w8 (fun (e21:Ending) (w20:W)=>
 ∃ (A22:Option Addr) (n22_ c22_:Nat),∃ x23:Int,e21=.returned (.tuple #[S A22 n22_ c22_,I L x23])∧
((if (x23 != 0)=true then
(∃ x24 x25:Int,∃ b26 b27:Bool,∃ x28 x29 x30 x31 x32:Int,∃ (A33:Option Addr) (n33_ c33_:Nat),∃ (A34:Option Addr) (n34_ c34_:Nat),(11=11∧At w20 ⟨g7,0,N⟩ [I B x24,I H x25,T b26,T b27,I L x28,I B x29,I B x30,I D x31,I D x32,S A33 n33_ c33_,S A34 n34_ c34_])∧
(May w20 ⟨g5,0,N⟩ 11∧
(Let (putCells w20 ⟨g5,0,N⟩ [I B x24,I H x25,T b26,T b27,I L x28,I B x29,I B x30,I D x31,I D x32,S A33 n33_ c33_,S A34 n34_ c34_] 0) fun w35:W=>
 ∃ x36 x37:Int,∃ b38 b39:Bool,∃ x40 x41 x42 x43 x44:Int,∃ (A45:Option Addr) (n45_ c45_:Nat),∃ (A46:Option Addr) (n46_ c46_:Nat),(11=11∧At w35 ⟨g5,0,N⟩ [I B x36,I H x37,T b38,T b39,I L x40,I B x41,I B x42,I D x43,I D x44,S A45 n45_ c45_,S A46 n46_ c46_])∧
(R (.returned (.tuple #[G #[I B x36,I H x37,T b38,T b39,I L x40,I B x41,I B x42,I D x43,I D x44,S A45 n45_ c45_,S A46 n46_ c46_],I L x23])) w35))))
else
(∃ x47 x48:Int,∃ b49 b50:Bool,∃ x51 x52 x53 x54 x55:Int,∃ (A56:Option Addr) (n56_ c56_:Nat),∃ (A57:Option Addr) (n57_ c57_:Nat),(11=11∧At w20 ⟨g1,0,N⟩ [I B x47,I H x48,T b49,T b50,I L x51,I B x52,I B x53,I D x54,I D x55,S A56 n56_ c56_,S A57 n57_ c57_])∧
(Calls Tryz.prog 43 #[G #[I B x47,I H x48,T b49,T b50,I L x51,I B x52,I B x53,I D x54,I D x55,S A56 n56_ c56_,S A57 n57_ c57_]] w20 (fun (e59:Ending) (w58:W)=>
 ∃ x60 x61 x62 x63 x64 x65:Int,e59=.returned (.tuple #[G #[I D x60,I D x61,I B x62,I H x63,I H x64],I L x65])∧
(Let (w58.heap.size) fun g66:Nat=>
 Let (w58.alloc (.cells #[I D 0,I D 0,I B 0,I H 0,I H 0] 39)) fun w67:W=>
 May w67 ⟨g66,0,N⟩ 5∧
(Let (putCells w67 ⟨g66,0,N⟩ [I D x60,I D x61,I B x62,I H x63,I H x64] 0) fun w68:W=>
(if (x65 != 0)=true then
(Leaf (qq59.j1 g1 g3 g5 g7 g66 true (G #[I B i0_0,I H i0_1,T i0_2,T i0_3,I L i0_4,I B i0_5,I B i0_6,I D i0_7,I D i0_8,S I0_9 in0_9 ic0_9,S I0_10 in0_10 ic0_10]) (G #[I D i1_0,I D i1_1,I B i1_2,I H i1_3,I H i1_4]) (I L 0) (S A22 n22_ c22_) (I L x23) (I L x65) U (.tuple #[S A22 n22_ c22_,I L x23]) (G #[I B x9,I H x10,T b11,T b12,I L x13,I B x14,I B x15,I D x16,I D x17,S A18 n18_ c18_,S A19 n19_ c19_]) (.tuple #[S A22 n22_ c22_,I L x23]) (S A22 n22_ c22_) (I L x23) (I L x23) (T (x23 != 0)) U U (.tuple #[G #[I D x60,I D x61,I B x62,I H x63,I H x64],I L x65]) (G #[I B x47,I H x48,T b49,T b50,I L x51,I B x52,I B x53,I D x54,I D x55,S A56 n56_ c56_,S A57 n57_ c57_]) (.tuple #[G #[I D x60,I D x61,I B x62,I H x63,I H x64],I L x65]) (G #[I D x60,I D x61,I B x62,I H x63,I H x64]) (I L x65) (I L x65) (T (x65 != 0)) (T true) U U U U U U U U U U U U U U U U U U U U U U U U U U U w68 R))
else
(∃ x69 x70 x71 x72 x73:Int,(5=5∧At w68 ⟨g66,0,N⟩ [I D x69,I D x70,I B x71,I H x72,I H x73])∧
(∃ x74 x75 x76 x77 x78:Int,(5=5∧At w68 ⟨g3,0,N⟩ [I D x74,I D x75,I B x76,I H x77,I H x78])∧
(Calls Tryz.prog 44 #[G #[I D x69,I D x70,I B x71,I H x72,I H x73],G #[I D x74,I D x75,I B x76,I H x77,I H x78]] w68 (fun (e80:Ending) (w79:W)=>
 ∃ b81:Bool,e80=.returned (T b81)∧
(Leaf (qq59.j1 g1 g3 g5 g7 g66 (!b81) (G #[I B i0_0,I H i0_1,T i0_2,T i0_3,I L i0_4,I B i0_5,I B i0_6,I D i0_7,I D i0_8,S I0_9 in0_9 ic0_9,S I0_10 in0_10 ic0_10]) (G #[I D i1_0,I D i1_1,I B i1_2,I H i1_3,I H i1_4]) (I L 0) (S A22 n22_ c22_) (I L x23) (I L x65) U (.tuple #[S A22 n22_ c22_,I L x23]) (G #[I B x9,I H x10,T b11,T b12,I L x13,I B x14,I B x15,I D x16,I D x17,S A18 n18_ c18_,S A19 n19_ c19_]) (.tuple #[S A22 n22_ c22_,I L x23]) (S A22 n22_ c22_) (I L x23) (I L x23) (T (x23 != 0)) U U (.tuple #[G #[I D x60,I D x61,I B x62,I H x63,I H x64],I L x65]) (G #[I B x47,I H x48,T b49,T b50,I L x51,I B x52,I B x53,I D x54,I D x55,S A56 n56_ c56_,S A57 n57_ c57_]) (.tuple #[G #[I D x60,I D x61,I B x62,I H x63,I H x64],I L x65]) (G #[I D x60,I D x61,I B x62,I H x63,I H x64]) (I L x65) (I L x65) (T (x65 != 0)) (T false) (G #[I D x69,I D x70,I B x71,I H x72,I H x73]) (G #[I D x74,I D x75,I B x76,I H x77,I H x78]) (T b81) (T (!b81)) U U U U U U U U U U U U U U U U U U U U U U U w79 R)))))))))))))))))
theorem qq59.run (h:qq59.s i0_0 i0_1 i0_2 i0_3 i0_4 i0_5 i0_6 i0_7 i0_8 I0_9 in0_9 ic0_9 I0_10 in0_10 ic0_10 i1_0 i1_1 i1_2 i1_3 i1_4 w R):Calls Tryz.prog 27 #[G #[I B i0_0,I H i0_1,T i0_2,T i0_3,I L i0_4,I B i0_5,I B i0_6,I D i0_7,I D i0_8,S I0_9 in0_9 ic0_9,S I0_10 in0_10 ic0_10],G #[I D i1_0,I D i1_1,I B i1_2,I H i1_3,I H i1_4]] w R:=
 calls_segk (ords:=qq59.ords) (J:=qq59.joins) ents mixed Tryz.func27 rfl h (by kernel_rfl)
def qq8.ords:Nat→Od
 | 11=>(.tk 0 (.tk 1 (.tk 2 (.tk 3 (.tk 4 (.tk 5 (.tk 6 (.tk 7 (.tk 8 (.on 9 (.tk 10 .nil)))))))))))
 | _=>.nil
def qq8.joins (p:List Nat):Bool:=p == [1,0,1,1,1,1,1,1] || p == [1,1,1,1,1,1,1]
def qq8.j1 (y1 y2:Int) (yg4 yg7 yg8 yg10 yg11:Nat) (Y12:Option Addr) (yn12 yc12 yg14 yg16:Nat) (y70:Bool) (d0 d3 d5 d6 d9 dD dF dH dI dJ dK dL dM dN dO dP dQ dR dS dT dU dV dW dX dY dZ k0 k1 k2 k3 k4 k5 k6 k7 k8 k9 kA kB kC kD kE kF kG kH kI kJ kK kL kM kN kO kP kQ kR kS kT kU kV kW kX kZ v0 v1 v2 v3 v4 v5 v6 v7 v8 v9 vA vB vC vD vE vF vG vH vI vJ vK vL vM vN vO vP vQ vR vS vT vU vV vW vX vY vZ o0 o1 o2 o3 o4 o5 o6 o7 o8 o9 oA oB oC oD oE oF oG oH oI oJ oK oL oM oN oO oP oQ oR oS oT oU oV oW oX oY oZ f0 f1 f2 f3 f4 f5 f6 f7 f8 f9 fA fB fC fD fE fF fG fH fI fJ fK fL:V) (w:W) (R:E):Prop:=
 seg Tryz.prog entE qq8.ords qq8.joins Tryz.f30 [1,1,1,1,1,1,0,1] [1,0,1,1,1,1,1,1] [] [d0,I D y1,I D y2,d3,P (some ⟨yg4,0,N⟩),d5,d6,P (some ⟨yg7,0,N⟩),P (some ⟨yg8,0,N⟩),d9,P (some ⟨yg10,0,N⟩),P (some ⟨yg11,0,N⟩),S Y12 yn12 yc12,dD,P (some ⟨yg14,0,N⟩),dF,P (some ⟨yg16,0,N⟩),dH,dI,dJ,dK,dL,dM,dN,dO,dP,dQ,dR,dS,dT,dU,dV,dW,dX,dY,dZ,k0,k1,k2,k3,k4,k5,k6,k7,k8,k9,kA,kB,kC,kD,kE,kF,kG,kH,kI,kJ,kK,kL,kM,kN,kO,kP,kQ,kR,kS,kT,kU,kV,kW,kX,T y70,kZ,v0,v1,v2,v3,v4,v5,v6,v7,v8,v9,vA,vB,vC,vD,vE,vF,vG,vH,vI,vJ,vK,vL,vM,vN,vO,vP,vQ,vR,vS,vT,vU,vV,vW,vX,vY,vZ,o0,o1,o2,o3,o4,o5,o6,o7,o8,o9,oA,oB,oC,oD,oE,oF,oG,oH,oI,oJ,oK,oL,oM,oN,oO,oP,oQ,oR,oS,oT,oU,oV,oW,oX,oY,oZ,f0,f1,f2,f3,f4,f5,f6,f7,f8,f9,fA,fB,fC,fD,fE,fF,fG,fH,fI,fJ,fK,fL] w R
def qq8.j2 (y1 y2:Int) (yg4 yg7 yg8 yg10 yg11:Nat) (Y12:Option Addr) (yn12 yc12 yg14 yg16:Nat) (d0 d3 d5 d6 d9 dD dF dH dI dJ dK dL dM dN dO dP dQ dR dS dT dU dV dW dX dY dZ k0 k1 k2 k3 k4 k5 k6 k7 k8 k9 kA kB kC kD kE kF kG kH kI kJ kK kL kM kN kO kP kQ kR kS kT kU kV kW kX kY kZ v0 v1 v2 v3 v4 v5 v6 v7 v8 v9 vA vB vC vD vE vF vG vH vI vJ vK vL vM vN vO vP vQ vR vS vT vU vV vW vX vY vZ o0 o1 o2 o3 o4 o5 o6 o7 o8 o9 oA oB oC oD oE oF oG oH oI oJ oK oL oM oN oO oP oQ oR oS oT oU oV oW oX oY oZ f0 f1 f2 f3 f4 f5 f6 f7 f8 f9 fA fB fC fD fE fF fG fH fI fJ fK fL:V) (w:W) (R:E):Prop:=
 seg Tryz.prog entE qq8.ords qq8.joins Tryz.f30 [1,1,1,1,1,1,1] [1,1,1,1,1,1,1] [] [d0,I D y1,I D y2,d3,P (some ⟨yg4,0,N⟩),d5,d6,P (some ⟨yg7,0,N⟩),P (some ⟨yg8,0,N⟩),d9,P (some ⟨yg10,0,N⟩),P (some ⟨yg11,0,N⟩),S Y12 yn12 yc12,dD,P (some ⟨yg14,0,N⟩),dF,P (some ⟨yg16,0,N⟩),dH,dI,dJ,dK,dL,dM,dN,dO,dP,dQ,dR,dS,dT,dU,dV,dW,dX,dY,dZ,k0,k1,k2,k3,k4,k5,k6,k7,k8,k9,kA,kB,kC,kD,kE,kF,kG,kH,kI,kJ,kK,kL,kM,kN,kO,kP,kQ,kR,kS,kT,kU,kV,kW,kX,kY,kZ,v0,v1,v2,v3,v4,v5,v6,v7,v8,v9,vA,vB,vC,vD,vE,vF,vG,vH,vI,vJ,vK,vL,vM,vN,vO,vP,vQ,vR,vS,vT,vU,vV,vW,vX,vY,vZ,o0,o1,o2,o3,o4,o5,o6,o7,o8,o9,oA,oB,oC,oD,oE,oF,oG,oH,oI,oJ,oK,oL,oM,oN,oO,oP,oQ,oR,oS,oT,oU,oV,oW,oX,oY,oZ,f0,f1,f2,f3,f4,f5,f6,f7,f8,f9,fA,fB,fC,fD,fE,fF,fG,fH,fI,fJ,fK,fL] w R
def qq8.l1 (n:Nat) (y1 y2:Int) (yg4 yg8 yg10 yg14:Nat) (y18:Int) (Y19:Option Addr) (yn19 yc19:Nat) (Y20:Option Addr) (yn20 yc20:Nat) (y22:Int) (d0 d3 d5 d6 d7 d9 dB dC dD dF dG dH dL dN dO dP dQ dR dS dT dU dV dW dX dY dZ k0 k1 k2 k3 k4 k5 k6 k7 k8 k9 kA kB kC kD kE kF kG kH kI kJ kK kL kM kN kO kP kQ kR kS kT kU kV kW kX kY kZ v0 v1 v2 v3 v4 v5 v6 v7 v8 v9 vA vB vC vD vE vF vG vH vI vJ vK vL vM vN vO vP vQ vR vS vT vU vV vW vX vY vZ o0 o1 o2 o3 o4 o5 o6 o7 o8 o9 oA oB oC oD oE oF oG oH oI oJ oK oL oM oN oO oP oQ oR oS oT oU oV oW oX oY oZ f0 f1 f2 f3 f4 f5 f6 f7 f8 f9 fA fB fC fD fE fF fG fH fI fJ fK fL:V) (w:W) (R:E):Prop:=
 lseg Tryz.prog entE qq8.ords qq8.joins Tryz.f30 [1,1,1,1,1,1,1,1,1,1,1,1,1,1,1,1,1,0,1,0] [0,1,0,1,1,1,1,1,1,1,1,1,1,1,1,1,1,1,1,1] [] n [d0,I D y1,I D y2,d3,P (some ⟨yg4,0,N⟩),d5,d6,d7,P (some ⟨yg8,0,N⟩),d9,P (some ⟨yg10,0,N⟩),dB,dC,dD,P (some ⟨yg14,0,N⟩),dF,dG,dH,I L y18,S Y19 yn19 yc19,S Y20 yn20 yc20,dL,I L y22,dN,dO,dP,dQ,dR,dS,dT,dU,dV,dW,dX,dY,dZ,k0,k1,k2,k3,k4,k5,k6,k7,k8,k9,kA,kB,kC,kD,kE,kF,kG,kH,kI,kJ,kK,kL,kM,kN,kO,kP,kQ,kR,kS,kT,kU,kV,kW,kX,kY,kZ,v0,v1,v2,v3,v4,v5,v6,v7,v8,v9,vA,vB,vC,vD,vE,vF,vG,vH,vI,vJ,vK,vL,vM,vN,vO,vP,vQ,vR,vS,vT,vU,vV,vW,vX,vY,vZ,o0,o1,o2,o3,o4,o5,o6,o7,o8,o9,oA,oB,oC,oD,oE,oF,oG,oH,oI,oJ,oK,oL,oM,oN,oO,oP,oQ,oR,oS,oT,oU,oV,oW,oX,oY,oZ,f0,f1,f2,f3,f4,f5,f6,f7,f8,f9,fA,fB,fC,fD,fE,fF,fG,fH,fI,fJ,fK,fL] w R
abbrev qq8.J1 (y1 y2:Int) (yg4 yg7 yg8 yg10 yg11:Nat) (Y12:Option Addr) (yn12 yc12 yg14 yg16:Nat) (y70:Bool) (w:W) (R:E):Prop:=∀ d0 d3 d5 d6 d9 dD dF dH dI dJ dK dL dM dN dO dP dQ dR dS dT dU dV dW dX dY dZ k0 k1 k2 k3 k4 k5 k6 k7 k8 k9 kA kB kC kD kE kF kG kH kI kJ kK kL kM kN kO kP kQ kR kS kT kU kV kW kX kZ v0 v1 v2 v3 v4 v5 v6 v7 v8 v9 vA vB vC vD vE vF vG vH vI vJ vK vL vM vN vO vP vQ vR vS vT vU vV vW vX vY vZ o0 o1 o2 o3 o4 o5 o6 o7 o8 o9 oA oB oC oD oE oF oG oH oI oJ oK oL oM oN oO oP oQ oR oS oT oU oV oW oX oY oZ f0 f1 f2 f3 f4 f5 f6 f7 f8 f9 fA fB fC fD fE fF fG fH fI fJ fK fL,qq8.j1 y1 y2 yg4 yg7 yg8 yg10 yg11 Y12 yn12 yc12 yg14 yg16 y70 d0 d3 d5 d6 d9 dD dF dH dI dJ dK dL dM dN dO dP dQ dR dS dT dU dV dW dX dY dZ k0 k1 k2 k3 k4 k5 k6 k7 k8 k9 kA kB kC kD kE kF kG kH kI kJ kK kL kM kN kO kP kQ kR kS kT kU kV kW kX kZ v0 v1 v2 v3 v4 v5 v6 v7 v8 v9 vA vB vC vD vE vF vG vH vI vJ vK vL vM vN vO vP vQ vR vS vT vU vV vW vX vY vZ o0 o1 o2 o3 o4 o5 o6 o7 o8 o9 oA oB oC oD oE oF oG oH oI oJ oK oL oM oN oO oP oQ oR oS oT oU oV oW oX oY oZ f0 f1 f2 f3 f4 f5 f6 f7 f8 f9 fA fB fC fD fE fF fG fH fI fJ fK fL w R
abbrev qq8.J2 (y1 y2:Int) (yg4 yg7 yg8 yg10 yg11:Nat) (Y12:Option Addr) (yn12 yc12 yg14 yg16:Nat) (w:W) (R:E):Prop:=∀ d0 d3 d5 d6 d9 dD dF dH dI dJ dK dL dM dN dO dP dQ dR dS dT dU dV dW dX dY dZ k0 k1 k2 k3 k4 k5 k6 k7 k8 k9 kA kB kC kD kE kF kG kH kI kJ kK kL kM kN kO kP kQ kR kS kT kU kV kW kX kY kZ v0 v1 v2 v3 v4 v5 v6 v7 v8 v9 vA vB vC vD vE vF vG vH vI vJ vK vL vM vN vO vP vQ vR vS vT vU vV vW vX vY vZ o0 o1 o2 o3 o4 o5 o6 o7 o8 o9 oA oB oC oD oE oF oG oH oI oJ oK oL oM oN oO oP oQ oR oS oT oU oV oW oX oY oZ f0 f1 f2 f3 f4 f5 f6 f7 f8 f9 fA fB fC fD fE fF fG fH fI fJ fK fL,qq8.j2 y1 y2 yg4 yg7 yg8 yg10 yg11 Y12 yn12 yc12 yg14 yg16 d0 d3 d5 d6 d9 dD dF dH dI dJ dK dL dM dN dO dP dQ dR dS dT dU dV dW dX dY dZ k0 k1 k2 k3 k4 k5 k6 k7 k8 k9 kA kB kC kD kE kF kG kH kI kJ kK kL kM kN kO kP kQ kR kS kT kU kV kW kX kY kZ v0 v1 v2 v3 v4 v5 v6 v7 v8 v9 vA vB vC vD vE vF vG vH vI vJ vK vL vM vN vO vP vQ vR vS vT vU vV vW vX vY vZ o0 o1 o2 o3 o4 o5 o6 o7 o8 o9 oA oB oC oD oE oF oG oH oI oJ oK oL oM oN oO oP oQ oR oS oT oU oV oW oX oY oZ f0 f1 f2 f3 f4 f5 f6 f7 f8 f9 fA fB fC fD fE fF fG fH fI fJ fK fL w R
abbrev qq8.L1 (n:Nat) (y1 y2:Int) (yg4 yg8 yg10 yg14:Nat) (y18:Int) (Y19:Option Addr) (yn19 yc19:Nat) (Y20:Option Addr) (yn20 yc20:Nat) (y22:Int) (w:W) (R:E):Prop:=∀ d0 d3 d5 d6 d7 d9 dB dC dD dF dG dH dL dN dO dP dQ dR dS dT dU dV dW dX dY dZ k0 k1 k2 k3 k4 k5 k6 k7 k8 k9 kA kB kC kD kE kF kG kH kI kJ kK kL kM kN kO kP kQ kR kS kT kU kV kW kX kY kZ v0 v1 v2 v3 v4 v5 v6 v7 v8 v9 vA vB vC vD vE vF vG vH vI vJ vK vL vM vN vO vP vQ vR vS vT vU vV vW vX vY vZ o0 o1 o2 o3 o4 o5 o6 o7 o8 o9 oA oB oC oD oE oF oG oH oI oJ oK oL oM oN oO oP oQ oR oS oT oU oV oW oX oY oZ f0 f1 f2 f3 f4 f5 f6 f7 f8 f9 fA fB fC fD fE fF fG fH fI fJ fK fL,qq8.l1 n y1 y2 yg4 yg8 yg10 yg14 y18 Y19 yn19 yc19 Y20 yn20 yc20 y22 d0 d3 d5 d6 d7 d9 dB dC dD dF dG dH dL dN dO dP dQ dR dS dT dU dV dW dX dY dZ k0 k1 k2 k3 k4 k5 k6 k7 k8 k9 kA kB kC kD kE kF kG kH kI kJ kK kL kM kN kO kP kQ kR kS kT kU kV kW kX kY kZ v0 v1 v2 v3 v4 v5 v6 v7 v8 v9 vA vB vC vD vE vF vG vH vI vJ vK vL vM vN vO vP vQ vR vS vT vU vV vW vX vY vZ o0 o1 o2 o3 o4 o5 o6 o7 o8 o9 oA oB oC oD oE oF oG oH oI oJ oK oL oM oN oO oP oQ oR oS oT oU oV oW oX oY oZ f0 f1 f2 f3 f4 f5 f6 f7 f8 f9 fA fB fC fD fE fF fG fH fI fJ fK fL w R
theorem qq8.j1_eq:qq8.j1 y1 y2 yg4 yg7 yg8 yg10 yg11 Y12 yn12 yc12 yg14 yg16 y70 d0 d3 d5 d6 d9 dD dF dH dI dJ dK dL dM dN dO dP dQ dR dS dT dU dV dW dX dY dZ k0 k1 k2 k3 k4 k5 k6 k7 k8 k9 kA kB kC kD kE kF kG kH kI kJ kK kL kM kN kO kP kQ kR kS kT kU kV kW kX kZ v0 v1 v2 v3 v4 v5 v6 v7 v8 v9 vA vB vC vD vE vF vG vH vI vJ vK vL vM vN vO vP vQ vR vS vT vU vV vW vX vY vZ o0 o1 o2 o3 o4 o5 o6 o7 o8 o9 oA oB oC oD oE oF oG oH oI oJ oK oL oM oN oO oP oQ oR oS oT oU oV oW oX oY oZ f0 f1 f2 f3 f4 f5 f6 f7 f8 f9 fA fB fC fD fE fF fG fH fI fJ fK fL w R =
((if y70=true then
(∃ x1 x2:Int,∃ b3 b4:Bool,∃ x5 x6 x7 x8 x9:Int,∃ (A10:Option Addr) (n10_ c10_:Nat),∃ (A11:Option Addr) (n11_ c11_:Nat),(11=11∧At w ⟨yg10,0,N⟩ [I B x1,I H x2,T b3,T b4,I L x5,I B x6,I B x7,I D x8,I D x9,S A10 n10_ c10_,S A11 n11_ c11_])∧
(May w ⟨yg8,0,N⟩ 11∧
(Let (putCells w ⟨yg8,0,N⟩ [I B x1,I H x2,T b3,T b4,I L x5,I B x6,I B x7,I D x8,I D x9,S A10 n10_ c10_,S A11 n11_ c11_] 0) fun w12:W=>
 ∃ x13 x14:Int,∃ b15 b16:Bool,∃ x17 x18 x19 x20 x21:Int,∃ (A22:Option Addr) (n22_ c22_:Nat),∃ (A23:Option Addr) (n23_ c23_:Nat),(11=11∧At w12 ⟨yg8,0,N⟩ [I B x13,I H x14,T b15,T b16,I L x17,I B x18,I B x19,I D x20,I D x21,S A22 n22_ c22_,S A23 n23_ c23_])∧
(R (.returned (.tuple #[G #[I B x13,I H x14,T b15,T b16,I L x17,I B x18,I B x19,I D x20,I D x21,S A22 n22_ c22_,S A23 n23_ c23_],I L 230])) w12))))
else
(Leaf (qq8.j2 y1 y2 yg4 yg7 yg8 yg10 yg11 Y12 yn12 yc12 yg14 yg16 d0 d3 d5 d6 d9 dD dF dH dI dJ dK dL dM dN dO dP dQ dR dS dT dU dV dW dX dY dZ k0 k1 k2 k3 k4 k5 k6 k7 k8 k9 kA kB kC kD kE kF kG kH kI kJ kK kL kM kN kO kP kQ kR kS kT kU kV kW kX (T y70) kZ v0 v1 v2 v3 v4 v5 v6 v7 v8 v9 vA vB vC vD vE vF vG vH vI vJ vK vL vM vN vO vP vQ vR vS vT vU vV vW vX vY vZ o0 o1 o2 o3 o4 o5 o6 o7 o8 o9 oA oB oC oD oE oF oG oH oI oJ oK oL oM oN oO oP oQ oR oS oT oU oV oW oX oY oZ f0 f1 f2 f3 f4 f5 f6 f7 f8 f9 fA fB fC fD fE fF fG fH fI fJ fK fL w R)))):=by kernel_rfl
theorem qq8.j2_eq:qq8.j2 y1 y2 yg4 yg7 yg8 yg10 yg11 Y12 yn12 yc12 yg14 yg16 d0 d3 d5 d6 d9 dD dF dH dI dJ dK dL dM dN dO dP dQ dR dS dT dU dV dW dX dY dZ k0 k1 k2 k3 k4 k5 k6 k7 k8 k9 kA kB kC kD kE kF kG kH kI kJ kK kL kM kN kO kP kQ kR kS kT kU kV kW kX kY kZ v0 v1 v2 v3 v4 v5 v6 v7 v8 v9 vA vB vC vD vE vF vG vH vI vJ vK vL vM vN vO vP vQ vR vS vT vU vV vW vX vY vZ o0 o1 o2 o3 o4 o5 o6 o7 o8 o9 oA oB oC oD oE oF oG oH oI oJ oK oL oM oN oO oP oQ oR oS oT oU oV oW oX oY oZ f0 f1 f2 f3 f4 f5 f6 f7 f8 f9 fA fB fC fD fE fF fG fH fI fJ fK fL w R =
(∃ (A1:Option Addr) (n1_ c1_:Nat),w.cell? ⟨yg11,9,N⟩=some (S A1 n1_ c1_)∧
(Let (L.wrap (20+(n1_:Int))) fun x2:Int=>
 ∃ (A3:Option Addr) (n3_ c3_:Nat),w.cell? ⟨yg14,3,N⟩=some (S A3 n3_ c3_)∧
(Calls Tryz.prog 45 #[S A3 n3_ c3_] w (fun (e5:Ending) (w4:W)=>
 ∃ (A6:Option Addr) (n6_ c6_:Nat),e5=.returned (S A6 n6_ c6_)∧
(∃ S7:W→Prop,S7 w4.drew∧
(Let (w4.drew) fun w8:W=>
 Let (L.wrap (x2+(yn12:Int))) fun x9:Int=>
(0≤x9∧x9≤(c6_:Int))∧
(0≤x2∧x2≤(x9.toNat:Int))∧
(∃ x10 x11 x12 x13 x14:Int,(5=5∧(∀ w',S7 w'→At w' ⟨yg16,0,N⟩ [I D x10,I D x11,I B x12,I H x13,I H x14]))∧
(∃ x15 x16 x17 x18 x19:Int,(5=5∧(∀ w',S7 w'→At w' ⟨yg7,0,N⟩ [I D x15,I D x16,I B x17,I H x18,I H x19]))∧
(Calls Tryz.prog 46 #[S (cutA A6 x2.toNat c6_ 1) (x9.toNat-x2.toNat) (c6_-x2.toNat),G #[I D x10,I D x11,I B x12,I H x13,I H x14],G #[I D x15,I D x16,I B x17,I H x18,I H x19],T false] w8 (fun (e21:Ending) (w20:W)=>
 ∃ (A22:Option Addr) (n22_ c22_:Nat),e21=.returned (S A22 n22_ c22_)∧
(S7 w20∧
(∃ x23:Int,w20.cell? ⟨yg7,0,N⟩=some (I D x23)∧
(Let (L.wrap x23) fun x24:Int=>
 Let (L.wrap (Int.tdiv x24 65536)) fun x25:Int=>
 Calls Tryz.prog 52 #[S A6 n6_ c6_,I L 12,I L x25] w20 (fun (e27:Ending) (w26:W)=>
 e27=.returned (.tuple #[])∧
(∃ x28:Int,w26.cell? ⟨yg7,0,N⟩=some (I D x28)∧
(Let (L.wrap x28) fun x29:Int=>
 Let (Int.tmod x29 65536) fun x30:Int=>
 Calls Tryz.prog 52 #[S A6 n6_ c6_,I L 14,I L x30] w26 (fun (e32:Ending) (w31:W)=>
 e32=.returned (.tuple #[])∧
(∃ x33:Int,w31.cell? ⟨yg7,1,N⟩=some (I D x33)∧
(Let (L.wrap x33) fun x34:Int=>
 Let (L.wrap (Int.tdiv x34 65536)) fun x35:Int=>
 Calls Tryz.prog 52 #[S A6 n6_ c6_,I L 16,I L x35] w31 (fun (e37:Ending) (w36:W)=>
 e37=.returned (.tuple #[])∧
(∃ x38:Int,w36.cell? ⟨yg7,1,N⟩=some (I D x38)∧
(Let (L.wrap x38) fun x39:Int=>
 Let (Int.tmod x39 65536) fun x40:Int=>
 Calls Tryz.prog 52 #[S A6 n6_ c6_,I L 18,I L x40] w36 (fun (e42:Ending) (w41:W)=>
 e42=.returned (.tuple #[])∧
(Calls Tryz.prog 52 #[S A6 n6_ c6_,I L 10,I L 0] w41 (fun (e44:Ending) (w43:W)=>
 e44=.returned (.tuple #[])∧
((0≤x2∧x2≤(c6_:Int))∧
(Let (w43.heap.size) fun g45:Nat=>
 Let (w43.alloc (.cells #[S A6 x2.toNat c6_] 33)) fun w46:W=>
 Calls Tryz.prog 53 #[S (some ⟨g45,0,N⟩) 1 1] w46 (fun (e48:Ending) (w47:W)=>
 ∃ x49:Int,e48=.returned (I H x49)∧
(Let (L.wrap x49) fun x50:Int=>
 Calls Tryz.prog 52 #[S A6 n6_ c6_,I L 10,I L x50] w47 (fun (e52:Ending) (w51:W)=>
 e52=.returned (.tuple #[])∧
(∃ n53:Nat,qq8.l1 n53 y1 y2 yg4 yg8 yg10 yg14 x2 A6 n6_ c6_ A22 n22_ c22_ 0 d0 d3 d5 d6 (P (some ⟨yg7,0,N⟩)) d9 (P (some ⟨yg11,0,N⟩)) (S Y12 yn12 yc12) dD dF (P (some ⟨yg16,0,N⟩)) dH (I H x49) dN dO dP dQ dR dS dT dU dV dW dX dY dZ k0 k1 k2 k3 k4 k5 k6 k7 k8 k9 kA kB kC kD kE kF kG kH kI kJ kK kL kM kN kO kP kQ kR kS kT kU kV kW kX kY kZ (P (some ⟨yg11,9,N⟩)) (S A1 n1_ c1_) (I L (n1_:Int)) (I L x2) (P (some ⟨yg14,3,N⟩)) (S A3 n3_ c3_) (S A6 n6_ c6_) (S A6 n6_ c6_) (I L x2) (I L x2) (S Y12 yn12 yc12) (I L (yn12:Int)) (I L x9) (S (cutA A6 x2.toNat c6_ 1) (x9.toNat-x2.toNat) (c6_-x2.toNat)) (G #[I D x10,I D x11,I B x12,I H x13,I H x14]) (G #[I D x15,I D x16,I B x17,I H x18,I H x19]) (S A22 n22_ c22_) (S A6 n6_ c6_) (P (some ⟨yg7,0,N⟩)) (I D x23) (I L x24) (I L x25) (.tuple #[]) (S A6 n6_ c6_) (P (some ⟨yg7,0,N⟩)) (I D x28) (I L x29) (I L x30) (.tuple #[]) (S A6 n6_ c6_) (P (some ⟨yg7,1,N⟩)) (I D x33) (I L x34) (I L x35) (.tuple #[]) (S A6 n6_ c6_) (P (some ⟨yg7,1,N⟩)) (I D x38) (I L x39) (I L x40) (.tuple #[]) (S A6 n6_ c6_) (.tuple #[]) (S A6 n6_ c6_) (I L x2) (S A6 x2.toNat c6_) (S (some ⟨g45,0,N⟩) 1 1) (I H x49) (S A6 n6_ c6_) (I H x49) (I L x50) (.tuple #[]) oG oH oI oJ oK oL oM oN oO oP oQ oR oS oT oU oV oW oX oY oZ f0 f1 f2 f3 f4 f5 f6 f7 f8 f9 fA fB fC fD fE fF fG fH fI fJ fK fL w51 R))))))))))))))))))))))))))))))):=by kernel_rfl
theorem qq8.l1_eq {n:Nat}:qq8.l1 (n+1) y1 y2 yg4 yg8 yg10 yg14 y18 Y19 yn19 yc19 Y20 yn20 yc20 y22 d0 d3 d5 d6 d7 d9 dB dC dD dF dG dH dL dN dO dP dQ dR dS dT dU dV dW dX dY dZ k0 k1 k2 k3 k4 k5 k6 k7 k8 k9 kA kB kC kD kE kF kG kH kI kJ kK kL kM kN kO kP kQ kR kS kT kU kV kW kX kY kZ v0 v1 v2 v3 v4 v5 v6 v7 v8 v9 vA vB vC vD vE vF vG vH vI vJ vK vL vM vN vO vP vQ vR vS vT vU vV vW vX vY vZ o0 o1 o2 o3 o4 o5 o6 o7 o8 o9 oA oB oC oD oE oF oG oH oI oJ oK oL oM oN oO oP oQ oR oS oT oU oV oW oX oY oZ f0 f1 f2 f3 f4 f5 f6 f7 f8 f9 fA fB fC fD fE fF fG fH fI fJ fK fL w R =
((if decide (y22 < (yn20:Int))=true then
(Let (L.wrap (y18+y22)) fun x1:Int=>
 ∃ a2:Addr,Y20=some a2∧(0≤y22∧y22 < (yn20:Int))∧
(∃ x3:Int,w.cell? (a2.add y22.toNat)=some (I B x3)∧
(∃ a4:Addr,Y19=some a4∧(0≤x1∧x1 < (yn19:Int))∧
(MayC w (a4.add x1.toNat)∧
(Let (w.setCell (a4.add x1.toNat) (I B x3)) fun w5:W=>
 Let (L.wrap (y22+1)) fun x6:Int=>
 qq8.l1 n y1 y2 yg4 yg8 yg10 yg14 y18 Y19 yn19 yc19 Y20 yn20 yc20 x6 d0 d3 d5 d6 d7 d9 dB dC dD dF dG dH dL dN dO dP dQ dR dS dT dU dV dW dX dY dZ k0 k1 k2 k3 k4 k5 k6 k7 k8 k9 kA kB kC kD kE kF kG kH kI kJ kK kL kM kN kO kP kQ kR kS kT kU kV kW kX kY kZ v0 v1 v2 v3 v4 v5 v6 v7 v8 v9 vA vB vC vD vE vF vG vH vI vJ vK vL vM vN vO vP vQ vR vS vT vU vV vW vX vY vZ o0 o1 o2 o3 o4 o5 o6 o7 o8 o9 oA oB oC oD oE oF (I L y22) (S Y20 yn20 yc20) (I L (yn20:Int)) (T (decide (y22 < (yn20:Int)))) (I L y22) (I L x6) (S Y19 yn19 yc19) (I L y18) (I L y22) (I L x1) (S Y20 yn20 yc20) (I L y22) (P (some (a2.add y22.toNat))) (I B x3) (P (some (a4.add x1.toNat))) oV oW oX oY oZ f0 f1 f2 f3 f4 f5 f6 f7 f8 f9 fA fB fC fD fE fF fG fH fI fJ fK fL w5 R)))))
else
(MayC w ⟨yg14,3,N⟩∧
(Let (w.setCell ⟨yg14,3,N⟩ (S Y19 yn19 yc19)) fun w7:W=>
 ∃ x8 x9 x10:Int,∃ (A11:Option Addr) (n11_ c11_:Nat),(4=4∧At w7 ⟨yg14,0,N⟩ [I B x8,I B x9,I D x10,S A11 n11_ c11_])∧
(Calls Tryz.prog 54 #[G #[I B x8,I B x9,I D x10,S A11 n11_ c11_]] w7 (fun (e13:Ending) (w12:W)=>
 ∃ (A14:Option Addr) (n14_ c14_:Nat),∃ x15:Int,e13=.returned (.tuple #[S A14 n14_ c14_,I L x15])∧
((if (x15 != 0)=true then
(∃ x16 x17:Int,∃ b18 b19:Bool,∃ x20 x21 x22 x23 x24:Int,∃ (A25:Option Addr) (n25_ c25_:Nat),∃ (A26:Option Addr) (n26_ c26_:Nat),(11=11∧At w12 ⟨yg10,0,N⟩ [I B x16,I H x17,T b18,T b19,I L x20,I B x21,I B x22,I D x23,I D x24,S A25 n25_ c25_,S A26 n26_ c26_])∧
(May w12 ⟨yg8,0,N⟩ 11∧
(Let (putCells w12 ⟨yg8,0,N⟩ [I B x16,I H x17,T b18,T b19,I L x20,I B x21,I B x22,I D x23,I D x24,S A25 n25_ c25_,S A26 n26_ c26_] 0) fun w27:W=>
 ∃ x28 x29:Int,∃ b30 b31:Bool,∃ x32 x33 x34 x35 x36:Int,∃ (A37:Option Addr) (n37_ c37_:Nat),∃ (A38:Option Addr) (n38_ c38_:Nat),(11=11∧At w27 ⟨yg8,0,N⟩ [I B x28,I H x29,T b30,T b31,I L x32,I B x33,I B x34,I D x35,I D x36,S A37 n37_ c37_,S A38 n38_ c38_])∧
(R (.returned (.tuple #[G #[I B x28,I H x29,T b30,T b31,I L x32,I B x33,I B x34,I D x35,I D x36,S A37 n37_ c37_,S A38 n38_ c38_],I L x15])) w27))))
else
(∃ x39 x40:Int,∃ b41 b42:Bool,∃ x43 x44 x45 x46 x47:Int,∃ (A48:Option Addr) (n48_ c48_:Nat),∃ (A49:Option Addr) (n49_ c49_:Nat),(11=11∧At w12 ⟨yg4,0,N⟩ [I B x39,I H x40,T b41,T b42,I L x43,I B x44,I B x45,I D x46,I D x47,S A48 n48_ c48_,S A49 n49_ c49_])∧
(Let (w12.heap.size) fun g50:Nat=>
 Let (w12.alloc (.cells #[I B 0,I H 0,T false,T false,I L 0,I B 0,I B 0,I D 0,I D 0,S N 0 0,S N 0 0] 37)) fun w51:W=>
 May w51 ⟨g50,0,N⟩ 11∧
(Let (putCells w51 ⟨g50,0,N⟩ [I B x39,I H x40,T b41,T b42,I L x43,I B x44,I B x45,I D x46,I D x47,S A48 n48_ c48_,S A49 n49_ c49_] 0) fun w52:W=>
 ∃ (A53:Option Addr) (n53_ c53_:Nat),w52.cell? ⟨yg4,9,N⟩=some (S A53 n53_ c53_)∧
(Calls Tryz.prog 45 #[S A53 n53_ c53_] w52 (fun (e55:Ending) (w54:W)=>
 ∃ (A56:Option Addr) (n56_ c56_:Nat),e55=.returned (S A56 n56_ c56_)∧
(MayC w54 ⟨g50,9,N⟩∧
(Let (w54.setCell ⟨g50,9,N⟩ (S A56 n56_ c56_)) fun w57:W=>
 MayC w57 ⟨g50,7,N⟩∧
(Let (w57.setCell ⟨g50,7,N⟩ (I D y1)) fun w58:W=>
 MayC w58 ⟨g50,8,N⟩∧
(Let (w58.setCell ⟨g50,8,N⟩ (I D y2)) fun w59:W=>
 MayC w59 ⟨g50,10,N⟩∧
(Let (w59.setCell ⟨g50,10,N⟩ (S A14 n14_ c14_)) fun w60:W=>
 ∃ x61 x62:Int,∃ b63 b64:Bool,∃ x65 x66 x67 x68 x69:Int,∃ (A70:Option Addr) (n70_ c70_:Nat),∃ (A71:Option Addr) (n71_ c71_:Nat),(11=11∧At w60 ⟨g50,0,N⟩ [I B x61,I H x62,T b63,T b64,I L x65,I B x66,I B x67,I D x68,I D x69,S A70 n70_ c70_,S A71 n71_ c71_])∧
(May w60 ⟨yg8,0,N⟩ 11∧
(Let (putCells w60 ⟨yg8,0,N⟩ [I B x61,I H x62,T b63,T b64,I L x65,I B x66,I B x67,I D x68,I D x69,S A70 n70_ c70_,S A71 n71_ c71_] 0) fun w72:W=>
 ∃ x73 x74:Int,∃ b75 b76:Bool,∃ x77 x78 x79 x80 x81:Int,∃ (A82:Option Addr) (n82_ c82_:Nat),∃ (A83:Option Addr) (n83_ c83_:Nat),(11=11∧At w72 ⟨yg8,0,N⟩ [I B x73,I H x74,T b75,T b76,I L x77,I B x78,I B x79,I D x80,I D x81,S A82 n82_ c82_,S A83 n83_ c83_])∧
(R (.returned (.tuple #[G #[I B x73,I H x74,T b75,T b76,I L x77,I B x78,I B x79,I D x80,I D x81,S A82 n82_ c82_,S A83 n83_ c83_],I L 0])) w72))))))))))))))))))))):=by kernel_rfl
def qq8.s (i0_0 i0_1:Int) (i0_2 i0_3:Bool) (i0_4 i0_5 i0_6 i0_7 i0_8:Int) (I0_9:Option Addr) (in0_9 ic0_9:Nat) (I0_10:Option Addr) (in0_10 ic0_10:Nat) (i1 i2 i3_0 i3_1 i3_2 i3_3 i3_4:Int) (w:W) (R:E):Prop:=
(Let (w.heap.size) fun g1:Nat=>
 Let (w.alloc (.cells #[I B i0_0,I H i0_1,T i0_2,T i0_3,I L i0_4,I B i0_5,I B i0_6,I D i0_7,I D i0_8,S I0_9 in0_9 ic0_9,S I0_10 in0_10 ic0_10] 37)) fun w2:W=>
 Let (w2.heap.size) fun g3:Nat=>
 Let (w2.alloc (.cells #[I D i3_0,I D i3_1,I B i3_2,I H i3_3,I H i3_4] 39)) fun w4:W=>
 Let (w4.heap.size) fun g5:Nat=>
 Let (w4.alloc (.cells #[I B 0,I H 0,T false,T false,I L 0,I B 0,I B 0,I D 0,I D 0,S N 0 0,S N 0 0] 37)) fun w6:W=>
 Let (w6.heap.size) fun g7:Nat=>
 Let (w6.alloc (.cells #[I B 0,I H 0,T false,T false,I L 0,I B 0,I B 0,I D 0,I D 0,S N 0 0,S N 0 0] 37)) fun w8:W=>
 ∃ x9 x10:Int,∃ b11 b12:Bool,∃ x13 x14 x15 x16 x17:Int,∃ (A18:Option Addr) (n18_ c18_:Nat),∃ (A19:Option Addr) (n19_ c19_:Nat),(11=11∧At w8 ⟨g1,0,N⟩ [I B x9,I H x10,T b11,T b12,I L x13,I B x14,I B x15,I D x16,I D x17,S A18 n18_ c18_,S A19 n19_ c19_])∧
(Calls Tryz.prog 49 #[G #[I B x9,I H x10,T b11,T b12,I L x13,I B x14,I B x15,I D x16,I D x17,S A18 n18_ c18_,S A19 n19_ c19_]] w8 (fun (e21:Ending) (w20:W)=>
 ∃ x22 x23:Int,∃ b24 b25:Bool,∃ x26 x27 x28 x29 x30:Int,∃ (A31:Option Addr) (n31_ c31_:Nat),∃ (A32:Option Addr) (n32_ c32_:Nat),∃ x33:Int,e21=.returned (.tuple #[G #[I B x22,I H x23,T b24,T b25,I L x26,I B x27,I B x28,I D x29,I D x30,S A31 n31_ c31_],S A32 n32_ c32_,I L x33])∧
(Let (w20.heap.size) fun g34:Nat=>
 Let (w20.alloc (.cells #[I B 0,I H 0,T false,T false,I L 0,I B 0,I B 0,I D 0,I D 0,S N 0 0] 35)) fun w35:W=>
 May w35 ⟨g34,0,N⟩ 10∧
(Let (putCells w35 ⟨g34,0,N⟩ [I B x22,I H x23,T b24,T b25,I L x26,I B x27,I B x28,I D x29,I D x30,S A31 n31_ c31_] 0) fun w36:W=>
(if (x33 != 0)=true then
(∃ x37 x38:Int,∃ b39 b40:Bool,∃ x41 x42 x43 x44 x45:Int,∃ (A46:Option Addr) (n46_ c46_:Nat),∃ (A47:Option Addr) (n47_ c47_:Nat),(11=11∧At w36 ⟨g7,0,N⟩ [I B x37,I H x38,T b39,T b40,I L x41,I B x42,I B x43,I D x44,I D x45,S A46 n46_ c46_,S A47 n47_ c47_])∧
(May w36 ⟨g5,0,N⟩ 11∧
(Let (putCells w36 ⟨g5,0,N⟩ [I B x37,I H x38,T b39,T b40,I L x41,I B x42,I B x43,I D x44,I D x45,S A46 n46_ c46_,S A47 n47_ c47_] 0) fun w48:W=>
 ∃ x49 x50:Int,∃ b51 b52:Bool,∃ x53 x54 x55 x56 x57:Int,∃ (A58:Option Addr) (n58_ c58_:Nat),∃ (A59:Option Addr) (n59_ c59_:Nat),(11=11∧At w48 ⟨g5,0,N⟩ [I B x49,I H x50,T b51,T b52,I L x53,I B x54,I B x55,I D x56,I D x57,S A58 n58_ c58_,S A59 n59_ c59_])∧
(R (.returned (.tuple #[G #[I B x49,I H x50,T b51,T b52,I L x53,I B x54,I B x55,I D x56,I D x57,S A58 n58_ c58_,S A59 n59_ c59_],I L x33])) w48))))
else
(∃ (A60:Option Addr) (n60_ c60_:Nat),w36.cell? ⟨g1,10,N⟩=some (S A60 n60_ c60_)∧
(Calls Tryz.prog 50 #[S A60 n60_ c60_] w36 (fun (e62:Ending) (w61:W)=>
 ∃ x63 x64 x65:Int,∃ (A66:Option Addr) (n66_ c66_:Nat),∃ x67:Int,e62=.returned (.tuple #[G #[I B x63,I B x64,I D x65,S A66 n66_ c66_],I L x67])∧
(Let (w61.heap.size) fun g68:Nat=>
 Let (w61.alloc (.cells #[I B 0,I B 0,I D 0,S N 0 0] 106)) fun w69:W=>
 May w69 ⟨g68,0,N⟩ 4∧
(Let (putCells w69 ⟨g68,0,N⟩ [I B x63,I B x64,I D x65,S A66 n66_ c66_] 0) fun w70:W=>
 ∃ x71 x72:Int,∃ b73 b74:Bool,∃ x75 x76 x77 x78 x79:Int,∃ (A80:Option Addr) (n80_ c80_:Nat),(10=10∧At w70 ⟨g34,0,N⟩ [I B x71,I H x72,T b73,T b74,I L x75,I B x76,I B x77,I D x78,I D x79,S A80 n80_ c80_])∧
(Calls Tryz.prog 51 #[G #[I B x71,I H x72,T b73,T b74,I L x75,I B x76,I B x77,I D x78,I D x79,S A80 n80_ c80_],S A32 n32_ c32_] w70 (fun (e82:Ending) (w81:W)=>
 ∃ x83 x84 x85 x86 x87:Int,∃ b88:Bool,e82=.returned (.tuple #[G #[I D x83,I D x84,I B x85,I H x86,I H x87],T b88])∧
(Let (w81.heap.size) fun g89:Nat=>
 Let (w81.alloc (.cells #[I D 0,I D 0,I B 0,I H 0,I H 0] 39)) fun w90:W=>
 May w90 ⟨g89,0,N⟩ 5∧
(Let (putCells w90 ⟨g89,0,N⟩ [I D x83,I D x84,I B x85,I H x86,I H x87] 0) fun w91:W=>
 ∃ x92:Int,w91.cell? ⟨g68,0,N⟩=some (I B x92)∧
((if (x92 != 3)=true then
(∃ x93:Int,w91.cell? ⟨g68,0,N⟩=some (I B x93)∧
((if (x93 != 11)=true then
(∃ x94:Int,w91.cell? ⟨g68,0,N⟩=some (I B x94)∧
((if (x94 != 12)=true then
(Leaf (qq8.j1 i1 i2 g1 g3 g5 g7 g34 A32 n32_ c32_ g68 g89 true (G #[I B i0_0,I H i0_1,T i0_2,T i0_3,I L i0_4,I B i0_5,I B i0_6,I D i0_7,I D i0_8,S I0_9 in0_9 ic0_9,S I0_10 in0_10 ic0_10]) (G #[I D i3_0,I D i3_1,I B i3_2,I H i3_3,I H i3_4]) U U (I L 0) (I L x33) (I L x67) (T b88) U U U U U U U U (.tuple #[G #[I B x22,I H x23,T b24,T b25,I L x26,I B x27,I B x28,I D x29,I D x30,S A31 n31_ c31_],S A32 n32_ c32_,I L x33]) (G #[I B x9,I H x10,T b11,T b12,I L x13,I B x14,I B x15,I D x16,I D x17,S A18 n18_ c18_,S A19 n19_ c19_]) (.tuple #[G #[I B x22,I H x23,T b24,T b25,I L x26,I B x27,I B x28,I D x29,I D x30,S A31 n31_ c31_],S A32 n32_ c32_,I L x33]) (G #[I B x22,I H x23,T b24,T b25,I L x26,I B x27,I B x28,I D x29,I D x30,S A31 n31_ c31_]) (S A32 n32_ c32_) (I L x33) (I L x33) (T (x33 != 0)) U U (.tuple #[G #[I B x63,I B x64,I D x65,S A66 n66_ c66_],I L x67]) (P (some ⟨g1,10,N⟩)) (S A60 n60_ c60_) (.tuple #[G #[I B x63,I B x64,I D x65,S A66 n66_ c66_],I L x67]) (G #[I B x63,I B x64,I D x65,S A66 n66_ c66_]) (I L x67) (.tuple #[G #[I D x83,I D x84,I B x85,I H x86,I H x87],T b88]) (G #[I B x71,I H x72,T b73,T b74,I L x75,I B x76,I B x77,I D x78,I D x79,S A80 n80_ c80_]) (S A32 n32_ c32_) (.tuple #[G #[I D x83,I D x84,I B x85,I H x86,I H x87],T b88]) (G #[I D x83,I D x84,I B x85,I H x86,I H x87]) (T b88) (P (some ⟨g68,0,N⟩)) (I B x92) (T (x92 != 3)) (T true) (P (some ⟨g68,0,N⟩)) (I B x93) (T (x93 != 11)) (T (x93 != 11)) (T true) (P (some ⟨g68,0,N⟩)) (I B x94) (T (x94 != 12)) (T (x94 != 12)) (T true) U U (T true) (T true) U U U U U U U U U U U U U U U U U U U U U U U U U U U U U U U U U U U U U U U U U U U U U U U U U U U U U U U U U U U U U U U U U U U U U U U U U U U U U U U U U U U U U U U U U U U U U U U U U U U w91 R))
else
((if (!b88)=true then
(Leaf (qq8.j1 i1 i2 g1 g3 g5 g7 g34 A32 n32_ c32_ g68 g89 true (G #[I B i0_0,I H i0_1,T i0_2,T i0_3,I L i0_4,I B i0_5,I B i0_6,I D i0_7,I D i0_8,S I0_9 in0_9 ic0_9,S I0_10 in0_10 ic0_10]) (G #[I D i3_0,I D i3_1,I B i3_2,I H i3_3,I H i3_4]) U U (I L 0) (I L x33) (I L x67) (T b88) U U U U U U U U (.tuple #[G #[I B x22,I H x23,T b24,T b25,I L x26,I B x27,I B x28,I D x29,I D x30,S A31 n31_ c31_],S A32 n32_ c32_,I L x33]) (G #[I B x9,I H x10,T b11,T b12,I L x13,I B x14,I B x15,I D x16,I D x17,S A18 n18_ c18_,S A19 n19_ c19_]) (.tuple #[G #[I B x22,I H x23,T b24,T b25,I L x26,I B x27,I B x28,I D x29,I D x30,S A31 n31_ c31_],S A32 n32_ c32_,I L x33]) (G #[I B x22,I H x23,T b24,T b25,I L x26,I B x27,I B x28,I D x29,I D x30,S A31 n31_ c31_]) (S A32 n32_ c32_) (I L x33) (I L x33) (T (x33 != 0)) U U (.tuple #[G #[I B x63,I B x64,I D x65,S A66 n66_ c66_],I L x67]) (P (some ⟨g1,10,N⟩)) (S A60 n60_ c60_) (.tuple #[G #[I B x63,I B x64,I D x65,S A66 n66_ c66_],I L x67]) (G #[I B x63,I B x64,I D x65,S A66 n66_ c66_]) (I L x67) (.tuple #[G #[I D x83,I D x84,I B x85,I H x86,I H x87],T b88]) (G #[I B x71,I H x72,T b73,T b74,I L x75,I B x76,I B x77,I D x78,I D x79,S A80 n80_ c80_]) (S A32 n32_ c32_) (.tuple #[G #[I D x83,I D x84,I B x85,I H x86,I H x87],T b88]) (G #[I D x83,I D x84,I B x85,I H x86,I H x87]) (T b88) (P (some ⟨g68,0,N⟩)) (I B x92) (T (x92 != 3)) (T true) (P (some ⟨g68,0,N⟩)) (I B x93) (T (x93 != 11)) (T (x93 != 11)) (T true) (P (some ⟨g68,0,N⟩)) (I B x94) (T (x94 != 12)) (T (x94 != 12)) (T false) (T b88) (T (!b88)) (T (!b88)) (T true) U U U U U U U U U U U U U U U U U U U U U U U U U U U U U U U U U U U U U U U U U U U U U U U U U U U U U U U U U U U U U U U U U U U U U U U U U U U U U U U U U U U U U U U U U U U U U U U U U U U w91 R))
else
(∃ x95 x96 x97 x98 x99:Int,(5=5∧At w91 ⟨g89,0,N⟩ [I D x95,I D x96,I B x97,I H x98,I H x99])∧
(∃ x100 x101 x102 x103 x104:Int,(5=5∧At w91 ⟨g3,0,N⟩ [I D x100,I D x101,I B x102,I H x103,I H x104])∧
(Calls Tryz.prog 44 #[G #[I D x95,I D x96,I B x97,I H x98,I H x99],G #[I D x100,I D x101,I B x102,I H x103,I H x104]] w91 (fun (e106:Ending) (w105:W)=>
 ∃ b107:Bool,e106=.returned (T b107)∧
(Leaf (qq8.j1 i1 i2 g1 g3 g5 g7 g34 A32 n32_ c32_ g68 g89 (!b107) (G #[I B i0_0,I H i0_1,T i0_2,T i0_3,I L i0_4,I B i0_5,I B i0_6,I D i0_7,I D i0_8,S I0_9 in0_9 ic0_9,S I0_10 in0_10 ic0_10]) (G #[I D i3_0,I D i3_1,I B i3_2,I H i3_3,I H i3_4]) U U (I L 0) (I L x33) (I L x67) (T b88) U U U U U U U U (.tuple #[G #[I B x22,I H x23,T b24,T b25,I L x26,I B x27,I B x28,I D x29,I D x30,S A31 n31_ c31_],S A32 n32_ c32_,I L x33]) (G #[I B x9,I H x10,T b11,T b12,I L x13,I B x14,I B x15,I D x16,I D x17,S A18 n18_ c18_,S A19 n19_ c19_]) (.tuple #[G #[I B x22,I H x23,T b24,T b25,I L x26,I B x27,I B x28,I D x29,I D x30,S A31 n31_ c31_],S A32 n32_ c32_,I L x33]) (G #[I B x22,I H x23,T b24,T b25,I L x26,I B x27,I B x28,I D x29,I D x30,S A31 n31_ c31_]) (S A32 n32_ c32_) (I L x33) (I L x33) (T (x33 != 0)) U U (.tuple #[G #[I B x63,I B x64,I D x65,S A66 n66_ c66_],I L x67]) (P (some ⟨g1,10,N⟩)) (S A60 n60_ c60_) (.tuple #[G #[I B x63,I B x64,I D x65,S A66 n66_ c66_],I L x67]) (G #[I B x63,I B x64,I D x65,S A66 n66_ c66_]) (I L x67) (.tuple #[G #[I D x83,I D x84,I B x85,I H x86,I H x87],T b88]) (G #[I B x71,I H x72,T b73,T b74,I L x75,I B x76,I B x77,I D x78,I D x79,S A80 n80_ c80_]) (S A32 n32_ c32_) (.tuple #[G #[I D x83,I D x84,I B x85,I H x86,I H x87],T b88]) (G #[I D x83,I D x84,I B x85,I H x86,I H x87]) (T b88) (P (some ⟨g68,0,N⟩)) (I B x92) (T (x92 != 3)) (T true) (P (some ⟨g68,0,N⟩)) (I B x93) (T (x93 != 11)) (T (x93 != 11)) (T true) (P (some ⟨g68,0,N⟩)) (I B x94) (T (x94 != 12)) (T (x94 != 12)) (T false) (T b88) (T (!b88)) (T (!b88)) (T false) (G #[I D x95,I D x96,I B x97,I H x98,I H x99]) (G #[I D x100,I D x101,I B x102,I H x103,I H x104]) (T b107) (T (!b107)) U U U U U U U U U U U U U U U U U U U U U U U U U U U U U U U U U U U U U U U U U U U U U U U U U U U U U U U U U U U U U U U U U U U U U U U U U U U U U U U U U U U U U U U U U U U U U U U w105 R)))))))))))
else
((if (!b88)=true then
(Leaf (qq8.j1 i1 i2 g1 g3 g5 g7 g34 A32 n32_ c32_ g68 g89 true (G #[I B i0_0,I H i0_1,T i0_2,T i0_3,I L i0_4,I B i0_5,I B i0_6,I D i0_7,I D i0_8,S I0_9 in0_9 ic0_9,S I0_10 in0_10 ic0_10]) (G #[I D i3_0,I D i3_1,I B i3_2,I H i3_3,I H i3_4]) U U (I L 0) (I L x33) (I L x67) (T b88) U U U U U U U U (.tuple #[G #[I B x22,I H x23,T b24,T b25,I L x26,I B x27,I B x28,I D x29,I D x30,S A31 n31_ c31_],S A32 n32_ c32_,I L x33]) (G #[I B x9,I H x10,T b11,T b12,I L x13,I B x14,I B x15,I D x16,I D x17,S A18 n18_ c18_,S A19 n19_ c19_]) (.tuple #[G #[I B x22,I H x23,T b24,T b25,I L x26,I B x27,I B x28,I D x29,I D x30,S A31 n31_ c31_],S A32 n32_ c32_,I L x33]) (G #[I B x22,I H x23,T b24,T b25,I L x26,I B x27,I B x28,I D x29,I D x30,S A31 n31_ c31_]) (S A32 n32_ c32_) (I L x33) (I L x33) (T (x33 != 0)) U U (.tuple #[G #[I B x63,I B x64,I D x65,S A66 n66_ c66_],I L x67]) (P (some ⟨g1,10,N⟩)) (S A60 n60_ c60_) (.tuple #[G #[I B x63,I B x64,I D x65,S A66 n66_ c66_],I L x67]) (G #[I B x63,I B x64,I D x65,S A66 n66_ c66_]) (I L x67) (.tuple #[G #[I D x83,I D x84,I B x85,I H x86,I H x87],T b88]) (G #[I B x71,I H x72,T b73,T b74,I L x75,I B x76,I B x77,I D x78,I D x79,S A80 n80_ c80_]) (S A32 n32_ c32_) (.tuple #[G #[I D x83,I D x84,I B x85,I H x86,I H x87],T b88]) (G #[I D x83,I D x84,I B x85,I H x86,I H x87]) (T b88) (P (some ⟨g68,0,N⟩)) (I B x92) (T (x92 != 3)) (T true) (P (some ⟨g68,0,N⟩)) (I B x93) (T (x93 != 11)) (T (x93 != 11)) (T false) U U U (T false) (T false) (T b88) (T (!b88)) (T (!b88)) (T true) U U U U U U U U U U U U U U U U U U U U U U U U U U U U U U U U U U U U U U U U U U U U U U U U U U U U U U U U U U U U U U U U U U U U U U U U U U U U U U U U U U U U U U U U U U U U U U U U U U U w91 R))
else
(∃ x108 x109 x110 x111 x112:Int,(5=5∧At w91 ⟨g89,0,N⟩ [I D x108,I D x109,I B x110,I H x111,I H x112])∧
(∃ x113 x114 x115 x116 x117:Int,(5=5∧At w91 ⟨g3,0,N⟩ [I D x113,I D x114,I B x115,I H x116,I H x117])∧
(Calls Tryz.prog 44 #[G #[I D x108,I D x109,I B x110,I H x111,I H x112],G #[I D x113,I D x114,I B x115,I H x116,I H x117]] w91 (fun (e119:Ending) (w118:W)=>
 ∃ b120:Bool,e119=.returned (T b120)∧
(Leaf (qq8.j1 i1 i2 g1 g3 g5 g7 g34 A32 n32_ c32_ g68 g89 (!b120) (G #[I B i0_0,I H i0_1,T i0_2,T i0_3,I L i0_4,I B i0_5,I B i0_6,I D i0_7,I D i0_8,S I0_9 in0_9 ic0_9,S I0_10 in0_10 ic0_10]) (G #[I D i3_0,I D i3_1,I B i3_2,I H i3_3,I H i3_4]) U U (I L 0) (I L x33) (I L x67) (T b88) U U U U U U U U (.tuple #[G #[I B x22,I H x23,T b24,T b25,I L x26,I B x27,I B x28,I D x29,I D x30,S A31 n31_ c31_],S A32 n32_ c32_,I L x33]) (G #[I B x9,I H x10,T b11,T b12,I L x13,I B x14,I B x15,I D x16,I D x17,S A18 n18_ c18_,S A19 n19_ c19_]) (.tuple #[G #[I B x22,I H x23,T b24,T b25,I L x26,I B x27,I B x28,I D x29,I D x30,S A31 n31_ c31_],S A32 n32_ c32_,I L x33]) (G #[I B x22,I H x23,T b24,T b25,I L x26,I B x27,I B x28,I D x29,I D x30,S A31 n31_ c31_]) (S A32 n32_ c32_) (I L x33) (I L x33) (T (x33 != 0)) U U (.tuple #[G #[I B x63,I B x64,I D x65,S A66 n66_ c66_],I L x67]) (P (some ⟨g1,10,N⟩)) (S A60 n60_ c60_) (.tuple #[G #[I B x63,I B x64,I D x65,S A66 n66_ c66_],I L x67]) (G #[I B x63,I B x64,I D x65,S A66 n66_ c66_]) (I L x67) (.tuple #[G #[I D x83,I D x84,I B x85,I H x86,I H x87],T b88]) (G #[I B x71,I H x72,T b73,T b74,I L x75,I B x76,I B x77,I D x78,I D x79,S A80 n80_ c80_]) (S A32 n32_ c32_) (.tuple #[G #[I D x83,I D x84,I B x85,I H x86,I H x87],T b88]) (G #[I D x83,I D x84,I B x85,I H x86,I H x87]) (T b88) (P (some ⟨g68,0,N⟩)) (I B x92) (T (x92 != 3)) (T true) (P (some ⟨g68,0,N⟩)) (I B x93) (T (x93 != 11)) (T (x93 != 11)) (T false) U U U (T false) (T false) (T b88) (T (!b88)) (T (!b88)) (T false) (G #[I D x108,I D x109,I B x110,I H x111,I H x112]) (G #[I D x113,I D x114,I B x115,I H x116,I H x117]) (T b120) (T (!b120)) U U U U U U U U U U U U U U U U U U U U U U U U U U U U U U U U U U U U U U U U U U U U U U U U U U U U U U U U U U U U U U U U U U U U U U U U U U U U U U U U U U U U U U U U U U U U U U U w118 R)))))))))))
else
((if (!b88)=true then
(Leaf (qq8.j1 i1 i2 g1 g3 g5 g7 g34 A32 n32_ c32_ g68 g89 true (G #[I B i0_0,I H i0_1,T i0_2,T i0_3,I L i0_4,I B i0_5,I B i0_6,I D i0_7,I D i0_8,S I0_9 in0_9 ic0_9,S I0_10 in0_10 ic0_10]) (G #[I D i3_0,I D i3_1,I B i3_2,I H i3_3,I H i3_4]) U U (I L 0) (I L x33) (I L x67) (T b88) U U U U U U U U (.tuple #[G #[I B x22,I H x23,T b24,T b25,I L x26,I B x27,I B x28,I D x29,I D x30,S A31 n31_ c31_],S A32 n32_ c32_,I L x33]) (G #[I B x9,I H x10,T b11,T b12,I L x13,I B x14,I B x15,I D x16,I D x17,S A18 n18_ c18_,S A19 n19_ c19_]) (.tuple #[G #[I B x22,I H x23,T b24,T b25,I L x26,I B x27,I B x28,I D x29,I D x30,S A31 n31_ c31_],S A32 n32_ c32_,I L x33]) (G #[I B x22,I H x23,T b24,T b25,I L x26,I B x27,I B x28,I D x29,I D x30,S A31 n31_ c31_]) (S A32 n32_ c32_) (I L x33) (I L x33) (T (x33 != 0)) U U (.tuple #[G #[I B x63,I B x64,I D x65,S A66 n66_ c66_],I L x67]) (P (some ⟨g1,10,N⟩)) (S A60 n60_ c60_) (.tuple #[G #[I B x63,I B x64,I D x65,S A66 n66_ c66_],I L x67]) (G #[I B x63,I B x64,I D x65,S A66 n66_ c66_]) (I L x67) (.tuple #[G #[I D x83,I D x84,I B x85,I H x86,I H x87],T b88]) (G #[I B x71,I H x72,T b73,T b74,I L x75,I B x76,I B x77,I D x78,I D x79,S A80 n80_ c80_]) (S A32 n32_ c32_) (.tuple #[G #[I D x83,I D x84,I B x85,I H x86,I H x87],T b88]) (G #[I D x83,I D x84,I B x85,I H x86,I H x87]) (T b88) (P (some ⟨g68,0,N⟩)) (I B x92) (T (x92 != 3)) (T false) U U U (T false) (T false) U U U (T false) (T false) (T b88) (T (!b88)) (T (!b88)) (T true) U U U U U U U U U U U U U U U U U U U U U U U U U U U U U U U U U U U U U U U U U U U U U U U U U U U U U U U U U U U U U U U U U U U U U U U U U U U U U U U U U U U U U U U U U U U U U U U U U U U w91 R))
else
(∃ x121 x122 x123 x124 x125:Int,(5=5∧At w91 ⟨g89,0,N⟩ [I D x121,I D x122,I B x123,I H x124,I H x125])∧
(∃ x126 x127 x128 x129 x130:Int,(5=5∧At w91 ⟨g3,0,N⟩ [I D x126,I D x127,I B x128,I H x129,I H x130])∧
(Calls Tryz.prog 44 #[G #[I D x121,I D x122,I B x123,I H x124,I H x125],G #[I D x126,I D x127,I B x128,I H x129,I H x130]] w91 (fun (e132:Ending) (w131:W)=>
 ∃ b133:Bool,e132=.returned (T b133)∧
(Leaf (qq8.j1 i1 i2 g1 g3 g5 g7 g34 A32 n32_ c32_ g68 g89 (!b133) (G #[I B i0_0,I H i0_1,T i0_2,T i0_3,I L i0_4,I B i0_5,I B i0_6,I D i0_7,I D i0_8,S I0_9 in0_9 ic0_9,S I0_10 in0_10 ic0_10]) (G #[I D i3_0,I D i3_1,I B i3_2,I H i3_3,I H i3_4]) U U (I L 0) (I L x33) (I L x67) (T b88) U U U U U U U U (.tuple #[G #[I B x22,I H x23,T b24,T b25,I L x26,I B x27,I B x28,I D x29,I D x30,S A31 n31_ c31_],S A32 n32_ c32_,I L x33]) (G #[I B x9,I H x10,T b11,T b12,I L x13,I B x14,I B x15,I D x16,I D x17,S A18 n18_ c18_,S A19 n19_ c19_]) (.tuple #[G #[I B x22,I H x23,T b24,T b25,I L x26,I B x27,I B x28,I D x29,I D x30,S A31 n31_ c31_],S A32 n32_ c32_,I L x33]) (G #[I B x22,I H x23,T b24,T b25,I L x26,I B x27,I B x28,I D x29,I D x30,S A31 n31_ c31_]) (S A32 n32_ c32_) (I L x33) (I L x33) (T (x33 != 0)) U U (.tuple #[G #[I B x63,I B x64,I D x65,S A66 n66_ c66_],I L x67]) (P (some ⟨g1,10,N⟩)) (S A60 n60_ c60_) (.tuple #[G #[I B x63,I B x64,I D x65,S A66 n66_ c66_],I L x67]) (G #[I B x63,I B x64,I D x65,S A66 n66_ c66_]) (I L x67) (.tuple #[G #[I D x83,I D x84,I B x85,I H x86,I H x87],T b88]) (G #[I B x71,I H x72,T b73,T b74,I L x75,I B x76,I B x77,I D x78,I D x79,S A80 n80_ c80_]) (S A32 n32_ c32_) (.tuple #[G #[I D x83,I D x84,I B x85,I H x86,I H x87],T b88]) (G #[I D x83,I D x84,I B x85,I H x86,I H x87]) (T b88) (P (some ⟨g68,0,N⟩)) (I B x92) (T (x92 != 3)) (T false) U U U (T false) (T false) U U U (T false) (T false) (T b88) (T (!b88)) (T (!b88)) (T false) (G #[I D x121,I D x122,I B x123,I H x124,I H x125]) (G #[I D x126,I D x127,I B x128,I H x129,I H x130]) (T b133) (T (!b133)) U U U U U U U U U U U U U U U U U U U U U U U U U U U U U U U U U U U U U U U U U U U U U U U U U U U U U U U U U U U U U U U U U U U U U U U U U U U U U U U U U U U U U U U U U U U U U U U w131 R)))))))))))))))))))))))))
theorem qq8.run (h:qq8.s i0_0 i0_1 i0_2 i0_3 i0_4 i0_5 i0_6 i0_7 i0_8 I0_9 in0_9 ic0_9 I0_10 in0_10 ic0_10 i1 i2 i3_0 i3_1 i3_2 i3_3 i3_4 w R):Calls Tryz.prog 30 #[G #[I B i0_0,I H i0_1,T i0_2,T i0_3,I L i0_4,I B i0_5,I B i0_6,I D i0_7,I D i0_8,S I0_9 in0_9 ic0_9,S I0_10 in0_10 ic0_10],I D i1,I D i2,G #[I D i3_0,I D i3_1,I B i3_2,I H i3_3,I H i3_4]] w R:=
 calls_segk (ords:=qq8.ords) (J:=qq8.joins) ents mixed Tryz.func30 rfl h (by kernel_rfl)
end Go.Proofs.YtphbdmafchjjeaaGreatDoorS
