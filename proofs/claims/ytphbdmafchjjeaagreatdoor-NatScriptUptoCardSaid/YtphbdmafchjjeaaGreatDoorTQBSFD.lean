import Derived.Test.YtphbdmafchjjeaaGreatDoorTQBSPureM
namespace Go.Proofs.YtphbdmafchjjeaaGreatDoorS
open Go Go.Proofs
open Go renaming undef → U, World → W, Value → V
open Go.Value renaming int → I, slice → S, bool → T, pointer → P, agg → G
open Go.IntKind renaming u8 → B, u16 → H, u32 → D, u64 → Q, i64 → L
open Option renaming none → N
set_option autoImplicit true
set_option relaxedAutoImplicit true
set_option maxRecDepth 100000
set_option linter.unusedVariables false
def qq76.ords:Nat→Od
 | _=>.nil
def qq76.joins (p:List Nat):Bool:=p == [1,1,1,1,1,1,1]
def qq76.j1 (yg1 yg2 yg6:Nat) (d0 d3 d4 d5 d7 d8 d9 dA dB dC dD dE dF dG dH dI dJ dK dL dM dN dO dP dQ dR dS dT dU dV dW dX dY dZ k0 k1 k2 k3 k4 k5 k6 k7 k8 k9 kA kB kC kD kE kF kG kH kI kJ kK kL kM kN kO kP kQ kR kS kT kU kV kW:V) (w:W) (R:E):Prop:=
 seg Tryz.prog entE qq76.ords qq76.joins Tryz.f43 [1,1,1,1,1,1,1] [1,1,1,1,1,1,1] [] [d0,P (some ⟨yg1,0,N⟩),P (some ⟨yg2,0,N⟩),d3,d4,d5,P (some ⟨yg6,0,N⟩),d7,d8,d9,dA,dB,dC,dD,dE,dF,dG,dH,dI,dJ,dK,dL,dM,dN,dO,dP,dQ,dR,dS,dT,dU,dV,dW,dX,dY,dZ,k0,k1,k2,k3,k4,k5,k6,k7,k8,k9,kA,kB,kC,kD,kE,kF,kG,kH,kI,kJ,kK,kL,kM,kN,kO,kP,kQ,kR,kS,kT,kU,kV,kW] w R
abbrev qq76.J1 (yg1 yg2 yg6:Nat) (w:W) (R:E):Prop:=∀ d0 d3 d4 d5 d7 d8 d9 dA dB dC dD dE dF dG dH dI dJ dK dL dM dN dO dP dQ dR dS dT dU dV dW dX dY dZ k0 k1 k2 k3 k4 k5 k6 k7 k8 k9 kA kB kC kD kE kF kG kH kI kJ kK kL kM kN kO kP kQ kR kS kT kU kV kW,qq76.j1 yg1 yg2 yg6 d0 d3 d4 d5 d7 d8 d9 dA dB dC dD dE dF dG dH dI dJ dK dL dM dN dO dP dQ dR dS dT dU dV dW dX dY dZ k0 k1 k2 k3 k4 k5 k6 k7 k8 k9 kA kB kC kD kE kF kG kH kI kJ kK kL kM kN kO kP kQ kR kS kT kU kV kW w R
theorem qq76.j1_eq:qq76.j1 yg1 yg2 yg6 d0 d3 d4 d5 d7 d8 d9 dA dB dC dD dE dF dG dH dI dJ dK dL dM dN dO dP dQ dR dS dT dU dV dW dX dY dZ k0 k1 k2 k3 k4 k5 k6 k7 k8 k9 kA kB kC kD kE kF kG kH kI kJ kK kL kM kN kO kP kQ kR kS kT kU kV kW w R =
(∃ x1:Int,w.cell? ⟨yg6,7,N⟩=some (I D x1)∧
(∃ x2:Int,w.cell? ⟨yg6,8,N⟩=some (I D x2)∧
(∃ x3:Int,w.cell? ⟨yg6,6,N⟩=some (I B x3)∧
(Let (w.heap.size) fun g4:Nat=>
 Let (w.alloc (.cells #[I D 0,I D 0,I B 0,I H 0,I H 0] 39)) fun w5:W=>
 May w5 ⟨g4,0,N⟩ 5∧
(Let (putCells w5 ⟨g4,0,N⟩ [I D x1,I D x2,I B x3,I H 0,I H 0] 0) fun w6:W=>
 ∃ x7 x8 x9 x10 x11:Int,(5=5∧At w6 ⟨g4,0,N⟩ [I D x7,I D x8,I B x9,I H x10,I H x11])∧
(∃ (A12:Option Addr) (n12_ c12_:Nat),w6.cell? ⟨yg1,10,N⟩=some (S A12 n12_ c12_)∧
(Calls Tryz.prog 78 #[G #[I D x7,I D x8,I B x9,I H x10,I H x11],S A12 n12_ c12_] w6 (fun (e14:Ending) (w13:W)=>
 ∃ x15 x16 x17 x18 x19 x20:Int,e14=.returned (.tuple #[G #[I D x15,I D x16,I B x17,I H x18,I H x19],I L x20])∧
(Let (w13.heap.size) fun g21:Nat=>
 Let (w13.alloc (.cells #[I D 0,I D 0,I B 0,I H 0,I H 0] 39)) fun w22:W=>
 May w22 ⟨g21,0,N⟩ 5∧
(Let (putCells w22 ⟨g21,0,N⟩ [I D x15,I D x16,I B x17,I H x18,I H x19] 0) fun w23:W=>
(if (x20 != 0)=true then
(May w23 ⟨yg2,0,N⟩ 5∧
(Let (putCells w23 ⟨yg2,0,N⟩ [I D 0,I D 0,I B 0,I H 0,I H 0] 0) fun w24:W=>
 ∃ x25 x26 x27 x28 x29:Int,(5=5∧At w24 ⟨yg2,0,N⟩ [I D x25,I D x26,I B x27,I H x28,I H x29])∧
(R (.returned (.tuple #[G #[I D x25,I D x26,I B x27,I H x28,I H x29],I L x20])) w24)))
else
(∃ x30 x31 x32 x33 x34:Int,(5=5∧At w23 ⟨g21,0,N⟩ [I D x30,I D x31,I B x32,I H x33,I H x34])∧
(May w23 ⟨yg2,0,N⟩ 5∧
(Let (putCells w23 ⟨yg2,0,N⟩ [I D x30,I D x31,I B x32,I H x33,I H x34] 0) fun w35:W=>
 ∃ x36 x37 x38 x39 x40:Int,(5=5∧At w35 ⟨yg2,0,N⟩ [I D x36,I D x37,I B x38,I H x39,I H x40])∧
(R (.returned (.tuple #[G #[I D x36,I D x37,I B x38,I H x39,I H x40],I L 0])) w35))))))))))))))):=by kernel_rfl
def qq76.s (i0_0 i0_1:Int) (i0_2 i0_3:Bool) (i0_4 i0_5 i0_6 i0_7 i0_8:Int) (I0_9:Option Addr) (in0_9 ic0_9:Nat) (I0_10:Option Addr) (in0_10 ic0_10:Nat) (w:W) (R:E):Prop:=
(Let (w.heap.size) fun g1:Nat=>
 Let (w.alloc (.cells #[I B i0_0,I H i0_1,T i0_2,T i0_3,I L i0_4,I B i0_5,I B i0_6,I D i0_7,I D i0_8,S I0_9 in0_9 ic0_9,S I0_10 in0_10 ic0_10] 37)) fun w2:W=>
 Let (w2.heap.size) fun g3:Nat=>
 Let (w2.alloc (.cells #[I D 0,I D 0,I B 0,I H 0,I H 0] 39)) fun w4:W=>
 ∃ x5 x6:Int,∃ b7 b8:Bool,∃ x9 x10 x11 x12 x13:Int,∃ (A14:Option Addr) (n14_ c14_:Nat),∃ (A15:Option Addr) (n15_ c15_:Nat),(11=11∧At w4 ⟨g1,0,N⟩ [I B x5,I H x6,T b7,T b8,I L x9,I B x10,I B x11,I D x12,I D x13,S A14 n14_ c14_,S A15 n15_ c15_])∧
(Calls Tryz.prog 42 #[G #[I B x5,I H x6,T b7,T b8,I L x9,I B x10,I B x11,I D x12,I D x13,S A14 n14_ c14_,S A15 n15_ c15_]] w4 (fun (e17:Ending) (w16:W)=>
 ∃ (A18:Option Addr) (n18_ c18_:Nat),∃ x19:Int,e17=.returned (.tuple #[S A18 n18_ c18_,I L x19])∧
((if (x19 != 0)=true then
(May w16 ⟨g3,0,N⟩ 5∧
(Let (putCells w16 ⟨g3,0,N⟩ [I D 0,I D 0,I B 0,I H 0,I H 0] 0) fun w20:W=>
 ∃ x21 x22 x23 x24 x25:Int,(5=5∧At w20 ⟨g3,0,N⟩ [I D x21,I D x22,I B x23,I H x24,I H x25])∧
(R (.returned (.tuple #[G #[I D x21,I D x22,I B x23,I H x24,I H x25],I L x19])) w20)))
else
(∃ x26 x27:Int,∃ b28 b29:Bool,∃ x30 x31 x32 x33 x34:Int,∃ (A35:Option Addr) (n35_ c35_:Nat),(10=10∧At w16 ⟨g1,0,N⟩ [I B x26,I H x27,T b28,T b29,I L x30,I B x31,I B x32,I D x33,I D x34,S A35 n35_ c35_])∧
(Let (w16.heap.size) fun g36:Nat=>
 Let (w16.alloc (.cells #[I B 0,I H 0,T false,T false,I L 0,I B 0,I B 0,I D 0,I D 0,S N 0 0] 35)) fun w37:W=>
 May w37 ⟨g36,0,N⟩ 10∧
(Let (putCells w37 ⟨g36,0,N⟩ [I B x26,I H x27,T b28,T b29,I L x30,I B x31,I B x32,I D x33,I D x34,S A35 n35_ c35_] 0) fun w38:W=>
 ∃ x39:Int,w38.cell? ⟨g36,4,N⟩=some (I L x39)∧
((if decide (x39 > 0)=true then
(May w38 ⟨g3,0,N⟩ 5∧
(Let (putCells w38 ⟨g3,0,N⟩ [I D 0,I D 0,I B 0,I H 0,I H 0] 0) fun w40:W=>
 ∃ x41 x42 x43 x44 x45:Int,(5=5∧At w40 ⟨g3,0,N⟩ [I D x41,I D x42,I B x43,I H x44,I H x45])∧
(R (.returned (.tuple #[G #[I D x41,I D x42,I B x43,I H x44,I H x45],I L 75])) w40)))
else
(∃ (A46:Option Addr) (n46_ c46_:Nat),w38.cell? ⟨g1,10,N⟩=some (S A46 n46_ c46_)∧
(∃ x47:Int,w38.cell? ⟨g36,6,N⟩=some (I B x47)∧
((if (x47 == 1)=true then
((if decide ((n46_:Int) < 8)=true then
(May w38 ⟨g3,0,N⟩ 5∧
(Let (putCells w38 ⟨g3,0,N⟩ [I D 0,I D 0,I B 0,I H 0,I H 0] 0) fun w48:W=>
 ∃ x49 x50 x51 x52 x53:Int,(5=5∧At w48 ⟨g3,0,N⟩ [I D x49,I D x50,I B x51,I H x52,I H x53])∧
(R (.returned (.tuple #[G #[I D x49,I D x50,I B x51,I H x52,I H x53],I L 30])) w48)))
else
(∃ x54:Int,w38.cell? ⟨g36,6,N⟩=some (I B x54)∧
((if (x54 == 6)=true then
((if decide ((n46_:Int) < 20)=true then
(May w38 ⟨g3,0,N⟩ 5∧
(Let (putCells w38 ⟨g3,0,N⟩ [I D 0,I D 0,I B 0,I H 0,I H 0] 0) fun w55:W=>
 ∃ x56 x57 x58 x59 x60:Int,(5=5∧At w55 ⟨g3,0,N⟩ [I D x56,I D x57,I B x58,I H x59,I H x60])∧
(R (.returned (.tuple #[G #[I D x56,I D x57,I B x58,I H x59,I H x60],I L 30])) w55)))
else
(Leaf (qq76.j1 g1 g3 g36 (G #[I B i0_0,I H i0_1,T i0_2,T i0_3,I L i0_4,I B i0_5,I B i0_6,I D i0_7,I D i0_8,S I0_9 in0_9 ic0_9,S I0_10 in0_10 ic0_10]) (I L 0) (S A18 n18_ c18_) (I L x19) (I L (n46_:Int)) U U (.tuple #[S A18 n18_ c18_,I L x19]) (G #[I B x5,I H x6,T b7,T b8,I L x9,I B x10,I B x11,I D x12,I D x13,S A14 n14_ c14_,S A15 n15_ c15_]) (.tuple #[S A18 n18_ c18_,I L x19]) (S A18 n18_ c18_) (I L x19) (I L x19) (T (x19 != 0)) U U (P (some ⟨g1,0,N⟩)) (G #[I B x26,I H x27,T b28,T b29,I L x30,I B x31,I B x32,I D x33,I D x34,S A35 n35_ c35_]) (P (some ⟨g36,4,N⟩)) (I L x39) (T (decide (x39 > 0))) U (P (some ⟨g1,10,N⟩)) (S A46 n46_ c46_) (I L (n46_:Int)) (P (some ⟨g36,6,N⟩)) (I B x47) (T (x47 == 1)) (T true) U U U (T true) (T true) (I L (n46_:Int)) (T (decide ((n46_:Int) < 8))) (T (decide ((n46_:Int) < 8))) (T false) (P (some ⟨g36,6,N⟩)) (I B x54) (T (x54 == 6)) (T true) (I L (n46_:Int)) (T (decide ((n46_:Int) < 20))) (T (decide ((n46_:Int) < 20))) (T (decide ((n46_:Int) < 20))) U U U U U U U U U U U U U U U U U U U U w38 R))))
else
(Leaf (qq76.j1 g1 g3 g36 (G #[I B i0_0,I H i0_1,T i0_2,T i0_3,I L i0_4,I B i0_5,I B i0_6,I D i0_7,I D i0_8,S I0_9 in0_9 ic0_9,S I0_10 in0_10 ic0_10]) (I L 0) (S A18 n18_ c18_) (I L x19) (I L (n46_:Int)) U U (.tuple #[S A18 n18_ c18_,I L x19]) (G #[I B x5,I H x6,T b7,T b8,I L x9,I B x10,I B x11,I D x12,I D x13,S A14 n14_ c14_,S A15 n15_ c15_]) (.tuple #[S A18 n18_ c18_,I L x19]) (S A18 n18_ c18_) (I L x19) (I L x19) (T (x19 != 0)) U U (P (some ⟨g1,0,N⟩)) (G #[I B x26,I H x27,T b28,T b29,I L x30,I B x31,I B x32,I D x33,I D x34,S A35 n35_ c35_]) (P (some ⟨g36,4,N⟩)) (I L x39) (T (decide (x39 > 0))) U (P (some ⟨g1,10,N⟩)) (S A46 n46_ c46_) (I L (n46_:Int)) (P (some ⟨g36,6,N⟩)) (I B x47) (T (x47 == 1)) (T true) U U U (T true) (T true) (I L (n46_:Int)) (T (decide ((n46_:Int) < 8))) (T (decide ((n46_:Int) < 8))) (T false) (P (some ⟨g36,6,N⟩)) (I B x54) (T (x54 == 6)) (T false) U U (T false) (T false) U U U U U U U U U U U U U U U U U U U U w38 R)))))))
else
(∃ x61:Int,w38.cell? ⟨g36,6,N⟩=some (I B x61)∧
((if (x61 == 17)=true then
((if decide ((n46_:Int) < 8)=true then
(May w38 ⟨g3,0,N⟩ 5∧
(Let (putCells w38 ⟨g3,0,N⟩ [I D 0,I D 0,I B 0,I H 0,I H 0] 0) fun w62:W=>
 ∃ x63 x64 x65 x66 x67:Int,(5=5∧At w62 ⟨g3,0,N⟩ [I D x63,I D x64,I B x65,I H x66,I H x67])∧
(R (.returned (.tuple #[G #[I D x63,I D x64,I B x65,I H x66,I H x67],I L 30])) w62)))
else
(∃ x68:Int,w38.cell? ⟨g36,6,N⟩=some (I B x68)∧
((if (x68 == 6)=true then
((if decide ((n46_:Int) < 20)=true then
(May w38 ⟨g3,0,N⟩ 5∧
(Let (putCells w38 ⟨g3,0,N⟩ [I D 0,I D 0,I B 0,I H 0,I H 0] 0) fun w69:W=>
 ∃ x70 x71 x72 x73 x74:Int,(5=5∧At w69 ⟨g3,0,N⟩ [I D x70,I D x71,I B x72,I H x73,I H x74])∧
(R (.returned (.tuple #[G #[I D x70,I D x71,I B x72,I H x73,I H x74],I L 30])) w69)))
else
(Leaf (qq76.j1 g1 g3 g36 (G #[I B i0_0,I H i0_1,T i0_2,T i0_3,I L i0_4,I B i0_5,I B i0_6,I D i0_7,I D i0_8,S I0_9 in0_9 ic0_9,S I0_10 in0_10 ic0_10]) (I L 0) (S A18 n18_ c18_) (I L x19) (I L (n46_:Int)) U U (.tuple #[S A18 n18_ c18_,I L x19]) (G #[I B x5,I H x6,T b7,T b8,I L x9,I B x10,I B x11,I D x12,I D x13,S A14 n14_ c14_,S A15 n15_ c15_]) (.tuple #[S A18 n18_ c18_,I L x19]) (S A18 n18_ c18_) (I L x19) (I L x19) (T (x19 != 0)) U U (P (some ⟨g1,0,N⟩)) (G #[I B x26,I H x27,T b28,T b29,I L x30,I B x31,I B x32,I D x33,I D x34,S A35 n35_ c35_]) (P (some ⟨g36,4,N⟩)) (I L x39) (T (decide (x39 > 0))) U (P (some ⟨g1,10,N⟩)) (S A46 n46_ c46_) (I L (n46_:Int)) (P (some ⟨g36,6,N⟩)) (I B x47) (T (x47 == 1)) (T false) (P (some ⟨g36,6,N⟩)) (I B x61) (T (x61 == 17)) (T (x61 == 17)) (T true) (I L (n46_:Int)) (T (decide ((n46_:Int) < 8))) (T (decide ((n46_:Int) < 8))) (T false) (P (some ⟨g36,6,N⟩)) (I B x68) (T (x68 == 6)) (T true) (I L (n46_:Int)) (T (decide ((n46_:Int) < 20))) (T (decide ((n46_:Int) < 20))) (T (decide ((n46_:Int) < 20))) U U U U U U U U U U U U U U U U U U U U w38 R))))
else
(Leaf (qq76.j1 g1 g3 g36 (G #[I B i0_0,I H i0_1,T i0_2,T i0_3,I L i0_4,I B i0_5,I B i0_6,I D i0_7,I D i0_8,S I0_9 in0_9 ic0_9,S I0_10 in0_10 ic0_10]) (I L 0) (S A18 n18_ c18_) (I L x19) (I L (n46_:Int)) U U (.tuple #[S A18 n18_ c18_,I L x19]) (G #[I B x5,I H x6,T b7,T b8,I L x9,I B x10,I B x11,I D x12,I D x13,S A14 n14_ c14_,S A15 n15_ c15_]) (.tuple #[S A18 n18_ c18_,I L x19]) (S A18 n18_ c18_) (I L x19) (I L x19) (T (x19 != 0)) U U (P (some ⟨g1,0,N⟩)) (G #[I B x26,I H x27,T b28,T b29,I L x30,I B x31,I B x32,I D x33,I D x34,S A35 n35_ c35_]) (P (some ⟨g36,4,N⟩)) (I L x39) (T (decide (x39 > 0))) U (P (some ⟨g1,10,N⟩)) (S A46 n46_ c46_) (I L (n46_:Int)) (P (some ⟨g36,6,N⟩)) (I B x47) (T (x47 == 1)) (T false) (P (some ⟨g36,6,N⟩)) (I B x61) (T (x61 == 17)) (T (x61 == 17)) (T true) (I L (n46_:Int)) (T (decide ((n46_:Int) < 8))) (T (decide ((n46_:Int) < 8))) (T false) (P (some ⟨g36,6,N⟩)) (I B x68) (T (x68 == 6)) (T false) U U (T false) (T false) U U U U U U U U U U U U U U U U U U U U w38 R)))))))
else
(∃ x75:Int,w38.cell? ⟨g36,6,N⟩=some (I B x75)∧
((if (x75 == 6)=true then
((if decide ((n46_:Int) < 20)=true then
(May w38 ⟨g3,0,N⟩ 5∧
(Let (putCells w38 ⟨g3,0,N⟩ [I D 0,I D 0,I B 0,I H 0,I H 0] 0) fun w76:W=>
 ∃ x77 x78 x79 x80 x81:Int,(5=5∧At w76 ⟨g3,0,N⟩ [I D x77,I D x78,I B x79,I H x80,I H x81])∧
(R (.returned (.tuple #[G #[I D x77,I D x78,I B x79,I H x80,I H x81],I L 30])) w76)))
else
(Leaf (qq76.j1 g1 g3 g36 (G #[I B i0_0,I H i0_1,T i0_2,T i0_3,I L i0_4,I B i0_5,I B i0_6,I D i0_7,I D i0_8,S I0_9 in0_9 ic0_9,S I0_10 in0_10 ic0_10]) (I L 0) (S A18 n18_ c18_) (I L x19) (I L (n46_:Int)) U U (.tuple #[S A18 n18_ c18_,I L x19]) (G #[I B x5,I H x6,T b7,T b8,I L x9,I B x10,I B x11,I D x12,I D x13,S A14 n14_ c14_,S A15 n15_ c15_]) (.tuple #[S A18 n18_ c18_,I L x19]) (S A18 n18_ c18_) (I L x19) (I L x19) (T (x19 != 0)) U U (P (some ⟨g1,0,N⟩)) (G #[I B x26,I H x27,T b28,T b29,I L x30,I B x31,I B x32,I D x33,I D x34,S A35 n35_ c35_]) (P (some ⟨g36,4,N⟩)) (I L x39) (T (decide (x39 > 0))) U (P (some ⟨g1,10,N⟩)) (S A46 n46_ c46_) (I L (n46_:Int)) (P (some ⟨g36,6,N⟩)) (I B x47) (T (x47 == 1)) (T false) (P (some ⟨g36,6,N⟩)) (I B x61) (T (x61 == 17)) (T (x61 == 17)) (T false) U U (T false) (T false) (P (some ⟨g36,6,N⟩)) (I B x75) (T (x75 == 6)) (T true) (I L (n46_:Int)) (T (decide ((n46_:Int) < 20))) (T (decide ((n46_:Int) < 20))) (T (decide ((n46_:Int) < 20))) U U U U U U U U U U U U U U U U U U U U w38 R))))
else
(Leaf (qq76.j1 g1 g3 g36 (G #[I B i0_0,I H i0_1,T i0_2,T i0_3,I L i0_4,I B i0_5,I B i0_6,I D i0_7,I D i0_8,S I0_9 in0_9 ic0_9,S I0_10 in0_10 ic0_10]) (I L 0) (S A18 n18_ c18_) (I L x19) (I L (n46_:Int)) U U (.tuple #[S A18 n18_ c18_,I L x19]) (G #[I B x5,I H x6,T b7,T b8,I L x9,I B x10,I B x11,I D x12,I D x13,S A14 n14_ c14_,S A15 n15_ c15_]) (.tuple #[S A18 n18_ c18_,I L x19]) (S A18 n18_ c18_) (I L x19) (I L x19) (T (x19 != 0)) U U (P (some ⟨g1,0,N⟩)) (G #[I B x26,I H x27,T b28,T b29,I L x30,I B x31,I B x32,I D x33,I D x34,S A35 n35_ c35_]) (P (some ⟨g36,4,N⟩)) (I L x39) (T (decide (x39 > 0))) U (P (some ⟨g1,10,N⟩)) (S A46 n46_ c46_) (I L (n46_:Int)) (P (some ⟨g36,6,N⟩)) (I B x47) (T (x47 == 1)) (T false) (P (some ⟨g36,6,N⟩)) (I B x61) (T (x61 == 17)) (T (x61 == 17)) (T false) U U (T false) (T false) (P (some ⟨g36,6,N⟩)) (I B x75) (T (x75 == 6)) (T false) U U (T false) (T false) U U U U U U U U U U U U U U U U U U U U w38 R))))))))))))))))))))))
theorem qq76.run (h:qq76.s i0_0 i0_1 i0_2 i0_3 i0_4 i0_5 i0_6 i0_7 i0_8 I0_9 in0_9 ic0_9 I0_10 in0_10 ic0_10 w R):Calls Tryz.prog 43 #[G #[I B i0_0,I H i0_1,T i0_2,T i0_3,I L i0_4,I B i0_5,I B i0_6,I D i0_7,I D i0_8,S I0_9 in0_9 ic0_9,S I0_10 in0_10 ic0_10]] w R:=
 calls_segk (ords:=qq76.ords) (J:=qq76.joins) ents mixed Tryz.func43 rfl h (by kernel_rfl)
def qq15.ords:Nat→Od
 | _=>.nil
def qq15.joins (p:List Nat):Bool:=p == [1,0,1,0,1] || p == [1,0,1,1,1,0,1,0,1]
def qq15.j1 (Y1:Option Addr) (yn1 yc1 yg2 yg4:Nat) (y7:Int) (y8:Bool) (d0 d3 d5 d6 d9 dA dB dC dD dE dF dG dH dI dJ dK dL dM dN dO dP dQ dR dS dT dU dV dW dX dY dZ k0 k1 k2 k3 k4 k5 k6 k7:V) (w:W) (R:E):Prop:=
 seg Tryz.prog entE qq15.ords qq15.joins Tryz.f78 [1,0,1,0,1] [1,0,1,0,1] [] [d0,S Y1 yn1 yc1,P (some ⟨yg2,0,N⟩),d3,P (some ⟨yg4,0,N⟩),d5,d6,I B y7,T y8,d9,dA,dB,dC,dD,dE,dF,dG,dH,dI,dJ,dK,dL,dM,dN,dO,dP,dQ,dR,dS,dT,dU,dV,dW,dX,dY,dZ,k0,k1,k2,k3,k4,k5,k6,k7] w R
def qq15.j2 (Y1:Option Addr) (yn1 yc1 yg2 yg4:Nat) (y35:Bool) (d0 d3 d5 d6 d7 d8 d9 dA dB dC dD dE dF dG dH dI dJ dK dL dM dN dO dP dQ dR dS dT dU dV dW dX dY k0 k1 k2 k3 k4 k5 k6 k7:V) (w:W) (R:E):Prop:=
 seg Tryz.prog entE qq15.ords qq15.joins Tryz.f78 [1,0,1,0,1,1,1,0,1] [1,0,1,1,1,0,1,0,1] [] [d0,S Y1 yn1 yc1,P (some ⟨yg2,0,N⟩),d3,P (some ⟨yg4,0,N⟩),d5,d6,d7,d8,d9,dA,dB,dC,dD,dE,dF,dG,dH,dI,dJ,dK,dL,dM,dN,dO,dP,dQ,dR,dS,dT,dU,dV,dW,dX,dY,T y35,k0,k1,k2,k3,k4,k5,k6,k7] w R
abbrev qq15.J1 (Y1:Option Addr) (yn1 yc1 yg2 yg4:Nat) (y7:Int) (y8:Bool) (w:W) (R:E):Prop:=∀ d0 d3 d5 d6 d9 dA dB dC dD dE dF dG dH dI dJ dK dL dM dN dO dP dQ dR dS dT dU dV dW dX dY dZ k0 k1 k2 k3 k4 k5 k6 k7,qq15.j1 Y1 yn1 yc1 yg2 yg4 y7 y8 d0 d3 d5 d6 d9 dA dB dC dD dE dF dG dH dI dJ dK dL dM dN dO dP dQ dR dS dT dU dV dW dX dY dZ k0 k1 k2 k3 k4 k5 k6 k7 w R
abbrev qq15.J2 (Y1:Option Addr) (yn1 yc1 yg2 yg4:Nat) (y35:Bool) (w:W) (R:E):Prop:=∀ d0 d3 d5 d6 d7 d8 d9 dA dB dC dD dE dF dG dH dI dJ dK dL dM dN dO dP dQ dR dS dT dU dV dW dX dY k0 k1 k2 k3 k4 k5 k6 k7,qq15.j2 Y1 yn1 yc1 yg2 yg4 y35 d0 d3 d5 d6 d7 d8 d9 dA dB dC dD dE dF dG dH dI dJ dK dL dM dN dO dP dQ dR dS dT dU dV dW dX dY k0 k1 k2 k3 k4 k5 k6 k7 w R
theorem qq15.j1_eq:qq15.j1 Y1 yn1 yc1 yg2 yg4 y7 y8 d0 d3 d5 d6 d9 dA dB dC dD dE dF dG dH dI dJ dK dL dM dN dO dP dQ dR dS dT dU dV dW dX dY dZ k0 k1 k2 k3 k4 k5 k6 k7 w R =
((if y8=true then
(Calls Tryz.prog 100 #[S Y1 yn1 yc1,I L 0] w (fun (e2:Ending) (w1:W)=>
 ∃ x3:Int,e2=.returned (I H x3)∧
(MayC w1 ⟨yg2,3,N⟩∧
(Let (w1.setCell ⟨yg2,3,N⟩ (I H x3)) fun w4:W=>
 Calls Tryz.prog 100 #[S Y1 yn1 yc1,I L 2] w4 (fun (e6:Ending) (w5:W)=>
 ∃ x7:Int,e6=.returned (I H x7)∧
(MayC w5 ⟨yg2,4,N⟩∧
(Let (w5.setCell ⟨yg2,4,N⟩ (I H x7)) fun w8:W=>
 ∃ x9 x10 x11 x12 x13:Int,(5=5∧At w8 ⟨yg2,0,N⟩ [I D x9,I D x10,I B x11,I H x12,I H x13])∧
(May w8 ⟨yg4,0,N⟩ 5∧
(Let (putCells w8 ⟨yg4,0,N⟩ [I D x9,I D x10,I B x11,I H x12,I H x13] 0) fun w14:W=>
 ∃ x15 x16 x17 x18 x19:Int,(5=5∧At w14 ⟨yg4,0,N⟩ [I D x15,I D x16,I B x17,I H x18,I H x19])∧
(R (.returned (.tuple #[G #[I D x15,I D x16,I B x17,I H x18,I H x19],I L 0])) w14))))))))))
else
((if (y7 == 1)=true then
(∃ a20:Addr,Y1=some a20∧(0≤(0:Int)∧(0:Int) < (yn1:Int))∧
(∃ x21:Int,w.cell? a20=some (I B x21)∧
((if (x21 == 8)=true then
(∃ a22:Addr,Y1=some a22∧(0≤(1:Int)∧(1:Int) < (yn1:Int))∧
(∃ x23:Int,w.cell? (a22.add 1)=some (I B x23)∧
(Leaf (qq15.j2 Y1 yn1 yc1 yg2 yg4 (x23 == 0) d0 d3 d5 d6 (I B y7) (T y8) d9 dA dB dC dD dE dF dG dH (T (y7 == 1)) (T (y7 == 1)) (S Y1 yn1 yc1) (P (some a20)) (I B x21) (T (x21 == 8)) (T true) U U U U (T true) (T true) (S Y1 yn1 yc1) (P (some (a22.add 1))) (I B x23) (T (x23 == 0)) k0 k1 k2 k3 k4 k5 k6 k7 w R))))
else
(∃ a24:Addr,Y1=some a24∧(0≤(0:Int)∧(0:Int) < (yn1:Int))∧
(∃ x25:Int,w.cell? a24=some (I B x25)∧
((if (x25 == 0)=true then
(∃ a26:Addr,Y1=some a26∧(0≤(1:Int)∧(1:Int) < (yn1:Int))∧
(∃ x27:Int,w.cell? (a26.add 1)=some (I B x27)∧
(Leaf (qq15.j2 Y1 yn1 yc1 yg2 yg4 (x27 == 0) d0 d3 d5 d6 (I B y7) (T y8) d9 dA dB dC dD dE dF dG dH (T (y7 == 1)) (T (y7 == 1)) (S Y1 yn1 yc1) (P (some a20)) (I B x21) (T (x21 == 8)) (T false) (S Y1 yn1 yc1) (P (some a24)) (I B x25) (T (x25 == 0)) (T (x25 == 0)) (T true) (S Y1 yn1 yc1) (P (some (a26.add 1))) (I B x27) (T (x27 == 0)) k0 k1 k2 k3 k4 k5 k6 k7 w R))))
else
(Leaf (qq15.j2 Y1 yn1 yc1 yg2 yg4 false d0 d3 d5 d6 (I B y7) (T y8) d9 dA dB dC dD dE dF dG dH (T (y7 == 1)) (T (y7 == 1)) (S Y1 yn1 yc1) (P (some a20)) (I B x21) (T (x21 == 8)) (T false) (S Y1 yn1 yc1) (P (some a24)) (I B x25) (T (x25 == 0)) (T (x25 == 0)) (T false) U U U U k0 k1 k2 k3 k4 k5 k6 k7 w R))))))))))
else
(May w ⟨yg4,0,N⟩ 5∧
(Let (putCells w ⟨yg4,0,N⟩ [I D 0,I D 0,I B 0,I H 0,I H 0] 0) fun w28:W=>
 ∃ x29 x30 x31 x32 x33:Int,(5=5∧At w28 ⟨yg4,0,N⟩ [I D x29,I D x30,I B x31,I H x32,I H x33])∧
(R (.returned (.tuple #[G #[I D x29,I D x30,I B x31,I H x32,I H x33],I L 210])) w28))))))):=by kernel_rfl
theorem qq15.j2_eq:qq15.j2 Y1 yn1 yc1 yg2 yg4 y35 d0 d3 d5 d6 d7 d8 d9 dA dB dC dD dE dF dG dH dI dJ dK dL dM dN dO dP dQ dR dS dT dU dV dW dX dY k0 k1 k2 k3 k4 k5 k6 k7 w R =
((if y35=true then
(Calls Tryz.prog 100 #[S Y1 yn1 yc1,I L 4] w (fun (e2:Ending) (w1:W)=>
 ∃ x3:Int,e2=.returned (I H x3)∧
(MayC w1 ⟨yg2,3,N⟩∧
(Let (w1.setCell ⟨yg2,3,N⟩ (I H x3)) fun w4:W=>
 Calls Tryz.prog 100 #[S Y1 yn1 yc1,I L 4] w4 (fun (e6:Ending) (w5:W)=>
 ∃ x7:Int,e6=.returned (I H x7)∧
(MayC w5 ⟨yg2,4,N⟩∧
(Let (w5.setCell ⟨yg2,4,N⟩ (I H x7)) fun w8:W=>
 ∃ x9 x10 x11 x12 x13:Int,(5=5∧At w8 ⟨yg2,0,N⟩ [I D x9,I D x10,I B x11,I H x12,I H x13])∧
(May w8 ⟨yg4,0,N⟩ 5∧
(Let (putCells w8 ⟨yg4,0,N⟩ [I D x9,I D x10,I B x11,I H x12,I H x13] 0) fun w14:W=>
 ∃ x15 x16 x17 x18 x19:Int,(5=5∧At w14 ⟨yg4,0,N⟩ [I D x15,I D x16,I B x17,I H x18,I H x19])∧
(R (.returned (.tuple #[G #[I D x15,I D x16,I B x17,I H x18,I H x19],I L 0])) w14))))))))))
else
(May w ⟨yg4,0,N⟩ 5∧
(Let (putCells w ⟨yg4,0,N⟩ [I D 0,I D 0,I B 0,I H 0,I H 0] 0) fun w20:W=>
 ∃ x21 x22 x23 x24 x25:Int,(5=5∧At w20 ⟨yg4,0,N⟩ [I D x21,I D x22,I B x23,I H x24,I H x25])∧
(R (.returned (.tuple #[G #[I D x21,I D x22,I B x23,I H x24,I H x25],I L 210])) w20))))):=by kernel_rfl
def qq15.s (i0_0 i0_1 i0_2 i0_3 i0_4:Int) (I1:Option Addr) (in1 ic1:Nat) (w:W) (R:E):Prop:=
(Let (w.heap.size) fun g1:Nat=>
 Let (w.alloc (.cells #[I D i0_0,I D i0_1,I B i0_2,I H i0_3,I H i0_4] 39)) fun w2:W=>
 Let (w2.heap.size) fun g3:Nat=>
 Let (w2.alloc (.cells #[I D 0,I D 0,I B 0,I H 0,I H 0] 39)) fun w4:W=>
 ∃ x5:Int,w4.cell? ⟨g1,2,N⟩=some (I B x5)∧
((if (x5 == 6)=true then
(Leaf (qq15.j1 I1 in1 ic1 g1 g3 x5 (x5 == 6) (G #[I D i0_0,I D i0_1,I B i0_2,I H i0_3,I H i0_4]) U (I L 0) (P (some ⟨g1,2,N⟩)) (T (x5 == 6)) U U U U U U U U U U U U U U U U U U U U U U U U U U U U U U U U U U w4 R))
else
(Leaf (qq15.j1 I1 in1 ic1 g1 g3 x5 (x5 == 17) (G #[I D i0_0,I D i0_1,I B i0_2,I H i0_3,I H i0_4]) U (I L 0) (P (some ⟨g1,2,N⟩)) (T (x5 == 6)) (T (x5 == 17)) U U U U U U U U U U U U U U U U U U U U U U U U U U U U U U U U U w4 R)))))
theorem qq15.run (h:qq15.s i0_0 i0_1 i0_2 i0_3 i0_4 I1 in1 ic1 w R):Calls Tryz.prog 78 #[G #[I D i0_0,I D i0_1,I B i0_2,I H i0_3,I H i0_4],S I1 in1 ic1] w R:=
 calls_segk (ords:=qq15.ords) (J:=qq15.joins) ents mixed Tryz.func78 rfl h (by kernel_rfl)
def qq56.ords:Nat→Od
 | 1=>(.tk 0 (.tk 1 (.tk 2 (.tk 3 (.tk 4 (.tk 5 (.tk 6 (.tk 7 (.tk 8 (.tk 9 (.tk 10 (.tk 11 (.tk 12 (.tk 13 (.tk 14 .nil)))))))))))))))
 | _=>.nil
def qq56.joins (p:List Nat):Bool:=false
def qq56.s (I0:Option Addr) (in0 ic0:Nat) (i1:Int) (w:W) (R:E):Prop:=
(∃ S1:W→Prop,S1 w.drew∧
(Let (w.drew) fun w2:W=>
 ∃ a3:Addr,I0=some a3∧(0≤i1∧i1 < (in0:Int))∧
(∃ x4:Int,(∀ w',S1 w'→w'.cell? (a3.add i1.toNat)=some (I B x4))∧
(Let (L.wrap x4) fun x5:Int=>
 Let (L.wrap (x5 * 256)) fun x6:Int=>
 Let (L.wrap (i1+1)) fun x7:Int=>
 ∃ a8:Addr,I0=some a8∧(0≤x7∧x7 < (in0:Int))∧
(∃ x9:Int,(∀ w',S1 w'→w'.cell? (a8.add x7.toNat)=some (I B x9))∧
(Let (L.wrap x9) fun x10:Int=>
 Let (L.wrap (x6+x10)) fun x11:Int=>
 Let (H.wrap x11) fun x12:Int=>
 R (.returned (I H x12)) w2))))))
theorem qq56.run (h:qq56.s I0 in0 ic0 i1 w R):Calls Tryz.prog 100 #[S I0 in0 ic0,I L i1] w R:=
 calls_segk (ords:=qq56.ords) (J:=qq56.joins) ents mixed Tryz.func100 rfl h (by kernel_rfl)
end Go.Proofs.YtphbdmafchjjeaaGreatDoorS
