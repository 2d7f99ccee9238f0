import Derived.Test.YtphbdmafchjjeaaGreatDoorTQBSPureM
namespace Go.Proofs.YtphbdmafchjjeaaGreatDoorS
open Go Go.Proofs
open Go renaming undef → U, World → W, Value → V
open Go.Value renaming int → I, slice → S, bool → T, pointer → P, agg → G
open Go.IntKind renaming u8 → B, u16 → H, u32 → D, u64 → Q, i64 → L
open Option renaming none → N
set_option autoImplicit true
set_option relaxedAutoImplicit true
set_option maxRecDepth 100000
set_option linter.unusedVariables false
def qq50.ords:Nat→Od
 | 9=>(.tk 0 (.tk 1 (.tk 2 (.tk 3 (.tk 4 (.tk 6 (.tk 7 (.tk 8 (.tk 9 (.tk 10 (.on 5 (.on 11 (.tk 12 .nil)))))))))))))
 | _=>.nil
def qq50.joins (p:List Nat):Bool:=false
def qq50.l1 (n:Nat) (Y1:Option Addr) (yn1 yc1 yg2:Nat) (y6 y7:Int) (d0 d3 d4 d5 d8 d9 dA dB dC dD dE dF dG dH dI dJ dK dL dM dN dO dP dQ dR dS dT dU dV dW dX dY:V) (w:W) (R:E):Prop:=
 lseg Tryz.prog entE qq50.ords qq50.joins Tryz.f32 [1,1,1,1,0,1,0] [0,1,0,1,1,1,1] [] n [d0,S Y1 yn1 yc1,P (some ⟨yg2,0,N⟩),d3,d4,d5,I L y6,I L y7,d8,d9,dA,dB,dC,dD,dE,dF,dG,dH,dI,dJ,dK,dL,dM,dN,dO,dP,dQ,dR,dS,dT,dU,dV,dW,dX,dY] w R
abbrev qq50.L1 (n:Nat) (Y1:Option Addr) (yn1 yc1 yg2:Nat) (y6 y7:Int) (w:W) (R:E):Prop:=∀ d0 d3 d4 d5 d8 d9 dA dB dC dD dE dF dG dH dI dJ dK dL dM dN dO dP dQ dR dS dT dU dV dW dX dY,qq50.l1 n Y1 yn1 yc1 yg2 y6 y7 d0 d3 d4 d5 d8 d9 dA dB dC dD dE dF dG dH dI dJ dK dL dM dN dO dP dQ dR dS dT dU dV dW dX dY w R
theorem qq50.l1_eq {n:Nat}:qq50.l1 (n+1) Y1 yn1 yc1 yg2 y6 y7 d0 d3 d4 d5 d8 d9 dA dB dC dD dE dF dG dH dI dJ dK dL dM dN dO dP dQ dR dS dT dU dV dW dX dY w R =
((if decide (y7 < (yn1:Int))=true then
(∃ S1:W→Prop,S1 w.drew∧
(Let (w.drew) fun w2:W=>
 ∃ x3 x4 x5 x6 x7:Int,(5=5∧(∀ w',S1 w'→At w' ⟨yg2,0,N⟩ [I D x3,I D x4,I B x5,I H x6,I H x7]))∧
(∃ a8:Addr,Y1=some a8∧(0≤y7∧y7 < (yn1:Int))∧
(∃ x9 x10:Int,(2=2∧(∀ w',S1 w'→At w' (a8.add (y7.toNat * 2)) [I D x9,I H x10]))∧
(∃ x11 x12 x13 x14 x15:Int,(5=5∧(∀ w',S1 w'→At w' ⟨yg2,0,N⟩ [I D x11,I D x12,I B x13,I H x14,I H x15]))∧
(∃ a16:Addr,Y1=some a16∧(0≤y6∧y6 < (yn1:Int))∧
(∃ x17 x18:Int,(2=2∧(∀ w',S1 w'→At w' (a16.add (y6.toNat * 2)) [I D x17,I H x18]))∧
(Calls Tryz.prog 63 #[G #[I D x3,I D x4,I B x5,I H x6,I H x7],G #[I D x9,I H x10]] w2 (fun (e20:Ending) (w19:W)=>
 ∃ x21:Int,e20=.returned (I Q x21)∧
(S1 w19∧
(Calls Tryz.prog 63 #[G #[I D x11,I D x12,I B x13,I H x14,I H x15],G #[I D x17,I H x18]] w19 (fun (e23:Ending) (w22:W)=>
 ∃ x24:Int,e23=.returned (I Q x24)∧
(S1 w22∧
((if decide (x21 > x24)=true then
(Let (L.wrap (y7+1)) fun x25:Int=>
 qq50.l1 n Y1 yn1 yc1 yg2 y7 x25 d0 d3 d4 d5 d8 d9 dA dB dC dD (I L y7) (S Y1 yn1 yc1) (I L (yn1:Int)) (T (decide (y7 < (yn1:Int)))) (I L y7) (I L x25) (G #[I D x3,I D x4,I B x5,I H x6,I H x7]) (S Y1 yn1 yc1) (I L y7) (P (some (a8.add (y7.toNat * 2)))) (G #[I D x9,I H x10]) (I Q x21) (G #[I D x11,I D x12,I B x13,I H x14,I H x15]) (S Y1 yn1 yc1) (I L y6) (P (some (a16.add (y6.toNat * 2)))) (G #[I D x17,I H x18]) (I Q x24) (T (decide (x21 > x24))) (I L y7) dY w22 R)
else
(Let (L.wrap (y7+1)) fun x26:Int=>
 qq50.l1 n Y1 yn1 yc1 yg2 y6 x26 d0 d3 d4 d5 d8 d9 dA dB dC dD (I L y7) (S Y1 yn1 yc1) (I L (yn1:Int)) (T (decide (y7 < (yn1:Int)))) (I L y7) (I L x26) (G #[I D x3,I D x4,I B x5,I H x6,I H x7]) (S Y1 yn1 yc1) (I L y7) (P (some (a8.add (y7.toNat * 2)))) (G #[I D x9,I H x10]) (I Q x21) (G #[I D x11,I D x12,I B x13,I H x14,I H x15]) (S Y1 yn1 yc1) (I L y6) (P (some (a16.add (y6.toNat * 2)))) (G #[I D x17,I H x18]) (I Q x24) (T (decide (x21 > x24))) dX dY w22 R))))))))))))))))
else
(R (.returned (.tuple #[I L y6,I L 0])) w))):=by kernel_rfl
def qq50.s (i0_0 i0_1 i0_2 i0_3 i0_4:Int) (I1:Option Addr) (in1 ic1:Nat) (w:W) (R:E):Prop:=
(Let (w.heap.size) fun g1:Nat=>
 Let (w.alloc (.cells #[I D i0_0,I D i0_1,I B i0_2,I H i0_3,I H i0_4] 39)) fun w2:W=>
(if decide ((in1:Int) > 256)=true then
(R (.returned (.tuple #[I L 0,I L 2])) w2)
else
((if ((in1:Int) == 0)=true then
(R (.returned (.tuple #[I L 0,I L 232])) w2)
else
(∃ n3:Nat,qq50.l1 n3 I1 in1 ic1 g1 0 0 (G #[I D i0_0,I D i0_1,I B i0_2,I H i0_3,I H i0_4]) U (I L 0) (I L 0) (S I1 in1 ic1) (I L (in1:Int)) (T (decide ((in1:Int) > 256))) (S I1 in1 ic1) (I L (in1:Int)) (T ((in1:Int) == 0)) U U U U U U U U U U U U U U U U U U U U U w2 R)))))
theorem qq50.run (h:qq50.s i0_0 i0_1 i0_2 i0_3 i0_4 I1 in1 ic1 w R):Calls Tryz.prog 32 #[G #[I D i0_0,I D i0_1,I B i0_2,I H i0_3,I H i0_4],S I1 in1 ic1] w R:=
 calls_segk (ords:=qq50.ords) (J:=qq50.joins) ents mixed Tryz.func32 rfl h (by kernel_rfl)
def qq71.ords:Nat→Od
 | _=>.nil
def qq71.joins (p:List Nat):Bool:=false
def qq71.s (i0 i1:Int) (w:W) (R:E):Prop:=
((if (i0 == 0)=true then
(R (.returned (.tuple #[P N,I L 1])) w)
else
((if decide (i0 > i1)=true then
(R (.returned (.tuple #[P N,I L 1])) w)
else
(Let (L.wrap i0) fun x1:Int=>
 Let (L.wrap i1) fun x2:Int=>
 Let (w.heap.size) fun g3:Nat=>
 Let (w.alloc (.cells #[I L x1,I L x2,S N 0 0] 81)) fun w4:W=>
 R (.returned (.tuple #[P (some ⟨g3,0,N⟩),I L 0])) w4)))))
theorem qq71.run (h:qq71.s i0 i1 w R):Calls Tryz.prog 15 #[I H i0,I H i1] w R:=
 calls_segk (ords:=qq71.ords) (J:=qq71.joins) ents mixed Tryz.func15 rfl h (by kernel_rfl)
def qq12.ords:Nat→Od
 | _=>.nil
def qq12.joins (p:List Nat):Bool:=false
def qq12.l1 (n:Nat) (y0:Option Addr) (y1 y2 y7:Int) (d3 d4 d5 d6 d8 d9 dA dB dC dD dE dF dG dH dI dJ dK dL dM dN dO dP dQ dR dS dT dU dV dW dX dY dZ k0 k1 k2 k3:V) (w:W) (R:E):Prop:=
 lseg Tryz.prog entE qq12.ords qq12.joins Tryz.f40 [1,0,1,0] [0,1,0,1] [] n [P y0,I B y1,I L y2,d3,d4,d5,d6,I L y7,d8,d9,dA,dB,dC,dD,dE,dF,dG,dH,dI,dJ,dK,dL,dM,dN,dO,dP,dQ,dR,dS,dT,dU,dV,dW,dX,dY,dZ,k0,k1,k2,k3] w R
abbrev qq12.L1 (n:Nat) (y0:Option Addr) (y1 y2 y7:Int) (w:W) (R:E):Prop:=∀ d3 d4 d5 d6 d8 d9 dA dB dC dD dE dF dG dH dI dJ dK dL dM dN dO dP dQ dR dS dT dU dV dW dX dY dZ k0 k1 k2 k3,qq12.l1 n y0 y1 y2 y7 d3 d4 d5 d6 d8 d9 dA dB dC dD dE dF dG dH dI dJ dK dL dM dN dO dP dQ dR dS dT dU dV dW dX dY dZ k0 k1 k2 k3 w R
theorem qq12.l1_eq {n:Nat}:qq12.l1 (n+1) y0 y1 y2 y7 d3 d4 d5 d6 d8 d9 dA dB dC dD dE dF dG dH dI dJ dK dL dM dN dO dP dQ dR dS dT dU dV dW dX dY dZ k0 k1 k2 k3 w R =
(∃ a1:Addr,y0=some a1∧
(∃ (A2:Option Addr) (n2_ c2_:Nat),w.cell? (a1.add 2)=some (S A2 n2_ c2_)∧
((if decide (y7 < (n2_:Int))=true then
(∃ a3:Addr,y0=some a3∧
(∃ (A4:Option Addr) (n4_ c4_:Nat),w.cell? (a3.add 2)=some (S A4 n4_ c4_)∧
(∃ a5:Addr,A4=some a5∧(0≤y7∧y7 < (n4_:Int))∧
(∃ x6:Int,w.cell? (a5.add (y7.toNat * 2))=some (I B x6)∧
((if (x6 == y1)=true then
(∃ a7:Addr,y0=some a7∧
(∃ (A8:Option Addr) (n8_ c8_:Nat),w.cell? (a7.add 2)=some (S A8 n8_ c8_)∧
(∃ a9:Addr,A8=some a9∧(0≤y7∧y7 < (n8_:Int))∧
(∃ x10:Int,w.cell? ((a9.add (y7.toNat * 2)).add 1)=some (I L x10)∧
((if (x10 == y2)=true then
(R (.returned (I L y7)) w)
else
(Let (L.wrap (y7+1)) fun x11:Int=>
 qq12.l1 n y0 y1 y2 x11 d3 d4 d5 d6 (I L y7) (P y0) (P (some a1)) (P (some (a1.add 2))) (S A2 n2_ c2_) (I L (n2_:Int)) (T (decide (y7 < (n2_:Int)))) (I L y7) (I L x11) (P y0) (P (some a3)) (P (some (a3.add 2))) (S A4 n4_ c4_) (I L y7) (P (some (a5.add (y7.toNat * 2)))) (P (some (a5.add (y7.toNat * 2)))) (I B x6) (I B y1) (T (x6 == y1)) (T true) (P y0) (P (some a7)) (P (some (a7.add 2))) (S A8 n8_ c8_) (I L y7) (P (some (a9.add (y7.toNat * 2)))) (P (some ((a9.add (y7.toNat * 2)).add 1))) (I L x10) (I L y2) (T (x10 == y2)) (T (x10 == y2)) k3 w R)))))))
else
(Let (L.wrap (y7+1)) fun x12:Int=>
 qq12.l1 n y0 y1 y2 x12 d3 d4 d5 d6 (I L y7) (P y0) (P (some a1)) (P (some (a1.add 2))) (S A2 n2_ c2_) (I L (n2_:Int)) (T (decide (y7 < (n2_:Int)))) (I L y7) (I L x12) (P y0) (P (some a3)) (P (some (a3.add 2))) (S A4 n4_ c4_) (I L y7) (P (some (a5.add (y7.toNat * 2)))) (P (some (a5.add (y7.toNat * 2)))) (I B x6) (I B y1) (T (x6 == y1)) (T false) U U U U U U U U U U (T false) k3 w R)))))))
else
(R (.returned (I L (-1))) w))))):=by kernel_rfl
def qq12.s (i0:Option Addr) (i1 i2:Int) (w:W) (R:E):Prop:=
(∃ n1:Nat,qq12.l1 n1 i0 i1 i2 0 U U U (I L 0) U U U U U U U U U U U U U U U U U U U U U U U U U U U U U U U U w R)
theorem qq12.run (h:qq12.s i0 i1 i2 w R):Calls Tryz.prog 40 #[P i0,I B i1,I L i2] w R:=
 calls_segk (ords:=qq12.ords) (J:=qq12.joins) ents mixed Tryz.func40 rfl h (by kernel_rfl)
def qq3.ords:Nat→Od
 | 4=>(.tk 0 (.tk 1 (.tk 2 (.tk 3 (.tk 4 (.tk 5 (.tk 6 (.tk 7 (.tk 8 (.tk 9 (.tk 10 .nil)))))))))))
 | 8=>(.tk 0 (.tk 1 (.tk 2 (.tk 3 (.tk 4 (.tk 5 (.tk 6 (.tk 7 (.tk 8 (.tk 9 (.tk 10 (.tk 11 (.tk 12 (.tk 13 (.tk 14 (.tk 15 .nil))))))))))))))))
 | _=>.nil
def qq3.joins (p:List Nat):Bool:=p == [1,0,1,1] || p == [1,1,1]
def qq3.j1 (y0:Option Addr) (y1 y8:Int) (y27:Bool) (d2 d3 d4 d5 d6 d7 d9 dA dB dC dD dE dF dG dH dI dJ dK dL dM dN dO dP dQ dS dT dU dV dW dX dY dZ k0 k1 k2 k3 k4 k5 k6 k7 k8 k9 kA kB kC kD kE kF kG kH kI kJ kK kL kM kN kO kP kQ kR kS kT kU kV kW kX kY kZ v0 v1 v2 v3 v4 v5 v6 v7 v8:V) (w:W) (R:E):Prop:=
 seg Tryz.prog entE qq3.ords qq3.joins Tryz.f23 [1,1,0,1] [1,0,1,1] [] [P y0,I B y1,d2,d3,d4,d5,d6,d7,I L y8,d9,dA,dB,dC,dD,dE,dF,dG,dH,dI,dJ,dK,dL,dM,dN,dO,dP,dQ,T y27,dS,dT,dU,dV,dW,dX,dY,dZ,k0,k1,k2,k3,k4,k5,k6,k7,k8,k9,kA,kB,kC,kD,kE,kF,kG,kH,kI,kJ,kK,kL,kM,kN,kO,kP,kQ,kR,kS,kT,kU,kV,kW,kX,kY,kZ,v0,v1,v2,v3,v4,v5,v6,v7,v8] w R
def qq3.j2 (y0:Option Addr) (y1 y8:Int) (d2 d3 d4 d5 d6 d7 d9 dA dB dC dD dE dF dG dH dI dJ dK dL dM dN dO dP dQ dR dS dT dU dV dW dX dY dZ k0 k1 k2 k3 k4 k5 k6 k7 k8 k9 kA kB kC kD kE kF kG kH kI kJ kK kL kM kN kO kP kQ kR kS kT kU kV kW kX kY kZ v0 v1 v2 v3 v4 v5 v6 v7 v8:V) (w:W) (R:E):Prop:=
 seg Tryz.prog entE qq3.ords qq3.joins Tryz.f23 [1,1,1] [1,1,1] [] [P y0,I B y1,d2,d3,d4,d5,d6,d7,I L y8,d9,dA,dB,dC,dD,dE,dF,dG,dH,dI,dJ,dK,dL,dM,dN,dO,dP,dQ,dR,dS,dT,dU,dV,dW,dX,dY,dZ,k0,k1,k2,k3,k4,k5,k6,k7,k8,k9,kA,kB,kC,kD,kE,kF,kG,kH,kI,kJ,kK,kL,kM,kN,kO,kP,kQ,kR,kS,kT,kU,kV,kW,kX,kY,kZ,v0,v1,v2,v3,v4,v5,v6,v7,v8] w R
def qq3.l1 (n:Nat) (y0:Option Addr) (y1 y8 y9 y10:Int) (d2 d3 d4 d5 d6 d7 dB dC dD dE dF dG dH dI dJ dK dL dM dN dO dP dQ dR dS dT dU dV dW dX dY dZ k0 k1 k2 k3 k4 k5 k6 k7 k8 k9 kA kB kC kD kE kF kG kH kI kJ kK kL kM kN kO kP kQ kR kS kT kU kV kW kX kY kZ v0 v1 v2 v3 v4 v5 v6 v7 v8:V) (w:W) (R:E):Prop:=
 lseg Tryz.prog entE qq3.ords qq3.joins Tryz.f23 [1,1,1,1,0,1,0] [0,1,0,1,1,1,1] [] n [P y0,I B y1,d2,d3,d4,d5,d6,d7,I L y8,I L y9,I L y10,dB,dC,dD,dE,dF,dG,dH,dI,dJ,dK,dL,dM,dN,dO,dP,dQ,dR,dS,dT,dU,dV,dW,dX,dY,dZ,k0,k1,k2,k3,k4,k5,k6,k7,k8,k9,kA,kB,kC,kD,kE,kF,kG,kH,kI,kJ,kK,kL,kM,kN,kO,kP,kQ,kR,kS,kT,kU,kV,kW,kX,kY,kZ,v0,v1,v2,v3,v4,v5,v6,v7,v8] w R
abbrev qq3.J1 (y0:Option Addr) (y1 y8:Int) (y27:Bool) (w:W) (R:E):Prop:=∀ d2 d3 d4 d5 d6 d7 d9 dA dB dC dD dE dF dG dH dI dJ dK dL dM dN dO dP dQ dS dT dU dV dW dX dY dZ k0 k1 k2 k3 k4 k5 k6 k7 k8 k9 kA kB kC kD kE kF kG kH kI kJ kK kL kM kN kO kP kQ kR kS kT kU kV kW kX kY kZ v0 v1 v2 v3 v4 v5 v6 v7 v8,qq3.j1 y0 y1 y8 y27 d2 d3 d4 d5 d6 d7 d9 dA dB dC dD dE dF dG dH dI dJ dK dL dM dN dO dP dQ dS dT dU dV dW dX dY dZ k0 k1 k2 k3 k4 k5 k6 k7 k8 k9 kA kB kC kD kE kF kG kH kI kJ kK kL kM kN kO kP kQ kR kS kT kU kV kW kX kY kZ v0 v1 v2 v3 v4 v5 v6 v7 v8 w R
abbrev qq3.J2 (y0:Option Addr) (y1 y8:Int) (w:W) (R:E):Prop:=∀ d2 d3 d4 d5 d6 d7 d9 dA dB dC dD dE dF dG dH dI dJ dK dL dM dN dO dP dQ dR dS dT dU dV dW dX dY dZ k0 k1 k2 k3 k4 k5 k6 k7 k8 k9 kA kB kC kD kE kF kG kH kI kJ kK kL kM kN kO kP kQ kR kS kT kU kV kW kX kY kZ v0 v1 v2 v3 v4 v5 v6 v7 v8,qq3.j2 y0 y1 y8 d2 d3 d4 d5 d6 d7 d9 dA dB dC dD dE dF dG dH dI dJ dK dL dM dN dO dP dQ dR dS dT dU dV dW dX dY dZ k0 k1 k2 k3 k4 k5 k6 k7 k8 k9 kA kB kC kD kE kF kG kH kI kJ kK kL kM kN kO kP kQ kR kS kT kU kV kW kX kY kZ v0 v1 v2 v3 v4 v5 v6 v7 v8 w R
abbrev qq3.L1 (n:Nat) (y0:Option Addr) (y1 y8 y9 y10:Int) (w:W) (R:E):Prop:=∀ d2 d3 d4 d5 d6 d7 dB dC dD dE dF dG dH dI dJ dK dL dM dN dO dP dQ dR dS dT dU dV dW dX dY dZ k0 k1 k2 k3 k4 k5 k6 k7 k8 k9 kA kB kC kD kE kF kG kH kI kJ kK kL kM kN kO kP kQ kR kS kT kU kV kW kX kY kZ v0 v1 v2 v3 v4 v5 v6 v7 v8,qq3.l1 n y0 y1 y8 y9 y10 d2 d3 d4 d5 d6 d7 dB dC dD dE dF dG dH dI dJ dK dL dM dN dO dP dQ dR dS dT dU dV dW dX dY dZ k0 k1 k2 k3 k4 k5 k6 k7 k8 k9 kA kB kC kD kE kF kG kH kI kJ kK kL kM kN kO kP kQ kR kS kT kU kV kW kX kY kZ v0 v1 v2 v3 v4 v5 v6 v7 v8 w R
theorem qq3.j1_eq:qq3.j1 y0 y1 y8 y27 d2 d3 d4 d5 d6 d7 d9 dA dB dC dD dE dF dG dH dI dJ dK dL dM dN dO dP dQ dS dT dU dV dW dX dY dZ k0 k1 k2 k3 k4 k5 k6 k7 k8 k9 kA kB kC kD kE kF kG kH kI kJ kK kL kM kN kO kP kQ kR kS kT kU kV kW kX kY kZ v0 v1 v2 v3 v4 v5 v6 v7 v8 w R =
((if y27=true then
(∃ a1:Addr,y0=some a1∧
(∃ x2:Int,w.cell? a1=some (I L x2)∧
(Leaf (qq3.j2 y0 y1 x2 d2 d3 d4 d5 d6 d7 d9 dA dB dC dD dE dF dG dH dI dJ dK dL dM dN dO dP dQ (T y27) (P y0) (P (some a1)) (P (some a1)) (I L x2) dW dX dY dZ k0 k1 k2 k3 k4 k5 k6 k7 k8 k9 kA kB kC kD kE kF kG kH kI kJ kK kL kM kN kO kP kQ kR kS kT kU kV kW kX kY kZ v0 v1 v2 v3 v4 v5 v6 v7 v8 w R))))
else
(Leaf (qq3.j2 y0 y1 y8 d2 d3 d4 d5 d6 d7 d9 dA dB dC dD dE dF dG dH dI dJ dK dL dM dN dO dP dQ (T y27) dS dT dU dV dW dX dY dZ k0 k1 k2 k3 k4 k5 k6 k7 k8 k9 kA kB kC kD kE kF kG kH kI kJ kK kL kM kN kO kP kQ kR kS kT kU kV kW kX kY kZ v0 v1 v2 v3 v4 v5 v6 v7 v8 w R)))):=by kernel_rfl
theorem qq3.j2_eq:qq3.j2 y0 y1 y8 d2 d3 d4 d5 d6 d7 d9 dA dB dC dD dE dF dG dH dI dJ dK dL dM dN dO dP dQ dR dS dT dU dV dW dX dY dZ k0 k1 k2 k3 k4 k5 k6 k7 k8 k9 kA kB kC kD kE kF kG kH kI kJ kK kL kM kN kO kP kQ kR kS kT kU kV kW kX kY kZ v0 v1 v2 v3 v4 v5 v6 v7 v8 w R =
(∃ S1:W→Prop,S1 w.drew∧
(Let (w.drew) fun w2:W=>
 ∃ a3:Addr,y0=some a3∧
(∃ x4:Int,(∀ w',S1 w'→w'.cell? (a3.add 1)=some (I L x4))∧
(∃ a5:Addr,y0=some a5∧
(∃ x6:Int,(∀ w',S1 w'→w'.cell? a5=some (I L x6))∧
(Let (L.wrap (x4-x6)) fun x7:Int=>
 Let (L.wrap (x7+1)) fun x8:Int=>
 ∃ n9:Nat,qq3.l1 n9 y0 y1 y8 x8 0 d2 d3 d4 d5 d6 d7 dB dC dD dE dF dG dH dI dJ dK dL dM dN dO dP dQ dR dS dT dU dV (P y0) (P (some a3)) (P (some (a3.add 1))) (I L x4) (P y0) (P (some a5)) (P (some a5)) (I L x6) (I L x7) (I L x8) k6 k7 k8 k9 kA kB kC kD kE kF kG kH kI kJ kK kL kM kN kO kP kQ kR kS kT kU kV kW kX kY kZ v0 v1 v2 v3 v4 v5 v6 v7 v8 w2 R)))))):=by kernel_rfl
theorem qq3.l1_eq {n:Nat}:qq3.l1 (n+1) y0 y1 y8 y9 y10 d2 d3 d4 d5 d6 d7 dB dC dD dE dF dG dH dI dJ dK dL dM dN dO dP dQ dR dS dT dU dV dW dX dY dZ k0 k1 k2 k3 k4 k5 k6 k7 k8 k9 kA kB kC kD kE kF kG kH kI kJ kK kL kM kN kO kP kQ kR kS kT kU kV kW kX kY kZ v0 v1 v2 v3 v4 v5 v6 v7 v8 w R =
((if decide (y10 < y9)=true then
(∃ S1:W→Prop,S1 w.drew∧
(Let (w.drew) fun w2:W=>
 ∃ a3:Addr,y0=some a3∧
(∃ x4:Int,(∀ w',S1 w'→w'.cell? a3=some (I L x4))∧
(∃ a5:Addr,y0=some a5∧
(∃ x6:Int,(∀ w',S1 w'→w'.cell? a5=some (I L x6))∧
(Let (L.wrap (y8-x6)) fun x7:Int=>
 Let (L.wrap (x7+y10)) fun x8:Int=>
 y9≠0∧
(Let (Int.tmod x8 y9) fun x9:Int=>
 Let (L.wrap (x4+x9)) fun x10:Int=>
 Calls Tryz.prog 40 #[P y0,I B y1,I L x10] w2 (fun (e12:Ending) (w11:W)=>
 ∃ x13:Int,e12=.returned (I L x13)∧
((if decide (x13 < 0)=true then
(∃ a14:Addr,y0=some a14∧
(∃ (A15:Option Addr) (n15_ c15_:Nat),w11.cell? (a14.add 2)=some (S A15 n15_ c15_)∧
(Let (w11.heap.size) fun g16:Nat=>
 Let (w11.alloc (.cells #[I B y1,I L x10] 98)) fun w17:W=>
 AppE w17 2 16 98 [I B 0,I L 0] A15 n15_ c15_ (some ⟨g16,0,N⟩) 1 (fun (A18:Option Addr) (c19:Nat) (w20:W)=>
 ∃ a21:Addr,y0=some a21∧
(MayC w20 (a21.add 2)∧
(Let (w20.setCell (a21.add 2) (S A18 (n15_+1) c19)) fun w22:W=>
 Let (H.wrap x10) fun x23:Int=>
 R (.returned (.tuple #[I H x23,I L 0])) w22))))))
else
(Let (L.wrap (y10+1)) fun x24:Int=>
 qq3.l1 n y0 y1 y8 y9 x24 d2 d3 d4 d5 d6 d7 (I L x10) dC dD dE dF dG dH dI dJ dK dL dM dN dO dP dQ dR dS dT dU dV dW dX dY dZ k0 k1 k2 k3 k4 k5 (I L y10) (I L y9) (T (decide (y10 < y9))) (I L y10) (I L x24) (P y0) (P (some a3)) (P (some a3)) (I L x4) (I L y8) (P y0) (P (some a5)) (P (some a5)) (I L x6) (I L x7) (I L y10) (I L x8) (I L y9) (I L x9) (I L x10) (P y0) (I B y1) (I L x10) (I L x13) (T (decide (x13 < 0))) kV kW kX kY kZ v0 v1 v2 v3 v4 v5 v6 v7 v8 w11 R)))))))))))
else
(R (.returned (.tuple #[I H 0,I L 231])) w))):=by kernel_rfl
def qq3.s (i0:Option Addr) (i1 i2:Int) (w:W) (R:E):Prop:=
(Let (L.wrap i2) fun x1:Int=>
 ∃ a2:Addr,i0=some a2∧
(∃ x3:Int,w.cell? a2=some (I L x3)∧
((if decide (x1 < x3)=true then
(Leaf (qq3.j1 i0 i1 x1 true (I H i2) U U U (I H 0) (I L 0) U U U (I H i2) (I L x1) (I L x1) (P i0) (P (some a2)) (P (some a2)) (I L x3) (T (decide (x1 < x3))) (T true) U U U U U U U U U U U U U U U U U U U U U U U U U U U U U U U U U U U U U U U U U U U U U U U U U U U U U U U U U U U w R))
else
(∃ a4:Addr,i0=some a4∧
(∃ x5:Int,w.cell? (a4.add 1)=some (I L x5)∧
(Leaf (qq3.j1 i0 i1 x1 (decide (x1 > x5)) (I H i2) U U U (I H 0) (I L 0) U U U (I H i2) (I L x1) (I L x1) (P i0) (P (some a2)) (P (some a2)) (I L x3) (T (decide (x1 < x3))) (T false) (I L x1) (P i0) (P (some a4)) (P (some (a4.add 1))) (I L x5) (T (decide (x1 > x5))) U U U U U U U U U U U U U U U U U U U U U U U U U U U U U U U U U U U U U U U U U U U U U U U U U U U U U w R))))))))
theorem qq3.run (h:qq3.s i0 i1 i2 w R):Calls Tryz.prog 23 #[P i0,I B i1,I H i2] w R:=
 calls_segk (ords:=qq3.ords) (J:=qq3.joins) ents mixed Tryz.func23 rfl h (by kernel_rfl)
def qq2.ords:Nat→Od
 | 4=>(.tk 0 (.tk 1 (.tk 2 (.tk 3 (.tk 4 (.tk 5 (.tk 6 (.tk 7 (.tk 8 (.tk 9 (.tk 10 (.tk 11 (.tk 12 (.tk 13 (.on 14 (.tk 15 (.tk 16 (.last 17))))))))))))))))))
 | _=>.nil
def qq2.joins (p:List Nat):Bool:=false
def qq2.s (i0:Option Addr) (i1 i2:Int) (w:W) (R:E):Prop:=
(Let (L.wrap i2) fun x1:Int=>
 Calls Tryz.prog 40 #[P i0,I B i1,I L x1] w (fun (e3:Ending) (w2:W)=>
 ∃ x4:Int,e3=.returned (I L x4)∧
((if decide (x4 < 0)=true then
(R (.returned (I L 231)) w2)
else
(∃ S5:W→Prop,S5 w2.drew∧
(Let (w2.drew) fun w6:W=>
 ∃ a7:Addr,i0=some a7∧
(∃ (A8:Option Addr) (n8_ c8_:Nat),(∀ w',S5 w'→w'.cell? (a7.add 2)=some (S A8 n8_ c8_))∧
((0≤x4∧x4≤(c8_:Int))∧
(∃ a9:Addr,i0=some a9∧
(∃ (A10:Option Addr) (n10_ c10_:Nat),(∀ w',S5 w'→w'.cell? (a9.add 2)=some (S A10 n10_ c10_))∧
(Let (L.wrap (x4+1)) fun x11:Int=>
(0≤x11∧x11≤(n10_:Int))∧
(AppE w6 2 16 98 [I B 0,I L 0] A8 x4.toNat c8_ (cutA A10 x11.toNat c10_ 2) (n10_-x11.toNat) (fun (A12:Option Addr) (c13:Nat) (w14:W)=>
 S5 w14∧
(∃ a15:Addr,i0=some a15∧
(MayC w14 (a15.add 2)∧
(Let (w14.setCell (a15.add 2) (S A12 (x4.toNat+(n10_-x11.toNat)) c13)) fun w16:W=>
 R (.returned (I L 0)) w16))))))))))))))))
theorem qq2.run (h:qq2.s i0 i1 i2 w R):Calls Tryz.prog 25 #[P i0,I B i1,I H i2] w R:=
 calls_segk (ords:=qq2.ords) (J:=qq2.joins) ents mixed Tryz.func25 rfl h (by kernel_rfl)
def qq1.ords:Nat→Od
 | _=>.nil
def qq1.joins (p:List Nat):Bool:=false
def qq1.l1 (n:Nat) (y0:Option Addr) (y1 y5 y6:Int) (d2 d3 d4 d7 d8 d9 dA dB dC dD dE dF dG dH dI dJ dK dL dM dN dO dP dQ dR dS:V) (w:W) (R:E):Prop:=
 lseg Tryz.prog entE qq1.ords qq1.joins Tryz.f26 [1,1,0,1,0] [0,1,0,1,1] [] n [P y0,I B y1,d2,d3,d4,I L y5,I L y6,d7,d8,d9,dA,dB,dC,dD,dE,dF,dG,dH,dI,dJ,dK,dL,dM,dN,dO,dP,dQ,dR,dS] w R
abbrev qq1.L1 (n:Nat) (y0:Option Addr) (y1 y5 y6:Int) (w:W) (R:E):Prop:=∀ d2 d3 d4 d7 d8 d9 dA dB dC dD dE dF dG dH dI dJ dK dL dM dN dO dP dQ dR dS,qq1.l1 n y0 y1 y5 y6 d2 d3 d4 d7 d8 d9 dA dB dC dD dE dF dG dH dI dJ dK dL dM dN dO dP dQ dR dS w R
theorem qq1.l1_eq {n:Nat}:qq1.l1 (n+1) y0 y1 y5 y6 d2 d3 d4 d7 d8 d9 dA dB dC dD dE dF dG dH dI dJ dK dL dM dN dO dP dQ dR dS w R =
(∃ a1:Addr,y0=some a1∧
(∃ (A2:Option Addr) (n2_ c2_:Nat),w.cell? (a1.add 2)=some (S A2 n2_ c2_)∧
((if decide (y6 < (n2_:Int))=true then
(∃ a3:Addr,y0=some a3∧
(∃ (A4:Option Addr) (n4_ c4_:Nat),w.cell? (a3.add 2)=some (S A4 n4_ c4_)∧
(∃ a5:Addr,A4=some a5∧(0≤y6∧y6 < (n4_:Int))∧
(∃ x6:Int,w.cell? (a5.add (y6.toNat * 2))=some (I B x6)∧
((if (x6 == y1)=true then
(Let (L.wrap (y5+1)) fun x7:Int=>
 Let (L.wrap (y6+1)) fun x8:Int=>
 qq1.l1 n y0 y1 x7 x8 d2 d3 d4 (I L y6) (P y0) (P (some a1)) (P (some (a1.add 2))) (S A2 n2_ c2_) (I L (n2_:Int)) (T (decide (y6 < (n2_:Int)))) (I L y6) (I L x8) (P y0) (P (some a3)) (P (some (a3.add 2))) (S A4 n4_ c4_) (I L y6) (P (some (a5.add (y6.toNat * 2)))) (P (some (a5.add (y6.toNat * 2)))) (I B x6) (I B y1) (T (x6 == y1)) (I L y5) (I L x7) dS w R)
else
(Let (L.wrap (y6+1)) fun x9:Int=>
 qq1.l1 n y0 y1 y5 x9 d2 d3 d4 (I L y6) (P y0) (P (some a1)) (P (some (a1.add 2))) (S A2 n2_ c2_) (I L (n2_:Int)) (T (decide (y6 < (n2_:Int)))) (I L y6) (I L x9) (P y0) (P (some a3)) (P (some (a3.add 2))) (S A4 n4_ c4_) (I L y6) (P (some (a5.add (y6.toNat * 2)))) (P (some (a5.add (y6.toNat * 2)))) (I B x6) (I B y1) (T (x6 == y1)) dQ dR dS w R)))))))
else
(R (.returned (I L y5)) w))))):=by kernel_rfl
def qq1.s (i0:Option Addr) (i1:Int) (w:W) (R:E):Prop:=
(∃ n1:Nat,qq1.l1 n1 i0 i1 0 0 U U (I L 0) U U U U U U U U U U U U U U U U U U U U U U w R)
theorem qq1.run (h:qq1.s i0 i1 w R):Calls Tryz.prog 26 #[P i0,I B i1] w R:=
 calls_segk (ords:=qq1.ords) (J:=qq1.joins) ents mixed Tryz.func26 rfl h (by kernel_rfl)
end Go.Proofs.YtphbdmafchjjeaaGreatDoorS
