import Derived.Test.YtphbdmafchjjeaaGreatDoorTQBSPureM
namespace Go.Proofs.YtphbdmafchjjeaaGreatDoorS
open Go Go.Proofs
open Go renaming undef → U, World → W, Value → V
open Go.Value renaming int → I, slice → S, bool → T, pointer → P, agg → G
open Go.IntKind renaming u8 → B, u16 → H, u32 → D, u64 → Q, i64 → L
open Option renaming none → N
set_option autoImplicit true
set_option relaxedAutoImplicit true
set_option maxRecDepth 100000
set_option linter.unusedVariables false
def qq46.ords:Nat→Od
 | _=>.nil
def qq46.joins (p:List Nat):Bool:=false
def qq46.s (i0_0 i0_1 i0_2 i0_3 i0_4 i1_0 i1_1 i1_2 i1_3 i1_4:Int) (w:W) (R:E):Prop:=
(Let (w.heap.size) fun g1:Nat=>
 Let (w.alloc (.cells #[I D i0_0,I D i0_1,I B i0_2,I H i0_3,I H i0_4] 39)) fun w2:W=>
 Let (w2.heap.size) fun g3:Nat=>
 Let (w2.alloc (.cells #[I D i1_0,I D i1_1,I B i1_2,I H i1_3,I H i1_4] 39)) fun w4:W=>
 ∃ x5:Int,w4.cell? ⟨g1,2,N⟩=some (I B x5)∧
(∃ x6:Int,w4.cell? ⟨g3,2,N⟩=some (I B x6)∧
((if (x5 == x6)=true then
(∃ x7:Int,w4.cell? ⟨g1,2,N⟩=some (I B x7)∧
((if (x7 != 1)=true then
(R (.returned (T true)) w4)
else
(∃ x8:Int,w4.cell? ⟨g3,3,N⟩=some (I H x8)∧
(∃ x9:Int,w4.cell? ⟨g3,4,N⟩=some (I H x9)∧
(R (.returned (T (x8 == x9))) w4))))))
else
(R (.returned (T false)) w4)))))
theorem qq46.run (h:qq46.s i0_0 i0_1 i0_2 i0_3 i0_4 i1_0 i1_1 i1_2 i1_3 i1_4 w R):Calls Tryz.prog 44 #[G #[I D i0_0,I D i0_1,I B i0_2,I H i0_3,I H i0_4],G #[I D i1_0,I D i1_1,I B i1_2,I H i1_3,I H i1_4]] w R:=
 calls_segk (ords:=qq46.ords) (J:=qq46.joins) ents mixed Tryz.func44 rfl h (by kernel_rfl)
def qq28.ords:Nat→Od
 | _=>.nil
def qq28.joins (p:List Nat):Bool:=false
def qq28.l1 (n:Nat) (Y0:Option Addr) (yn0 yc0:Nat) (Y3:Option Addr) (yn3 yc3:Nat) (y4:Int) (d1 d2 d5 d6 d7 d8 d9 dA dB dC dD dE dF dG dH dI:V) (w:W) (R:E):Prop:=
 lseg Tryz.prog entE qq28.ords qq28.joins Tryz.f45 [1,1,0,1,0] [0,1,0,1,1] [] n [S Y0 yn0 yc0,d1,d2,S Y3 yn3 yc3,I L y4,d5,d6,d7,d8,d9,dA,dB,dC,dD,dE,dF,dG,dH,dI] w R
abbrev qq28.L1 (n:Nat) (Y0:Option Addr) (yn0 yc0:Nat) (Y3:Option Addr) (yn3 yc3:Nat) (y4:Int) (w:W) (R:E):Prop:=∀ d1 d2 d5 d6 d7 d8 d9 dA dB dC dD dE dF dG dH dI,qq28.l1 n Y0 yn0 yc0 Y3 yn3 yc3 y4 d1 d2 d5 d6 d7 d8 d9 dA dB dC dD dE dF dG dH dI w R
theorem qq28.l1_eq {n:Nat}:qq28.l1 (n+1) Y0 yn0 yc0 Y3 yn3 yc3 y4 d1 d2 d5 d6 d7 d8 d9 dA dB dC dD dE dF dG dH dI w R =
((if decide (y4 < (yn0:Int))=true then
(∃ a1:Addr,Y0=some a1∧(0≤y4∧y4 < (yn0:Int))∧
(∃ x2:Int,w.cell? (a1.add y4.toNat)=some (I B x2)∧
(Let (w.heap.size) fun g3:Nat=>
 Let (w.alloc (.cells #[I B x2] 5)) fun w4:W=>
 AppE w4 1 1 5 [I B 0] Y3 yn3 yc3 (some ⟨g3,0,N⟩) 1 (fun (A5:Option Addr) (c6:Nat) (w7:W)=>
 Let (L.wrap (y4+1)) fun x8:Int=>
 qq28.l1 n Y0 yn0 yc0 A5 (yn3+1) c6 x8 d1 d2 (I L y4) (S Y0 yn0 yc0) (I L (yn0:Int)) (T (decide (y4 < (yn0:Int)))) (I L y4) (I L x8) (S Y3 yn3 yc3) (S Y0 yn0 yc0) (I L y4) (P (some (a1.add y4.toNat))) (I B x2) (S (some ⟨g3,0,N⟩) 1 1) (S A5 (yn3+1) c6) dI w7 R))))
else
(R (.returned (S Y3 yn3 yc3)) w))):=by kernel_rfl
def qq28.s (I0:Option Addr) (in0 ic0:Nat) (w:W) (R:E):Prop:=
(∃ n1:Nat,qq28.l1 n1 I0 in0 ic0 N 0 0 0 U (S N 0 0) U U U U U U U U U U U U U U w R)
theorem qq28.run (h:qq28.s I0 in0 ic0 w R):Calls Tryz.prog 45 #[S I0 in0 ic0] w R:=
 calls_segk (ords:=qq28.ords) (J:=qq28.joins) ents mixed Tryz.func45 rfl h (by kernel_rfl)
def qq45.ords:Nat→Od
 | 6=>(.tk 0 (.tk 2 (.tk 3 (.tk 4 (.tk 5 (.on 1 (.on 6 (.tk 7 .nil))))))))
 | _=>.nil
def qq45.joins (p:List Nat):Bool:=p == [1,0,1,1,1,0,1,0,1,1,1,1] || p == [1,0,1,1,1,1,1,1,1] || p == [1,1,0,1,0,1,1,1,1,1,1,1] || p == [1,1,1,1,1,1,1,1] || p == [1,0,1,1,1,1,1,1,1,1]
def qq45.j1 (Y9:Option Addr) (yn9 yc9:Nat) (y53:Bool) (d0 d1 d2 d3 d4 d5 d6 d7 d8 dA dB dC dD dE dF dG dH dI dJ dK dL dM dN dO dP dQ dR dS dT dU dV dW dX dY dZ k0 k1 k2 k3 k4 k5 k6 k7 k8 k9 kA kB kC kD kE kF kG kI kJ kK kL kM kN kO kP kQ kR kS kT kU kV kW kX kY kZ v0 v1 v2 v3 v4 v5 v6 v7 v8 v9 vA vB vC vD vE vF vG vH vI vJ vK vL vM vN vO vP vQ vR vS:V) (w:W) (R:E):Prop:=
 seg Tryz.prog entE qq45.ords qq45.joins Tryz.f46 [1,1,1,1,0,1,0,1,1,1,0,1] [1,0,1,1,1,0,1,0,1,1,1,1] [] [d0,d1,d2,d3,d4,d5,d6,d7,d8,S Y9 yn9 yc9,dA,dB,dC,dD,dE,dF,dG,dH,dI,dJ,dK,dL,dM,dN,dO,dP,dQ,dR,dS,dT,dU,dV,dW,dX,dY,dZ,k0,k1,k2,k3,k4,k5,k6,k7,k8,k9,kA,kB,kC,kD,kE,kF,kG,T y53,kI,kJ,kK,kL,kM,kN,kO,kP,kQ,kR,kS,kT,kU,kV,kW,kX,kY,kZ,v0,v1,v2,v3,v4,v5,v6,v7,v8,v9,vA,vB,vC,vD,vE,vF,vG,vH,vI,vJ,vK,vL,vM,vN,vO,vP,vQ,vR,vS] w R
def qq45.j2 (Y0:Option Addr) (yn0 yc0 yg5:Nat) (Y9:Option Addr) (yn9 yc9:Nat) (Y10:Option Addr) (yn10 yc10:Nat) (Y11:Option Addr) (yn11 yc11:Nat) (y74:Bool) (d1 d2 d3 d4 d6 d7 d8 dC dD dE dF dG dH dI dJ dK dL dM dN dO dP dQ dR dS dT dU dV dW dX dY dZ k0 k1 k2 k3 k4 k5 k6 k7 k8 k9 kA kB kC kD kE kF kG kH kI kJ kK kL kM kN kO kP kQ kR kS kT kU kV kW kX kY kZ v0 v1 v3 v4 v5 v6 v7 v8 v9 vA vB vC vD vE vF vG vH vI vJ vK vL vM vN vO vP vQ vR vS:V) (w:W) (R:E):Prop:=
 seg Tryz.prog entE qq45.ords qq45.joins Tryz.f46 [1,1,1,1,1,1,1,0,1] [1,0,1,1,1,1,1,1,1] [] [S Y0 yn0 yc0,d1,d2,d3,d4,P (some ⟨yg5,0,N⟩),d6,d7,d8,S Y9 yn9 yc9,S Y10 yn10 yc10,S Y11 yn11 yc11,dC,dD,dE,dF,dG,dH,dI,dJ,dK,dL,dM,dN,dO,dP,dQ,dR,dS,dT,dU,dV,dW,dX,dY,dZ,k0,k1,k2,k3,k4,k5,k6,k7,k8,k9,kA,kB,kC,kD,kE,kF,kG,kH,kI,kJ,kK,kL,kM,kN,kO,kP,kQ,kR,kS,kT,kU,kV,kW,kX,kY,kZ,v0,v1,T y74,v3,v4,v5,v6,v7,v8,v9,vA,vB,vC,vD,vE,vF,vG,vH,vI,vJ,vK,vL,vM,vN,vO,vP,vQ,vR,vS] w R
def qq45.j3 (Y0:Option Addr) (yn0 yc0 yg5:Nat) (Y9:Option Addr) (yn9 yc9:Nat) (Y10:Option Addr) (yn10 yc10:Nat) (Y11:Option Addr) (yn11 yc11:Nat) (y13:Int) (d1 d2 d3 d4 d6 d7 d8 dC dE dF dG dH dI dJ dK dL dM dN dO dP dQ dR dS dT dU dV dW dX dY dZ k0 k1 k2 k3 k4 k5 k6 k7 k8 k9 kA kB kC kD kE kF kG kH kI kJ kK kL kM kN kO kP kQ kR kS kT kU kV kW kX kY kZ v0 v1 v2 v3 v4 v5 v6 v7 v8 v9 vA vB vC vD vE vF vG vH vI vJ vK vL vM vN vO vP vQ vR vS:V) (w:W) (R:E):Prop:=
 seg Tryz.prog entE qq45.ords qq45.joins Tryz.f46 [1,1,1,1,1,1,1,0,1,0,1,1] [1,1,0,1,0,1,1,1,1,1,1,1] [] [S Y0 yn0 yc0,d1,d2,d3,d4,P (some ⟨yg5,0,N⟩),d6,d7,d8,S Y9 yn9 yc9,S Y10 yn10 yc10,S Y11 yn11 yc11,dC,I L y13,dE,dF,dG,dH,dI,dJ,dK,dL,dM,dN,dO,dP,dQ,dR,dS,dT,dU,dV,dW,dX,dY,dZ,k0,k1,k2,k3,k4,k5,k6,k7,k8,k9,kA,kB,kC,kD,kE,kF,kG,kH,kI,kJ,kK,kL,kM,kN,kO,kP,kQ,kR,kS,kT,kU,kV,kW,kX,kY,kZ,v0,v1,v2,v3,v4,v5,v6,v7,v8,v9,vA,vB,vC,vD,vE,vF,vG,vH,vI,vJ,vK,vL,vM,vN,vO,vP,vQ,vR,vS] w R
def qq45.j4 (Y0:Option Addr) (yn0 yc0 yg5:Nat) (Y9:Option Addr) (yn9 yc9:Nat) (Y10:Option Addr) (yn10 yc10:Nat) (Y11:Option Addr) (yn11 yc11:Nat) (d1 d2 d3 d4 d6 d7 d8 dC dD dE dF dG dH dI dJ dK dL dM dN dO dP dQ dR dS dT dU dV dW dX dY dZ k0 k1 k2 k3 k4 k5 k6 k7 k8 k9 kA kB kC kD kE kF kG kH kI kJ kK kL kM kN kO kP kQ kR kS kT kU kV kW kX kY kZ v0 v1 v2 v3 v4 v5 v6 v7 v8 v9 vA vB vC vD vE vF vG vH vI vJ vK vL vM vN vO vP vQ vR vS:V) (w:W) (R:E):Prop:=
 seg Tryz.prog entE qq45.ords qq45.joins Tryz.f46 [1,1,1,1,1,1,1,1] [1,1,1,1,1,1,1,1] [] [S Y0 yn0 yc0,d1,d2,d3,d4,P (some ⟨yg5,0,N⟩),d6,d7,d8,S Y9 yn9 yc9,S Y10 yn10 yc10,S Y11 yn11 yc11,dC,dD,dE,dF,dG,dH,dI,dJ,dK,dL,dM,dN,dO,dP,dQ,dR,dS,dT,dU,dV,dW,dX,dY,dZ,k0,k1,k2,k3,k4,k5,k6,k7,k8,k9,kA,kB,kC,kD,kE,kF,kG,kH,kI,kJ,kK,kL,kM,kN,kO,kP,kQ,kR,kS,kT,kU,kV,kW,kX,kY,kZ,v0,v1,v2,v3,v4,v5,v6,v7,v8,v9,vA,vB,vC,vD,vE,vF,vG,vH,vI,vJ,vK,vL,vM,vN,vO,vP,vQ,vR,vS] w R
def qq45.j5 (Y0:Option Addr) (yn0 yc0:Nat) (Y9:Option Addr) (yn9 yc9:Nat) (Y10:Option Addr) (yn10 yc10:Nat) (Y11:Option Addr) (yn11 yc11:Nat) (y92:Bool) (d1 d2 d3 d4 d5 d6 d7 d8 dC dD dE dF dG dH dI dJ dK dL dM dN dO dP dQ dR dS dT dU dV dW dX dY dZ k0 k1 k2 k3 k4 k5 k6 k7 k8 k9 kA kB kC kD kE kF kG kH kI kJ kK kL kM kN kO kP kQ kR kS kT kU kV kW kX kY kZ v0 v1 v2 v3 v4 v5 v6 v7 v8 v9 vA vB vC vD vE vF vG vH vI vJ vL vM vN vO vP vQ vR vS:V) (w:W) (R:E):Prop:=
 seg Tryz.prog entE qq45.ords qq45.joins Tryz.f46 [1,1,1,1,1,1,1,1,0,1] [1,0,1,1,1,1,1,1,1,1] [] [S Y0 yn0 yc0,d1,d2,d3,d4,d5,d6,d7,d8,S Y9 yn9 yc9,S Y10 yn10 yc10,S Y11 yn11 yc11,dC,dD,dE,dF,dG,dH,dI,dJ,dK,dL,dM,dN,dO,dP,dQ,dR,dS,dT,dU,dV,dW,dX,dY,dZ,k0,k1,k2,k3,k4,k5,k6,k7,k8,k9,kA,kB,kC,kD,kE,kF,kG,kH,kI,kJ,kK,kL,kM,kN,kO,kP,kQ,kR,kS,kT,kU,kV,kW,kX,kY,kZ,v0,v1,v2,v3,v4,v5,v6,v7,v8,v9,vA,vB,vC,vD,vE,vF,vG,vH,vI,vJ,T y92,vL,vM,vN,vO,vP,vQ,vR,vS] w R
abbrev qq45.J1 (Y9:Option Addr) (yn9 yc9:Nat) (y53:Bool) (w:W) (R:E):Prop:=∀ d0 d1 d2 d3 d4 d5 d6 d7 d8 dA dB dC dD dE dF dG dH dI dJ dK dL dM dN dO dP dQ dR dS dT dU dV dW dX dY dZ k0 k1 k2 k3 k4 k5 k6 k7 k8 k9 kA kB kC kD kE kF kG kI kJ kK kL kM kN kO kP kQ kR kS kT kU kV kW kX kY kZ v0 v1 v2 v3 v4 v5 v6 v7 v8 v9 vA vB vC vD vE vF vG vH vI vJ vK vL vM vN vO vP vQ vR vS,qq45.j1 Y9 yn9 yc9 y53 d0 d1 d2 d3 d4 d5 d6 d7 d8 dA dB dC dD dE dF dG dH dI dJ dK dL dM dN dO dP dQ dR dS dT dU dV dW dX dY dZ k0 k1 k2 k3 k4 k5 k6 k7 k8 k9 kA kB kC kD kE kF kG kI kJ kK kL kM kN kO kP kQ kR kS kT kU kV kW kX kY kZ v0 v1 v2 v3 v4 v5 v6 v7 v8 v9 vA vB vC vD vE vF vG vH vI vJ vK vL vM vN vO vP vQ vR vS w R
abbrev qq45.J2 (Y0:Option Addr) (yn0 yc0 yg5:Nat) (Y9:Option Addr) (yn9 yc9:Nat) (Y10:Option Addr) (yn10 yc10:Nat) (Y11:Option Addr) (yn11 yc11:Nat) (y74:Bool) (w:W) (R:E):Prop:=∀ d1 d2 d3 d4 d6 d7 d8 dC dD dE dF dG dH dI dJ dK dL dM dN dO dP dQ dR dS dT dU dV dW dX dY dZ k0 k1 k2 k3 k4 k5 k6 k7 k8 k9 kA kB kC kD kE kF kG kH kI kJ kK kL kM kN kO kP kQ kR kS kT kU kV kW kX kY kZ v0 v1 v3 v4 v5 v6 v7 v8 v9 vA vB vC vD vE vF vG vH vI vJ vK vL vM vN vO vP vQ vR vS,qq45.j2 Y0 yn0 yc0 yg5 Y9 yn9 yc9 Y10 yn10 yc10 Y11 yn11 yc11 y74 d1 d2 d3 d4 d6 d7 d8 dC dD dE dF dG dH dI dJ dK dL dM dN dO dP dQ dR dS dT dU dV dW dX dY dZ k0 k1 k2 k3 k4 k5 k6 k7 k8 k9 kA kB kC kD kE kF kG kH kI kJ kK kL kM kN kO kP kQ kR kS kT kU kV kW kX kY kZ v0 v1 v3 v4 v5 v6 v7 v8 v9 vA vB vC vD vE vF vG vH vI vJ vK vL vM vN vO vP vQ vR vS w R
abbrev qq45.J3 (Y0:Option Addr) (yn0 yc0 yg5:Nat) (Y9:Option Addr) (yn9 yc9:Nat) (Y10:Option Addr) (yn10 yc10:Nat) (Y11:Option Addr) (yn11 yc11:Nat) (y13:Int) (w:W) (R:E):Prop:=∀ d1 d2 d3 d4 d6 d7 d8 dC dE dF dG dH dI dJ dK dL dM dN dO dP dQ dR dS dT dU dV dW dX dY dZ k0 k1 k2 k3 k4 k5 k6 k7 k8 k9 kA kB kC kD kE kF kG kH kI kJ kK kL kM kN kO kP kQ kR kS kT kU kV kW kX kY kZ v0 v1 v2 v3 v4 v5 v6 v7 v8 v9 vA vB vC vD vE vF vG vH vI vJ vK vL vM vN vO vP vQ vR vS,qq45.j3 Y0 yn0 yc0 yg5 Y9 yn9 yc9 Y10 yn10 yc10 Y11 yn11 yc11 y13 d1 d2 d3 d4 d6 d7 d8 dC dE dF dG dH dI dJ dK dL dM dN dO dP dQ dR dS dT dU dV dW dX dY dZ k0 k1 k2 k3 k4 k5 k6 k7 k8 k9 kA kB kC kD kE kF kG kH kI kJ kK kL kM kN kO kP kQ kR kS kT kU kV kW kX kY kZ v0 v1 v2 v3 v4 v5 v6 v7 v8 v9 vA vB vC vD vE vF vG vH vI vJ vK vL vM vN vO vP vQ vR vS w R
abbrev qq45.J4 (Y0:Option Addr) (yn0 yc0 yg5:Nat) (Y9:Option Addr) (yn9 yc9:Nat) (Y10:Option Addr) (yn10 yc10:Nat) (Y11:Option Addr) (yn11 yc11:Nat) (w:W) (R:E):Prop:=∀ d1 d2 d3 d4 d6 d7 d8 dC dD dE dF dG dH dI dJ dK dL dM dN dO dP dQ dR dS dT dU dV dW dX dY dZ k0 k1 k2 k3 k4 k5 k6 k7 k8 k9 kA kB kC kD kE kF kG kH kI kJ kK kL kM kN kO kP kQ kR kS kT kU kV kW kX kY kZ v0 v1 v2 v3 v4 v5 v6 v7 v8 v9 vA vB vC vD vE vF vG vH vI vJ vK vL vM vN vO vP vQ vR vS,qq45.j4 Y0 yn0 yc0 yg5 Y9 yn9 yc9 Y10 yn10 yc10 Y11 yn11 yc11 d1 d2 d3 d4 d6 d7 d8 dC dD dE dF dG dH dI dJ dK dL dM dN dO dP dQ dR dS dT dU dV dW dX dY dZ k0 k1 k2 k3 k4 k5 k6 k7 k8 k9 kA kB kC kD kE kF kG kH kI kJ kK kL kM kN kO kP kQ kR kS kT kU kV kW kX kY kZ v0 v1 v2 v3 v4 v5 v6 v7 v8 v9 vA vB vC vD vE vF vG vH vI vJ vK vL vM vN vO vP vQ vR vS w R
abbrev qq45.J5 (Y0:Option Addr) (yn0 yc0:Nat) (Y9:Option Addr) (yn9 yc9:Nat) (Y10:Option Addr) (yn10 yc10:Nat) (Y11:Option Addr) (yn11 yc11:Nat) (y92:Bool) (w:W) (R:E):Prop:=∀ d1 d2 d3 d4 d5 d6 d7 d8 dC dD dE dF dG dH dI dJ dK dL dM dN dO dP dQ dR dS dT dU dV dW dX dY dZ k0 k1 k2 k3 k4 k5 k6 k7 k8 k9 kA kB kC kD kE kF kG kH kI kJ kK kL kM kN kO kP kQ kR kS kT kU kV kW kX kY kZ v0 v1 v2 v3 v4 v5 v6 v7 v8 v9 vA vB vC vD vE vF vG vH vI vJ vL vM vN vO vP vQ vR vS,qq45.j5 Y0 yn0 yc0 Y9 yn9 yc9 Y10 yn10 yc10 Y11 yn11 yc11 y92 d1 d2 d3 d4 d5 d6 d7 d8 dC dD dE dF dG dH dI dJ dK dL dM dN dO dP dQ dR dS dT dU dV dW dX dY dZ k0 k1 k2 k3 k4 k5 k6 k7 k8 k9 kA kB kC kD kE kF kG kH kI kJ kK kL kM kN kO kP kQ kR kS kT kU kV kW kX kY kZ v0 v1 v2 v3 v4 v5 v6 v7 v8 v9 vA vB vC vD vE vF vG vH vI vJ vL vM vN vO vP vQ vR vS w R
theorem qq45.j1_eq:qq45.j1 Y9 yn9 yc9 y53 d0 d1 d2 d3 d4 d5 d6 d7 d8 dA dB dC dD dE dF dG dH dI dJ dK dL dM dN dO dP dQ dR dS dT dU dV dW dX dY dZ k0 k1 k2 k3 k4 k5 k6 k7 k8 k9 kA kB kC kD kE kF kG kI kJ kK kL kM kN kO kP kQ kR kS kT kU kV kW kX kY kZ v0 v1 v2 v3 v4 v5 v6 v7 v8 v9 vA vB vC vD vE vF vG vH vI vJ vK vL vM vN vO vP vQ vR vS w R =
((if y53=true then
(Calls Tryz.prog 52 #[S Y9 yn9 yc9,I L 2,I L 65535] w (fun (e2:Ending) (w1:W)=>
 e2=.returned (.tuple #[])∧
(R (.returned (S Y9 yn9 yc9)) w1)))
else
(R (.returned (S Y9 yn9 yc9)) w))):=by kernel_rfl
theorem qq45.j2_eq:qq45.j2 Y0 yn0 yc0 yg5 Y9 yn9 yc9 Y10 yn10 yc10 Y11 yn11 yc11 y74 d1 d2 d3 d4 d6 d7 d8 dC dD dE dF dG dH dI dJ dK dL dM dN dO dP dQ dR dS dT dU dV dW dX dY dZ k0 k1 k2 k3 k4 k5 k6 k7 k8 k9 kA kB kC kD kE kF kG kH kI kJ kK kL kM kN kO kP kQ kR kS kT kU kV kW kX kY kZ v0 v1 v3 v4 v5 v6 v7 v8 v9 vA vB vC vD vE vF vG vH vI vJ vK vL vM vN vO vP vQ vR vS w R =
((if y74=true then
(Calls Tryz.prog 81 #[S Y0 yn0 yc0,I L 6] w (fun (e2:Ending) (w1:W)=>
 ∃ x3:Int,e2=.returned (I L x3)∧
(Calls Tryz.prog 80 #[I L x3,S Y10 yn10 yc10,S Y11 yn11 yc11] w1 (fun (e5:Ending) (w4:W)=>
 ∃ x6:Int,e5=.returned (I L x6)∧
((if (x6 == 0)=true then
(Leaf (qq45.j3 Y0 yn0 yc0 yg5 Y9 yn9 yc9 Y10 yn10 yc10 Y11 yn11 yc11 65535 d1 d2 d3 d4 d6 d7 d8 dC dE dF dG dH dI dJ dK dL dM dN dO dP dQ dR dS dT dU dV dW dX dY dZ k0 k1 k2 k3 k4 k5 k6 k7 k8 k9 kA kB kC kD kE kF kG kH kI kJ kK kL kM kN kO kP kQ kR kS kT kU kV kW kX kY kZ v0 v1 (T y74) (S Y0 yn0 yc0) (I L x3) (S Y10 yn10 yc10) (S Y11 yn11 yc11) (I L x6) (I L x6) (T (x6 == 0)) vA vB vC vD vE vF vG vH vI vJ vK vL vM vN vO vP vQ vR vS w4 R))
else
(Leaf (qq45.j3 Y0 yn0 yc0 yg5 Y9 yn9 yc9 Y10 yn10 yc10 Y11 yn11 yc11 x6 d1 d2 d3 d4 d6 d7 d8 dC dE dF dG dH dI dJ dK dL dM dN dO dP dQ dR dS dT dU dV dW dX dY dZ k0 k1 k2 k3 k4 k5 k6 k7 k8 k9 kA kB kC kD kE kF kG kH kI kJ kK kL kM kN kO kP kQ kR kS kT kU kV kW kX kY kZ v0 v1 (T y74) (S Y0 yn0 yc0) (I L x3) (S Y10 yn10 yc10) (S Y11 yn11 yc11) (I L x6) (I L x6) (T (x6 == 0)) vA vB vC vD vE vF vG vH vI vJ vK vL vM vN vO vP vQ vR vS w4 R))))))))
else
(Leaf (qq45.j4 Y0 yn0 yc0 yg5 Y9 yn9 yc9 Y10 yn10 yc10 Y11 yn11 yc11 d1 d2 d3 d4 d6 d7 d8 dC dD dE dF dG dH dI dJ dK dL dM dN dO dP dQ dR dS dT dU dV dW dX dY dZ k0 k1 k2 k3 k4 k5 k6 k7 k8 k9 kA kB kC kD kE kF kG kH kI kJ kK kL kM kN kO kP kQ kR kS kT kU kV kW kX kY kZ v0 v1 (T y74) v3 v4 v5 v6 v7 v8 v9 vA vB vC vD vE vF vG vH vI vJ vK vL vM vN vO vP vQ vR vS w R)))):=by kernel_rfl
theorem qq45.j3_eq:qq45.j3 Y0 yn0 yc0 yg5 Y9 yn9 yc9 Y10 yn10 yc10 Y11 yn11 yc11 y13 d1 d2 d3 d4 d6 d7 d8 dC dE dF dG dH dI dJ dK dL dM dN dO dP dQ dR dS dT dU dV dW dX dY dZ k0 k1 k2 k3 k4 k5 k6 k7 k8 k9 kA kB kC kD kE kF kG kH kI kJ kK kL kM kN kO kP kQ kR kS kT kU kV kW kX kY kZ v0 v1 v2 v3 v4 v5 v6 v7 v8 v9 vA vB vC vD vE vF vG vH vI vJ vK vL vM vN vO vP vQ vR vS w R =
(Calls Tryz.prog 52 #[S Y9 yn9 yc9,I L 6,I L y13] w (fun (e2:Ending) (w1:W)=>
 e2=.returned (.tuple #[])∧
(Leaf (qq45.j4 Y0 yn0 yc0 yg5 Y9 yn9 yc9 Y10 yn10 yc10 Y11 yn11 yc11 d1 d2 d3 d4 d6 d7 d8 dC (I L y13) dE dF dG dH dI dJ dK dL dM dN dO dP dQ dR dS dT dU dV dW dX dY dZ k0 k1 k2 k3 k4 k5 k6 k7 k8 k9 kA kB kC kD kE kF kG kH kI kJ kK kL kM kN kO kP kQ kR kS kT kU kV kW kX kY kZ v0 v1 v2 v3 v4 v5 v6 v7 v8 v9 (S Y9 yn9 yc9) (I L y13) (.tuple #[]) vD vE vF vG vH vI vJ vK vL vM vN vO vP vQ vR vS w1 R)))):=by kernel_rfl
theorem qq45.j4_eq:qq45.j4 Y0 yn0 yc0 yg5 Y9 yn9 yc9 Y10 yn10 yc10 Y11 yn11 yc11 d1 d2 d3 d4 d6 d7 d8 dC dD dE dF dG dH dI dJ dK dL dM dN dO dP dQ dR dS dT dU dV dW dX dY dZ k0 k1 k2 k3 k4 k5 k6 k7 k8 k9 kA kB kC kD kE kF kG kH kI kJ kK kL kM kN kO kP kQ kR kS kT kU kV kW kX kY kZ v0 v1 v2 v3 v4 v5 v6 v7 v8 v9 vA vB vC vD vE vF vG vH vI vJ vK vL vM vN vO vP vQ vR vS w R =
(∃ x1:Int,w.cell? ⟨yg5,2,N⟩=some (I B x1)∧
((if (x1 == 6)=true then
(Leaf (qq45.j5 Y0 yn0 yc0 Y9 yn9 yc9 Y10 yn10 yc10 Y11 yn11 yc11 (decide ((yn0:Int) ≥ 18)) d1 d2 d3 d4 (P (some ⟨yg5,0,N⟩)) d6 d7 d8 dC dD dE dF dG dH dI dJ dK dL dM dN dO dP dQ dR dS dT dU dV dW dX dY dZ k0 k1 k2 k3 k4 k5 k6 k7 k8 k9 kA kB kC kD kE kF kG kH kI kJ kK kL kM kN kO kP kQ kR kS kT kU kV kW kX kY kZ v0 v1 v2 v3 v4 v5 v6 v7 v8 v9 vA vB vC (P (some ⟨yg5,2,N⟩)) (I B x1) (T (x1 == 6)) (T true) (S Y0 yn0 yc0) (I L (yn0:Int)) (T (decide ((yn0:Int) ≥ 18))) vL vM vN vO vP vQ vR vS w R))
else
(Leaf (qq45.j5 Y0 yn0 yc0 Y9 yn9 yc9 Y10 yn10 yc10 Y11 yn11 yc11 false d1 d2 d3 d4 (P (some ⟨yg5,0,N⟩)) d6 d7 d8 dC dD dE dF dG dH dI dJ dK dL dM dN dO dP dQ dR dS dT dU dV dW dX dY dZ k0 k1 k2 k3 k4 k5 k6 k7 k8 k9 kA kB kC kD kE kF kG kH kI kJ kK kL kM kN kO kP kQ kR kS kT kU kV kW kX kY kZ v0 v1 v2 v3 v4 v5 v6 v7 v8 v9 vA vB vC (P (some ⟨yg5,2,N⟩)) (I B x1) (T (x1 == 6)) (T false) U U U vL vM vN vO vP vQ vR vS w R))))):=by kernel_rfl
theorem qq45.j5_eq:qq45.j5 Y0 yn0 yc0 Y9 yn9 yc9 Y10 yn10 yc10 Y11 yn11 yc11 y92 d1 d2 d3 d4 d5 d6 d7 d8 dC dD dE dF dG dH dI dJ dK dL dM dN dO dP dQ dR dS dT dU dV dW dX dY dZ k0 k1 k2 k3 k4 k5 k6 k7 k8 k9 kA kB kC kD kE kF kG kH kI kJ kK kL kM kN kO kP kQ kR kS kT kU kV kW kX kY kZ v0 v1 v2 v3 v4 v5 v6 v7 v8 v9 vA vB vC vD vE vF vG vH vI vJ vL vM vN vO vP vQ vR vS w R =
((if y92=true then
(Calls Tryz.prog 81 #[S Y0 yn0 yc0,I L 16] w (fun (e2:Ending) (w1:W)=>
 ∃ x3:Int,e2=.returned (I L x3)∧
(Calls Tryz.prog 80 #[I L x3,S Y10 yn10 yc10,S Y11 yn11 yc11] w1 (fun (e5:Ending) (w4:W)=>
 ∃ x6:Int,e5=.returned (I L x6)∧
(Calls Tryz.prog 52 #[S Y9 yn9 yc9,I L 16,I L x6] w4 (fun (e8:Ending) (w7:W)=>
 e8=.returned (.tuple #[])∧
(R (.returned (S Y9 yn9 yc9)) w7)))))))
else
(R (.returned (S Y9 yn9 yc9)) w))):=by kernel_rfl
def qq45.s (I0:Option Addr) (in0 ic0:Nat) (i1_0 i1_1 i1_2 i1_3 i1_4 i2_0 i2_1 i2_2 i2_3 i2_4:Int) (i3:Bool) (w:W) (R:E):Prop:=
(Let (w.heap.size) fun g1:Nat=>
 Let (w.alloc (.cells #[I D i1_0,I D i1_1,I B i1_2,I H i1_3,I H i1_4] 39)) fun w2:W=>
 Let (w2.heap.size) fun g3:Nat=>
 Let (w2.alloc (.cells #[I D i2_0,I D i2_1,I B i2_2,I H i2_3,I H i2_4] 39)) fun w4:W=>
 Calls Tryz.prog 45 #[S I0 in0 ic0] w4 (fun (e6:Ending) (w5:W)=>
 ∃ (A7:Option Addr) (n7_ c7_:Nat),e6=.returned (S A7 n7_ c7_)∧
(∃ x8 x9 x10 x11 x12:Int,(5=5∧At w5 ⟨g1,0,N⟩ [I D x8,I D x9,I B x10,I H x11,I H x12])∧
(Calls Tryz.prog 79 #[G #[I D x8,I D x9,I B x10,I H x11,I H x12]] w5 (fun (e14:Ending) (w13:W)=>
 ∃ (A15:Option Addr) (n15_ c15_:Nat),e14=.returned (S A15 n15_ c15_)∧
(∃ x16 x17 x18 x19 x20:Int,(5=5∧At w13 ⟨g3,0,N⟩ [I D x16,I D x17,I B x18,I H x19,I H x20])∧
(Calls Tryz.prog 79 #[G #[I D x16,I D x17,I B x18,I H x19,I H x20]] w13 (fun (e22:Ending) (w21:W)=>
 ∃ (A23:Option Addr) (n23_ c23_:Nat),e22=.returned (S A23 n23_ c23_)∧
(∃ x24:Int,w21.cell? ⟨g1,2,N⟩=some (I B x24)∧
((if (x24 == 1)=true then
(∃ x25:Int,w21.cell? ⟨g3,3,N⟩=some (I H x25)∧
(Let (L.wrap x25) fun x26:Int=>
 Calls Tryz.prog 52 #[S A7 n7_ c7_,I L 4,I L x26] w21 (fun (e28:Ending) (w27:W)=>
 e28=.returned (.tuple #[])∧
(∃ S29:W→Prop,S29 w27.drew∧
(Let (w27.drew) fun w30:W=>
(0≤(5:Int)∧(5:Int)≤(c15_:Int))∧
(0≤(4:Int)∧(4:Int)≤5)∧
((0≤(5:Int)∧(5:Int)≤(c23_:Int))∧
(0≤(4:Int)∧(4:Int)≤5)∧
(Calls Tryz.prog 81 #[S I0 in0 ic0,I L 2] w30 (fun (e32:Ending) (w31:W)=>
 ∃ x33:Int,e32=.returned (I L x33)∧
(S29 w31∧
(Calls Tryz.prog 80 #[I L x33,S (cutA A15 4 c15_ 1) 1 (c15_-4),S (cutA A23 4 c23_ 1) 1 (c23_-4)] w31 (fun (e35:Ending) (w34:W)=>
 ∃ x36:Int,e35=.returned (I L x36)∧
(S29 w34∧
(Calls Tryz.prog 52 #[S A7 n7_ c7_,I L 2,I L x36] w34 (fun (e38:Ending) (w37:W)=>
 e38=.returned (.tuple #[])∧
((if (x36 == 0)=true then
((if i3=true then
(Calls Tryz.prog 82 #[S A7 n7_ c7_] w37 (fun (e40:Ending) (w39:W)=>
 ∃ b41:Bool,e40=.returned (T b41)∧
((if b41=true then
(∃ x42:Int,w39.cell? ⟨g1,3,N⟩=some (I H x42)∧
(∃ x43:Int,w39.cell? ⟨g3,3,N⟩=some (I H x43)∧
(Leaf (qq45.j1 A7 n7_ c7_ (x42 != x43) (S I0 in0 ic0) (G #[I D i1_0,I D i1_1,I B i1_2,I H i1_3,I H i1_4]) (G #[I D i2_0,I D i2_1,I B i2_2,I H i2_3,I H i2_4]) (T i3) U (P (some ⟨g1,0,N⟩)) (P (some ⟨g3,0,N⟩)) U (S N 0 0) (S A15 n15_ c15_) (S A23 n23_ c23_) (I L x36) U (S I0 in0 ic0) (S A7 n7_ c7_) (G #[I D x8,I D x9,I B x10,I H x11,I H x12]) (S A15 n15_ c15_) (G #[I D x16,I D x17,I B x18,I H x19,I H x20]) (S A23 n23_ c23_) (P (some ⟨g1,2,N⟩)) (I B x24) (T (x24 == 1)) (S A7 n7_ c7_) (P (some ⟨g3,3,N⟩)) (I H x25) (I L x26) (.tuple #[]) (S I0 in0 ic0) (I L x33) (S A15 n15_ c15_) (S (cutA A15 4 c15_ 1) 1 (c15_-4)) (S A23 n23_ c23_) (S (cutA A23 4 c23_ 1) 1 (c23_-4)) (I L x36) (S A7 n7_ c7_) (I L x36) (.tuple #[]) (I L x36) (T (x36 == 0)) (T true) (T i3) (T i3) (T true) (S A7 n7_ c7_) (T b41) (T b41) (T true) (P (some ⟨g1,3,N⟩)) (I H x42) (P (some ⟨g3,3,N⟩)) (I H x43) (T (x42 != x43)) U U U U U U U U U U U U U U U U U U U U U U U U U U U U U U U U U U U U U U U U U U U U U U U w39 R))))
else
(Leaf (qq45.j1 A7 n7_ c7_ false (S I0 in0 ic0) (G #[I D i1_0,I D i1_1,I B i1_2,I H i1_3,I H i1_4]) (G #[I D i2_0,I D i2_1,I B i2_2,I H i2_3,I H i2_4]) (T i3) U (P (some ⟨g1,0,N⟩)) (P (some ⟨g3,0,N⟩)) U (S N 0 0) (S A15 n15_ c15_) (S A23 n23_ c23_) (I L x36) U (S I0 in0 ic0) (S A7 n7_ c7_) (G #[I D x8,I D x9,I B x10,I H x11,I H x12]) (S A15 n15_ c15_) (G #[I D x16,I D x17,I B x18,I H x19,I H x20]) (S A23 n23_ c23_) (P (some ⟨g1,2,N⟩)) (I B x24) (T (x24 == 1)) (S A7 n7_ c7_) (P (some ⟨g3,3,N⟩)) (I H x25) (I L x26) (.tuple #[]) (S I0 in0 ic0) (I L x33) (S A15 n15_ c15_) (S (cutA A15 4 c15_ 1) 1 (c15_-4)) (S A23 n23_ c23_) (S (cutA A23 4 c23_ 1) 1 (c23_-4)) (I L x36) (S A7 n7_ c7_) (I L x36) (.tuple #[]) (I L x36) (T (x36 == 0)) (T true) (T i3) (T i3) (T true) (S A7 n7_ c7_) (T b41) (T b41) (T false) U U U U U U U U U U U U U U U U U U U U U U U U U U U U U U U U U U U U U U U U U U U U U U U U U U U U w39 R))))))
else
(Leaf (qq45.j1 A7 n7_ c7_ false (S I0 in0 ic0) (G #[I D i1_0,I D i1_1,I B i1_2,I H i1_3,I H i1_4]) (G #[I D i2_0,I D i2_1,I B i2_2,I H i2_3,I H i2_4]) (T i3) U (P (some ⟨g1,0,N⟩)) (P (some ⟨g3,0,N⟩)) U (S N 0 0) (S A15 n15_ c15_) (S A23 n23_ c23_) (I L x36) U (S I0 in0 ic0) (S A7 n7_ c7_) (G #[I D x8,I D x9,I B x10,I H x11,I H x12]) (S A15 n15_ c15_) (G #[I D x16,I D x17,I B x18,I H x19,I H x20]) (S A23 n23_ c23_) (P (some ⟨g1,2,N⟩)) (I B x24) (T (x24 == 1)) (S A7 n7_ c7_) (P (some ⟨g3,3,N⟩)) (I H x25) (I L x26) (.tuple #[]) (S I0 in0 ic0) (I L x33) (S A15 n15_ c15_) (S (cutA A15 4 c15_ 1) 1 (c15_-4)) (S A23 n23_ c23_) (S (cutA A23 4 c23_ 1) 1 (c23_-4)) (I L x36) (S A7 n7_ c7_) (I L x36) (.tuple #[]) (I L x36) (T (x36 == 0)) (T true) (T i3) (T i3) (T false) U U (T false) (T false) U U U U U U U U U U U U U U U U U U U U U U U U U U U U U U U U U U U U U U U U U U U U U U U U U U U U w37 R))))
else
(Leaf (qq45.j1 A7 n7_ c7_ false (S I0 in0 ic0) (G #[I D i1_0,I D i1_1,I B i1_2,I H i1_3,I H i1_4]) (G #[I D i2_0,I D i2_1,I B i2_2,I H i2_3,I H i2_4]) (T i3) U (P (some ⟨g1,0,N⟩)) (P (some ⟨g3,0,N⟩)) U (S N 0 0) (S A15 n15_ c15_) (S A23 n23_ c23_) (I L x36) U (S I0 in0 ic0) (S A7 n7_ c7_) (G #[I D x8,I D x9,I B x10,I H x11,I H x12]) (S A15 n15_ c15_) (G #[I D x16,I D x17,I B x18,I H x19,I H x20]) (S A23 n23_ c23_) (P (some ⟨g1,2,N⟩)) (I B x24) (T (x24 == 1)) (S A7 n7_ c7_) (P (some ⟨g3,3,N⟩)) (I H x25) (I L x26) (.tuple #[]) (S I0 in0 ic0) (I L x33) (S A15 n15_ c15_) (S (cutA A15 4 c15_ 1) 1 (c15_-4)) (S A23 n23_ c23_) (S (cutA A23 4 c23_ 1) 1 (c23_-4)) (I L x36) (S A7 n7_ c7_) (I L x36) (.tuple #[]) (I L x36) (T (x36 == 0)) (T false) U (T false) (T false) U U (T false) (T false) U U U U U U U U U U U U U U U U U U U U U U U U U U U U U U U U U U U U U U U U U U U U U U U U U U U U w37 R))))))))))))))))))
else
(∃ x44:Int,w21.cell? ⟨g3,3,N⟩=some (I H x44)∧
(Let (L.wrap x44) fun x45:Int=>
 Calls Tryz.prog 52 #[S A7 n7_ c7_,I L 0,I L x45] w21 (fun (e47:Ending) (w46:W)=>
 e47=.returned (.tuple #[])∧
(∃ x48:Int,w46.cell? ⟨g3,4,N⟩=some (I H x48)∧
(Let (L.wrap x48) fun x49:Int=>
 Calls Tryz.prog 52 #[S A7 n7_ c7_,I L 2,I L x49] w46 (fun (e51:Ending) (w50:W)=>
 e51=.returned (.tuple #[])∧
(∃ x52:Int,w50.cell? ⟨g1,2,N⟩=some (I B x52)∧
((if (x52 == 17)=true then
(Calls Tryz.prog 81 #[S I0 in0 ic0,I L 6] w50 (fun (e54:Ending) (w53:W)=>
 ∃ x55:Int,e54=.returned (I L x55)∧
(Leaf (qq45.j2 I0 in0 ic0 g1 A7 n7_ c7_ A15 n15_ c15_ A23 n23_ c23_ (x55 != 0) (G #[I D i1_0,I D i1_1,I B i1_2,I H i1_3,I H i1_4]) (G #[I D i2_0,I D i2_1,I B i2_2,I H i2_3,I H i2_4]) (T i3) U (P (some ⟨g3,0,N⟩)) U (S N 0 0) U U (S I0 in0 ic0) (S A7 n7_ c7_) (G #[I D x8,I D x9,I B x10,I H x11,I H x12]) (S A15 n15_ c15_) (G #[I D x16,I D x17,I B x18,I H x19,I H x20]) (S A23 n23_ c23_) (P (some ⟨g1,2,N⟩)) (I B x24) (T (x24 == 1)) U U U U U U U U U U U U U U U U U U U U U U U U U U U U U U U U U U (S A7 n7_ c7_) (P (some ⟨g3,3,N⟩)) (I H x44) (I L x45) (.tuple #[]) (S A7 n7_ c7_) (P (some ⟨g3,4,N⟩)) (I H x48) (I L x49) (.tuple #[]) (P (some ⟨g1,2,N⟩)) (I B x52) (T (x52 == 17)) (T true) (S I0 in0 ic0) (I L x55) (T (x55 != 0)) U U U U U U U U U U U U U U U U U U U U U U U U U U w53 R))))
else
(Leaf (qq45.j2 I0 in0 ic0 g1 A7 n7_ c7_ A15 n15_ c15_ A23 n23_ c23_ false (G #[I D i1_0,I D i1_1,I B i1_2,I H i1_3,I H i1_4]) (G #[I D i2_0,I D i2_1,I B i2_2,I H i2_3,I H i2_4]) (T i3) U (P (some ⟨g3,0,N⟩)) U (S N 0 0) U U (S I0 in0 ic0) (S A7 n7_ c7_) (G #[I D x8,I D x9,I B x10,I H x11,I H x12]) (S A15 n15_ c15_) (G #[I D x16,I D x17,I B x18,I H x19,I H x20]) (S A23 n23_ c23_) (P (some ⟨g1,2,N⟩)) (I B x24) (T (x24 == 1)) U U U U U U U U U U U U U U U U U U U U U U U U U U U U U U U U U U (S A7 n7_ c7_) (P (some ⟨g3,3,N⟩)) (I H x44) (I L x45) (.tuple #[]) (S A7 n7_ c7_) (P (some ⟨g3,4,N⟩)) (I H x48) (I L x49) (.tuple #[]) (P (some ⟨g1,2,N⟩)) (I B x52) (T (x52 == 17)) (T false) U U U U U U U U U U U U U U U U U U U U U U U U U U U U U w50 R))))))))))))))))))))))
theorem qq45.run (h:qq45.s I0 in0 ic0 i1_0 i1_1 i1_2 i1_3 i1_4 i2_0 i2_1 i2_2 i2_3 i2_4 i3 w R):Calls Tryz.prog 46 #[S I0 in0 ic0,G #[I D i1_0,I D i1_1,I B i1_2,I H i1_3,I H i1_4],G #[I D i2_0,I D i2_1,I B i2_2,I H i2_3,I H i2_4],T i3] w R:=
 calls_segk (ords:=qq45.ords) (J:=qq45.joins) ents mixed Tryz.func46 rfl h (by kernel_rfl)
def qq65.ords:Nat→Od
 | _=>.nil
def qq65.joins (p:List Nat):Bool:=false
def qq65.s (I0:Option Addr) (in0 ic0:Nat) (i1 i2:Int) (w:W) (R:E):Prop:=
(Let (L.wrap (Int.tdiv i2 256)) fun x1:Int=>
 Let (B.wrap x1) fun x2:Int=>
 ∃ a3:Addr,I0=some a3∧(0≤i1∧i1 < (in0:Int))∧
(MayC w (a3.add i1.toNat)∧
(Let (w.setCell (a3.add i1.toNat) (I B x2)) fun w4:W=>
 Let (L.wrap (i1+1)) fun x5:Int=>
 Let (Int.tmod i2 256) fun x6:Int=>
 Let (B.wrap x6) fun x7:Int=>
 ∃ a8:Addr,I0=some a8∧(0≤x5∧x5 < (in0:Int))∧
(MayC w4 (a8.add x5.toNat)∧
(Let (w4.setCell (a8.add x5.toNat) (I B x7)) fun w9:W=>
 R (.returned (.tuple #[])) w9)))))
theorem qq65.run (h:qq65.s I0 in0 ic0 i1 i2 w R):Calls Tryz.prog 52 #[S I0 in0 ic0,I L i1,I L i2] w R:=
 calls_segk (ords:=qq65.ords) (J:=qq65.joins) ents mixed Tryz.func52 rfl h (by kernel_rfl)
def qq67.ords:Nat→Od
 | 1=>(.tk 0 (.tk 1 (.tk 2 (.tk 3 (.tk 4 (.tk 5 (.tk 6 (.tk 7 (.tk 8 (.tk 9 (.tk 10 (.tk 11 (.tk 12 (.tk 13 .nil))))))))))))))
 | _=>.nil
def qq67.joins (p:List Nat):Bool:=false
def qq67.s (I0:Option Addr) (in0 ic0:Nat) (i1:Int) (w:W) (R:E):Prop:=
(∃ S1:W→Prop,S1 w.drew∧
(Let (w.drew) fun w2:W=>
 ∃ a3:Addr,I0=some a3∧(0≤i1∧i1 < (in0:Int))∧
(∃ x4:Int,(∀ w',S1 w'→w'.cell? (a3.add i1.toNat)=some (I B x4))∧
(Let (L.wrap x4) fun x5:Int=>
 Let (L.wrap (256 * x5)) fun x6:Int=>
 Let (L.wrap (i1+1)) fun x7:Int=>
 ∃ a8:Addr,I0=some a8∧(0≤x7∧x7 < (in0:Int))∧
(∃ x9:Int,(∀ w',S1 w'→w'.cell? (a8.add x7.toNat)=some (I B x9))∧
(Let (L.wrap x9) fun x10:Int=>
 Let (L.wrap (x6+x10)) fun x11:Int=>
 R (.returned (I L x11)) w2))))))
theorem qq67.run (h:qq67.s I0 in0 ic0 i1 w R):Calls Tryz.prog 81 #[S I0 in0 ic0,I L i1] w R:=
 calls_segk (ords:=qq67.ords) (J:=qq67.joins) ents mixed Tryz.func81 rfl h (by kernel_rfl)
def qq18.ords:Nat→Od
 | 6=>(.tk 0 (.tk 1 (.tk 2 (.tk 3 (.tk 4 (.tk 5 (.tk 6 (.tk 7 (.tk 8 .nil)))))))))
 | 7=>(.tk 0 (.tk 1 (.tk 2 (.tk 3 (.tk 4 (.tk 5 (.tk 6 (.tk 7 (.tk 8 (.tk 9 (.tk 10 (.tk 11 (.tk 12 .nil)))))))))))))
 | _=>.nil
def qq18.joins (p:List Nat):Bool:=false
def qq18.l1 (n:Nat) (y0:Int) (Y1:Option Addr) (yn1 yc1:Nat) (Y2:Option Addr) (yn2 yc2:Nat) (y7:Int) (y8:Bool) (y9:Int) (d3 d4 d5 d6 dA dB dC dD dE dF dG dH dI dJ dK dL dM dN dO dP dQ dR dS dT dU dV dW dX dY dZ k0 k1 k2 k3 k4 k5 k6 k7 k8 k9 kA kB kC:V) (w:W) (R:E):Prop:=
 lseg Tryz.prog entE qq18.ords qq18.joins Tryz.f80 [1,1,1,0,1,0] [0,1,0,1,1,1] [] n [I L y0,S Y1 yn1 yc1,S Y2 yn2 yc2,d3,d4,d5,d6,I L y7,T y8,I L y9,dA,dB,dC,dD,dE,dF,dG,dH,dI,dJ,dK,dL,dM,dN,dO,dP,dQ,dR,dS,dT,dU,dV,dW,dX,dY,dZ,k0,k1,k2,k3,k4,k5,k6,k7,k8,k9,kA,kB,kC] w R
abbrev qq18.L1 (n:Nat) (y0:Int) (Y1:Option Addr) (yn1 yc1:Nat) (Y2:Option Addr) (yn2 yc2:Nat) (y7:Int) (y8:Bool) (y9:Int) (w:W) (R:E):Prop:=∀ d3 d4 d5 d6 dA dB dC dD dE dF dG dH dI dJ dK dL dM dN dO dP dQ dR dS dT dU dV dW dX dY dZ k0 k1 k2 k3 k4 k5 k6 k7 k8 k9 kA kB kC,qq18.l1 n y0 Y1 yn1 yc1 Y2 yn2 yc2 y7 y8 y9 d3 d4 d5 d6 dA dB dC dD dE dF dG dH dI dJ dK dL dM dN dO dP dQ dR dS dT dU dV dW dX dY dZ k0 k1 k2 k3 k4 k5 k6 k7 k8 k9 kA kB kC w R
theorem qq18.l1_eq {n:Nat}:qq18.l1 (n+1) y0 Y1 yn1 yc1 Y2 yn2 yc2 y7 y8 y9 d3 d4 d5 d6 dA dB dC dD dE dF dG dH dI dJ dK dL dM dN dO dP dQ dR dS dT dU dV dW dX dY dZ k0 k1 k2 k3 k4 k5 k6 k7 k8 k9 kA kB kC w R =
((if decide (y9 < (yn1:Int))=true then
(∃ S1:W→Prop,S1 w.drew∧
(Let (w.drew) fun w2:W=>
 ∃ a3:Addr,Y1=some a3∧(0≤y9∧y9 < (yn1:Int))∧
(∃ x4:Int,(∀ w',S1 w'→w'.cell? (a3.add y9.toNat)=some (I L x4))∧
(∃ a5:Addr,Y2=some a5∧(0≤y9∧y9 < (yn2:Int))∧
(∃ x6:Int,(∀ w',S1 w'→w'.cell? (a5.add y9.toNat)=some (I L x6))∧
((if (x4 != x6)=true then
(∃ S7:W→Prop,S7 w2.drew∧
(Let (w2.drew) fun w8:W=>
 Let (L.wrap (y7+65535)) fun x9:Int=>
 ∃ a10:Addr,Y1=some a10∧(0≤y9∧y9 < (yn1:Int))∧
(∃ x11:Int,(∀ w',S7 w'→w'.cell? (a10.add y9.toNat)=some (I L x11))∧
(Let (L.wrap (x9-x11)) fun x12:Int=>
 ∃ a13:Addr,Y2=some a13∧(0≤y9∧y9 < (yn2:Int))∧
(∃ x14:Int,(∀ w',S7 w'→w'.cell? (a13.add y9.toNat)=some (I L x14))∧
(Let (L.wrap (x12+x14)) fun x15:Int=>
 Let (L.wrap (y9+1)) fun x16:Int=>
 qq18.l1 n y0 Y1 yn1 yc1 Y2 yn2 yc2 x15 true x16 d3 d4 d5 d6 dA dB (I L y9) (S Y1 yn1 yc1) (I L (yn1:Int)) (T (decide (y9 < (yn1:Int)))) (I L y9) (I L x16) (S Y1 yn1 yc1) (I L y9) (P (some (a3.add y9.toNat))) (I L x4) (S Y2 yn2 yc2) (I L y9) (P (some (a5.add y9.toNat))) (I L x6) (T (x4 != x6)) (I L y7) (I L x9) (S Y1 yn1 yc1) (I L y9) (P (some (a10.add y9.toNat))) (I L x11) (I L x12) (S Y2 yn2 yc2) (I L y9) (P (some (a13.add y9.toNat))) (I L x14) (I L x15) k3 k4 k5 k6 k7 k8 k9 kA kB kC w8 R))))))
else
(Let (L.wrap (y9+1)) fun x17:Int=>
 qq18.l1 n y0 Y1 yn1 yc1 Y2 yn2 yc2 y7 y8 x17 d3 d4 d5 d6 dA dB (I L y9) (S Y1 yn1 yc1) (I L (yn1:Int)) (T (decide (y9 < (yn1:Int)))) (I L y9) (I L x17) (S Y1 yn1 yc1) (I L y9) (P (some (a3.add y9.toNat))) (I L x4) (S Y2 yn2 yc2) (I L y9) (P (some (a5.add y9.toNat))) (I L x6) (T (x4 != x6)) dR dS dT dU dV dW dX dY dZ k0 k1 k2 k3 k4 k5 k6 k7 k8 k9 kA kB kC w2 R))))))))
else
((if (!y8)=true then
(R (.returned (I L y0)) w)
else
((if (y7 == 0)=true then
(R (.returned (I L 65535)) w)
else
(Let (L.wrap (y7-1)) fun x18:Int=>
 Let (Int.tmod x18 65535) fun x19:Int=>
 Let (L.wrap (1+x19)) fun x20:Int=>
 Let (L.wrap (65535-x20)) fun x21:Int=>
 R (.returned (I L x21)) w))))))):=by kernel_rfl
def qq18.s (i0:Int) (I1:Option Addr) (in1 ic1:Nat) (I2:Option Addr) (in2 ic2:Nat) (w:W) (R:E):Prop:=
(Let (L.wrap (65535-i0)) fun x1:Int=>
 ∃ n2:Nat,qq18.l1 n2 i0 I1 in1 ic1 I2 in2 ic2 x1 false 0 U U U (I L 0) (I L i0) (I L x1) U U U U U U U U U U U U U U U U U U U U U U U U U U U U U U U U U U U U U w R)
theorem qq18.run (h:qq18.s i0 I1 in1 ic1 I2 in2 ic2 w R):Calls Tryz.prog 80 #[I L i0,S I1 in1 ic1,S I2 in2 ic2] w R:=
 calls_segk (ords:=qq18.ords) (J:=qq18.joins) ents mixed Tryz.func80 rfl h (by kernel_rfl)
def qq37.ords:Nat→Od
 | _=>.nil
def qq37.joins (p:List Nat):Bool:=false
def qq37.l1 (n:Nat) (Y0:Option Addr) (yn0 yc0:Nat) (y3:Int) (d1 d2 d4 d5 d6 d7 d8 d9 dA dB dC dD dE dF dG dH dI dJ dK dL dM:V) (w:W) (R:E):Prop:=
 lseg Tryz.prog entE qq37.ords qq37.joins Tryz.f82 [1,0,1,0] [0,1,0,1] [] n [S Y0 yn0 yc0,d1,d2,I L y3,d4,d5,d6,d7,d8,d9,dA,dB,dC,dD,dE,dF,dG,dH,dI,dJ,dK,dL,dM] w R
abbrev qq37.L1 (n:Nat) (Y0:Option Addr) (yn0 yc0:Nat) (y3:Int) (w:W) (R:E):Prop:=∀ d1 d2 d4 d5 d6 d7 d8 d9 dA dB dC dD dE dF dG dH dI dJ dK dL dM,qq37.l1 n Y0 yn0 yc0 y3 d1 d2 d4 d5 d6 d7 d8 d9 dA dB dC dD dE dF dG dH dI dJ dK dL dM w R
theorem qq37.l1_eq {n:Nat}:qq37.l1 (n+1) Y0 yn0 yc0 y3 d1 d2 d4 d5 d6 d7 d8 d9 dA dB dC dD dE dF dG dH dI dJ dK dL dM w R =
((if decide (y3 < (yn0:Int))=true then
(∃ a1:Addr,Y0=some a1∧(0≤y3∧y3 < (yn0:Int))∧
(∃ x2:Int,w.cell? (a1.add y3.toNat)=some (I B x2)∧
((if (x2 != 0)=true then
((if (y3 != 2)=true then
((if (y3 != 3)=true then
(R (.returned (T false)) w)
else
(Let (L.wrap (y3+1)) fun x3:Int=>
 qq37.l1 n Y0 yn0 yc0 x3 d1 d2 (I L y3) (S Y0 yn0 yc0) (I L (yn0:Int)) (T (decide (y3 < (yn0:Int)))) (I L y3) (I L x3) (S Y0 yn0 yc0) (I L y3) (P (some (a1.add y3.toNat))) (I B x2) (T (x2 != 0)) (T true) (I L y3) (T (y3 != 2)) (T (y3 != 2)) (T true) (I L y3) (T (y3 != 3)) (T (y3 != 3)) w R)))
else
(Let (L.wrap (y3+1)) fun x4:Int=>
 qq37.l1 n Y0 yn0 yc0 x4 d1 d2 (I L y3) (S Y0 yn0 yc0) (I L (yn0:Int)) (T (decide (y3 < (yn0:Int)))) (I L y3) (I L x4) (S Y0 yn0 yc0) (I L y3) (P (some (a1.add y3.toNat))) (I B x2) (T (x2 != 0)) (T true) (I L y3) (T (y3 != 2)) (T (y3 != 2)) (T false) U U (T false) w R)))
else
(Let (L.wrap (y3+1)) fun x5:Int=>
 qq37.l1 n Y0 yn0 yc0 x5 d1 d2 (I L y3) (S Y0 yn0 yc0) (I L (yn0:Int)) (T (decide (y3 < (yn0:Int)))) (I L y3) (I L x5) (S Y0 yn0 yc0) (I L y3) (P (some (a1.add y3.toNat))) (I B x2) (T (x2 != 0)) (T false) U U (T false) (T false) U U (T false) w R)))))
else
(R (.returned (T true)) w))):=by kernel_rfl
def qq37.s (I0:Option Addr) (in0 ic0:Nat) (w:W) (R:E):Prop:=
(∃ n1:Nat,qq37.l1 n1 I0 in0 ic0 0 U (T false) U U U U U U U U U U U U U U U U U U U w R)
theorem qq37.run (h:qq37.s I0 in0 ic0 w R):Calls Tryz.prog 82 #[S I0 in0 ic0] w R:=
 calls_segk (ords:=qq37.ords) (J:=qq37.joins) ents mixed Tryz.func82 rfl h (by kernel_rfl)
def qq16.ords:Nat→Od
 | _=>.nil
def qq16.joins (p:List Nat):Bool:=p == [1,0,1,1] || p == [1,1,1] || p == [1,0,1,1,1] || p == [1,1,1,1] || p == [1,0,1,1,1,1] || p == [1,1,1,1,1]
def qq16.j1 (Y1:Option Addr) (yn1 yc1 yg2 yg4 yg6:Nat) (y21:Bool) (d0 d3 d5 d7 d8 d9 dA dB dC dD dE dF dG dH dI dJ dK dM dN dO dP dQ dR dS dT dU dV dW dX dY dZ k0 k1 k2 k3 k4 k5 k6 k7 k8 k9 kA kB kC kD kE kF kG kH kI kJ kK kL kM kN kO kP kQ kR kS kT kU kV kW kX:V) (w:W) (R:E):Prop:=
 seg Tryz.prog entE qq16.ords qq16.joins Tryz.f51 [1,1,0,1] [1,0,1,1] [] [d0,S Y1 yn1 yc1,P (some ⟨yg2,0,N⟩),d3,P (some ⟨yg4,0,N⟩),d5,P (some ⟨yg6,0,N⟩),d7,d8,d9,dA,dB,dC,dD,dE,dF,dG,dH,dI,dJ,dK,T y21,dM,dN,dO,dP,dQ,dR,dS,dT,dU,dV,dW,dX,dY,dZ,k0,k1,k2,k3,k4,k5,k6,k7,k8,k9,kA,kB,kC,kD,kE,kF,kG,kH,kI,kJ,kK,kL,kM,kN,kO,kP,kQ,kR,kS,kT,kU,kV,kW,kX] w R
def qq16.j2 (Y1:Option Addr) (yn1 yc1 yg2 yg4 yg6:Nat) (d0 d3 d5 d7 d8 d9 dA dB dC dD dE dF dG dH dI dJ dK dL dM dN dO dP dQ dR dS dT dU dV dW dX dY dZ k0 k1 k2 k3 k4 k5 k6 k7 k8 k9 kA kB kC kD kE kF kG kH kI kJ kK kL kM kN kO kP kQ kR kS kT kU kV kW kX:V) (w:W) (R:E):Prop:=
 seg Tryz.prog entE qq16.ords qq16.joins Tryz.f51 [1,1,1] [1,1,1] [] [d0,S Y1 yn1 yc1,P (some ⟨yg2,0,N⟩),d3,P (some ⟨yg4,0,N⟩),d5,P (some ⟨yg6,0,N⟩),d7,d8,d9,dA,dB,dC,dD,dE,dF,dG,dH,dI,dJ,dK,dL,dM,dN,dO,dP,dQ,dR,dS,dT,dU,dV,dW,dX,dY,dZ,k0,k1,k2,k3,k4,k5,k6,k7,k8,k9,kA,kB,kC,kD,kE,kF,kG,kH,kI,kJ,kK,kL,kM,kN,kO,kP,kQ,kR,kS,kT,kU,kV,kW,kX] w R
def qq16.j3 (Y1:Option Addr) (yn1 yc1 yg2 yg4 yg6:Nat) (y30:Bool) (d0 d3 d5 d7 d8 d9 dA dB dC dD dE dF dG dH dI dJ dK dL dM dN dO dP dQ dR dS dT dV dW dX dY dZ k0 k1 k2 k3 k4 k5 k6 k7 k8 k9 kA kB kC kD kE kF kG kH kI kJ kK kL kM kN kO kP kQ kR kS kT kU kV kW kX:V) (w:W) (R:E):Prop:=
 seg Tryz.prog entE qq16.ords qq16.joins Tryz.f51 [1,1,1,0,1] [1,0,1,1,1] [] [d0,S Y1 yn1 yc1,P (some ⟨yg2,0,N⟩),d3,P (some ⟨yg4,0,N⟩),d5,P (some ⟨yg6,0,N⟩),d7,d8,d9,dA,dB,dC,dD,dE,dF,dG,dH,dI,dJ,dK,dL,dM,dN,dO,dP,dQ,dR,dS,dT,T y30,dV,dW,dX,dY,dZ,k0,k1,k2,k3,k4,k5,k6,k7,k8,k9,kA,kB,kC,kD,kE,kF,kG,kH,kI,kJ,kK,kL,kM,kN,kO,kP,kQ,kR,kS,kT,kU,kV,kW,kX] w R
def qq16.j4 (Y1:Option Addr) (yn1 yc1 yg2 yg4 yg6:Nat) (d0 d3 d5 d7 d8 d9 dA dB dC dD dE dF dG dH dI dJ dK dL dM dN dO dP dQ dR dS dT dU dV dW dX dY dZ k0 k1 k2 k3 k4 k5 k6 k7 k8 k9 kA kB kC kD kE kF kG kH kI kJ kK kL kM kN kO kP kQ kR kS kT kU kV kW kX:V) (w:W) (R:E):Prop:=
 seg Tryz.prog entE qq16.ords qq16.joins Tryz.f51 [1,1,1,1] [1,1,1,1] [] [d0,S Y1 yn1 yc1,P (some ⟨yg2,0,N⟩),d3,P (some ⟨yg4,0,N⟩),d5,P (some ⟨yg6,0,N⟩),d7,d8,d9,dA,dB,dC,dD,dE,dF,dG,dH,dI,dJ,dK,dL,dM,dN,dO,dP,dQ,dR,dS,dT,dU,dV,dW,dX,dY,dZ,k0,k1,k2,k3,k4,k5,k6,k7,k8,k9,kA,kB,kC,kD,kE,kF,kG,kH,kI,kJ,kK,kL,kM,kN,kO,kP,kQ,kR,kS,kT,kU,kV,kW,kX] w R
def qq16.j5 (Y1:Option Addr) (yn1 yc1 yg4 yg6:Nat) (y60:Bool) (d0 d2 d3 d5 d7 d8 d9 dA dB dC dD dE dF dG dH dI dJ dK dL dM dN dO dP dQ dR dS dT dU dV dW dX dY dZ k0 k1 k2 k3 k4 k5 k6 k7 k8 k9 kA kB kC kD kE kF kG kH kI kJ kK kL kM kN kP kQ kR kS kT kU kV kW kX:V) (w:W) (R:E):Prop:=
 seg Tryz.prog entE qq16.ords qq16.joins Tryz.f51 [1,1,1,1,0,1] [1,0,1,1,1,1] [] [d0,S Y1 yn1 yc1,d2,d3,P (some ⟨yg4,0,N⟩),d5,P (some ⟨yg6,0,N⟩),d7,d8,d9,dA,dB,dC,dD,dE,dF,dG,dH,dI,dJ,dK,dL,dM,dN,dO,dP,dQ,dR,dS,dT,dU,dV,dW,dX,dY,dZ,k0,k1,k2,k3,k4,k5,k6,k7,k8,k9,kA,kB,kC,kD,kE,kF,kG,kH,kI,kJ,kK,kL,kM,kN,T y60,kP,kQ,kR,kS,kT,kU,kV,kW,kX] w R
def qq16.j6 (Y1:Option Addr) (yn1 yc1 yg4 yg6:Nat) (d0 d2 d3 d5 d7 d8 d9 dA dB dC dD dE dF dG dH dI dJ dK dL dM dN dO dP dQ dR dS dT dU dV dW dX dY dZ k0 k1 k2 k3 k4 k5 k6 k7 k8 k9 kA kB kC kD kE kF kG kH kI kJ kK kL kM kN kO kP kQ kR kS kT kU kV kW kX:V) (w:W) (R:E):Prop:=
 seg Tryz.prog entE qq16.ords qq16.joins Tryz.f51 [1,1,1,1,1] [1,1,1,1,1] [] [d0,S Y1 yn1 yc1,d2,d3,P (some ⟨yg4,0,N⟩),d5,P (some ⟨yg6,0,N⟩),d7,d8,d9,dA,dB,dC,dD,dE,dF,dG,dH,dI,dJ,dK,dL,dM,dN,dO,dP,dQ,dR,dS,dT,dU,dV,dW,dX,dY,dZ,k0,k1,k2,k3,k4,k5,k6,k7,k8,k9,kA,kB,kC,kD,kE,kF,kG,kH,kI,kJ,kK,kL,kM,kN,kO,kP,kQ,kR,kS,kT,kU,kV,kW,kX] w R
abbrev qq16.J1 (Y1:Option Addr) (yn1 yc1 yg2 yg4 yg6:Nat) (y21:Bool) (w:W) (R:E):Prop:=∀ d0 d3 d5 d7 d8 d9 dA dB dC dD dE dF dG dH dI dJ dK dM dN dO dP dQ dR dS dT dU dV dW dX dY dZ k0 k1 k2 k3 k4 k5 k6 k7 k8 k9 kA kB kC kD kE kF kG kH kI kJ kK kL kM kN kO kP kQ kR kS kT kU kV kW kX,qq16.j1 Y1 yn1 yc1 yg2 yg4 yg6 y21 d0 d3 d5 d7 d8 d9 dA dB dC dD dE dF dG dH dI dJ dK dM dN dO dP dQ dR dS dT dU dV dW dX dY dZ k0 k1 k2 k3 k4 k5 k6 k7 k8 k9 kA kB kC kD kE kF kG kH kI kJ kK kL kM kN kO kP kQ kR kS kT kU kV kW kX w R
abbrev qq16.J2 (Y1:Option Addr) (yn1 yc1 yg2 yg4 yg6:Nat) (w:W) (R:E):Prop:=∀ d0 d3 d5 d7 d8 d9 dA dB dC dD dE dF dG dH dI dJ dK dL dM dN dO dP dQ dR dS dT dU dV dW dX dY dZ k0 k1 k2 k3 k4 k5 k6 k7 k8 k9 kA kB kC kD kE kF kG kH kI kJ kK kL kM kN kO kP kQ kR kS kT kU kV kW kX,qq16.j2 Y1 yn1 yc1 yg2 yg4 yg6 d0 d3 d5 d7 d8 d9 dA dB dC dD dE dF dG dH dI dJ dK dL dM dN dO dP dQ dR dS dT dU dV dW dX dY dZ k0 k1 k2 k3 k4 k5 k6 k7 k8 k9 kA kB kC kD kE kF kG kH kI kJ kK kL kM kN kO kP kQ kR kS kT kU kV kW kX w R
abbrev qq16.J3 (Y1:Option Addr) (yn1 yc1 yg2 yg4 yg6:Nat) (y30:Bool) (w:W) (R:E):Prop:=∀ d0 d3 d5 d7 d8 d9 dA dB dC dD dE dF dG dH dI dJ dK dL dM dN dO dP dQ dR dS dT dV dW dX dY dZ k0 k1 k2 k3 k4 k5 k6 k7 k8 k9 kA kB kC kD kE kF kG kH kI kJ kK kL kM kN kO kP kQ kR kS kT kU kV kW kX,qq16.j3 Y1 yn1 yc1 yg2 yg4 yg6 y30 d0 d3 d5 d7 d8 d9 dA dB dC dD dE dF dG dH dI dJ dK dL dM dN dO dP dQ dR dS dT dV dW dX dY dZ k0 k1 k2 k3 k4 k5 k6 k7 k8 k9 kA kB kC kD kE kF kG kH kI kJ kK kL kM kN kO kP kQ kR kS kT kU kV kW kX w R
abbrev qq16.J4 (Y1:Option Addr) (yn1 yc1 yg2 yg4 yg6:Nat) (w:W) (R:E):Prop:=∀ d0 d3 d5 d7 d8 d9 dA dB dC dD dE dF dG dH dI dJ dK dL dM dN dO dP dQ dR dS dT dU dV dW dX dY dZ k0 k1 k2 k3 k4 k5 k6 k7 k8 k9 kA kB kC kD kE kF kG kH kI kJ kK kL kM kN kO kP kQ kR kS kT kU kV kW kX,qq16.j4 Y1 yn1 yc1 yg2 yg4 yg6 d0 d3 d5 d7 d8 d9 dA dB dC dD dE dF dG dH dI dJ dK dL dM dN dO dP dQ dR dS dT dU dV dW dX dY dZ k0 k1 k2 k3 k4 k5 k6 k7 k8 k9 kA kB kC kD kE kF kG kH kI kJ kK kL kM kN kO kP kQ kR kS kT kU kV kW kX w R
abbrev qq16.J5 (Y1:Option Addr) (yn1 yc1 yg4 yg6:Nat) (y60:Bool) (w:W) (R:E):Prop:=∀ d0 d2 d3 d5 d7 d8 d9 dA dB dC dD dE dF dG dH dI dJ dK dL dM dN dO dP dQ dR dS dT dU dV dW dX dY dZ k0 k1 k2 k3 k4 k5 k6 k7 k8 k9 kA kB kC kD kE kF kG kH kI kJ kK kL kM kN kP kQ kR kS kT kU kV kW kX,qq16.j5 Y1 yn1 yc1 yg4 yg6 y60 d0 d2 d3 d5 d7 d8 d9 dA dB dC dD dE dF dG dH dI dJ dK dL dM dN dO dP dQ dR dS dT dU dV dW dX dY dZ k0 k1 k2 k3 k4 k5 k6 k7 k8 k9 kA kB kC kD kE kF kG kH kI kJ kK kL kM kN kP kQ kR kS kT kU kV kW kX w R
abbrev qq16.J6 (Y1:Option Addr) (yn1 yc1 yg4 yg6:Nat) (w:W) (R:E):Prop:=∀ d0 d2 d3 d5 d7 d8 d9 dA dB dC dD dE dF dG dH dI dJ dK dL dM dN dO dP dQ dR dS dT dU dV dW dX dY dZ k0 k1 k2 k3 k4 k5 k6 k7 k8 k9 kA kB kC kD kE kF kG kH kI kJ kK kL kM kN kO kP kQ kR kS kT kU kV kW kX,qq16.j6 Y1 yn1 yc1 yg4 yg6 d0 d2 d3 d5 d7 d8 d9 dA dB dC dD dE dF dG dH dI dJ dK dL dM dN dO dP dQ dR dS dT dU dV dW dX dY dZ k0 k1 k2 k3 k4 k5 k6 k7 k8 k9 kA kB kC kD kE kF kG kH kI kJ kK kL kM kN kO kP kQ kR kS kT kU kV kW kX w R
theorem qq16.j1_eq:qq16.j1 Y1 yn1 yc1 yg2 yg4 yg6 y21 d0 d3 d5 d7 d8 d9 dA dB dC dD dE dF dG dH dI dJ dK dM dN dO dP dQ dR dS dT dU dV dW dX dY dZ k0 k1 k2 k3 k4 k5 k6 k7 k8 k9 kA kB kC kD kE kF kG kH kI kJ kK kL kM kN kO kP kQ kR kS kT kU kV kW kX w R =
((if y21=true then
(∃ x1 x2 x3 x4 x5:Int,(5=5∧At w ⟨yg6,0,N⟩ [I D x1,I D x2,I B x3,I H x4,I H x5])∧
(May w ⟨yg4,0,N⟩ 5∧
(Let (putCells w ⟨yg4,0,N⟩ [I D x1,I D x2,I B x3,I H x4,I H x5] 0) fun w6:W=>
 ∃ x7 x8 x9 x10 x11:Int,(5=5∧At w6 ⟨yg4,0,N⟩ [I D x7,I D x8,I B x9,I H x10,I H x11])∧
(R (.returned (.tuple #[G #[I D x7,I D x8,I B x9,I H x10,I H x11],T false])) w6))))
else
(Leaf (qq16.j2 Y1 yn1 yc1 yg2 yg4 yg6 d0 d3 d5 d7 d8 d9 dA dB dC dD dE dF dG dH dI dJ dK (T y21) dM dN dO dP dQ dR dS dT dU dV dW dX dY dZ k0 k1 k2 k3 k4 k5 k6 k7 k8 k9 kA kB kC kD kE kF kG kH kI kJ kK kL kM kN kO kP kQ kR kS kT kU kV kW kX w R)))):=by kernel_rfl
theorem qq16.j2_eq:qq16.j2 Y1 yn1 yc1 yg2 yg4 yg6 d0 d3 d5 d7 d8 d9 dA dB dC dD dE dF dG dH dI dJ dK dL dM dN dO dP dQ dR dS dT dU dV dW dX dY dZ k0 k1 k2 k3 k4 k5 k6 k7 k8 k9 kA kB kC kD kE kF kG kH kI kJ kK kL kM kN kO kP kQ kR kS kT kU kV kW kX w R =
(∃ x1:Int,w.cell? ⟨yg2,6,N⟩=some (I B x1)∧
((if (x1 == 6)=true then
(Leaf (qq16.j3 Y1 yn1 yc1 yg2 yg4 yg6 true d0 d3 d5 d7 d8 d9 dA dB dC dD dE dF dG dH dI dJ dK dL dM (P (some ⟨yg2,6,N⟩)) (I B x1) (T (x1 == 6)) (T true) U U U dV dW dX dY dZ k0 k1 k2 k3 k4 k5 k6 k7 k8 k9 kA kB kC kD kE kF kG kH kI kJ kK kL kM kN kO kP kQ kR kS kT kU kV kW kX w R))
else
(∃ x2:Int,w.cell? ⟨yg2,6,N⟩=some (I B x2)∧
(Leaf (qq16.j3 Y1 yn1 yc1 yg2 yg4 yg6 (x2 == 17) d0 d3 d5 d7 d8 d9 dA dB dC dD dE dF dG dH dI dJ dK dL dM (P (some ⟨yg2,6,N⟩)) (I B x1) (T (x1 == 6)) (T false) (P (some ⟨yg2,6,N⟩)) (I B x2) (T (x2 == 17)) dV dW dX dY dZ k0 k1 k2 k3 k4 k5 k6 k7 k8 k9 kA kB kC kD kE kF kG kH kI kJ kK kL kM kN kO kP kQ kR kS kT kU kV kW kX w R)))))):=by kernel_rfl
theorem qq16.j3_eq:qq16.j3 Y1 yn1 yc1 yg2 yg4 yg6 y30 d0 d3 d5 d7 d8 d9 dA dB dC dD dE dF dG dH dI dJ dK dL dM dN dO dP dQ dR dS dT dV dW dX dY dZ k0 k1 k2 k3 k4 k5 k6 k7 k8 k9 kA kB kC kD kE kF kG kH kI kJ kK kL kM kN kO kP kQ kR kS kT kU kV kW kX w R =
((if y30=true then
(Calls Tryz.prog 81 #[S Y1 yn1 yc1,I L 0] w (fun (e2:Ending) (w1:W)=>
 ∃ x3:Int,e2=.returned (I L x3)∧
(Let (H.wrap x3) fun x4:Int=>
 MayC w1 ⟨yg6,3,N⟩∧
(Let (w1.setCell ⟨yg6,3,N⟩ (I H x4)) fun w5:W=>
 Calls Tryz.prog 81 #[S Y1 yn1 yc1,I L 2] w5 (fun (e7:Ending) (w6:W)=>
 ∃ x8:Int,e7=.returned (I L x8)∧
(Let (H.wrap x8) fun x9:Int=>
 MayC w6 ⟨yg6,4,N⟩∧
(Let (w6.setCell ⟨yg6,4,N⟩ (I H x9)) fun w10:W=>
 ∃ x11 x12 x13 x14 x15:Int,(5=5∧At w10 ⟨yg6,0,N⟩ [I D x11,I D x12,I B x13,I H x14,I H x15])∧
(May w10 ⟨yg4,0,N⟩ 5∧
(Let (putCells w10 ⟨yg4,0,N⟩ [I D x11,I D x12,I B x13,I H x14,I H x15] 0) fun w16:W=>
 ∃ x17 x18 x19 x20 x21:Int,(5=5∧At w16 ⟨yg4,0,N⟩ [I D x17,I D x18,I B x19,I H x20,I H x21])∧
(R (.returned (.tuple #[G #[I D x17,I D x18,I B x19,I H x20,I H x21],T true])) w16))))))))))
else
(Leaf (qq16.j4 Y1 yn1 yc1 yg2 yg4 yg6 d0 d3 d5 d7 d8 d9 dA dB dC dD dE dF dG dH dI dJ dK dL dM dN dO dP dQ dR dS dT (T y30) dV dW dX dY dZ k0 k1 k2 k3 k4 k5 k6 k7 k8 k9 kA kB kC kD kE kF kG kH kI kJ kK kL kM kN kO kP kQ kR kS kT kU kV kW kX w R)))):=by kernel_rfl
theorem qq16.j4_eq:qq16.j4 Y1 yn1 yc1 yg2 yg4 yg6 d0 d3 d5 d7 d8 d9 dA dB dC dD dE dF dG dH dI dJ dK dL dM dN dO dP dQ dR dS dT dU dV dW dX dY dZ k0 k1 k2 k3 k4 k5 k6 k7 k8 k9 kA kB kC kD kE kF kG kH kI kJ kK kL kM kN kO kP kQ kR kS kT kU kV kW kX w R =
(∃ x1:Int,w.cell? ⟨yg2,6,N⟩=some (I B x1)∧
((if (x1 != 1)=true then
(Leaf (qq16.j5 Y1 yn1 yc1 yg4 yg6 true d0 (P (some ⟨yg2,0,N⟩)) d3 d5 d7 d8 d9 dA dB dC dD dE dF dG dH dI dJ dK dL dM dN dO dP dQ dR dS dT dU dV dW dX dY dZ k0 k1 k2 k3 (P (some ⟨yg2,6,N⟩)) (I B x1) (T (x1 != 1)) (T true) U U U U (T true) (T true) U U U U U U U U U U kP kQ kR kS kT kU kV kW kX w R))
else
(∃ a2:Addr,Y1=some a2∧(0≤(1:Int)∧(1:Int) < (yn1:Int))∧
(∃ x3:Int,w.cell? (a2.add 1)=some (I B x3)∧
((if (x3 != 0)=true then
(Leaf (qq16.j5 Y1 yn1 yc1 yg4 yg6 true d0 (P (some ⟨yg2,0,N⟩)) d3 d5 d7 d8 d9 dA dB dC dD dE dF dG dH dI dJ dK dL dM dN dO dP dQ dR dS dT dU dV dW dX dY dZ k0 k1 k2 k3 (P (some ⟨yg2,6,N⟩)) (I B x1) (T (x1 != 1)) (T false) (S Y1 yn1 yc1) (P (some (a2.add 1))) (I B x3) (T (x3 != 0)) (T (x3 != 0)) (T true) U U U U U U U U U U kP kQ kR kS kT kU kV kW kX w R))
else
(∃ a4:Addr,Y1=some a4∧(0≤(0:Int)∧(0:Int) < (yn1:Int))∧
(∃ x5:Int,w.cell? a4=some (I B x5)∧
((if (x5 != 8)=true then
(∃ a6:Addr,Y1=some a6∧(0≤(0:Int)∧(0:Int) < (yn1:Int))∧
(∃ x7:Int,w.cell? a6=some (I B x7)∧
(Leaf (qq16.j5 Y1 yn1 yc1 yg4 yg6 (x7 != 0) d0 (P (some ⟨yg2,0,N⟩)) d3 d5 d7 d8 d9 dA dB dC dD dE dF dG dH dI dJ dK dL dM dN dO dP dQ dR dS dT dU dV dW dX dY dZ k0 k1 k2 k3 (P (some ⟨yg2,6,N⟩)) (I B x1) (T (x1 != 1)) (T false) (S Y1 yn1 yc1) (P (some (a2.add 1))) (I B x3) (T (x3 != 0)) (T (x3 != 0)) (T false) (S Y1 yn1 yc1) (P (some a4)) (I B x5) (T (x5 != 8)) (T true) (S Y1 yn1 yc1) (P (some a6)) (I B x7) (T (x7 != 0)) (T (x7 != 0)) kP kQ kR kS kT kU kV kW kX w R))))
else
(Leaf (qq16.j5 Y1 yn1 yc1 yg4 yg6 false d0 (P (some ⟨yg2,0,N⟩)) d3 d5 d7 d8 d9 dA dB dC dD dE dF dG dH dI dJ dK dL dM dN dO dP dQ dR dS dT dU dV dW dX dY dZ k0 k1 k2 k3 (P (some ⟨yg2,6,N⟩)) (I B x1) (T (x1 != 1)) (T false) (S Y1 yn1 yc1) (P (some (a2.add 1))) (I B x3) (T (x3 != 0)) (T (x3 != 0)) (T false) (S Y1 yn1 yc1) (P (some a4)) (I B x5) (T (x5 != 8)) (T false) U U U U (T false) kP kQ kR kS kT kU kV kW kX w R))))))))))))):=by kernel_rfl
theorem qq16.j5_eq:qq16.j5 Y1 yn1 yc1 yg4 yg6 y60 d0 d2 d3 d5 d7 d8 d9 dA dB dC dD dE dF dG dH dI dJ dK dL dM dN dO dP dQ dR dS dT dU dV dW dX dY dZ k0 k1 k2 k3 k4 k5 k6 k7 k8 k9 kA kB kC kD kE kF kG kH kI kJ kK kL kM kN kP kQ kR kS kT kU kV kW kX w R =
((if y60=true then
(∃ x1 x2 x3 x4 x5:Int,(5=5∧At w ⟨yg6,0,N⟩ [I D x1,I D x2,I B x3,I H x4,I H x5])∧
(May w ⟨yg4,0,N⟩ 5∧
(Let (putCells w ⟨yg4,0,N⟩ [I D x1,I D x2,I B x3,I H x4,I H x5] 0) fun w6:W=>
 ∃ x7 x8 x9 x10 x11:Int,(5=5∧At w6 ⟨yg4,0,N⟩ [I D x7,I D x8,I B x9,I H x10,I H x11])∧
(R (.returned (.tuple #[G #[I D x7,I D x8,I B x9,I H x10,I H x11],T false])) w6))))
else
(Leaf (qq16.j6 Y1 yn1 yc1 yg4 yg6 d0 d2 d3 d5 d7 d8 d9 dA dB dC dD dE dF dG dH dI dJ dK dL dM dN dO dP dQ dR dS dT dU dV dW dX dY dZ k0 k1 k2 k3 k4 k5 k6 k7 k8 k9 kA kB kC kD kE kF kG kH kI kJ kK kL kM kN (T y60) kP kQ kR kS kT kU kV kW kX w R)))):=by kernel_rfl
theorem qq16.j6_eq:qq16.j6 Y1 yn1 yc1 yg4 yg6 d0 d2 d3 d5 d7 d8 d9 dA dB dC dD dE dF dG dH dI dJ dK dL dM dN dO dP dQ dR dS dT dU dV dW dX dY dZ k0 k1 k2 k3 k4 k5 k6 k7 k8 k9 kA kB kC kD kE kF kG kH kI kJ kK kL kM kN kO kP kQ kR kS kT kU kV kW kX w R =
(Calls Tryz.prog 81 #[S Y1 yn1 yc1,I L 4] w (fun (e2:Ending) (w1:W)=>
 ∃ x3:Int,e2=.returned (I L x3)∧
(Let (H.wrap x3) fun x4:Int=>
 MayC w1 ⟨yg6,3,N⟩∧
(Let (w1.setCell ⟨yg6,3,N⟩ (I H x4)) fun w5:W=>
 ∃ x6:Int,w5.cell? ⟨yg6,3,N⟩=some (I H x6)∧
(MayC w5 ⟨yg6,4,N⟩∧
(Let (w5.setCell ⟨yg6,4,N⟩ (I H x6)) fun w7:W=>
 ∃ x8 x9 x10 x11 x12:Int,(5=5∧At w7 ⟨yg6,0,N⟩ [I D x8,I D x9,I B x10,I H x11,I H x12])∧
(May w7 ⟨yg4,0,N⟩ 5∧
(Let (putCells w7 ⟨yg4,0,N⟩ [I D x8,I D x9,I B x10,I H x11,I H x12] 0) fun w13:W=>
 ∃ x14 x15 x16 x17 x18:Int,(5=5∧At w13 ⟨yg4,0,N⟩ [I D x14,I D x15,I B x16,I H x17,I H x18])∧
(R (.returned (.tuple #[G #[I D x14,I D x15,I B x16,I H x17,I H x18],T true])) w13))))))))):=by kernel_rfl
def qq16.s (i0_0 i0_1:Int) (i0_2 i0_3:Bool) (i0_4 i0_5 i0_6 i0_7 i0_8:Int) (I0_9:Option Addr) (in0_9 ic0_9:Nat) (I1:Option Addr) (in1 ic1:Nat) (w:W) (R:E):Prop:=
(Let (w.heap.size) fun g1:Nat=>
 Let (w.alloc (.cells #[I B i0_0,I H i0_1,T i0_2,T i0_3,I L i0_4,I B i0_5,I B i0_6,I D i0_7,I D i0_8,S I0_9 in0_9 ic0_9] 35)) fun w2:W=>
 Let (w2.heap.size) fun g3:Nat=>
 Let (w2.alloc (.cells #[I D 0,I D 0,I B 0,I H 0,I H 0] 39)) fun w4:W=>
 ∃ x5:Int,w4.cell? ⟨g1,7,N⟩=some (I D x5)∧
(∃ x6:Int,w4.cell? ⟨g1,8,N⟩=some (I D x6)∧
(∃ x7:Int,w4.cell? ⟨g1,6,N⟩=some (I B x7)∧
(Let (w4.heap.size) fun g8:Nat=>
 Let (w4.alloc (.cells #[I D 0,I D 0,I B 0,I H 0,I H 0] 39)) fun w9:W=>
 May w9 ⟨g8,0,N⟩ 5∧
(Let (putCells w9 ⟨g8,0,N⟩ [I D x5,I D x6,I B x7,I H 0,I H 0] 0) fun w10:W=>
 ∃ x11:Int,w10.cell? ⟨g1,4,N⟩=some (I L x11)∧
((if (x11 != 0)=true then
(Leaf (qq16.j1 I1 in1 ic1 g1 g3 g8 true (G #[I B i0_0,I H i0_1,T i0_2,T i0_3,I L i0_4,I B i0_5,I B i0_6,I D i0_7,I D i0_8,S I0_9 in0_9 ic0_9]) U (T false) (P (some ⟨g1,7,N⟩)) (I D x5) (P (some ⟨g1,8,N⟩)) (I D x6) (P (some ⟨g1,6,N⟩)) (I B x7) (G #[I D x5,I D x6,I B x7,I H 0,I H 0]) (P (some ⟨g1,4,N⟩)) (I L x11) (T (x11 != 0)) (T true) U U U U U U U U U U U U U U U U U U U U U U U U U U U U U U U U U U U U U U U U U U U U U U U U U U U w10 R))
else
(Leaf (qq16.j1 I1 in1 ic1 g1 g3 g8 (decide ((in1:Int) < 8)) (G #[I B i0_0,I H i0_1,T i0_2,T i0_3,I L i0_4,I B i0_5,I B i0_6,I D i0_7,I D i0_8,S I0_9 in0_9 ic0_9]) U (T false) (P (some ⟨g1,7,N⟩)) (I D x5) (P (some ⟨g1,8,N⟩)) (I D x6) (P (some ⟨g1,6,N⟩)) (I B x7) (G #[I D x5,I D x6,I B x7,I H 0,I H 0]) (P (some ⟨g1,4,N⟩)) (I L x11) (T (x11 != 0)) (T false) (S I1 in1 ic1) (I L (in1:Int)) (T (decide ((in1:Int) < 8))) U U U U U U U U U U U U U U U U U U U U U U U U U U U U U U U U U U U U U U U U U U U U U U U U w10 R)))))))))
theorem qq16.run (h:qq16.s i0_0 i0_1 i0_2 i0_3 i0_4 i0_5 i0_6 i0_7 i0_8 I0_9 in0_9 ic0_9 I1 in1 ic1 w R):Calls Tryz.prog 51 #[G #[I B i0_0,I H i0_1,T i0_2,T i0_3,I L i0_4,I B i0_5,I B i0_6,I D i0_7,I D i0_8,S I0_9 in0_9 ic0_9],S I1 in1 ic1] w R:=
 calls_segk (ords:=qq16.ords) (J:=qq16.joins) ents mixed Tryz.func51 rfl h (by kernel_rfl)
end Go.Proofs.YtphbdmafchjjeaaGreatDoorS
