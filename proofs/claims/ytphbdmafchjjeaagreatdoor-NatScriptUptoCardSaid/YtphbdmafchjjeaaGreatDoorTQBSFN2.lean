import Derived.Test.YtphbdmafchjjeaaGreatDoorTQBSPureM
namespace Go.Proofs.YtphbdmafchjjeaaGreatDoorS
open Go Go.Proofs
open Go renaming undef → U, World → W, Value → V
open Go.Value renaming int → I, slice → S, bool → T, pointer → P, agg → G
open Go.IntKind renaming u8 → B, u16 → H, u32 → D, u64 → Q, i64 → L
open Option renaming none → N
set_option autoImplicit true
set_option relaxedAutoImplicit true
set_option maxRecDepth 100000
set_option linter.unusedVariables false
def qq49.ords:Nat→Od
 | 8=>(.tk 0 (.tk 1 (.tk 2 (.tk 3 (.tk 4 (.tk 5 (.tk 6 (.tk 7 (.on 8 (.tk 9 .nil))))))))))
 | 10=>(.tk 0 (.tk 1 (.tk 2 (.tk 3 (.tk 4 (.tk 5 (.tk 6 (.tk 7 (.tk 8 (.on 9 (.tk 10 .nil)))))))))))
 | 13=>(.tk 0 (.tk 1 (.tk 2 (.tk 3 (.tk 4 (.tk 5 (.tk 6 (.tk 7 (.tk 8 (.tk 9 (.tk 10 (.tk 11 (.tk 12 (.tk 13 (.last 14)))))))))))))))
 | _=>.nil
def qq49.joins (p:List Nat):Bool:=p == [1,1,1] || p == [1,0,1,1,1,1] || p == [1,1,1,1,1] || p == [1,1,1,1,1,1,1]
def qq49.j1 (y0:Option Addr) (y2:Int) (y8:Option Addr) (d1 d3 d4 d5 d6 d7 d9 dA dB dC dD dE dF dG dH dI dJ dK dL dM dN dO dP dQ dR dS dT dU dV dW dX dY dZ k0 k1 k2 k3 k4 k5 k6 k7 k8 k9 kA kB kC kD kE kF kG kH kI kJ kK kL kM kN kO kP kQ kR kS kT kU kV kW kX kY kZ v0 v1 v2 v3 v4 v5 v6 v7 v8 v9 vA vB vC vD vE vF vG vH vI vJ vK:V) (w:W) (R:E):Prop:=
 seg Tryz.prog entE qq49.ords qq49.joins Tryz.f21 [1,1,1] [1,1,1] [] [P y0,d1,I H y2,d3,d4,d5,d6,d7,P y8,d9,dA,dB,dC,dD,dE,dF,dG,dH,dI,dJ,dK,dL,dM,dN,dO,dP,dQ,dR,dS,dT,dU,dV,dW,dX,dY,dZ,k0,k1,k2,k3,k4,k5,k6,k7,k8,k9,kA,kB,kC,kD,kE,kF,kG,kH,kI,kJ,kK,kL,kM,kN,kO,kP,kQ,kR,kS,kT,kU,kV,kW,kX,kY,kZ,v0,v1,v2,v3,v4,v5,v6,v7,v8,v9,vA,vB,vC,vD,vE,vF,vG,vH,vI,vJ,vK] w R
def qq49.j2 (y0 y8:Option Addr) (y9:Int) (y42:Bool) (d1 d2 d3 d4 d5 d6 d7 dA dB dC dD dE dF dG dH dI dJ dK dL dM dN dO dP dQ dR dS dT dU dV dW dX dY dZ k0 k1 k2 k3 k4 k5 k7 k8 k9 kA kB kC kD kE kF kG kH kI kJ kK kL kM kN kO kP kQ kR kS kT kU kV kW kX kY kZ v0 v1 v2 v3 v4 v5 v6 v7 v8 v9 vA vB vC vD vE vF vG vH vI vJ vK:V) (w:W) (R:E):Prop:=
 seg Tryz.prog entE qq49.ords qq49.joins Tryz.f21 [1,1,1,1,0,1] [1,0,1,1,1,1] [] [P y0,d1,d2,d3,d4,d5,d6,d7,P y8,I L y9,dA,dB,dC,dD,dE,dF,dG,dH,dI,dJ,dK,dL,dM,dN,dO,dP,dQ,dR,dS,dT,dU,dV,dW,dX,dY,dZ,k0,k1,k2,k3,k4,k5,T y42,k7,k8,k9,kA,kB,kC,kD,kE,kF,kG,kH,kI,kJ,kK,kL,kM,kN,kO,kP,kQ,kR,kS,kT,kU,kV,kW,kX,kY,kZ,v0,v1,v2,v3,v4,v5,v6,v7,v8,v9,vA,vB,vC,vD,vE,vF,vG,vH,vI,vJ,vK] w R
def qq49.j3 (y0 y8:Option Addr) (y9:Int) (d1 d2 d3 d4 d5 d6 d7 dA dB dC dD dE dF dG dH dI dJ dK dL dM dN dO dP dQ dR dS dT dU dV dW dX dY dZ k0 k1 k2 k3 k4 k5 k6 k7 k8 k9 kA kB kC kD kE kF kG kH kI kJ kK kL kM kN kO kP kQ kR kS kT kU kV kW kX kY kZ v0 v1 v2 v3 v4 v5 v6 v7 v8 v9 vA vB vC vD vE vF vG vH vI vJ vK:V) (w:W) (R:E):Prop:=
 seg Tryz.prog entE qq49.ords qq49.joins Tryz.f21 [1,1,1,1,1] [1,1,1,1,1] [] [P y0,d1,d2,d3,d4,d5,d6,d7,P y8,I L y9,dA,dB,dC,dD,dE,dF,dG,dH,dI,dJ,dK,dL,dM,dN,dO,dP,dQ,dR,dS,dT,dU,dV,dW,dX,dY,dZ,k0,k1,k2,k3,k4,k5,k6,k7,k8,k9,kA,kB,kC,kD,kE,kF,kG,kH,kI,kJ,kK,kL,kM,kN,kO,kP,kQ,kR,kS,kT,kU,kV,kW,kX,kY,kZ,v0,v1,v2,v3,v4,v5,v6,v7,v8,v9,vA,vB,vC,vD,vE,vF,vG,vH,vI,vJ,vK] w R
def qq49.j4 (y8:Option Addr) (y10:Int) (d0 d1 d2 d3 d4 d5 d6 d7 d9 dB dC dD dE dF dG dH dI dJ dK dL dM dN dO dP dQ dR dS dT dU dV dW dX dY dZ k0 k1 k2 k3 k4 k5 k6 k7 k8 k9 kA kB kC kD kE kF kG kH kI kJ kK kL kM kN kO kP kQ kR kS kT kU kV kW kX kY kZ v0 v1 v2 v3 v4 v5 v6 v7 v8 v9 vA vB vC vD vE vF vG vH vI vJ vK:V) (w:W) (R:E):Prop:=
 seg Tryz.prog entE qq49.ords qq49.joins Tryz.f21 [1,1,1,1,1,1,1] [1,1,1,1,1,1,1] [] [d0,d1,d2,d3,d4,d5,d6,d7,P y8,d9,I L y10,dB,dC,dD,dE,dF,dG,dH,dI,dJ,dK,dL,dM,dN,dO,dP,dQ,dR,dS,dT,dU,dV,dW,dX,dY,dZ,k0,k1,k2,k3,k4,k5,k6,k7,k8,k9,kA,kB,kC,kD,kE,kF,kG,kH,kI,kJ,kK,kL,kM,kN,kO,kP,kQ,kR,kS,kT,kU,kV,kW,kX,kY,kZ,v0,v1,v2,v3,v4,v5,v6,v7,v8,v9,vA,vB,vC,vD,vE,vF,vG,vH,vI,vJ,vK] w R
abbrev qq49.J1 (y0:Option Addr) (y2:Int) (y8:Option Addr) (w:W) (R:E):Prop:=∀ d1 d3 d4 d5 d6 d7 d9 dA dB dC dD dE dF dG dH dI dJ dK dL dM dN dO dP dQ dR dS dT dU dV dW dX dY dZ k0 k1 k2 k3 k4 k5 k6 k7 k8 k9 kA kB kC kD kE kF kG kH kI kJ kK kL kM kN kO kP kQ kR kS kT kU kV kW kX kY kZ v0 v1 v2 v3 v4 v5 v6 v7 v8 v9 vA vB vC vD vE vF vG vH vI vJ vK,qq49.j1 y0 y2 y8 d1 d3 d4 d5 d6 d7 d9 dA dB dC dD dE dF dG dH dI dJ dK dL dM dN dO dP dQ dR dS dT dU dV dW dX dY dZ k0 k1 k2 k3 k4 k5 k6 k7 k8 k9 kA kB kC kD kE kF kG kH kI kJ kK kL kM kN kO kP kQ kR kS kT kU kV kW kX kY kZ v0 v1 v2 v3 v4 v5 v6 v7 v8 v9 vA vB vC vD vE vF vG vH vI vJ vK w R
abbrev qq49.J2 (y0 y8:Option Addr) (y9:Int) (y42:Bool) (w:W) (R:E):Prop:=∀ d1 d2 d3 d4 d5 d6 d7 dA dB dC dD dE dF dG dH dI dJ dK dL dM dN dO dP dQ dR dS dT dU dV dW dX dY dZ k0 k1 k2 k3 k4 k5 k7 k8 k9 kA kB kC kD kE kF kG kH kI kJ kK kL kM kN kO kP kQ kR kS kT kU kV kW kX kY kZ v0 v1 v2 v3 v4 v5 v6 v7 v8 v9 vA vB vC vD vE vF vG vH vI vJ vK,qq49.j2 y0 y8 y9 y42 d1 d2 d3 d4 d5 d6 d7 dA dB dC dD dE dF dG dH dI dJ dK dL dM dN dO dP dQ dR dS dT dU dV dW dX dY dZ k0 k1 k2 k3 k4 k5 k7 k8 k9 kA kB kC kD kE kF kG kH kI kJ kK kL kM kN kO kP kQ kR kS kT kU kV kW kX kY kZ v0 v1 v2 v3 v4 v5 v6 v7 v8 v9 vA vB vC vD vE vF vG vH vI vJ vK w R
abbrev qq49.J3 (y0 y8:Option Addr) (y9:Int) (w:W) (R:E):Prop:=∀ d1 d2 d3 d4 d5 d6 d7 dA dB dC dD dE dF dG dH dI dJ dK dL dM dN dO dP dQ dR dS dT dU dV dW dX dY dZ k0 k1 k2 k3 k4 k5 k6 k7 k8 k9 kA kB kC kD kE kF kG kH kI kJ kK kL kM kN kO kP kQ kR kS kT kU kV kW kX kY kZ v0 v1 v2 v3 v4 v5 v6 v7 v8 v9 vA vB vC vD vE vF vG vH vI vJ vK,qq49.j3 y0 y8 y9 d1 d2 d3 d4 d5 d6 d7 dA dB dC dD dE dF dG dH dI dJ dK dL dM dN dO dP dQ dR dS dT dU dV dW dX dY dZ k0 k1 k2 k3 k4 k5 k6 k7 k8 k9 kA kB kC kD kE kF kG kH kI kJ kK kL kM kN kO kP kQ kR kS kT kU kV kW kX kY kZ v0 v1 v2 v3 v4 v5 v6 v7 v8 v9 vA vB vC vD vE vF vG vH vI vJ vK w R
abbrev qq49.J4 (y8:Option Addr) (y10:Int) (w:W) (R:E):Prop:=∀ d0 d1 d2 d3 d4 d5 d6 d7 d9 dB dC dD dE dF dG dH dI dJ dK dL dM dN dO dP dQ dR dS dT dU dV dW dX dY dZ k0 k1 k2 k3 k4 k5 k6 k7 k8 k9 kA kB kC kD kE kF kG kH kI kJ kK kL kM kN kO kP kQ kR kS kT kU kV kW kX kY kZ v0 v1 v2 v3 v4 v5 v6 v7 v8 v9 vA vB vC vD vE vF vG vH vI vJ vK,qq49.j4 y8 y10 d0 d1 d2 d3 d4 d5 d6 d7 d9 dB dC dD dE dF dG dH dI dJ dK dL dM dN dO dP dQ dR dS dT dU dV dW dX dY dZ k0 k1 k2 k3 k4 k5 k6 k7 k8 k9 kA kB kC kD kE kF kG kH kI kJ kK kL kM kN kO kP kQ kR kS kT kU kV kW kX kY kZ v0 v1 v2 v3 v4 v5 v6 v7 v8 v9 vA vB vC vD vE vF vG vH vI vJ vK w R
theorem qq49.j1_eq:qq49.j1 y0 y2 y8 d1 d3 d4 d5 d6 d7 d9 dA dB dC dD dE dF dG dH dI dJ dK dL dM dN dO dP dQ dR dS dT dU dV dW dX dY dZ k0 k1 k2 k3 k4 k5 k6 k7 k8 k9 kA kB kC kD kE kF kG kH kI kJ kK kL kM kN kO kP kQ kR kS kT kU kV kW kX kY kZ v0 v1 v2 v3 v4 v5 v6 v7 v8 v9 vA vB vC vD vE vF vG vH vI vJ vK w R =
(Let (L.wrap y2) fun x1:Int=>
 ∃ a2:Addr,y0=some a2∧
(∃ x3:Int,w.cell? a2=some (I L x3)∧
((if decide (x1 < x3)=true then
(Leaf (qq49.j2 y0 y8 x1 true d1 (I H y2) d3 d4 d5 d6 d7 dA dB dC dD dE dF dG dH dI dJ dK dL dM dN dO dP dQ (I H y2) (I L x1) (I L x1) (P y0) (P (some a2)) (P (some a2)) (I L x3) (T (decide (x1 < x3))) (T true) U U U U U U k7 k8 k9 kA kB kC kD kE kF kG kH kI kJ kK kL kM kN kO kP kQ kR kS kT kU kV kW kX kY kZ v0 v1 v2 v3 v4 v5 v6 v7 v8 v9 vA vB vC vD vE vF vG vH vI vJ vK w R))
else
(∃ a4:Addr,y0=some a4∧
(∃ x5:Int,w.cell? (a4.add 1)=some (I L x5)∧
(Leaf (qq49.j2 y0 y8 x1 (decide (x1 > x5)) d1 (I H y2) d3 d4 d5 d6 d7 dA dB dC dD dE dF dG dH dI dJ dK dL dM dN dO dP dQ (I H y2) (I L x1) (I L x1) (P y0) (P (some a2)) (P (some a2)) (I L x3) (T (decide (x1 < x3))) (T false) (I L x1) (P y0) (P (some a4)) (P (some (a4.add 1))) (I L x5) (T (decide (x1 > x5))) k7 k8 k9 kA kB kC kD kE kF kG kH kI kJ kK kL kM kN kO kP kQ kR kS kT kU kV kW kX kY kZ v0 v1 v2 v3 v4 v5 v6 v7 v8 v9 vA vB vC vD vE vF vG vH vI vJ vK w R)))))))):=by kernel_rfl
theorem qq49.j2_eq:qq49.j2 y0 y8 y9 y42 d1 d2 d3 d4 d5 d6 d7 dA dB dC dD dE dF dG dH dI dJ dK dL dM dN dO dP dQ dR dS dT dU dV dW dX dY dZ k0 k1 k2 k3 k4 k5 k7 k8 k9 kA kB kC kD kE kF kG kH kI kJ kK kL kM kN kO kP kQ kR kS kT kU kV kW kX kY kZ v0 v1 v2 v3 v4 v5 v6 v7 v8 v9 vA vB vC vD vE vF vG vH vI vJ vK w R =
((if y42=true then
(∃ a1:Addr,y0=some a1∧
(∃ x2:Int,w.cell? a1=some (I L x2)∧
(Leaf (qq49.j3 y0 y8 x2 d1 d2 d3 d4 d5 d6 d7 dA dB dC dD dE dF dG dH dI dJ dK dL dM dN dO dP dQ dR dS dT dU dV dW dX dY dZ k0 k1 k2 k3 k4 k5 (T y42) (P y0) (P (some a1)) (P (some a1)) (I L x2) kB kC kD kE kF kG kH kI kJ kK kL kM kN kO kP kQ kR kS kT kU kV kW kX kY kZ v0 v1 v2 v3 v4 v5 v6 v7 v8 v9 vA vB vC vD vE vF vG vH vI vJ vK w R))))
else
(Leaf (qq49.j3 y0 y8 y9 d1 d2 d3 d4 d5 d6 d7 dA dB dC dD dE dF dG dH dI dJ dK dL dM dN dO dP dQ dR dS dT dU dV dW dX dY dZ k0 k1 k2 k3 k4 k5 (T y42) k7 k8 k9 kA kB kC kD kE kF kG kH kI kJ kK kL kM kN kO kP kQ kR kS kT kU kV kW kX kY kZ v0 v1 v2 v3 v4 v5 v6 v7 v8 v9 vA vB vC vD vE vF vG vH vI vJ vK w R)))):=by kernel_rfl
theorem qq49.j3_eq:qq49.j3 y0 y8 y9 d1 d2 d3 d4 d5 d6 d7 dA dB dC dD dE dF dG dH dI dJ dK dL dM dN dO dP dQ dR dS dT dU dV dW dX dY dZ k0 k1 k2 k3 k4 k5 k6 k7 k8 k9 kA kB kC kD kE kF kG kH kI kJ kK kL kM kN kO kP kQ kR kS kT kU kV kW kX kY kZ v0 v1 v2 v3 v4 v5 v6 v7 v8 v9 vA vB vC vD vE vF vG vH vI vJ vK w R =
(∃ S1:W→Prop,S1 w.drew∧
(Let (w.drew) fun w2:W=>
 ∃ a3:Addr,y8=some a3∧
(∃ a4:Addr,y0=some a4∧
(∃ x5:Int,(∀ w',S1 w'→w'.cell? (a4.add 1)=some (I L x5))∧
(Calls Tryz.prog 39 #[P (some a3),I L y9,I L x5] w2 (fun (e7:Ending) (w6:W)=>
 ∃ x8:Int,e7=.returned (I L x8)∧
(S1 w6∧
((if decide (x8 < 0)=true then
(∃ S9:W→Prop,S9 w6.drew∧
(Let (w6.drew) fun w10:W=>
 ∃ a11:Addr,y8=some a11∧
(∃ a12:Addr,y0=some a12∧
(∃ x13:Int,(∀ w',S9 w'→w'.cell? a12=some (I L x13))∧
(Let (L.wrap (y9-1)) fun x14:Int=>
 Calls Tryz.prog 39 #[P (some a11),I L x13,I L x14] w10 (fun (e16:Ending) (w15:W)=>
 ∃ x17:Int,e16=.returned (I L x17)∧
(S9 w15∧
(Leaf (qq49.j4 y8 x17 (P y0) d1 d2 d3 d4 d5 d6 d7 (I L y9) dB dC dD dE dF dG dH dI dJ dK dL dM dN dO dP dQ dR dS dT dU dV dW dX dY dZ k0 k1 k2 k3 k4 k5 k6 k7 k8 k9 kA (P y8) (P (some a3)) (P (some a3)) (I L y9) (P y0) (P (some a4)) (P (some (a4.add 1))) (I L x5) (I L x8) (I L x8) (T (decide (x8 < 0))) (P y8) (P (some a11)) (P (some a11)) (P y0) (P (some a12)) (P (some a12)) (I L x13) (I L y9) (I L x14) (I L x17) kW kX kY kZ v0 v1 v2 v3 v4 v5 v6 v7 v8 v9 vA vB vC vD vE vF vG vH vI vJ vK w15 R)))))))))
else
(Leaf (qq49.j4 y8 x8 (P y0) d1 d2 d3 d4 d5 d6 d7 (I L y9) dB dC dD dE dF dG dH dI dJ dK dL dM dN dO dP dQ dR dS dT dU dV dW dX dY dZ k0 k1 k2 k3 k4 k5 k6 k7 k8 k9 kA (P y8) (P (some a3)) (P (some a3)) (I L y9) (P y0) (P (some a4)) (P (some (a4.add 1))) (I L x5) (I L x8) (I L x8) (T (decide (x8 < 0))) kM kN kO kP kQ kR kS kT kU kV kW kX kY kZ v0 v1 v2 v3 v4 v5 v6 v7 v8 v9 vA vB vC vD vE vF vG vH vI vJ vK w6 R))))))))))):=by kernel_rfl
theorem qq49.j4_eq:qq49.j4 y8 y10 d0 d1 d2 d3 d4 d5 d6 d7 d9 dB dC dD dE dF dG dH dI dJ dK dL dM dN dO dP dQ dR dS dT dU dV dW dX dY dZ k0 k1 k2 k3 k4 k5 k6 k7 k8 k9 kA kB kC kD kE kF kG kH kI kJ kK kL kM kN kO kP kQ kR kS kT kU kV kW kX kY kZ v0 v1 v2 v3 v4 v5 v6 v7 v8 v9 vA vB vC vD vE vF vG vH vI vJ vK w R =
((if decide (y10 < 0)=true then
(R (.returned (.tuple #[I H 0,I L 231])) w)
else
(∃ S1:W→Prop,S1 w.drew∧
(Let (w.drew) fun w2:W=>
 Let (L.wrap (Int.tdiv y10 64)) fun x3:Int=>
 ∃ a4:Addr,y8=some a4∧
((0≤(x3:Int)∧(x3:Int) < 1024)∧
(∃ x5:Int,(∀ w',S1 w'→w'.cell? (a4.add x3.toNat)=some (I Q x5))∧
(Let (Int.tmod y10 64) fun x6:Int=>
 0≤x6∧
(Let (Q.wrap (1 * (2:Int) ^ (min x6.toNat 64))) fun x7:Int=>
 Let (Go.bits .or .u64 x5 x7) fun x8:Int=>
 ∃ a9:Addr,y8=some a9∧
((0≤(x3:Int)∧(x3:Int) < 1024)∧
(MayC w2 (a9.add x3.toNat)∧
(Let (w2.setCell (a9.add x3.toNat) (I Q x8)) fun w10:W=>
 ∃ a11:Addr,y8=some a11∧
(∃ x12:Int,w10.cell? (a11.add 1024)=some (I L x12)∧
(Let (L.wrap (x12+1)) fun x13:Int=>
 ∃ a14:Addr,y8=some a14∧
(MayC w10 (a14.add 1024)∧
(Let (w10.setCell (a14.add 1024) (I L x13)) fun w15:W=>
 Let (H.wrap y10) fun x16:Int=>
 R (.returned (.tuple #[I H x16,I L 0])) w15))))))))))))))):=by kernel_rfl
def qq49.s (i0:Option Addr) (i1 i2:Int) (w:W) (R:E):Prop:=
(∃ a1:Addr,i0=some a1∧
(∃ r2:Option Nat,w.cell? (a1.add 2)=some (.map r2)∧
(∃ (es4:Array MapEntry) (c5:Nat) (q6:Option (Nat×V)),MapAt w r2 es4 c5∧Instr.findNow (.int .u8) (I B i1) es4.toList 0=some q6∧
(∃ p3:Option Addr,(q6.map Prod.snd).getD (P N)=P p3∧
((if p3.isNone=true then
(Let (w.heap.size) fun g7:Nat=>
 Let (w.alloc (.cells #[I Q 0,I Q 0,I Q 0,I Q 0,I Q 0,I Q 0,I Q 0,I Q 0,I Q 0,I Q 0,I Q 0,I Q 0,I Q 0,I Q 0,I Q 0,I Q 0,I Q 0,I Q 0,I Q 0,I Q 0,I Q 0,I Q 0,I Q 0,I Q 0,I Q 0,I Q 0,I Q 0,I Q 0,I Q 0,I Q 0,I Q 0,I Q 0,I Q 0,I Q 0,I Q 0,I Q 0,I Q 0,I Q 0,I Q 0,I Q 0,I Q 0,I Q 0,I Q 0,I Q 0,I Q 0,I Q 0,I Q 0,I Q 0,I Q 0,I Q 0,I Q 0,I Q 0,I Q 0,I Q 0,I Q 0,I Q 0,I Q 0,I Q 0,I Q 0,I Q 0,I Q 0,I Q 0,I Q 0,I Q 0,I Q 0,I Q 0,I Q 0,I Q 0,I Q 0,I Q 0,I Q 0,I Q 0,I Q 0,I Q 0,I Q 0,I Q 0,I Q 0,I Q 0,I Q 0,I Q 0,I Q 0,I Q 0,I Q 0,I Q 0,I Q 0,I Q 0,I Q 0,I Q 0,I Q 0,I Q 0,I Q 0,I Q 0,I Q 0,I Q 0,I Q 0,I Q 0,I Q 0,I Q 0,I Q 0,I Q 0,I Q 0,I Q 0,I Q 0,I Q 0,I Q 0,I Q 0,I Q 0,I Q 0,I Q 0,I Q 0,I Q 0,I Q 0,I Q 0,I Q 0,I Q 0,I Q 0,I Q 0,I Q 0,I Q 0,I Q 0,I Q 0,I Q 0,I Q 0,I Q 0,I Q 0,I Q 0,I Q 0,I Q 0,I Q 0,I Q 0,I Q 0,I Q 0,I Q 0,I Q 0,I Q 0,I Q 0,I Q 0,I Q 0,I Q 0,I Q 0,I Q 0,I Q 0,I Q 0,I Q 0,I Q 0,I Q 0,I Q 0,I Q 0,I Q 0,I Q 0,I Q 0,I Q 0,I Q 0,I Q 0,I Q 0,I Q 0,I Q 0,I Q 0,I Q 0,I Q 0,I Q 0,I Q 0,I Q 0,I Q 0,I Q 0,I Q 0,I Q 0,I Q 0,I Q 0,I Q 0,I Q 0,I Q 0,I Q 0,I Q 0,I Q 0,I Q 0,I Q 0,I Q 0,I Q 0,I Q 0,I Q 0,I Q 0,I Q 0,I Q 0,I Q 0,I Q 0,I Q 0,I Q 0,I Q 0,I Q 0,I Q 0,I Q 0,I Q 0,I Q 0,I Q 0,I Q 0,I Q 0,I Q 0,I Q 0,I Q 0,I Q 0,I Q 0,I Q 0,I Q 0,I Q 0,I Q 0,I Q 0,I Q 0,I Q 0,I Q 0,I Q 0,I Q 0,I Q 0,I Q 0,I Q 0,I Q 0,I Q 0,I Q 0,I Q 0,I Q 0,I Q 0,I Q 0,I Q 0,I Q 0,I Q 0,I Q 0,I Q 0,I Q 0,I Q 0,I Q 0,I Q 0,I Q 0,I Q 0,I Q 0,I Q 0,I Q 0,I Q 0,I Q 0,I Q 0,I Q 0,I Q 0,I Q 0,I Q 0,I Q 0,I Q 0,I Q 0,I Q 0,I Q 0,I Q 0,I Q 0,I Q 0,I Q 0,I Q 0,I Q 0,I Q 0,I Q 0,I Q 0,I Q 0,I Q 0,I Q 0,I Q 0,I Q 0,I Q 0,I Q 0,I Q 0,I Q 0,I Q 0,I Q 0,I Q 0,I Q 0,I Q 0,I Q 0,I Q 0,I Q 0,I Q 0,I Q 0,I Q 0,I Q 0,I Q 0,I Q 0,I Q 0,I Q 0,I Q 0,I Q 0,I Q 0,I Q 0,I Q 0,I Q 0,I Q 0,I Q 0,I Q 0,I Q 0,I Q 0,I Q 0,I Q 0,I Q 0,I Q 0,I Q 0,I Q 0,I Q 0,I Q 0,I Q 0,I Q 0,I Q 0,I Q 0,I Q 0,I Q 0,I Q 0,I Q 0,I Q 0,I Q 0,I Q 0,I Q 0,I Q 0,I Q 0,I Q 0,I Q 0,I Q 0,I Q 0,I Q 0,I Q 0,I Q 0,I Q 0,I Q 0,I Q 0,I Q 0,I Q 0,I Q 0,I Q 0,I Q 0,I Q 0,I Q 0,I Q 0,I Q 0,I Q 0,I Q 0,I Q 0,I Q 0,I Q 0,I Q 0,I Q 0,I Q 0,I Q 0,I Q 0,I Q 0,I Q 0,I Q 0,I Q 0,I Q 0,I Q 0,I Q 0,I Q 0,I Q 0,I Q 0,I Q 0,I Q 0,I Q 0,I Q 0,I Q 0,I Q 0,I Q 0,I Q 0,I Q 0,I Q 0,I Q 0,I Q 0,I Q 0,I Q 0,I Q 0,I Q 0,I Q 0,I Q 0,I Q 0,I Q 0,I Q 0,I Q 0,I Q 0,I Q 0,I Q 0,I Q 0,I Q 0,I Q 0,I Q 0,I Q 0,I Q 0,I Q 0,I Q 0,I Q 0,I Q 0,I Q 0,I Q 0,I Q 0,I Q 0,I Q 0,I Q 0,I Q 0,I Q 0,I Q 0,I Q 0,I Q 0,I Q 0,I Q 0,I Q 0,I Q 0,I Q 0,I Q 0,I Q 0,I Q 0,I Q 0,I Q 0,I Q 0,I Q 0,I Q 0,I Q 0,I Q 0,I Q 0,I Q 0,I Q 0,I Q 0,I Q 0,I Q 0,I Q 0,I Q 0,I Q 0,I Q 0,I Q 0,I Q 0,I Q 0,I Q 0,I Q 0,I Q 0,I Q 0,I Q 0,I Q 0,I Q 0,I Q 0,I Q 0,I Q 0,I Q 0,I Q 0,I Q 0,I Q 0,I Q 0,I Q 0,I Q 0,I Q 0,I Q 0,I Q 0,I Q 0,I Q 0,I Q 0,I Q 0,I Q 0,I Q 0,I Q 0,I Q 0,I Q 0,I Q 0,I Q 0,I Q 0,I Q 0,I Q 0,I Q 0,I Q 0,I Q 0,I Q 0,I Q 0,I Q 0,I Q 0,I Q 0,I Q 0,I Q 0,I Q 0,I Q 0,I Q 0,I Q 0,I Q 0,I Q 0,I Q 0,I Q 0,I Q 0,I Q 0,I Q 0,I Q 0,I Q 0,I Q 0,I Q 0,I Q 0,I Q 0,I Q 0,I Q 0,I Q 0,I Q 0,I Q 0,I Q 0,I Q 0,I Q 0,I Q 0,I Q 0,I Q 0,I Q 0,I Q 0,I Q 0,I Q 0,I Q 0,I Q 0,I Q 0,I Q 0,I Q 0,I Q 0,I Q 0,I Q 0,I Q 0,I Q 0,I Q 0,I Q 0,I Q 0,I Q 0,I Q 0,I Q 0,I Q 0,I Q 0,I Q 0,I Q 0,I Q 0,I Q 0,I Q 0,I Q 0,I Q 0,I Q 0,I Q 0,I Q 0,I Q 0,I Q 0,I Q 0,I Q 0,I Q 0,I Q 0,I Q 0,I Q 0,I Q 0,I Q 0,I Q 0,I Q 0,I Q 0,I Q 0,I Q 0,I Q 0,I Q 0,I Q 0,I Q 0,I Q 0,I Q 0,I Q 0,I Q 0,I Q 0,I Q 0,I Q 0,I Q 0,I Q 0,I Q 0,I Q 0,I Q 0,I Q 0,I Q 0,I Q 0,I Q 0,I Q 0,I Q 0,I Q 0,I Q 0,I Q 0,I Q 0,I Q 0,I Q 0,I Q 0,I Q 0,I Q 0,I Q 0,I Q 0,I Q 0,I Q 0,I Q 0,I Q 0,I Q 0,I Q 0,I Q 0,I Q 0,I Q 0,I Q 0,I Q 0,I Q 0,I Q 0,I Q 0,I Q 0,I Q 0,I Q 0,I Q 0,I Q 0,I Q 0,I Q 0,I Q 0,I Q 0,I Q 0,I Q 0,I Q 0,I Q 0,I Q 0,I Q 0,I Q 0,I Q 0,I Q 0,I Q 0,I Q 0,I Q 0,I Q 0,I Q 0,I Q 0,I Q 0,I Q 0,I Q 0,I Q 0,I Q 0,I Q 0,I Q 0,I Q 0,I Q 0,I Q 0,I Q 0,I Q 0,I Q 0,I Q 0,I Q 0,I Q 0,I Q 0,I Q 0,I Q 0,I Q 0,I Q 0,I Q 0,I Q 0,I Q 0,I Q 0,I Q 0,I Q 0,I Q 0,I Q 0,I Q 0,I Q 0,I Q 0,I Q 0,I Q 0,I Q 0,I Q 0,I Q 0,I Q 0,I Q 0,I Q 0,I Q 0,I Q 0,I Q 0,I Q 0,I Q 0,I Q 0,I Q 0,I Q 0,I Q 0,I Q 0,I Q 0,I Q 0,I Q 0,I Q 0,I Q 0,I Q 0,I Q 0,I Q 0,I Q 0,I Q 0,I Q 0,I Q 0,I Q 0,I Q 0,I Q 0,I Q 0,I Q 0,I Q 0,I Q 0,I Q 0,I Q 0,I Q 0,I Q 0,I Q 0,I Q 0,I Q 0,I Q 0,I Q 0,I Q 0,I Q 0,I Q 0,I Q 0,I Q 0,I Q 0,I Q 0,I Q 0,I Q 0,I Q 0,I Q 0,I Q 0,I Q 0,I Q 0,I Q 0,I Q 0,I Q 0,I Q 0,I Q 0,I Q 0,I Q 0,I Q 0,I Q 0,I Q 0,I Q 0,I Q 0,I Q 0,I Q 0,I Q 0,I Q 0,I Q 0,I Q 0,I Q 0,I Q 0,I Q 0,I Q 0,I Q 0,I Q 0,I Q 0,I Q 0,I Q 0,I Q 0,I Q 0,I Q 0,I Q 0,I Q 0,I Q 0,I Q 0,I Q 0,I Q 0,I Q 0,I Q 0,I Q 0,I Q 0,I Q 0,I Q 0,I Q 0,I Q 0,I Q 0,I Q 0,I Q 0,I Q 0,I Q 0,I Q 0,I Q 0,I Q 0,I Q 0,I Q 0,I Q 0,I Q 0,I Q 0,I Q 0,I Q 0,I Q 0,I Q 0,I Q 0,I Q 0,I Q 0,I Q 0,I Q 0,I Q 0,I Q 0,I Q 0,I Q 0,I Q 0,I Q 0,I Q 0,I Q 0,I Q 0,I Q 0,I Q 0,I Q 0,I Q 0,I Q 0,I Q 0,I Q 0,I Q 0,I Q 0,I Q 0,I Q 0,I Q 0,I Q 0,I Q 0,I Q 0,I Q 0,I Q 0,I Q 0,I Q 0,I Q 0,I Q 0,I Q 0,I Q 0,I Q 0,I Q 0,I Q 0,I Q 0,I Q 0,I Q 0,I Q 0,I Q 0,I Q 0,I Q 0,I Q 0,I Q 0,I Q 0,I Q 0,I Q 0,I Q 0,I Q 0,I Q 0,I Q 0,I Q 0,I Q 0,I Q 0,I Q 0,I Q 0,I Q 0,I Q 0,I Q 0,I Q 0,I Q 0,I Q 0,I Q 0,I Q 0,I Q 0,I Q 0,I Q 0,I Q 0,I Q 0,I Q 0,I Q 0,I Q 0,I Q 0,I Q 0,I Q 0,I Q 0,I Q 0,I Q 0,I Q 0,I Q 0,I Q 0,I Q 0,I Q 0,I Q 0,I Q 0,I Q 0,I Q 0,I Q 0,I Q 0,I Q 0,I Q 0,I Q 0,I Q 0,I Q 0,I Q 0,I Q 0,I Q 0,I Q 0,I Q 0,I Q 0,I Q 0,I Q 0,I Q 0,I Q 0,I Q 0,I Q 0,I Q 0,I Q 0,I Q 0,I Q 0,I Q 0,I Q 0,I Q 0,I Q 0,I Q 0,I Q 0,I Q 0,I Q 0,I Q 0,I Q 0,I Q 0,I Q 0,I Q 0,I Q 0,I Q 0,I Q 0,I Q 0,I Q 0,I Q 0,I Q 0,I Q 0,I Q 0,I Q 0,I Q 0,I Q 0,I Q 0,I Q 0,I Q 0,I Q 0,I Q 0,I Q 0,I Q 0,I Q 0,I Q 0,I Q 0,I Q 0,I Q 0,I Q 0,I Q 0,I Q 0,I Q 0,I Q 0,I Q 0,I Q 0,I Q 0,I Q 0,I Q 0,I Q 0,I Q 0,I Q 0,I Q 0,I Q 0,I Q 0,I Q 0,I Q 0,I Q 0,I Q 0,I Q 0,I Q 0,I Q 0,I Q 0,I Q 0,I Q 0,I Q 0,I Q 0,I Q 0,I Q 0,I Q 0,I Q 0,I Q 0,I Q 0,I Q 0,I Q 0,I Q 0,I Q 0,I Q 0,I Q 0,I Q 0,I Q 0,I Q 0,I Q 0,I Q 0,I Q 0,I Q 0,I Q 0,I Q 0,I Q 0,I Q 0,I Q 0,I Q 0,I Q 0,I Q 0,I Q 0,I Q 0,I Q 0,I Q 0,I Q 0,I Q 0,I Q 0,I Q 0,I Q 0,I Q 0,I Q 0,I Q 0,I Q 0,I Q 0,I Q 0,I Q 0,I Q 0,I Q 0,I Q 0,I Q 0,I Q 0,I Q 0,I Q 0,I Q 0,I Q 0,I Q 0,I Q 0,I Q 0,I Q 0,I Q 0,I Q 0,I Q 0,I Q 0,I Q 0,I Q 0,I Q 0,I Q 0,I Q 0,I Q 0,I Q 0,I Q 0,I Q 0,I Q 0,I Q 0,I Q 0,I Q 0,I L 0] 94)) fun w8:W=>
 ∃ a9:Addr,i0=some a9∧
(∃ r10:Option Nat,w8.cell? (a9.add 2)=some (.map r10)∧
(∃ (r11:Nat) (es12:Array MapEntry) (c13:Nat),r10=some r11∧MapAt w8 (some r11) es12 c13∧Instr.findNow (.int .u8) (I B i1) es12.toList 0=some N∧
(Let (putMap w8 r11 (es12.push { key:=I B i1,val:=P (some ⟨g7,0,N⟩),born:=c13 }) (c13+1)) fun w14:W=>
 Leaf (qq49.j1 i0 i2 (some ⟨g7,0,N⟩) (I B i1) U U U (I H 0) (I L 0) U U (P i0) (P (some a1)) (P (some (a1.add 2))) (.map r2) (I B i1) (P p3) (P p3) (T p3.isNone) (G #[I Q 0,I Q 0,I Q 0,I Q 0,I Q 0,I Q 0,I Q 0,I Q 0,I Q 0,I Q 0,I Q 0,I Q 0,I Q 0,I Q 0,I Q 0,I Q 0,I Q 0,I Q 0,I Q 0,I Q 0,I Q 0,I Q 0,I Q 0,I Q 0,I Q 0,I Q 0,I Q 0,I Q 0,I Q 0,I Q 0,I Q 0,I Q 0,I Q 0,I Q 0,I Q 0,I Q 0,I Q 0,I Q 0,I Q 0,I Q 0,I Q 0,I Q 0,I Q 0,I Q 0,I Q 0,I Q 0,I Q 0,I Q 0,I Q 0,I Q 0,I Q 0,I Q 0,I Q 0,I Q 0,I Q 0,I Q 0,I Q 0,I Q 0,I Q 0,I Q 0,I Q 0,I Q 0,I Q 0,I Q 0,I Q 0,I Q 0,I Q 0,I Q 0,I Q 0,I Q 0,I Q 0,I Q 0,I Q 0,I Q 0,I Q 0,I Q 0,I Q 0,I Q 0,I Q 0,I Q 0,I Q 0,I Q 0,I Q 0,I Q 0,I Q 0,I Q 0,I Q 0,I Q 0,I Q 0,I Q 0,I Q 0,I Q 0,I Q 0,I Q 0,I Q 0,I Q 0,I Q 0,I Q 0,I Q 0,I Q 0,I Q 0,I Q 0,I Q 0,I Q 0,I Q 0,I Q 0,I Q 0,I Q 0,I Q 0,I Q 0,I Q 0,I Q 0,I Q 0,I Q 0,I Q 0,I Q 0,I Q 0,I Q 0,I Q 0,I Q 0,I Q 0,I Q 0,I Q 0,I Q 0,I Q 0,I Q 0,I Q 0,I Q 0,I Q 0,I Q 0,I Q 0,I Q 0,I Q 0,I Q 0,I Q 0,I Q 0,I Q 0,I Q 0,I Q 0,I Q 0,I Q 0,I Q 0,I Q 0,I Q 0,I Q 0,I Q 0,I Q 0,I Q 0,I Q 0,I Q 0,I Q 0,I Q 0,I Q 0,I Q 0,I Q 0,I Q 0,I Q 0,I Q 0,I Q 0,I Q 0,I Q 0,I Q 0,I Q 0,I Q 0,I Q 0,I Q 0,I Q 0,I Q 0,I Q 0,I Q 0,I Q 0,I Q 0,I Q 0,I Q 0,I Q 0,I Q 0,I Q 0,I Q 0,I Q 0,I Q 0,I Q 0,I Q 0,I Q 0,I Q 0,I Q 0,I Q 0,I Q 0,I Q 0,I Q 0,I Q 0,I Q 0,I Q 0,I Q 0,I Q 0,I Q 0,I Q 0,I Q 0,I Q 0,I Q 0,I Q 0,I Q 0,I Q 0,I Q 0,I Q 0,I Q 0,I Q 0,I Q 0,I Q 0,I Q 0,I Q 0,I Q 0,I Q 0,I Q 0,I Q 0,I Q 0,I Q 0,I Q 0,I Q 0,I Q 0,I Q 0,I Q 0,I Q 0,I Q 0,I Q 0,I Q 0,I Q 0,I Q 0,I Q 0,I Q 0,I Q 0,I Q 0,I Q 0,I Q 0,I Q 0,I Q 0,I Q 0,I Q 0,I Q 0,I Q 0,I Q 0,I Q 0,I Q 0,I Q 0,I Q 0,I Q 0,I Q 0,I Q 0,I Q 0,I Q 0,I Q 0,I Q 0,I Q 0,I Q 0,I Q 0,I Q 0,I Q 0,I Q 0,I Q 0,I Q 0,I Q 0,I Q 0,I Q 0,I Q 0,I Q 0,I Q 0,I Q 0,I Q 0,I Q 0,I Q 0,I Q 0,I Q 0,I Q 0,I Q 0,I Q 0,I Q 0,I Q 0,I Q 0,I Q 0,I Q 0,I Q 0,I Q 0,I Q 0,I Q 0,I Q 0,I Q 0,I Q 0,I Q 0,I Q 0,I Q 0,I Q 0,I Q 0,I Q 0,I Q 0,I Q 0,I Q 0,I Q 0,I Q 0,I Q 0,I Q 0,I Q 0,I Q 0,I Q 0,I Q 0,I Q 0,I Q 0,I Q 0,I Q 0,I Q 0,I Q 0,I Q 0,I Q 0,I Q 0,I Q 0,I Q 0,I Q 0,I Q 0,I Q 0,I Q 0,I Q 0,I Q 0,I Q 0,I Q 0,I Q 0,I Q 0,I Q 0,I Q 0,I Q 0,I Q 0,I Q 0,I Q 0,I Q 0,I Q 0,I Q 0,I Q 0,I Q 0,I Q 0,I Q 0,I Q 0,I Q 0,I Q 0,I Q 0,I Q 0,I Q 0,I Q 0,I Q 0,I Q 0,I Q 0,I Q 0,I Q 0,I Q 0,I Q 0,I Q 0,I Q 0,I Q 0,I Q 0,I Q 0,I Q 0,I Q 0,I Q 0,I Q 0,I Q 0,I Q 0,I Q 0,I Q 0,I Q 0,I Q 0,I Q 0,I Q 0,I Q 0,I Q 0,I Q 0,I Q 0,I Q 0,I Q 0,I Q 0,I Q 0,I Q 0,I Q 0,I Q 0,I Q 0,I Q 0,I Q 0,I Q 0,I Q 0,I Q 0,I Q 0,I Q 0,I Q 0,I Q 0,I Q 0,I Q 0,I Q 0,I Q 0,I Q 0,I Q 0,I Q 0,I Q 0,I Q 0,I Q 0,I Q 0,I Q 0,I Q 0,I Q 0,I Q 0,I Q 0,I Q 0,I Q 0,I Q 0,I Q 0,I Q 0,I Q 0,I Q 0,I Q 0,I Q 0,I Q 0,I Q 0,I Q 0,I Q 0,I Q 0,I Q 0,I Q 0,I Q 0,I Q 0,I Q 0,I Q 0,I Q 0,I Q 0,I Q 0,I Q 0,I Q 0,I Q 0,I Q 0,I Q 0,I Q 0,I Q 0,I Q 0,I Q 0,I Q 0,I Q 0,I Q 0,I Q 0,I Q 0,I Q 0,I Q 0,I Q 0,I Q 0,I Q 0,I Q 0,I Q 0,I Q 0,I Q 0,I Q 0,I Q 0,I Q 0,I Q 0,I Q 0,I Q 0,I Q 0,I Q 0,I Q 0,I Q 0,I Q 0,I Q 0,I Q 0,I Q 0,I Q 0,I Q 0,I Q 0,I Q 0,I Q 0,I Q 0,I Q 0,I Q 0,I Q 0,I Q 0,I Q 0,I Q 0,I Q 0,I Q 0,I Q 0,I Q 0,I Q 0,I Q 0,I Q 0,I Q 0,I Q 0,I Q 0,I Q 0,I Q 0,I Q 0,I Q 0,I Q 0,I Q 0,I Q 0,I Q 0,I Q 0,I Q 0,I Q 0,I Q 0,I Q 0,I Q 0,I Q 0,I Q 0,I Q 0,I Q 0,I Q 0,I Q 0,I Q 0,I Q 0,I Q 0,I Q 0,I Q 0,I Q 0,I Q 0,I Q 0,I Q 0,I Q 0,I Q 0,I Q 0,I Q 0,I Q 0,I Q 0,I Q 0,I Q 0,I Q 0,I Q 0,I Q 0,I Q 0,I Q 0,I Q 0,I Q 0,I Q 0,I Q 0,I Q 0,I Q 0,I Q 0,I Q 0,I Q 0,I Q 0,I Q 0,I Q 0,I Q 0,I Q 0,I Q 0,I Q 0,I Q 0,I Q 0,I Q 0,I Q 0,I Q 0,I Q 0,I Q 0,I Q 0,I Q 0,I Q 0,I Q 0,I Q 0,I Q 0,I Q 0,I Q 0,I Q 0,I Q 0,I Q 0,I Q 0,I Q 0,I Q 0,I Q 0,I Q 0,I Q 0,I Q 0,I Q 0,I Q 0,I Q 0,I Q 0,I Q 0,I Q 0,I Q 0,I Q 0,I Q 0,I Q 0,I Q 0,I Q 0,I Q 0,I Q 0,I Q 0,I Q 0,I Q 0,I Q 0,I Q 0,I Q 0,I Q 0,I Q 0,I Q 0,I Q 0,I Q 0,I Q 0,I Q 0,I Q 0,I Q 0,I Q 0,I Q 0,I Q 0,I Q 0,I Q 0,I Q 0,I Q 0,I Q 0,I Q 0,I Q 0,I Q 0,I Q 0,I Q 0,I Q 0,I Q 0,I Q 0,I Q 0,I Q 0,I Q 0,I Q 0,I Q 0,I Q 0,I Q 0,I Q 0,I Q 0,I Q 0,I Q 0,I Q 0,I Q 0,I Q 0,I Q 0,I Q 0,I Q 0,I Q 0,I Q 0,I Q 0,I Q 0,I Q 0,I Q 0,I Q 0,I Q 0,I Q 0,I Q 0,I Q 0,I Q 0,I Q 0,I Q 0,I Q 0,I Q 0,I Q 0,I Q 0,I Q 0,I Q 0,I Q 0,I Q 0,I Q 0,I Q 0,I Q 0,I Q 0,I Q 0,I Q 0,I Q 0,I Q 0,I Q 0,I Q 0,I Q 0,I Q 0,I Q 0,I Q 0,I Q 0,I Q 0,I Q 0,I Q 0,I Q 0,I Q 0,I Q 0,I Q 0,I Q 0,I Q 0,I Q 0,I Q 0,I Q 0,I Q 0,I Q 0,I Q 0,I Q 0,I Q 0,I Q 0,I Q 0,I Q 0,I Q 0,I Q 0,I Q 0,I Q 0,I Q 0,I Q 0,I Q 0,I Q 0,I Q 0,I Q 0,I Q 0,I Q 0,I Q 0,I Q 0,I Q 0,I Q 0,I Q 0,I Q 0,I Q 0,I Q 0,I Q 0,I Q 0,I Q 0,I Q 0,I Q 0,I Q 0,I Q 0,I Q 0,I Q 0,I Q 0,I Q 0,I Q 0,I Q 0,I Q 0,I Q 0,I Q 0,I Q 0,I Q 0,I Q 0,I Q 0,I Q 0,I Q 0,I Q 0,I Q 0,I Q 0,I Q 0,I Q 0,I Q 0,I Q 0,I Q 0,I Q 0,I Q 0,I Q 0,I Q 0,I Q 0,I Q 0,I Q 0,I Q 0,I Q 0,I Q 0,I Q 0,I Q 0,I Q 0,I Q 0,I Q 0,I Q 0,I Q 0,I Q 0,I Q 0,I Q 0,I Q 0,I Q 0,I Q 0,I Q 0,I Q 0,I Q 0,I Q 0,I Q 0,I Q 0,I Q 0,I Q 0,I Q 0,I Q 0,I Q 0,I Q 0,I Q 0,I Q 0,I Q 0,I Q 0,I Q 0,I Q 0,I Q 0,I Q 0,I Q 0,I Q 0,I Q 0,I Q 0,I Q 0,I Q 0,I Q 0,I Q 0,I Q 0,I Q 0,I Q 0,I Q 0,I Q 0,I Q 0,I Q 0,I Q 0,I Q 0,I Q 0,I Q 0,I Q 0,I Q 0,I Q 0,I Q 0,I Q 0,I Q 0,I Q 0,I Q 0,I Q 0,I Q 0,I Q 0,I Q 0,I Q 0,I Q 0,I Q 0,I Q 0,I Q 0,I Q 0,I Q 0,I Q 0,I Q 0,I Q 0,I Q 0,I Q 0,I Q 0,I Q 0,I Q 0,I Q 0,I Q 0,I Q 0,I Q 0,I Q 0,I Q 0,I Q 0,I Q 0,I Q 0,I Q 0,I Q 0,I Q 0,I Q 0,I Q 0,I Q 0,I Q 0,I Q 0,I Q 0,I Q 0,I Q 0,I Q 0,I Q 0,I Q 0,I Q 0,I Q 0,I Q 0,I Q 0,I Q 0,I Q 0,I Q 0,I Q 0,I Q 0,I Q 0,I Q 0,I Q 0,I Q 0,I Q 0,I Q 0,I Q 0,I Q 0,I Q 0,I Q 0,I Q 0,I Q 0,I Q 0,I Q 0,I Q 0,I Q 0,I Q 0,I Q 0,I Q 0,I Q 0,I Q 0,I Q 0,I Q 0,I Q 0,I Q 0,I Q 0,I Q 0,I Q 0,I Q 0,I Q 0,I Q 0,I Q 0,I Q 0,I Q 0,I Q 0,I Q 0,I Q 0,I Q 0,I Q 0,I Q 0,I Q 0,I Q 0,I Q 0,I Q 0,I Q 0,I Q 0,I Q 0,I Q 0,I Q 0,I Q 0,I Q 0,I Q 0,I Q 0,I Q 0,I Q 0,I Q 0,I Q 0,I Q 0,I Q 0,I Q 0,I Q 0,I Q 0,I Q 0,I Q 0,I Q 0,I Q 0,I Q 0,I Q 0,I Q 0,I Q 0,I Q 0,I Q 0,I Q 0,I Q 0,I Q 0,I Q 0,I Q 0,I Q 0,I Q 0,I Q 0,I Q 0,I Q 0,I Q 0,I Q 0,I Q 0,I Q 0,I Q 0,I Q 0,I Q 0,I Q 0,I Q 0,I Q 0,I Q 0,I Q 0,I Q 0,I Q 0,I Q 0,I Q 0,I Q 0,I Q 0,I Q 0,I Q 0,I Q 0,I Q 0,I Q 0,I Q 0,I Q 0,I Q 0,I Q 0,I Q 0,I Q 0,I Q 0,I Q 0,I Q 0,I Q 0,I Q 0,I Q 0,I Q 0,I Q 0,I Q 0,I Q 0,I Q 0,I Q 0,I Q 0,I Q 0,I Q 0,I Q 0,I Q 0,I Q 0,I Q 0,I Q 0,I Q 0,I Q 0,I Q 0,I Q 0,I Q 0,I Q 0,I Q 0,I Q 0,I Q 0,I Q 0,I Q 0,I Q 0,I Q 0,I Q 0,I Q 0,I Q 0,I Q 0,I Q 0,I Q 0,I Q 0,I Q 0,I Q 0,I Q 0,I Q 0,I Q 0,I Q 0,I Q 0,I Q 0,I Q 0,I Q 0,I Q 0,I Q 0,I Q 0,I L 0]) (P (some ⟨g7,0,N⟩)) (P i0) (P (some a9)) (P (some (a9.add 2))) (.map r10) (I B i1) (P (some ⟨g7,0,N⟩)) U U U U U U U U U U U U U U U U U U U U U U U U U U U U U U U U U U U U U U U U U U U U U U U U U U U U U U U U U U U U U U U U U U w14 R)))))
else
(Leaf (qq49.j1 i0 i2 p3 (I B i1) U U U (I H 0) (I L 0) U U (P i0) (P (some a1)) (P (some (a1.add 2))) (.map r2) (I B i1) (P p3) (P p3) (T p3.isNone) U U U U U U U U U U U U U U U U U U U U U U U U U U U U U U U U U U U U U U U U U U U U U U U U U U U U U U U U U U U U U U U U U U U U U U U U U U w R))))))))
theorem qq49.run (h:qq49.s i0 i1 i2 w R):Calls Tryz.prog 21 #[P i0,I B i1,I H i2] w R:=
 calls_segk (ords:=qq49.ords) (J:=qq49.joins) ents mixed Tryz.func21 rfl h (by kernel_rfl)
def qq42.ords:Nat→Od
 | 5=>(.tk 0 (.tk 1 (.tk 2 (.tk 3 (.tk 4 (.tk 5 (.tk 6 (.tk 7 (.tk 8 (.tk 9 (.tk 10 (.tk 11 (.tk 12 (.tk 13 (.last 14)))))))))))))))
 | _=>.nil
def qq42.joins (p:List Nat):Bool:=p == [1,1,1,1]
def qq42.j1 (y7:Option Addr) (y8:Int) (d0 d1 d2 d3 d4 d5 d6 d9 dA dB dC dD dE dF dG dH dI dJ dK dL dM dN dO dP dQ dR dS dT dU dV dW dX dY dZ k0 k1 k2 k3 k4 k5 k6 k7 k8 k9 kA kB:V) (w:W) (R:E):Prop:=
 seg Tryz.prog entE qq42.ords qq42.joins Tryz.f24 [1,1,1,1] [1,1,1,1] [] [d0,d1,d2,d3,d4,d5,d6,P y7,I L y8,d9,dA,dB,dC,dD,dE,dF,dG,dH,dI,dJ,dK,dL,dM,dN,dO,dP,dQ,dR,dS,dT,dU,dV,dW,dX,dY,dZ,k0,k1,k2,k3,k4,k5,k6,k7,k8,k9,kA,kB] w R
abbrev qq42.J1 (y7:Option Addr) (y8:Int) (w:W) (R:E):Prop:=∀ d0 d1 d2 d3 d4 d5 d6 d9 dA dB dC dD dE dF dG dH dI dJ dK dL dM dN dO dP dQ dR dS dT dU dV dW dX dY dZ k0 k1 k2 k3 k4 k5 k6 k7 k8 k9 kA kB,qq42.j1 y7 y8 d0 d1 d2 d3 d4 d5 d6 d9 dA dB dC dD dE dF dG dH dI dJ dK dL dM dN dO dP dQ dR dS dT dU dV dW dX dY dZ k0 k1 k2 k3 k4 k5 k6 k7 k8 k9 kA kB w R
theorem qq42.j1_eq:qq42.j1 y7 y8 d0 d1 d2 d3 d4 d5 d6 d9 dA dB dC dD dE dF dG dH dI dJ dK dL dM dN dO dP dQ dR dS dT dU dV dW dX dY dZ k0 k1 k2 k3 k4 k5 k6 k7 k8 k9 kA kB w R =
(∃ S1:W→Prop,S1 w.drew∧
(Let (w.drew) fun w2:W=>
 Let (L.wrap (Int.tdiv y8 64)) fun x3:Int=>
 ∃ a4:Addr,y7=some a4∧
((0≤(x3:Int)∧(x3:Int) < 1024)∧
(∃ x5:Int,(∀ w',S1 w'→w'.cell? (a4.add x3.toNat)=some (I Q x5))∧
(Let (Int.tmod y8 64) fun x6:Int=>
 0≤x6∧
(Let (Q.wrap (1 * (2:Int) ^ (min x6.toNat 64))) fun x7:Int=>
 Let (Go.bits .andNot .u64 x5 x7) fun x8:Int=>
 ∃ a9:Addr,y7=some a9∧
((0≤(x3:Int)∧(x3:Int) < 1024)∧
(MayC w2 (a9.add x3.toNat)∧
(Let (w2.setCell (a9.add x3.toNat) (I Q x8)) fun w10:W=>
 ∃ a11:Addr,y7=some a11∧
(∃ x12:Int,w10.cell? (a11.add 1024)=some (I L x12)∧
(Let (L.wrap (x12-1)) fun x13:Int=>
 ∃ a14:Addr,y7=some a14∧
(MayC w10 (a14.add 1024)∧
(Let (w10.setCell (a14.add 1024) (I L x13)) fun w15:W=>
 R (.returned (I L 0)) w15))))))))))))):=by kernel_rfl
def qq42.s (i0:Option Addr) (i1 i2:Int) (w:W) (R:E):Prop:=
(∃ a1:Addr,i0=some a1∧
(∃ r2:Option Nat,w.cell? (a1.add 2)=some (.map r2)∧
(∃ (es4:Array MapEntry) (c5:Nat) (q6:Option (Nat×V)),MapAt w r2 es4 c5∧Instr.findNow (.int .u8) (I B i1) es4.toList 0=some q6∧
(∃ p3:Option Addr,(q6.map Prod.snd).getD (P N)=P p3∧
(Let (L.wrap i2) fun x7:Int=>
(if p3.isNone=true then
(R (.returned (I L 231)) w)
else
(∃ a8:Addr,p3=some a8∧
(Calls Tryz.prog 41 #[P (some a8),I L x7] w (fun (e10:Ending) (w9:W)=>
 ∃ b11:Bool,e10=.returned (T b11)∧
((if (!b11)=true then
(R (.returned (I L 231)) w9)
else
(Leaf (qq42.j1 p3 x7 (P i0) (I B i1) (I H i2) U U U (I L 0) (P i0) (P (some a1)) (P (some (a1.add 2))) (.map r2) (I B i1) (P p3) (I H i2) (I L x7) (P p3) (T p3.isNone) (T false) (P p3) (P (some a8)) (P (some a8)) (I L x7) (T b11) (T (!b11)) (T (!b11)) U U U U U U U U U U U U U U U U U U U U U w9 R)))))))))))))
theorem qq42.run (h:qq42.s i0 i1 i2 w R):Calls Tryz.prog 24 #[P i0,I B i1,I H i2] w R:=
 calls_segk (ords:=qq42.ords) (J:=qq42.joins) ents mixed Tryz.func24 rfl h (by kernel_rfl)
end Go.Proofs.YtphbdmafchjjeaaGreatDoorS
