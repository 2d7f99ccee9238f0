import Derived.Test.YtphbdmafchjjeaaGreatDoorTQBSPureM
namespace Go.Proofs.YtphbdmafchjjeaaGreatDoorS
open Go Go.Proofs
open Go renaming undef → U, World → W, Value → V
open Go.Value renaming int → I, slice → S, bool → T, pointer → P, agg → G
open Go.IntKind renaming u8 → B, u16 → H, u32 → D, u64 → Q, i64 → L
open Option renaming none → N
set_option autoImplicit true
set_option relaxedAutoImplicit true
set_option maxRecDepth 100000
set_option linter.unusedVariables false
def qq96.ords:Nat→Od
 | 15=>(.tk 0 (.tk 2 (.tk 4 (.tk 5 (.tk 6 (.on 1 (.on 3 (.tk 7 (.tk 8 (.tk 9 (.tk 10 .nil)))))))))))
 | 18=>(.tk 0 (.tk 1 (.tk 2 (.tk 3 (.tk 4 (.on 5 (.tk 6 (.tk 7 (.tk 8 (.tk 9 .nil))))))))))
 | _=>.nil
def qq96.joins (p:List Nat):Bool:=p == [1,1,1,0,0,1,1,1] || p == [1,1,1,1] || p == [1,0,1,1,1,1,1,0,1,0,1,1,1,1]
def qq96.j1 (yg1:Nat) (Y6:Option Addr) (yn6 yc6:Nat) (y22:Bool) (d0 d2 d3 d4 d5 d7 d8 d9 dA dB dC dD dE dF dG dH dI dJ dK dL dN dO dP dQ dR dS dT dU dV dW dX dY dZ k0 k1 k2 k3 k4 k5 k6 k7 k8 k9 kA kB kC kD kE kF kG kH kI kJ kK kL kM kN kO kP kQ kR kS kT kU kV kW kX kY kZ v0 v1 v2 v3 v4 v5 v6 v7 v8 v9 vA vB vC vD vE vF vG vH vI vJ vK vL vM vN:V) (w:W) (R:E):Prop:=
 seg Tryz.prog entE qq96.ords qq96.joins Tryz.f68 [1,1,1,0,0,1,1,1] [1,1,1,0,0,1,1,1] [] [d0,P (some ⟨yg1,0,N⟩),d2,d3,d4,d5,S Y6 yn6 yc6,d7,d8,d9,dA,dB,dC,dD,dE,dF,dG,dH,dI,dJ,dK,dL,T y22,dN,dO,dP,dQ,dR,dS,dT,dU,dV,dW,dX,dY,dZ,k0,k1,k2,k3,k4,k5,k6,k7,k8,k9,kA,kB,kC,kD,kE,kF,kG,kH,kI,kJ,kK,kL,kM,kN,kO,kP,kQ,kR,kS,kT,kU,kV,kW,kX,kY,kZ,v0,v1,v2,v3,v4,v5,v6,v7,v8,v9,vA,vB,vC,vD,vE,vF,vG,vH,vI,vJ,vK,vL,vM,vN] w R
def qq96.j2 (yg1:Nat) (Y6:Option Addr) (yn6 yc6:Nat) (d0 d2 d3 d4 d5 d7 d8 d9 dA dB dC dD dE dF dG dH dI dJ dK dL dM dN dO dP dQ dR dS dT dU dV dW dX dY dZ k0 k1 k2 k3 k4 k5 k6 k7 k8 k9 kA kB kC kD kE kF kG kH kI kJ kK kL kM kN kO kP kQ kR kS kT kU kV kW kX kY kZ v0 v1 v2 v3 v4 v5 v6 v7 v8 v9 vA vB vC vD vE vF vG vH vI vJ vK vL vM vN:V) (w:W) (R:E):Prop:=
 seg Tryz.prog entE qq96.ords qq96.joins Tryz.f68 [1,1,1,1] [1,1,1,1] [] [d0,P (some ⟨yg1,0,N⟩),d2,d3,d4,d5,S Y6 yn6 yc6,d7,d8,d9,dA,dB,dC,dD,dE,dF,dG,dH,dI,dJ,dK,dL,dM,dN,dO,dP,dQ,dR,dS,dT,dU,dV,dW,dX,dY,dZ,k0,k1,k2,k3,k4,k5,k6,k7,k8,k9,kA,kB,kC,kD,kE,kF,kG,kH,kI,kJ,kK,kL,kM,kN,kO,kP,kQ,kR,kS,kT,kU,kV,kW,kX,kY,kZ,v0,v1,v2,v3,v4,v5,v6,v7,v8,v9,vA,vB,vC,vD,vE,vF,vG,vH,vI,vJ,vK,vL,vM,vN] w R
def qq96.j3 (Y6:Option Addr) (yn6 yc6:Nat) (y87:Bool) (d0 d1 d2 d3 d4 d5 d7 d8 d9 dA dB dC dD dE dF dG dH dI dJ dK dL dM dN dO dP dQ dR dS dT dU dV dW dX dY dZ k0 k1 k2 k3 k4 k5 k6 k7 k8 k9 kA kB kC kD kE kF kG kH kI kJ kK kL kM kN kO kP kQ kR kS kT kU kV kW kX kY kZ v0 v1 v2 v3 v4 v5 v6 v7 v8 v9 vA vB vC vD vE vG vH vI vJ vK vL vM vN:V) (w:W) (R:E):Prop:=
 seg Tryz.prog entE qq96.ords qq96.joins Tryz.f68 [1,1,1,1,0,1,0,1,1,1,1,1,0,1] [1,0,1,1,1,1,1,0,1,0,1,1,1,1] [] [d0,d1,d2,d3,d4,d5,S Y6 yn6 yc6,d7,d8,d9,dA,dB,dC,dD,dE,dF,dG,dH,dI,dJ,dK,dL,dM,dN,dO,dP,dQ,dR,dS,dT,dU,dV,dW,dX,dY,dZ,k0,k1,k2,k3,k4,k5,k6,k7,k8,k9,kA,kB,kC,kD,kE,kF,kG,kH,kI,kJ,kK,kL,kM,kN,kO,kP,kQ,kR,kS,kT,kU,kV,kW,kX,kY,kZ,v0,v1,v2,v3,v4,v5,v6,v7,v8,v9,vA,vB,vC,vD,vE,T y87,vG,vH,vI,vJ,vK,vL,vM,vN] w R
abbrev qq96.J1 (yg1:Nat) (Y6:Option Addr) (yn6 yc6:Nat) (y22:Bool) (w:W) (R:E):Prop:=∀ d0 d2 d3 d4 d5 d7 d8 d9 dA dB dC dD dE dF dG dH dI dJ dK dL dN dO dP dQ dR dS dT dU dV dW dX dY dZ k0 k1 k2 k3 k4 k5 k6 k7 k8 k9 kA kB kC kD kE kF kG kH kI kJ kK kL kM kN kO kP kQ kR kS kT kU kV kW kX kY kZ v0 v1 v2 v3 v4 v5 v6 v7 v8 v9 vA vB vC vD vE vF vG vH vI vJ vK vL vM vN,qq96.j1 yg1 Y6 yn6 yc6 y22 d0 d2 d3 d4 d5 d7 d8 d9 dA dB dC dD dE dF dG dH dI dJ dK dL dN dO dP dQ dR dS dT dU dV dW dX dY dZ k0 k1 k2 k3 k4 k5 k6 k7 k8 k9 kA kB kC kD kE kF kG kH kI kJ kK kL kM kN kO kP kQ kR kS kT kU kV kW kX kY kZ v0 v1 v2 v3 v4 v5 v6 v7 v8 v9 vA vB vC vD vE vF vG vH vI vJ vK vL vM vN w R
abbrev qq96.J2 (yg1:Nat) (Y6:Option Addr) (yn6 yc6:Nat) (w:W) (R:E):Prop:=∀ d0 d2 d3 d4 d5 d7 d8 d9 dA dB dC dD dE dF dG dH dI dJ dK dL dM dN dO dP dQ dR dS dT dU dV dW dX dY dZ k0 k1 k2 k3 k4 k5 k6 k7 k8 k9 kA kB kC kD kE kF kG kH kI kJ kK kL kM kN kO kP kQ kR kS kT kU kV kW kX kY kZ v0 v1 v2 v3 v4 v5 v6 v7 v8 v9 vA vB vC vD vE vF vG vH vI vJ vK vL vM vN,qq96.j2 yg1 Y6 yn6 yc6 d0 d2 d3 d4 d5 d7 d8 d9 dA dB dC dD dE dF dG dH dI dJ dK dL dM dN dO dP dQ dR dS dT dU dV dW dX dY dZ k0 k1 k2 k3 k4 k5 k6 k7 k8 k9 kA kB kC kD kE kF kG kH kI kJ kK kL kM kN kO kP kQ kR kS kT kU kV kW kX kY kZ v0 v1 v2 v3 v4 v5 v6 v7 v8 v9 vA vB vC vD vE vF vG vH vI vJ vK vL vM vN w R
abbrev qq96.J3 (Y6:Option Addr) (yn6 yc6:Nat) (y87:Bool) (w:W) (R:E):Prop:=∀ d0 d1 d2 d3 d4 d5 d7 d8 d9 dA dB dC dD dE dF dG dH dI dJ dK dL dM dN dO dP dQ dR dS dT dU dV dW dX dY dZ k0 k1 k2 k3 k4 k5 k6 k7 k8 k9 kA kB kC kD kE kF kG kH kI kJ kK kL kM kN kO kP kQ kR kS kT kU kV kW kX kY kZ v0 v1 v2 v3 v4 v5 v6 v7 v8 v9 vA vB vC vD vE vG vH vI vJ vK vL vM vN,qq96.j3 Y6 yn6 yc6 y87 d0 d1 d2 d3 d4 d5 d7 d8 d9 dA dB dC dD dE dF dG dH dI dJ dK dL dM dN dO dP dQ dR dS dT dU dV dW dX dY dZ k0 k1 k2 k3 k4 k5 k6 k7 k8 k9 kA kB kC kD kE kF kG kH kI kJ kK kL kM kN kO kP kQ kR kS kT kU kV kW kX kY kZ v0 v1 v2 v3 v4 v5 v6 v7 v8 v9 vA vB vC vD vE vG vH vI vJ vK vL vM vN w R
theorem qq96.j1_eq:qq96.j1 yg1 Y6 yn6 yc6 y22 d0 d2 d3 d4 d5 d7 d8 d9 dA dB dC dD dE dF dG dH dI dJ dK dL dN dO dP dQ dR dS dT dU dV dW dX dY dZ k0 k1 k2 k3 k4 k5 k6 k7 k8 k9 kA kB kC kD kE kF kG kH kI kJ kK kL kM kN kO kP kQ kR kS kT kU kV kW kX kY kZ v0 v1 v2 v3 v4 v5 v6 v7 v8 v9 vA vB vC vD vE vF vG vH vI vJ vK vL vM vN w R =
((if y22=true then
(R (.returned (.tuple #[.nilIface,I L 30])) w)
else
(∃ x1:Int,w.cell? ⟨yg1,6,N⟩=some (I B x1)∧
((if (x1 == 6)=true then
((if decide ((yn6:Int) < 20)=true then
(R (.returned (.tuple #[.nilIface,I L 30])) w)
else
(Leaf (qq96.j2 yg1 Y6 yn6 yc6 d0 d2 d3 d4 d5 d7 d8 d9 dA dB dC dD dE dF dG dH dI dJ dK dL (T y22) dN dO dP dQ dR dS dT dU dV dW dX dY dZ k0 k1 (T (decide ((yn6:Int) < 20))) (P (some ⟨yg1,0,N⟩)) (P (some ⟨yg1,6,N⟩)) (I B x1) (T (x1 == 6)) (T true) (S Y6 yn6 yc6) (I L (yn6:Int)) (T (decide ((yn6:Int) < 20))) (T (decide ((yn6:Int) < 20))) kC kD kE kF kG kH kI kJ kK kL kM kN kO kP kQ kR kS kT kU kV kW kX kY kZ v0 v1 v2 v3 v4 v5 v6 v7 v8 v9 vA vB vC vD vE vF vG vH vI vJ vK vL vM vN w R))))
else
(Leaf (qq96.j2 yg1 Y6 yn6 yc6 d0 d2 d3 d4 d5 d7 d8 d9 dA dB dC dD dE dF dG dH dI dJ dK dL (T y22) dN dO dP dQ dR dS dT dU dV dW dX dY dZ k0 k1 (T false) (P (some ⟨yg1,0,N⟩)) (P (some ⟨yg1,6,N⟩)) (I B x1) (T (x1 == 6)) (T false) U U U (T false) kC kD kE kF kG kH kI kJ kK kL kM kN kO kP kQ kR kS kT kU kV kW kX kY kZ v0 v1 v2 v3 v4 v5 v6 v7 v8 v9 vA vB vC vD vE vF vG vH vI vJ vK vL vM vN w R))))))):=by kernel_rfl
theorem qq96.j2_eq:qq96.j2 yg1 Y6 yn6 yc6 d0 d2 d3 d4 d5 d7 d8 d9 dA dB dC dD dE dF dG dH dI dJ dK dL dM dN dO dP dQ dR dS dT dU dV dW dX dY dZ k0 k1 k2 k3 k4 k5 k6 k7 k8 k9 kA kB kC kD kE kF kG kH kI kJ kK kL kM kN kO kP kQ kR kS kT kU kV kW kX kY kZ v0 v1 v2 v3 v4 v5 v6 v7 v8 v9 vA vB vC vD vE vF vG vH vI vJ vK vL vM vN w R =
(∃ x1:Int,w.cell? ⟨yg1,6,N⟩=some (I B x1)∧
((if (x1 == 17)=true then
(Calls Tryz.prog 95 #[S Y6 yn6 yc6,I L 0] w (fun (e3:Ending) (w2:W)=>
 ∃ x4:Int,e3=.returned (I H x4)∧
(Calls Tryz.prog 95 #[S Y6 yn6 yc6,I L 2] w2 (fun (e6:Ending) (w5:W)=>
 ∃ x7:Int,e6=.returned (I H x7)∧
(R (.returned (.tuple #[.iface 150 (G #[I H x4,I H x7]),I L 0])) w5)))))
else
((if (x1 == 6)=true then
(∃ S8:W→Prop,S8 w.drew∧
(Let (w.drew) fun w9:W=>
 ∃ a10:Addr,Y6=some a10∧(0≤(13:Int)∧(13:Int) < (yn6:Int))∧
(∃ x11:Int,(∀ w',S8 w'→w'.cell? (a10.add 13)=some (I B x11))∧
(Calls Tryz.prog 95 #[S Y6 yn6 yc6,I L 0] w9 (fun (e13:Ending) (w12:W)=>
 ∃ x14:Int,e13=.returned (I H x14)∧
(S8 w12∧
(Calls Tryz.prog 95 #[S Y6 yn6 yc6,I L 2] w12 (fun (e16:Ending) (w15:W)=>
 ∃ x17:Int,e16=.returned (I H x17)∧
(S8 w15∧
(R (.returned (.tuple #[.iface 152 (G #[I H x14,I H x17,I B x11]),I L 0])) w15))))))))))
else
((if (x1 == 1)=true then
(∃ a18:Addr,Y6=some a18∧(0≤(0:Int)∧(0:Int) < (yn6:Int))∧
(∃ x19:Int,w.cell? a18=some (I B x19)∧
((if (x19 == 8)=true then
(∃ a20:Addr,Y6=some a20∧(0≤(1:Int)∧(1:Int) < (yn6:Int))∧
(∃ x21:Int,w.cell? (a20.add 1)=some (I B x21)∧
(Leaf (qq96.j3 Y6 yn6 yc6 (x21 == 0) d0 (P (some ⟨yg1,0,N⟩)) d2 d3 d4 d5 d7 d8 d9 dA dB dC dD dE dF dG dH dI dJ dK dL dM dN dO dP dQ dR dS dT dU dV dW dX dY dZ k0 k1 k2 k3 k4 k5 k6 k7 k8 k9 kA kB (P (some ⟨yg1,0,N⟩)) (P (some ⟨yg1,6,N⟩)) (I B x1) (T (x1 == 17)) (T (x1 == 17)) kH kI kJ kK kL kM (T (x1 == 6)) (T (x1 == 6)) kP kQ kR kS kT kU kV kW kX (T (x1 == 1)) (T (x1 == 1)) (S Y6 yn6 yc6) (P (some a18)) (I B x19) (T (x19 == 8)) (T true) U U U U (T true) (T true) (S Y6 yn6 yc6) (P (some (a20.add 1))) (I B x21) (T (x21 == 0)) vG vH vI vJ vK vL vM vN w R))))
else
(∃ a22:Addr,Y6=some a22∧(0≤(0:Int)∧(0:Int) < (yn6:Int))∧
(∃ x23:Int,w.cell? a22=some (I B x23)∧
((if (x23 == 0)=true then
(∃ a24:Addr,Y6=some a24∧(0≤(1:Int)∧(1:Int) < (yn6:Int))∧
(∃ x25:Int,w.cell? (a24.add 1)=some (I B x25)∧
(Leaf (qq96.j3 Y6 yn6 yc6 (x25 == 0) d0 (P (some ⟨yg1,0,N⟩)) d2 d3 d4 d5 d7 d8 d9 dA dB dC dD dE dF dG dH dI dJ dK dL dM dN dO dP dQ dR dS dT dU dV dW dX dY dZ k0 k1 k2 k3 k4 k5 k6 k7 k8 k9 kA kB (P (some ⟨yg1,0,N⟩)) (P (some ⟨yg1,6,N⟩)) (I B x1) (T (x1 == 17)) (T (x1 == 17)) kH kI kJ kK kL kM (T (x1 == 6)) (T (x1 == 6)) kP kQ kR kS kT kU kV kW kX (T (x1 == 1)) (T (x1 == 1)) (S Y6 yn6 yc6) (P (some a18)) (I B x19) (T (x19 == 8)) (T false) (S Y6 yn6 yc6) (P (some a22)) (I B x23) (T (x23 == 0)) (T (x23 == 0)) (T true) (S Y6 yn6 yc6) (P (some (a24.add 1))) (I B x25) (T (x25 == 0)) vG vH vI vJ vK vL vM vN w R))))
else
(Leaf (qq96.j3 Y6 yn6 yc6 false d0 (P (some ⟨yg1,0,N⟩)) d2 d3 d4 d5 d7 d8 d9 dA dB dC dD dE dF dG dH dI dJ dK dL dM dN dO dP dQ dR dS dT dU dV dW dX dY dZ k0 k1 k2 k3 k4 k5 k6 k7 k8 k9 kA kB (P (some ⟨yg1,0,N⟩)) (P (some ⟨yg1,6,N⟩)) (I B x1) (T (x1 == 17)) (T (x1 == 17)) kH kI kJ kK kL kM (T (x1 == 6)) (T (x1 == 6)) kP kQ kR kS kT kU kV kW kX (T (x1 == 1)) (T (x1 == 1)) (S Y6 yn6 yc6) (P (some a18)) (I B x19) (T (x19 == 8)) (T false) (S Y6 yn6 yc6) (P (some a22)) (I B x23) (T (x23 == 0)) (T (x23 == 0)) (T false) U U U U vG vH vI vJ vK vL vM vN w R))))))))))
else
(R (.returned (.tuple #[.nilIface,I L 210])) w)))))))):=by kernel_rfl
theorem qq96.j3_eq:qq96.j3 Y6 yn6 yc6 y87 d0 d1 d2 d3 d4 d5 d7 d8 d9 dA dB dC dD dE dF dG dH dI dJ dK dL dM dN dO dP dQ dR dS dT dU dV dW dX dY dZ k0 k1 k2 k3 k4 k5 k6 k7 k8 k9 kA kB kC kD kE kF kG kH kI kJ kK kL kM kN kO kP kQ kR kS kT kU kV kW kX kY kZ v0 v1 v2 v3 v4 v5 v6 v7 v8 v9 vA vB vC vD vE vG vH vI vJ vK vL vM vN w R =
((if y87=true then
(∃ S1:W→Prop,S1 w.drew∧
(Let (w.drew) fun w2:W=>
 ∃ a3:Addr,Y6=some a3∧(0≤(0:Int)∧(0:Int) < (yn6:Int))∧
(∃ x4:Int,(∀ w',S1 w'→w'.cell? a3=some (I B x4))∧
(Calls Tryz.prog 95 #[S Y6 yn6 yc6,I L 4] w2 (fun (e6:Ending) (w5:W)=>
 ∃ x7:Int,e6=.returned (I H x7)∧
(S1 w5∧
(R (.returned (.tuple #[.iface 154 (G #[T (x4 == 8),I H x7]),I L 0])) w5)))))))
else
(R (.returned (.tuple #[.nilIface,I L 210])) w))):=by kernel_rfl
def qq96.s (i0_0 i0_1:Int) (i0_2 i0_3:Bool) (i0_4 i0_5 i0_6 i0_7 i0_8:Int) (I0_9:Option Addr) (in0_9 ic0_9:Nat) (I0_10:Option Addr) (in0_10 ic0_10:Nat) (w:W) (R:E):Prop:=
(Let (w.heap.size) fun g1:Nat=>
 Let (w.alloc (.cells #[I B i0_0,I H i0_1,T i0_2,T i0_3,I L i0_4,I B i0_5,I B i0_6,I D i0_7,I D i0_8,S I0_9 in0_9 ic0_9,S I0_10 in0_10 ic0_10] 37)) fun w2:W=>
 ∃ x3 x4:Int,∃ b5 b6:Bool,∃ x7 x8 x9 x10 x11:Int,∃ (A12:Option Addr) (n12_ c12_:Nat),∃ (A13:Option Addr) (n13_ c13_:Nat),(11=11∧At w2 ⟨g1,0,N⟩ [I B x3,I H x4,T b5,T b6,I L x7,I B x8,I B x9,I D x10,I D x11,S A12 n12_ c12_,S A13 n13_ c13_])∧
(Calls Tryz.prog 34 #[G #[I B x3,I H x4,T b5,T b6,I L x7,I B x8,I B x9,I D x10,I D x11,S A12 n12_ c12_,S A13 n13_ c13_]] w2 (fun (e15:Ending) (w14:W)=>
 ∃ (A16:Option Addr) (n16_ c16_:Nat),∃ x17:Int,e15=.returned (.tuple #[S A16 n16_ c16_,I L x17])∧
((if (x17 != 0)=true then
(R (.returned (.tuple #[.nilIface,I L x17])) w14)
else
(∃ (A18:Option Addr) (n18_ c18_:Nat),w14.cell? ⟨g1,10,N⟩=some (S A18 n18_ c18_)∧
(∃ x19:Int,w14.cell? ⟨g1,4,N⟩=some (I L x19)∧
((if decide (x19 > 0)=true then
(R (.returned (.tuple #[.nilIface,I L 75])) w14)
else
(∃ x20:Int,w14.cell? ⟨g1,6,N⟩=some (I B x20)∧
((if (x20 == 1)=true then
(Leaf (qq96.j1 g1 A18 n18_ c18_ (decide ((n18_:Int) < 8)) (G #[I B i0_0,I H i0_1,T i0_2,T i0_3,I L i0_4,I B i0_5,I B i0_6,I D i0_7,I D i0_8,S I0_9 in0_9 ic0_9,S I0_10 in0_10 ic0_10]) .nilIface (I L 0) (S A16 n16_ c16_) (I L x17) (.tuple #[S A16 n16_ c16_,I L x17]) (G #[I B x3,I H x4,T b5,T b6,I L x7,I B x8,I B x9,I D x10,I D x11,S A12 n12_ c12_,S A13 n13_ c13_]) (.tuple #[S A16 n16_ c16_,I L x17]) (S A16 n16_ c16_) (I L x17) (I L x17) (T (x17 != 0)) U (P (some ⟨g1,10,N⟩)) (S A18 n18_ c18_) (T (decide (x19 > 0))) (P (some ⟨g1,0,N⟩)) (P (some ⟨g1,4,N⟩)) (I L x19) (T (decide (x19 > 0))) (P (some ⟨g1,0,N⟩)) (P (some ⟨g1,6,N⟩)) (I B x20) (T (x20 == 1)) (T true) U U U U (T true) (T true) (S A18 n18_ c18_) (I L (n18_:Int)) (T (decide ((n18_:Int) < 8))) (T (decide ((n18_:Int) < 8))) U U U U U U U U U U U U U U U U U U U U U U U U U U U U U U U U U U U U U U U U U U U U U U U U U U U U U U U U U U w14 R))
else
(∃ x21:Int,w14.cell? ⟨g1,6,N⟩=some (I B x21)∧
((if (x21 == 17)=true then
(Leaf (qq96.j1 g1 A18 n18_ c18_ (decide ((n18_:Int) < 8)) (G #[I B i0_0,I H i0_1,T i0_2,T i0_3,I L i0_4,I B i0_5,I B i0_6,I D i0_7,I D i0_8,S I0_9 in0_9 ic0_9,S I0_10 in0_10 ic0_10]) .nilIface (I L 0) (S A16 n16_ c16_) (I L x17) (.tuple #[S A16 n16_ c16_,I L x17]) (G #[I B x3,I H x4,T b5,T b6,I L x7,I B x8,I B x9,I D x10,I D x11,S A12 n12_ c12_,S A13 n13_ c13_]) (.tuple #[S A16 n16_ c16_,I L x17]) (S A16 n16_ c16_) (I L x17) (I L x17) (T (x17 != 0)) U (P (some ⟨g1,10,N⟩)) (S A18 n18_ c18_) (T (decide (x19 > 0))) (P (some ⟨g1,0,N⟩)) (P (some ⟨g1,4,N⟩)) (I L x19) (T (decide (x19 > 0))) (P (some ⟨g1,0,N⟩)) (P (some ⟨g1,6,N⟩)) (I B x20) (T (x20 == 1)) (T false) (P (some ⟨g1,0,N⟩)) (P (some ⟨g1,6,N⟩)) (I B x21) (T (x21 == 17)) (T (x21 == 17)) (T true) (S A18 n18_ c18_) (I L (n18_:Int)) (T (decide ((n18_:Int) < 8))) (T (decide ((n18_:Int) < 8))) U U U U U U U U U U U U U U U U U U U U U U U U U U U U U U U U U U U U U U U U U U U U U U U U U U U U U U U U U U w14 R))
else
(Leaf (qq96.j1 g1 A18 n18_ c18_ false (G #[I B i0_0,I H i0_1,T i0_2,T i0_3,I L i0_4,I B i0_5,I B i0_6,I D i0_7,I D i0_8,S I0_9 in0_9 ic0_9,S I0_10 in0_10 ic0_10]) .nilIface (I L 0) (S A16 n16_ c16_) (I L x17) (.tuple #[S A16 n16_ c16_,I L x17]) (G #[I B x3,I H x4,T b5,T b6,I L x7,I B x8,I B x9,I D x10,I D x11,S A12 n12_ c12_,S A13 n13_ c13_]) (.tuple #[S A16 n16_ c16_,I L x17]) (S A16 n16_ c16_) (I L x17) (I L x17) (T (x17 != 0)) U (P (some ⟨g1,10,N⟩)) (S A18 n18_ c18_) (T (decide (x19 > 0))) (P (some ⟨g1,0,N⟩)) (P (some ⟨g1,4,N⟩)) (I L x19) (T (decide (x19 > 0))) (P (some ⟨g1,0,N⟩)) (P (some ⟨g1,6,N⟩)) (I B x20) (T (x20 == 1)) (T false) (P (some ⟨g1,0,N⟩)) (P (some ⟨g1,6,N⟩)) (I B x21) (T (x21 == 17)) (T (x21 == 17)) (T false) U U U (T false) U U U U U U U U U U U U U U U U U U U U U U U U U U U U U U U U U U U U U U U U U U U U U U U U U U U U U U U U U U w14 R)))))))))))))))))
theorem qq96.run (h:qq96.s i0_0 i0_1 i0_2 i0_3 i0_4 i0_5 i0_6 i0_7 i0_8 I0_9 in0_9 ic0_9 I0_10 in0_10 ic0_10 w R):Calls Tryz.prog 68 #[G #[I B i0_0,I H i0_1,T i0_2,T i0_3,I L i0_4,I B i0_5,I B i0_6,I D i0_7,I D i0_8,S I0_9 in0_9 ic0_9,S I0_10 in0_10 ic0_10]] w R:=
 calls_segk (ords:=qq96.ords) (J:=qq96.joins) ents mixed Tryz.func68 rfl h (by kernel_rfl)
def qq7.ords:Nat→Od
 | _=>.nil
def qq7.joins (p:List Nat):Bool:=false
def qq7.s (i0_0 i0_1:Int) (i0_2 i0_3:Bool) (i0_4 i0_5 i0_6 i0_7 i0_8:Int) (I0_9:Option Addr) (in0_9 ic0_9:Nat) (i1_0 i1_1:Int) (w:W) (R:E):Prop:=
(Let (w.heap.size) fun g1:Nat=>
 Let (w.alloc (.cells #[I B i0_0,I H i0_1,T i0_2,T i0_3,I L i0_4,I B i0_5,I B i0_6,I D i0_7,I D i0_8,S I0_9 in0_9 ic0_9] 35)) fun w2:W=>
 Let (w2.heap.size) fun g3:Nat=>
 Let (w2.alloc (.cells #[I D 0,I D 0,I B 0,I H 0,I H 0] 39)) fun w4:W=>
 Calls Tryz.prog 127 #[G #[I H i1_0,I H i1_1]] w4 (fun (e6:Ending) (w5:W)=>
 ∃ x7 x8:Int,e6=.returned (.tuple #[I H x7,I H x8])∧
(∃ x9:Int,w5.cell? ⟨g1,7,N⟩=some (I D x9)∧
(∃ x10:Int,w5.cell? ⟨g1,8,N⟩=some (I D x10)∧
(∃ x11:Int,w5.cell? ⟨g1,6,N⟩=some (I B x11)∧
(May w5 ⟨g3,0,N⟩ 5∧
(Let (putCells w5 ⟨g3,0,N⟩ [I D x9,I D x10,I B x11,I H x7,I H x8] 0) fun w12:W=>
 ∃ x13 x14 x15 x16 x17:Int,(5=5∧At w12 ⟨g3,0,N⟩ [I D x13,I D x14,I B x15,I H x16,I H x17])∧
(R (.returned (G #[I D x13,I D x14,I B x15,I H x16,I H x17])) w12))))))))
theorem qq7.run (h:qq7.s i0_0 i0_1 i0_2 i0_3 i0_4 i0_5 i0_6 i0_7 i0_8 I0_9 in0_9 ic0_9 i1_0 i1_1 w R):Calls Tryz.prog 69 #[G #[I B i0_0,I H i0_1,T i0_2,T i0_3,I L i0_4,I B i0_5,I B i0_6,I D i0_7,I D i0_8,S I0_9 in0_9 ic0_9],.iface 150 (G #[I H i1_0,I H i1_1])] w R:=
 calls_segk (ords:=qq7.ords) (J:=qq7.joins) ents mixed Tryz.func69 rfl h (by kernel_rfl)
def qq11.ords:Nat→Od
 | _=>.nil
def qq11.joins (p:List Nat):Bool:=false
def qq11.s (i0_0 i0_1:Int) (i0_2 i0_3:Bool) (i0_4 i0_5 i0_6 i0_7 i0_8:Int) (I0_9:Option Addr) (in0_9 ic0_9:Nat) (i1_0 i1_1 i1_2:Int) (w:W) (R:E):Prop:=
(Let (w.heap.size) fun g1:Nat=>
 Let (w.alloc (.cells #[I B i0_0,I H i0_1,T i0_2,T i0_3,I L i0_4,I B i0_5,I B i0_6,I D i0_7,I D i0_8,S I0_9 in0_9 ic0_9] 35)) fun w2:W=>
 Let (w2.heap.size) fun g3:Nat=>
 Let (w2.alloc (.cells #[I D 0,I D 0,I B 0,I H 0,I H 0] 39)) fun w4:W=>
 Calls Tryz.prog 129 #[G #[I H i1_0,I H i1_1,I B i1_2]] w4 (fun (e6:Ending) (w5:W)=>
 ∃ x7 x8:Int,e6=.returned (.tuple #[I H x7,I H x8])∧
(∃ x9:Int,w5.cell? ⟨g1,7,N⟩=some (I D x9)∧
(∃ x10:Int,w5.cell? ⟨g1,8,N⟩=some (I D x10)∧
(∃ x11:Int,w5.cell? ⟨g1,6,N⟩=some (I B x11)∧
(May w5 ⟨g3,0,N⟩ 5∧
(Let (putCells w5 ⟨g3,0,N⟩ [I D x9,I D x10,I B x11,I H x7,I H x8] 0) fun w12:W=>
 ∃ x13 x14 x15 x16 x17:Int,(5=5∧At w12 ⟨g3,0,N⟩ [I D x13,I D x14,I B x15,I H x16,I H x17])∧
(R (.returned (G #[I D x13,I D x14,I B x15,I H x16,I H x17])) w12))))))))
theorem qq11.run (h:qq11.s i0_0 i0_1 i0_2 i0_3 i0_4 i0_5 i0_6 i0_7 i0_8 I0_9 in0_9 ic0_9 i1_0 i1_1 i1_2 w R):Calls Tryz.prog 69 #[G #[I B i0_0,I H i0_1,T i0_2,T i0_3,I L i0_4,I B i0_5,I B i0_6,I D i0_7,I D i0_8,S I0_9 in0_9 ic0_9],.iface 152 (G #[I H i1_0,I H i1_1,I B i1_2])] w R:=
 calls_segk (ords:=qq11.ords) (J:=qq11.joins) ents mixed Tryz.func69 rfl h (by kernel_rfl)
def qq34.ords:Nat→Od
 | _=>.nil
def qq34.joins (p:List Nat):Bool:=false
def qq34.s (i0_0 i0_1:Int) (i0_2 i0_3:Bool) (i0_4 i0_5 i0_6 i0_7 i0_8:Int) (I0_9:Option Addr) (in0_9 ic0_9:Nat) (i1_0:Bool) (i1_1:Int) (w:W) (R:E):Prop:=
(Let (w.heap.size) fun g1:Nat=>
 Let (w.alloc (.cells #[I B i0_0,I H i0_1,T i0_2,T i0_3,I L i0_4,I B i0_5,I B i0_6,I D i0_7,I D i0_8,S I0_9 in0_9 ic0_9] 35)) fun w2:W=>
 Let (w2.heap.size) fun g3:Nat=>
 Let (w2.alloc (.cells #[I D 0,I D 0,I B 0,I H 0,I H 0] 39)) fun w4:W=>
 Calls Tryz.prog 130 #[G #[T i1_0,I H i1_1]] w4 (fun (e6:Ending) (w5:W)=>
 ∃ x7 x8:Int,e6=.returned (.tuple #[I H x7,I H x8])∧
(∃ x9:Int,w5.cell? ⟨g1,7,N⟩=some (I D x9)∧
(∃ x10:Int,w5.cell? ⟨g1,8,N⟩=some (I D x10)∧
(∃ x11:Int,w5.cell? ⟨g1,6,N⟩=some (I B x11)∧
(May w5 ⟨g3,0,N⟩ 5∧
(Let (putCells w5 ⟨g3,0,N⟩ [I D x9,I D x10,I B x11,I H x7,I H x8] 0) fun w12:W=>
 ∃ x13 x14 x15 x16 x17:Int,(5=5∧At w12 ⟨g3,0,N⟩ [I D x13,I D x14,I B x15,I H x16,I H x17])∧
(R (.returned (G #[I D x13,I D x14,I B x15,I H x16,I H x17])) w12))))))))
theorem qq34.run (h:qq34.s i0_0 i0_1 i0_2 i0_3 i0_4 i0_5 i0_6 i0_7 i0_8 I0_9 in0_9 ic0_9 i1_0 i1_1 w R):Calls Tryz.prog 69 #[G #[I B i0_0,I H i0_1,T i0_2,T i0_3,I L i0_4,I B i0_5,I B i0_6,I D i0_7,I D i0_8,S I0_9 in0_9 ic0_9],.iface 154 (G #[T i1_0,I H i1_1])] w R:=
 calls_segk (ords:=qq34.ords) (J:=qq34.joins) ents mixed Tryz.func69 rfl h (by kernel_rfl)
def qq5.ords:Nat→Od
 | 1=>(.tk 0 (.tk 1 (.tk 2 (.tk 3 (.tk 4 (.tk 5 .nil))))))
 | _=>.nil
def qq5.joins (p:List Nat):Bool:=false
def qq5.s (i0_0 i0_1:Int) (w:W) (R:E):Prop:=
(Let (w.heap.size) fun g1:Nat=>
 Let (w.alloc (.cells #[I H i0_0,I H i0_1] 150)) fun w2:W=>
 ∃ S3:W→Prop,S3 w2.drew∧
(Let (w2.drew) fun w4:W=>
 ∃ x5:Int,(∀ w',S3 w'→w'.cell? ⟨g1,0,N⟩=some (I H x5))∧
(∃ x6:Int,(∀ w',S3 w'→w'.cell? ⟨g1,1,N⟩=some (I H x6))∧
(R (.returned (.tuple #[I H x5,I H x6])) w4))))
theorem qq5.run (h:qq5.s i0_0 i0_1 w R):Calls Tryz.prog 127 #[G #[I H i0_0,I H i0_1]] w R:=
 calls_segk (ords:=qq5.ords) (J:=qq5.joins) ents mixed Tryz.func127 rfl h (by kernel_rfl)
def qq10.ords:Nat→Od
 | 1=>(.tk 0 (.tk 1 (.tk 2 (.tk 3 (.tk 4 (.tk 5 .nil))))))
 | _=>.nil
def qq10.joins (p:List Nat):Bool:=false
def qq10.s (i0_0 i0_1 i0_2:Int) (w:W) (R:E):Prop:=
(Let (w.heap.size) fun g1:Nat=>
 Let (w.alloc (.cells #[I H i0_0,I H i0_1,I B i0_2] 152)) fun w2:W=>
 ∃ S3:W→Prop,S3 w2.drew∧
(Let (w2.drew) fun w4:W=>
 ∃ x5:Int,(∀ w',S3 w'→w'.cell? ⟨g1,0,N⟩=some (I H x5))∧
(∃ x6:Int,(∀ w',S3 w'→w'.cell? ⟨g1,1,N⟩=some (I H x6))∧
(R (.returned (.tuple #[I H x5,I H x6])) w4))))
theorem qq10.run (h:qq10.s i0_0 i0_1 i0_2 w R):Calls Tryz.prog 129 #[G #[I H i0_0,I H i0_1,I B i0_2]] w R:=
 calls_segk (ords:=qq10.ords) (J:=qq10.joins) ents mixed Tryz.func129 rfl h (by kernel_rfl)
def qq23.ords:Nat→Od
 | 1=>(.tk 0 (.tk 1 (.tk 2 (.tk 3 (.tk 4 (.tk 5 .nil))))))
 | _=>.nil
def qq23.joins (p:List Nat):Bool:=false
def qq23.s (i0_0:Bool) (i0_1:Int) (w:W) (R:E):Prop:=
(Let (w.heap.size) fun g1:Nat=>
 Let (w.alloc (.cells #[T i0_0,I H i0_1] 154)) fun w2:W=>
 ∃ S3:W→Prop,S3 w2.drew∧
(Let (w2.drew) fun w4:W=>
 ∃ x5:Int,(∀ w',S3 w'→w'.cell? ⟨g1,1,N⟩=some (I H x5))∧
(∃ x6:Int,(∀ w',S3 w'→w'.cell? ⟨g1,1,N⟩=some (I H x6))∧
(R (.returned (.tuple #[I H x5,I H x6])) w4))))
theorem qq23.run (h:qq23.s i0_0 i0_1 w R):Calls Tryz.prog 130 #[G #[T i0_0,I H i0_1]] w R:=
 calls_segk (ords:=qq23.ords) (J:=qq23.joins) ents mixed Tryz.func130 rfl h (by kernel_rfl)
def qq111.ords:Nat→Od
 | _=>.nil
def qq111.joins (p:List Nat):Bool:=false
def qq111.s (i0_0 i0_1:Int) (i0_2 i0_3:Bool) (i0_4 i0_5 i0_6 i0_7 i0_8:Int) (I0_9:Option Addr) (in0_9 ic0_9:Nat) (I0_10:Option Addr) (in0_10 ic0_10:Nat) (w:W) (R:E):Prop:=
(Let (w.heap.size) fun g1:Nat=>
 Let (w.alloc (.cells #[I B i0_0,I H i0_1,T i0_2,T i0_3,I L i0_4,I B i0_5,I B i0_6,I D i0_7,I D i0_8,S I0_9 in0_9 ic0_9,S I0_10 in0_10 ic0_10] 37)) fun w2:W=>
 Let (w2.heap.size) fun g3:Nat=>
 Let (w2.alloc (.cells #[I D 0,I D 0,I B 0,I H 0,I H 0] 39)) fun w4:W=>
 ∃ x5 x6:Int,∃ b7 b8:Bool,∃ x9 x10 x11 x12 x13:Int,∃ (A14:Option Addr) (n14_ c14_:Nat),∃ (A15:Option Addr) (n15_ c15_:Nat),(11=11∧At w4 ⟨g1,0,N⟩ [I B x5,I H x6,T b7,T b8,I L x9,I B x10,I B x11,I D x12,I D x13,S A14 n14_ c14_,S A15 n15_ c15_])∧
(Calls Tryz.prog 68 #[G #[I B x5,I H x6,T b7,T b8,I L x9,I B x10,I B x11,I D x12,I D x13,S A14 n14_ c14_,S A15 n15_ c15_]] w4 (fun (e17:Ending) (w16:W)=>
 ∃ v18:V,∃ x19:Int,e17=.returned (.tuple #[v18,I L x19])∧
((if (x19 != 0)=true then
(May w16 ⟨g3,0,N⟩ 5∧
(Let (putCells w16 ⟨g3,0,N⟩ [I D 0,I D 0,I B 0,I H 0,I H 0] 0) fun w20:W=>
 ∃ x21 x22 x23 x24 x25:Int,(5=5∧At w20 ⟨g3,0,N⟩ [I D x21,I D x22,I B x23,I H x24,I H x25])∧
(R (.returned (.tuple #[G #[I D x21,I D x22,I B x23,I H x24,I H x25],I L x19])) w20)))
else
(∃ x26 x27:Int,∃ b28 b29:Bool,∃ x30 x31 x32 x33 x34:Int,∃ (A35:Option Addr) (n35_ c35_:Nat),(10=10∧At w16 ⟨g1,0,N⟩ [I B x26,I H x27,T b28,T b29,I L x30,I B x31,I B x32,I D x33,I D x34,S A35 n35_ c35_])∧
(Calls Tryz.prog 69 #[G #[I B x26,I H x27,T b28,T b29,I L x30,I B x31,I B x32,I D x33,I D x34,S A35 n35_ c35_],v18] w16 (fun (e37:Ending) (w36:W)=>
 ∃ x38 x39 x40 x41 x42:Int,e37=.returned (G #[I D x38,I D x39,I B x40,I H x41,I H x42])∧
(May w36 ⟨g3,0,N⟩ 5∧
(Let (putCells w36 ⟨g3,0,N⟩ [I D x38,I D x39,I B x40,I H x41,I H x42] 0) fun w43:W=>
 ∃ x44 x45 x46 x47 x48:Int,(5=5∧At w43 ⟨g3,0,N⟩ [I D x44,I D x45,I B x46,I H x47,I H x48])∧
(R (.returned (.tuple #[G #[I D x44,I D x45,I B x46,I H x47,I H x48],I L 0])) w43)))))))))))
theorem qq111.run (h:qq111.s i0_0 i0_1 i0_2 i0_3 i0_4 i0_5 i0_6 i0_7 i0_8 I0_9 in0_9 ic0_9 I0_10 in0_10 ic0_10 w R):Calls Tryz.prog 35 #[G #[I B i0_0,I H i0_1,T i0_2,T i0_3,I L i0_4,I B i0_5,I B i0_6,I D i0_7,I D i0_8,S I0_9 in0_9 ic0_9,S I0_10 in0_10 ic0_10]] w R:=
 calls_segk (ords:=qq111.ords) (J:=qq111.joins) ents mixed Tryz.func35 rfl h (by kernel_rfl)
def qq102.ords:Nat→Od
 | 1=>(.tk 0 (.tk 1 (.tk 2 (.tk 3 (.tk 4 (.tk 5 (.tk 6 (.tk 7 (.tk 8 (.tk 9 (.tk 10 (.tk 11 (.tk 12 (.tk 13 .nil))))))))))))))
 | _=>.nil
def qq102.joins (p:List Nat):Bool:=false
def qq102.s (I0:Option Addr) (in0 ic0:Nat) (i1:Int) (w:W) (R:E):Prop:=
(∃ S1:W→Prop,S1 w.drew∧
(Let (w.drew) fun w2:W=>
 ∃ a3:Addr,I0=some a3∧(0≤i1∧i1 < (in0:Int))∧
(∃ x4:Int,(∀ w',S1 w'→w'.cell? (a3.add i1.toNat)=some (I B x4))∧
(Let (H.wrap x4) fun x5:Int=>
 Let (H.wrap (x5 * 256)) fun x6:Int=>
 Let (L.wrap (i1+1)) fun x7:Int=>
 ∃ a8:Addr,I0=some a8∧(0≤x7∧x7 < (in0:Int))∧
(∃ x9:Int,(∀ w',S1 w'→w'.cell? (a8.add x7.toNat)=some (I B x9))∧
(Let (H.wrap x9) fun x10:Int=>
 Let (Go.bits .or .u16 x6 x10) fun x11:Int=>
 R (.returned (I H x11)) w2))))))
theorem qq102.run (h:qq102.s I0 in0 ic0 i1 w R):Calls Tryz.prog 95 #[S I0 in0 ic0,I L i1] w R:=
 calls_segk (ords:=qq102.ords) (J:=qq102.joins) ents mixed Tryz.func95 rfl h (by kernel_rfl)
def qq109.ords:Nat→Od
 | _=>.nil
def qq109.joins (p:List Nat):Bool:=p == [1,1]
def qq109.j1 (y0 y1:Int) (d2 d3 d4 d5 d6 d7 d8 d9 dA dB dC dD dE dF dG dH dI dJ:V) (w:W) (R:E):Prop:=
 seg Tryz.prog entE qq109.ords qq109.joins Tryz.f14 [1,1] [1,1] [] [I H y0,I H y1,d2,d3,d4,d5,d6,d7,d8,d9,dA,dB,dC,dD,dE,dF,dG,dH,dI,dJ] w R
abbrev qq109.J1 (y0 y1:Int) (w:W) (R:E):Prop:=∀ d2 d3 d4 d5 d6 d7 d8 d9 dA dB dC dD dE dF dG dH dI dJ,qq109.j1 y0 y1 d2 d3 d4 d5 d6 d7 d8 d9 dA dB dC dD dE dF dG dH dI dJ w R
theorem qq109.j1_eq:qq109.j1 y0 y1 d2 d3 d4 d5 d6 d7 d8 d9 dA dB dC dD dE dF dG dH dI dJ w R =
(Let (L.wrap y0) fun x1:Int=>
 Let (L.wrap y1) fun x2:Int=>
 Let (w.heap.size) fun g3:Nat=>
 Let (w.alloc (.map #[] 0)) fun w4:W=>
 Let (w4.heap.size) fun g5:Nat=>
 Let (w4.alloc (.cells #[I L x1,I L x2,.map (some g3)] 78)) fun w6:W=>
 R (.returned (.tuple #[P (some ⟨g5,0,N⟩),I L 0])) w6):=by kernel_rfl
def qq109.s (i0 i1:Int) (w:W) (R:E):Prop:=
((if (i0 == 0)=true then
(R (.returned (.tuple #[P N,I L 1])) w)
else
((if decide (i0 > i1)=true then
(R (.returned (.tuple #[P N,I L 1])) w)
else
(Leaf (qq109.j1 i0 i1 U U (P N) (I L 0) (I H i0) (T (i0 == 0)) (T false) (I H i0) (I H i1) (T (decide (i0 > i1))) (T (decide (i0 > i1))) U U U U U U U w R))))))
theorem qq109.run (h:qq109.s i0 i1 w R):Calls Tryz.prog 14 #[I H i0,I H i1] w R:=
 calls_segk (ords:=qq109.ords) (J:=qq109.joins) ents mixed Tryz.func14 rfl h (by kernel_rfl)
def qq21.ords:Nat→Od
 | _=>.nil
def qq21.joins (p:List Nat):Bool:=false
def qq21.s (i0:Option Addr) (i1:Int) (w:W) (R:E):Prop:=
(∃ a1:Addr,i0=some a1∧
(∃ r2:Option Nat,w.cell? (a1.add 2)=some (.map r2)∧
(∃ (es4:Array MapEntry) (c5:Nat) (q6:Option (Nat×V)),MapAt w r2 es4 c5∧Instr.findNow (.int .u8) (I B i1) es4.toList 0=some q6∧
(∃ p3:Option Addr,(q6.map Prod.snd).getD (P N)=P p3∧
((if (!p3.isNone)=true then
(∃ a7:Addr,p3=some a7∧
(∃ x8:Int,w.cell? (a7.add 1024)=some (I L x8)∧
(R (.returned (I L x8)) w)))
else
(R (.returned (I L 0)) w)))))))
theorem qq21.run (h:qq21.s i0 i1 w R):Calls Tryz.prog 22 #[P i0,I B i1] w R:=
 calls_segk (ords:=qq21.ords) (J:=qq21.joins) ents mixed Tryz.func22 rfl h (by kernel_rfl)
def qq22.ords:Nat→Od
 | _=>.nil
def qq22.joins (p:List Nat):Bool:=false
def qq22.l1 (n:Nat) (y0:Option Addr) (y2 y7:Int) (d1 d3 d4 d5 d6 d8 d9 dA dB dC dD dE dF dG dH dI dJ dK dL dM dN dO dP dQ dR dS dT dU dV dW dX dY dZ k0:V) (w:W) (R:E):Prop:=
 lseg Tryz.prog entE qq22.ords qq22.joins Tryz.f39 [1,0,1,0] [0,1,0,1] [] n [P y0,d1,I L y2,d3,d4,d5,d6,I L y7,d8,d9,dA,dB,dC,dD,dE,dF,dG,dH,dI,dJ,dK,dL,dM,dN,dO,dP,dQ,dR,dS,dT,dU,dV,dW,dX,dY,dZ,k0] w R
abbrev qq22.L1 (n:Nat) (y0:Option Addr) (y2 y7:Int) (w:W) (R:E):Prop:=∀ d1 d3 d4 d5 d6 d8 d9 dA dB dC dD dE dF dG dH dI dJ dK dL dM dN dO dP dQ dR dS dT dU dV dW dX dY dZ k0,qq22.l1 n y0 y2 y7 d1 d3 d4 d5 d6 d8 d9 dA dB dC dD dE dF dG dH dI dJ dK dL dM dN dO dP dQ dR dS dT dU dV dW dX dY dZ k0 w R
theorem qq22.l1_eq {n:Nat}:qq22.l1 (n+1) y0 y2 y7 d1 d3 d4 d5 d6 d8 d9 dA dB dC dD dE dF dG dH dI dJ dK dL dM dN dO dP dQ dR dS dT dU dV dW dX dY dZ k0 w R =
((if decide (y7≤y2)=true then
(Let (L.wrap (Int.tdiv y7 64)) fun x1:Int=>
 ∃ a2:Addr,y0=some a2∧
((0≤(x1:Int)∧(x1:Int) < 1024)∧
(∃ x3:Int,w.cell? (a2.add x1.toNat)=some (I Q x3)∧
(Let (Go.bits .xor .u64 18446744073709551615 x3) fun x4:Int=>
 Let (Int.tmod y7 64) fun x5:Int=>
 0≤x5∧
(Let (Int.fdiv x4 ((2:Int) ^ (min x5.toNat 64))) fun x6:Int=>
(if (x6 == 0)=true then
(Let (L.wrap (Int.tdiv y7 64)) fun x7:Int=>
 Let (L.wrap (x7+1)) fun x8:Int=>
 Let (L.wrap (x8 * 64)) fun x9:Int=>
 qq22.l1 n y0 y2 x9 d1 d3 d4 d5 d6 (I Q x6) d9 (I L y7) (I L y2) (T (decide (y7≤y2))) (P y0) (I L y7) (I L x1) (P (some a2)) (P (some (a2.add x1.toNat))) (I Q x3) (I Q x4) (I L y7) (I L x5) (I Q x6) (I Q x6) (T (x6 == 0)) (I L y7) (I L x7) (I L x8) (I L x9) dT dU dV dW dX dY dZ k0 w R)
else
(Calls Tryz.prog 75 #[I Q x6] w (fun (e11:Ending) (w10:W)=>
 ∃ x12:Int,e11=.returned (I L x12)∧
(Let (L.wrap (y7+x12)) fun x13:Int=>
(if decide (x13 > y2)=true then
(R (.returned (I L (-1))) w10)
else
(R (.returned (I L x13)) w10)))))))))))
else
(R (.returned (I L (-1))) w))):=by kernel_rfl
def qq22.s (i0:Option Addr) (i1 i2:Int) (w:W) (R:E):Prop:=
(∃ n1:Nat,qq22.l1 n1 i0 i2 i1 (I L i1) U U U (I L 0) U (I L i1) U U U U U U U U U U U U U U U U U U U U U U U U U U U w R)
theorem qq22.run (h:qq22.s i0 i1 i2 w R):Calls Tryz.prog 39 #[P i0,I L i1,I L i2] w R:=
 calls_segk (ords:=qq22.ords) (J:=qq22.joins) ents mixed Tryz.func39 rfl h (by kernel_rfl)
def qq41.ords:Nat→Od
 | _=>.nil
def qq41.joins (p:List Nat):Bool:=false
def qq41.s (i0:Option Addr) (i1:Int) (w:W) (R:E):Prop:=
(Let (L.wrap (Int.tdiv i1 64)) fun x1:Int=>
 ∃ a2:Addr,i0=some a2∧
((0≤(x1:Int)∧(x1:Int) < 1024)∧
(∃ x3:Int,w.cell? (a2.add x1.toNat)=some (I Q x3)∧
(Let (Int.tmod i1 64) fun x4:Int=>
 0≤x4∧
(Let (Int.fdiv x3 ((2:Int) ^ (min x4.toNat 64))) fun x5:Int=>
 Let (Go.bits .and .u64 x5 1) fun x6:Int=>
 R (.returned (T (x6 == 1))) w)))))
theorem qq41.run (h:qq41.s i0 i1 w R):Calls Tryz.prog 41 #[P i0,I L i1] w R:=
 calls_segk (ords:=qq41.ords) (J:=qq41.joins) ents mixed Tryz.func41 rfl h (by kernel_rfl)
def qq105.ords:Nat→Od
 | 5=>(.tk 0 (.tk 1 (.tk 2 (.tk 3 (.on 4 (.tk 5 (.tk 6 .nil)))))))
 | _=>.nil
def qq105.joins (p:List Nat):Bool:=false
def qq105.l1 (n yg2:Nat) (y6 y7:Int) (Y23:Option Addr) (yn23 yc23:Nat) (y24 y25:Int) (d0 d1 d3 d4 d5 d8 d9 dA dB dC dD dE dF dG dH dI dJ dK dL dM dQ dR dS dT dU dV dW dX dY dZ k0 k1 k2 k3 k4:V) (w:W) (R:E):Prop:=
 lseg Tryz.prog entE qq105.ords qq105.joins Tryz.f20 [1,1,1,1,0,1,0] [0,1,0,1,1,1,1] [] n [d0,d1,P (some ⟨yg2,0,N⟩),d3,d4,d5,I L y6,I Q y7,d8,d9,dA,dB,dC,dD,dE,dF,dG,dH,dI,dJ,dK,dL,dM,S Y23 yn23 yc23,I L y24,I L y25,dQ,dR,dS,dT,dU,dV,dW,dX,dY,dZ,k0,k1,k2,k3,k4] w R
abbrev qq105.L1 (n yg2:Nat) (y6 y7:Int) (Y23:Option Addr) (yn23 yc23:Nat) (y24 y25:Int) (w:W) (R:E):Prop:=∀ d0 d1 d3 d4 d5 d8 d9 dA dB dC dD dE dF dG dH dI dJ dK dL dM dQ dR dS dT dU dV dW dX dY dZ k0 k1 k2 k3 k4,qq105.l1 n yg2 y6 y7 Y23 yn23 yc23 y24 y25 d0 d1 d3 d4 d5 d8 d9 dA dB dC dD dE dF dG dH dI dJ dK dL dM dQ dR dS dT dU dV dW dX dY dZ k0 k1 k2 k3 k4 w R
theorem qq105.l1_eq {n:Nat}:qq105.l1 (n+1) yg2 y6 y7 Y23 yn23 yc23 y24 y25 d0 d1 d3 d4 d5 d8 d9 dA dB dC dD dE dF dG dH dI dJ dK dL dM dQ dR dS dT dU dV dW dX dY dZ k0 k1 k2 k3 k4 w R =
((if decide (y25 < y24)=true then
(∃ a1:Addr,Y23=some a1∧(0≤y25∧y25 < (yn23:Int))∧
(∃ x2 x3:Int,(2=2∧At w (a1.add (y25.toNat * 2)) [I D x2,I H x3])∧
(Let (w.heap.size) fun g4:Nat=>
 Let (w.alloc (.cells #[I D 0,I H 0] 65)) fun w5:W=>
 May w5 ⟨g4,0,N⟩ 2∧
(Let (putCells w5 ⟨g4,0,N⟩ [I D x2,I H x3] 0) fun w6:W=>
 ∃ x7 x8 x9 x10 x11:Int,(5=5∧At w6 ⟨yg2,0,N⟩ [I D x7,I D x8,I B x9,I H x10,I H x11])∧
(∃ x12 x13:Int,(2=2∧At w6 ⟨g4,0,N⟩ [I D x12,I H x13])∧
(Calls Tryz.prog 38 #[G #[I D x7,I D x8,I B x9,I H x10,I H x11],G #[I D x12,I H x13]] w6 (fun (e15:Ending) (w14:W)=>
 ∃ x16:Int,e15=.returned (I Q x16)∧
((if decide (x16 > y7)=true then
(Let (L.wrap (y25+1)) fun x17:Int=>
 Let (L.wrap (y25+1)) fun x18:Int=>
 qq105.l1 n yg2 x17 x16 Y23 yn23 yc23 y24 x18 d0 d1 d3 d4 d5 (I L y25) (P (some ⟨g4,0,N⟩)) (I Q x16) dB dC dD dE dF dG dH dI dJ dK dL dM (T (decide (y25 < y24))) (I L y25) (P (some (a1.add (y25.toNat * 2)))) (G #[I D x2,I H x3]) (G #[I D x7,I D x8,I B x9,I H x10,I H x11]) (G #[I D x12,I H x13]) (I Q x16) (I Q x16) (I Q y7) (T (decide (x16 > y7))) (I L y25) (I L x17) (I Q x16) (I L x18) k4 w14 R)
else
(Let (L.wrap (y25+1)) fun x19:Int=>
 qq105.l1 n yg2 y6 y7 Y23 yn23 yc23 y24 x19 d0 d1 d3 d4 d5 (I L y25) (P (some ⟨g4,0,N⟩)) (I Q x16) dB dC dD dE dF dG dH dI dJ dK dL dM (T (decide (y25 < y24))) (I L y25) (P (some (a1.add (y25.toNat * 2)))) (G #[I D x2,I H x3]) (G #[I D x7,I D x8,I B x9,I H x10,I H x11]) (G #[I D x12,I H x13]) (I Q x16) (I Q x16) (I Q y7) (T (decide (x16 > y7))) k0 k1 k2 (I L x19) k4 w14 R))))))))))
else
(R (.returned (.tuple #[I L y6,I L 0])) w))):=by kernel_rfl
def qq105.s (i0_0 i0_1 i0_2 i0_3 i0_4:Int) (I1:Option Addr) (in1 ic1:Nat) (w:W) (R:E):Prop:=
(Let (w.heap.size) fun g1:Nat=>
 Let (w.alloc (.cells #[I D i0_0,I D i0_1,I B i0_2,I H i0_3,I H i0_4] 39)) fun w2:W=>
(if decide ((in1:Int) > 256)=true then
(R (.returned (.tuple #[I L 0,I L 2])) w2)
else
((if ((in1:Int) == 0)=true then
(R (.returned (.tuple #[I L 0,I L 232])) w2)
else
(∃ S3:W→Prop,S3 w2.drew∧
(Let (w2.drew) fun w4:W=>
 ∃ x5 x6 x7 x8 x9:Int,(5=5∧(∀ w',S3 w'→At w' ⟨g1,0,N⟩ [I D x5,I D x6,I B x7,I H x8,I H x9]))∧
(∃ a10:Addr,I1=some a10∧(0≤(0:Int)∧(0:Int) < (in1:Int))∧
(∃ x11 x12:Int,(2=2∧(∀ w',S3 w'→At w' a10 [I D x11,I H x12]))∧
(Calls Tryz.prog 38 #[G #[I D x5,I D x6,I B x7,I H x8,I H x9],G #[I D x11,I H x12]] w4 (fun (e14:Ending) (w13:W)=>
 ∃ x15:Int,e14=.returned (I Q x15)∧
(S3 w13∧
((0≤(1:Int)∧(1:Int)≤(in1:Int))∧
(∃ n16:Nat,qq105.l1 n16 g1 0 x15 (cutA I1 1 ic1 2) (in1-1) (ic1-1) (((in1-1):Nat):Int) 0 (G #[I D i0_0,I D i0_1,I B i0_2,I H i0_3,I H i0_4]) (S I1 in1 ic1) U (I L 0) (I L 0) U U U (S I1 in1 ic1) (I L (in1:Int)) (T (decide ((in1:Int) > 256))) (S I1 in1 ic1) (I L (in1:Int)) (T ((in1:Int) == 0)) (G #[I D x5,I D x6,I B x7,I H x8,I H x9]) (S I1 in1 ic1) (P (some a10)) (G #[I D x11,I H x12]) (I Q x15) (S I1 in1 ic1) U U U U U U U U U U U U U U U w13 R)))))))))))))
theorem qq105.run (h:qq105.s i0_0 i0_1 i0_2 i0_3 i0_4 I1 in1 ic1 w R):Calls Tryz.prog 20 #[G #[I D i0_0,I D i0_1,I B i0_2,I H i0_3,I H i0_4],S I1 in1 ic1] w R:=
 calls_segk (ords:=qq105.ords) (J:=qq105.joins) ents mixed Tryz.func20 rfl h (by kernel_rfl)
def qq90.ords:Nat→Od
 | _=>.nil
def qq90.joins (p:List Nat):Bool:=false
def qq90.s (i0_0 i0_1 i0_2 i0_3 i0_4 i1_0 i1_1:Int) (w:W) (R:E):Prop:=
(Let (w.heap.size) fun g1:Nat=>
 Let (w.alloc (.cells #[I D i0_0,I D i0_1,I B i0_2,I H i0_3,I H i0_4] 39)) fun w2:W=>
 Let (w2.heap.size) fun g3:Nat=>
 Let (w2.alloc (.cells #[I D i1_0,I H i1_1] 65)) fun w4:W=>
 ∃ x5:Int,w4.cell? ⟨g1,0,N⟩=some (I D x5)∧
(Calls Tryz.prog 74 #[I Q 14695981039346656037,I D x5,I L 4] w4 (fun (e7:Ending) (w6:W)=>
 ∃ x8:Int,e7=.returned (I Q x8)∧
(∃ x9:Int,w6.cell? ⟨g1,1,N⟩=some (I D x9)∧
(Calls Tryz.prog 74 #[I Q x8,I D x9,I L 4] w6 (fun (e11:Ending) (w10:W)=>
 ∃ x12:Int,e11=.returned (I Q x12)∧
(∃ x13:Int,w10.cell? ⟨g1,2,N⟩=some (I B x13)∧
(Let (D.wrap x13) fun x14:Int=>
 Calls Tryz.prog 74 #[I Q x12,I D x14,I L 1] w10 (fun (e16:Ending) (w15:W)=>
 ∃ x17:Int,e16=.returned (I Q x17)∧
(∃ x18:Int,w15.cell? ⟨g1,3,N⟩=some (I H x18)∧
(Let (D.wrap x18) fun x19:Int=>
 Calls Tryz.prog 74 #[I Q x17,I D x19,I L 2] w15 (fun (e21:Ending) (w20:W)=>
 ∃ x22:Int,e21=.returned (I Q x22)∧
(∃ x23:Int,w20.cell? ⟨g1,4,N⟩=some (I H x23)∧
(Let (D.wrap x23) fun x24:Int=>
 Calls Tryz.prog 74 #[I Q x22,I D x24,I L 2] w20 (fun (e26:Ending) (w25:W)=>
 ∃ x27:Int,e26=.returned (I Q x27)∧
(∃ x28:Int,w25.cell? ⟨g3,0,N⟩=some (I D x28)∧
(Calls Tryz.prog 74 #[I Q x27,I D x28,I L 4] w25 (fun (e30:Ending) (w29:W)=>
 ∃ x31:Int,e30=.returned (I Q x31)∧
(∃ x32:Int,w29.cell? ⟨g3,1,N⟩=some (I H x32)∧
(Let (D.wrap x32) fun x33:Int=>
 Calls Tryz.prog 74 #[I Q x31,I D x33,I L 2] w29 (fun (e35:Ending) (w34:W)=>
 ∃ x36:Int,e35=.returned (I Q x36)∧
(Let (Int.fdiv x36 4294967296) fun x37:Int=>
 Let (Go.bits .xor .u64 x36 x37) fun x38:Int=>
 Let (Q.wrap (x38 * 11400714819323198485)) fun x39:Int=>
 Let (Int.fdiv x39 536870912) fun x40:Int=>
 Let (Go.bits .xor .u64 x39 x40) fun x41:Int=>
 R (.returned (I Q x41)) w34))))))))))))))))))))))
theorem qq90.run (h:qq90.s i0_0 i0_1 i0_2 i0_3 i0_4 i1_0 i1_1 w R):Calls Tryz.prog 38 #[G #[I D i0_0,I D i0_1,I B i0_2,I H i0_3,I H i0_4],G #[I D i1_0,I H i1_1]] w R:=
 calls_segk (ords:=qq90.ords) (J:=qq90.joins) ents mixed Tryz.func38 rfl h (by kernel_rfl)
def qq97.ords:Nat→Od
 | _=>.nil
def qq97.joins (p:List Nat):Bool:=false
def qq97.l1 (n:Nat) (y0 y1 y7:Int) (d2 d3 d4 d5 d6 d8 d9 dA dB dC dD dE dF dG dH dI dJ dK dL dM dN:V) (w:W) (R:E):Prop:=
 lseg Tryz.prog entE qq97.ords qq97.joins Tryz.f74 [1,0,1,0] [0,1,0,1] [] n [I Q y0,I D y1,d2,d3,d4,d5,d6,I L y7,d8,d9,dA,dB,dC,dD,dE,dF,dG,dH,dI,dJ,dK,dL,dM,dN] w R
abbrev qq97.L1 (n:Nat) (y0 y1 y7:Int) (w:W) (R:E):Prop:=∀ d2 d3 d4 d5 d6 d8 d9 dA dB dC dD dE dF dG dH dI dJ dK dL dM dN,qq97.l1 n y0 y1 y7 d2 d3 d4 d5 d6 d8 d9 dA dB dC dD dE dF dG dH dI dJ dK dL dM dN w R
theorem qq97.l1_eq {n:Nat}:qq97.l1 (n+1) y0 y1 y7 d2 d3 d4 d5 d6 d8 d9 dA dB dC dD dE dF dG dH dI dJ dK dL dM dN w R =
((if decide (y7 ≥ 0)=true then
(Let (L.wrap (8 * y7)) fun x1:Int=>
 0≤x1∧
(Let (Int.fdiv y1 ((2:Int) ^ (min x1.toNat 32))) fun x2:Int=>
 Let (Go.bits .and .u32 x2 255) fun x3:Int=>
 Let (Q.wrap x3) fun x4:Int=>
 Let (Go.bits .xor .u64 y0 x4) fun x5:Int=>
 Let (Q.wrap (x5 * 1099511628211)) fun x6:Int=>
 Let (L.wrap (y7-1)) fun x7:Int=>
 qq97.l1 n x6 y1 x7 d2 d3 d4 d5 d6 d8 d9 (I L y7) (T (decide (y7 ≥ 0))) (I L y7) (I L x7) (I Q y0) (I D y1) (I L y7) (I L x1) (I D x2) (I D x3) (I Q x4) (I Q x5) (I Q x6) dN w R))
else
(R (.returned (I Q y0)) w))):=by kernel_rfl
def qq97.s (i0 i1 i2:Int) (w:W) (R:E):Prop:=
(Let (L.wrap (i2-1)) fun x1:Int=>
 ∃ n2:Nat,qq97.l1 n2 i0 i1 x1 (I L i2) U U U (I Q 0) (I L i2) (I L x1) U U U U U U U U U U U U U U w R)
theorem qq97.run (h:qq97.s i0 i1 i2 w R):Calls Tryz.prog 74 #[I Q i0,I D i1,I L i2] w R:=
 calls_segk (ords:=qq97.ords) (J:=qq97.joins) ents mixed Tryz.func74 rfl h (by kernel_rfl)
end Go.Proofs.YtphbdmafchjjeaaGreatDoorS
