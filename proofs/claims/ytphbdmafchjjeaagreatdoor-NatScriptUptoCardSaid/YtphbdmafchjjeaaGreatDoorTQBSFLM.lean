import Derived.Test.YtphbdmafchjjeaaGreatDoorTQBSPureM
import Derived.Test.YtphbdmafchjjeaaGreatDoorTQBSNatFM
import Derived.Test.YtphbdmafchjjeaaGreatDoorTQBSNatI
namespace Go.Proofs.YtphbdmafchjjeaaGreatDoorS
open Go Go.Proofs
open Go renaming undef → U, World → W, Value → V
open Go.Value renaming int → I, slice → S, bool → T, pointer → P, agg → G
open Go.IntKind renaming u8 → B, u16 → H, u32 → D, u64 → Q, i64 → L
open Option renaming none → N
set_option autoImplicit true
set_option relaxedAutoImplicit true
set_option maxRecDepth 100000
set_option linter.unusedVariables false
def qq58.ords:Nat→Od
 | 6=>(.tk 0 (.tk 1 (.tk 2 (.tk 3 (.tk 4 (.tk 5 (.tk 6 (.tk 7 (.tk 8 .nil)))))))))
 | _=>.nil
def qq58.joins (p:List Nat):Bool:=false
def qq58.l1 (n:Nat) (Y0:Option Addr) (yn0 yc0:Nat) (Y1:Option Addr) (yn1 yc1:Nat) (y5:Int) (d2 d3 d4 d6 d7 d8 d9 dA dB dC dD dE dF dG dH dI dJ dK dL dM dN dO dP:V) (w:W) (R:E):Prop:=
 lseg Tryz.prog entE qq58.ords qq58.joins Tryz.f19 [1,1,0,1,0] [0,1,0,1,1] [] n [S Y0 yn0 yc0,S Y1 yn1 yc1,d2,d3,d4,I L y5,d6,d7,d8,d9,dA,dB,dC,dD,dE,dF,dG,dH,dI,dJ,dK,dL,dM,dN,dO,dP] w R
abbrev qq58.L1 (n:Nat) (Y0:Option Addr) (yn0 yc0:Nat) (Y1:Option Addr) (yn1 yc1:Nat) (y5:Int) (w:W) (R:E):Prop:=∀ d2 d3 d4 d6 d7 d8 d9 dA dB dC dD dE dF dG dH dI dJ dK dL dM dN dO dP,qq58.l1 n Y0 yn0 yc0 Y1 yn1 yc1 y5 d2 d3 d4 d6 d7 d8 d9 dA dB dC dD dE dF dG dH dI dJ dK dL dM dN dO dP w R
theorem qq58.l1_eq {n:Nat}:qq58.l1 (n+1) Y0 yn0 yc0 Y1 yn1 yc1 y5 d2 d3 d4 d6 d7 d8 d9 dA dB dC dD dE dF dG dH dI dJ dK dL dM dN dO dP w R =
((if decide (y5 < (yn0:Int))=true then
(∃ S1:W→Prop,S1 w.drew∧
(Let (w.drew) fun w2:W=>
 ∃ a3:Addr,Y0=some a3∧(0≤y5∧y5 < (yn0:Int))∧
(∃ x4:Int,(∀ w',S1 w'→w'.cell? (a3.add y5.toNat)=some (I B x4))∧
(∃ a5:Addr,Y1=some a5∧(0≤y5∧y5 < (yn1:Int))∧
(∃ x6:Int,(∀ w',S1 w'→w'.cell? (a5.add y5.toNat)=some (I B x6))∧
((if (x4 != x6)=true then
(R (.returned (T false)) w2)
else
(Let (L.wrap (y5+1)) fun x7:Int=>
 qq58.l1 n Y0 yn0 yc0 Y1 yn1 yc1 x7 d2 d3 d4 d6 d7 d8 d9 dA (I L y5) (S Y0 yn0 yc0) (I L (yn0:Int)) (T (decide (y5 < (yn0:Int)))) (I L y5) (I L x7) (S Y0 yn0 yc0) (I L y5) (P (some (a3.add y5.toNat))) (I B x4) (S Y1 yn1 yc1) (I L y5) (P (some (a5.add y5.toNat))) (I B x6) (T (x4 != x6)) w2 R))))))))
else
(R (.returned (T true)) w))):=by kernel_rfl
def qq58.s (I0:Option Addr) (in0 ic0:Nat) (I1:Option Addr) (in1 ic1:Nat) (w:W) (R:E):Prop:=
((if ((in0:Int) != (in1:Int))=true then
(R (.returned (T false)) w)
else
(∃ n1:Nat,qq58.l1 n1 I0 in0 ic0 I1 in1 ic1 0 U U (T false) (S I0 in0 ic0) (I L (in0:Int)) (S I1 in1 ic1) (I L (in1:Int)) (T ((in0:Int) != (in1:Int))) U U U U U U U U U U U U U U U w R)))
theorem qq58.run (h:qq58.s I0 in0 ic0 I1 in1 ic1 w R):Calls Tryz.prog 19 #[S I0 in0 ic0,S I1 in1 ic1] w R:=
 calls_segk (ords:=qq58.ords) (J:=qq58.joins) ents mixed Tryz.func19 rfl h (by kernel_rfl)
def qq9.ords:Nat→Od
 | _=>.nil
def qq9.joins (p:List Nat):Bool:=false
def qq9.s (w:W) (R:E):Prop:=
(Let (w.heap.size) fun g1:Nat=>
 Let (w.alloc (.cells #[I B 0,I H 0,T false,T false,I L 0,I B 0,I B 0,I D 0,I D 0,S N 0 0,S N 0 0] 37)) fun w2:W=>
 Let (w2.heap.size) fun g3:Nat=>
 Let (w2.alloc (.cells #[I B 15,I B 160,I B 0,I B 80,I B 0,I B 10,I B 114,I B 25,I B 104,I B 105] 5)) fun w4:W=>
 May w4 ⟨g1,0,N⟩ 11∧
(Let (putCells w4 ⟨g1,0,N⟩ [I B 0,I H 3,T false,T false,I L 0,I B 64,I B 17,I D 168100098,I D 174063617,S N 0 0,S (some ⟨g3,0,N⟩) 10 10] 0) fun w5:W=>
 ∃ x6 x7:Int,∃ b8 b9:Bool,∃ x10 x11 x12 x13 x14:Int,∃ (A15:Option Addr) (n15_ c15_:Nat),∃ (A16:Option Addr) (n16_ c16_:Nat),(11=11∧At w5 ⟨g1,0,N⟩ [I B x6,I H x7,T b8,T b9,I L x10,I B x11,I B x12,I D x13,I D x14,S A15 n15_ c15_,S A16 n16_ c16_])∧
(R (.returned (G #[I B x6,I H x7,T b8,T b9,I L x10,I B x11,I B x12,I D x13,I D x14,S A15 n15_ c15_,S A16 n16_ c16_])) w5)))
theorem qq9.run (h:qq9.s  w R):Calls Tryz.prog 17 #[] w R:=
 calls_segk (ords:=qq9.ords) (J:=qq9.joins) ents mixed Tryz.func17 rfl h (by kernel_rfl)
def qq14.ords:Nat→Od
 | _=>.nil
def qq14.joins (p:List Nat):Bool:=false
def qq14.s (w:W) (R:E):Prop:=
(Let (w.heap.size) fun g1:Nat=>
 Let (w.alloc (.cells #[I D 0,I D 0,I B 0,I H 0,I H 0] 39)) fun w2:W=>
 May w2 ⟨g1,0,N⟩ 5∧
(Let (putCells w2 ⟨g1,0,N⟩ [I D 168100098,I D 168100354,I B 17,I H 4000,I H 8080] 0) fun w3:W=>
 ∃ x4 x5 x6 x7 x8:Int,(5=5∧At w3 ⟨g1,0,N⟩ [I D x4,I D x5,I B x6,I H x7,I H x8])∧
(R (.returned (G #[I D x4,I D x5,I B x6,I H x7,I H x8])) w3)))
theorem qq14.run (h:qq14.s  w R):Calls Tryz.prog 18 #[] w R:=
 calls_segk (ords:=qq14.ords) (J:=qq14.joins) ents mixed Tryz.func18 rfl h (by kernel_rfl)
def qq38.ords:Nat→Od
 | _=>.nil
def qq38.joins (p:List Nat):Bool:=p == [1,1,1] || p == [1,1,1,1,1,1,1]
def qq38.j1 (d0 d1 d2 d3 d4 d5 d6 d7 d8 d9 dA dB dC dD dE dF dG dH dI dJ dK dL dM dN dO dP dQ dR dS dT dU dV dW dX dY dZ k0 k1 k2 k3 k4 k5 k6 k7 k8 k9 kA kB kC kD kE kF kG kH kI kJ kK kL kM kN kO kP kQ kR kS kT kU kV kW kX kY kZ v0 v1 v2 v3 v4 v5 v6 v7 v8 v9 vA vB vC vD vE vF vG vH vI vJ vK vL vM vN vO vP vQ vR vS vT vU vV vW vX:V) (w:W) (R:E):Prop:=
 seg Tryz.prog entE qq38.ords qq38.joins Tryz.f6 [1,1,1] [1,1,1] [] [d0,d1,d2,d3,d4,d5,d6,d7,d8,d9,dA,dB,dC,dD,dE,dF,dG,dH,dI,dJ,dK,dL,dM,dN,dO,dP,dQ,dR,dS,dT,dU,dV,dW,dX,dY,dZ,k0,k1,k2,k3,k4,k5,k6,k7,k8,k9,kA,kB,kC,kD,kE,kF,kG,kH,kI,kJ,kK,kL,kM,kN,kO,kP,kQ,kR,kS,kT,kU,kV,kW,kX,kY,kZ,v0,v1,v2,v3,v4,v5,v6,v7,v8,v9,vA,vB,vC,vD,vE,vF,vG,vH,vI,vJ,vK,vL,vM,vN,vO,vP,vQ,vR,vS,vT,vU,vV,vW,vX] w R
def qq38.j2 (y6:Option Addr) (d0 d1 d2 d3 d4 d5 d7 d8 d9 dA dB dC dD dE dF dG dH dI dJ dK dL dM dN dO dP dQ dR dS dT dU dV dW dX dY dZ k0 k1 k2 k3 k4 k5 k6 k7 k8 k9 kA kB kC kD kE kF kG kH kI kJ kK kL kM kN kO kP kQ kR kS kT kU kV kW kX kY kZ v0 v1 v2 v3 v4 v5 v6 v7 v8 v9 vA vB vC vD vE vF vG vH vI vJ vK vL vM vN vO vP vQ vR vS vT vU vV vW vX:V) (w:W) (R:E):Prop:=
 seg Tryz.prog entE qq38.ords qq38.joins Tryz.f6 [1,1,1,1,1,1,1] [1,1,1,1,1,1,1] [] [d0,d1,d2,d3,d4,d5,P y6,d7,d8,d9,dA,dB,dC,dD,dE,dF,dG,dH,dI,dJ,dK,dL,dM,dN,dO,dP,dQ,dR,dS,dT,dU,dV,dW,dX,dY,dZ,k0,k1,k2,k3,k4,k5,k6,k7,k8,k9,kA,kB,kC,kD,kE,kF,kG,kH,kI,kJ,kK,kL,kM,kN,kO,kP,kQ,kR,kS,kT,kU,kV,kW,kX,kY,kZ,v0,v1,v2,v3,v4,v5,v6,v7,v8,v9,vA,vB,vC,vD,vE,vF,vG,vH,vI,vJ,vK,vL,vM,vN,vO,vP,vQ,vR,vS,vT,vU,vV,vW,vX] w R
abbrev qq38.J1 (w:W) (R:E):Prop:=∀ d0 d1 d2 d3 d4 d5 d6 d7 d8 d9 dA dB dC dD dE dF dG dH dI dJ dK dL dM dN dO dP dQ dR dS dT dU dV dW dX dY dZ k0 k1 k2 k3 k4 k5 k6 k7 k8 k9 kA kB kC kD kE kF kG kH kI kJ kK kL kM kN kO kP kQ kR kS kT kU kV kW kX kY kZ v0 v1 v2 v3 v4 v5 v6 v7 v8 v9 vA vB vC vD vE vF vG vH vI vJ vK vL vM vN vO vP vQ vR vS vT vU vV vW vX,qq38.j1 d0 d1 d2 d3 d4 d5 d6 d7 d8 d9 dA dB dC dD dE dF dG dH dI dJ dK dL dM dN dO dP dQ dR dS dT dU dV dW dX dY dZ k0 k1 k2 k3 k4 k5 k6 k7 k8 k9 kA kB kC kD kE kF kG kH kI kJ kK kL kM kN kO kP kQ kR kS kT kU kV kW kX kY kZ v0 v1 v2 v3 v4 v5 v6 v7 v8 v9 vA vB vC vD vE vF vG vH vI vJ vK vL vM vN vO vP vQ vR vS vT vU vV vW vX w R
abbrev qq38.J2 (y6:Option Addr) (w:W) (R:E):Prop:=∀ d0 d1 d2 d3 d4 d5 d7 d8 d9 dA dB dC dD dE dF dG dH dI dJ dK dL dM dN dO dP dQ dR dS dT dU dV dW dX dY dZ k0 k1 k2 k3 k4 k5 k6 k7 k8 k9 kA kB kC kD kE kF kG kH kI kJ kK kL kM kN kO kP kQ kR kS kT kU kV kW kX kY kZ v0 v1 v2 v3 v4 v5 v6 v7 v8 v9 vA vB vC vD vE vF vG vH vI vJ vK vL vM vN vO vP vQ vR vS vT vU vV vW vX,qq38.j2 y6 d0 d1 d2 d3 d4 d5 d7 d8 d9 dA dB dC dD dE dF dG dH dI dJ dK dL dM dN dO dP dQ dR dS dT dU dV dW dX dY dZ k0 k1 k2 k3 k4 k5 k6 k7 k8 k9 kA kB kC kD kE kF kG kH kI kJ kK kL kM kN kO kP kQ kR kS kT kU kV kW kX kY kZ v0 v1 v2 v3 v4 v5 v6 v7 v8 v9 vA vB vC vD vE vF vG vH vI vJ vK vL vM vN vO vP vQ vR vS vT vU vV vW vX w R
theorem qq38.j1_eq:qq38.j1 d0 d1 d2 d3 d4 d5 d6 d7 d8 d9 dA dB dC dD dE dF dG dH dI dJ dK dL dM dN dO dP dQ dR dS dT dU dV dW dX dY dZ k0 k1 k2 k3 k4 k5 k6 k7 k8 k9 kA kB kC kD kE kF kG kH kI kJ kK kL kM kN kO kP kQ kR kS kT kU kV kW kX kY kZ v0 v1 v2 v3 v4 v5 v6 v7 v8 v9 vA vB vC vD vE vF vG vH vI vJ vK vL vM vN vO vP vQ vR vS vT vU vV vW vX w R =
(Let (w.heap.size) fun g1:Nat=>
 Let (w.alloc (.cells #[I D 168100354,I H 8080,I D 168100355,I H 8080,I D 168100610,I H 8080] 65)) fun w2:W=>
 Calls Tryz.prog 20 #[G #[I D 168100098,I D 174063617,I B 17,I H 4000,I H 80],S (some ⟨g1,0,N⟩) 3 3] w2 (fun (e4:Ending) (w3:W)=>
 ∃ x5 x6:Int,e4=.returned (.tuple #[I L x5,I L x6])∧
(Calls Tryz.prog 14 #[I H 5,I H 6] w3 (fun (e8:Ending) (w7:W)=>
 ∃ p9:Option Addr,∃ x10:Int,e8=.returned (.tuple #[P p9,I L x10])∧
((if (x6 != 0)=true then
(R (.returned (T false)) w7)
else
((if (x5 != 2)=true then
(R (.returned (T false)) w7)
else
((if p9.isNone=true then
(R (.returned (T false)) w7)
else
((if (x10 != 0)=true then
(R (.returned (T false)) w7)
else
(Leaf (qq38.j2 p9 d0 d1 d2 (S (some ⟨g1,0,N⟩) 3 3) (I L x5) (I L x6) (I L x10) d8 d9 dA dB dC dD dE dF dG dH dI dJ dK dL dM dN dO dP dQ dR dS dT dU dV dW dX dY (G #[I D 168100354,I H 8080]) (G #[I D 168100355,I H 8080]) (G #[I D 168100610,I H 8080]) (S (some ⟨g1,0,N⟩) 3 3) (.tuple #[I L x5,I L x6]) (G #[I D 168100098,I D 174063617,I B 17,I H 4000,I H 80]) (S (some ⟨g1,0,N⟩) 3 3) (.tuple #[I L x5,I L x6]) (I L x5) (I L x6) (.tuple #[P p9,I L x10]) (.tuple #[P p9,I L x10]) (P p9) (I L x10) (I L x6) (T (x6 != 0)) (T false) (I L x5) (T (x5 != 2)) (T (x5 != 2)) (T false) (P p9) (T p9.isNone) (T p9.isNone) (T false) (I L x10) (T (x10 != 0)) (T (x10 != 0)) kR kS kT kU kV kW kX kY kZ v0 v1 v2 v3 v4 v5 v6 v7 v8 v9 vA vB vC vD vE vF vG vH vI vJ vK vL vM vN vO vP vQ vR vS vT vU vV vW vX w7 R)))))))))))))):=by kernel_rfl
theorem qq38.j2_eq:qq38.j2 y6 d0 d1 d2 d3 d4 d5 d7 d8 d9 dA dB dC dD dE dF dG dH dI dJ dK dL dM dN dO dP dQ dR dS dT dU dV dW dX dY dZ k0 k1 k2 k3 k4 k5 k6 k7 k8 k9 kA kB kC kD kE kF kG kH kI kJ kK kL kM kN kO kP kQ kR kS kT kU kV kW kX kY kZ v0 v1 v2 v3 v4 v5 v6 v7 v8 v9 vA vB vC vD vE vF vG vH vI vJ vK vL vM vN vO vP vQ vR vS vT vU vV vW vX w R =
(Calls Tryz.prog 21 #[P y6,I B 17,I H 6] w (fun (e2:Ending) (w1:W)=>
 ∃ x3 x4:Int,e2=.returned (.tuple #[I H x3,I L x4])∧
(Calls Tryz.prog 21 #[P y6,I B 17,I H 6] w1 (fun (e6:Ending) (w5:W)=>
 ∃ x7 x8:Int,e6=.returned (.tuple #[I H x7,I L x8])∧
(Calls Tryz.prog 21 #[P y6,I B 17,I H 6] w5 (fun (e10:Ending) (w9:W)=>
 ∃ x11 x12:Int,e10=.returned (.tuple #[I H x11,I L x12])∧
((if (x3 == 6)=true then
((if (x4 == 0)=true then
((if (x7 == 5)=true then
((if (x8 == 0)=true then
((if (x12 == 231)=true then
(Calls Tryz.prog 22 #[P y6,I B 17] w9 (fun (e14:Ending) (w13:W)=>
 ∃ x15:Int,e14=.returned (I L x15)∧
((if (x15 == 2)=true then
(Calls Tryz.prog 22 #[P y6,I B 6] w13 (fun (e17:Ending) (w16:W)=>
 ∃ x18:Int,e17=.returned (I L x18)∧
(R (.returned (T (x18 == 0))) w16)))
else
(R (.returned (T false)) w13)))))
else
(R (.returned (T false)) w9)))
else
(R (.returned (T false)) w9)))
else
(R (.returned (T false)) w9)))
else
(R (.returned (T false)) w9)))
else
(R (.returned (T false)) w9))))))))):=by kernel_rfl
def qq38.s (w:W) (R:E):Prop:=
(Calls Tryz.prog 17 #[] w (fun (e2:Ending) (w1:W)=>
 ∃ x3 x4:Int,∃ b5 b6:Bool,∃ x7 x8 x9 x10 x11:Int,∃ (A12:Option Addr) (n12_ c12_:Nat),∃ (A13:Option Addr) (n13_ c13_:Nat),e2=.returned (G #[I B x3,I H x4,T b5,T b6,I L x7,I B x8,I B x9,I D x10,I D x11,S A12 n12_ c12_,S A13 n13_ c13_])∧
(Calls Tryz.prog 18 #[] w1 (fun (e15:Ending) (w14:W)=>
 ∃ x16 x17 x18 x19 x20:Int,e15=.returned (G #[I D x16,I D x17,I B x18,I H x19,I H x20])∧
(Calls Tryz.prog 16 #[G #[I B x3,I H x4,T b5,T b6,I L x7,I B x8,I B x9,I D x10,I D x11,S A12 n12_ c12_,S A13 n13_ c13_],G #[I D x16,I D x17,I B x18,I H x19,I H x20]] w14 (fun (e22:Ending) (w21:W)=>
 ∃ x23 x24:Int,∃ b25 b26:Bool,∃ x27 x28 x29 x30 x31:Int,∃ (A32:Option Addr) (n32_ c32_:Nat),∃ (A33:Option Addr) (n33_ c33_:Nat),∃ x34:Int,e22=.returned (.tuple #[G #[I B x23,I H x24,T b25,T b26,I L x27,I B x28,I B x29,I D x30,I D x31,S A32 n32_ c32_,S A33 n33_ c33_],I L x34])∧
(Let (w21.heap.size) fun g35:Nat=>
 Let (w21.alloc (.cells #[I B 0,I H 0,T false,T false,I L 0,I B 0,I B 0,I D 0,I D 0,S N 0 0,S N 0 0] 37)) fun w36:W=>
 May w36 ⟨g35,0,N⟩ 11∧
(Let (putCells w36 ⟨g35,0,N⟩ [I B x23,I H x24,T b25,T b26,I L x27,I B x28,I B x29,I D x30,I D x31,S A32 n32_ c32_,S A33 n33_ c33_] 0) fun w37:W=>
(if (x34 != 0)=true then
(R (.returned (T false)) w37)
else
(∃ x38:Int,w37.cell? ⟨g35,8,N⟩=some (I D x38)∧
((if (x38 != 168100354)=true then
(R (.returned (T false)) w37)
else
(∃ (A39:Option Addr) (n39_ c39_:Nat),w37.cell? ⟨g35,10,N⟩=some (S A39 n39_ c39_)∧
(Let (w37.heap.size) fun g40:Nat=>
 Let (w37.alloc (.cells #[I B 15,I B 160,I B 31,I B 144,I B 0,I B 10,I B 81,I B 51,I B 104,I B 105] 5)) fun w41:W=>
 Calls Tryz.prog 19 #[S A39 n39_ c39_,S (some ⟨g40,0,N⟩) 10 10] w41 (fun (e43:Ending) (w42:W)=>
 ∃ b44:Bool,e43=.returned (T b44)∧
((if (!b44)=true then
(R (.returned (T false)) w42)
else
(Leaf (qq38.j1 (T false) (P (some ⟨g35,0,N⟩)) (I L x34) U U U U U U U U U U U (.tuple #[G #[I B x23,I H x24,T b25,T b26,I L x27,I B x28,I B x29,I D x30,I D x31,S A32 n32_ c32_,S A33 n33_ c33_],I L x34]) (G #[I B x3,I H x4,T b5,T b6,I L x7,I B x8,I B x9,I D x10,I D x11,S A12 n12_ c12_,S A13 n13_ c13_]) (G #[I D x16,I D x17,I B x18,I H x19,I H x20]) (.tuple #[G #[I B x23,I H x24,T b25,T b26,I L x27,I B x28,I B x29,I D x30,I D x31,S A32 n32_ c32_,S A33 n33_ c33_],I L x34]) (G #[I B x23,I H x24,T b25,T b26,I L x27,I B x28,I B x29,I D x30,I D x31,S A32 n32_ c32_,S A33 n33_ c33_]) (I L x34) (I L x34) (T (x34 != 0)) (T false) (P (some ⟨g35,0,N⟩)) (P (some ⟨g35,8,N⟩)) (I D x38) (T (x38 != 168100354)) (T (x38 != 168100354)) (T false) (P (some ⟨g35,10,N⟩)) (S A39 n39_ c39_) (S (some ⟨g40,0,N⟩) 10 10) (T b44) (T (!b44)) (T (!b44)) U U U U U U U U U U U U U U U U U U U U U U U U U U U U U U U U U U U U U U U U U U U U U U U U U U U U U U U U U U U U U U U U U U U U U U U w42 R)))))))))))))))))))
theorem qq38.run (h:qq38.s  w R):Calls Tryz.prog 6 #[] w R:=
 calls_segk (ords:=qq38.ords) (J:=qq38.joins) ents mixed Tryz.func6 rfl h (by kernel_rfl)
end Go.Proofs.YtphbdmafchjjeaaGreatDoorS
namespace Go.Proofs.YtphbdmafchjjeaaGreatDoorS
open Go Go.RowKit Go.Proofs Go.Proofs.YtphbdmafchjjeaaGreatDoorX
set_option maxRecDepth 100000
set_option linter.unusedVariables false
set_option linter.unusedSectionVars false
set_option linter.unusedSimpArgs false
abbrev Yes (w:World):Ending→World→Prop:=Ret (.bool true) w
theorem nsame_l (w0:World) {A B:Option Addr} {n c d:Nat} {l:List Int} (hA:By w0 A n l) (hB:By w0 B n l) (hn:n≤100000000000000):∀ (q i:Nat) (w:World),n-i < q→i≤n→Bel w0 w→
  qq58.L1 q A n c B n d (i:Int) w (Yes w0):=by
 intro q
 induction q with
 | zero=>intro i w h; omega
 | succ q ih=>
  intro i w hq hi hb
  unfold qq58.L1; intros
  rw [qq58.l1_eq]
  refine ifD (fun h=>?_) (fun h=>⟨rfl,hb⟩)
  refine draws (fun w'=>Bel w0 w') hb.drew fun w2 e2=>?_
  have hb2:Bel w0 w2:=by rw [e2]; exact hb.drew
  refine hA.rdS (fun w' k=>k) (by omega) (by omega) fun _=>?_
  refine hB.rdS (fun w' k=>k) (by omega) (by omega) fun _=>?_
  refine ifN (fun h=>absurd rfl h) (fun _=>?_)
  refine let_as ((i+1:Nat):Int) (by rw [w64 (by omega) (by omega)]; omega) ?_
  apply ih (i+1) w2 (by omega) (by omega) hb2
theorem nsame_t {w:World} {A B:Option Addr} {n c m d:Nat} {l:List Int} (hA:By w A n l) (hB:By w B m l) (hn:n≤100000000000000):Calls Tryz.prog 19 #[.slice A n c,.slice B m d] w (Yes w):=by
 have e:n=m:=hA.len.symm.trans hB.len
 subst e
 refine qq58.run ?_
 unfold qq58.s
 refine ifN (fun h=>absurd rfl h) (fun _=>⟨n+1,?_⟩)
 apply nsame_l w hA hB hn (n+1) 0 w (by omega) (by omega) (Bel.refl w)
def dgP:Pk:=⟨0,3,false,false,0,64,17,168100098,174063617,[],[15,160,0,80,0,10,114,25,104,105]⟩
def svT:Tp:=⟨168100098,168100354,17,4000,8080⟩
theorem byt {l:List Int} (h:l.all (fun x=>decide (0≤x∧x≤255))=true):Bytes l:=fun x hx=>by simpa using List.all_eq_true.1 h x hx
theorem dgP_fine:dgP.Fine:=⟨by decide,by decide,by decide,by decide,by decide,by decide,by decide,byt (by decide),byt (by decide),by decide,by decide⟩
theorem svT_fine:svT.Fine:=⟨by decide,by decide,by decide,by decide,by decide⟩
theorem datagram_c (w:World):Calls Tryz.prog 17 #[] w (fun e w'=>∃ g,e=.returned (.agg (pb dgP none 0 0 (some ⟨g,0,none⟩) 10 10).toArray)∧Own w w' [(g,5,bv dgP.body)]):=by
 refine qq9.run ?_
 unfold qq9.s
 refine own_new (l:=pb pz none 0 0 none 0 0) (Own.refl w) fun g1 w1 H=>?_
 refine own_new (l:=bv dgP.body) H fun g3 w2 H=>?_
 refine put_pkt 1 H rfl rfl fun w3 H _=>?_
 exact ⟨g3,rfl,H.head⟩
theorem service_c (w:World):Calls Tryz.prog 18 #[] w (Ret (.agg (tpv svT).toArray) w):=by
 refine qq14.run ?_
 unfold qq14.s
 refine own_new (l:=tpv tpz) (Own.refl w) fun g1 w1 H=>?_
 refine own_putB 0 H rfl rfl (Nat.le_refl 5) fun w2 H u=>?_
 refine ⟨_,_,_,_,_,⟨rfl,(H.bk 0 rfl).at⟩,?_⟩
 exact ⟨rfl,H.bel⟩
theorem own_lift {w w1 a:World} {L:List Blk} (k:Bel w w1) (h:Own w1 a L):Own w a L:=
 ⟨k.trans h.bel,fun i g t l hi=>⟨(h.own i g t l hi).1,Nat.le_trans k.size (h.own i g t l hi).2⟩,h.one⟩
theorem first_turn:turnE dgP svT=0∧(turnP dgP svT).body=[15,160,31,144,0,10,81,51,104,105]:=by decide +kernel
def fsT:Tp:=⟨168100098,174063617,17,4000,80⟩
def fsB:List (Int×Int):=[(168100354,8080),(168100355,8080),(168100610,8080)]
theorem first_pick:pickI fsT fsB=2∧pickE fsB=0:=by decide +kernel
theorem hasU_nil (q:Int) (n:Nat):hasU [] q n=false:=zl_has n
theorem cntU_nil (q:Int):cntU [] q=0:=rfl
theorem Pts.tab {w0 w:World} {gP gm lo hi:Nat} {us:List Us} {R:List Blk} {cs:List Lst} (P:Pts w0 w gP gm lo hi us R cs) (hT:Tab w0):Tab w:=hT.bel P.of.own.bel
theorem first_j2 {w0 w:World} (hT:Tab w0) {gP gm:Nat} (P:Pts w0 w gP gm 5 6 [] [] []):qq38.J2 (some ⟨gP,0,none⟩) w (Yes w0):=by
 unfold qq38.J2; intros
 rw [qq38.j2_eq]
 refine call_of (Take_c (P.tab hT) P (by decide) (by decide) (by decide) (pr:=17) (want:=6) (by decide) ⟨by decide,by decide⟩) ?_
 rintro e w1 ⟨us1,P1,h1,_⟩
 rcases h1 with ⟨_,h,_⟩ | ⟨n1,rfl,_,_,_,h2,hH1,hC1⟩
 ·
  have:=h 5 (by decide) (by decide)
  rw [hasU_nil] at this
  cases this
 obtain rfl:n1=6:=h2.want (by decide) (by decide) (hasU_nil _ _)
 refine ⟨_,_,rfl,?_⟩
 have c1:cntU us1 17=1:=by rw [hC1,if_pos rfl,cntU_nil]; rfl
 refine call_of (Take_c (P1.tab hT) P1 (by decide) (by decide) (by decide) (pr:=17) (want:=6) (by decide) (by rw [c1]; decide)) ?_
 rintro e w2 ⟨us2,P2,h1,_⟩
 rcases h1 with ⟨_,h,_⟩ | ⟨n2,rfl,h3,h4,h5,_,hH2,hC2⟩
 ·
  have:=h 5 (by decide) (by decide)
  rw [hH1,hasU_nil] at this
  exact absurd this (by decide)
 obtain rfl:n2=5:=by
  by_cases h6:n2=6
  ·
   rw [h6,hH1,hasU_nil] at h5
   exact absurd h5 (by decide)
  ·
   omega
 refine ⟨_,_,rfl,?_⟩
 have c2:cntU us2 17=2:=by rw [hC2,if_pos rfl,c1]; rfl
 refine call_of (Take_c (P2.tab hT) P2 (by decide) (by decide) (by decide) (pr:=17) (want:=6) (by decide) (by rw [c2]; decide)) ?_
 rintro e w3 ⟨us3,P3,h1,_⟩
 obtain ⟨rfl,hC3⟩:e=.returned (.tuple #[.int .u16 0,.int .i64 231])∧∀ q,cntU us3 q=cntU us2 q:=by
  rcases h1 with ⟨h6,_,_,h7⟩ | ⟨n3,_,h3,h4,h5,_⟩
  ·
   exact ⟨h6,h7⟩
  ·
   have:n3=5∨n3=6:=by omega
   rcases this with rfl | rfl
   ·
    rw [hH2,hH1,hasU_nil] at h5
    exact absurd h5 (by decide)
   ·
    rw [hH2,hH1,hasU_nil] at h5
    exact absurd h5 (by decide)
 refine ⟨_,_,rfl,?_⟩
 refine ifE (fun _=>?_) (fun h=>absurd rfl h)
 refine ifE (fun _=>?_) (fun h=>absurd rfl h)
 refine ifE (fun _=>?_) (fun h=>absurd rfl h)
 refine ifE (fun _=>?_) (fun h=>absurd rfl h)
 refine ifE (fun _=>?_) (fun h=>absurd rfl h)
 refine call_of (Taken_c P3 17) ?_
 rintro e w4 ⟨rfl,k4⟩
 refine ⟨_,rfl,?_⟩
 refine ifE (fun _=>?_) (fun h=>absurd ((hC3 17).trans c2) h)
 have P4:=P3.call k4
 refine call_of (Taken_c P4 6) ?_
 rintro e w5 ⟨rfl,k5⟩
 refine ⟨_,rfl,?_⟩
 have c6:cntU us3 6=0:=by rw [hC3,hC2,hC1,cntU_nil]; rfl
 rw [c6]
 exact ⟨rfl,(P4.call k5).of.own.bel⟩
theorem bks_of {w:World} {g:Nat} {t:TypeId} (l:List (Int×Int)) {L:List Value} (hL:L=l.flatMap fun x=>[.int .u32 x.1,.int .u16 x.2]) (h:Bk w g t L):Bks w (some ⟨g,0,none⟩) l.length l:=by
 refine ⟨rfl,fun _=>⟨_,rfl,fun i hi=>?_⟩⟩
 rw [add_blk,Nat.zero_add]
 have key:∀ (l:List (Int×Int)) (i:Nat),i < l.length→∀ j v,([.int .u32 (l.getD i (0,0)).1,.int .u16 (l.getD i (0,0)).2]:List Value)[j]?=some v→(l.flatMap fun x=>[Value.int .u32 x.1,Value.int .u16 x.2])[i * 2+j]?=some v:=by
  intro l
  induction l with
  | nil=>intro i hi; simp at hi
  | cons x l ih=>
   intro i hi j v hv
   cases i with
   | zero=>
    rw [List.flatMap_cons]
    have hj:j < 2:=(List.getElem?_eq_some_iff.1 hv).1
    rw [Nat.zero_mul,Nat.zero_add,List.getElem?_append_left hj]
    exact hv
   | succ i=>
    rw [List.flatMap_cons,List.getElem?_append_right (by simp; omega)]
    have:=ih i (by simpa using hi) j v (by simpa using hv)
    rw [← this]
    congr 1
    simp
    omega
 intro j v hv
 rw [add_blk]
 refine h.cell (i * 2+j) ?_
 rw [hL]
 exact key l i hi j v hv
theorem first_t {w0 w:World} (hT:Tab w0) (hb:Bel w0 w):Calls Tryz.prog 6 #[] w (Yes w0):=by
 refine qq38.run ?_
 unfold qq38.s
 refine call_of (datagram_c w) ?_
 rintro e w1 ⟨g,rfl,H1⟩
 refine ⟨_,_,_,_,_,_,_,_,_,_,_,_,_,_,_,rfl,?_⟩
 refine call_of (service_c w1) ?_
 rintro e w2 ⟨rfl,k2⟩
 refine ⟨_,_,_,_,_,rfl,?_⟩
 have H2:=H1.call k2
 have pa:PkAt w2 dgP none 0 0 (some ⟨g,0,none⟩) 10 10:=⟨By.nil _ _,(H2.bk 0 rfl).by,Nat.le_refl _,Nat.le_refl _⟩
 refine call_of (Turn_c dgP_fine svT_fine pa) ?_
 have e0:turnE dgP svT=0:=first_turn.1
 have e1:turnO dgP svT=turnP dgP svT:=by unfold turnO; rw [if_pos e0]
 rw [e0,e1]
 rintro e w3 ⟨k3,A,n,c,B,m,d,rfl,hp,fA,fB⟩
 refine ⟨_,_,_,_,_,_,_,_,_,_,_,_,_,_,_,_,rfl,?_⟩
 have hb3:Bel w0 w3:=Bel.trans hb (Bel.trans H2.bel k3)
 refine own_mk (pb pz none 0 0 none 0 0) (Own.refl w3) rfl rfl fun g35 w4 H4 k4 _=>?_
 replace hp:=hp.bel k4
 refine ifN (fun h=>absurd rfl h) (fun _=>?_)
 refine ⟨168100354,H4.cell 0 8 rfl rfl,?_⟩
 refine ifN (fun h=>absurd rfl h) (fun _=>?_)
 refine ⟨_,_,_,H4.cell 0 10 rfl rfl,?_⟩
 refine own_newB (l:=bv [15,160,31,144,0,10,81,51,104,105]) H4 fun g40 w5 H5 k5=>?_
 have yb:=hp.body.bel k5
 rw [first_turn.2] at yb
 have ml:=yb.len
 refine call_of (nsame_t yb (H5.bk 0 rfl).by (by rw [← ml]; decide)) ?_
 rintro e w6 ⟨rfl,k6⟩
 refine ⟨_,rfl,?_⟩
 refine ifNot (fun h=>by cases h) (fun _=>?_)
 have hb6:Bel w0 w6:=Bel.trans hb3 (Bel.trans H5.bel k6)
 refine ⟨?_⟩
 have j1:qq38.J1 w6 (Yes w0):=by
  unfold qq38.J1; intros
  rw [qq38.j1_eq]
  refine own_new (l:=fsB.flatMap fun x=>[.int .u32 x.1,.int .u16 x.2]) (Own.refl w6) fun g1 w7 H7=>?_
  refine call_of (Pick_c (t:=fsT) (bks_of fsB rfl (H7.bk 0 rfl)) (Nat.le_refl 3)) ?_
  rintro e w8' ⟨rfl,k8⟩
  refine ⟨_,_,rfl,?_⟩
  refine call_of (New_c w8' (lo:=5) (hi:=6) (by decide) (by decide)) ?_
  rintro e w9 h9
  unfold RetNew at h9
  rw [if_neg (by decide)] at h9
  obtain ⟨gP,gm,rfl,P⟩:=h9
  refine ⟨_,_,rfl,?_⟩
  rw [first_pick.1,first_pick.2]
  refine ifN (fun h=>absurd rfl h) (fun _=>?_)
  refine ifN (fun h=>absurd rfl h) (fun _=>?_)
  refine ifB (fun h=>by cases h) (fun _=>?_)
  refine ifN (fun h=>absurd rfl h) (fun _=>?_)
  have hb8:Bel w0 w8':=Bel.trans hb6 (Bel.trans H7.bel k8)
  have P0:Pts w0 w9 gP gm 5 6 [] [] []:=⟨⟨own_lift hb8 P.of.own,fun x hx=>by cases hx⟩,P.mp,Nat.le_trans hb8.size P.ge,P.bm⟩
  have k:=first_j2 hT P0
  exact ⟨by with_reducible apply k⟩
 exact j1 ..
end Go.Proofs.YtphbdmafchjjeaaGreatDoorS
