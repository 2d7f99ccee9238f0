import Derived.Test.YtphbdmafchjjeaaGreatDoorTQBSPureM
namespace Go.Proofs.YtphbdmafchjjeaaGreatDoorS
open Go Go.Proofs
open Go renaming undef → U, World → W, Value → V
open Go.Value renaming int → I, slice → S, bool → T, pointer → P, agg → G
open Go.IntKind renaming u8 → B, u16 → H, u32 → D, u64 → Q, i64 → L
open Option renaming none → N
set_option autoImplicit true
set_option relaxedAutoImplicit true
set_option maxRecDepth 100000
set_option linter.unusedVariables false
def qq26.ords:Nat→Od
 | _=>.nil
def qq26.joins (p:List Nat):Bool:=false
def qq26.l1 (n:Nat) (Y0:Option Addr) (yn0 yc0:Nat) (Y3:Option Addr) (yn3 yc3:Nat) (y4:Int) (d1 d2 d5 d6 d7 d8 d9 dA dB dC dD dE dF dG dH dI:V) (w:W) (R:E):Prop:=
 lseg Tryz.prog entE qq26.ords qq26.joins Tryz.f33 [1,1,0,1,0] [0,1,0,1,1] [] n [S Y0 yn0 yc0,d1,d2,S Y3 yn3 yc3,I L y4,d5,d6,d7,d8,d9,dA,dB,dC,dD,dE,dF,dG,dH,dI] w R
abbrev qq26.L1 (n:Nat) (Y0:Option Addr) (yn0 yc0:Nat) (Y3:Option Addr) (yn3 yc3:Nat) (y4:Int) (w:W) (R:E):Prop:=∀ d1 d2 d5 d6 d7 d8 d9 dA dB dC dD dE dF dG dH dI,qq26.l1 n Y0 yn0 yc0 Y3 yn3 yc3 y4 d1 d2 d5 d6 d7 d8 d9 dA dB dC dD dE dF dG dH dI w R
theorem qq26.l1_eq {n:Nat}:qq26.l1 (n+1) Y0 yn0 yc0 Y3 yn3 yc3 y4 d1 d2 d5 d6 d7 d8 d9 dA dB dC dD dE dF dG dH dI w R =
((if decide (y4 < (yn0:Int))=true then
(∃ a1:Addr,Y0=some a1∧(0≤y4∧y4 < (yn0:Int))∧
(∃ x2 x3:Int,(2=2∧At w (a1.add (y4.toNat * 2)) [I D x2,I H x3])∧
(Let (w.heap.size) fun g4:Nat=>
 Let (w.alloc (.cells #[I D x2,I H x3] 65)) fun w5:W=>
 AppE w5 2 8 65 [I D 0,I H 0] Y3 yn3 yc3 (some ⟨g4,0,N⟩) 1 (fun (A6:Option Addr) (c7:Nat) (w8:W)=>
 Let (L.wrap (y4+1)) fun x9:Int=>
 qq26.l1 n Y0 yn0 yc0 A6 (yn3+1) c7 x9 d1 d2 (I L y4) (S Y0 yn0 yc0) (I L (yn0:Int)) (T (decide (y4 < (yn0:Int)))) (I L y4) (I L x9) (S Y3 yn3 yc3) (S Y0 yn0 yc0) (I L y4) (P (some (a1.add (y4.toNat * 2)))) (G #[I D x2,I H x3]) (S (some ⟨g4,0,N⟩) 1 1) (S A6 (yn3+1) c7) dI w8 R))))
else
(R (.returned (S Y3 yn3 yc3)) w))):=by kernel_rfl
def qq26.s (I0:Option Addr) (in0 ic0:Nat) (w:W) (R:E):Prop:=
(∃ n1:Nat,qq26.l1 n1 I0 in0 ic0 N 0 0 0 U (S N 0 0) U U U U U U U U U U U U U U w R)
theorem qq26.run (h:qq26.s I0 in0 ic0 w R):Calls Tryz.prog 33 #[S I0 in0 ic0] w R:=
 calls_segk (ords:=qq26.ords) (J:=qq26.joins) ents mixed Tryz.func33 rfl h (by kernel_rfl)
def qq32.ords:Nat→Od
 | _=>.nil
def qq32.joins (p:List Nat):Bool:=false
def qq32.s (i0 i1:Int) (w:W) (R:E):Prop:=
(Let (Int.tmod i0 4294967296) fun x1:Int=>
 Let (Int.tmod i1 4294967296) fun x2:Int=>
 Let (Q.wrap (x1 * x2)) fun x3:Int=>
 Let (Int.tmod i0 4294967296) fun x4:Int=>
 Let (Q.wrap (Int.tdiv i1 4294967296)) fun x5:Int=>
 Let (Q.wrap (x4 * x5)) fun x6:Int=>
 Let (Q.wrap (Int.tdiv i0 4294967296)) fun x7:Int=>
 Let (Int.tmod i1 4294967296) fun x8:Int=>
 Let (Q.wrap (x7 * x8)) fun x9:Int=>
 Let (Q.wrap (x6+x9)) fun x10:Int=>
 Let (Int.tmod x10 4294967296) fun x11:Int=>
 Let (Q.wrap (x11 * 4294967296)) fun x12:Int=>
 Let (Q.wrap (x3+x12)) fun x13:Int=>
 R (.returned (I Q x13)) w)
theorem qq32.run (h:qq32.s i0 i1 w R):Calls Tryz.prog 94 #[I Q i0,I Q i1] w R:=
 calls_segk (ords:=qq32.ords) (J:=qq32.joins) ents mixed Tryz.func94 rfl h (by kernel_rfl)
def qq30.ords:Nat→Od
 | _=>.nil
def qq30.joins (p:List Nat):Bool:=false
def qq30.s (i0_0 i0_1 i0_2 i0_3 i0_4:Int) (w:W) (R:E):Prop:=
(Let (w.heap.size) fun g1:Nat=>
 Let (w.alloc (.cells #[I D i0_0,I D i0_1,I B i0_2,I H i0_3,I H i0_4] 39)) fun w2:W=>
 ∃ x3:Int,w2.cell? ⟨g1,0,N⟩=some (I D x3)∧
(Let (L.wrap x3) fun x4:Int=>
 Let (L.wrap (Int.tdiv x4 65536)) fun x5:Int=>
 ∃ x6:Int,w2.cell? ⟨g1,0,N⟩=some (I D x6)∧
(Let (L.wrap x6) fun x7:Int=>
 Let (Int.tmod x7 65536) fun x8:Int=>
 ∃ x9:Int,w2.cell? ⟨g1,1,N⟩=some (I D x9)∧
(Let (L.wrap x9) fun x10:Int=>
 Let (L.wrap (Int.tdiv x10 65536)) fun x11:Int=>
 ∃ x12:Int,w2.cell? ⟨g1,1,N⟩=some (I D x12)∧
(Let (L.wrap x12) fun x13:Int=>
 Let (Int.tmod x13 65536) fun x14:Int=>
 ∃ x15:Int,w2.cell? ⟨g1,3,N⟩=some (I H x15)∧
(Let (L.wrap x15) fun x16:Int=>
 ∃ x17:Int,w2.cell? ⟨g1,4,N⟩=some (I H x17)∧
(Let (L.wrap x17) fun x18:Int=>
 Let (w2.heap.size) fun g19:Nat=>
 Let (w2.alloc (.cells #[I L x5,I L x8,I L x11,I L x14,I L x16,I L x18] 3)) fun w20:W=>
 R (.returned (S (some ⟨g19,0,N⟩) 6 6)) w20)))))))
theorem qq30.run (h:qq30.s i0_0 i0_1 i0_2 i0_3 i0_4 w R):Calls Tryz.prog 79 #[G #[I D i0_0,I D i0_1,I B i0_2,I H i0_3,I H i0_4]] w R:=
 calls_segk (ords:=qq30.ords) (J:=qq30.joins) ents mixed Tryz.func79 rfl h (by kernel_rfl)
def qq19.ords:Nat→Od
 | 6=>(.tk 0 (.tk 1 (.tk 2 (.tk 3 (.tk 4 (.tk 5 (.tk 6 (.tk 7 (.tk 8 (.tk 9 (.tk 10 (.tk 11 (.tk 12 (.on 13 (.on 14 (.tk 15 .nil))))))))))))))))
 | 8=>(.tk 0 (.tk 1 (.tk 2 (.tk 3 (.tk 4 (.tk 5 (.tk 6 (.tk 7 (.tk 8 (.tk 9 (.tk 10 (.tk 11 (.tk 12 (.tk 13 (.tk 14 (.tk 15 (.tk 16 (.tk 17 (.tk 18 (.tk 19 (.tk 20 (.on 21 (.on 22 (.tk 23 .nil))))))))))))))))))))))))
 | _=>.nil
def qq19.joins (p:List Nat):Bool:=false
def qq19.l1 (n yg2 yg3:Nat) (Y5:Option Addr) (yn5 yc5:Nat) (Y6:Option Addr) (yn6 yc6:Nat) (y7:Int) (d0 d1 d4 d8 d9 dA dB dC dD dE dF dG dH dI dJ dK dL dM dN dO dP dQ dR dS dT dU dV dW dX dY dZ k0 k1 k2 k3 k4 k5 k6 k7 k8 k9 kA kB kC kD kE kF kG kH kI kJ kK kL kM kN kO kP kQ kR kS kT kU kV kW kX kY kZ v0 v1 v2 v3 v4 v5 v6 v7 v8 v9 vA vB vC vD vE vF vG vH vI vJ vK vL vM vN vO vP vQ vR vS vT vU vV vW vX vY vZ o0 o1 o2 o3:V) (w:W) (R:E):Prop:=
 lseg Tryz.prog entE qq19.ords qq19.joins Tryz.f63 [1,1,1,0,1,0] [0,1,0,1,1,1] [] n [d0,d1,P (some ⟨yg2,0,N⟩),P (some ⟨yg3,0,N⟩),d4,S Y5 yn5 yc5,S Y6 yn6 yc6,I L y7,d8,d9,dA,dB,dC,dD,dE,dF,dG,dH,dI,dJ,dK,dL,dM,dN,dO,dP,dQ,dR,dS,dT,dU,dV,dW,dX,dY,dZ,k0,k1,k2,k3,k4,k5,k6,k7,k8,k9,kA,kB,kC,kD,kE,kF,kG,kH,kI,kJ,kK,kL,kM,kN,kO,kP,kQ,kR,kS,kT,kU,kV,kW,kX,kY,kZ,v0,v1,v2,v3,v4,v5,v6,v7,v8,v9,vA,vB,vC,vD,vE,vF,vG,vH,vI,vJ,vK,vL,vM,vN,vO,vP,vQ,vR,vS,vT,vU,vV,vW,vX,vY,vZ,o0,o1,o2,o3] w R
def qq19.l2 (n:Nat) (Y5:Option Addr) (yn5 yc5:Nat) (y8 y9:Int) (d0 d1 d2 d3 d4 d6 d7 dA dB dC dD dE dF dG dH dI dJ dK dL dM dN dO dP dQ dR dS dT dU dV dW dX dY dZ k0 k1 k2 k3 k4 k5 k6 k7 k8 k9 kA kB kC kD kE kF kG kH kI kJ kK kL kM kN kO kP kQ kR kS kT kU kV kW kX kY kZ v0 v1 v2 v3 v4 v5 v6 v7 v8 v9 vA vB vC vD vE vF vG vH vI vJ vK vL vM vN vO vP vQ vR vS vT vU vV vW vX vY vZ o0 o1 o2 o3:V) (w:W) (R:E):Prop:=
 lseg Tryz.prog entE qq19.ords qq19.joins Tryz.f63 [1,1,1,1,1,1,1,1,0,1,0] [0,1,0,1,1,1,1,1,1,1,1] [] n [d0,d1,d2,d3,d4,S Y5 yn5 yc5,d6,d7,I Q y8,I L y9,dA,dB,dC,dD,dE,dF,dG,dH,dI,dJ,dK,dL,dM,dN,dO,dP,dQ,dR,dS,dT,dU,dV,dW,dX,dY,dZ,k0,k1,k2,k3,k4,k5,k6,k7,k8,k9,kA,kB,kC,kD,kE,kF,kG,kH,kI,kJ,kK,kL,kM,kN,kO,kP,kQ,kR,kS,kT,kU,kV,kW,kX,kY,kZ,v0,v1,v2,v3,v4,v5,v6,v7,v8,v9,vA,vB,vC,vD,vE,vF,vG,vH,vI,vJ,vK,vL,vM,vN,vO,vP,vQ,vR,vS,vT,vU,vV,vW,vX,vY,vZ,o0,o1,o2,o3] w R
abbrev qq19.L1 (n yg2 yg3:Nat) (Y5:Option Addr) (yn5 yc5:Nat) (Y6:Option Addr) (yn6 yc6:Nat) (y7:Int) (w:W) (R:E):Prop:=∀ d0 d1 d4 d8 d9 dA dB dC dD dE dF dG dH dI dJ dK dL dM dN dO dP dQ dR dS dT dU dV dW dX dY dZ k0 k1 k2 k3 k4 k5 k6 k7 k8 k9 kA kB kC kD kE kF kG kH kI kJ kK kL kM kN kO kP kQ kR kS kT kU kV kW kX kY kZ v0 v1 v2 v3 v4 v5 v6 v7 v8 v9 vA vB vC vD vE vF vG vH vI vJ vK vL vM vN vO vP vQ vR vS vT vU vV vW vX vY vZ o0 o1 o2 o3,qq19.l1 n yg2 yg3 Y5 yn5 yc5 Y6 yn6 yc6 y7 d0 d1 d4 d8 d9 dA dB dC dD dE dF dG dH dI dJ dK dL dM dN dO dP dQ dR dS dT dU dV dW dX dY dZ k0 k1 k2 k3 k4 k5 k6 k7 k8 k9 kA kB kC kD kE kF kG kH kI kJ kK kL kM kN kO kP kQ kR kS kT kU kV kW kX kY kZ v0 v1 v2 v3 v4 v5 v6 v7 v8 v9 vA vB vC vD vE vF vG vH vI vJ vK vL vM vN vO vP vQ vR vS vT vU vV vW vX vY vZ o0 o1 o2 o3 w R
abbrev qq19.L2 (n:Nat) (Y5:Option Addr) (yn5 yc5:Nat) (y8 y9:Int) (w:W) (R:E):Prop:=∀ d0 d1 d2 d3 d4 d6 d7 dA dB dC dD dE dF dG dH dI dJ dK dL dM dN dO dP dQ dR dS dT dU dV dW dX dY dZ k0 k1 k2 k3 k4 k5 k6 k7 k8 k9 kA kB kC kD kE kF kG kH kI kJ kK kL kM kN kO kP kQ kR kS kT kU kV kW kX kY kZ v0 v1 v2 v3 v4 v5 v6 v7 v8 v9 vA vB vC vD vE vF vG vH vI vJ vK vL vM vN vO vP vQ vR vS vT vU vV vW vX vY vZ o0 o1 o2 o3,qq19.l2 n Y5 yn5 yc5 y8 y9 d0 d1 d2 d3 d4 d6 d7 dA dB dC dD dE dF dG dH dI dJ dK dL dM dN dO dP dQ dR dS dT dU dV dW dX dY dZ k0 k1 k2 k3 k4 k5 k6 k7 k8 k9 kA kB kC kD kE kF kG kH kI kJ kK kL kM kN kO kP kQ kR kS kT kU kV kW kX kY kZ v0 v1 v2 v3 v4 v5 v6 v7 v8 v9 vA vB vC vD vE vF vG vH vI vJ vK vL vM vN vO vP vQ vR vS vT vU vV vW vX vY vZ o0 o1 o2 o3 w R
theorem qq19.l1_eq {n:Nat}:qq19.l1 (n+1) yg2 yg3 Y5 yn5 yc5 Y6 yn6 yc6 y7 d0 d1 d4 d8 d9 dA dB dC dD dE dF dG dH dI dJ dK dL dM dN dO dP dQ dR dS dT dU dV dW dX dY dZ k0 k1 k2 k3 k4 k5 k6 k7 k8 k9 kA kB kC kD kE kF kG kH kI kJ kK kL kM kN kO kP kQ kR kS kT kU kV kW kX kY kZ v0 v1 v2 v3 v4 v5 v6 v7 v8 v9 vA vB vC vD vE vF vG vH vI vJ vK vL vM vN vO vP vQ vR vS vT vU vV vW vX vY vZ o0 o1 o2 o3 w R =
((if decide (y7 < 4)=true then
(∃ S1:W→Prop,S1 w.drew∧
(Let (w.drew) fun w2:W=>
 ∃ a3:Addr,Y6=some a3∧(0≤y7∧y7 < (yn6:Int))∧
(∃ x4:Int,(∀ w',S1 w'→w'.cell? (a3.add y7.toNat)=some (I L x4))∧
(Let (L.wrap (Int.tdiv x4 256)) fun x5:Int=>
 Let (B.wrap x5) fun x6:Int=>
 ∃ a7:Addr,Y6=some a7∧(0≤y7∧y7 < (yn6:Int))∧
(∃ x8:Int,(∀ w',S1 w'→w'.cell? (a7.add y7.toNat)=some (I L x8))∧
(Let (Int.tmod x8 256) fun x9:Int=>
 Let (B.wrap x9) fun x10:Int=>
 Let (w2.heap.size) fun g11:Nat=>
 Let (w2.alloc (.cells #[I B x6,I B x10] 5)) fun w12:W=>
 S1 w12∧
(AppE w12 1 1 5 [I B 0] Y5 yn5 yc5 (some ⟨g11,0,N⟩) 2 (fun (A13:Option Addr) (c14:Nat) (w15:W)=>
 S1 w15∧
(Let (L.wrap (y7+1)) fun x16:Int=>
 qq19.l1 n yg2 yg3 A13 (yn5+2) c14 Y6 yn6 yc6 x16 d0 d1 d4 d8 d9 dA dB (I L y7) (T (decide (y7 < 4))) (I L y7) (I L x16) (S Y5 yn5 yc5) (S Y6 yn6 yc6) (I L y7) (P (some (a3.add y7.toNat))) (I L x4) (I L x5) (I B x6) (S Y6 yn6 yc6) (I L y7) (P (some (a7.add y7.toNat))) (I L x8) (I L x9) (I B x10) (S (some ⟨g11,0,N⟩) 2 2) (S A13 (yn5+2) c14) dV dW dX dY dZ k0 k1 k2 k3 k4 k5 k6 k7 k8 k9 kA kB kC kD kE kF kG kH kI kJ kK kL kM kN kO kP kQ kR kS kT kU kV kW kX kY kZ v0 v1 v2 v3 v4 v5 v6 v7 v8 v9 vA vB vC vD vE vF vG vH vI vJ vK vL vM vN vO vP vQ vR vS vT vU vV vW vX vY vZ o0 o1 o2 o3 w15 R)))))))))
else
(∃ x17:Int,w.cell? ⟨yg2,2,N⟩=some (I B x17)∧
(Let (w.heap.size) fun g18:Nat=>
 Let (w.alloc (.cells #[I B x17] 5)) fun w19:W=>
 AppE w19 1 1 5 [I B 0] Y5 yn5 yc5 (some ⟨g18,0,N⟩) 1 (fun (A20:Option Addr) (c21:Nat) (w22:W)=>
 ∃ S23:W→Prop,S23 w22.drew∧
(Let (w22.drew) fun w24:W=>
 ∃ a25:Addr,Y6=some a25∧(0≤(4:Int)∧(4:Int) < (yn6:Int))∧
(∃ x26:Int,(∀ w',S23 w'→w'.cell? (a25.add 4)=some (I L x26))∧
(Let (L.wrap (Int.tdiv x26 256)) fun x27:Int=>
 Let (B.wrap x27) fun x28:Int=>
 ∃ a29:Addr,Y6=some a29∧(0≤(4:Int)∧(4:Int) < (yn6:Int))∧
(∃ x30:Int,(∀ w',S23 w'→w'.cell? (a29.add 4)=some (I L x30))∧
(Let (Int.tmod x30 256) fun x31:Int=>
 Let (B.wrap x31) fun x32:Int=>
 ∃ a33:Addr,Y6=some a33∧(0≤(5:Int)∧(5:Int) < (yn6:Int))∧
(∃ x34:Int,(∀ w',S23 w'→w'.cell? (a33.add 5)=some (I L x34))∧
(Let (L.wrap (Int.tdiv x34 256)) fun x35:Int=>
 Let (B.wrap x35) fun x36:Int=>
 ∃ a37:Addr,Y6=some a37∧(0≤(5:Int)∧(5:Int) < (yn6:Int))∧
(∃ x38:Int,(∀ w',S23 w'→w'.cell? (a37.add 5)=some (I L x38))∧
(Let (Int.tmod x38 256) fun x39:Int=>
 Let (B.wrap x39) fun x40:Int=>
 Let (w24.heap.size) fun g41:Nat=>
 Let (w24.alloc (.cells #[I B x28,I B x32,I B x36,I B x40] 5)) fun w42:W=>
 S23 w42∧
(AppE w42 1 1 5 [I B 0] A20 (yn5+1) c21 (some ⟨g41,0,N⟩) 4 (fun (A43:Option Addr) (c44:Nat) (w45:W)=>
 S23 w45∧
(∃ x46:Int,w45.cell? ⟨yg3,0,N⟩=some (I D x46)∧
(Let (D.wrap (Int.tdiv x46 16777216)) fun x47:Int=>
 Let (B.wrap x47) fun x48:Int=>
 ∃ x49:Int,w45.cell? ⟨yg3,0,N⟩=some (I D x49)∧
(Let (D.wrap (Int.tdiv x49 65536)) fun x50:Int=>
 Let (Int.tmod x50 256) fun x51:Int=>
 Let (B.wrap x51) fun x52:Int=>
 ∃ x53:Int,w45.cell? ⟨yg3,0,N⟩=some (I D x53)∧
(Let (D.wrap (Int.tdiv x53 256)) fun x54:Int=>
 Let (Int.tmod x54 256) fun x55:Int=>
 Let (B.wrap x55) fun x56:Int=>
 ∃ x57:Int,w45.cell? ⟨yg3,0,N⟩=some (I D x57)∧
(Let (Int.tmod x57 256) fun x58:Int=>
 Let (B.wrap x58) fun x59:Int=>
 ∃ x60:Int,w45.cell? ⟨yg3,1,N⟩=some (I H x60)∧
(Let (H.wrap (Int.tdiv x60 256)) fun x61:Int=>
 Let (B.wrap x61) fun x62:Int=>
 ∃ x63:Int,w45.cell? ⟨yg3,1,N⟩=some (I H x63)∧
(Let (Int.tmod x63 256) fun x64:Int=>
 Let (B.wrap x64) fun x65:Int=>
 Let (w45.heap.size) fun g66:Nat=>
 Let (w45.alloc (.cells #[I B x48,I B x52,I B x56,I B x59,I B x62,I B x65] 5)) fun w67:W=>
 AppE w67 1 1 5 [I B 0] A43 ((yn5+1)+4) c44 (some ⟨g66,0,N⟩) 6 (fun (A68:Option Addr) (c69:Nat) (w70:W)=>
 ∃ n71:Nat,qq19.l2 n71 A68 (((yn5+1)+4)+6) c69 14695981039346656037 0 d0 d1 (P (some ⟨yg2,0,N⟩)) (P (some ⟨yg3,0,N⟩)) d4 (S Y6 yn6 yc6) (I L y7) dA dB (I L y7) (T (decide (y7 < 4))) dE dF dG dH dI dJ dK dL dM dN dO dP dQ dR dS dT dU (S Y5 yn5 yc5) (P (some ⟨yg2,2,N⟩)) (I B x17) (S (some ⟨g18,0,N⟩) 1 1) (S A20 (yn5+1) c21) (S A20 (yn5+1) c21) (S Y6 yn6 yc6) (P (some (a25.add 4))) (I L x26) (I L x27) (I B x28) (S Y6 yn6 yc6) (P (some (a29.add 4))) (I L x30) (I L x31) (I B x32) (S Y6 yn6 yc6) (P (some (a33.add 5))) (I L x34) (I L x35) (I B x36) (S Y6 yn6 yc6) (P (some (a37.add 5))) (I L x38) (I L x39) (I B x40) (S (some ⟨g41,0,N⟩) 4 4) (S A43 ((yn5+1)+4) c44) (S A43 ((yn5+1)+4) c44) (P (some ⟨yg3,0,N⟩)) (I D x46) (I D x47) (I B x48) (P (some ⟨yg3,0,N⟩)) (I D x49) (I D x50) (I D x51) (I B x52) (P (some ⟨yg3,0,N⟩)) (I D x53) (I D x54) (I D x55) (I B x56) (P (some ⟨yg3,0,N⟩)) (I D x57) (I D x58) (I B x59) (P (some ⟨yg3,1,N⟩)) (I H x60) (I H x61) (I B x62) (P (some ⟨yg3,1,N⟩)) (I H x63) (I H x64) (I B x65) (S (some ⟨g66,0,N⟩) 6 6) (S A68 (((yn5+1)+4)+6) c69) vG vH vI vJ vK vL vM vN vO vP vQ vR vS vT vU vV vW vX vY vZ o0 o1 o2 o3 w70 R)))))))))))))))))))))))):=by kernel_rfl
theorem qq19.l2_eq {n:Nat}:qq19.l2 (n+1) Y5 yn5 yc5 y8 y9 d0 d1 d2 d3 d4 d6 d7 dA dB dC dD dE dF dG dH dI dJ dK dL dM dN dO dP dQ dR dS dT dU dV dW dX dY dZ k0 k1 k2 k3 k4 k5 k6 k7 k8 k9 kA kB kC kD kE kF kG kH kI kJ kK kL kM kN kO kP kQ kR kS kT kU kV kW kX kY kZ v0 v1 v2 v3 v4 v5 v6 v7 v8 v9 vA vB vC vD vE vF vG vH vI vJ vK vL vM vN vO vP vQ vR vS vT vU vV vW vX vY vZ o0 o1 o2 o3 w R =
((if decide (y9 < (yn5:Int))=true then
(∃ a1:Addr,Y5=some a1∧(0≤y9∧y9 < (yn5:Int))∧
(∃ x2:Int,w.cell? (a1.add y9.toNat)=some (I B x2)∧
(Let (Q.wrap x2) fun x3:Int=>
 Let (Go.bits .xor .u64 y8 x3) fun x4:Int=>
 Calls Tryz.prog 94 #[I Q x4,I Q 1099511628211] w (fun (e6:Ending) (w5:W)=>
 ∃ x7:Int,e6=.returned (I Q x7)∧
(Let (L.wrap (y9+1)) fun x8:Int=>
 qq19.l2 n Y5 yn5 yc5 x7 x8 d0 d1 d2 d3 d4 d6 d7 dA dB dC dD dE dF dG dH dI dJ dK dL dM dN dO dP dQ dR dS dT dU dV dW dX dY dZ k0 k1 k2 k3 k4 k5 k6 k7 k8 k9 kA kB kC kD kE kF kG kH kI kJ kK kL kM kN kO kP kQ kR kS kT kU kV kW kX kY kZ v0 v1 v2 v3 v4 v5 v6 v7 v8 v9 vA vB vC vD vE vF (I L y9) (S Y5 yn5 yc5) (I L (yn5:Int)) (T (decide (y9 < (yn5:Int)))) (I L y9) (I L x8) (I Q y8) (S Y5 yn5 yc5) (I L y9) (P (some (a1.add y9.toNat))) (I B x2) (I Q x3) (I Q x4) (I Q x7) vU vV vW vX vY vZ o0 o1 o2 o3 w5 R)))))
else
(Let (Q.wrap (Int.tdiv y8 4294967296)) fun x9:Int=>
 Let (Go.bits .xor .u64 y8 x9) fun x10:Int=>
 Calls Tryz.prog 94 #[I Q x10,I Q 11400714819323198485] w (fun (e12:Ending) (w11:W)=>
 ∃ x13:Int,e12=.returned (I Q x13)∧
(Let (Q.wrap (Int.tdiv x13 536870912)) fun x14:Int=>
 Let (Go.bits .xor .u64 x13 x14) fun x15:Int=>
 R (.returned (I Q x15)) w11))))):=by kernel_rfl
def qq19.s (i0_0 i0_1 i0_2 i0_3 i0_4 i1_0 i1_1:Int) (w:W) (R:E):Prop:=
(Let (w.heap.size) fun g1:Nat=>
 Let (w.alloc (.cells #[I D i0_0,I D i0_1,I B i0_2,I H i0_3,I H i0_4] 39)) fun w2:W=>
 Let (w2.heap.size) fun g3:Nat=>
 Let (w2.alloc (.cells #[I D i1_0,I H i1_1] 65)) fun w4:W=>
 ∃ x5 x6 x7 x8 x9:Int,(5=5∧At w4 ⟨g1,0,N⟩ [I D x5,I D x6,I B x7,I H x8,I H x9])∧
(Calls Tryz.prog 79 #[G #[I D x5,I D x6,I B x7,I H x8,I H x9]] w4 (fun (e11:Ending) (w10:W)=>
 ∃ (A12:Option Addr) (n12_ c12_:Nat),e11=.returned (S A12 n12_ c12_)∧
(∃ n13:Nat,qq19.l1 n13 g1 g3 N 0 0 A12 n12_ c12_ 0 (G #[I D i0_0,I D i0_1,I B i0_2,I H i0_3,I H i0_4]) (G #[I D i1_0,I H i1_1]) (I Q 0) U U (G #[I D x5,I D x6,I B x7,I H x8,I H x9]) (S A12 n12_ c12_) U U U U U U U U U U U U U U U U U U U U U U U U U U U U U U U U U U U U U U U U U U U U U U U U U U U U U U U U U U U U U U U U U U U U U U U U U U U U U U U U U U U U U U U U U U U U U U U U U U U U w10 R))))
theorem qq19.run (h:qq19.s i0_0 i0_1 i0_2 i0_3 i0_4 i1_0 i1_1 w R):Calls Tryz.prog 63 #[G #[I D i0_0,I D i0_1,I B i0_2,I H i0_3,I H i0_4],G #[I D i1_0,I H i1_1]] w R:=
 calls_segk (ords:=qq19.ords) (J:=qq19.joins) ents mixed Tryz.func63 rfl h (by kernel_rfl)
end Go.Proofs.YtphbdmafchjjeaaGreatDoorS
