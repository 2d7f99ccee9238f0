import Derived.Test.YtphbdmafchjjeaaGreatDoorTQBSPureM
namespace Go.Proofs.YtphbdmafchjjeaaGreatDoorS
open Go Go.Proofs
open Go renaming undef → U, World → W, Value → V
open Go.Value renaming int → I, slice → S, bool → T, pointer → P, agg → G
open Go.IntKind renaming u8 → B, u16 → H, u32 → D, u64 → Q, i64 → L
open Option renaming none → N
set_option autoImplicit true
set_option relaxedAutoImplicit true
set_option maxRecDepth 100000
set_option linter.unusedVariables false
def qq104.ords:Nat→Od
 | 1=>(.tk 0 (.tk 1 (.tk 2 (.tk 3 (.tk 4 (.tk 5 (.tk 6 (.tk 7 (.tk 8 (.tk 9 (.tk 10 (.tk 11 (.tk 12 (.tk 13 .nil))))))))))))))
 | _=>.nil
def qq104.joins (p:List Nat):Bool:=false
def qq104.s (I0:Option Addr) (in0 ic0:Nat) (i1:Int) (w:W) (R:E):Prop:=
(∃ S1:W→Prop,S1 w.drew∧
(Let (w.drew) fun w2:W=>
 ∃ a3:Addr,I0=some a3∧(0≤i1∧i1 < (in0:Int))∧
(∃ x4:Int,(∀ w',S1 w'→w'.cell? (a3.add i1.toNat)=some (I B x4))∧
(Let (H.wrap x4) fun x5:Int=>
 Let (H.wrap (x5 * 256)) fun x6:Int=>
 Let (L.wrap (i1+1)) fun x7:Int=>
 ∃ a8:Addr,I0=some a8∧(0≤x7∧x7 < (in0:Int))∧
(∃ x9:Int,(∀ w',S1 w'→w'.cell? (a8.add x7.toNat)=some (I B x9))∧
(Let (H.wrap x9) fun x10:Int=>
 Let (Go.bits .or .u16 x6 x10) fun x11:Int=>
 R (.returned (I H x11)) w2))))))
theorem qq104.run (h:qq104.s I0 in0 ic0 i1 w R):Calls Tryz.prog 72 #[S I0 in0 ic0,I L i1] w R:=
 calls_segk (ords:=qq104.ords) (J:=qq104.joins) ents mixed Tryz.func72 rfl h (by kernel_rfl)
def qq84.ords:Nat→Od
 | _=>.nil
def qq84.joins (p:List Nat):Bool:=false
def qq84.s (I0:Option Addr) (in0 ic0:Nat) (i1 i2:Int) (w:W) (R:E):Prop:=
(Let (L.wrap (i1+1)) fun x1:Int=>
 Let (Int.fdiv i2 256) fun x2:Int=>
 Let (B.wrap x2) fun x3:Int=>
 Let (B.wrap i2) fun x4:Int=>
 ∃ a5:Addr,I0=some a5∧(0≤i1∧i1 < (in0:Int))∧
(MayC w (a5.add i1.toNat)∧
(Let (w.setCell (a5.add i1.toNat) (I B x3)) fun w6:W=>
 ∃ a7:Addr,I0=some a7∧(0≤x1∧x1 < (in0:Int))∧
(MayC w6 (a7.add x1.toNat)∧
(Let (w6.setCell (a7.add x1.toNat) (I B x4)) fun w8:W=>
 R (.returned (.tuple #[])) w8)))))
theorem qq84.run (h:qq84.s I0 in0 ic0 i1 i2 w R):Calls Tryz.prog 60 #[S I0 in0 ic0,I L i1,I H i2] w R:=
 calls_segk (ords:=qq84.ords) (J:=qq84.joins) ents mixed Tryz.func60 rfl h (by kernel_rfl)
def qq82.ords:Nat→Od
 | _=>.nil
def qq82.joins (p:List Nat):Bool:=false
def qq82.s (I0:Option Addr) (in0 ic0:Nat) (i1 i2:Int) (w:W) (R:E):Prop:=
(Let (Int.fdiv i2 65536) fun x1:Int=>
 Let (H.wrap x1) fun x2:Int=>
 Calls Tryz.prog 60 #[S I0 in0 ic0,I L i1,I H x2] w (fun (e4:Ending) (w3:W)=>
 e4=.returned (.tuple #[])∧
(Let (L.wrap (i1+2)) fun x5:Int=>
 Let (H.wrap i2) fun x6:Int=>
 Calls Tryz.prog 60 #[S I0 in0 ic0,I L x5,I H x6] w3 (fun (e8:Ending) (w7:W)=>
 e8=.returned (.tuple #[])∧
(R (.returned (.tuple #[])) w7)))))
theorem qq82.run (h:qq82.s I0 in0 ic0 i1 i2 w R):Calls Tryz.prog 59 #[S I0 in0 ic0,I L i1,I D i2] w R:=
 calls_segk (ords:=qq82.ords) (J:=qq82.joins) ents mixed Tryz.func59 rfl h (by kernel_rfl)
def qq94.ords:Nat→Od
 | _=>.nil
def qq94.joins (p:List Nat):Bool:=false
def qq94.s (i0_0 i0_1 i0_2 i0_3 i0_4:Int) (w:W) (R:E):Prop:=
(Let (w.heap.size) fun g1:Nat=>
 Let (w.alloc (.cells #[I D i0_0,I D i0_1,I B i0_2,I H i0_3,I H i0_4] 39)) fun w2:W=>
 Let (w2.heap.size) fun g3:Nat=>
 Let (w2.alloc (.cells #[I H 0,I H 0,I H 0,I H 0,I H 0,I H 0] 125)) fun w4:W=>
 ∃ x5:Int,w4.cell? ⟨g1,0,N⟩=some (I D x5)∧
(Let (Int.fdiv x5 65536) fun x6:Int=>
 Let (H.wrap x6) fun x7:Int=>
 ∃ x8:Int,w4.cell? ⟨g1,0,N⟩=some (I D x8)∧
(Let (H.wrap x8) fun x9:Int=>
 ∃ x10:Int,w4.cell? ⟨g1,1,N⟩=some (I D x10)∧
(Let (Int.fdiv x10 65536) fun x11:Int=>
 Let (H.wrap x11) fun x12:Int=>
 ∃ x13:Int,w4.cell? ⟨g1,1,N⟩=some (I D x13)∧
(Let (H.wrap x13) fun x14:Int=>
 ∃ x15:Int,w4.cell? ⟨g1,3,N⟩=some (I H x15)∧
(∃ x16:Int,w4.cell? ⟨g1,4,N⟩=some (I H x16)∧
(May w4 ⟨g3,0,N⟩ 6∧
(Let (putCells w4 ⟨g3,0,N⟩ [I H x7,I H x9,I H x12,I H x14,I H x15,I H x16] 0) fun w17:W=>
 ∃ x18 x19 x20 x21 x22 x23:Int,(6=6∧At w17 ⟨g3,0,N⟩ [I H x18,I H x19,I H x20,I H x21,I H x22,I H x23])∧
(R (.returned (G #[I H x18,I H x19,I H x20,I H x21,I H x22,I H x23])) w17)))))))))
theorem qq94.run (h:qq94.s i0_0 i0_1 i0_2 i0_3 i0_4 w R):Calls Tryz.prog 70 #[G #[I D i0_0,I D i0_1,I B i0_2,I H i0_3,I H i0_4]] w R:=
 calls_segk (ords:=qq94.ords) (J:=qq94.joins) ents mixed Tryz.func70 rfl h (by kernel_rfl)
def qq106.ords:Nat→Od
 | 4=>(.tk 0 (.tk 1 (.tk 2 (.tk 3 (.tk 4 (.tk 5 (.tk 6 (.tk 7 (.tk 8 .nil)))))))))
 | 5=>(.tk 0 (.tk 1 (.tk 2 (.tk 3 (.tk 4 (.tk 5 (.tk 6 (.tk 7 (.tk 8 (.on 9 (.tk 10 .nil)))))))))))
 | _=>.nil
def qq106.joins (p:List Nat):Bool:=false
def qq106.l1 (n:Nat) (y0:Int) (Y1:Option Addr) (yn1 yc1:Nat) (Y2:Option Addr) (yn2 yc2:Nat) (y9 y10:Int) (d3 d4 d5 d6 d7 d8 dB dC dD dE dF dG dH dI dJ dK dL dM dN dO dP dQ dR dS dT dU dV dW dX:V) (w:W) (R:E):Prop:=
 lseg Tryz.prog entE qq106.ords qq106.joins Tryz.f71 [1,0,1,0] [0,1,0,1] [] n [I H y0,S Y1 yn1 yc1,S Y2 yn2 yc2,d3,d4,d5,d6,d7,d8,I L y9,I L y10,dB,dC,dD,dE,dF,dG,dH,dI,dJ,dK,dL,dM,dN,dO,dP,dQ,dR,dS,dT,dU,dV,dW,dX] w R
abbrev qq106.L1 (n:Nat) (y0:Int) (Y1:Option Addr) (yn1 yc1:Nat) (Y2:Option Addr) (yn2 yc2:Nat) (y9 y10:Int) (w:W) (R:E):Prop:=∀ d3 d4 d5 d6 d7 d8 dB dC dD dE dF dG dH dI dJ dK dL dM dN dO dP dQ dR dS dT dU dV dW dX,qq106.l1 n y0 Y1 yn1 yc1 Y2 yn2 yc2 y9 y10 d3 d4 d5 d6 d7 d8 dB dC dD dE dF dG dH dI dJ dK dL dM dN dO dP dQ dR dS dT dU dV dW dX w R
theorem qq106.l1_eq {n:Nat}:qq106.l1 (n+1) y0 Y1 yn1 yc1 Y2 yn2 yc2 y9 y10 d3 d4 d5 d6 d7 d8 dB dC dD dE dF dG dH dI dJ dK dL dM dN dO dP dQ dR dS dT dU dV dW dX w R =
((if decide (y10 < y9)=true then
(∃ S1:W→Prop,S1 w.drew∧
(Let (w.drew) fun w2:W=>
 ∃ a3:Addr,Y1=some a3∧(0≤y10∧y10 < (yn1:Int))∧
(∃ x4:Int,(∀ w',S1 w'→w'.cell? (a3.add y10.toNat)=some (I H x4))∧
(∃ a5:Addr,Y2=some a5∧(0≤y10∧y10 < (yn2:Int))∧
(∃ x6:Int,(∀ w',S1 w'→w'.cell? (a5.add y10.toNat)=some (I H x6))∧
((if (x4 != x6)=true then
(∃ S7:W→Prop,S7 w2.drew∧
(Let (w2.drew) fun w8:W=>
 ∃ a9:Addr,Y1=some a9∧(0≤y10∧y10 < (yn1:Int))∧
(∃ x10:Int,(∀ w',S7 w'→w'.cell? (a9.add y10.toNat)=some (I H x10))∧
(∃ a11:Addr,Y2=some a11∧(0≤y10∧y10 < (yn2:Int))∧
(∃ x12:Int,(∀ w',S7 w'→w'.cell? (a11.add y10.toNat)=some (I H x12))∧
(Calls Tryz.prog 96 #[I H y0,I H x10,I H x12] w8 (fun (e14:Ending) (w13:W)=>
 ∃ x15:Int,e14=.returned (I H x15)∧
(S7 w13∧
(Let (L.wrap (y10+1)) fun x16:Int=>
 qq106.l1 n x15 Y1 yn1 yc1 Y2 yn2 yc2 y9 x16 d3 d4 d5 d6 (I L y10) d8 (T (decide (y10 < y9))) (I L y10) (S Y1 yn1 yc1) (I L y10) (P (some (a3.add y10.toNat))) (I H x4) (S Y2 yn2 yc2) (I L y10) (P (some (a5.add y10.toNat))) (I H x6) (T (x4 != x6)) (I H y0) (S Y1 yn1 yc1) (I L y10) (P (some (a9.add y10.toNat))) (I H x10) (S Y2 yn2 yc2) (I L y10) (P (some (a11.add y10.toNat))) (I H x12) (I H x15) (I L x16) dX w13 R)))))))))
else
(Let (L.wrap (y10+1)) fun x17:Int=>
 qq106.l1 n y0 Y1 yn1 yc1 Y2 yn2 yc2 y9 x17 d3 d4 d5 d6 (I L y10) d8 (T (decide (y10 < y9))) (I L y10) (S Y1 yn1 yc1) (I L y10) (P (some (a3.add y10.toNat))) (I H x4) (S Y2 yn2 yc2) (I L y10) (P (some (a5.add y10.toNat))) (I H x6) (T (x4 != x6)) dM dN dO dP dQ dR dS dT dU dV (I L x17) dX w2 R))))))))
else
(R (.returned (I H y0)) w))):=by kernel_rfl
def qq106.s (i0:Int) (I1:Option Addr) (in1 ic1:Nat) (I2:Option Addr) (in2 ic2:Nat) (w:W) (R:E):Prop:=
(∃ n1:Nat,qq106.l1 n1 i0 I1 in1 ic1 I2 in2 ic2 (in1:Int) 0 U U U (I H 0) U (S I1 in1 ic1) U U U U U U U U U U U U U U U U U U U U U U U w R)
theorem qq106.run (h:qq106.s i0 I1 in1 ic1 I2 in2 ic2 w R):Calls Tryz.prog 71 #[I H i0,S I1 in1 ic1,S I2 in2 ic2] w R:=
 calls_segk (ords:=qq106.ords) (J:=qq106.joins) ents mixed Tryz.func71 rfl h (by kernel_rfl)
def qq78.ords:Nat→Od
 | 1=>(.tk 0 (.tk 2 (.tri 1 4 5 (.tri 3 4 5 (.two 4 5 (.on 5 (.on 6 (.on 7 .nil))) (.on 4 (.on 6 (.on 7 .nil)))) (.two 3 5 (.on 5 (.on 6 (.on 7 .nil))) (.on 3 (.on 6 (.on 7 .nil)))) (.two 3 4 (.on 4 (.on 6 (.on 7 .nil))) (.on 3 (.on 6 (.on 7 .nil))))) (.two 1 5 (.two 3 5 (.on 5 (.on 6 (.on 7 .nil))) (.on 3 (.on 6 (.on 7 .nil)))) (.on 1 (.on 3 (.on 6 (.on 7 .nil))))) (.two 1 4 (.two 3 4 (.on 4 (.on 6 (.on 7 .nil))) (.on 3 (.on 6 (.on 7 .nil)))) (.on 1 (.on 3 (.on 6 (.on 7 .nil))))))))
 | 4=>(.tk 0 (.tk 2 (.tk 3 (.on 1 (.on 4 (.tk 5 .nil))))))
 | 13=>(.tk 0 (.tk 1 (.tk 2 (.on 3 (.tk 4 .nil)))))
 | 18=>(.tk 0 (.tk 1 (.tk 3 (.tk 4 (.on 2 (.on 5 (.on 6 .nil)))))))
 | _=>.nil
def qq78.joins (p:List Nat):Bool:=p == [1,1] || p == [1,1,1,0,1,0,1,1] || p == [1,1,0,1,1,0,1,0,1,1,1,1,1]
def qq78.j1 (Y0:Option Addr) (yn0 yc0:Nat) (y1:Int) (y4:Bool) (yg8 yg10 yg11:Nat) (d2 d3 d5 d6 d7 d9 dC dD dE dF dG dH dI dJ dK dL dM dN dO dP dQ dR dS dT dU dV dW dX dY dZ k0 k1 k2 k3 k4 k5 k6 k7 k8 k9 kA kB kC kD kE kF kG kH kI kJ kK kL kM kN kO kP kQ kR kS kT kU kV kW kX kY kZ v0 v1 v2 v3 v4 v5 v6 v7 v8 v9 vA vB:V) (w:W) (R:E):Prop:=
 seg Tryz.prog entE qq78.ords qq78.joins Tryz.f37 [1,1] [1,1] [] [S Y0 yn0 yc0,I B y1,d2,d3,T y4,d5,d6,d7,P (some ⟨yg8,0,N⟩),d9,P (some ⟨yg10,0,N⟩),P (some ⟨yg11,0,N⟩),dC,dD,dE,dF,dG,dH,dI,dJ,dK,dL,dM,dN,dO,dP,dQ,dR,dS,dT,dU,dV,dW,dX,dY,dZ,k0,k1,k2,k3,k4,k5,k6,k7,k8,k9,kA,kB,kC,kD,kE,kF,kG,kH,kI,kJ,kK,kL,kM,kN,kO,kP,kQ,kR,kS,kT,kU,kV,kW,kX,kY,kZ,v0,v1,v2,v3,v4,v5,v6,v7,v8,v9,vA,vB] w R
def qq78.j2 (Y0:Option Addr) (yn0 yc0:Nat) (y12:Int) (d1 d2 d3 d4 d5 d6 d7 d8 d9 dA dB dD dE dF dG dH dI dJ dK dL dM dN dO dP dQ dR dS dT dU dV dW dX dY dZ k0 k1 k2 k3 k4 k5 k6 k7 k8 k9 kA kB kC kD kE kF kG kH kI kJ kK kL kM kN kO kP kQ kR kS kT kU kV kW kX kY kZ v0 v1 v2 v3 v4 v5 v6 v7 v8 v9 vA vB:V) (w:W) (R:E):Prop:=
 seg Tryz.prog entE qq78.ords qq78.joins Tryz.f37 [1,1,0,1,0,1,1,1] [1,1,1,0,1,0,1,1] [] [S Y0 yn0 yc0,d1,d2,d3,d4,d5,d6,d7,d8,d9,dA,dB,I H y12,dD,dE,dF,dG,dH,dI,dJ,dK,dL,dM,dN,dO,dP,dQ,dR,dS,dT,dU,dV,dW,dX,dY,dZ,k0,k1,k2,k3,k4,k5,k6,k7,k8,k9,kA,kB,kC,kD,kE,kF,kG,kH,kI,kJ,kK,kL,kM,kN,kO,kP,kQ,kR,kS,kT,kU,kV,kW,kX,kY,kZ,v0,v1,v2,v3,v4,v5,v6,v7,v8,v9,vA,vB] w R
def qq78.j3 (Y0:Option Addr) (yn0 yc0:Nat) (y14:Int) (d1 d2 d3 d4 d5 d6 d7 d8 d9 dA dB dC dD dF dG dH dI dJ dK dL dM dN dO dP dQ dR dS dT dU dV dW dX dY dZ k0 k1 k2 k3 k4 k5 k6 k7 k8 k9 kA kB kC kD kE kF kG kH kI kJ kK kL kM kN kO kP kQ kR kS kT kU kV kW kX kY kZ v0 v1 v2 v3 v4 v5 v6 v7 v8 v9 vA vB:V) (w:W) (R:E):Prop:=
 seg Tryz.prog entE qq78.ords qq78.joins Tryz.f37 [1,1,1,1,1,0,1,0,1,1,0,1,1] [1,1,0,1,1,0,1,0,1,1,1,1,1] [] [S Y0 yn0 yc0,d1,d2,d3,d4,d5,d6,d7,d8,d9,dA,dB,dC,dD,I H y14,dF,dG,dH,dI,dJ,dK,dL,dM,dN,dO,dP,dQ,dR,dS,dT,dU,dV,dW,dX,dY,dZ,k0,k1,k2,k3,k4,k5,k6,k7,k8,k9,kA,kB,kC,kD,kE,kF,kG,kH,kI,kJ,kK,kL,kM,kN,kO,kP,kQ,kR,kS,kT,kU,kV,kW,kX,kY,kZ,v0,v1,v2,v3,v4,v5,v6,v7,v8,v9,vA,vB] w R
abbrev qq78.J1 (Y0:Option Addr) (yn0 yc0:Nat) (y1:Int) (y4:Bool) (yg8 yg10 yg11:Nat) (w:W) (R:E):Prop:=∀ d2 d3 d5 d6 d7 d9 dC dD dE dF dG dH dI dJ dK dL dM dN dO dP dQ dR dS dT dU dV dW dX dY dZ k0 k1 k2 k3 k4 k5 k6 k7 k8 k9 kA kB kC kD kE kF kG kH kI kJ kK kL kM kN kO kP kQ kR kS kT kU kV kW kX kY kZ v0 v1 v2 v3 v4 v5 v6 v7 v8 v9 vA vB,qq78.j1 Y0 yn0 yc0 y1 y4 yg8 yg10 yg11 d2 d3 d5 d6 d7 d9 dC dD dE dF dG dH dI dJ dK dL dM dN dO dP dQ dR dS dT dU dV dW dX dY dZ k0 k1 k2 k3 k4 k5 k6 k7 k8 k9 kA kB kC kD kE kF kG kH kI kJ kK kL kM kN kO kP kQ kR kS kT kU kV kW kX kY kZ v0 v1 v2 v3 v4 v5 v6 v7 v8 v9 vA vB w R
abbrev qq78.J2 (Y0:Option Addr) (yn0 yc0:Nat) (y12:Int) (w:W) (R:E):Prop:=∀ d1 d2 d3 d4 d5 d6 d7 d8 d9 dA dB dD dE dF dG dH dI dJ dK dL dM dN dO dP dQ dR dS dT dU dV dW dX dY dZ k0 k1 k2 k3 k4 k5 k6 k7 k8 k9 kA kB kC kD kE kF kG kH kI kJ kK kL kM kN kO kP kQ kR kS kT kU kV kW kX kY kZ v0 v1 v2 v3 v4 v5 v6 v7 v8 v9 vA vB,qq78.j2 Y0 yn0 yc0 y12 d1 d2 d3 d4 d5 d6 d7 d8 d9 dA dB dD dE dF dG dH dI dJ dK dL dM dN dO dP dQ dR dS dT dU dV dW dX dY dZ k0 k1 k2 k3 k4 k5 k6 k7 k8 k9 kA kB kC kD kE kF kG kH kI kJ kK kL kM kN kO kP kQ kR kS kT kU kV kW kX kY kZ v0 v1 v2 v3 v4 v5 v6 v7 v8 v9 vA vB w R
abbrev qq78.J3 (Y0:Option Addr) (yn0 yc0:Nat) (y14:Int) (w:W) (R:E):Prop:=∀ d1 d2 d3 d4 d5 d6 d7 d8 d9 dA dB dC dD dF dG dH dI dJ dK dL dM dN dO dP dQ dR dS dT dU dV dW dX dY dZ k0 k1 k2 k3 k4 k5 k6 k7 k8 k9 kA kB kC kD kE kF kG kH kI kJ kK kL kM kN kO kP kQ kR kS kT kU kV kW kX kY kZ v0 v1 v2 v3 v4 v5 v6 v7 v8 v9 vA vB,qq78.j3 Y0 yn0 yc0 y14 d1 d2 d3 d4 d5 d6 d7 d8 d9 dA dB dC dD dF dG dH dI dJ dK dL dM dN dO dP dQ dR dS dT dU dV dW dX dY dZ k0 k1 k2 k3 k4 k5 k6 k7 k8 k9 kA kB kC kD kE kF kG kH kI kJ kK kL kM kN kO kP kQ kR kS kT kU kV kW kX kY kZ v0 v1 v2 v3 v4 v5 v6 v7 v8 v9 vA vB w R
theorem qq78.j1_eq:qq78.j1 Y0 yn0 yc0 y1 y4 yg8 yg10 yg11 d2 d3 d5 d6 d7 d9 dC dD dE dF dG dH dI dJ dK dL dM dN dO dP dQ dR dS dT dU dV dW dX dY dZ k0 k1 k2 k3 k4 k5 k6 k7 k8 k9 kA kB kC kD kE kF kG kH kI kJ kK kL kM kN kO kP kQ kR kS kT kU kV kW kX kY kZ v0 v1 v2 v3 v4 v5 v6 v7 v8 v9 vA vB w R =
((if (y1 == 1)=true then
(∃ x1:Int,w.cell? ⟨yg8,3,N⟩=some (I H x1)∧
(Calls Tryz.prog 60 #[S Y0 yn0 yc0,I L 4,I H x1] w (fun (e3:Ending) (w2:W)=>
 e3=.returned (.tuple #[])∧
(∃ S4:W→Prop,S4 w2.drew∧
(Let (w2.drew) fun w5:W=>
(0≤(5:Int)∧(5:Int)≤6)∧
(0≤(4:Int)∧(4:Int)≤5)∧
((0≤(5:Int)∧(5:Int)≤6)∧
(0≤(4:Int)∧(4:Int)≤5)∧
(Calls Tryz.prog 72 #[S Y0 yn0 yc0,I L 2] w5 (fun (e7:Ending) (w6:W)=>
 ∃ x8:Int,e7=.returned (I H x8)∧
(S4 w6∧
(Calls Tryz.prog 71 #[I H x8,S (cutA (some ⟨yg10,0,N⟩) 4 6 1) 1 2,S (cutA (some ⟨yg11,0,N⟩) 4 6 1) 1 2] w6 (fun (e10:Ending) (w9:W)=>
 ∃ x11:Int,e10=.returned (I H x11)∧
(S4 w9∧
((if y4=true then
((0≤(4:Int)∧(4:Int) < 6)∧
(∃ x12:Int,w9.cell? ⟨yg10,4,N⟩=some (I H x12)∧
((0≤(4:Int)∧(4:Int) < 6)∧
(∃ x13:Int,w9.cell? ⟨yg11,4,N⟩=some (I H x13)∧
((if (x12 != x13)=true then
((if (x11 == 0)=true then
(Calls Tryz.prog 73 #[S Y0 yn0 yc0,I L 2] w9 (fun (e15:Ending) (w14:W)=>
 ∃ b16:Bool,e15=.returned (T b16)∧
((if b16=true then
(Leaf (qq78.j2 Y0 yn0 yc0 65535 (I B y1) d2 d3 (T y4) d5 d6 d7 (P (some ⟨yg8,0,N⟩)) d9 (P (some ⟨yg10,0,N⟩)) (P (some ⟨yg11,0,N⟩)) dD dE dF dG dH dI (I B y1) (T (y1 == 1)) (S Y0 yn0 yc0) (P (some ⟨yg8,3,N⟩)) (I H x1) (.tuple #[]) (S Y0 yn0 yc0) (I H x8) (S (cutA (some ⟨yg10,0,N⟩) 4 6 1) 1 2) (S (cutA (some ⟨yg11,0,N⟩) 4 6 1) 1 2) (I H x11) (T y4) (T true) (P (some ⟨yg10,4,N⟩)) (I H x12) (P (some ⟨yg11,4,N⟩)) (I H x13) (T (x12 != x13)) (T (x12 != x13)) (T true) (I H x11) (T (x11 == 0)) (T (x11 == 0)) (T true) (S Y0 yn0 yc0) (T b16) (T b16) kA kB kC kD kE kF kG kH kI kJ kK kL kM kN kO kP kQ kR kS kT kU kV kW kX kY kZ v0 v1 v2 v3 v4 v5 v6 v7 v8 v9 vA vB w14 R))
else
(Leaf (qq78.j2 Y0 yn0 yc0 x11 (I B y1) d2 d3 (T y4) d5 d6 d7 (P (some ⟨yg8,0,N⟩)) d9 (P (some ⟨yg10,0,N⟩)) (P (some ⟨yg11,0,N⟩)) dD dE dF dG dH dI (I B y1) (T (y1 == 1)) (S Y0 yn0 yc0) (P (some ⟨yg8,3,N⟩)) (I H x1) (.tuple #[]) (S Y0 yn0 yc0) (I H x8) (S (cutA (some ⟨yg10,0,N⟩) 4 6 1) 1 2) (S (cutA (some ⟨yg11,0,N⟩) 4 6 1) 1 2) (I H x11) (T y4) (T true) (P (some ⟨yg10,4,N⟩)) (I H x12) (P (some ⟨yg11,4,N⟩)) (I H x13) (T (x12 != x13)) (T (x12 != x13)) (T true) (I H x11) (T (x11 == 0)) (T (x11 == 0)) (T true) (S Y0 yn0 yc0) (T b16) (T b16) kA kB kC kD kE kF kG kH kI kJ kK kL kM kN kO kP kQ kR kS kT kU kV kW kX kY kZ v0 v1 v2 v3 v4 v5 v6 v7 v8 v9 vA vB w14 R))))))
else
(Leaf (qq78.j2 Y0 yn0 yc0 x11 (I B y1) d2 d3 (T y4) d5 d6 d7 (P (some ⟨yg8,0,N⟩)) d9 (P (some ⟨yg10,0,N⟩)) (P (some ⟨yg11,0,N⟩)) dD dE dF dG dH dI (I B y1) (T (y1 == 1)) (S Y0 yn0 yc0) (P (some ⟨yg8,3,N⟩)) (I H x1) (.tuple #[]) (S Y0 yn0 yc0) (I H x8) (S (cutA (some ⟨yg10,0,N⟩) 4 6 1) 1 2) (S (cutA (some ⟨yg11,0,N⟩) 4 6 1) 1 2) (I H x11) (T y4) (T true) (P (some ⟨yg10,4,N⟩)) (I H x12) (P (some ⟨yg11,4,N⟩)) (I H x13) (T (x12 != x13)) (T (x12 != x13)) (T true) (I H x11) (T (x11 == 0)) (T (x11 == 0)) (T false) U U (T false) kA kB kC kD kE kF kG kH kI kJ kK kL kM kN kO kP kQ kR kS kT kU kV kW kX kY kZ v0 v1 v2 v3 v4 v5 v6 v7 v8 v9 vA vB w9 R))))
else
(Leaf (qq78.j2 Y0 yn0 yc0 x11 (I B y1) d2 d3 (T y4) d5 d6 d7 (P (some ⟨yg8,0,N⟩)) d9 (P (some ⟨yg10,0,N⟩)) (P (some ⟨yg11,0,N⟩)) dD dE dF dG dH dI (I B y1) (T (y1 == 1)) (S Y0 yn0 yc0) (P (some ⟨yg8,3,N⟩)) (I H x1) (.tuple #[]) (S Y0 yn0 yc0) (I H x8) (S (cutA (some ⟨yg10,0,N⟩) 4 6 1) 1 2) (S (cutA (some ⟨yg11,0,N⟩) 4 6 1) 1 2) (I H x11) (T y4) (T true) (P (some ⟨yg10,4,N⟩)) (I H x12) (P (some ⟨yg11,4,N⟩)) (I H x13) (T (x12 != x13)) (T (x12 != x13)) (T false) U U (T false) (T false) U U (T false) kA kB kC kD kE kF kG kH kI kJ kK kL kM kN kO kP kQ kR kS kT kU kV kW kX kY kZ v0 v1 v2 v3 v4 v5 v6 v7 v8 v9 vA vB w9 R))))))))
else
(Leaf (qq78.j2 Y0 yn0 yc0 x11 (I B y1) d2 d3 (T y4) d5 d6 d7 (P (some ⟨yg8,0,N⟩)) d9 (P (some ⟨yg10,0,N⟩)) (P (some ⟨yg11,0,N⟩)) dD dE dF dG dH dI (I B y1) (T (y1 == 1)) (S Y0 yn0 yc0) (P (some ⟨yg8,3,N⟩)) (I H x1) (.tuple #[]) (S Y0 yn0 yc0) (I H x8) (S (cutA (some ⟨yg10,0,N⟩) 4 6 1) 1 2) (S (cutA (some ⟨yg11,0,N⟩) 4 6 1) 1 2) (I H x11) (T y4) (T false) U U U U U (T false) (T false) U U (T false) (T false) U U (T false) kA kB kC kD kE kF kG kH kI kJ kK kL kM kN kO kP kQ kR kS kT kU kV kW kX kY kZ v0 v1 v2 v3 v4 v5 v6 v7 v8 v9 vA vB w9 R))))))))))))))))
else
(∃ x17:Int,w.cell? ⟨yg8,3,N⟩=some (I H x17)∧
(Calls Tryz.prog 60 #[S Y0 yn0 yc0,I L 0,I H x17] w (fun (e19:Ending) (w18:W)=>
 e19=.returned (.tuple #[])∧
(∃ x20:Int,w18.cell? ⟨yg8,4,N⟩=some (I H x20)∧
(Calls Tryz.prog 60 #[S Y0 yn0 yc0,I L 2,I H x20] w18 (fun (e22:Ending) (w21:W)=>
 e22=.returned (.tuple #[])∧
((if (y1 == 17)=true then
(Calls Tryz.prog 72 #[S Y0 yn0 yc0,I L 6] w21 (fun (e24:Ending) (w23:W)=>
 ∃ x25:Int,e24=.returned (I H x25)∧
((if (x25 != 0)=true then
(∃ S26:W→Prop,S26 w23.drew∧
(Let (w23.drew) fun w27:W=>
((Calls Tryz.prog 71 #[I H x25,S (some ⟨yg10,0,N⟩) 6 6,S (some ⟨yg11,0,N⟩) 6 6] w27 (fun (e29:Ending) (w28:W)=>
 ∃ x30:Int,e29=.returned (I H x30)∧
(S26 w28∧
((if (x30 == 0)=true then
(Leaf (qq78.j3 Y0 yn0 yc0 65535 (I B y1) d2 d3 (T y4) d5 d6 d7 (P (some ⟨yg8,0,N⟩)) d9 (P (some ⟨yg10,0,N⟩)) (P (some ⟨yg11,0,N⟩)) dC (I H x25) dF dG dH dI (I B y1) (T (y1 == 1)) dL dM dN dO dP dQ dR dS dT dU dV dW dX dY dZ k0 k1 k2 k3 k4 k5 k6 k7 k8 k9 kA kB kC (S Y0 yn0 yc0) (P (some ⟨yg8,3,N⟩)) (I H x17) (.tuple #[]) (S Y0 yn0 yc0) (P (some ⟨yg8,4,N⟩)) (I H x20) (.tuple #[]) (T (y1 == 17)) (I B y1) (T (y1 == 17)) (S Y0 yn0 yc0) (I H x25) (I H x25) (T (x25 != 0)) (I H x25) (S (some ⟨yg10,0,N⟩) 6 6) (S (some ⟨yg11,0,N⟩) 6 6) (I H x30) (I H x30) (T (x30 == 0)) kY kZ v0 v1 v2 v3 v4 v5 v6 v7 v8 v9 vA vB w28 R))
else
(Leaf (qq78.j3 Y0 yn0 yc0 x30 (I B y1) d2 d3 (T y4) d5 d6 d7 (P (some ⟨yg8,0,N⟩)) d9 (P (some ⟨yg10,0,N⟩)) (P (some ⟨yg11,0,N⟩)) dC (I H x25) dF dG dH dI (I B y1) (T (y1 == 1)) dL dM dN dO dP dQ dR dS dT dU dV dW dX dY dZ k0 k1 k2 k3 k4 k5 k6 k7 k8 k9 kA kB kC (S Y0 yn0 yc0) (P (some ⟨yg8,3,N⟩)) (I H x17) (.tuple #[]) (S Y0 yn0 yc0) (P (some ⟨yg8,4,N⟩)) (I H x20) (.tuple #[]) (T (y1 == 17)) (I B y1) (T (y1 == 17)) (S Y0 yn0 yc0) (I H x25) (I H x25) (T (x25 != 0)) (I H x25) (S (some ⟨yg10,0,N⟩) 6 6) (S (some ⟨yg11,0,N⟩) 6 6) (I H x30) (I H x30) (T (x30 == 0)) kY kZ v0 v1 v2 v3 v4 v5 v6 v7 v8 v9 vA vB w28 R))))))))))
else
(R (.returned (.tuple #[])) w23)))))
else
((if decide ((yn0:Int) ≥ 18)=true then
(∃ S31:W→Prop,S31 w21.drew∧
(Let (w21.drew) fun w32:W=>
((Calls Tryz.prog 72 #[S Y0 yn0 yc0,I L 16] w32 (fun (e34:Ending) (w33:W)=>
 ∃ x35:Int,e34=.returned (I H x35)∧
(S31 w33∧
(Calls Tryz.prog 71 #[I H x35,S (some ⟨yg10,0,N⟩) 6 6,S (some ⟨yg11,0,N⟩) 6 6] w33 (fun (e37:Ending) (w36:W)=>
 ∃ x38:Int,e37=.returned (I H x38)∧
(S31 w36∧
(Calls Tryz.prog 60 #[S Y0 yn0 yc0,I L 16,I H x38] w36 (fun (e40:Ending) (w39:W)=>
 e40=.returned (.tuple #[])∧
(S31 w39∧
(R (.returned (.tuple #[])) w39)))))))))))))
else
(R (.returned (.tuple #[])) w21))))))))))))):=by kernel_rfl
theorem qq78.j2_eq:qq78.j2 Y0 yn0 yc0 y12 d1 d2 d3 d4 d5 d6 d7 d8 d9 dA dB dD dE dF dG dH dI dJ dK dL dM dN dO dP dQ dR dS dT dU dV dW dX dY dZ k0 k1 k2 k3 k4 k5 k6 k7 k8 k9 kA kB kC kD kE kF kG kH kI kJ kK kL kM kN kO kP kQ kR kS kT kU kV kW kX kY kZ v0 v1 v2 v3 v4 v5 v6 v7 v8 v9 vA vB w R =
(Calls Tryz.prog 60 #[S Y0 yn0 yc0,I L 2,I H y12] w (fun (e2:Ending) (w1:W)=>
 e2=.returned (.tuple #[])∧
(R (.returned (.tuple #[])) w1))):=by kernel_rfl
theorem qq78.j3_eq:qq78.j3 Y0 yn0 yc0 y14 d1 d2 d3 d4 d5 d6 d7 d8 d9 dA dB dC dD dF dG dH dI dJ dK dL dM dN dO dP dQ dR dS dT dU dV dW dX dY dZ k0 k1 k2 k3 k4 k5 k6 k7 k8 k9 kA kB kC kD kE kF kG kH kI kJ kK kL kM kN kO kP kQ kR kS kT kU kV kW kX kY kZ v0 v1 v2 v3 v4 v5 v6 v7 v8 v9 vA vB w R =
(Calls Tryz.prog 60 #[S Y0 yn0 yc0,I L 6,I H y14] w (fun (e2:Ending) (w1:W)=>
 e2=.returned (.tuple #[])∧
(R (.returned (.tuple #[])) w1))):=by kernel_rfl
def qq78.s (I0:Option Addr) (in0 ic0:Nat) (i1 i2_0 i2_1 i2_2 i2_3 i2_4 i3_0 i3_1 i3_2 i3_3 i3_4:Int) (i4:Bool) (w:W) (R:E):Prop:=
(Let (w.heap.size) fun g1:Nat=>
 Let (w.alloc (.cells #[I D i2_0,I D i2_1,I B i2_2,I H i2_3,I H i2_4] 39)) fun w2:W=>
 Let (w2.heap.size) fun g3:Nat=>
 Let (w2.alloc (.cells #[I D i3_0,I D i3_1,I B i3_2,I H i3_3,I H i3_4] 39)) fun w4:W=>
 ∃ S5:W→Prop,S5 w4.drew∧
(Let (w4.drew) fun w6:W=>
 ∃ x7 x8 x9 x10 x11:Int,(5=5∧(∀ w',S5 w'→At w' ⟨g1,0,N⟩ [I D x7,I D x8,I B x9,I H x10,I H x11]))∧
(∃ x12 x13 x14 x15 x16:Int,(5=5∧(∀ w',S5 w'→At w' ⟨g3,0,N⟩ [I D x12,I D x13,I B x14,I H x15,I H x16]))∧
((Calls Tryz.prog 70 #[G #[I D x7,I D x8,I B x9,I H x10,I H x11]] w6 (fun (e18:Ending) (w17:W)=>
 ∃ x19 x20 x21 x22 x23 x24:Int,e18=.returned (G #[I H x19,I H x20,I H x21,I H x22,I H x23,I H x24])∧
(S5 w17∧
((Calls Tryz.prog 70 #[G #[I D x12,I D x13,I B x14,I H x15,I H x16]] w17 (fun (e26:Ending) (w25:W)=>
 ∃ x27 x28 x29 x30 x31 x32:Int,e26=.returned (G #[I H x27,I H x28,I H x29,I H x30,I H x31,I H x32])∧
(S5 w25∧
((Let (w25.heap.size) fun g33:Nat=>
 Let (w25.alloc (.cells #[I H 0,I H 0,I H 0,I H 0,I H 0,I H 0] 125)) fun w34:W=>
 S5 w34∧
(Let (w34.heap.size) fun g35:Nat=>
 Let (w34.alloc (.cells #[I H 0,I H 0,I H 0,I H 0,I H 0,I H 0] 125)) fun w36:W=>
 S5 w36∧
(May w36 ⟨g33,0,N⟩ 6∧
(Let (putCells w36 ⟨g33,0,N⟩ [I H x19,I H x20,I H x21,I H x22,I H x23,I H x24] 0) fun w37:W=>
 S5 w37∧
(May w37 ⟨g35,0,N⟩ 6∧
(Let (putCells w37 ⟨g35,0,N⟩ [I H x27,I H x28,I H x29,I H x30,I H x31,I H x32] 0) fun w38:W=>
 S5 w38∧
(Leaf (qq78.j1 I0 in0 ic0 i1 i4 g3 g33 g35 (G #[I D i2_0,I D i2_1,I B i2_2,I H i2_3,I H i2_4]) (G #[I D i3_0,I D i3_1,I B i3_2,I H i3_3,I H i3_4]) U U (P (some ⟨g1,0,N⟩)) U U U U (G #[I D x7,I D x8,I B x9,I H x10,I H x11]) (G #[I H x19,I H x20,I H x21,I H x22,I H x23,I H x24]) (G #[I D x12,I D x13,I B x14,I H x15,I H x16]) (G #[I H x27,I H x28,I H x29,I H x30,I H x31,I H x32]) U U U U U U U U U U U U U U U U U U U U U U U U U U U U U U U U U U U U U U U U U U U U U U U U U U U U U U U U U U U U U U U U U w38 R))))))))∧
(Let (w25.heap.size) fun g39:Nat=>
 Let (w25.alloc (.cells #[I H 0,I H 0,I H 0,I H 0,I H 0,I H 0] 125)) fun w40:W=>
 S5 w40∧
(Let (w40.heap.size) fun g41:Nat=>
 Let (w40.alloc (.cells #[I H 0,I H 0,I H 0,I H 0,I H 0,I H 0] 125)) fun w42:W=>
 S5 w42∧
(May w42 ⟨g41,0,N⟩ 6∧
(Let (putCells w42 ⟨g41,0,N⟩ [I H x19,I H x20,I H x21,I H x22,I H x23,I H x24] 0) fun w43:W=>
 S5 w43∧
(May w43 ⟨g39,0,N⟩ 6∧
(Let (putCells w43 ⟨g39,0,N⟩ [I H x27,I H x28,I H x29,I H x30,I H x31,I H x32] 0) fun w44:W=>
 S5 w44∧
(Leaf (qq78.j1 I0 in0 ic0 i1 i4 g3 g41 g39 (G #[I D i2_0,I D i2_1,I B i2_2,I H i2_3,I H i2_4]) (G #[I D i3_0,I D i3_1,I B i3_2,I H i3_3,I H i3_4]) U U (P (some ⟨g1,0,N⟩)) U U U U (G #[I D x7,I D x8,I B x9,I H x10,I H x11]) (G #[I H x19,I H x20,I H x21,I H x22,I H x23,I H x24]) (G #[I D x12,I D x13,I B x14,I H x15,I H x16]) (G #[I H x27,I H x28,I H x29,I H x30,I H x31,I H x32]) U U U U U U U U U U U U U U U U U U U U U U U U U U U U U U U U U U U U U U U U U U U U U U U U U U U U U U U U U U U U U U U U U w44 R))))))))))))∧
(Let (w17.heap.size) fun g45:Nat=>
 Let (w17.alloc (.cells #[I H 0,I H 0,I H 0,I H 0,I H 0,I H 0] 125)) fun w46:W=>
 S5 w46∧
((Calls Tryz.prog 70 #[G #[I D x12,I D x13,I B x14,I H x15,I H x16]] w46 (fun (e48:Ending) (w47:W)=>
 ∃ x49 x50 x51 x52 x53 x54:Int,e48=.returned (G #[I H x49,I H x50,I H x51,I H x52,I H x53,I H x54])∧
(S5 w47∧
(Let (w47.heap.size) fun g55:Nat=>
 Let (w47.alloc (.cells #[I H 0,I H 0,I H 0,I H 0,I H 0,I H 0] 125)) fun w56:W=>
 S5 w56∧
(May w56 ⟨g45,0,N⟩ 6∧
(Let (putCells w56 ⟨g45,0,N⟩ [I H x19,I H x20,I H x21,I H x22,I H x23,I H x24] 0) fun w57:W=>
 S5 w57∧
(May w57 ⟨g55,0,N⟩ 6∧
(Let (putCells w57 ⟨g55,0,N⟩ [I H x49,I H x50,I H x51,I H x52,I H x53,I H x54] 0) fun w58:W=>
 S5 w58∧
(Leaf (qq78.j1 I0 in0 ic0 i1 i4 g3 g45 g55 (G #[I D i2_0,I D i2_1,I B i2_2,I H i2_3,I H i2_4]) (G #[I D i3_0,I D i3_1,I B i3_2,I H i3_3,I H i3_4]) U U (P (some ⟨g1,0,N⟩)) U U U U (G #[I D x7,I D x8,I B x9,I H x10,I H x11]) (G #[I H x19,I H x20,I H x21,I H x22,I H x23,I H x24]) (G #[I D x12,I D x13,I B x14,I H x15,I H x16]) (G #[I H x49,I H x50,I H x51,I H x52,I H x53,I H x54]) U U U U U U U U U U U U U U U U U U U U U U U U U U U U U U U U U U U U U U U U U U U U U U U U U U U U U U U U U U U U U U U U U w58 R))))))))))∧
(Let (w46.heap.size) fun g59:Nat=>
 Let (w46.alloc (.cells #[I H 0,I H 0,I H 0,I H 0,I H 0,I H 0] 125)) fun w60:W=>
 S5 w60∧
(Calls Tryz.prog 70 #[G #[I D x12,I D x13,I B x14,I H x15,I H x16]] w60 (fun (e62:Ending) (w61:W)=>
 ∃ x63 x64 x65 x66 x67 x68:Int,e62=.returned (G #[I H x63,I H x64,I H x65,I H x66,I H x67,I H x68])∧
(S5 w61∧
(May w61 ⟨g45,0,N⟩ 6∧
(Let (putCells w61 ⟨g45,0,N⟩ [I H x19,I H x20,I H x21,I H x22,I H x23,I H x24] 0) fun w69:W=>
 S5 w69∧
(May w69 ⟨g59,0,N⟩ 6∧
(Let (putCells w69 ⟨g59,0,N⟩ [I H x63,I H x64,I H x65,I H x66,I H x67,I H x68] 0) fun w70:W=>
 S5 w70∧
(Leaf (qq78.j1 I0 in0 ic0 i1 i4 g3 g45 g59 (G #[I D i2_0,I D i2_1,I B i2_2,I H i2_3,I H i2_4]) (G #[I D i3_0,I D i3_1,I B i3_2,I H i3_3,I H i3_4]) U U (P (some ⟨g1,0,N⟩)) U U U U (G #[I D x7,I D x8,I B x9,I H x10,I H x11]) (G #[I H x19,I H x20,I H x21,I H x22,I H x23,I H x24]) (G #[I D x12,I D x13,I B x14,I H x15,I H x16]) (G #[I H x63,I H x64,I H x65,I H x66,I H x67,I H x68]) U U U U U U U U U U U U U U U U U U U U U U U U U U U U U U U U U U U U U U U U U U U U U U U U U U U U U U U U U U U U U U U U U w70 R))))))))))))∧
(Let (w17.heap.size) fun g71:Nat=>
 Let (w17.alloc (.cells #[I H 0,I H 0,I H 0,I H 0,I H 0,I H 0] 125)) fun w72:W=>
 S5 w72∧
((Calls Tryz.prog 70 #[G #[I D x12,I D x13,I B x14,I H x15,I H x16]] w72 (fun (e74:Ending) (w73:W)=>
 ∃ x75 x76 x77 x78 x79 x80:Int,e74=.returned (G #[I H x75,I H x76,I H x77,I H x78,I H x79,I H x80])∧
(S5 w73∧
(Let (w73.heap.size) fun g81:Nat=>
 Let (w73.alloc (.cells #[I H 0,I H 0,I H 0,I H 0,I H 0,I H 0] 125)) fun w82:W=>
 S5 w82∧
(May w82 ⟨g81,0,N⟩ 6∧
(Let (putCells w82 ⟨g81,0,N⟩ [I H x19,I H x20,I H x21,I H x22,I H x23,I H x24] 0) fun w83:W=>
 S5 w83∧
(May w83 ⟨g71,0,N⟩ 6∧
(Let (putCells w83 ⟨g71,0,N⟩ [I H x75,I H x76,I H x77,I H x78,I H x79,I H x80] 0) fun w84:W=>
 S5 w84∧
(Leaf (qq78.j1 I0 in0 ic0 i1 i4 g3 g81 g71 (G #[I D i2_0,I D i2_1,I B i2_2,I H i2_3,I H i2_4]) (G #[I D i3_0,I D i3_1,I B i3_2,I H i3_3,I H i3_4]) U U (P (some ⟨g1,0,N⟩)) U U U U (G #[I D x7,I D x8,I B x9,I H x10,I H x11]) (G #[I H x19,I H x20,I H x21,I H x22,I H x23,I H x24]) (G #[I D x12,I D x13,I B x14,I H x15,I H x16]) (G #[I H x75,I H x76,I H x77,I H x78,I H x79,I H x80]) U U U U U U U U U U U U U U U U U U U U U U U U U U U U U U U U U U U U U U U U U U U U U U U U U U U U U U U U U U U U U U U U U w84 R))))))))))∧
(Let (w72.heap.size) fun g85:Nat=>
 Let (w72.alloc (.cells #[I H 0,I H 0,I H 0,I H 0,I H 0,I H 0] 125)) fun w86:W=>
 S5 w86∧
(Calls Tryz.prog 70 #[G #[I D x12,I D x13,I B x14,I H x15,I H x16]] w86 (fun (e88:Ending) (w87:W)=>
 ∃ x89 x90 x91 x92 x93 x94:Int,e88=.returned (G #[I H x89,I H x90,I H x91,I H x92,I H x93,I H x94])∧
(S5 w87∧
(May w87 ⟨g85,0,N⟩ 6∧
(Let (putCells w87 ⟨g85,0,N⟩ [I H x19,I H x20,I H x21,I H x22,I H x23,I H x24] 0) fun w95:W=>
 S5 w95∧
(May w95 ⟨g71,0,N⟩ 6∧
(Let (putCells w95 ⟨g71,0,N⟩ [I H x89,I H x90,I H x91,I H x92,I H x93,I H x94] 0) fun w96:W=>
 S5 w96∧
(Leaf (qq78.j1 I0 in0 ic0 i1 i4 g3 g85 g71 (G #[I D i2_0,I D i2_1,I B i2_2,I H i2_3,I H i2_4]) (G #[I D i3_0,I D i3_1,I B i3_2,I H i3_3,I H i3_4]) U U (P (some ⟨g1,0,N⟩)) U U U U (G #[I D x7,I D x8,I B x9,I H x10,I H x11]) (G #[I H x19,I H x20,I H x21,I H x22,I H x23,I H x24]) (G #[I D x12,I D x13,I B x14,I H x15,I H x16]) (G #[I H x89,I H x90,I H x91,I H x92,I H x93,I H x94]) U U U U U U U U U U U U U U U U U U U U U U U U U U U U U U U U U U U U U U U U U U U U U U U U U U U U U U U U U U U U U U U U U w96 R))))))))))))))))∧
(Let (w6.heap.size) fun g97:Nat=>
 Let (w6.alloc (.cells #[I H 0,I H 0,I H 0,I H 0,I H 0,I H 0] 125)) fun w98:W=>
 S5 w98∧
((Calls Tryz.prog 70 #[G #[I D x7,I D x8,I B x9,I H x10,I H x11]] w98 (fun (e100:Ending) (w99:W)=>
 ∃ x101 x102 x103 x104 x105 x106:Int,e100=.returned (G #[I H x101,I H x102,I H x103,I H x104,I H x105,I H x106])∧
(S5 w99∧
((Calls Tryz.prog 70 #[G #[I D x12,I D x13,I B x14,I H x15,I H x16]] w99 (fun (e108:Ending) (w107:W)=>
 ∃ x109 x110 x111 x112 x113 x114:Int,e108=.returned (G #[I H x109,I H x110,I H x111,I H x112,I H x113,I H x114])∧
(S5 w107∧
(Let (w107.heap.size) fun g115:Nat=>
 Let (w107.alloc (.cells #[I H 0,I H 0,I H 0,I H 0,I H 0,I H 0] 125)) fun w116:W=>
 S5 w116∧
(May w116 ⟨g97,0,N⟩ 6∧
(Let (putCells w116 ⟨g97,0,N⟩ [I H x101,I H x102,I H x103,I H x104,I H x105,I H x106] 0) fun w117:W=>
 S5 w117∧
(May w117 ⟨g115,0,N⟩ 6∧
(Let (putCells w117 ⟨g115,0,N⟩ [I H x109,I H x110,I H x111,I H x112,I H x113,I H x114] 0) fun w118:W=>
 S5 w118∧
(Leaf (qq78.j1 I0 in0 ic0 i1 i4 g3 g97 g115 (G #[I D i2_0,I D i2_1,I B i2_2,I H i2_3,I H i2_4]) (G #[I D i3_0,I D i3_1,I B i3_2,I H i3_3,I H i3_4]) U U (P (some ⟨g1,0,N⟩)) U U U U (G #[I D x7,I D x8,I B x9,I H x10,I H x11]) (G #[I H x101,I H x102,I H x103,I H x104,I H x105,I H x106]) (G #[I D x12,I D x13,I B x14,I H x15,I H x16]) (G #[I H x109,I H x110,I H x111,I H x112,I H x113,I H x114]) U U U U U U U U U U U U U U U U U U U U U U U U U U U U U U U U U U U U U U U U U U U U U U U U U U U U U U U U U U U U U U U U U w118 R))))))))))∧
(Let (w99.heap.size) fun g119:Nat=>
 Let (w99.alloc (.cells #[I H 0,I H 0,I H 0,I H 0,I H 0,I H 0] 125)) fun w120:W=>
 S5 w120∧
(Calls Tryz.prog 70 #[G #[I D x12,I D x13,I B x14,I H x15,I H x16]] w120 (fun (e122:Ending) (w121:W)=>
 ∃ x123 x124 x125 x126 x127 x128:Int,e122=.returned (G #[I H x123,I H x124,I H x125,I H x126,I H x127,I H x128])∧
(S5 w121∧
(May w121 ⟨g97,0,N⟩ 6∧
(Let (putCells w121 ⟨g97,0,N⟩ [I H x101,I H x102,I H x103,I H x104,I H x105,I H x106] 0) fun w129:W=>
 S5 w129∧
(May w129 ⟨g119,0,N⟩ 6∧
(Let (putCells w129 ⟨g119,0,N⟩ [I H x123,I H x124,I H x125,I H x126,I H x127,I H x128] 0) fun w130:W=>
 S5 w130∧
(Leaf (qq78.j1 I0 in0 ic0 i1 i4 g3 g97 g119 (G #[I D i2_0,I D i2_1,I B i2_2,I H i2_3,I H i2_4]) (G #[I D i3_0,I D i3_1,I B i3_2,I H i3_3,I H i3_4]) U U (P (some ⟨g1,0,N⟩)) U U U U (G #[I D x7,I D x8,I B x9,I H x10,I H x11]) (G #[I H x101,I H x102,I H x103,I H x104,I H x105,I H x106]) (G #[I D x12,I D x13,I B x14,I H x15,I H x16]) (G #[I H x123,I H x124,I H x125,I H x126,I H x127,I H x128]) U U U U U U U U U U U U U U U U U U U U U U U U U U U U U U U U U U U U U U U U U U U U U U U U U U U U U U U U U U U U U U U U U w130 R))))))))))))))∧
(Let (w98.heap.size) fun g131:Nat=>
 Let (w98.alloc (.cells #[I H 0,I H 0,I H 0,I H 0,I H 0,I H 0] 125)) fun w132:W=>
 S5 w132∧
(Calls Tryz.prog 70 #[G #[I D x7,I D x8,I B x9,I H x10,I H x11]] w132 (fun (e134:Ending) (w133:W)=>
 ∃ x135 x136 x137 x138 x139 x140:Int,e134=.returned (G #[I H x135,I H x136,I H x137,I H x138,I H x139,I H x140])∧
(S5 w133∧
(Calls Tryz.prog 70 #[G #[I D x12,I D x13,I B x14,I H x15,I H x16]] w133 (fun (e142:Ending) (w141:W)=>
 ∃ x143 x144 x145 x146 x147 x148:Int,e142=.returned (G #[I H x143,I H x144,I H x145,I H x146,I H x147,I H x148])∧
(S5 w141∧
(May w141 ⟨g97,0,N⟩ 6∧
(Let (putCells w141 ⟨g97,0,N⟩ [I H x135,I H x136,I H x137,I H x138,I H x139,I H x140] 0) fun w149:W=>
 S5 w149∧
(May w149 ⟨g131,0,N⟩ 6∧
(Let (putCells w149 ⟨g131,0,N⟩ [I H x143,I H x144,I H x145,I H x146,I H x147,I H x148] 0) fun w150:W=>
 S5 w150∧
(Leaf (qq78.j1 I0 in0 ic0 i1 i4 g3 g97 g131 (G #[I D i2_0,I D i2_1,I B i2_2,I H i2_3,I H i2_4]) (G #[I D i3_0,I D i3_1,I B i3_2,I H i3_3,I H i3_4]) U U (P (some ⟨g1,0,N⟩)) U U U U (G #[I D x7,I D x8,I B x9,I H x10,I H x11]) (G #[I H x135,I H x136,I H x137,I H x138,I H x139,I H x140]) (G #[I D x12,I D x13,I B x14,I H x15,I H x16]) (G #[I H x143,I H x144,I H x145,I H x146,I H x147,I H x148]) U U U U U U U U U U U U U U U U U U U U U U U U U U U U U U U U U U U U U U U U U U U U U U U U U U U U U U U U U U U U U U U U U w150 R)))))))))))))))∧
(Let (w6.heap.size) fun g151:Nat=>
 Let (w6.alloc (.cells #[I H 0,I H 0,I H 0,I H 0,I H 0,I H 0] 125)) fun w152:W=>
 S5 w152∧
((Calls Tryz.prog 70 #[G #[I D x7,I D x8,I B x9,I H x10,I H x11]] w152 (fun (e154:Ending) (w153:W)=>
 ∃ x155 x156 x157 x158 x159 x160:Int,e154=.returned (G #[I H x155,I H x156,I H x157,I H x158,I H x159,I H x160])∧
(S5 w153∧
((Calls Tryz.prog 70 #[G #[I D x12,I D x13,I B x14,I H x15,I H x16]] w153 (fun (e162:Ending) (w161:W)=>
 ∃ x163 x164 x165 x166 x167 x168:Int,e162=.returned (G #[I H x163,I H x164,I H x165,I H x166,I H x167,I H x168])∧
(S5 w161∧
(Let (w161.heap.size) fun g169:Nat=>
 Let (w161.alloc (.cells #[I H 0,I H 0,I H 0,I H 0,I H 0,I H 0] 125)) fun w170:W=>
 S5 w170∧
(May w170 ⟨g169,0,N⟩ 6∧
(Let (putCells w170 ⟨g169,0,N⟩ [I H x155,I H x156,I H x157,I H x158,I H x159,I H x160] 0) fun w171:W=>
 S5 w171∧
(May w171 ⟨g151,0,N⟩ 6∧
(Let (putCells w171 ⟨g151,0,N⟩ [I H x163,I H x164,I H x165,I H x166,I H x167,I H x168] 0) fun w172:W=>
 S5 w172∧
(Leaf (qq78.j1 I0 in0 ic0 i1 i4 g3 g169 g151 (G #[I D i2_0,I D i2_1,I B i2_2,I H i2_3,I H i2_4]) (G #[I D i3_0,I D i3_1,I B i3_2,I H i3_3,I H i3_4]) U U (P (some ⟨g1,0,N⟩)) U U U U (G #[I D x7,I D x8,I B x9,I H x10,I H x11]) (G #[I H x155,I H x156,I H x157,I H x158,I H x159,I H x160]) (G #[I D x12,I D x13,I B x14,I H x15,I H x16]) (G #[I H x163,I H x164,I H x165,I H x166,I H x167,I H x168]) U U U U U U U U U U U U U U U U U U U U U U U U U U U U U U U U U U U U U U U U U U U U U U U U U U U U U U U U U U U U U U U U U w172 R))))))))))∧
(Let (w153.heap.size) fun g173:Nat=>
 Let (w153.alloc (.cells #[I H 0,I H 0,I H 0,I H 0,I H 0,I H 0] 125)) fun w174:W=>
 S5 w174∧
(Calls Tryz.prog 70 #[G #[I D x12,I D x13,I B x14,I H x15,I H x16]] w174 (fun (e176:Ending) (w175:W)=>
 ∃ x177 x178 x179 x180 x181 x182:Int,e176=.returned (G #[I H x177,I H x178,I H x179,I H x180,I H x181,I H x182])∧
(S5 w175∧
(May w175 ⟨g173,0,N⟩ 6∧
(Let (putCells w175 ⟨g173,0,N⟩ [I H x155,I H x156,I H x157,I H x158,I H x159,I H x160] 0) fun w183:W=>
 S5 w183∧
(May w183 ⟨g151,0,N⟩ 6∧
(Let (putCells w183 ⟨g151,0,N⟩ [I H x177,I H x178,I H x179,I H x180,I H x181,I H x182] 0) fun w184:W=>
 S5 w184∧
(Leaf (qq78.j1 I0 in0 ic0 i1 i4 g3 g173 g151 (G #[I D i2_0,I D i2_1,I B i2_2,I H i2_3,I H i2_4]) (G #[I D i3_0,I D i3_1,I B i3_2,I H i3_3,I H i3_4]) U U (P (some ⟨g1,0,N⟩)) U U U U (G #[I D x7,I D x8,I B x9,I H x10,I H x11]) (G #[I H x155,I H x156,I H x157,I H x158,I H x159,I H x160]) (G #[I D x12,I D x13,I B x14,I H x15,I H x16]) (G #[I H x177,I H x178,I H x179,I H x180,I H x181,I H x182]) U U U U U U U U U U U U U U U U U U U U U U U U U U U U U U U U U U U U U U U U U U U U U U U U U U U U U U U U U U U U U U U U U w184 R))))))))))))))∧
(Let (w152.heap.size) fun g185:Nat=>
 Let (w152.alloc (.cells #[I H 0,I H 0,I H 0,I H 0,I H 0,I H 0] 125)) fun w186:W=>
 S5 w186∧
(Calls Tryz.prog 70 #[G #[I D x7,I D x8,I B x9,I H x10,I H x11]] w186 (fun (e188:Ending) (w187:W)=>
 ∃ x189 x190 x191 x192 x193 x194:Int,e188=.returned (G #[I H x189,I H x190,I H x191,I H x192,I H x193,I H x194])∧
(S5 w187∧
(Calls Tryz.prog 70 #[G #[I D x12,I D x13,I B x14,I H x15,I H x16]] w187 (fun (e196:Ending) (w195:W)=>
 ∃ x197 x198 x199 x200 x201 x202:Int,e196=.returned (G #[I H x197,I H x198,I H x199,I H x200,I H x201,I H x202])∧
(S5 w195∧
(May w195 ⟨g185,0,N⟩ 6∧
(Let (putCells w195 ⟨g185,0,N⟩ [I H x189,I H x190,I H x191,I H x192,I H x193,I H x194] 0) fun w203:W=>
 S5 w203∧
(May w203 ⟨g151,0,N⟩ 6∧
(Let (putCells w203 ⟨g151,0,N⟩ [I H x197,I H x198,I H x199,I H x200,I H x201,I H x202] 0) fun w204:W=>
 S5 w204∧
(Leaf (qq78.j1 I0 in0 ic0 i1 i4 g3 g185 g151 (G #[I D i2_0,I D i2_1,I B i2_2,I H i2_3,I H i2_4]) (G #[I D i3_0,I D i3_1,I B i3_2,I H i3_3,I H i3_4]) U U (P (some ⟨g1,0,N⟩)) U U U U (G #[I D x7,I D x8,I B x9,I H x10,I H x11]) (G #[I H x189,I H x190,I H x191,I H x192,I H x193,I H x194]) (G #[I D x12,I D x13,I B x14,I H x15,I H x16]) (G #[I H x197,I H x198,I H x199,I H x200,I H x201,I H x202]) U U U U U U U U U U U U U U U U U U U U U U U U U U U U U U U U U U U U U U U U U U U U U U U U U U U U U U U U U U U U U U U U U w204 R)))))))))))))))))))
theorem qq78.run (h:qq78.s I0 in0 ic0 i1 i2_0 i2_1 i2_2 i2_3 i2_4 i3_0 i3_1 i3_2 i3_3 i3_4 i4 w R):Calls Tryz.prog 37 #[S I0 in0 ic0,I B i1,G #[I D i2_0,I D i2_1,I B i2_2,I H i2_3,I H i2_4],G #[I D i3_0,I D i3_1,I B i3_2,I H i3_3,I H i3_4],T i4] w R:=
 calls_segk (ords:=qq78.ords) (J:=qq78.joins) ents mixed Tryz.func37 rfl h (by kernel_rfl)
def qq93.ords:Nat→Od
 | _=>.nil
def qq93.joins (p:List Nat):Bool:=false
def qq93.l1 (n:Nat) (y1:Int) (Y7:Option Addr) (yn7 yc7:Nat) (y8 y9:Int) (d0 d2 d3 d4 d5 d6 dA dB dC dD dE dF dG dH dI dJ dK dL dM dN dO dP dQ dR:V) (w:W) (R:E):Prop:=
 lseg Tryz.prog entE qq93.ords qq93.joins Tryz.f73 [1,0,1,0] [0,1,0,1] [] n [d0,I L y1,d2,d3,d4,d5,d6,S Y7 yn7 yc7,I L y8,I L y9,dA,dB,dC,dD,dE,dF,dG,dH,dI,dJ,dK,dL,dM,dN,dO,dP,dQ,dR] w R
abbrev qq93.L1 (n:Nat) (y1:Int) (Y7:Option Addr) (yn7 yc7:Nat) (y8 y9:Int) (w:W) (R:E):Prop:=∀ d0 d2 d3 d4 d5 d6 dA dB dC dD dE dF dG dH dI dJ dK dL dM dN dO dP dQ dR,qq93.l1 n y1 Y7 yn7 yc7 y8 y9 d0 d2 d3 d4 d5 d6 dA dB dC dD dE dF dG dH dI dJ dK dL dM dN dO dP dQ dR w R
theorem qq93.l1_eq {n:Nat}:qq93.l1 (n+1) y1 Y7 yn7 yc7 y8 y9 d0 d2 d3 d4 d5 d6 dA dB dC dD dE dF dG dH dI dJ dK dL dM dN dO dP dQ dR w R =
((if decide (y9 < y8)=true then
(∃ a1:Addr,Y7=some a1∧(0≤y9∧y9 < (yn7:Int))∧
(∃ x2:Int,w.cell? (a1.add y9.toNat)=some (I B x2)∧
((if (x2 != 0)=true then
((if (y9 != y1)=true then
(Let (L.wrap (y1+1)) fun x3:Int=>
(if (y9 != x3)=true then
(R (.returned (T false)) w)
else
(Let (L.wrap (y9+1)) fun x4:Int=>
 qq93.l1 n y1 Y7 yn7 yc7 y8 x4 d0 d2 d3 d4 (I L y9) (I B x2) (T (decide (y9 < y8))) (I L y9) (P (some (a1.add y9.toNat))) (I B x2) (I B x2) (T (x2 != 0)) (T true) (I L y9) (I L y1) (T (y9 != y1)) (T (y9 != y1)) (T true) (I L y9) (I L y1) (I L x3) (T (y9 != x3)) (T (y9 != x3)) (I L x4) w R)))
else
(Let (L.wrap (y9+1)) fun x5:Int=>
 qq93.l1 n y1 Y7 yn7 yc7 y8 x5 d0 d2 d3 d4 (I L y9) (I B x2) (T (decide (y9 < y8))) (I L y9) (P (some (a1.add y9.toNat))) (I B x2) (I B x2) (T (x2 != 0)) (T true) (I L y9) (I L y1) (T (y9 != y1)) (T (y9 != y1)) (T false) U U U U (T false) (I L x5) w R)))
else
(Let (L.wrap (y9+1)) fun x6:Int=>
 qq93.l1 n y1 Y7 yn7 yc7 y8 x6 d0 d2 d3 d4 (I L y9) (I B x2) (T (decide (y9 < y8))) (I L y9) (P (some (a1.add y9.toNat))) (I B x2) (I B x2) (T (x2 != 0)) (T false) U U U (T false) (T false) U U U U (T false) (I L x6) w R)))))
else
(R (.returned (T true)) w))):=by kernel_rfl
def qq93.s (I0:Option Addr) (in0 ic0:Nat) (i1:Int) (w:W) (R:E):Prop:=
(∃ n1:Nat,qq93.l1 n1 i1 I0 in0 ic0 (in0:Int) 0 (S I0 in0 ic0) U U (T false) U U U U U U U U U U U U U U U U U U U U w R)
theorem qq93.run (h:qq93.s I0 in0 ic0 i1 w R):Calls Tryz.prog 73 #[S I0 in0 ic0,I L i1] w R:=
 calls_segk (ords:=qq93.ords) (J:=qq93.joins) ents mixed Tryz.func73 rfl h (by kernel_rfl)
def qq88.ords:Nat→Od
 | _=>.nil
def qq88.joins (p:List Nat):Bool:=false
def qq88.s (I0:Option Addr) (in0 ic0:Nat) (w:W) (R:E):Prop:=
(AppE w 1 1 5 [I B 0] N 0 0 I0 in0 (fun (A1:Option Addr) (c2:Nat) (w3:W)=>
 R (.returned (S A1 (0+in0) c2)) w3))
theorem qq88.run (h:qq88.s I0 in0 ic0 w R):Calls Tryz.prog 36 #[S I0 in0 ic0] w R:=
 calls_segk (ords:=qq88.ords) (J:=qq88.joins) ents mixed Tryz.func36 rfl h (by kernel_rfl)
def qq100.ords:Nat→Od
 | 7=>(.tk 0 (.tk 1 (.tk 2 (.tk 3 (.two 4 6 (.tk 5 (.on 6 (.on 7 .nil))) (.on 4 (.tk 5 (.on 7 .nil))))))))
 | 9=>(.tk 0 (.tk 1 (.tk 2 (.tk 3 (.tk 4 (.tk 5 (.on 6 (.tk 7 (.tk 8 (.on 9 .nil))))))))))
 | _=>.nil
def qq100.joins (p:List Nat):Bool:=p == [1,1,1,1] || p == [1,1,1,1,1] || p == [1,1,1,1,1,1,1,1]
def qq100.j1 (yg2 yg3 yg4 yg8:Nat) (d0 d1 d5 d6 d7 d9 dA dB dC dD dE dF dG dH dI dJ dK dL dM dN dO dP dQ dR dS dT dU dV dW dX dY dZ k0 k1 k2 k3 k4 k5 k6 k7 k8 k9 kA kB kC kD kE kF kG kH kI kJ kK kL kM kN kO kP kQ kR kS kT kU kV kW kX kY kZ v0 v1 v2 v3 v4 v5 v6:V) (w:W) (R:E):Prop:=
 seg Tryz.prog entE qq100.ords qq100.joins Tryz.f16 [1,1,1,1] [1,1,1,1] [] [d0,d1,P (some ⟨yg2,0,N⟩),P (some ⟨yg3,0,N⟩),P (some ⟨yg4,0,N⟩),d5,d6,d7,P (some ⟨yg8,0,N⟩),d9,dA,dB,dC,dD,dE,dF,dG,dH,dI,dJ,dK,dL,dM,dN,dO,dP,dQ,dR,dS,dT,dU,dV,dW,dX,dY,dZ,k0,k1,k2,k3,k4,k5,k6,k7,k8,k9,kA,kB,kC,kD,kE,kF,kG,kH,kI,kJ,kK,kL,kM,kN,kO,kP,kQ,kR,kS,kT,kU,kV,kW,kX,kY,kZ,v0,v1,v2,v3,v4,v5,v6] w R
def qq100.j2 (yg2 yg3 yg4 yg8 yg10:Nat) (d0 d1 d5 d6 d7 d9 dB dC dD dE dF dG dH dI dJ dK dL dM dN dO dP dQ dR dS dT dU dV dW dX dY dZ k0 k1 k2 k3 k4 k5 k6 k7 k8 k9 kA kB kC kD kE kF kG kH kI kJ kK kL kM kN kO kP kQ kR kS kT kU kV kW kX kY kZ v0 v1 v2 v3 v4 v5 v6:V) (w:W) (R:E):Prop:=
 seg Tryz.prog entE qq100.ords qq100.joins Tryz.f16 [1,1,1,1,1] [1,1,1,1,1] [] [d0,d1,P (some ⟨yg2,0,N⟩),P (some ⟨yg3,0,N⟩),P (some ⟨yg4,0,N⟩),d5,d6,d7,P (some ⟨yg8,0,N⟩),d9,P (some ⟨yg10,0,N⟩),dB,dC,dD,dE,dF,dG,dH,dI,dJ,dK,dL,dM,dN,dO,dP,dQ,dR,dS,dT,dU,dV,dW,dX,dY,dZ,k0,k1,k2,k3,k4,k5,k6,k7,k8,k9,kA,kB,kC,kD,kE,kF,kG,kH,kI,kJ,kK,kL,kM,kN,kO,kP,kQ,kR,kS,kT,kU,kV,kW,kX,kY,kZ,v0,v1,v2,v3,v4,v5,v6] w R
def qq100.j3 (yg4 yg10:Nat) (d0 d1 d2 d3 d5 d6 d7 d8 d9 dB dC dD dE dF dG dH dI dJ dK dL dM dN dO dP dQ dR dS dT dU dV dW dX dY dZ k0 k1 k2 k3 k4 k5 k6 k7 k8 k9 kA kB kC kD kE kF kG kH kI kJ kK kL kM kN kO kP kQ kR kS kT kU kV kW kX kY kZ v0 v1 v2 v3 v4 v5 v6:V) (w:W) (R:E):Prop:=
 seg Tryz.prog entE qq100.ords qq100.joins Tryz.f16 [1,1,1,1,1,1,1,1] [1,1,1,1,1,1,1,1] [] [d0,d1,d2,d3,P (some ⟨yg4,0,N⟩),d5,d6,d7,d8,d9,P (some ⟨yg10,0,N⟩),dB,dC,dD,dE,dF,dG,dH,dI,dJ,dK,dL,dM,dN,dO,dP,dQ,dR,dS,dT,dU,dV,dW,dX,dY,dZ,k0,k1,k2,k3,k4,k5,k6,k7,k8,k9,kA,kB,kC,kD,kE,kF,kG,kH,kI,kJ,kK,kL,kM,kN,kO,kP,kQ,kR,kS,kT,kU,kV,kW,kX,kY,kZ,v0,v1,v2,v3,v4,v5,v6] w R
abbrev qq100.J1 (yg2 yg3 yg4 yg8:Nat) (w:W) (R:E):Prop:=∀ d0 d1 d5 d6 d7 d9 dA dB dC dD dE dF dG dH dI dJ dK dL dM dN dO dP dQ dR dS dT dU dV dW dX dY dZ k0 k1 k2 k3 k4 k5 k6 k7 k8 k9 kA kB kC kD kE kF kG kH kI kJ kK kL kM kN kO kP kQ kR kS kT kU kV kW kX kY kZ v0 v1 v2 v3 v4 v5 v6,qq100.j1 yg2 yg3 yg4 yg8 d0 d1 d5 d6 d7 d9 dA dB dC dD dE dF dG dH dI dJ dK dL dM dN dO dP dQ dR dS dT dU dV dW dX dY dZ k0 k1 k2 k3 k4 k5 k6 k7 k8 k9 kA kB kC kD kE kF kG kH kI kJ kK kL kM kN kO kP kQ kR kS kT kU kV kW kX kY kZ v0 v1 v2 v3 v4 v5 v6 w R
abbrev qq100.J2 (yg2 yg3 yg4 yg8 yg10:Nat) (w:W) (R:E):Prop:=∀ d0 d1 d5 d6 d7 d9 dB dC dD dE dF dG dH dI dJ dK dL dM dN dO dP dQ dR dS dT dU dV dW dX dY dZ k0 k1 k2 k3 k4 k5 k6 k7 k8 k9 kA kB kC kD kE kF kG kH kI kJ kK kL kM kN kO kP kQ kR kS kT kU kV kW kX kY kZ v0 v1 v2 v3 v4 v5 v6,qq100.j2 yg2 yg3 yg4 yg8 yg10 d0 d1 d5 d6 d7 d9 dB dC dD dE dF dG dH dI dJ dK dL dM dN dO dP dQ dR dS dT dU dV dW dX dY dZ k0 k1 k2 k3 k4 k5 k6 k7 k8 k9 kA kB kC kD kE kF kG kH kI kJ kK kL kM kN kO kP kQ kR kS kT kU kV kW kX kY kZ v0 v1 v2 v3 v4 v5 v6 w R
abbrev qq100.J3 (yg4 yg10:Nat) (w:W) (R:E):Prop:=∀ d0 d1 d2 d3 d5 d6 d7 d8 d9 dB dC dD dE dF dG dH dI dJ dK dL dM dN dO dP dQ dR dS dT dU dV dW dX dY dZ k0 k1 k2 k3 k4 k5 k6 k7 k8 k9 kA kB kC kD kE kF kG kH kI kJ kK kL kM kN kO kP kQ kR kS kT kU kV kW kX kY kZ v0 v1 v2 v3 v4 v5 v6,qq100.j3 yg4 yg10 d0 d1 d2 d3 d5 d6 d7 d8 d9 dB dC dD dE dF dG dH dI dJ dK dL dM dN dO dP dQ dR dS dT dU dV dW dX dY dZ k0 k1 k2 k3 k4 k5 k6 k7 k8 k9 kA kB kC kD kE kF kG kH kI kJ kK kL kM kN kO kP kQ kR kS kT kU kV kW kX kY kZ v0 v1 v2 v3 v4 v5 v6 w R
theorem qq100.j1_eq:qq100.j1 yg2 yg3 yg4 yg8 d0 d1 d5 d6 d7 d9 dA dB dC dD dE dF dG dH dI dJ dK dL dM dN dO dP dQ dR dS dT dU dV dW dX dY dZ k0 k1 k2 k3 k4 k5 k6 k7 k8 k9 kA kB kC kD kE kF kG kH kI kJ kK kL kM kN kO kP kQ kR kS kT kU kV kW kX kY kZ v0 v1 v2 v3 v4 v5 v6 w R =
(∃ S1:W→Prop,S1 w.drew∧
(Let (w.drew) fun w2:W=>
 ∃ x3 x4:Int,∃ b5 b6:Bool,∃ x7 x8 x9 x10 x11:Int,∃ (A12:Option Addr) (n12_ c12_:Nat),(10=10∧(∀ w',S1 w'→At w' ⟨yg2,0,N⟩ [I B x3,I H x4,T b5,T b6,I L x7,I B x8,I B x9,I D x10,I D x11,S A12 n12_ c12_]))∧
(∃ (A13:Option Addr) (n13_ c13_:Nat),(∀ w',S1 w'→w'.cell? ⟨yg2,10,N⟩=some (S A13 n13_ c13_))∧
((Calls Tryz.prog 36 #[S A13 n13_ c13_] w2 (fun (e15:Ending) (w14:W)=>
 ∃ (A16:Option Addr) (n16_ c16_:Nat),e15=.returned (S A16 n16_ c16_)∧
(S1 w14∧
(Let (w14.heap.size) fun g17:Nat=>
 Let (w14.alloc (.cells #[I B 0,I H 0,T false,T false,I L 0,I B 0,I B 0,I D 0,I D 0,S N 0 0,S N 0 0] 37)) fun w18:W=>
 S1 w18∧
(May w18 ⟨g17,0,N⟩ 11∧
(Let (putCells w18 ⟨g17,0,N⟩ [I B x3,I H x4,T b5,T b6,I L x7,I B x8,I B x9,I D x10,I D x11,S A12 n12_ c12_,S A16 n16_ c16_] 0) fun w19:W=>
 S1 w19∧
(Leaf (qq100.j2 yg2 yg3 yg4 yg8 g17 d0 d1 d5 d6 d7 d9 dB dC dD dE dF dG dH dI dJ dK dL dM dN dO dP dQ dR dS dT dU dV dW dX dY dZ k0 k1 k2 k3 k4 k5 k6 k7 k8 k9 kA kB (P (some ⟨yg2,0,N⟩)) (G #[I B x3,I H x4,T b5,T b6,I L x7,I B x8,I B x9,I D x10,I D x11,S A12 n12_ c12_]) (P (some ⟨yg2,10,N⟩)) (S A13 n13_ c13_) (S A16 n16_ c16_) (G #[I B x3,I H x4,T b5,T b6,I L x7,I B x8,I B x9,I D x10,I D x11,S A12 n12_ c12_,S A16 n16_ c16_]) kI kJ kK kL kM kN kO kP kQ kR kS kT kU kV kW kX kY kZ v0 v1 v2 v3 v4 v5 v6 w19 R))))))))∧
(Let (w2.heap.size) fun g20:Nat=>
 Let (w2.alloc (.cells #[I B 0,I H 0,T false,T false,I L 0,I B 0,I B 0,I D 0,I D 0,S N 0 0,S N 0 0] 37)) fun w21:W=>
 S1 w21∧
(Calls Tryz.prog 36 #[S A13 n13_ c13_] w21 (fun (e23:Ending) (w22:W)=>
 ∃ (A24:Option Addr) (n24_ c24_:Nat),e23=.returned (S A24 n24_ c24_)∧
(S1 w22∧
(May w22 ⟨g20,0,N⟩ 11∧
(Let (putCells w22 ⟨g20,0,N⟩ [I B x3,I H x4,T b5,T b6,I L x7,I B x8,I B x9,I D x10,I D x11,S A12 n12_ c12_,S A24 n24_ c24_] 0) fun w25:W=>
 S1 w25∧
(Leaf (qq100.j2 yg2 yg3 yg4 yg8 g20 d0 d1 d5 d6 d7 d9 dB dC dD dE dF dG dH dI dJ dK dL dM dN dO dP dQ dR dS dT dU dV dW dX dY dZ k0 k1 k2 k3 k4 k5 k6 k7 k8 k9 kA kB (P (some ⟨yg2,0,N⟩)) (G #[I B x3,I H x4,T b5,T b6,I L x7,I B x8,I B x9,I D x10,I D x11,S A12 n12_ c12_]) (P (some ⟨yg2,10,N⟩)) (S A13 n13_ c13_) (S A24 n24_ c24_) (G #[I B x3,I H x4,T b5,T b6,I L x7,I B x8,I B x9,I D x10,I D x11,S A12 n12_ c12_,S A24 n24_ c24_]) kI kJ kK kL kM kN kO kP kQ kR kS kT kU kV kW kX kY kZ v0 v1 v2 v3 v4 v5 v6 w25 R)))))))))))):=by kernel_rfl
theorem qq100.j2_eq:qq100.j2 yg2 yg3 yg4 yg8 yg10 d0 d1 d5 d6 d7 d9 dB dC dD dE dF dG dH dI dJ dK dL dM dN dO dP dQ dR dS dT dU dV dW dX dY dZ k0 k1 k2 k3 k4 k5 k6 k7 k8 k9 kA kB kC kD kE kF kG kH kI kJ kK kL kM kN kO kP kQ kR kS kT kU kV kW kX kY kZ v0 v1 v2 v3 v4 v5 v6 w R =
(∃ (A1:Option Addr) (n1_ c1_:Nat),w.cell? ⟨yg2,9,N⟩=some (S A1 n1_ c1_)∧
(Calls Tryz.prog 36 #[S A1 n1_ c1_] w (fun (e3:Ending) (w2:W)=>
 ∃ (A4:Option Addr) (n4_ c4_:Nat),e3=.returned (S A4 n4_ c4_)∧
(MayC w2 ⟨yg10,9,N⟩∧
(Let (w2.setCell ⟨yg10,9,N⟩ (S A4 n4_ c4_)) fun w5:W=>
 ∃ S6:W→Prop,S6 w5.drew∧
(Let (w5.drew) fun w7:W=>
 ∃ x8:Int,(∀ w',S6 w'→w'.cell? ⟨yg3,0,N⟩=some (I D x8))∧
(∃ x9:Int,(∀ w',S6 w'→w'.cell? ⟨yg3,1,N⟩=some (I D x9))∧
(MayC w7 ⟨yg10,7,N⟩∧
(Let (w7.setCell ⟨yg10,7,N⟩ (I D x8)) fun w10:W=>
 S6 w10∧
(MayC w10 ⟨yg10,8,N⟩∧
(Let (w10.setCell ⟨yg10,8,N⟩ (I D x9)) fun w11:W=>
 S6 w11∧
(∃ x12 x13 x14 x15 x16:Int,(5=5∧At w11 ⟨yg8,0,N⟩ [I D x12,I D x13,I B x14,I H x15,I H x16])∧
(∃ x17 x18 x19 x20 x21:Int,(5=5∧At w11 ⟨yg3,0,N⟩ [I D x17,I D x18,I B x19,I H x20,I H x21])∧
((if (!(eqV [I D x12,I D x13,I B x14,I H x15,I H x16] [I D x17,I D x18,I B x19,I H x20,I H x21]))=true then
(∃ (A22:Option Addr) (n22_ c22_:Nat),w11.cell? ⟨yg10,10,N⟩=some (S A22 n22_ c22_)∧
(∃ x23:Int,w11.cell? ⟨yg3,2,N⟩=some (I B x23)∧
(∃ x24 x25 x26 x27 x28:Int,(5=5∧At w11 ⟨yg8,0,N⟩ [I D x24,I D x25,I B x26,I H x27,I H x28])∧
(∃ x29 x30 x31 x32 x33:Int,(5=5∧At w11 ⟨yg3,0,N⟩ [I D x29,I D x30,I B x31,I H x32,I H x33])∧
(Calls Tryz.prog 37 #[S A22 n22_ c22_,I B x23,G #[I D x24,I D x25,I B x26,I H x27,I H x28],G #[I D x29,I D x30,I B x31,I H x32,I H x33],T true] w11 (fun (e35:Ending) (w34:W)=>
 e35=.returned (.tuple #[])∧
(Leaf (qq100.j3 yg4 yg10 d0 d1 (P (some ⟨yg2,0,N⟩)) (P (some ⟨yg3,0,N⟩)) d5 d6 d7 (P (some ⟨yg8,0,N⟩)) d9 dB dC dD dE dF dG dH dI dJ dK dL dM dN dO dP dQ dR dS dT dU dV dW dX dY dZ k0 k1 k2 k3 k4 k5 k6 k7 k8 k9 kA kB kC kD kE kF kG kH (P (some ⟨yg2,0,N⟩)) (P (some ⟨yg2,9,N⟩)) (S A1 n1_ c1_) (S A4 n4_ c4_) (P (some ⟨yg10,0,N⟩)) (P (some ⟨yg10,9,N⟩)) (P (some ⟨yg3,0,N⟩)) (I D x8) (P (some ⟨yg3,1,N⟩)) (I D x9) (P (some ⟨yg10,0,N⟩)) (P (some ⟨yg10,7,N⟩)) (P (some ⟨yg10,0,N⟩)) (P (some ⟨yg10,8,N⟩)) (G #[I D x12,I D x13,I B x14,I H x15,I H x16]) (G #[I D x17,I D x18,I B x19,I H x20,I H x21]) (T (!(eqV [I D x12,I D x13,I B x14,I H x15,I H x16] [I D x17,I D x18,I B x19,I H x20,I H x21]))) (P (some ⟨yg10,10,N⟩)) (S A22 n22_ c22_) (P (some ⟨yg3,2,N⟩)) (I B x23) (G #[I D x24,I D x25,I B x26,I H x27,I H x28]) (G #[I D x29,I D x30,I B x31,I H x32,I H x33]) (.tuple #[]) v6 w34 R))))))))
else
(Leaf (qq100.j3 yg4 yg10 d0 d1 (P (some ⟨yg2,0,N⟩)) (P (some ⟨yg3,0,N⟩)) d5 d6 d7 (P (some ⟨yg8,0,N⟩)) d9 dB dC dD dE dF dG dH dI dJ dK dL dM dN dO dP dQ dR dS dT dU dV dW dX dY dZ k0 k1 k2 k3 k4 k5 k6 k7 k8 k9 kA kB kC kD kE kF kG kH (P (some ⟨yg2,0,N⟩)) (P (some ⟨yg2,9,N⟩)) (S A1 n1_ c1_) (S A4 n4_ c4_) (P (some ⟨yg10,0,N⟩)) (P (some ⟨yg10,9,N⟩)) (P (some ⟨yg3,0,N⟩)) (I D x8) (P (some ⟨yg3,1,N⟩)) (I D x9) (P (some ⟨yg10,0,N⟩)) (P (some ⟨yg10,7,N⟩)) (P (some ⟨yg10,0,N⟩)) (P (some ⟨yg10,8,N⟩)) (G #[I D x12,I D x13,I B x14,I H x15,I H x16]) (G #[I D x17,I D x18,I B x19,I H x20,I H x21]) (T (!(eqV [I D x12,I D x13,I B x14,I H x15,I H x16] [I D x17,I D x18,I B x19,I H x20,I H x21]))) kZ v0 v1 v2 v3 v4 v5 v6 w11 R))))))))))))))))):=by kernel_rfl
theorem qq100.j3_eq:qq100.j3 yg4 yg10 d0 d1 d2 d3 d5 d6 d7 d8 d9 dB dC dD dE dF dG dH dI dJ dK dL dM dN dO dP dQ dR dS dT dU dV dW dX dY dZ k0 k1 k2 k3 k4 k5 k6 k7 k8 k9 kA kB kC kD kE kF kG kH kI kJ kK kL kM kN kO kP kQ kR kS kT kU kV kW kX kY kZ v0 v1 v2 v3 v4 v5 v6 w R =
(∃ x1 x2:Int,∃ b3 b4:Bool,∃ x5 x6 x7 x8 x9:Int,∃ (A10:Option Addr) (n10_ c10_:Nat),∃ (A11:Option Addr) (n11_ c11_:Nat),(11=11∧At w ⟨yg10,0,N⟩ [I B x1,I H x2,T b3,T b4,I L x5,I B x6,I B x7,I D x8,I D x9,S A10 n10_ c10_,S A11 n11_ c11_])∧
(May w ⟨yg4,0,N⟩ 11∧
(Let (putCells w ⟨yg4,0,N⟩ [I B x1,I H x2,T b3,T b4,I L x5,I B x6,I B x7,I D x8,I D x9,S A10 n10_ c10_,S A11 n11_ c11_] 0) fun w12:W=>
 ∃ x13 x14:Int,∃ b15 b16:Bool,∃ x17 x18 x19 x20 x21:Int,∃ (A22:Option Addr) (n22_ c22_:Nat),∃ (A23:Option Addr) (n23_ c23_:Nat),(11=11∧At w12 ⟨yg4,0,N⟩ [I B x13,I H x14,T b15,T b16,I L x17,I B x18,I B x19,I D x20,I D x21,S A22 n22_ c22_,S A23 n23_ c23_])∧
(R (.returned (.tuple #[G #[I B x13,I H x14,T b15,T b16,I L x17,I B x18,I B x19,I D x20,I D x21,S A22 n22_ c22_,S A23 n23_ c23_],I L 0])) w12)))):=by kernel_rfl
def qq100.s (i0_0 i0_1:Int) (i0_2 i0_3:Bool) (i0_4 i0_5 i0_6 i0_7 i0_8:Int) (I0_9:Option Addr) (in0_9 ic0_9:Nat) (I0_10:Option Addr) (in0_10 ic0_10:Nat) (i1_0 i1_1 i1_2 i1_3 i1_4:Int) (w:W) (R:E):Prop:=
(Let (w.heap.size) fun g1:Nat=>
 Let (w.alloc (.cells #[I B i0_0,I H i0_1,T i0_2,T i0_3,I L i0_4,I B i0_5,I B i0_6,I D i0_7,I D i0_8,S I0_9 in0_9 ic0_9,S I0_10 in0_10 ic0_10] 37)) fun w2:W=>
 Let (w2.heap.size) fun g3:Nat=>
 Let (w2.alloc (.cells #[I D i1_0,I D i1_1,I B i1_2,I H i1_3,I H i1_4] 39)) fun w4:W=>
 Let (w4.heap.size) fun g5:Nat=>
 Let (w4.alloc (.cells #[I B 0,I H 0,T false,T false,I L 0,I B 0,I B 0,I D 0,I D 0,S N 0 0,S N 0 0] 37)) fun w6:W=>
 ∃ x7 x8:Int,∃ b9 b10:Bool,∃ x11 x12 x13 x14 x15:Int,∃ (A16:Option Addr) (n16_ c16_:Nat),∃ (A17:Option Addr) (n17_ c17_:Nat),(11=11∧At w6 ⟨g1,0,N⟩ [I B x7,I H x8,T b9,T b10,I L x11,I B x12,I B x13,I D x14,I D x15,S A16 n16_ c16_,S A17 n17_ c17_])∧
(Calls Tryz.prog 34 #[G #[I B x7,I H x8,T b9,T b10,I L x11,I B x12,I B x13,I D x14,I D x15,S A16 n16_ c16_,S A17 n17_ c17_]] w6 (fun (e19:Ending) (w18:W)=>
 ∃ (A20:Option Addr) (n20_ c20_:Nat),∃ x21:Int,e19=.returned (.tuple #[S A20 n20_ c20_,I L x21])∧
((if (x21 != 0)=true then
(May w18 ⟨g5,0,N⟩ 11∧
(Let (putCells w18 ⟨g5,0,N⟩ [I B 0,I H 0,T false,T false,I L 0,I B 0,I B 0,I D 0,I D 0,S N 0 0,S N 0 0] 0) fun w22:W=>
 ∃ x23 x24:Int,∃ b25 b26:Bool,∃ x27 x28 x29 x30 x31:Int,∃ (A32:Option Addr) (n32_ c32_:Nat),∃ (A33:Option Addr) (n33_ c33_:Nat),(11=11∧At w22 ⟨g5,0,N⟩ [I B x23,I H x24,T b25,T b26,I L x27,I B x28,I B x29,I D x30,I D x31,S A32 n32_ c32_,S A33 n33_ c33_])∧
(R (.returned (.tuple #[G #[I B x23,I H x24,T b25,T b26,I L x27,I B x28,I B x29,I D x30,I D x31,S A32 n32_ c32_,S A33 n33_ c33_],I L x21])) w22)))
else
(∃ x34 x35:Int,∃ b36 b37:Bool,∃ x38 x39 x40 x41 x42:Int,∃ (A43:Option Addr) (n43_ c43_:Nat),∃ (A44:Option Addr) (n44_ c44_:Nat),(11=11∧At w18 ⟨g1,0,N⟩ [I B x34,I H x35,T b36,T b37,I L x38,I B x39,I B x40,I D x41,I D x42,S A43 n43_ c43_,S A44 n44_ c44_])∧
(Calls Tryz.prog 35 #[G #[I B x34,I H x35,T b36,T b37,I L x38,I B x39,I B x40,I D x41,I D x42,S A43 n43_ c43_,S A44 n44_ c44_]] w18 (fun (e46:Ending) (w45:W)=>
 ∃ x47 x48 x49 x50 x51 x52:Int,e46=.returned (.tuple #[G #[I D x47,I D x48,I B x49,I H x50,I H x51],I L x52])∧
(Let (w45.heap.size) fun g53:Nat=>
 Let (w45.alloc (.cells #[I D 0,I D 0,I B 0,I H 0,I H 0] 39)) fun w54:W=>
 May w54 ⟨g53,0,N⟩ 5∧
(Let (putCells w54 ⟨g53,0,N⟩ [I D x47,I D x48,I B x49,I H x50,I H x51] 0) fun w55:W=>
(if (x52 != 0)=true then
(May w55 ⟨g5,0,N⟩ 11∧
(Let (putCells w55 ⟨g5,0,N⟩ [I B 0,I H 0,T false,T false,I L 0,I B 0,I B 0,I D 0,I D 0,S N 0 0,S N 0 0] 0) fun w56:W=>
 ∃ x57 x58:Int,∃ b59 b60:Bool,∃ x61 x62 x63 x64 x65:Int,∃ (A66:Option Addr) (n66_ c66_:Nat),∃ (A67:Option Addr) (n67_ c67_:Nat),(11=11∧At w56 ⟨g5,0,N⟩ [I B x57,I H x58,T b59,T b60,I L x61,I B x62,I B x63,I D x64,I D x65,S A66 n66_ c66_,S A67 n67_ c67_])∧
(R (.returned (.tuple #[G #[I B x57,I H x58,T b59,T b60,I L x61,I B x62,I B x63,I D x64,I D x65,S A66 n66_ c66_,S A67 n67_ c67_],I L 230])) w56)))
else
(∃ x68:Int,w55.cell? ⟨g3,2,N⟩=some (I B x68)∧
(∃ x69:Int,w55.cell? ⟨g1,6,N⟩=some (I B x69)∧
((if (x68 != x69)=true then
(May w55 ⟨g5,0,N⟩ 11∧
(Let (putCells w55 ⟨g5,0,N⟩ [I B 0,I H 0,T false,T false,I L 0,I B 0,I B 0,I D 0,I D 0,S N 0 0,S N 0 0] 0) fun w70:W=>
 ∃ x71 x72:Int,∃ b73 b74:Bool,∃ x75 x76 x77 x78 x79:Int,∃ (A80:Option Addr) (n80_ c80_:Nat),∃ (A81:Option Addr) (n81_ c81_:Nat),(11=11∧At w70 ⟨g5,0,N⟩ [I B x71,I H x72,T b73,T b74,I L x75,I B x76,I B x77,I D x78,I D x79,S A80 n80_ c80_,S A81 n81_ c81_])∧
(R (.returned (.tuple #[G #[I B x71,I H x72,T b73,T b74,I L x75,I B x76,I B x77,I D x78,I D x79,S A80 n80_ c80_,S A81 n81_ c81_],I L 230])) w70)))
else
(∃ x82:Int,w55.cell? ⟨g3,2,N⟩=some (I B x82)∧
((if (x82 == 1)=true then
(∃ x83:Int,w55.cell? ⟨g3,3,N⟩=some (I H x83)∧
(∃ x84:Int,w55.cell? ⟨g3,4,N⟩=some (I H x84)∧
((if (x83 != x84)=true then
(May w55 ⟨g5,0,N⟩ 11∧
(Let (putCells w55 ⟨g5,0,N⟩ [I B 0,I H 0,T false,T false,I L 0,I B 0,I B 0,I D 0,I D 0,S N 0 0,S N 0 0] 0) fun w85:W=>
 ∃ x86 x87:Int,∃ b88 b89:Bool,∃ x90 x91 x92 x93 x94:Int,∃ (A95:Option Addr) (n95_ c95_:Nat),∃ (A96:Option Addr) (n96_ c96_:Nat),(11=11∧At w85 ⟨g5,0,N⟩ [I B x86,I H x87,T b88,T b89,I L x90,I B x91,I B x92,I D x93,I D x94,S A95 n95_ c95_,S A96 n96_ c96_])∧
(R (.returned (.tuple #[G #[I B x86,I H x87,T b88,T b89,I L x90,I B x91,I B x92,I D x93,I D x94,S A95 n95_ c95_,S A96 n96_ c96_],I L 230])) w85)))
else
(Leaf (qq100.j1 g1 g3 g5 g53 (G #[I B i0_0,I H i0_1,T i0_2,T i0_3,I L i0_4,I B i0_5,I B i0_6,I D i0_7,I D i0_8,S I0_9 in0_9 ic0_9,S I0_10 in0_10 ic0_10]) (G #[I D i1_0,I D i1_1,I B i1_2,I H i1_3,I H i1_4]) (I L 0) (S A20 n20_ c20_) (I L x21) (I L x52) U (.tuple #[S A20 n20_ c20_,I L x21]) (G #[I B x7,I H x8,T b9,T b10,I L x11,I B x12,I B x13,I D x14,I D x15,S A16 n16_ c16_,S A17 n17_ c17_]) (.tuple #[S A20 n20_ c20_,I L x21]) (S A20 n20_ c20_) (I L x21) (I L x21) (T (x21 != 0)) U U (.tuple #[G #[I D x47,I D x48,I B x49,I H x50,I H x51],I L x52]) (G #[I B x34,I H x35,T b36,T b37,I L x38,I B x39,I B x40,I D x41,I D x42,S A43 n43_ c43_,S A44 n44_ c44_]) (.tuple #[G #[I D x47,I D x48,I B x49,I H x50,I H x51],I L x52]) (G #[I D x47,I D x48,I B x49,I H x50,I H x51]) (I L x52) (I L x52) (T (x52 != 0)) (T false) (P (some ⟨g3,2,N⟩)) (I B x68) (P (some ⟨g1,0,N⟩)) (P (some ⟨g1,6,N⟩)) (I B x69) (T (x68 != x69)) (T (x68 != x69)) (T false) (P (some ⟨g3,2,N⟩)) (I B x82) (T (x82 == 1)) (T true) (P (some ⟨g3,3,N⟩)) (I H x83) (P (some ⟨g3,4,N⟩)) (I H x84) (T (x83 != x84)) (T (x83 != x84)) (T (x83 != x84)) U U U U U U U U U U U U U U U U U U U U U U U U U U U U U U U U w55 R))))))
else
(Leaf (qq100.j1 g1 g3 g5 g53 (G #[I B i0_0,I H i0_1,T i0_2,T i0_3,I L i0_4,I B i0_5,I B i0_6,I D i0_7,I D i0_8,S I0_9 in0_9 ic0_9,S I0_10 in0_10 ic0_10]) (G #[I D i1_0,I D i1_1,I B i1_2,I H i1_3,I H i1_4]) (I L 0) (S A20 n20_ c20_) (I L x21) (I L x52) U (.tuple #[S A20 n20_ c20_,I L x21]) (G #[I B x7,I H x8,T b9,T b10,I L x11,I B x12,I B x13,I D x14,I D x15,S A16 n16_ c16_,S A17 n17_ c17_]) (.tuple #[S A20 n20_ c20_,I L x21]) (S A20 n20_ c20_) (I L x21) (I L x21) (T (x21 != 0)) U U (.tuple #[G #[I D x47,I D x48,I B x49,I H x50,I H x51],I L x52]) (G #[I B x34,I H x35,T b36,T b37,I L x38,I B x39,I B x40,I D x41,I D x42,S A43 n43_ c43_,S A44 n44_ c44_]) (.tuple #[G #[I D x47,I D x48,I B x49,I H x50,I H x51],I L x52]) (G #[I D x47,I D x48,I B x49,I H x50,I H x51]) (I L x52) (I L x52) (T (x52 != 0)) (T false) (P (some ⟨g3,2,N⟩)) (I B x68) (P (some ⟨g1,0,N⟩)) (P (some ⟨g1,6,N⟩)) (I B x69) (T (x68 != x69)) (T (x68 != x69)) (T false) (P (some ⟨g3,2,N⟩)) (I B x82) (T (x82 == 1)) (T false) U U U U U (T false) (T false) U U U U U U U U U U U U U U U U U U U U U U U U U U U U U U U U w55 R))))))))))))))))))))
theorem qq100.run (h:qq100.s i0_0 i0_1 i0_2 i0_3 i0_4 i0_5 i0_6 i0_7 i0_8 I0_9 in0_9 ic0_9 I0_10 in0_10 ic0_10 i1_0 i1_1 i1_2 i1_3 i1_4 w R):Calls Tryz.prog 16 #[G #[I B i0_0,I H i0_1,T i0_2,T i0_3,I L i0_4,I B i0_5,I B i0_6,I D i0_7,I D i0_8,S I0_9 in0_9 ic0_9,S I0_10 in0_10 ic0_10],G #[I D i1_0,I D i1_1,I B i1_2,I H i1_3,I H i1_4]] w R:=
 calls_segk (ords:=qq100.ords) (J:=qq100.joins) ents mixed Tryz.func16 rfl h (by kernel_rfl)
end Go.Proofs.YtphbdmafchjjeaaGreatDoorS
