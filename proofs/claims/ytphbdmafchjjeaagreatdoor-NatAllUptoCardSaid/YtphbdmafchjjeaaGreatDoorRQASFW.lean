import Derived.Test.YtphbdmafchjjeaaGreatDoorRQASPureM
namespace Go.Proofs.YtphbdmafchjjeaaGreatDoorS
open Go Go.Proofs
open Go renaming undef → U, World → W, Value → V
open Go.Value renaming int → I, slice → S, bool → T, pointer → P, agg → G
open Go.IntKind renaming u8 → B, u16 → H, u32 → D, u64 → Q, i64 → L
open Option renaming none → N
set_option autoImplicit true
set_option relaxedAutoImplicit true
set_option maxRecDepth 100000
set_option linter.unusedVariables false
def qq31.ords:Nat→Od
 | _=>.nil
def qq31.joins (p:List Nat):Bool:=false
def qq31.l1 (n:Nat) (Y0:Option Addr) (yn0 yc0:Nat) (Y3:Option Addr) (yn3 yc3:Nat) (y4:Int) (d1 d2 d5 d6 d7 d8 d9 dA dB dC dD dE dF dG dH dI:V) (w:W) (R:E):Prop:=
 lseg Tryz.prog entE qq31.ords qq31.joins Tryz.f47 [1,1,0,1,0] [0,1,0,1,1] [] n [S Y0 yn0 yc0,d1,d2,S Y3 yn3 yc3,I L y4,d5,d6,d7,d8,d9,dA,dB,dC,dD,dE,dF,dG,dH,dI] w R
abbrev qq31.L1 (n:Nat) (Y0:Option Addr) (yn0 yc0:Nat) (Y3:Option Addr) (yn3 yc3:Nat) (y4:Int) (w:W) (R:E):Prop:=∀ d1 d2 d5 d6 d7 d8 d9 dA dB dC dD dE dF dG dH dI,qq31.l1 n Y0 yn0 yc0 Y3 yn3 yc3 y4 d1 d2 d5 d6 d7 d8 d9 dA dB dC dD dE dF dG dH dI w R
theorem qq31.l1_eq {n:Nat}:qq31.l1 (n+1) Y0 yn0 yc0 Y3 yn3 yc3 y4 d1 d2 d5 d6 d7 d8 d9 dA dB dC dD dE dF dG dH dI w R =
((if decide (y4 < (yn0:Int))=true then
(∃ a1:Addr,Y0=some a1∧(0≤y4∧y4 < (yn0:Int))∧
(∃ x2:Int,w.cell? (a1.add y4.toNat)=some (I B x2)∧
(Let (w.heap.size) fun g3:Nat=>
 Let (w.alloc (.cells #[I B x2] 5)) fun w4:W=>
 AppE w4 1 1 5 [I B 0] Y3 yn3 yc3 (some ⟨g3,0,N⟩) 1 (fun (A5:Option Addr) (c6:Nat) (w7:W)=>
 Let (L.wrap (y4+1)) fun x8:Int=>
 qq31.l1 n Y0 yn0 yc0 A5 (yn3+1) c6 x8 d1 d2 (I L y4) (S Y0 yn0 yc0) (I L (yn0:Int)) (T (decide (y4 < (yn0:Int)))) (I L y4) (I L x8) (S Y3 yn3 yc3) (S Y0 yn0 yc0) (I L y4) (P (some (a1.add y4.toNat))) (I B x2) (S (some ⟨g3,0,N⟩) 1 1) (S A5 (yn3+1) c6) dI w7 R))))
else
(R (.returned (S Y3 yn3 yc3)) w))):=by kernel_rfl
def qq31.s (I0:Option Addr) (in0 ic0:Nat) (w:W) (R:E):Prop:=
(∃ n1:Nat,qq31.l1 n1 I0 in0 ic0 N 0 0 0 U (S N 0 0) U U U U U U U U U U U U U U w R)
theorem qq31.run (h:qq31.s I0 in0 ic0 w R):Calls Tryz.prog 47 #[S I0 in0 ic0] w R:=
 calls_segk (ords:=qq31.ords) (J:=qq31.joins) ents mixed Tryz.func47 rfl h (by kernel_rfl)
def qq48.ords:Nat→Od
 | _=>.nil
def qq48.joins (p:List Nat):Bool:=false
def qq48.s (i0_0 i0_1:Int) (i0_2 i0_3:Bool) (i0_4 i0_5 i0_6 i0_7 i0_8:Int) (I0_9:Option Addr) (in0_9 ic0_9:Nat) (I0_10:Option Addr) (in0_10 ic0_10:Nat) (w:W) (R:E):Prop:=
(Let (w.heap.size) fun g1:Nat=>
 Let (w.alloc (.cells #[I B i0_0,I H i0_1,T i0_2,T i0_3,I L i0_4,I B i0_5,I B i0_6,I D i0_7,I D i0_8,S I0_9 in0_9 ic0_9,S I0_10 in0_10 ic0_10] 37)) fun w2:W=>
 Let (w2.heap.size) fun g3:Nat=>
 Let (w2.alloc (.cells #[I B 0,I H 0,T false,T false,I L 0,I B 0,I B 0,I D 0,I D 0,S N 0 0,S N 0 0] 37)) fun w4:W=>
 ∃ (A5:Option Addr) (n5_ c5_:Nat),w4.cell? ⟨g1,9,N⟩=some (S A5 n5_ c5_)∧
(Calls Tryz.prog 47 #[S A5 n5_ c5_] w4 (fun (e7:Ending) (w6:W)=>
 ∃ (A8:Option Addr) (n8_ c8_:Nat),e7=.returned (S A8 n8_ c8_)∧
(MayC w6 ⟨g1,9,N⟩∧
(Let (w6.setCell ⟨g1,9,N⟩ (S A8 n8_ c8_)) fun w9:W=>
 ∃ (A10:Option Addr) (n10_ c10_:Nat),w9.cell? ⟨g1,10,N⟩=some (S A10 n10_ c10_)∧
(Calls Tryz.prog 47 #[S A10 n10_ c10_] w9 (fun (e12:Ending) (w11:W)=>
 ∃ (A13:Option Addr) (n13_ c13_:Nat),e12=.returned (S A13 n13_ c13_)∧
(MayC w11 ⟨g1,10,N⟩∧
(Let (w11.setCell ⟨g1,10,N⟩ (S A13 n13_ c13_)) fun w14:W=>
 ∃ x15 x16:Int,∃ b17 b18:Bool,∃ x19 x20 x21 x22 x23:Int,∃ (A24:Option Addr) (n24_ c24_:Nat),∃ (A25:Option Addr) (n25_ c25_:Nat),(11=11∧At w14 ⟨g1,0,N⟩ [I B x15,I H x16,T b17,T b18,I L x19,I B x20,I B x21,I D x22,I D x23,S A24 n24_ c24_,S A25 n25_ c25_])∧
(May w14 ⟨g3,0,N⟩ 11∧
(Let (putCells w14 ⟨g3,0,N⟩ [I B x15,I H x16,T b17,T b18,I L x19,I B x20,I B x21,I D x22,I D x23,S A24 n24_ c24_,S A25 n25_ c25_] 0) fun w26:W=>
 ∃ x27 x28:Int,∃ b29 b30:Bool,∃ x31 x32 x33 x34 x35:Int,∃ (A36:Option Addr) (n36_ c36_:Nat),∃ (A37:Option Addr) (n37_ c37_:Nat),(11=11∧At w26 ⟨g3,0,N⟩ [I B x27,I H x28,T b29,T b30,I L x31,I B x32,I B x33,I D x34,I D x35,S A36 n36_ c36_,S A37 n37_ c37_])∧
(R (.returned (G #[I B x27,I H x28,T b29,T b30,I L x31,I B x32,I B x33,I D x34,I D x35,S A36 n36_ c36_,S A37 n37_ c37_])) w26))))))))))))
theorem qq48.run (h:qq48.s i0_0 i0_1 i0_2 i0_3 i0_4 i0_5 i0_6 i0_7 i0_8 I0_9 in0_9 ic0_9 I0_10 in0_10 ic0_10 w R):Calls Tryz.prog 28 #[G #[I B i0_0,I H i0_1,T i0_2,T i0_3,I L i0_4,I B i0_5,I B i0_6,I D i0_7,I D i0_8,S I0_9 in0_9 ic0_9,S I0_10 in0_10 ic0_10]] w R:=
 calls_segk (ords:=qq48.ords) (J:=qq48.joins) ents mixed Tryz.func28 rfl h (by kernel_rfl)
def qq41.ords:Nat→Od
 | _=>.nil
def qq41.joins (p:List Nat):Bool:=false
def qq41.s (i0 i1:Int) (w:W) (R:E):Prop:=
(Let (w.heap.size) fun g1:Nat=>
 Let (w.alloc (.cells #[P N,P N] 27)) fun w2:W=>
 Calls Tryz.prog 14 #[I H i0,I H i1] w2 (fun (e4:Ending) (w3:W)=>
 ∃ p5:Option Addr,∃ x6:Int,e4=.returned (.tuple #[P p5,I L x6])∧
(Calls Tryz.prog 15 #[I H i0,I H i1] w3 (fun (e8:Ending) (w7:W)=>
 ∃ p9:Option Addr,∃ x10:Int,e8=.returned (.tuple #[P p9,I L x10])∧
((if (x6 == x10)=true then
(May w7 ⟨g1,0,N⟩ 2∧
(Let (putCells w7 ⟨g1,0,N⟩ [P p5,P p9] 0) fun w11:W=>
 ∃ p12:Option Addr,∃ p13:Option Addr,(2=2∧At w11 ⟨g1,0,N⟩ [P p12,P p13])∧
(R (.returned (.tuple #[G #[P p12,P p13],T (p5.isNone == p9.isNone)])) w11)))
else
(May w7 ⟨g1,0,N⟩ 2∧
(Let (putCells w7 ⟨g1,0,N⟩ [P p5,P p9] 0) fun w14:W=>
 ∃ p15:Option Addr,∃ p16:Option Addr,(2=2∧At w14 ⟨g1,0,N⟩ [P p15,P p16])∧
(R (.returned (.tuple #[G #[P p15,P p16],T false])) w14)))))))))
theorem qq41.run (h:qq41.s i0 i1 w R):Calls Tryz.prog 5 #[I H i0,I H i1] w R:=
 calls_segk (ords:=qq41.ords) (J:=qq41.joins) ents mixed Tryz.func5 rfl h (by kernel_rfl)
def qq1.ords:Nat→Od
 | 13=>(.tk 0 (.tk 1 (.tk 2 (.tk 3 (.tk 5 (.tk 6 (.tk 7 (.tk 8 (.on 4 (.on 9 (.tk 10 (.tk 11 .nil))))))))))))
 | _=>.nil
def qq1.joins (p:List Nat):Bool:=p == [1,1]
def qq1.j1 (yg2 yg3:Nat) (d0 d1 d4 d5 d6 d7 d8 d9 dA dB dC dD dE dF dG dH dI dJ dK dL dM dN dO dP dQ dR dS dT dU dV dW dX dY dZ k0 k1 k2 k3 k4 k5 k6 k7 k8 k9 kA kB kC kD kE kF kG kH kI kJ kK kL kM kN kO kP kQ kR kS kT kU kV kW kX kY kZ v0 v1 v2 v3 v4 v5 v6 v7 v8 v9 vA:V) (w:W) (R:E):Prop:=
 seg Tryz.prog entE qq1.ords qq1.joins Tryz.f7 [1,1] [1,1] [] [d0,d1,P (some ⟨yg2,0,N⟩),P (some ⟨yg3,0,N⟩),d4,d5,d6,d7,d8,d9,dA,dB,dC,dD,dE,dF,dG,dH,dI,dJ,dK,dL,dM,dN,dO,dP,dQ,dR,dS,dT,dU,dV,dW,dX,dY,dZ,k0,k1,k2,k3,k4,k5,k6,k7,k8,k9,kA,kB,kC,kD,kE,kF,kG,kH,kI,kJ,kK,kL,kM,kN,kO,kP,kQ,kR,kS,kT,kU,kV,kW,kX,kY,kZ,v0,v1,v2,v3,v4,v5,v6,v7,v8,v9,vA] w R
abbrev qq1.J1 (yg2 yg3:Nat) (w:W) (R:E):Prop:=∀ d0 d1 d4 d5 d6 d7 d8 d9 dA dB dC dD dE dF dG dH dI dJ dK dL dM dN dO dP dQ dR dS dT dU dV dW dX dY dZ k0 k1 k2 k3 k4 k5 k6 k7 k8 k9 kA kB kC kD kE kF kG kH kI kJ kK kL kM kN kO kP kQ kR kS kT kU kV kW kX kY kZ v0 v1 v2 v3 v4 v5 v6 v7 v8 v9 vA,qq1.j1 yg2 yg3 d0 d1 d4 d5 d6 d7 d8 d9 dA dB dC dD dE dF dG dH dI dJ dK dL dM dN dO dP dQ dR dS dT dU dV dW dX dY dZ k0 k1 k2 k3 k4 k5 k6 k7 k8 k9 kA kB kC kD kE kF kG kH kI kJ kK kL kM kN kO kP kQ kR kS kT kU kV kW kX kY kZ v0 v1 v2 v3 v4 v5 v6 v7 v8 v9 vA w R
theorem qq1.j1_eq:qq1.j1 yg2 yg3 d0 d1 d4 d5 d6 d7 d8 d9 dA dB dC dD dE dF dG dH dI dJ dK dL dM dN dO dP dQ dR dS dT dU dV dW dX dY dZ k0 k1 k2 k3 k4 k5 k6 k7 k8 k9 kA kB kC kD kE kF kG kH kI kJ kK kL kM kN kO kP kQ kR kS kT kU kV kW kX kY kZ v0 v1 v2 v3 v4 v5 v6 v7 v8 v9 vA w R =
(∃ x1:Int,w.cell? ⟨yg3,0,N⟩=some (I L x1)∧
((if (x1 == 4)=true then
(∃ p2:Option Addr,w.cell? ⟨yg2,0,N⟩=some (P p2)∧
(∃ x3:Int,w.cell? ⟨yg3,21,N⟩=some (I B x3)∧
(∃ x4:Int,w.cell? ⟨yg3,22,N⟩=some (I H x4)∧
(Calls Tryz.prog 21 #[P p2,I B x3,I H x4] w (fun (e6:Ending) (w5:W)=>
 ∃ x7 x8:Int,e6=.returned (.tuple #[I H x7,I L x8])∧
(∃ p9:Option Addr,w5.cell? ⟨yg2,1,N⟩=some (P p9)∧
(∃ x10:Int,w5.cell? ⟨yg3,21,N⟩=some (I B x10)∧
(∃ x11:Int,w5.cell? ⟨yg3,22,N⟩=some (I H x11)∧
(Calls Tryz.prog 23 #[P p9,I B x10,I H x11] w5 (fun (e13:Ending) (w12:W)=>
 ∃ x14 x15:Int,e13=.returned (.tuple #[I H x14,I L x15])∧
((if (x7 == x14)=true then
(R (.returned (T (x8 == x15))) w12)
else
(R (.returned (T false)) w12)))))))))))))
else
((if (x1 == 5)=true then
(∃ p16:Option Addr,w.cell? ⟨yg2,0,N⟩=some (P p16)∧
(∃ x17:Int,w.cell? ⟨yg3,21,N⟩=some (I B x17)∧
(∃ x18:Int,w.cell? ⟨yg3,22,N⟩=some (I H x18)∧
(Calls Tryz.prog 24 #[P p16,I B x17,I H x18] w (fun (e20:Ending) (w19:W)=>
 ∃ x21:Int,e20=.returned (I L x21)∧
(∃ p22:Option Addr,w19.cell? ⟨yg2,1,N⟩=some (P p22)∧
(∃ x23:Int,w19.cell? ⟨yg3,21,N⟩=some (I B x23)∧
(∃ x24:Int,w19.cell? ⟨yg3,22,N⟩=some (I H x24)∧
(Calls Tryz.prog 25 #[P p22,I B x23,I H x24] w19 (fun (e26:Ending) (w25:W)=>
 ∃ x27:Int,e26=.returned (I L x27)∧
(R (.returned (T (x21 == x27))) w25)))))))))))
else
((if (x1 == 6)=true then
(∃ S28:W→Prop,S28 w.drew∧
(Let (w.drew) fun w29:W=>
 ∃ p30:Option Addr,(∀ w',S28 w'→w'.cell? ⟨yg2,0,N⟩=some (P p30))∧
(∃ x31:Int,(∀ w',S28 w'→w'.cell? ⟨yg3,21,N⟩=some (I B x31))∧
(∃ p32:Option Addr,(∀ w',S28 w'→w'.cell? ⟨yg2,1,N⟩=some (P p32))∧
(∃ x33:Int,(∀ w',S28 w'→w'.cell? ⟨yg3,21,N⟩=some (I B x33))∧
(Calls Tryz.prog 22 #[P p30,I B x31] w29 (fun (e35:Ending) (w34:W)=>
 ∃ x36:Int,e35=.returned (I L x36)∧
(S28 w34∧
(Calls Tryz.prog 26 #[P p32,I B x33] w34 (fun (e38:Ending) (w37:W)=>
 ∃ x39:Int,e38=.returned (I L x39)∧
(S28 w37∧
(R (.returned (T (x36 == x39))) w37))))))))))))
else
(R (.returned (T true)) w)))))))):=by kernel_rfl
def qq1.s (i0_0 i0_1:Option Addr) (i1_0:Int) (i1_1:Bool) (i1_2 i1_3:Int) (i1_4 i1_5:Bool) (i1_6 i1_7 i1_8 i1_9 i1_10:Int) (I1_11:Option Addr) (in1_11 ic1_11:Nat) (I1_12:Option Addr) (in1_12 ic1_12:Nat) (i1_13 i1_14 i1_15 i1_16 i1_17 i1_18 i1_19:Int) (I1_20:Option Addr) (in1_20 ic1_20:Nat) (i1_21 i1_22:Int) (w:W) (R:E):Prop:=
(Let (w.heap.size) fun g1:Nat=>
 Let (w.alloc (.cells #[P i0_0,P i0_1] 27)) fun w2:W=>
 Let (w2.heap.size) fun g3:Nat=>
 Let (w2.alloc (.cells #[I L i1_0,T i1_1,I B i1_2,I H i1_3,T i1_4,T i1_5,I L i1_6,I B i1_7,I B i1_8,I D i1_9,I D i1_10,S I1_11 in1_11 ic1_11,S I1_12 in1_12 ic1_12,I D i1_13,I D i1_14,I B i1_15,I H i1_16,I H i1_17,I D i1_18,I D i1_19,S I1_20 in1_20 ic1_20,I B i1_21,I H i1_22] 42)) fun w4:W=>
 ∃ p5:Option Addr,w4.cell? ⟨g1,0,N⟩=some (P p5)∧
((if p5.isNone=true then
(R (.returned (T true)) w4)
else
(∃ p6:Option Addr,w4.cell? ⟨g1,1,N⟩=some (P p6)∧
((if p6.isNone=true then
(R (.returned (T true)) w4)
else
(Leaf (qq1.j1 g1 g3 (G #[P i0_0,P i0_1]) (G #[I L i1_0,T i1_1,I B i1_2,I H i1_3,T i1_4,T i1_5,I L i1_6,I B i1_7,I B i1_8,I D i1_9,I D i1_10,S I1_11 in1_11 ic1_11,S I1_12 in1_12 ic1_12,I D i1_13,I D i1_14,I B i1_15,I H i1_16,I H i1_17,I D i1_18,I D i1_19,S I1_20 in1_20 ic1_20,I B i1_21,I H i1_22]) (T false) U U U U U U (P (some ⟨g1,0,N⟩)) (P p5) (T p5.isNone) (T false) (P (some ⟨g1,1,N⟩)) (P p6) (T p6.isNone) (T p6.isNone) U U U U U U U U U U U U U U U U U U U U U U U U U U U U U U U U U U U U U U U U U U U U U U U U U U U U U U U U U U U U U U U U w4 R))))))))
theorem qq1.run (h:qq1.s i0_0 i0_1 i1_0 i1_1 i1_2 i1_3 i1_4 i1_5 i1_6 i1_7 i1_8 i1_9 i1_10 I1_11 in1_11 ic1_11 I1_12 in1_12 ic1_12 i1_13 i1_14 i1_15 i1_16 i1_17 i1_18 i1_19 I1_20 in1_20 ic1_20 i1_21 i1_22 w R):Calls Tryz.prog 7 #[G #[P i0_0,P i0_1],G #[I L i1_0,T i1_1,I B i1_2,I H i1_3,T i1_4,T i1_5,I L i1_6,I B i1_7,I B i1_8,I D i1_9,I D i1_10,S I1_11 in1_11 ic1_11,S I1_12 in1_12 ic1_12,I D i1_13,I D i1_14,I B i1_15,I H i1_16,I H i1_17,I D i1_18,I D i1_19,S I1_20 in1_20 ic1_20,I B i1_21,I H i1_22]] w R:=
 calls_segk (ords:=qq1.ords) (J:=qq1.joins) ents mixed Tryz.func7 rfl h (by kernel_rfl)
def qq2.ords:Nat→Od
 | 3=>(.tk 0 (.tk 1 (.tk 3 (.tk 4 (.two 2 9 (.two 5 9 (.tk 6 (.tk 7 (.tk 8 (.on 9 (.on 10 (.tk 11 .nil)))))) (.on 5 (.tk 6 (.tk 7 (.tk 8 (.on 10 (.tk 11 .nil))))))) (.on 2 (.on 5 (.tk 6 (.tk 7 (.tk 8 (.on 10 (.tk 11 .nil))))))))))))
 | 4=>(.tk 0 (.tk 1 (.tk 3 (.tk 4 (.two 2 9 (.two 5 9 (.tk 6 (.tk 7 (.tk 8 (.on 9 (.on 10 (.tk 11 .nil)))))) (.on 5 (.tk 6 (.tk 7 (.tk 8 (.on 10 (.tk 11 .nil))))))) (.on 2 (.on 5 (.tk 6 (.tk 7 (.tk 8 (.on 10 (.tk 11 .nil))))))))))))
 | 7=>(.tk 0 (.tk 1 (.tk 3 (.tk 4 (.tk 5 (.tk 6 (.tk 7 (.tk 8 (.two 2 13 (.two 9 13 (.tk 10 (.tk 11 (.tk 12 (.on 13 (.on 14 (.tk 15 .nil)))))) (.on 9 (.tk 10 (.tk 11 (.tk 12 (.on 14 (.tk 15 .nil))))))) (.on 2 (.on 9 (.tk 10 (.tk 11 (.tk 12 (.on 14 (.tk 15 .nil))))))))))))))))
 | 8=>(.tk 0 (.tk 1 (.tk 3 (.tk 4 (.tk 5 (.tk 6 (.tk 7 (.tk 8 (.two 2 13 (.two 9 13 (.tk 10 (.tk 11 (.tk 12 (.on 13 (.on 14 (.tk 15 .nil)))))) (.on 9 (.tk 10 (.tk 11 (.tk 12 (.on 14 (.tk 15 .nil))))))) (.on 2 (.on 9 (.tk 10 (.tk 11 (.tk 12 (.on 14 (.tk 15 .nil))))))))))))))))
 | 11=>(.tk 0 (.tk 1 (.tk 2 (.tk 3 (.on 4 (.on 5 (.tk 6 (.tk 7 (.tk 8 (.tk 9 (.tk 10 .nil)))))))))))
 | 12=>(.tk 0 (.tk 1 (.tk 2 (.tk 3 (.on 4 (.on 5 (.tk 6 (.tk 7 (.tk 8 (.tk 9 (.tk 10 .nil)))))))))))
 | _=>.nil
def qq2.joins (p:List Nat):Bool:=p == [1,0,1,0,1,0,1] || p == [1,0,1,1,1,0,1,0,1] || p == [1,1,0,1,0,1,0,1] || p == [1,1,0,1,1,1,0,1,0,1]
def qq2.j1 (yg3 yg5:Nat) (y6:Int) (d0 d1 d2 d4 d7 d8 d9 dA dB dC dD dE dF dG dH dI dJ dK dL dM dN dO dP dQ dR dS dT dU dV dW dX dY dZ k0 k1 k2 k3 k4 k5 k6 k7 k8 k9 kA kB kC kD kE kF kG kH kI kJ kK kL kM kN kO kP kQ kR kS kT kU kV kW kX kY kZ v0 v1 v2 v3 v4 v5 v6 v7 v8 v9 vA vB vC vD vE vF vG vH vI vJ vK vL vM vN vO vP vQ vR vS vT vU vV vW vX vY vZ o0 o1 o2 o3 o4 o5:V) (w:W) (R:E):Prop:=
 seg Tryz.prog entE qq2.ords qq2.joins Tryz.f8 [1,0,1,0,1,0,1] [1,0,1,0,1,0,1] [] [d0,d1,d2,P (some ⟨yg3,0,N⟩),d4,P (some ⟨yg5,0,N⟩),I L y6,d7,d8,d9,dA,dB,dC,dD,dE,dF,dG,dH,dI,dJ,dK,dL,dM,dN,dO,dP,dQ,dR,dS,dT,dU,dV,dW,dX,dY,dZ,k0,k1,k2,k3,k4,k5,k6,k7,k8,k9,kA,kB,kC,kD,kE,kF,kG,kH,kI,kJ,kK,kL,kM,kN,kO,kP,kQ,kR,kS,kT,kU,kV,kW,kX,kY,kZ,v0,v1,v2,v3,v4,v5,v6,v7,v8,v9,vA,vB,vC,vD,vE,vF,vG,vH,vI,vJ,vK,vL,vM,vN,vO,vP,vQ,vR,vS,vT,vU,vV,vW,vX,vY,vZ,o0,o1,o2,o3,o4,o5] w R
def qq2.j2 (yg3 yg9:Nat) (y10:Int) (d0 d1 d2 d4 d5 d6 d7 d8 dB dC dD dE dF dG dH dI dJ dK dL dM dN dO dP dQ dR dS dT dU dV dW dX dY dZ k0 k1 k2 k3 k4 k5 k6 k7 k8 k9 kA kB kC kD kE kF kG kH kI kJ kK kL kM kN kO kP kQ kR kS kT kU kV kW kX kY kZ v0 v1 v2 v3 v4 v5 v6 v7 v8 v9 vA vB vC vD vE vF vG vH vI vJ vK vL vM vN vO vP vQ vR vS vT vU vV vW vX vY vZ o0 o1 o2 o3 o4 o5:V) (w:W) (R:E):Prop:=
 seg Tryz.prog entE qq2.ords qq2.joins Tryz.f8 [1,0,1,0,1,1,1,0,1] [1,0,1,1,1,0,1,0,1] [] [d0,d1,d2,P (some ⟨yg3,0,N⟩),d4,d5,d6,d7,d8,P (some ⟨yg9,0,N⟩),I L y10,dB,dC,dD,dE,dF,dG,dH,dI,dJ,dK,dL,dM,dN,dO,dP,dQ,dR,dS,dT,dU,dV,dW,dX,dY,dZ,k0,k1,k2,k3,k4,k5,k6,k7,k8,k9,kA,kB,kC,kD,kE,kF,kG,kH,kI,kJ,kK,kL,kM,kN,kO,kP,kQ,kR,kS,kT,kU,kV,kW,kX,kY,kZ,v0,v1,v2,v3,v4,v5,v6,v7,v8,v9,vA,vB,vC,vD,vE,vF,vG,vH,vI,vJ,vK,vL,vM,vN,vO,vP,vQ,vR,vS,vT,vU,vV,vW,vX,vY,vZ,o0,o1,o2,o3,o4,o5] w R
def qq2.j3 (yg5:Nat) (y6:Int) (yg7:Nat) (y8:Int) (d0 d1 d2 d3 d4 d9 dA dB dC dD dE dF dG dH dI dJ dK dL dM dN dO dP dQ dR dS dT dU dV dW dX dY dZ k0 k1 k2 k3 k4 k5 k6 k7 k8 k9 kA kB kC kD kE kF kG kH kI kJ kK kL kM kN kO kP kQ kR kS kT kU kV kW kX kY kZ v0 v1 v2 v3 v4 v5 v6 v7 v8 v9 vA vB vC vD vE vF vG vH vI vJ vK vL vM vN vO vP vQ vR vS vT vU vV vW vX vY vZ o0 o1 o2 o3 o4 o5:V) (w:W) (R:E):Prop:=
 seg Tryz.prog entE qq2.ords qq2.joins Tryz.f8 [1,0,1,0,1,0,1,1] [1,1,0,1,0,1,0,1] [] [d0,d1,d2,d3,d4,P (some ⟨yg5,0,N⟩),I L y6,P (some ⟨yg7,0,N⟩),I L y8,d9,dA,dB,dC,dD,dE,dF,dG,dH,dI,dJ,dK,dL,dM,dN,dO,dP,dQ,dR,dS,dT,dU,dV,dW,dX,dY,dZ,k0,k1,k2,k3,k4,k5,k6,k7,k8,k9,kA,kB,kC,kD,kE,kF,kG,kH,kI,kJ,kK,kL,kM,kN,kO,kP,kQ,kR,kS,kT,kU,kV,kW,kX,kY,kZ,v0,v1,v2,v3,v4,v5,v6,v7,v8,v9,vA,vB,vC,vD,vE,vF,vG,vH,vI,vJ,vK,vL,vM,vN,vO,vP,vQ,vR,vS,vT,vU,vV,vW,vX,vY,vZ,o0,o1,o2,o3,o4,o5] w R
def qq2.j4 (yg9:Nat) (y10:Int) (yg11:Nat) (y12:Int) (d0 d1 d2 d3 d4 d5 d6 d7 d8 dD dE dF dG dH dI dJ dK dL dM dN dO dP dQ dR dS dT dU dV dW dX dY dZ k0 k1 k2 k3 k4 k5 k6 k7 k8 k9 kA kB kC kD kE kF kG kH kI kJ kK kL kM kN kO kP kQ kR kS kT kU kV kW kX kY kZ v0 v1 v2 v3 v4 v5 v6 v7 v8 v9 vA vB vC vD vE vF vG vH vI vJ vK vL vM vN vO vP vQ vR vS vT vU vV vW vX vY vZ o0 o1 o2 o3 o4 o5:V) (w:W) (R:E):Prop:=
 seg Tryz.prog entE qq2.ords qq2.joins Tryz.f8 [1,0,1,0,1,1,1,0,1,1] [1,1,0,1,1,1,0,1,0,1] [] [d0,d1,d2,d3,d4,d5,d6,d7,d8,P (some ⟨yg9,0,N⟩),I L y10,P (some ⟨yg11,0,N⟩),I L y12,dD,dE,dF,dG,dH,dI,dJ,dK,dL,dM,dN,dO,dP,dQ,dR,dS,dT,dU,dV,dW,dX,dY,dZ,k0,k1,k2,k3,k4,k5,k6,k7,k8,k9,kA,kB,kC,kD,kE,kF,kG,kH,kI,kJ,kK,kL,kM,kN,kO,kP,kQ,kR,kS,kT,kU,kV,kW,kX,kY,kZ,v0,v1,v2,v3,v4,v5,v6,v7,v8,v9,vA,vB,vC,vD,vE,vF,vG,vH,vI,vJ,vK,vL,vM,vN,vO,vP,vQ,vR,vS,vT,vU,vV,vW,vX,vY,vZ,o0,o1,o2,o3,o4,o5] w R
abbrev qq2.J1 (yg3 yg5:Nat) (y6:Int) (w:W) (R:E):Prop:=∀ d0 d1 d2 d4 d7 d8 d9 dA dB dC dD dE dF dG dH dI dJ dK dL dM dN dO dP dQ dR dS dT dU dV dW dX dY dZ k0 k1 k2 k3 k4 k5 k6 k7 k8 k9 kA kB kC kD kE kF kG kH kI kJ kK kL kM kN kO kP kQ kR kS kT kU kV kW kX kY kZ v0 v1 v2 v3 v4 v5 v6 v7 v8 v9 vA vB vC vD vE vF vG vH vI vJ vK vL vM vN vO vP vQ vR vS vT vU vV vW vX vY vZ o0 o1 o2 o3 o4 o5,qq2.j1 yg3 yg5 y6 d0 d1 d2 d4 d7 d8 d9 dA dB dC dD dE dF dG dH dI dJ dK dL dM dN dO dP dQ dR dS dT dU dV dW dX dY dZ k0 k1 k2 k3 k4 k5 k6 k7 k8 k9 kA kB kC kD kE kF kG kH kI kJ kK kL kM kN kO kP kQ kR kS kT kU kV kW kX kY kZ v0 v1 v2 v3 v4 v5 v6 v7 v8 v9 vA vB vC vD vE vF vG vH vI vJ vK vL vM vN vO vP vQ vR vS vT vU vV vW vX vY vZ o0 o1 o2 o3 o4 o5 w R
abbrev qq2.J2 (yg3 yg9:Nat) (y10:Int) (w:W) (R:E):Prop:=∀ d0 d1 d2 d4 d5 d6 d7 d8 dB dC dD dE dF dG dH dI dJ dK dL dM dN dO dP dQ dR dS dT dU dV dW dX dY dZ k0 k1 k2 k3 k4 k5 k6 k7 k8 k9 kA kB kC kD kE kF kG kH kI kJ kK kL kM kN kO kP kQ kR kS kT kU kV kW kX kY kZ v0 v1 v2 v3 v4 v5 v6 v7 v8 v9 vA vB vC vD vE vF vG vH vI vJ vK vL vM vN vO vP vQ vR vS vT vU vV vW vX vY vZ o0 o1 o2 o3 o4 o5,qq2.j2 yg3 yg9 y10 d0 d1 d2 d4 d5 d6 d7 d8 dB dC dD dE dF dG dH dI dJ dK dL dM dN dO dP dQ dR dS dT dU dV dW dX dY dZ k0 k1 k2 k3 k4 k5 k6 k7 k8 k9 kA kB kC kD kE kF kG kH kI kJ kK kL kM kN kO kP kQ kR kS kT kU kV kW kX kY kZ v0 v1 v2 v3 v4 v5 v6 v7 v8 v9 vA vB vC vD vE vF vG vH vI vJ vK vL vM vN vO vP vQ vR vS vT vU vV vW vX vY vZ o0 o1 o2 o3 o4 o5 w R
abbrev qq2.J3 (yg5:Nat) (y6:Int) (yg7:Nat) (y8:Int) (w:W) (R:E):Prop:=∀ d0 d1 d2 d3 d4 d9 dA dB dC dD dE dF dG dH dI dJ dK dL dM dN dO dP dQ dR dS dT dU dV dW dX dY dZ k0 k1 k2 k3 k4 k5 k6 k7 k8 k9 kA kB kC kD kE kF kG kH kI kJ kK kL kM kN kO kP kQ kR kS kT kU kV kW kX kY kZ v0 v1 v2 v3 v4 v5 v6 v7 v8 v9 vA vB vC vD vE vF vG vH vI vJ vK vL vM vN vO vP vQ vR vS vT vU vV vW vX vY vZ o0 o1 o2 o3 o4 o5,qq2.j3 yg5 y6 yg7 y8 d0 d1 d2 d3 d4 d9 dA dB dC dD dE dF dG dH dI dJ dK dL dM dN dO dP dQ dR dS dT dU dV dW dX dY dZ k0 k1 k2 k3 k4 k5 k6 k7 k8 k9 kA kB kC kD kE kF kG kH kI kJ kK kL kM kN kO kP kQ kR kS kT kU kV kW kX kY kZ v0 v1 v2 v3 v4 v5 v6 v7 v8 v9 vA vB vC vD vE vF vG vH vI vJ vK vL vM vN vO vP vQ vR vS vT vU vV vW vX vY vZ o0 o1 o2 o3 o4 o5 w R
abbrev qq2.J4 (yg9:Nat) (y10:Int) (yg11:Nat) (y12:Int) (w:W) (R:E):Prop:=∀ d0 d1 d2 d3 d4 d5 d6 d7 d8 dD dE dF dG dH dI dJ dK dL dM dN dO dP dQ dR dS dT dU dV dW dX dY dZ k0 k1 k2 k3 k4 k5 k6 k7 k8 k9 kA kB kC kD kE kF kG kH kI kJ kK kL kM kN kO kP kQ kR kS kT kU kV kW kX kY kZ v0 v1 v2 v3 v4 v5 v6 v7 v8 v9 vA vB vC vD vE vF vG vH vI vJ vK vL vM vN vO vP vQ vR vS vT vU vV vW vX vY vZ o0 o1 o2 o3 o4 o5,qq2.j4 yg9 y10 yg11 y12 d0 d1 d2 d3 d4 d5 d6 d7 d8 dD dE dF dG dH dI dJ dK dL dM dN dO dP dQ dR dS dT dU dV dW dX dY dZ k0 k1 k2 k3 k4 k5 k6 k7 k8 k9 kA kB kC kD kE kF kG kH kI kJ kK kL kM kN kO kP kQ kR kS kT kU kV kW kX kY kZ v0 v1 v2 v3 v4 v5 v6 v7 v8 v9 vA vB vC vD vE vF vG vH vI vJ vK vL vM vN vO vP vQ vR vS vT vU vV vW vX vY vZ o0 o1 o2 o3 o4 o5 w R
theorem qq2.j1_eq:qq2.j1 yg3 yg5 y6 d0 d1 d2 d4 d7 d8 d9 dA dB dC dD dE dF dG dH dI dJ dK dL dM dN dO dP dQ dR dS dT dU dV dW dX dY dZ k0 k1 k2 k3 k4 k5 k6 k7 k8 k9 kA kB kC kD kE kF kG kH kI kJ kK kL kM kN kO kP kQ kR kS kT kU kV kW kX kY kZ v0 v1 v2 v3 v4 v5 v6 v7 v8 v9 vA vB vC vD vE vF vG vH vI vJ vK vL vM vN vO vP vQ vR vS vT vU vV vW vX vY vZ o0 o1 o2 o3 o4 o5 w R =
(∃ S1:W→Prop,S1 w.drew∧
(Let (w.drew) fun w2:W=>
 ∃ x3 x4:Int,∃ b5 b6:Bool,∃ x7 x8 x9 x10 x11:Int,∃ (A12:Option Addr) (n12_ c12_:Nat),∃ (A13:Option Addr) (n13_ c13_:Nat),(11=11∧(∀ w',S1 w'→At w' ⟨yg3,2,N⟩ [I B x3,I H x4,T b5,T b6,I L x7,I B x8,I B x9,I D x10,I D x11,S A12 n12_ c12_,S A13 n13_ c13_]))∧
(∃ x14 x15 x16 x17 x18:Int,(5=5∧(∀ w',S1 w'→At w' ⟨yg3,13,N⟩ [I D x14,I D x15,I B x16,I H x17,I H x18]))∧
((Calls Tryz.prog 28 #[G #[I B x3,I H x4,T b5,T b6,I L x7,I B x8,I B x9,I D x10,I D x11,S A12 n12_ c12_,S A13 n13_ c13_]] w2 (fun (e20:Ending) (w19:W)=>
 ∃ x21 x22:Int,∃ b23 b24:Bool,∃ x25 x26 x27 x28 x29:Int,∃ (A30:Option Addr) (n30_ c30_:Nat),∃ (A31:Option Addr) (n31_ c31_:Nat),e20=.returned (G #[I B x21,I H x22,T b23,T b24,I L x25,I B x26,I B x27,I D x28,I D x29,S A30 n30_ c30_,S A31 n31_ c31_])∧
(S1 w19∧
((Calls Tryz.prog 16 #[G #[I B x21,I H x22,T b23,T b24,I L x25,I B x26,I B x27,I D x28,I D x29,S A30 n30_ c30_,S A31 n31_ c31_],G #[I D x14,I D x15,I B x16,I H x17,I H x18]] w19 (fun (e33:Ending) (w32:W)=>
 ∃ x34 x35:Int,∃ b36 b37:Bool,∃ x38 x39 x40 x41 x42:Int,∃ (A43:Option Addr) (n43_ c43_:Nat),∃ (A44:Option Addr) (n44_ c44_:Nat),∃ x45:Int,e33=.returned (.tuple #[G #[I B x34,I H x35,T b36,T b37,I L x38,I B x39,I B x40,I D x41,I D x42,S A43 n43_ c43_,S A44 n44_ c44_],I L x45])∧
(S1 w32∧
(Let (w32.heap.size) fun g46:Nat=>
 Let (w32.alloc (.cells #[I B 0,I H 0,T false,T false,I L 0,I B 0,I B 0,I D 0,I D 0,S N 0 0,S N 0 0] 37)) fun w47:W=>
 S1 w47∧
(May w47 ⟨g46,0,N⟩ 11∧
(Let (putCells w47 ⟨g46,0,N⟩ [I B x34,I H x35,T b36,T b37,I L x38,I B x39,I B x40,I D x41,I D x42,S A43 n43_ c43_,S A44 n44_ c44_] 0) fun w48:W=>
 S1 w48∧
(Leaf (qq2.j3 yg5 y6 g46 x45 d0 d1 d2 (P (some ⟨yg3,0,N⟩)) d4 d9 dA dB dC dD dE dF dG dH dI dJ dK dL dM dN dO dP dQ dR dS dT (.tuple #[G #[I B x34,I H x35,T b36,T b37,I L x38,I B x39,I B x40,I D x41,I D x42,S A43 n43_ c43_,S A44 n44_ c44_],I L x45]) (P (some ⟨yg3,2,N⟩)) (G #[I B x3,I H x4,T b5,T b6,I L x7,I B x8,I B x9,I D x10,I D x11,S A12 n12_ c12_,S A13 n13_ c13_]) (G #[I B x21,I H x22,T b23,T b24,I L x25,I B x26,I B x27,I D x28,I D x29,S A30 n30_ c30_,S A31 n31_ c31_]) (P (some ⟨yg3,13,N⟩)) (G #[I D x14,I D x15,I B x16,I H x17,I H x18]) (.tuple #[G #[I B x34,I H x35,T b36,T b37,I L x38,I B x39,I B x40,I D x41,I D x42,S A43 n43_ c43_,S A44 n44_ c44_],I L x45]) (G #[I B x34,I H x35,T b36,T b37,I L x38,I B x39,I B x40,I D x41,I D x42,S A43 n43_ c43_,S A44 n44_ c44_]) (I L x45) k3 k4 k5 k6 k7 k8 k9 kA kB kC kD kE kF kG kH kI kJ kK kL kM kN kO kP kQ kR kS kT kU kV kW kX kY kZ v0 v1 v2 v3 v4 v5 v6 v7 v8 v9 vA vB vC vD vE vF vG vH vI vJ vK vL vM vN vO vP vQ vR vS vT vU vV vW vX vY vZ o0 o1 o2 o3 o4 o5 w48 R))))))))∧
(Let (w19.heap.size) fun g49:Nat=>
 Let (w19.alloc (.cells #[I B 0,I H 0,T false,T false,I L 0,I B 0,I B 0,I D 0,I D 0,S N 0 0,S N 0 0] 37)) fun w50:W=>
 S1 w50∧
(Calls Tryz.prog 16 #[G #[I B x21,I H x22,T b23,T b24,I L x25,I B x26,I B x27,I D x28,I D x29,S A30 n30_ c30_,S A31 n31_ c31_],G #[I D x14,I D x15,I B x16,I H x17,I H x18]] w50 (fun (e52:Ending) (w51:W)=>
 ∃ x53 x54:Int,∃ b55 b56:Bool,∃ x57 x58 x59 x60 x61:Int,∃ (A62:Option Addr) (n62_ c62_:Nat),∃ (A63:Option Addr) (n63_ c63_:Nat),∃ x64:Int,e52=.returned (.tuple #[G #[I B x53,I H x54,T b55,T b56,I L x57,I B x58,I B x59,I D x60,I D x61,S A62 n62_ c62_,S A63 n63_ c63_],I L x64])∧
(S1 w51∧
(May w51 ⟨g49,0,N⟩ 11∧
(Let (putCells w51 ⟨g49,0,N⟩ [I B x53,I H x54,T b55,T b56,I L x57,I B x58,I B x59,I D x60,I D x61,S A62 n62_ c62_,S A63 n63_ c63_] 0) fun w65:W=>
 S1 w65∧
(Leaf (qq2.j3 yg5 y6 g49 x64 d0 d1 d2 (P (some ⟨yg3,0,N⟩)) d4 d9 dA dB dC dD dE dF dG dH dI dJ dK dL dM dN dO dP dQ dR dS dT (.tuple #[G #[I B x53,I H x54,T b55,T b56,I L x57,I B x58,I B x59,I D x60,I D x61,S A62 n62_ c62_,S A63 n63_ c63_],I L x64]) (P (some ⟨yg3,2,N⟩)) (G #[I B x3,I H x4,T b5,T b6,I L x7,I B x8,I B x9,I D x10,I D x11,S A12 n12_ c12_,S A13 n13_ c13_]) (G #[I B x21,I H x22,T b23,T b24,I L x25,I B x26,I B x27,I D x28,I D x29,S A30 n30_ c30_,S A31 n31_ c31_]) (P (some ⟨yg3,13,N⟩)) (G #[I D x14,I D x15,I B x16,I H x17,I H x18]) (.tuple #[G #[I B x53,I H x54,T b55,T b56,I L x57,I B x58,I B x59,I D x60,I D x61,S A62 n62_ c62_,S A63 n63_ c63_],I L x64]) (G #[I B x53,I H x54,T b55,T b56,I L x57,I B x58,I B x59,I D x60,I D x61,S A62 n62_ c62_,S A63 n63_ c63_]) (I L x64) k3 k4 k5 k6 k7 k8 k9 kA kB kC kD kE kF kG kH kI kJ kK kL kM kN kO kP kQ kR kS kT kU kV kW kX kY kZ v0 v1 v2 v3 v4 v5 v6 v7 v8 v9 vA vB vC vD vE vF vG vH vI vJ vK vL vM vN vO vP vQ vR vS vT vU vV vW vX vY vZ o0 o1 o2 o3 o4 o5 w65 R))))))))))))∧
(Let (w2.heap.size) fun g66:Nat=>
 Let (w2.alloc (.cells #[I B 0,I H 0,T false,T false,I L 0,I B 0,I B 0,I D 0,I D 0,S N 0 0,S N 0 0] 37)) fun w67:W=>
 S1 w67∧
(Calls Tryz.prog 28 #[G #[I B x3,I H x4,T b5,T b6,I L x7,I B x8,I B x9,I D x10,I D x11,S A12 n12_ c12_,S A13 n13_ c13_]] w67 (fun (e69:Ending) (w68:W)=>
 ∃ x70 x71:Int,∃ b72 b73:Bool,∃ x74 x75 x76 x77 x78:Int,∃ (A79:Option Addr) (n79_ c79_:Nat),∃ (A80:Option Addr) (n80_ c80_:Nat),e69=.returned (G #[I B x70,I H x71,T b72,T b73,I L x74,I B x75,I B x76,I D x77,I D x78,S A79 n79_ c79_,S A80 n80_ c80_])∧
(S1 w68∧
(Calls Tryz.prog 16 #[G #[I B x70,I H x71,T b72,T b73,I L x74,I B x75,I B x76,I D x77,I D x78,S A79 n79_ c79_,S A80 n80_ c80_],G #[I D x14,I D x15,I B x16,I H x17,I H x18]] w68 (fun (e82:Ending) (w81:W)=>
 ∃ x83 x84:Int,∃ b85 b86:Bool,∃ x87 x88 x89 x90 x91:Int,∃ (A92:Option Addr) (n92_ c92_:Nat),∃ (A93:Option Addr) (n93_ c93_:Nat),∃ x94:Int,e82=.returned (.tuple #[G #[I B x83,I H x84,T b85,T b86,I L x87,I B x88,I B x89,I D x90,I D x91,S A92 n92_ c92_,S A93 n93_ c93_],I L x94])∧
(S1 w81∧
(May w81 ⟨g66,0,N⟩ 11∧
(Let (putCells w81 ⟨g66,0,N⟩ [I B x83,I H x84,T b85,T b86,I L x87,I B x88,I B x89,I D x90,I D x91,S A92 n92_ c92_,S A93 n93_ c93_] 0) fun w95:W=>
 S1 w95∧
(Leaf (qq2.j3 yg5 y6 g66 x94 d0 d1 d2 (P (some ⟨yg3,0,N⟩)) d4 d9 dA dB dC dD dE dF dG dH dI dJ dK dL dM dN dO dP dQ dR dS dT (.tuple #[G #[I B x83,I H x84,T b85,T b86,I L x87,I B x88,I B x89,I D x90,I D x91,S A92 n92_ c92_,S A93 n93_ c93_],I L x94]) (P (some ⟨yg3,2,N⟩)) (G #[I B x3,I H x4,T b5,T b6,I L x7,I B x8,I B x9,I D x10,I D x11,S A12 n12_ c12_,S A13 n13_ c13_]) (G #[I B x70,I H x71,T b72,T b73,I L x74,I B x75,I B x76,I D x77,I D x78,S A79 n79_ c79_,S A80 n80_ c80_]) (P (some ⟨yg3,13,N⟩)) (G #[I D x14,I D x15,I B x16,I H x17,I H x18]) (.tuple #[G #[I B x83,I H x84,T b85,T b86,I L x87,I B x88,I B x89,I D x90,I D x91,S A92 n92_ c92_,S A93 n93_ c93_],I L x94]) (G #[I B x83,I H x84,T b85,T b86,I L x87,I B x88,I B x89,I D x90,I D x91,S A92 n92_ c92_,S A93 n93_ c93_]) (I L x94) k3 k4 k5 k6 k7 k8 k9 kA kB kC kD kE kF kG kH kI kJ kK kL kM kN kO kP kQ kR kS kT kU kV kW kX kY kZ v0 v1 v2 v3 v4 v5 v6 v7 v8 v9 vA vB vC vD vE vF vG vH vI vJ vK vL vM vN vO vP vQ vR vS vT vU vV vW vX vY vZ o0 o1 o2 o3 o4 o5 w95 R))))))))))))))):=by kernel_rfl
theorem qq2.j2_eq:qq2.j2 yg3 yg9 y10 d0 d1 d2 d4 d5 d6 d7 d8 dB dC dD dE dF dG dH dI dJ dK dL dM dN dO dP dQ dR dS dT dU dV dW dX dY dZ k0 k1 k2 k3 k4 k5 k6 k7 k8 k9 kA kB kC kD kE kF kG kH kI kJ kK kL kM kN kO kP kQ kR kS kT kU kV kW kX kY kZ v0 v1 v2 v3 v4 v5 v6 v7 v8 v9 vA vB vC vD vE vF vG vH vI vJ vK vL vM vN vO vP vQ vR vS vT vU vV vW vX vY vZ o0 o1 o2 o3 o4 o5 w R =
(∃ S1:W→Prop,S1 w.drew∧
(Let (w.drew) fun w2:W=>
 ∃ x3 x4:Int,∃ b5 b6:Bool,∃ x7 x8 x9 x10 x11:Int,∃ (A12:Option Addr) (n12_ c12_:Nat),∃ (A13:Option Addr) (n13_ c13_:Nat),(11=11∧(∀ w',S1 w'→At w' ⟨yg3,2,N⟩ [I B x3,I H x4,T b5,T b6,I L x7,I B x8,I B x9,I D x10,I D x11,S A12 n12_ c12_,S A13 n13_ c13_]))∧
(∃ x14:Int,(∀ w',S1 w'→w'.cell? ⟨yg3,18,N⟩=some (I D x14))∧
(∃ x15:Int,(∀ w',S1 w'→w'.cell? ⟨yg3,19,N⟩=some (I D x15))∧
(∃ x16 x17 x18 x19 x20:Int,(5=5∧(∀ w',S1 w'→At w' ⟨yg3,13,N⟩ [I D x16,I D x17,I B x18,I H x19,I H x20]))∧
((Calls Tryz.prog 28 #[G #[I B x3,I H x4,T b5,T b6,I L x7,I B x8,I B x9,I D x10,I D x11,S A12 n12_ c12_,S A13 n13_ c13_]] w2 (fun (e22:Ending) (w21:W)=>
 ∃ x23 x24:Int,∃ b25 b26:Bool,∃ x27 x28 x29 x30 x31:Int,∃ (A32:Option Addr) (n32_ c32_:Nat),∃ (A33:Option Addr) (n33_ c33_:Nat),e22=.returned (G #[I B x23,I H x24,T b25,T b26,I L x27,I B x28,I B x29,I D x30,I D x31,S A32 n32_ c32_,S A33 n33_ c33_])∧
(S1 w21∧
((Calls Tryz.prog 31 #[G #[I B x23,I H x24,T b25,T b26,I L x27,I B x28,I B x29,I D x30,I D x31,S A32 n32_ c32_,S A33 n33_ c33_],I D x14,I D x15,G #[I D x16,I D x17,I B x18,I H x19,I H x20]] w21 (fun (e35:Ending) (w34:W)=>
 ∃ x36 x37:Int,∃ b38 b39:Bool,∃ x40 x41 x42 x43 x44:Int,∃ (A45:Option Addr) (n45_ c45_:Nat),∃ (A46:Option Addr) (n46_ c46_:Nat),∃ x47:Int,e35=.returned (.tuple #[G #[I B x36,I H x37,T b38,T b39,I L x40,I B x41,I B x42,I D x43,I D x44,S A45 n45_ c45_,S A46 n46_ c46_],I L x47])∧
(S1 w34∧
(Let (w34.heap.size) fun g48:Nat=>
 Let (w34.alloc (.cells #[I B 0,I H 0,T false,T false,I L 0,I B 0,I B 0,I D 0,I D 0,S N 0 0,S N 0 0] 37)) fun w49:W=>
 S1 w49∧
(May w49 ⟨g48,0,N⟩ 11∧
(Let (putCells w49 ⟨g48,0,N⟩ [I B x36,I H x37,T b38,T b39,I L x40,I B x41,I B x42,I D x43,I D x44,S A45 n45_ c45_,S A46 n46_ c46_] 0) fun w50:W=>
 S1 w50∧
(Leaf (qq2.j4 yg9 y10 g48 x47 d0 d1 d2 (P (some ⟨yg3,0,N⟩)) d4 d5 d6 d7 d8 dD dE dF dG dH dI dJ dK dL dM dN dO dP dQ dR dS dT dU dV dW dX dY dZ k0 k1 k2 k3 k4 k5 k6 k7 k8 k9 kA kB kC kD kE kF kG kH kI kJ kK kL kM kN kO kP (.tuple #[G #[I B x36,I H x37,T b38,T b39,I L x40,I B x41,I B x42,I D x43,I D x44,S A45 n45_ c45_,S A46 n46_ c46_],I L x47]) (P (some ⟨yg3,2,N⟩)) (G #[I B x3,I H x4,T b5,T b6,I L x7,I B x8,I B x9,I D x10,I D x11,S A12 n12_ c12_,S A13 n13_ c13_]) (G #[I B x23,I H x24,T b25,T b26,I L x27,I B x28,I B x29,I D x30,I D x31,S A32 n32_ c32_,S A33 n33_ c33_]) (P (some ⟨yg3,18,N⟩)) (I D x14) (P (some ⟨yg3,19,N⟩)) (I D x15) (P (some ⟨yg3,13,N⟩)) (G #[I D x16,I D x17,I B x18,I H x19,I H x20]) (.tuple #[G #[I B x36,I H x37,T b38,T b39,I L x40,I B x41,I B x42,I D x43,I D x44,S A45 n45_ c45_,S A46 n46_ c46_],I L x47]) (G #[I B x36,I H x37,T b38,T b39,I L x40,I B x41,I B x42,I D x43,I D x44,S A45 n45_ c45_,S A46 n46_ c46_]) (I L x47) v3 v4 v5 v6 v7 v8 v9 vA vB vC vD vE vF vG vH vI vJ vK vL vM vN vO vP vQ vR vS vT vU vV vW vX vY vZ o0 o1 o2 o3 o4 o5 w50 R))))))))∧
(Let (w21.heap.size) fun g51:Nat=>
 Let (w21.alloc (.cells #[I B 0,I H 0,T false,T false,I L 0,I B 0,I B 0,I D 0,I D 0,S N 0 0,S N 0 0] 37)) fun w52:W=>
 S1 w52∧
(Calls Tryz.prog 31 #[G #[I B x23,I H x24,T b25,T b26,I L x27,I B x28,I B x29,I D x30,I D x31,S A32 n32_ c32_,S A33 n33_ c33_],I D x14,I D x15,G #[I D x16,I D x17,I B x18,I H x19,I H x20]] w52 (fun (e54:Ending) (w53:W)=>
 ∃ x55 x56:Int,∃ b57 b58:Bool,∃ x59 x60 x61 x62 x63:Int,∃ (A64:Option Addr) (n64_ c64_:Nat),∃ (A65:Option Addr) (n65_ c65_:Nat),∃ x66:Int,e54=.returned (.tuple #[G #[I B x55,I H x56,T b57,T b58,I L x59,I B x60,I B x61,I D x62,I D x63,S A64 n64_ c64_,S A65 n65_ c65_],I L x66])∧
(S1 w53∧
(May w53 ⟨g51,0,N⟩ 11∧
(Let (putCells w53 ⟨g51,0,N⟩ [I B x55,I H x56,T b57,T b58,I L x59,I B x60,I B x61,I D x62,I D x63,S A64 n64_ c64_,S A65 n65_ c65_] 0) fun w67:W=>
 S1 w67∧
(Leaf (qq2.j4 yg9 y10 g51 x66 d0 d1 d2 (P (some ⟨yg3,0,N⟩)) d4 d5 d6 d7 d8 dD dE dF dG dH dI dJ dK dL dM dN dO dP dQ dR dS dT dU dV dW dX dY dZ k0 k1 k2 k3 k4 k5 k6 k7 k8 k9 kA kB kC kD kE kF kG kH kI kJ kK kL kM kN kO kP (.tuple #[G #[I B x55,I H x56,T b57,T b58,I L x59,I B x60,I B x61,I D x62,I D x63,S A64 n64_ c64_,S A65 n65_ c65_],I L x66]) (P (some ⟨yg3,2,N⟩)) (G #[I B x3,I H x4,T b5,T b6,I L x7,I B x8,I B x9,I D x10,I D x11,S A12 n12_ c12_,S A13 n13_ c13_]) (G #[I B x23,I H x24,T b25,T b26,I L x27,I B x28,I B x29,I D x30,I D x31,S A32 n32_ c32_,S A33 n33_ c33_]) (P (some ⟨yg3,18,N⟩)) (I D x14) (P (some ⟨yg3,19,N⟩)) (I D x15) (P (some ⟨yg3,13,N⟩)) (G #[I D x16,I D x17,I B x18,I H x19,I H x20]) (.tuple #[G #[I B x55,I H x56,T b57,T b58,I L x59,I B x60,I B x61,I D x62,I D x63,S A64 n64_ c64_,S A65 n65_ c65_],I L x66]) (G #[I B x55,I H x56,T b57,T b58,I L x59,I B x60,I B x61,I D x62,I D x63,S A64 n64_ c64_,S A65 n65_ c65_]) (I L x66) v3 v4 v5 v6 v7 v8 v9 vA vB vC vD vE vF vG vH vI vJ vK vL vM vN vO vP vQ vR vS vT vU vV vW vX vY vZ o0 o1 o2 o3 o4 o5 w67 R))))))))))))∧
(Let (w2.heap.size) fun g68:Nat=>
 Let (w2.alloc (.cells #[I B 0,I H 0,T false,T false,I L 0,I B 0,I B 0,I D 0,I D 0,S N 0 0,S N 0 0] 37)) fun w69:W=>
 S1 w69∧
(Calls Tryz.prog 28 #[G #[I B x3,I H x4,T b5,T b6,I L x7,I B x8,I B x9,I D x10,I D x11,S A12 n12_ c12_,S A13 n13_ c13_]] w69 (fun (e71:Ending) (w70:W)=>
 ∃ x72 x73:Int,∃ b74 b75:Bool,∃ x76 x77 x78 x79 x80:Int,∃ (A81:Option Addr) (n81_ c81_:Nat),∃ (A82:Option Addr) (n82_ c82_:Nat),e71=.returned (G #[I B x72,I H x73,T b74,T b75,I L x76,I B x77,I B x78,I D x79,I D x80,S A81 n81_ c81_,S A82 n82_ c82_])∧
(S1 w70∧
(Calls Tryz.prog 31 #[G #[I B x72,I H x73,T b74,T b75,I L x76,I B x77,I B x78,I D x79,I D x80,S A81 n81_ c81_,S A82 n82_ c82_],I D x14,I D x15,G #[I D x16,I D x17,I B x18,I H x19,I H x20]] w70 (fun (e84:Ending) (w83:W)=>
 ∃ x85 x86:Int,∃ b87 b88:Bool,∃ x89 x90 x91 x92 x93:Int,∃ (A94:Option Addr) (n94_ c94_:Nat),∃ (A95:Option Addr) (n95_ c95_:Nat),∃ x96:Int,e84=.returned (.tuple #[G #[I B x85,I H x86,T b87,T b88,I L x89,I B x90,I B x91,I D x92,I D x93,S A94 n94_ c94_,S A95 n95_ c95_],I L x96])∧
(S1 w83∧
(May w83 ⟨g68,0,N⟩ 11∧
(Let (putCells w83 ⟨g68,0,N⟩ [I B x85,I H x86,T b87,T b88,I L x89,I B x90,I B x91,I D x92,I D x93,S A94 n94_ c94_,S A95 n95_ c95_] 0) fun w97:W=>
 S1 w97∧
(Leaf (qq2.j4 yg9 y10 g68 x96 d0 d1 d2 (P (some ⟨yg3,0,N⟩)) d4 d5 d6 d7 d8 dD dE dF dG dH dI dJ dK dL dM dN dO dP dQ dR dS dT dU dV dW dX dY dZ k0 k1 k2 k3 k4 k5 k6 k7 k8 k9 kA kB kC kD kE kF kG kH kI kJ kK kL kM kN kO kP (.tuple #[G #[I B x85,I H x86,T b87,T b88,I L x89,I B x90,I B x91,I D x92,I D x93,S A94 n94_ c94_,S A95 n95_ c95_],I L x96]) (P (some ⟨yg3,2,N⟩)) (G #[I B x3,I H x4,T b5,T b6,I L x7,I B x8,I B x9,I D x10,I D x11,S A12 n12_ c12_,S A13 n13_ c13_]) (G #[I B x72,I H x73,T b74,T b75,I L x76,I B x77,I B x78,I D x79,I D x80,S A81 n81_ c81_,S A82 n82_ c82_]) (P (some ⟨yg3,18,N⟩)) (I D x14) (P (some ⟨yg3,19,N⟩)) (I D x15) (P (some ⟨yg3,13,N⟩)) (G #[I D x16,I D x17,I B x18,I H x19,I H x20]) (.tuple #[G #[I B x85,I H x86,T b87,T b88,I L x89,I B x90,I B x91,I D x92,I D x93,S A94 n94_ c94_,S A95 n95_ c95_],I L x96]) (G #[I B x85,I H x86,T b87,T b88,I L x89,I B x90,I B x91,I D x92,I D x93,S A94 n94_ c94_,S A95 n95_ c95_]) (I L x96) v3 v4 v5 v6 v7 v8 v9 vA vB vC vD vE vF vG vH vI vJ vK vL vM vN vO vP vQ vR vS vT vU vV vW vX vY vZ o0 o1 o2 o3 o4 o5 w97 R))))))))))))))))):=by kernel_rfl
theorem qq2.j3_eq:qq2.j3 yg5 y6 yg7 y8 d0 d1 d2 d3 d4 d9 dA dB dC dD dE dF dG dH dI dJ dK dL dM dN dO dP dQ dR dS dT dU dV dW dX dY dZ k0 k1 k2 k3 k4 k5 k6 k7 k8 k9 kA kB kC kD kE kF kG kH kI kJ kK kL kM kN kO kP kQ kR kS kT kU kV kW kX kY kZ v0 v1 v2 v3 v4 v5 v6 v7 v8 v9 vA vB vC vD vE vF vG vH vI vJ vK vL vM vN vO vP vQ vR vS vT vU vV vW vX vY vZ o0 o1 o2 o3 o4 o5 w R =
((if (y8 == y6)=true then
(∃ x1 x2:Int,∃ b3 b4:Bool,∃ x5 x6 x7 x8 x9:Int,∃ (A10:Option Addr) (n10_ c10_:Nat),∃ (A11:Option Addr) (n11_ c11_:Nat),(11=11∧At w ⟨yg7,0,N⟩ [I B x1,I H x2,T b3,T b4,I L x5,I B x6,I B x7,I D x8,I D x9,S A10 n10_ c10_,S A11 n11_ c11_])∧
(∃ x12 x13:Int,∃ b14 b15:Bool,∃ x16 x17 x18 x19 x20:Int,∃ (A21:Option Addr) (n21_ c21_:Nat),∃ (A22:Option Addr) (n22_ c22_:Nat),(11=11∧At w ⟨yg5,0,N⟩ [I B x12,I H x13,T b14,T b15,I L x16,I B x17,I B x18,I D x19,I D x20,S A21 n21_ c21_,S A22 n22_ c22_])∧
(Calls Tryz.prog 29 #[G #[I B x1,I H x2,T b3,T b4,I L x5,I B x6,I B x7,I D x8,I D x9,S A10 n10_ c10_,S A11 n11_ c11_],G #[I B x12,I H x13,T b14,T b15,I L x16,I B x17,I B x18,I D x19,I D x20,S A21 n21_ c21_,S A22 n22_ c22_]] w (fun (e24:Ending) (w23:W)=>
 ∃ b25:Bool,e24=.returned (T b25)∧
(R (.returned (T b25)) w23)))))
else
(R (.returned (T false)) w))):=by kernel_rfl
theorem qq2.j4_eq:qq2.j4 yg9 y10 yg11 y12 d0 d1 d2 d3 d4 d5 d6 d7 d8 dD dE dF dG dH dI dJ dK dL dM dN dO dP dQ dR dS dT dU dV dW dX dY dZ k0 k1 k2 k3 k4 k5 k6 k7 k8 k9 kA kB kC kD kE kF kG kH kI kJ kK kL kM kN kO kP kQ kR kS kT kU kV kW kX kY kZ v0 v1 v2 v3 v4 v5 v6 v7 v8 v9 vA vB vC vD vE vF vG vH vI vJ vK vL vM vN vO vP vQ vR vS vT vU vV vW vX vY vZ o0 o1 o2 o3 o4 o5 w R =
((if (y12 == y10)=true then
(∃ x1 x2:Int,∃ b3 b4:Bool,∃ x5 x6 x7 x8 x9:Int,∃ (A10:Option Addr) (n10_ c10_:Nat),∃ (A11:Option Addr) (n11_ c11_:Nat),(11=11∧At w ⟨yg11,0,N⟩ [I B x1,I H x2,T b3,T b4,I L x5,I B x6,I B x7,I D x8,I D x9,S A10 n10_ c10_,S A11 n11_ c11_])∧
(∃ x12 x13:Int,∃ b14 b15:Bool,∃ x16 x17 x18 x19 x20:Int,∃ (A21:Option Addr) (n21_ c21_:Nat),∃ (A22:Option Addr) (n22_ c22_:Nat),(11=11∧At w ⟨yg9,0,N⟩ [I B x12,I H x13,T b14,T b15,I L x16,I B x17,I B x18,I D x19,I D x20,S A21 n21_ c21_,S A22 n22_ c22_])∧
(Calls Tryz.prog 29 #[G #[I B x1,I H x2,T b3,T b4,I L x5,I B x6,I B x7,I D x8,I D x9,S A10 n10_ c10_,S A11 n11_ c11_],G #[I B x12,I H x13,T b14,T b15,I L x16,I B x17,I B x18,I D x19,I D x20,S A21 n21_ c21_,S A22 n22_ c22_]] w (fun (e24:Ending) (w23:W)=>
 ∃ b25:Bool,e24=.returned (T b25)∧
(R (.returned (T b25)) w23)))))
else
(R (.returned (T false)) w))):=by kernel_rfl
def qq2.s (i0_0 i0_1:Option Addr) (i1_0:Int) (i1_1:Bool) (i1_2 i1_3:Int) (i1_4 i1_5:Bool) (i1_6 i1_7 i1_8 i1_9 i1_10:Int) (I1_11:Option Addr) (in1_11 ic1_11:Nat) (I1_12:Option Addr) (in1_12 ic1_12:Nat) (i1_13 i1_14 i1_15 i1_16 i1_17 i1_18 i1_19:Int) (I1_20:Option Addr) (in1_20 ic1_20:Nat) (i1_21 i1_22:Int) (w:W) (R:E):Prop:=
(Let (w.heap.size) fun g1:Nat=>
 Let (w.alloc (.cells #[P i0_0,P i0_1] 27)) fun w2:W=>
 Let (w2.heap.size) fun g3:Nat=>
 Let (w2.alloc (.cells #[I L i1_0,T i1_1,I B i1_2,I H i1_3,T i1_4,T i1_5,I L i1_6,I B i1_7,I B i1_8,I D i1_9,I D i1_10,S I1_11 in1_11 ic1_11,S I1_12 in1_12 ic1_12,I D i1_13,I D i1_14,I B i1_15,I H i1_16,I H i1_17,I D i1_18,I D i1_19,S I1_20 in1_20 ic1_20,I B i1_21,I H i1_22] 42)) fun w4:W=>
 ∃ x5:Int,w4.cell? ⟨g3,0,N⟩=some (I L x5)∧
((if (x5 == 1)=true then
(∃ S6:W→Prop,S6 w4.drew∧
(Let (w4.drew) fun w7:W=>
 ∃ x8 x9:Int,∃ b10 b11:Bool,∃ x12 x13 x14 x15 x16:Int,∃ (A17:Option Addr) (n17_ c17_:Nat),∃ (A18:Option Addr) (n18_ c18_:Nat),(11=11∧(∀ w',S6 w'→At w' ⟨g3,2,N⟩ [I B x8,I H x9,T b10,T b11,I L x12,I B x13,I B x14,I D x15,I D x16,S A17 n17_ c17_,S A18 n18_ c18_]))∧
(∃ x19 x20 x21 x22 x23:Int,(5=5∧(∀ w',S6 w'→At w' ⟨g3,13,N⟩ [I D x19,I D x20,I B x21,I H x22,I H x23]))∧
((Calls Tryz.prog 28 #[G #[I B x8,I H x9,T b10,T b11,I L x12,I B x13,I B x14,I D x15,I D x16,S A17 n17_ c17_,S A18 n18_ c18_]] w7 (fun (e25:Ending) (w24:W)=>
 ∃ x26 x27:Int,∃ b28 b29:Bool,∃ x30 x31 x32 x33 x34:Int,∃ (A35:Option Addr) (n35_ c35_:Nat),∃ (A36:Option Addr) (n36_ c36_:Nat),e25=.returned (G #[I B x26,I H x27,T b28,T b29,I L x30,I B x31,I B x32,I D x33,I D x34,S A35 n35_ c35_,S A36 n36_ c36_])∧
(S6 w24∧
((Calls Tryz.prog 27 #[G #[I B x26,I H x27,T b28,T b29,I L x30,I B x31,I B x32,I D x33,I D x34,S A35 n35_ c35_,S A36 n36_ c36_],G #[I D x19,I D x20,I B x21,I H x22,I H x23]] w24 (fun (e38:Ending) (w37:W)=>
 ∃ x39 x40:Int,∃ b41 b42:Bool,∃ x43 x44 x45 x46 x47:Int,∃ (A48:Option Addr) (n48_ c48_:Nat),∃ (A49:Option Addr) (n49_ c49_:Nat),∃ x50:Int,e38=.returned (.tuple #[G #[I B x39,I H x40,T b41,T b42,I L x43,I B x44,I B x45,I D x46,I D x47,S A48 n48_ c48_,S A49 n49_ c49_],I L x50])∧
(S6 w37∧
(Let (w37.heap.size) fun g51:Nat=>
 Let (w37.alloc (.cells #[I B 0,I H 0,T false,T false,I L 0,I B 0,I B 0,I D 0,I D 0,S N 0 0,S N 0 0] 37)) fun w52:W=>
 S6 w52∧
(May w52 ⟨g51,0,N⟩ 11∧
(Let (putCells w52 ⟨g51,0,N⟩ [I B x39,I H x40,T b41,T b42,I L x43,I B x44,I B x45,I D x46,I D x47,S A48 n48_ c48_,S A49 n49_ c49_] 0) fun w53:W=>
 S6 w53∧
(Leaf (qq2.j1 g3 g51 x50 (G #[P i0_0,P i0_1]) (G #[I L i1_0,T i1_1,I B i1_2,I H i1_3,T i1_4,T i1_5,I L i1_6,I B i1_7,I B i1_8,I D i1_9,I D i1_10,S I1_11 in1_11 ic1_11,S I1_12 in1_12 ic1_12,I D i1_13,I D i1_14,I B i1_15,I H i1_16,I H i1_17,I D i1_18,I D i1_19,S I1_20 in1_20 ic1_20,I B i1_21,I H i1_22]) (P (some ⟨g1,0,N⟩)) (T false) U U U U U U U U U U (P (some ⟨g3,0,N⟩)) (I L x5) (T (x5 == 1)) (T (x5 == 1)) (.tuple #[G #[I B x39,I H x40,T b41,T b42,I L x43,I B x44,I B x45,I D x46,I D x47,S A48 n48_ c48_,S A49 n49_ c49_],I L x50]) (P (some ⟨g3,2,N⟩)) (G #[I B x8,I H x9,T b10,T b11,I L x12,I B x13,I B x14,I D x15,I D x16,S A17 n17_ c17_,S A18 n18_ c18_]) (G #[I B x26,I H x27,T b28,T b29,I L x30,I B x31,I B x32,I D x33,I D x34,S A35 n35_ c35_,S A36 n36_ c36_]) (P (some ⟨g3,13,N⟩)) (G #[I D x19,I D x20,I B x21,I H x22,I H x23]) (.tuple #[G #[I B x39,I H x40,T b41,T b42,I L x43,I B x44,I B x45,I D x46,I D x47,S A48 n48_ c48_,S A49 n49_ c49_],I L x50]) (G #[I B x39,I H x40,T b41,T b42,I L x43,I B x44,I B x45,I D x46,I D x47,S A48 n48_ c48_,S A49 n49_ c49_]) (I L x50) U U U U U U U U U U U U U U U U U U U U U U U U U U U U U U U U U U U U U U U U U U U U U U U U U U U U U U U U U U U U U U U U U U U U U U U U U U U U U U U U U U U U w53 R))))))))∧
(Let (w24.heap.size) fun g54:Nat=>
 Let (w24.alloc (.cells #[I B 0,I H 0,T false,T false,I L 0,I B 0,I B 0,I D 0,I D 0,S N 0 0,S N 0 0] 37)) fun w55:W=>
 S6 w55∧
(Calls Tryz.prog 27 #[G #[I B x26,I H x27,T b28,T b29,I L x30,I B x31,I B x32,I D x33,I D x34,S A35 n35_ c35_,S A36 n36_ c36_],G #[I D x19,I D x20,I B x21,I H x22,I H x23]] w55 (fun (e57:Ending) (w56:W)=>
 ∃ x58 x59:Int,∃ b60 b61:Bool,∃ x62 x63 x64 x65 x66:Int,∃ (A67:Option Addr) (n67_ c67_:Nat),∃ (A68:Option Addr) (n68_ c68_:Nat),∃ x69:Int,e57=.returned (.tuple #[G #[I B x58,I H x59,T b60,T b61,I L x62,I B x63,I B x64,I D x65,I D x66,S A67 n67_ c67_,S A68 n68_ c68_],I L x69])∧
(S6 w56∧
(May w56 ⟨g54,0,N⟩ 11∧
(Let (putCells w56 ⟨g54,0,N⟩ [I B x58,I H x59,T b60,T b61,I L x62,I B x63,I B x64,I D x65,I D x66,S A67 n67_ c67_,S A68 n68_ c68_] 0) fun w70:W=>
 S6 w70∧
(Leaf (qq2.j1 g3 g54 x69 (G #[P i0_0,P i0_1]) (G #[I L i1_0,T i1_1,I B i1_2,I H i1_3,T i1_4,T i1_5,I L i1_6,I B i1_7,I B i1_8,I D i1_9,I D i1_10,S I1_11 in1_11 ic1_11,S I1_12 in1_12 ic1_12,I D i1_13,I D i1_14,I B i1_15,I H i1_16,I H i1_17,I D i1_18,I D i1_19,S I1_20 in1_20 ic1_20,I B i1_21,I H i1_22]) (P (some ⟨g1,0,N⟩)) (T false) U U U U U U U U U U (P (some ⟨g3,0,N⟩)) (I L x5) (T (x5 == 1)) (T (x5 == 1)) (.tuple #[G #[I B x58,I H x59,T b60,T b61,I L x62,I B x63,I B x64,I D x65,I D x66,S A67 n67_ c67_,S A68 n68_ c68_],I L x69]) (P (some ⟨g3,2,N⟩)) (G #[I B x8,I H x9,T b10,T b11,I L x12,I B x13,I B x14,I D x15,I D x16,S A17 n17_ c17_,S A18 n18_ c18_]) (G #[I B x26,I H x27,T b28,T b29,I L x30,I B x31,I B x32,I D x33,I D x34,S A35 n35_ c35_,S A36 n36_ c36_]) (P (some ⟨g3,13,N⟩)) (G #[I D x19,I D x20,I B x21,I H x22,I H x23]) (.tuple #[G #[I B x58,I H x59,T b60,T b61,I L x62,I B x63,I B x64,I D x65,I D x66,S A67 n67_ c67_,S A68 n68_ c68_],I L x69]) (G #[I B x58,I H x59,T b60,T b61,I L x62,I B x63,I B x64,I D x65,I D x66,S A67 n67_ c67_,S A68 n68_ c68_]) (I L x69) U U U U U U U U U U U U U U U U U U U U U U U U U U U U U U U U U U U U U U U U U U U U U U U U U U U U U U U U U U U U U U U U U U U U U U U U U U U U U U U U U U U U w70 R))))))))))))∧
(Let (w7.heap.size) fun g71:Nat=>
 Let (w7.alloc (.cells #[I B 0,I H 0,T false,T false,I L 0,I B 0,I B 0,I D 0,I D 0,S N 0 0,S N 0 0] 37)) fun w72:W=>
 S6 w72∧
(Calls Tryz.prog 28 #[G #[I B x8,I H x9,T b10,T b11,I L x12,I B x13,I B x14,I D x15,I D x16,S A17 n17_ c17_,S A18 n18_ c18_]] w72 (fun (e74:Ending) (w73:W)=>
 ∃ x75 x76:Int,∃ b77 b78:Bool,∃ x79 x80 x81 x82 x83:Int,∃ (A84:Option Addr) (n84_ c84_:Nat),∃ (A85:Option Addr) (n85_ c85_:Nat),e74=.returned (G #[I B x75,I H x76,T b77,T b78,I L x79,I B x80,I B x81,I D x82,I D x83,S A84 n84_ c84_,S A85 n85_ c85_])∧
(S6 w73∧
(Calls Tryz.prog 27 #[G #[I B x75,I H x76,T b77,T b78,I L x79,I B x80,I B x81,I D x82,I D x83,S A84 n84_ c84_,S A85 n85_ c85_],G #[I D x19,I D x20,I B x21,I H x22,I H x23]] w73 (fun (e87:Ending) (w86:W)=>
 ∃ x88 x89:Int,∃ b90 b91:Bool,∃ x92 x93 x94 x95 x96:Int,∃ (A97:Option Addr) (n97_ c97_:Nat),∃ (A98:Option Addr) (n98_ c98_:Nat),∃ x99:Int,e87=.returned (.tuple #[G #[I B x88,I H x89,T b90,T b91,I L x92,I B x93,I B x94,I D x95,I D x96,S A97 n97_ c97_,S A98 n98_ c98_],I L x99])∧
(S6 w86∧
(May w86 ⟨g71,0,N⟩ 11∧
(Let (putCells w86 ⟨g71,0,N⟩ [I B x88,I H x89,T b90,T b91,I L x92,I B x93,I B x94,I D x95,I D x96,S A97 n97_ c97_,S A98 n98_ c98_] 0) fun w100:W=>
 S6 w100∧
(Leaf (qq2.j1 g3 g71 x99 (G #[P i0_0,P i0_1]) (G #[I L i1_0,T i1_1,I B i1_2,I H i1_3,T i1_4,T i1_5,I L i1_6,I B i1_7,I B i1_8,I D i1_9,I D i1_10,S I1_11 in1_11 ic1_11,S I1_12 in1_12 ic1_12,I D i1_13,I D i1_14,I B i1_15,I H i1_16,I H i1_17,I D i1_18,I D i1_19,S I1_20 in1_20 ic1_20,I B i1_21,I H i1_22]) (P (some ⟨g1,0,N⟩)) (T false) U U U U U U U U U U (P (some ⟨g3,0,N⟩)) (I L x5) (T (x5 == 1)) (T (x5 == 1)) (.tuple #[G #[I B x88,I H x89,T b90,T b91,I L x92,I B x93,I B x94,I D x95,I D x96,S A97 n97_ c97_,S A98 n98_ c98_],I L x99]) (P (some ⟨g3,2,N⟩)) (G #[I B x8,I H x9,T b10,T b11,I L x12,I B x13,I B x14,I D x15,I D x16,S A17 n17_ c17_,S A18 n18_ c18_]) (G #[I B x75,I H x76,T b77,T b78,I L x79,I B x80,I B x81,I D x82,I D x83,S A84 n84_ c84_,S A85 n85_ c85_]) (P (some ⟨g3,13,N⟩)) (G #[I D x19,I D x20,I B x21,I H x22,I H x23]) (.tuple #[G #[I B x88,I H x89,T b90,T b91,I L x92,I B x93,I B x94,I D x95,I D x96,S A97 n97_ c97_,S A98 n98_ c98_],I L x99]) (G #[I B x88,I H x89,T b90,T b91,I L x92,I B x93,I B x94,I D x95,I D x96,S A97 n97_ c97_,S A98 n98_ c98_]) (I L x99) U U U U U U U U U U U U U U U U U U U U U U U U U U U U U U U U U U U U U U U U U U U U U U U U U U U U U U U U U U U U U U U U U U U U U U U U U U U U U U U U U U U U w100 R)))))))))))))))
else
((if (x5 == 2)=true then
(∃ S101:W→Prop,S101 w4.drew∧
(Let (w4.drew) fun w102:W=>
 ∃ x103 x104:Int,∃ b105 b106:Bool,∃ x107 x108 x109 x110 x111:Int,∃ (A112:Option Addr) (n112_ c112_:Nat),∃ (A113:Option Addr) (n113_ c113_:Nat),(11=11∧(∀ w',S101 w'→At w' ⟨g3,2,N⟩ [I B x103,I H x104,T b105,T b106,I L x107,I B x108,I B x109,I D x110,I D x111,S A112 n112_ c112_,S A113 n113_ c113_]))∧
(∃ x114:Int,(∀ w',S101 w'→w'.cell? ⟨g3,18,N⟩=some (I D x114))∧
(∃ x115:Int,(∀ w',S101 w'→w'.cell? ⟨g3,19,N⟩=some (I D x115))∧
(∃ x116 x117 x118 x119 x120:Int,(5=5∧(∀ w',S101 w'→At w' ⟨g3,13,N⟩ [I D x116,I D x117,I B x118,I H x119,I H x120]))∧
((Calls Tryz.prog 28 #[G #[I B x103,I H x104,T b105,T b106,I L x107,I B x108,I B x109,I D x110,I D x111,S A112 n112_ c112_,S A113 n113_ c113_]] w102 (fun (e122:Ending) (w121:W)=>
 ∃ x123 x124:Int,∃ b125 b126:Bool,∃ x127 x128 x129 x130 x131:Int,∃ (A132:Option Addr) (n132_ c132_:Nat),∃ (A133:Option Addr) (n133_ c133_:Nat),e122=.returned (G #[I B x123,I H x124,T b125,T b126,I L x127,I B x128,I B x129,I D x130,I D x131,S A132 n132_ c132_,S A133 n133_ c133_])∧
(S101 w121∧
((Calls Tryz.prog 30 #[G #[I B x123,I H x124,T b125,T b126,I L x127,I B x128,I B x129,I D x130,I D x131,S A132 n132_ c132_,S A133 n133_ c133_],I D x114,I D x115,G #[I D x116,I D x117,I B x118,I H x119,I H x120]] w121 (fun (e135:Ending) (w134:W)=>
 ∃ x136 x137:Int,∃ b138 b139:Bool,∃ x140 x141 x142 x143 x144:Int,∃ (A145:Option Addr) (n145_ c145_:Nat),∃ (A146:Option Addr) (n146_ c146_:Nat),∃ x147:Int,e135=.returned (.tuple #[G #[I B x136,I H x137,T b138,T b139,I L x140,I B x141,I B x142,I D x143,I D x144,S A145 n145_ c145_,S A146 n146_ c146_],I L x147])∧
(S101 w134∧
(Let (w134.heap.size) fun g148:Nat=>
 Let (w134.alloc (.cells #[I B 0,I H 0,T false,T false,I L 0,I B 0,I B 0,I D 0,I D 0,S N 0 0,S N 0 0] 37)) fun w149:W=>
 S101 w149∧
(May w149 ⟨g148,0,N⟩ 11∧
(Let (putCells w149 ⟨g148,0,N⟩ [I B x136,I H x137,T b138,T b139,I L x140,I B x141,I B x142,I D x143,I D x144,S A145 n145_ c145_,S A146 n146_ c146_] 0) fun w150:W=>
 S101 w150∧
(Leaf (qq2.j2 g3 g148 x147 (G #[P i0_0,P i0_1]) (G #[I L i1_0,T i1_1,I B i1_2,I H i1_3,T i1_4,T i1_5,I L i1_6,I B i1_7,I B i1_8,I D i1_9,I D i1_10,S I1_11 in1_11 ic1_11,S I1_12 in1_12 ic1_12,I D i1_13,I D i1_14,I B i1_15,I H i1_16,I H i1_17,I D i1_18,I D i1_19,S I1_20 in1_20 ic1_20,I B i1_21,I H i1_22]) (P (some ⟨g1,0,N⟩)) (T false) U U U U U U U U U U (P (some ⟨g3,0,N⟩)) (I L x5) (T (x5 == 1)) (T (x5 == 1)) U U U U U U U U U U U U U U U U U U U U U U U U U U (T (x5 == 2)) (T (x5 == 2)) (.tuple #[G #[I B x136,I H x137,T b138,T b139,I L x140,I B x141,I B x142,I D x143,I D x144,S A145 n145_ c145_,S A146 n146_ c146_],I L x147]) (P (some ⟨g3,2,N⟩)) (G #[I B x103,I H x104,T b105,T b106,I L x107,I B x108,I B x109,I D x110,I D x111,S A112 n112_ c112_,S A113 n113_ c113_]) (G #[I B x123,I H x124,T b125,T b126,I L x127,I B x128,I B x129,I D x130,I D x131,S A132 n132_ c132_,S A133 n133_ c133_]) (P (some ⟨g3,18,N⟩)) (I D x114) (P (some ⟨g3,19,N⟩)) (I D x115) (P (some ⟨g3,13,N⟩)) (G #[I D x116,I D x117,I B x118,I H x119,I H x120]) (.tuple #[G #[I B x136,I H x137,T b138,T b139,I L x140,I B x141,I B x142,I D x143,I D x144,S A145 n145_ c145_,S A146 n146_ c146_],I L x147]) (G #[I B x136,I H x137,T b138,T b139,I L x140,I B x141,I B x142,I D x143,I D x144,S A145 n145_ c145_,S A146 n146_ c146_]) (I L x147) U U U U U U U U U U U U U U U U U U U U U U U U U U U U U U U U U U U U U U U U U U U U U U U U U U U U w150 R))))))))∧
(Let (w121.heap.size) fun g151:Nat=>
 Let (w121.alloc (.cells #[I B 0,I H 0,T false,T false,I L 0,I B 0,I B 0,I D 0,I D 0,S N 0 0,S N 0 0] 37)) fun w152:W=>
 S101 w152∧
(Calls Tryz.prog 30 #[G #[I B x123,I H x124,T b125,T b126,I L x127,I B x128,I B x129,I D x130,I D x131,S A132 n132_ c132_,S A133 n133_ c133_],I D x114,I D x115,G #[I D x116,I D x117,I B x118,I H x119,I H x120]] w152 (fun (e154:Ending) (w153:W)=>
 ∃ x155 x156:Int,∃ b157 b158:Bool,∃ x159 x160 x161 x162 x163:Int,∃ (A164:Option Addr) (n164_ c164_:Nat),∃ (A165:Option Addr) (n165_ c165_:Nat),∃ x166:Int,e154=.returned (.tuple #[G #[I B x155,I H x156,T b157,T b158,I L x159,I B x160,I B x161,I D x162,I D x163,S A164 n164_ c164_,S A165 n165_ c165_],I L x166])∧
(S101 w153∧
(May w153 ⟨g151,0,N⟩ 11∧
(Let (putCells w153 ⟨g151,0,N⟩ [I B x155,I H x156,T b157,T b158,I L x159,I B x160,I B x161,I D x162,I D x163,S A164 n164_ c164_,S A165 n165_ c165_] 0) fun w167:W=>
 S101 w167∧
(Leaf (qq2.j2 g3 g151 x166 (G #[P i0_0,P i0_1]) (G #[I L i1_0,T i1_1,I B i1_2,I H i1_3,T i1_4,T i1_5,I L i1_6,I B i1_7,I B i1_8,I D i1_9,I D i1_10,S I1_11 in1_11 ic1_11,S I1_12 in1_12 ic1_12,I D i1_13,I D i1_14,I B i1_15,I H i1_16,I H i1_17,I D i1_18,I D i1_19,S I1_20 in1_20 ic1_20,I B i1_21,I H i1_22]) (P (some ⟨g1,0,N⟩)) (T false) U U U U U U U U U U (P (some ⟨g3,0,N⟩)) (I L x5) (T (x5 == 1)) (T (x5 == 1)) U U U U U U U U U U U U U U U U U U U U U U U U U U (T (x5 == 2)) (T (x5 == 2)) (.tuple #[G #[I B x155,I H x156,T b157,T b158,I L x159,I B x160,I B x161,I D x162,I D x163,S A164 n164_ c164_,S A165 n165_ c165_],I L x166]) (P (some ⟨g3,2,N⟩)) (G #[I B x103,I H x104,T b105,T b106,I L x107,I B x108,I B x109,I D x110,I D x111,S A112 n112_ c112_,S A113 n113_ c113_]) (G #[I B x123,I H x124,T b125,T b126,I L x127,I B x128,I B x129,I D x130,I D x131,S A132 n132_ c132_,S A133 n133_ c133_]) (P (some ⟨g3,18,N⟩)) (I D x114) (P (some ⟨g3,19,N⟩)) (I D x115) (P (some ⟨g3,13,N⟩)) (G #[I D x116,I D x117,I B x118,I H x119,I H x120]) (.tuple #[G #[I B x155,I H x156,T b157,T b158,I L x159,I B x160,I B x161,I D x162,I D x163,S A164 n164_ c164_,S A165 n165_ c165_],I L x166]) (G #[I B x155,I H x156,T b157,T b158,I L x159,I B x160,I B x161,I D x162,I D x163,S A164 n164_ c164_,S A165 n165_ c165_]) (I L x166) U U U U U U U U U U U U U U U U U U U U U U U U U U U U U U U U U U U U U U U U U U U U U U U U U U U U w167 R))))))))))))∧
(Let (w102.heap.size) fun g168:Nat=>
 Let (w102.alloc (.cells #[I B 0,I H 0,T false,T false,I L 0,I B 0,I B 0,I D 0,I D 0,S N 0 0,S N 0 0] 37)) fun w169:W=>
 S101 w169∧
(Calls Tryz.prog 28 #[G #[I B x103,I H x104,T b105,T b106,I L x107,I B x108,I B x109,I D x110,I D x111,S A112 n112_ c112_,S A113 n113_ c113_]] w169 (fun (e171:Ending) (w170:W)=>
 ∃ x172 x173:Int,∃ b174 b175:Bool,∃ x176 x177 x178 x179 x180:Int,∃ (A181:Option Addr) (n181_ c181_:Nat),∃ (A182:Option Addr) (n182_ c182_:Nat),e171=.returned (G #[I B x172,I H x173,T b174,T b175,I L x176,I B x177,I B x178,I D x179,I D x180,S A181 n181_ c181_,S A182 n182_ c182_])∧
(S101 w170∧
(Calls Tryz.prog 30 #[G #[I B x172,I H x173,T b174,T b175,I L x176,I B x177,I B x178,I D x179,I D x180,S A181 n181_ c181_,S A182 n182_ c182_],I D x114,I D x115,G #[I D x116,I D x117,I B x118,I H x119,I H x120]] w170 (fun (e184:Ending) (w183:W)=>
 ∃ x185 x186:Int,∃ b187 b188:Bool,∃ x189 x190 x191 x192 x193:Int,∃ (A194:Option Addr) (n194_ c194_:Nat),∃ (A195:Option Addr) (n195_ c195_:Nat),∃ x196:Int,e184=.returned (.tuple #[G #[I B x185,I H x186,T b187,T b188,I L x189,I B x190,I B x191,I D x192,I D x193,S A194 n194_ c194_,S A195 n195_ c195_],I L x196])∧
(S101 w183∧
(May w183 ⟨g168,0,N⟩ 11∧
(Let (putCells w183 ⟨g168,0,N⟩ [I B x185,I H x186,T b187,T b188,I L x189,I B x190,I B x191,I D x192,I D x193,S A194 n194_ c194_,S A195 n195_ c195_] 0) fun w197:W=>
 S101 w197∧
(Leaf (qq2.j2 g3 g168 x196 (G #[P i0_0,P i0_1]) (G #[I L i1_0,T i1_1,I B i1_2,I H i1_3,T i1_4,T i1_5,I L i1_6,I B i1_7,I B i1_8,I D i1_9,I D i1_10,S I1_11 in1_11 ic1_11,S I1_12 in1_12 ic1_12,I D i1_13,I D i1_14,I B i1_15,I H i1_16,I H i1_17,I D i1_18,I D i1_19,S I1_20 in1_20 ic1_20,I B i1_21,I H i1_22]) (P (some ⟨g1,0,N⟩)) (T false) U U U U U U U U U U (P (some ⟨g3,0,N⟩)) (I L x5) (T (x5 == 1)) (T (x5 == 1)) U U U U U U U U U U U U U U U U U U U U U U U U U U (T (x5 == 2)) (T (x5 == 2)) (.tuple #[G #[I B x185,I H x186,T b187,T b188,I L x189,I B x190,I B x191,I D x192,I D x193,S A194 n194_ c194_,S A195 n195_ c195_],I L x196]) (P (some ⟨g3,2,N⟩)) (G #[I B x103,I H x104,T b105,T b106,I L x107,I B x108,I B x109,I D x110,I D x111,S A112 n112_ c112_,S A113 n113_ c113_]) (G #[I B x172,I H x173,T b174,T b175,I L x176,I B x177,I B x178,I D x179,I D x180,S A181 n181_ c181_,S A182 n182_ c182_]) (P (some ⟨g3,18,N⟩)) (I D x114) (P (some ⟨g3,19,N⟩)) (I D x115) (P (some ⟨g3,13,N⟩)) (G #[I D x116,I D x117,I B x118,I H x119,I H x120]) (.tuple #[G #[I B x185,I H x186,T b187,T b188,I L x189,I B x190,I B x191,I D x192,I D x193,S A194 n194_ c194_,S A195 n195_ c195_],I L x196]) (G #[I B x185,I H x186,T b187,T b188,I L x189,I B x190,I B x191,I D x192,I D x193,S A194 n194_ c194_,S A195 n195_ c195_]) (I L x196) U U U U U U U U U U U U U U U U U U U U U U U U U U U U U U U U U U U U U U U U U U U U U U U U U U U U w197 R)))))))))))))))))
else
((if (x5 == 3)=true then
(∃ S198:W→Prop,S198 w4.drew∧
(Let (w4.drew) fun w199:W=>
 ∃ x200 x201 x202 x203 x204:Int,(5=5∧(∀ w',S198 w'→At w' ⟨g3,13,N⟩ [I D x200,I D x201,I B x202,I H x203,I H x204]))∧
(∃ (A205:Option Addr) (n205_ c205_:Nat),(∀ w',S198 w'→w'.cell? ⟨g3,20,N⟩=some (S A205 n205_ c205_))∧
(Calls Tryz.prog 33 #[S A205 n205_ c205_] w199 (fun (e207:Ending) (w206:W)=>
 ∃ (A208:Option Addr) (n208_ c208_:Nat),e207=.returned (S A208 n208_ c208_)∧
(S198 w206∧
(Calls Tryz.prog 32 #[G #[I D x200,I D x201,I B x202,I H x203,I H x204],S A208 n208_ c208_] w206 (fun (e210:Ending) (w209:W)=>
 ∃ x211 x212:Int,e210=.returned (.tuple #[I L x211,I L x212])∧
(S198 w209∧
(∃ S213:W→Prop,S213 w209.drew∧
(Let (w209.drew) fun w214:W=>
 ∃ x215 x216 x217 x218 x219:Int,(5=5∧(∀ w',S213 w'→At w' ⟨g3,13,N⟩ [I D x215,I D x216,I B x217,I H x218,I H x219]))∧
(∃ (A220:Option Addr) (n220_ c220_:Nat),(∀ w',S213 w'→w'.cell? ⟨g3,20,N⟩=some (S A220 n220_ c220_))∧
(Calls Tryz.prog 33 #[S A220 n220_ c220_] w214 (fun (e222:Ending) (w221:W)=>
 ∃ (A223:Option Addr) (n223_ c223_:Nat),e222=.returned (S A223 n223_ c223_)∧
(S213 w221∧
(Calls Tryz.prog 20 #[G #[I D x215,I D x216,I B x217,I H x218,I H x219],S A223 n223_ c223_] w221 (fun (e225:Ending) (w224:W)=>
 ∃ x226 x227:Int,e225=.returned (.tuple #[I L x226,I L x227])∧
(S213 w224∧
((if (x227 == x212)=true then
(R (.returned (T (x226 == x211))) w224)
else
(R (.returned (T false)) w224)))))))))))))))))))))
else
(∃ p228:Option Addr,∃ p229:Option Addr,(2=2∧At w4 ⟨g1,0,N⟩ [P p228,P p229])∧
(∃ x230:Int,∃ b231:Bool,∃ x232 x233:Int,∃ b234 b235:Bool,∃ x236 x237 x238 x239 x240:Int,∃ (A241:Option Addr) (n241_ c241_:Nat),∃ (A242:Option Addr) (n242_ c242_:Nat),∃ x243 x244 x245 x246 x247 x248 x249:Int,∃ (A250:Option Addr) (n250_ c250_:Nat),∃ x251 x252:Int,(23=23∧At w4 ⟨g3,0,N⟩ [I L x230,T b231,I B x232,I H x233,T b234,T b235,I L x236,I B x237,I B x238,I D x239,I D x240,S A241 n241_ c241_,S A242 n242_ c242_,I D x243,I D x244,I B x245,I H x246,I H x247,I D x248,I D x249,S A250 n250_ c250_,I B x251,I H x252])∧
(Calls Tryz.prog 7 #[G #[P p228,P p229],G #[I L x230,T b231,I B x232,I H x233,T b234,T b235,I L x236,I B x237,I B x238,I D x239,I D x240,S A241 n241_ c241_,S A242 n242_ c242_,I D x243,I D x244,I B x245,I H x246,I H x247,I D x248,I D x249,S A250 n250_ c250_,I B x251,I H x252]] w4 (fun (e254:Ending) (w253:W)=>
 ∃ b255:Bool,e254=.returned (T b255)∧
(R (.returned (T b255)) w253))))))))))))
theorem qq2.run (h:qq2.s i0_0 i0_1 i1_0 i1_1 i1_2 i1_3 i1_4 i1_5 i1_6 i1_7 i1_8 i1_9 i1_10 I1_11 in1_11 ic1_11 I1_12 in1_12 ic1_12 i1_13 i1_14 i1_15 i1_16 i1_17 i1_18 i1_19 I1_20 in1_20 ic1_20 i1_21 i1_22 w R):Calls Tryz.prog 8 #[G #[P i0_0,P i0_1],G #[I L i1_0,T i1_1,I B i1_2,I H i1_3,T i1_4,T i1_5,I L i1_6,I B i1_7,I B i1_8,I D i1_9,I D i1_10,S I1_11 in1_11 ic1_11,S I1_12 in1_12 ic1_12,I D i1_13,I D i1_14,I B i1_15,I H i1_16,I H i1_17,I D i1_18,I D i1_19,S I1_20 in1_20 ic1_20,I B i1_21,I H i1_22]] w R:=
 calls_segk (ords:=qq2.ords) (J:=qq2.joins) ents mixed Tryz.func8 rfl h (by kernel_rfl)
end Go.Proofs.YtphbdmafchjjeaaGreatDoorS
