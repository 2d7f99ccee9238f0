import Derived.Test.YtphbdmafchjjeaaGreatDoorTQBSPureM
import Derived.Test.YtphbdmafchjjeaaGreatDoorTQBSDocC
import Derived.Test.YtphbdmafchjjeaaGreatDoorTQBSDocDM
import Derived.Test.YtphbdmafchjjeaaGreatDoorTQBSFN3M
namespace Go.Proofs.YtphbdmafchjjeaaGreatDoorS
open Go Go.Proofs
open Go renaming undef → U, World → W, Value → V
open Go.Value renaming int → I, slice → S, bool → T, pointer → P, agg → G
open Go.IntKind renaming u8 → B, u16 → H, u32 → D, u64 → Q, i64 → L
open Option renaming none → N
set_option autoImplicit true
set_option relaxedAutoImplicit true
set_option maxRecDepth 100000
set_option linter.unusedVariables false
def qq27.ords:Nat→Od
 | _=>.nil
def qq27.joins (p:List Nat):Bool:=false
def qq27.l1 (n:Nat) (Y0:Option Addr) (yn0 yc0:Nat) (Y3:Option Addr) (yn3 yc3:Nat) (y4:Int) (d1 d2 d5 d6 d7 d8 d9 dA dB dC dD dE dF dG dH dI:V) (w:W) (R:E):Prop:=
 lseg Tryz.prog entE qq27.ords qq27.joins Tryz.f47 [1,1,0,1,0] [0,1,0,1,1] [] n [S Y0 yn0 yc0,d1,d2,S Y3 yn3 yc3,I L y4,d5,d6,d7,d8,d9,dA,dB,dC,dD,dE,dF,dG,dH,dI] w R
abbrev qq27.L1 (n:Nat) (Y0:Option Addr) (yn0 yc0:Nat) (Y3:Option Addr) (yn3 yc3:Nat) (y4:Int) (w:W) (R:E):Prop:=∀ d1 d2 d5 d6 d7 d8 d9 dA dB dC dD dE dF dG dH dI,qq27.l1 n Y0 yn0 yc0 Y3 yn3 yc3 y4 d1 d2 d5 d6 d7 d8 d9 dA dB dC dD dE dF dG dH dI w R
theorem qq27.l1_eq {n:Nat}:qq27.l1 (n+1) Y0 yn0 yc0 Y3 yn3 yc3 y4 d1 d2 d5 d6 d7 d8 d9 dA dB dC dD dE dF dG dH dI w R =
((if decide (y4 < (yn0:Int))=true then
(∃ a1:Addr,Y0=some a1∧(0≤y4∧y4 < (yn0:Int))∧
(∃ x2:Int,w.cell? (a1.add y4.toNat)=some (I B x2)∧
(Let (w.heap.size) fun g3:Nat=>
 Let (w.alloc (.cells #[I B x2] 5)) fun w4:W=>
 AppE w4 1 1 5 [I B 0] Y3 yn3 yc3 (some ⟨g3,0,N⟩) 1 (fun (A5:Option Addr) (c6:Nat) (w7:W)=>
 Let (L.wrap (y4+1)) fun x8:Int=>
 qq27.l1 n Y0 yn0 yc0 A5 (yn3+1) c6 x8 d1 d2 (I L y4) (S Y0 yn0 yc0) (I L (yn0:Int)) (T (decide (y4 < (yn0:Int)))) (I L y4) (I L x8) (S Y3 yn3 yc3) (S Y0 yn0 yc0) (I L y4) (P (some (a1.add y4.toNat))) (I B x2) (S (some ⟨g3,0,N⟩) 1 1) (S A5 (yn3+1) c6) dI w7 R))))
else
(R (.returned (S Y3 yn3 yc3)) w))):=by kernel_rfl
def qq27.s (I0:Option Addr) (in0 ic0:Nat) (w:W) (R:E):Prop:=
(∃ n1:Nat,qq27.l1 n1 I0 in0 ic0 N 0 0 0 U (S N 0 0) U U U U U U U U U U U U U U w R)
theorem qq27.run (h:qq27.s I0 in0 ic0 w R):Calls Tryz.prog 47 #[S I0 in0 ic0] w R:=
 calls_segk (ords:=qq27.ords) (J:=qq27.joins) ents mixed Tryz.func47 rfl h (by kernel_rfl)
def qq55.ords:Nat→Od
 | _=>.nil
def qq55.joins (p:List Nat):Bool:=false
def qq55.s (i0_0 i0_1:Int) (i0_2 i0_3:Bool) (i0_4 i0_5 i0_6 i0_7 i0_8:Int) (I0_9:Option Addr) (in0_9 ic0_9:Nat) (I0_10:Option Addr) (in0_10 ic0_10:Nat) (w:W) (R:E):Prop:=
(Let (w.heap.size) fun g1:Nat=>
 Let (w.alloc (.cells #[I B i0_0,I H i0_1,T i0_2,T i0_3,I L i0_4,I B i0_5,I B i0_6,I D i0_7,I D i0_8,S I0_9 in0_9 ic0_9,S I0_10 in0_10 ic0_10] 37)) fun w2:W=>
 Let (w2.heap.size) fun g3:Nat=>
 Let (w2.alloc (.cells #[I B 0,I H 0,T false,T false,I L 0,I B 0,I B 0,I D 0,I D 0,S N 0 0,S N 0 0] 37)) fun w4:W=>
 ∃ (A5:Option Addr) (n5_ c5_:Nat),w4.cell? ⟨g1,9,N⟩=some (S A5 n5_ c5_)∧
(Calls Tryz.prog 47 #[S A5 n5_ c5_] w4 (fun (e7:Ending) (w6:W)=>
 ∃ (A8:Option Addr) (n8_ c8_:Nat),e7=.returned (S A8 n8_ c8_)∧
(MayC w6 ⟨g1,9,N⟩∧
(Let (w6.setCell ⟨g1,9,N⟩ (S A8 n8_ c8_)) fun w9:W=>
 ∃ (A10:Option Addr) (n10_ c10_:Nat),w9.cell? ⟨g1,10,N⟩=some (S A10 n10_ c10_)∧
(Calls Tryz.prog 47 #[S A10 n10_ c10_] w9 (fun (e12:Ending) (w11:W)=>
 ∃ (A13:Option Addr) (n13_ c13_:Nat),e12=.returned (S A13 n13_ c13_)∧
(MayC w11 ⟨g1,10,N⟩∧
(Let (w11.setCell ⟨g1,10,N⟩ (S A13 n13_ c13_)) fun w14:W=>
 ∃ x15 x16:Int,∃ b17 b18:Bool,∃ x19 x20 x21 x22 x23:Int,∃ (A24:Option Addr) (n24_ c24_:Nat),∃ (A25:Option Addr) (n25_ c25_:Nat),(11=11∧At w14 ⟨g1,0,N⟩ [I B x15,I H x16,T b17,T b18,I L x19,I B x20,I B x21,I D x22,I D x23,S A24 n24_ c24_,S A25 n25_ c25_])∧
(May w14 ⟨g3,0,N⟩ 11∧
(Let (putCells w14 ⟨g3,0,N⟩ [I B x15,I H x16,T b17,T b18,I L x19,I B x20,I B x21,I D x22,I D x23,S A24 n24_ c24_,S A25 n25_ c25_] 0) fun w26:W=>
 ∃ x27 x28:Int,∃ b29 b30:Bool,∃ x31 x32 x33 x34 x35:Int,∃ (A36:Option Addr) (n36_ c36_:Nat),∃ (A37:Option Addr) (n37_ c37_:Nat),(11=11∧At w26 ⟨g3,0,N⟩ [I B x27,I H x28,T b29,T b30,I L x31,I B x32,I B x33,I D x34,I D x35,S A36 n36_ c36_,S A37 n37_ c37_])∧
(R (.returned (G #[I B x27,I H x28,T b29,T b30,I L x31,I B x32,I B x33,I D x34,I D x35,S A36 n36_ c36_,S A37 n37_ c37_])) w26))))))))))))
theorem qq55.run (h:qq55.s i0_0 i0_1 i0_2 i0_3 i0_4 i0_5 i0_6 i0_7 i0_8 I0_9 in0_9 ic0_9 I0_10 in0_10 ic0_10 w R):Calls Tryz.prog 28 #[G #[I B i0_0,I H i0_1,T i0_2,T i0_3,I L i0_4,I B i0_5,I B i0_6,I D i0_7,I D i0_8,S I0_9 in0_9 ic0_9,S I0_10 in0_10 ic0_10]] w R:=
 calls_segk (ords:=qq55.ords) (J:=qq55.joins) ents mixed Tryz.func28 rfl h (by kernel_rfl)
def qq54.ords:Nat→Od
 | _=>.nil
def qq54.joins (p:List Nat):Bool:=false
def qq54.s (i0 i1:Int) (w:W) (R:E):Prop:=
(Let (w.heap.size) fun g1:Nat=>
 Let (w.alloc (.cells #[P N,P N] 27)) fun w2:W=>
 Calls Tryz.prog 14 #[I H i0,I H i1] w2 (fun (e4:Ending) (w3:W)=>
 ∃ p5:Option Addr,∃ x6:Int,e4=.returned (.tuple #[P p5,I L x6])∧
(Calls Tryz.prog 15 #[I H i0,I H i1] w3 (fun (e8:Ending) (w7:W)=>
 ∃ p9:Option Addr,∃ x10:Int,e8=.returned (.tuple #[P p9,I L x10])∧
((if (x6 == x10)=true then
(May w7 ⟨g1,0,N⟩ 2∧
(Let (putCells w7 ⟨g1,0,N⟩ [P p5,P p9] 0) fun w11:W=>
 ∃ p12:Option Addr,∃ p13:Option Addr,(2=2∧At w11 ⟨g1,0,N⟩ [P p12,P p13])∧
(R (.returned (.tuple #[G #[P p12,P p13],T (p5.isNone == p9.isNone)])) w11)))
else
(May w7 ⟨g1,0,N⟩ 2∧
(Let (putCells w7 ⟨g1,0,N⟩ [P p5,P p9] 0) fun w14:W=>
 ∃ p15:Option Addr,∃ p16:Option Addr,(2=2∧At w14 ⟨g1,0,N⟩ [P p15,P p16])∧
(R (.returned (.tuple #[G #[P p15,P p16],T false])) w14)))))))))
theorem qq54.run (h:qq54.s i0 i1 w R):Calls Tryz.prog 5 #[I H i0,I H i1] w R:=
 calls_segk (ords:=qq54.ords) (J:=qq54.joins) ents mixed Tryz.func5 rfl h (by kernel_rfl)
def qq0.ords:Nat→Od
 | 13=>(.tk 0 (.tk 1 (.tk 2 (.tk 3 (.tk 5 (.tk 6 (.tk 7 (.tk 8 (.on 4 (.on 9 (.tk 10 (.tk 11 .nil))))))))))))
 | _=>.nil
def qq0.joins (p:List Nat):Bool:=p == [1,1]
def qq0.j1 (yg2 yg3:Nat) (d0 d1 d4 d5 d6 d7 d8 d9 dA dB dC dD dE dF dG dH dI dJ dK dL dM dN dO dP dQ dR dS dT dU dV dW dX dY dZ k0 k1 k2 k3 k4 k5 k6 k7 k8 k9 kA kB kC kD kE kF kG kH kI kJ kK kL kM kN kO kP kQ kR kS kT kU kV kW kX kY kZ v0 v1 v2 v3 v4 v5 v6 v7 v8 v9 vA:V) (w:W) (R:E):Prop:=
 seg Tryz.prog entE qq0.ords qq0.joins Tryz.f7 [1,1] [1,1] [] [d0,d1,P (some ⟨yg2,0,N⟩),P (some ⟨yg3,0,N⟩),d4,d5,d6,d7,d8,d9,dA,dB,dC,dD,dE,dF,dG,dH,dI,dJ,dK,dL,dM,dN,dO,dP,dQ,dR,dS,dT,dU,dV,dW,dX,dY,dZ,k0,k1,k2,k3,k4,k5,k6,k7,k8,k9,kA,kB,kC,kD,kE,kF,kG,kH,kI,kJ,kK,kL,kM,kN,kO,kP,kQ,kR,kS,kT,kU,kV,kW,kX,kY,kZ,v0,v1,v2,v3,v4,v5,v6,v7,v8,v9,vA] w R
abbrev qq0.J1 (yg2 yg3:Nat) (w:W) (R:E):Prop:=∀ d0 d1 d4 d5 d6 d7 d8 d9 dA dB dC dD dE dF dG dH dI dJ dK dL dM dN dO dP dQ dR dS dT dU dV dW dX dY dZ k0 k1 k2 k3 k4 k5 k6 k7 k8 k9 kA kB kC kD kE kF kG kH kI kJ kK kL kM kN kO kP kQ kR kS kT kU kV kW kX kY kZ v0 v1 v2 v3 v4 v5 v6 v7 v8 v9 vA,qq0.j1 yg2 yg3 d0 d1 d4 d5 d6 d7 d8 d9 dA dB dC dD dE dF dG dH dI dJ dK dL dM dN dO dP dQ dR dS dT dU dV dW dX dY dZ k0 k1 k2 k3 k4 k5 k6 k7 k8 k9 kA kB kC kD kE kF kG kH kI kJ kK kL kM kN kO kP kQ kR kS kT kU kV kW kX kY kZ v0 v1 v2 v3 v4 v5 v6 v7 v8 v9 vA w R
theorem qq0.j1_eq:qq0.j1 yg2 yg3 d0 d1 d4 d5 d6 d7 d8 d9 dA dB dC dD dE dF dG dH dI dJ dK dL dM dN dO dP dQ dR dS dT dU dV dW dX dY dZ k0 k1 k2 k3 k4 k5 k6 k7 k8 k9 kA kB kC kD kE kF kG kH kI kJ kK kL kM kN kO kP kQ kR kS kT kU kV kW kX kY kZ v0 v1 v2 v3 v4 v5 v6 v7 v8 v9 vA w R =
(∃ x1:Int,w.cell? ⟨yg3,0,N⟩=some (I L x1)∧
((if (x1 == 4)=true then
(∃ p2:Option Addr,w.cell? ⟨yg2,0,N⟩=some (P p2)∧
(∃ x3:Int,w.cell? ⟨yg3,21,N⟩=some (I B x3)∧
(∃ x4:Int,w.cell? ⟨yg3,22,N⟩=some (I H x4)∧
(Calls Tryz.prog 21 #[P p2,I B x3,I H x4] w (fun (e6:Ending) (w5:W)=>
 ∃ x7 x8:Int,e6=.returned (.tuple #[I H x7,I L x8])∧
(∃ p9:Option Addr,w5.cell? ⟨yg2,1,N⟩=some (P p9)∧
(∃ x10:Int,w5.cell? ⟨yg3,21,N⟩=some (I B x10)∧
(∃ x11:Int,w5.cell? ⟨yg3,22,N⟩=some (I H x11)∧
(Calls Tryz.prog 23 #[P p9,I B x10,I H x11] w5 (fun (e13:Ending) (w12:W)=>
 ∃ x14 x15:Int,e13=.returned (.tuple #[I H x14,I L x15])∧
((if (x7 == x14)=true then
(R (.returned (T (x8 == x15))) w12)
else
(R (.returned (T false)) w12)))))))))))))
else
((if (x1 == 5)=true then
(∃ p16:Option Addr,w.cell? ⟨yg2,0,N⟩=some (P p16)∧
(∃ x17:Int,w.cell? ⟨yg3,21,N⟩=some (I B x17)∧
(∃ x18:Int,w.cell? ⟨yg3,22,N⟩=some (I H x18)∧
(Calls Tryz.prog 24 #[P p16,I B x17,I H x18] w (fun (e20:Ending) (w19:W)=>
 ∃ x21:Int,e20=.returned (I L x21)∧
(∃ p22:Option Addr,w19.cell? ⟨yg2,1,N⟩=some (P p22)∧
(∃ x23:Int,w19.cell? ⟨yg3,21,N⟩=some (I B x23)∧
(∃ x24:Int,w19.cell? ⟨yg3,22,N⟩=some (I H x24)∧
(Calls Tryz.prog 25 #[P p22,I B x23,I H x24] w19 (fun (e26:Ending) (w25:W)=>
 ∃ x27:Int,e26=.returned (I L x27)∧
(R (.returned (T (x21 == x27))) w25)))))))))))
else
((if (x1 == 6)=true then
(∃ S28:W→Prop,S28 w.drew∧
(Let (w.drew) fun w29:W=>
 ∃ p30:Option Addr,(∀ w',S28 w'→w'.cell? ⟨yg2,0,N⟩=some (P p30))∧
(∃ x31:Int,(∀ w',S28 w'→w'.cell? ⟨yg3,21,N⟩=some (I B x31))∧
(∃ p32:Option Addr,(∀ w',S28 w'→w'.cell? ⟨yg2,1,N⟩=some (P p32))∧
(∃ x33:Int,(∀ w',S28 w'→w'.cell? ⟨yg3,21,N⟩=some (I B x33))∧
(Calls Tryz.prog 22 #[P p30,I B x31] w29 (fun (e35:Ending) (w34:W)=>
 ∃ x36:Int,e35=.returned (I L x36)∧
(S28 w34∧
(Calls Tryz.prog 26 #[P p32,I B x33] w34 (fun (e38:Ending) (w37:W)=>
 ∃ x39:Int,e38=.returned (I L x39)∧
(S28 w37∧
(R (.returned (T (x36 == x39))) w37))))))))))))
else
(R (.returned (T true)) w)))))))):=by kernel_rfl
def qq0.s (i0_0 i0_1:Option Addr) (i1_0:Int) (i1_1:Bool) (i1_2 i1_3:Int) (i1_4 i1_5:Bool) (i1_6 i1_7 i1_8 i1_9 i1_10:Int) (I1_11:Option Addr) (in1_11 ic1_11:Nat) (I1_12:Option Addr) (in1_12 ic1_12:Nat) (i1_13 i1_14 i1_15 i1_16 i1_17 i1_18 i1_19:Int) (I1_20:Option Addr) (in1_20 ic1_20:Nat) (i1_21 i1_22:Int) (w:W) (R:E):Prop:=
(Let (w.heap.size) fun g1:Nat=>
 Let (w.alloc (.cells #[P i0_0,P i0_1] 27)) fun w2:W=>
 Let (w2.heap.size) fun g3:Nat=>
 Let (w2.alloc (.cells #[I L i1_0,T i1_1,I B i1_2,I H i1_3,T i1_4,T i1_5,I L i1_6,I B i1_7,I B i1_8,I D i1_9,I D i1_10,S I1_11 in1_11 ic1_11,S I1_12 in1_12 ic1_12,I D i1_13,I D i1_14,I B i1_15,I H i1_16,I H i1_17,I D i1_18,I D i1_19,S I1_20 in1_20 ic1_20,I B i1_21,I H i1_22] 42)) fun w4:W=>
 ∃ p5:Option Addr,w4.cell? ⟨g1,0,N⟩=some (P p5)∧
((if p5.isNone=true then
(R (.returned (T true)) w4)
else
(∃ p6:Option Addr,w4.cell? ⟨g1,1,N⟩=some (P p6)∧
((if p6.isNone=true then
(R (.returned (T true)) w4)
else
(Leaf (qq0.j1 g1 g3 (G #[P i0_0,P i0_1]) (G #[I L i1_0,T i1_1,I B i1_2,I H i1_3,T i1_4,T i1_5,I L i1_6,I B i1_7,I B i1_8,I D i1_9,I D i1_10,S I1_11 in1_11 ic1_11,S I1_12 in1_12 ic1_12,I D i1_13,I D i1_14,I B i1_15,I H i1_16,I H i1_17,I D i1_18,I D i1_19,S I1_20 in1_20 ic1_20,I B i1_21,I H i1_22]) (T false) U U U U U U (P (some ⟨g1,0,N⟩)) (P p5) (T p5.isNone) (T false) (P (some ⟨g1,1,N⟩)) (P p6) (T p6.isNone) (T p6.isNone) U U U U U U U U U U U U U U U U U U U U U U U U U U U U U U U U U U U U U U U U U U U U U U U U U U U U U U U U U U U U U U U U w4 R))))))))
theorem qq0.run (h:qq0.s i0_0 i0_1 i1_0 i1_1 i1_2 i1_3 i1_4 i1_5 i1_6 i1_7 i1_8 i1_9 i1_10 I1_11 in1_11 ic1_11 I1_12 in1_12 ic1_12 i1_13 i1_14 i1_15 i1_16 i1_17 i1_18 i1_19 I1_20 in1_20 ic1_20 i1_21 i1_22 w R):Calls Tryz.prog 7 #[G #[P i0_0,P i0_1],G #[I L i1_0,T i1_1,I B i1_2,I H i1_3,T i1_4,T i1_5,I L i1_6,I B i1_7,I B i1_8,I D i1_9,I D i1_10,S I1_11 in1_11 ic1_11,S I1_12 in1_12 ic1_12,I D i1_13,I D i1_14,I B i1_15,I H i1_16,I H i1_17,I D i1_18,I D i1_19,S I1_20 in1_20 ic1_20,I B i1_21,I H i1_22]] w R:=
 calls_segk (ords:=qq0.ords) (J:=qq0.joins) ents mixed Tryz.func7 rfl h (by kernel_rfl)
end Go.Proofs.YtphbdmafchjjeaaGreatDoorS
namespace Go.Proofs.YtphbdmafchjjeaaGreatDoorS
open Go Go.RowKit Go.Proofs Go.Proofs.YtphbdmafchjjeaaGreatDoorX
set_option maxRecDepth 100000
set_option linter.unusedVariables false
set_option linter.unusedSectionVars false
set_option linter.unusedSimpArgs false
theorem clonel_l (w:World) {A:Option Addr} {n c:Nat} {l:List Int} (h:By w A n l) (hn:n≤10000000000000):∀ (q i:Nat) (wa:World) (B:Option Addr) (d:Nat),n-i < q→i≤n→Buf w wa [] B i d (l.take i)→
  qq27.L1 q A n c B i d (i:Int) wa (fun e w'=>∃ A' c',e=.returned (.slice A' n c')∧Buf w w' [] A' n c' l):=by
 intro q
 induction q with
 | zero=>intro i wa B d h; omega
 | succ q ih=>
  intro i wa B d hq hi hb
  have hl:=h.len
  unfold qq27.L1; intros
  rw [qq27.l1_eq]
  refine ifD (fun h1=>?_) (fun h1=>?_)
  ·
   refine (h.bel hb.own.bel).rd (by omega) (by omega) fun _=>?_
   rw [Int.toNat_natCast]
   refine buf_lit (m:=1) hb [l.getD i 0] rfl (by omega) fun B' d' wb hb'=>?_
   refine let_as ((i+1:Nat):Int) (by rw [w64 (by omega) (by omega)]; omega) ?_
   have e:l.take i++[l.getD i 0]=l.take (i+1):=by
    rw [List.take_succ_eq_append_getElem (by omega)]
    simp [List.getD_eq_getElem?_getD,show i < l.length by omega]
   rw [e] at hb'
   apply ih (i+1) wb B' d' (by omega) (by omega) hb'
  ·
   have:i=l.length:=by omega
   subst this
   rw [List.take_length] at hb
   exact ⟨B,d,by rw [hl],by rw [← hl]; exact hb⟩
theorem clonel_c {w:World} {A:Option Addr} {n c:Nat} {l:List Int} (h:By w A n l) (hn:n≤10000000000000):Calls Tryz.prog 47 #[.slice A n c] w (fun e w'=>∃ A' c',e=.returned (.slice A' n c')∧Buf w w' [] A' n c' l):=by
 refine qq27.run ?_
 unfold qq27.s
 refine ⟨n+1,?_⟩
 have k:=clonel_l w (c:=c) h hn (n+1) 0 w none 0 (by omega) (by omega) (Buf.nil (Own.refl w))
 exact k ..
structure OpF (w:World) (x:NOp) (l:List (Int×Int)):Prop where
 p:x.p.Fine
 pa:PkAt w x.p x.A x.n x.c x.B x.m x.d
 t:x.t.Fine
 bk:Bks w x.L x.ln l
 bf:FineB l
 pt:x.pt≤65535
 n6:x.n≤2000000
 m6:x.m≤2000000
 l6:x.ln≤500000
theorem OpF.bel {w w':World} {x:NOp} {l:List (Int×Int)} (h:OpF w x l) (k:Bel w w'):OpF w' x l:=⟨h.p,h.pa.bel k,h.t,h.bk.bel k,h.bf,h.pt,h.n6,h.m6,h.l6⟩
theorem nov_pkt {w:World} {g:Nat} {x:NOp} (h:Bk w g 42 (nov x)):At w ⟨g,2,none⟩ (pb x.p x.A x.n x.c x.B x.m x.d):=at_mid [.int .i64 x.k,.bool x.on] h rfl
theorem nov_tup {w:World} {g:Nat} {x:NOp} (h:Bk w g 42 (nov x)):At w ⟨g,13,none⟩ (tpv x.t):=at_mid ([.int .i64 x.k,.bool x.on]++pb x.p x.A x.n x.c x.B x.m x.d) (mid:=tpv x.t) (post:=[.int .u32 x.src,.int .u32 x.dst,.slice x.L x.ln x.lc,.int .u8 x.pr,.int .u16 (x.pt:Int)]) h rfl
section
variable {w0:World} {q:Pk} {k:Int} {A:Option Addr} {n c:Nat} {B:Option Addr} {m d:Nat} {A':Option Addr} {n' c':Nat} {B':Option Addr} {m' d':Nat} {g g':Nat} {Q:Ending→World→Prop}
end
theorem turnO_len {p:Pk} {u:Tp} {n m:Nat} {w:World} {A:Option Addr} {c:Nat} {B:Option Addr} {d:Nat} (h:PkAt w (turnO p u) A n c B m d) (h1:p.opts.length≤2000000) (h2:p.body.length≤2000000):n≤2000000∧m≤2000000:=by
 have e1:=h.opts.len
 have e2:=h.body.len
 have k:(turnO p u).opts.length≤2000000∧(turnO p u).body.length≤2000000:=by
  unfold turnO
  split
  ·
   unfold turnP
   refine ⟨h1,?_⟩
   show (if eqV (tpv (ofT p)) (tpv u)=true then p.body else carV p.body u.proto (ofT p) u true).length≤_
   split
   ·
    exact h2
   ·
    rw [carV_len]; exact h2
  ·
   exact ⟨Nat.zero_le _,Nat.zero_le _⟩
 omega
theorem tfO_len {p:Pk} (hp:p.Fine) {u:Tp} (hu:u.Fine) {a b:Int} {n m:Nat} {w:World} {A:Option Addr} {c:Nat} {B:Option Addr} {d:Nat} (h:PkAt w (tfO p u a b) A n c B m d) (h1:p.opts.length≤2000000):n≤2000000∧m≤2000000:=by
 have e1:=h.opts.len
 have e2:=h.body.len
 have k:(tfO p u a b).opts.length≤2000000∧(tfO p u a b).body.length≤2000000:=by
  unfold tfO
  split
  ·
   rename_i he
   have t:=Tf.of hp hu he
   refine ⟨h1,?_⟩
   show ((tfI p u).bytes (tfI p u).sum).length≤_
   rw [Ic.len]
   have:=t.len4
   have:=t.l4
   show 8+(tf4 p u).length≤_
   omega
  ·
   exact ⟨Nat.zero_le _,Nat.zero_le _⟩
 omega
section
variable {w0:World} (hg:GlF w0) {x:NOp} {l:List (Int×Int)} (hx:OpF w0 x l) {p q:Option Addr} {Q:Ending→World→Prop} (hQ:∀ w',Bel w0 w'→Q (.returned (.bool true)) w') {g1 g3:Nat}
include hg hx hQ
end
end Go.Proofs.YtphbdmafchjjeaaGreatDoorS
