import Derived.Test.YtphbdmafchjjeaaGreatDoorRQASPureM
namespace Go.Proofs.YtphbdmafchjjeaaGreatDoorS
open Go Go.Proofs
open Go renaming undef → U, World → W, Value → V
open Go.Value renaming int → I, slice → S, bool → T, pointer → P, agg → G
open Go.IntKind renaming u8 → B, u16 → H, u32 → D, u64 → Q, i64 → L
open Option renaming none → N
set_option autoImplicit true
set_option relaxedAutoImplicit true
set_option maxRecDepth 100000
set_option linter.unusedVariables false
def qq17.ords:Nat→Od
 | 18=>(.tk 0 (.tk 1 (.tk 2 (.tk 3 (.tk 4 (.tk 5 (.tk 6 (.tk 7 (.on 8 (.tk 9 (.tk 10 .nil)))))))))))
 | 20=>(.tk 0 (.tk 1 (.tk 2 (.tk 3 (.tk 4 (.on 5 (.tk 6 .nil)))))))
 | _=>.nil
def qq17.joins (p:List Nat):Bool:=p == [1,1,1] || p == [1,0,1,0,1,0,0,1,0,0,1,0,1,1,1,1,1] || p == [1,1,0,0,1,0,0,1,0,1,1,1,1,1]
def qq17.j1 (y2 y3:Int) (Y4:Option Addr) (yn4 yc4 yg11:Nat) (y12:Bool) (d0 d1 d5 d6 d7 d8 d9 dA dD dE dF dG dH dI dJ dK dL dM dN dO dP dQ dR dS dT dU dV dW dX dY dZ k0 k1 k2 k3 k4 k5 k6 k7 k8 k9 kA kB kC kD kE kF kG kH kI kJ kK kL kM kN kO kP kQ kR kS kT kU kV kW kX kY kZ v0 v1 v2 v3 v4 v5 v6 v7 v8 v9 vA vB vC vD vE:V) (w:W) (R:E):Prop:=
 seg Tryz.prog entE qq17.ords qq17.joins Tryz.f3 [1,1,1] [1,1,1] [] [d0,d1,I H y2,I H y3,S Y4 yn4 yc4,d5,d6,d7,d8,d9,dA,P (some ⟨yg11,0,N⟩),T y12,dD,dE,dF,dG,dH,dI,dJ,dK,dL,dM,dN,dO,dP,dQ,dR,dS,dT,dU,dV,dW,dX,dY,dZ,k0,k1,k2,k3,k4,k5,k6,k7,k8,k9,kA,kB,kC,kD,kE,kF,kG,kH,kI,kJ,kK,kL,kM,kN,kO,kP,kQ,kR,kS,kT,kU,kV,kW,kX,kY,kZ,v0,v1,v2,v3,v4,v5,v6,v7,v8,v9,vA,vB,vC,vD,vE] w R
def qq17.l1 (n:Nat) (y2 y3:Int) (Y4:Option Addr) (yn4 yc4 yg11:Nat) (y12:Bool) (yg13:Nat) (y14:Bool) (y15:Int) (d0 d1 d5 d6 d7 d8 d9 dA dG dH dI dJ dK dL dM dN dO dP dQ dR dS dT dU dV dW dX dY dZ k0 k1 k2 k3 k4 k5 k6 k7 k8 k9 kA kB kC kD kE kF kG kH kI kJ kK kL kM kN kO kP kQ kR kS kT kU kV kW kX kY kZ v0 v1 v2 v3 v4 v5 v6 v7 v8 v9 vA vB vC vD vE:V) (w:W) (R:E):Prop:=
 lseg Tryz.prog entE qq17.ords qq17.joins Tryz.f3 [1,1,1,1,1,0,1,0] [0,1,0,1,1,1,1,1] [] n [d0,d1,I H y2,I H y3,S Y4 yn4 yc4,d5,d6,d7,d8,d9,dA,P (some ⟨yg11,0,N⟩),T y12,P (some ⟨yg13,0,N⟩),T y14,I L y15,dG,dH,dI,dJ,dK,dL,dM,dN,dO,dP,dQ,dR,dS,dT,dU,dV,dW,dX,dY,dZ,k0,k1,k2,k3,k4,k5,k6,k7,k8,k9,kA,kB,kC,kD,kE,kF,kG,kH,kI,kJ,kK,kL,kM,kN,kO,kP,kQ,kR,kS,kT,kU,kV,kW,kX,kY,kZ,v0,v1,v2,v3,v4,v5,v6,v7,v8,v9,vA,vB,vC,vD,vE] w R
def qq17.j2 (m0:Nat) (y2 y3:Int) (Y4:Option Addr) (yn4 yc4 yg11:Nat) (y12:Bool) (yg13:Nat) (y14:Bool) (y15:Int) (yg16:Nat) (d0 d1 d5 d6 d7 d8 d9 dA dH dI dJ dK dL dM dN dO dP dQ dR dS dT dU dV dW dX dY dZ k0 k1 k2 k3 k4 k5 k6 k7 k8 k9 kA kB kC kD kE kF kG kH kI kJ kK kL kM kN kO kP kQ kR kS kT kU kV kW kX kY kZ v0 v1 v2 v3 v4 v5 v6 v7 v8 v9 vA vB vC vD vE:V) (w:W) (R:E):Prop:=
 seg Tryz.prog entE qq17.ords qq17.joins Tryz.f3 [1,1,1,1,1,0,1,0,0,1,0,0,1,0,1,0,1] [1,0,1,0,1,0,0,1,0,0,1,0,1,1,1,1,1] [m0] [d0,d1,I H y2,I H y3,S Y4 yn4 yc4,d5,d6,d7,d8,d9,dA,P (some ⟨yg11,0,N⟩),T y12,P (some ⟨yg13,0,N⟩),T y14,I L y15,P (some ⟨yg16,0,N⟩),dH,dI,dJ,dK,dL,dM,dN,dO,dP,dQ,dR,dS,dT,dU,dV,dW,dX,dY,dZ,k0,k1,k2,k3,k4,k5,k6,k7,k8,k9,kA,kB,kC,kD,kE,kF,kG,kH,kI,kJ,kK,kL,kM,kN,kO,kP,kQ,kR,kS,kT,kU,kV,kW,kX,kY,kZ,v0,v1,v2,v3,v4,v5,v6,v7,v8,v9,vA,vB,vC,vD,vE] w R
def qq17.j3 (m0:Nat) (y2 y3:Int) (Y4:Option Addr) (yn4 yc4 yg11:Nat) (y12:Bool) (yg13:Nat) (y14:Bool) (y15:Int) (yg16:Nat) (d0 d1 d5 d6 d7 d8 d9 dA dH dI dJ dK dL dM dN dO dP dQ dR dS dT dU dV dW dX dY dZ k0 k1 k2 k3 k4 k5 k6 k7 k8 k9 kA kB kC kD kE kF kG kH kI kJ kK kL kM kN kO kP kQ kR kS kT kU kV kW kX kY kZ v0 v1 v2 v3 v4 v5 v6 v7 v8 v9 vA vB vC vD vE:V) (w:W) (R:E):Prop:=
 seg Tryz.prog entE qq17.ords qq17.joins Tryz.f3 [1,1,1,1,1,0,1,0,0,1,0,0,1,1] [1,1,0,0,1,0,0,1,0,1,1,1,1,1] [m0] [d0,d1,I H y2,I H y3,S Y4 yn4 yc4,d5,d6,d7,d8,d9,dA,P (some ⟨yg11,0,N⟩),T y12,P (some ⟨yg13,0,N⟩),T y14,I L y15,P (some ⟨yg16,0,N⟩),dH,dI,dJ,dK,dL,dM,dN,dO,dP,dQ,dR,dS,dT,dU,dV,dW,dX,dY,dZ,k0,k1,k2,k3,k4,k5,k6,k7,k8,k9,kA,kB,kC,kD,kE,kF,kG,kH,kI,kJ,kK,kL,kM,kN,kO,kP,kQ,kR,kS,kT,kU,kV,kW,kX,kY,kZ,v0,v1,v2,v3,v4,v5,v6,v7,v8,v9,vA,vB,vC,vD,vE] w R
abbrev qq17.J1 (y2 y3:Int) (Y4:Option Addr) (yn4 yc4 yg11:Nat) (y12:Bool) (w:W) (R:E):Prop:=∀ d0 d1 d5 d6 d7 d8 d9 dA dD dE dF dG dH dI dJ dK dL dM dN dO dP dQ dR dS dT dU dV dW dX dY dZ k0 k1 k2 k3 k4 k5 k6 k7 k8 k9 kA kB kC kD kE kF kG kH kI kJ kK kL kM kN kO kP kQ kR kS kT kU kV kW kX kY kZ v0 v1 v2 v3 v4 v5 v6 v7 v8 v9 vA vB vC vD vE,qq17.j1 y2 y3 Y4 yn4 yc4 yg11 y12 d0 d1 d5 d6 d7 d8 d9 dA dD dE dF dG dH dI dJ dK dL dM dN dO dP dQ dR dS dT dU dV dW dX dY dZ k0 k1 k2 k3 k4 k5 k6 k7 k8 k9 kA kB kC kD kE kF kG kH kI kJ kK kL kM kN kO kP kQ kR kS kT kU kV kW kX kY kZ v0 v1 v2 v3 v4 v5 v6 v7 v8 v9 vA vB vC vD vE w R
abbrev qq17.L1 (n:Nat) (y2 y3:Int) (Y4:Option Addr) (yn4 yc4 yg11:Nat) (y12:Bool) (yg13:Nat) (y14:Bool) (y15:Int) (w:W) (R:E):Prop:=∀ d0 d1 d5 d6 d7 d8 d9 dA dG dH dI dJ dK dL dM dN dO dP dQ dR dS dT dU dV dW dX dY dZ k0 k1 k2 k3 k4 k5 k6 k7 k8 k9 kA kB kC kD kE kF kG kH kI kJ kK kL kM kN kO kP kQ kR kS kT kU kV kW kX kY kZ v0 v1 v2 v3 v4 v5 v6 v7 v8 v9 vA vB vC vD vE,qq17.l1 n y2 y3 Y4 yn4 yc4 yg11 y12 yg13 y14 y15 d0 d1 d5 d6 d7 d8 d9 dA dG dH dI dJ dK dL dM dN dO dP dQ dR dS dT dU dV dW dX dY dZ k0 k1 k2 k3 k4 k5 k6 k7 k8 k9 kA kB kC kD kE kF kG kH kI kJ kK kL kM kN kO kP kQ kR kS kT kU kV kW kX kY kZ v0 v1 v2 v3 v4 v5 v6 v7 v8 v9 vA vB vC vD vE w R
abbrev qq17.J2 (m0:Nat) (y2 y3:Int) (Y4:Option Addr) (yn4 yc4 yg11:Nat) (y12:Bool) (yg13:Nat) (y14:Bool) (y15:Int) (yg16:Nat) (w:W) (R:E):Prop:=∀ d0 d1 d5 d6 d7 d8 d9 dA dH dI dJ dK dL dM dN dO dP dQ dR dS dT dU dV dW dX dY dZ k0 k1 k2 k3 k4 k5 k6 k7 k8 k9 kA kB kC kD kE kF kG kH kI kJ kK kL kM kN kO kP kQ kR kS kT kU kV kW kX kY kZ v0 v1 v2 v3 v4 v5 v6 v7 v8 v9 vA vB vC vD vE,qq17.j2 m0 y2 y3 Y4 yn4 yc4 yg11 y12 yg13 y14 y15 yg16 d0 d1 d5 d6 d7 d8 d9 dA dH dI dJ dK dL dM dN dO dP dQ dR dS dT dU dV dW dX dY dZ k0 k1 k2 k3 k4 k5 k6 k7 k8 k9 kA kB kC kD kE kF kG kH kI kJ kK kL kM kN kO kP kQ kR kS kT kU kV kW kX kY kZ v0 v1 v2 v3 v4 v5 v6 v7 v8 v9 vA vB vC vD vE w R
abbrev qq17.J3 (m0:Nat) (y2 y3:Int) (Y4:Option Addr) (yn4 yc4 yg11:Nat) (y12:Bool) (yg13:Nat) (y14:Bool) (y15:Int) (yg16:Nat) (w:W) (R:E):Prop:=∀ d0 d1 d5 d6 d7 d8 d9 dA dH dI dJ dK dL dM dN dO dP dQ dR dS dT dU dV dW dX dY dZ k0 k1 k2 k3 k4 k5 k6 k7 k8 k9 kA kB kC kD kE kF kG kH kI kJ kK kL kM kN kO kP kQ kR kS kT kU kV kW kX kY kZ v0 v1 v2 v3 v4 v5 v6 v7 v8 v9 vA vB vC vD vE,qq17.j3 m0 y2 y3 Y4 yn4 yc4 yg11 y12 yg13 y14 y15 yg16 d0 d1 d5 d6 d7 d8 d9 dA dH dI dJ dK dL dM dN dO dP dQ dR dS dT dU dV dW dX dY dZ k0 k1 k2 k3 k4 k5 k6 k7 k8 k9 kA kB kC kD kE kF kG kH kI kJ kK kL kM kN kO kP kQ kR kS kT kU kV kW kX kY kZ v0 v1 v2 v3 v4 v5 v6 v7 v8 v9 vA vB vC vD vE w R
theorem qq17.j1_eq:qq17.j1 y2 y3 Y4 yn4 yc4 yg11 y12 d0 d1 d5 d6 d7 d8 d9 dA dD dE dF dG dH dI dJ dK dL dM dN dO dP dQ dR dS dT dU dV dW dX dY dZ k0 k1 k2 k3 k4 k5 k6 k7 k8 k9 kA kB kC kD kE kF kG kH kI kJ kK kL kM kN kO kP kQ kR kS kT kU kV kW kX kY kZ v0 v1 v2 v3 v4 v5 v6 v7 v8 v9 vA vB vC vD vE w R =
(Let (w.heap.size) fun g1:Nat=>
 Let (w.alloc (.cells #[P N,P N] 27)) fun w2:W=>
 ∃ n3:Nat,qq17.l1 n3 y2 y3 Y4 yn4 yc4 yg11 y12 g1 false 0 d0 d1 d5 d6 d7 d8 d9 dA dG dH dI dJ dK dL dM dN dO dP dQ dR dS dT dU dV dW dX dY dZ k0 k1 k2 k3 k4 k5 k6 k7 k8 k9 kA kB kC kD kE kF kG kH kI kJ kK kL kM kN kO kP kQ kR kS kT kU kV kW kX kY kZ v0 v1 v2 v3 v4 v5 v6 v7 v8 v9 vA vB vC vD vE w2 R):=by kernel_rfl
theorem qq17.l1_eq {n:Nat}:qq17.l1 (n+1) y2 y3 Y4 yn4 yc4 yg11 y12 yg13 y14 y15 d0 d1 d5 d6 d7 d8 d9 dA dG dH dI dJ dK dL dM dN dO dP dQ dR dS dT dU dV dW dX dY dZ k0 k1 k2 k3 k4 k5 k6 k7 k8 k9 kA kB kC kD kE kF kG kH kI kJ kK kL kM kN kO kP kQ kR kS kT kU kV kW kX kY kZ v0 v1 v2 v3 v4 v5 v6 v7 v8 v9 vA vB vC vD vE w R =
((if decide (y15 < (yn4:Int))=true then
(∃ p1:Option Addr,∃ p2:Option Addr,(2=2∧At w ⟨yg11,0,N⟩ [P p1,P p2])∧
(Let (w.heap.size) fun g3:Nat=>
 Let (w.alloc (.cells #[P N,P N] 27)) fun w4:W=>
 May w4 ⟨g3,0,N⟩ 2∧
(Let (putCells w4 ⟨g3,0,N⟩ [P p1,P p2] 0) fun w5:W=>
 ∃ a6:Addr,Y4=some a6∧(0≤y15∧y15 < (yn4:Int))∧
(∃ b7:Bool,w5.cell? ((a6.add (y15.toNat * 23)).add 1)=some (T b7)∧
((if b7=true then
((if (!y14)=true then
(Calls Tryz.prog 5 #[I H y2,I H y3] w5 (fun (e9:Ending) (w8:W)=>
 ∃ p10:Option Addr,∃ p11:Option Addr,∃ b12:Bool,e9=.returned (.tuple #[G #[P p10,P p11],T b12])∧
(May w8 ⟨yg13,0,N⟩ 2∧
(Let (putCells w8 ⟨yg13,0,N⟩ [P p10,P p11] 0) fun w13:W=>
(if (!b12)=true then
(R (.returned (T false)) w13)
else
(Leaf (qq17.j2 n y2 y3 Y4 yn4 yc4 yg11 b12 yg13 true y15 g3 d0 d1 d5 d6 d7 d8 d9 dA dH dI dJ dK dL dM dN dO dP dQ dR dS dT dU (I L y15) (S Y4 yn4 yc4) (I L (yn4:Int)) (T (decide (y15 < (yn4:Int)))) dZ k0 (G #[P p1,P p2]) (S Y4 yn4 yc4) (I L y15) (P (some (a6.add (y15.toNat * 23)))) (P (some ((a6.add (y15.toNat * 23)).add 1))) (T b7) (T y14) (T (!y14)) (.tuple #[G #[P p10,P p11],T b12]) (I H y2) (I H y3) (.tuple #[G #[P p10,P p11],T b12]) (G #[P p10,P p11]) (T b12) (T b12) (T (!b12)) kH kI kJ kK kL kM kN kO kP kQ kR kS kT kU kV kW kX kY kZ v0 v1 v2 v3 v4 v5 v6 v7 v8 v9 vA vB vC vD vE w13 R)))))))
else
(Leaf (qq17.j2 n y2 y3 Y4 yn4 yc4 yg11 y12 yg13 y14 y15 g3 d0 d1 d5 d6 d7 d8 d9 dA dH dI dJ dK dL dM dN dO dP dQ dR dS dT dU (I L y15) (S Y4 yn4 yc4) (I L (yn4:Int)) (T (decide (y15 < (yn4:Int)))) dZ k0 (G #[P p1,P p2]) (S Y4 yn4 yc4) (I L y15) (P (some (a6.add (y15.toNat * 23)))) (P (some ((a6.add (y15.toNat * 23)).add 1))) (T b7) (T y14) (T (!y14)) k9 kA kB kC kD kE kF kG kH kI kJ kK kL kM kN kO kP kQ kR kS kT kU kV kW kX kY kZ v0 v1 v2 v3 v4 v5 v6 v7 v8 v9 vA vB vC vD vE w5 R))))
else
(Leaf (qq17.j3 n y2 y3 Y4 yn4 yc4 yg11 y12 yg13 y14 y15 g3 d0 d1 d5 d6 d7 d8 d9 dA dH dI dJ dK dL dM dN dO dP dQ dR dS dT dU (I L y15) (S Y4 yn4 yc4) (I L (yn4:Int)) (T (decide (y15 < (yn4:Int)))) dZ k0 (G #[P p1,P p2]) (S Y4 yn4 yc4) (I L y15) (P (some (a6.add (y15.toNat * 23)))) (P (some ((a6.add (y15.toNat * 23)).add 1))) (T b7) k7 k8 k9 kA kB kC kD kE kF kG kH kI kJ kK kL kM kN kO kP kQ kR kS kT kU kV kW kX kY kZ v0 v1 v2 v3 v4 v5 v6 v7 v8 v9 vA vB vC vD vE w5 R))))))))
else
((if (!y14)=true then
(Calls Tryz.prog 5 #[I H y2,I H y3] w (fun (e15:Ending) (w14:W)=>
 ∃ p16:Option Addr,∃ p17:Option Addr,∃ b18:Bool,e15=.returned (.tuple #[G #[P p16,P p17],T b18])∧
(R (.returned (T b18)) w14)))
else
(R (.returned (T y12)) w))))):=by kernel_rfl
theorem qq17.j2_eq:qq17.j2 m0 y2 y3 Y4 yn4 yc4 yg11 y12 yg13 y14 y15 yg16 d0 d1 d5 d6 d7 d8 d9 dA dH dI dJ dK dL dM dN dO dP dQ dR dS dT dU dV dW dX dY dZ k0 k1 k2 k3 k4 k5 k6 k7 k8 k9 kA kB kC kD kE kF kG kH kI kJ kK kL kM kN kO kP kQ kR kS kT kU kV kW kX kY kZ v0 v1 v2 v3 v4 v5 v6 v7 v8 v9 vA vB vC vD vE w R =
(∃ p1:Option Addr,∃ p2:Option Addr,(2=2∧At w ⟨yg13,0,N⟩ [P p1,P p2])∧
(May w ⟨yg16,0,N⟩ 2∧
(Let (putCells w ⟨yg16,0,N⟩ [P p1,P p2] 0) fun w3:W=>
 Calls Tryz.prog 5 #[I H y2,I H y3] w3 (fun (e5:Ending) (w4:W)=>
 ∃ p6:Option Addr,∃ p7:Option Addr,∃ b8:Bool,e5=.returned (.tuple #[G #[P p6,P p7],T b8])∧
(Let (w4.heap.size) fun g9:Nat=>
 Let (w4.alloc (.cells #[P N,P N] 27)) fun w10:W=>
 May w10 ⟨g9,0,N⟩ 2∧
(Let (putCells w10 ⟨g9,0,N⟩ [P p6,P p7] 0) fun w11:W=>
 ∃ S12:W→Prop,S12 w11.drew∧
(Let (w11.drew) fun w13:W=>
(if (!b8)=true then
(R (.returned (T false)) w13)
else
(∃ p14:Option Addr,∃ p15:Option Addr,(2=2∧(∀ w',S12 w'→At w' ⟨g9,0,N⟩ [P p14,P p15]))∧
(∃ a16:Addr,Y4=some a16∧(0≤y15∧y15 < (yn4:Int))∧
(∃ x17:Int,∃ b18:Bool,∃ x19 x20:Int,∃ b21 b22:Bool,∃ x23 x24 x25 x26 x27:Int,∃ (A28:Option Addr) (n28_ c28_:Nat),∃ (A29:Option Addr) (n29_ c29_:Nat),∃ x30 x31 x32 x33 x34 x35 x36:Int,∃ (A37:Option Addr) (n37_ c37_:Nat),∃ x38 x39:Int,(23=23∧(∀ w',S12 w'→At w' (a16.add (y15.toNat * 23)) [I L x17,T b18,I B x19,I H x20,T b21,T b22,I L x23,I B x24,I B x25,I D x26,I D x27,S A28 n28_ c28_,S A29 n29_ c29_,I D x30,I D x31,I B x32,I H x33,I H x34,I D x35,I D x36,S A37 n37_ c37_,I B x38,I H x39]))∧
(Calls Tryz.prog 7 #[G #[P p14,P p15],G #[I L x17,T b18,I B x19,I H x20,T b21,T b22,I L x23,I B x24,I B x25,I D x26,I D x27,S A28 n28_ c28_,S A29 n29_ c29_,I D x30,I D x31,I B x32,I H x33,I H x34,I D x35,I D x36,S A37 n37_ c37_,I B x38,I H x39]] w13 (fun (e41:Ending) (w40:W)=>
 ∃ b42:Bool,e41=.returned (T b42)∧
(S12 w40∧
((if (!b42)=true then
(R (.returned (T false)) w40)
else
(Leaf (qq17.j3 m0 y2 y3 Y4 yn4 yc4 yg11 y12 yg13 y14 y15 yg16 d0 d1 d5 d6 d7 d8 d9 dA (P (some ⟨g9,0,N⟩)) (T b8) dJ dK dL dM dN dO dP dQ dR dS dT dU dV dW dX dY dZ k0 k1 k2 k3 k4 k5 k6 k7 k8 k9 kA kB kC kD kE kF kG (G #[P p1,P p2]) (.tuple #[G #[P p6,P p7],T b8]) (I H y2) (I H y3) (.tuple #[G #[P p6,P p7],T b8]) (G #[P p6,P p7]) (T b8) (T b8) (T (!b8)) (T false) (G #[P p14,P p15]) (S Y4 yn4 yc4) (I L y15) (P (some (a16.add (y15.toNat * 23)))) (G #[I L x17,T b18,I B x19,I H x20,T b21,T b22,I L x23,I B x24,I B x25,I D x26,I D x27,S A28 n28_ c28_,S A29 n29_ c29_,I D x30,I D x31,I B x32,I H x33,I H x34,I D x35,I D x36,S A37 n37_ c37_,I B x38,I H x39]) (T b42) (T (!b42)) (T (!b42)) kZ v0 v1 v2 v3 v4 v5 v6 v7 v8 v9 vA vB vC vD vE w40 R)))))))))))))))))):=by kernel_rfl
theorem qq17.j3_eq:qq17.j3 m0 y2 y3 Y4 yn4 yc4 yg11 y12 yg13 y14 y15 yg16 d0 d1 d5 d6 d7 d8 d9 dA dH dI dJ dK dL dM dN dO dP dQ dR dS dT dU dV dW dX dY dZ k0 k1 k2 k3 k4 k5 k6 k7 k8 k9 kA kB kC kD kE kF kG kH kI kJ kK kL kM kN kO kP kQ kR kS kT kU kV kW kX kY kZ v0 v1 v2 v3 v4 v5 v6 v7 v8 v9 vA vB vC vD vE w R =
(∃ S1:W→Prop,S1 w.drew∧
(Let (w.drew) fun w2:W=>
 ∃ p3:Option Addr,∃ p4:Option Addr,(2=2∧(∀ w',S1 w'→At w' ⟨yg16,0,N⟩ [P p3,P p4]))∧
(∃ a5:Addr,Y4=some a5∧(0≤y15∧y15 < (yn4:Int))∧
(∃ x6:Int,∃ b7:Bool,∃ x8 x9:Int,∃ b10 b11:Bool,∃ x12 x13 x14 x15 x16:Int,∃ (A17:Option Addr) (n17_ c17_:Nat),∃ (A18:Option Addr) (n18_ c18_:Nat),∃ x19 x20 x21 x22 x23 x24 x25:Int,∃ (A26:Option Addr) (n26_ c26_:Nat),∃ x27 x28:Int,(23=23∧(∀ w',S1 w'→At w' (a5.add (y15.toNat * 23)) [I L x6,T b7,I B x8,I H x9,T b10,T b11,I L x12,I B x13,I B x14,I D x15,I D x16,S A17 n17_ c17_,S A18 n18_ c18_,I D x19,I D x20,I B x21,I H x22,I H x23,I D x24,I D x25,S A26 n26_ c26_,I B x27,I H x28]))∧
(Calls Tryz.prog 8 #[G #[P p3,P p4],G #[I L x6,T b7,I B x8,I H x9,T b10,T b11,I L x12,I B x13,I B x14,I D x15,I D x16,S A17 n17_ c17_,S A18 n18_ c18_,I D x19,I D x20,I B x21,I H x22,I H x23,I D x24,I D x25,S A26 n26_ c26_,I B x27,I H x28]] w2 (fun (e30:Ending) (w29:W)=>
 ∃ b31:Bool,e30=.returned (T b31)∧
(S1 w29∧
((if (!b31)=true then
(R (.returned (T false)) w29)
else
(Let (L.wrap (y15+1)) fun x32:Int=>
 qq17.l1 m0 y2 y3 Y4 yn4 yc4 yg11 y12 yg13 y14 x32 d0 d1 d5 d6 d7 d8 d9 dA (P (some ⟨yg16,0,N⟩)) dH dI dJ dK dL dM dN dO dP dQ dR dS dT dU dV dW dX dY (I L y15) (I L x32) k1 k2 k3 k4 k5 k6 k7 k8 k9 kA kB kC kD kE kF kG kH kI kJ kK kL kM kN kO kP kQ kR kS kT kU kV kW kX kY (G #[P p3,P p4]) (S Y4 yn4 yc4) (I L y15) (P (some (a5.add (y15.toNat * 23)))) (G #[I L x6,T b7,I B x8,I H x9,T b10,T b11,I L x12,I B x13,I B x14,I D x15,I D x16,S A17 n17_ c17_,S A18 n18_ c18_,I D x19,I D x20,I B x21,I H x22,I H x23,I D x24,I D x25,S A26 n26_ c26_,I B x27,I H x28]) (T b31) (T (!b31)) v6 v7 v8 v9 vA vB vC vD vE w29 R)))))))))):=by kernel_rfl
def qq17.s (i0 i1 i2 i3:Int) (I4:Option Addr) (in4 ic4:Nat) (w:W) (R:E):Prop:=
(Calls Tryz.prog 5 #[I H i0,I H i1] w (fun (e2:Ending) (w1:W)=>
 ∃ p3:Option Addr,∃ p4:Option Addr,∃ b5:Bool,e2=.returned (.tuple #[G #[P p3,P p4],T b5])∧
(Let (w1.heap.size) fun g6:Nat=>
 Let (w1.alloc (.cells #[P N,P N] 27)) fun w7:W=>
 May w7 ⟨g6,0,N⟩ 2∧
(Let (putCells w7 ⟨g6,0,N⟩ [P p3,P p4] 0) fun w8:W=>
 Calls Tryz.prog 6 #[] w8 (fun (e10:Ending) (w9:W)=>
 ∃ b11:Bool,e10=.returned (T b11)∧
((if (!b11)=true then
(R (.returned (T false)) w9)
else
((if (!b5)=true then
(R (.returned (T false)) w9)
else
(Leaf (qq17.j1 i2 i3 I4 in4 ic4 g6 b5 (I H i0) (I H i1) U U U U U (T false) U U U U U U (.tuple #[G #[P p3,P p4],T b5]) (I H i0) (I H i1) (.tuple #[G #[P p3,P p4],T b5]) (G #[P p3,P p4]) (T b5) (T b11) (T (!b11)) (T false) (T b5) (T (!b5)) (T (!b5)) U U U U U U U U U U U U U U U U U U U U U U U U U U U U U U U U U U U U U U U U U U U U U U U U U U U U U U U U w9 R)))))))))))
theorem qq17.run (h:qq17.s i0 i1 i2 i3 I4 in4 ic4 w R):Calls Tryz.prog 3 #[I H i0,I H i1,I H i2,I H i3,S I4 in4 ic4] w R:=
 calls_segk (ords:=qq17.ords) (J:=qq17.joins) ents mixed Tryz.func3 rfl h (by kernel_rfl)
end Go.Proofs.YtphbdmafchjjeaaGreatDoorS
