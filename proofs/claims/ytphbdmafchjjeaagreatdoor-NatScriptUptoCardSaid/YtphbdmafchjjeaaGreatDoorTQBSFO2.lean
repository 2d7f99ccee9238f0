import Derived.Test.YtphbdmafchjjeaaGreatDoorTQBSPureM
namespace Go.Proofs.YtphbdmafchjjeaaGreatDoorS
open Go Go.Proofs
open Go renaming undef → U, World → W, Value → V
open Go.Value renaming int → I, slice → S, bool → T, pointer → P, agg → G
open Go.IntKind renaming u8 → B, u16 → H, u32 → D, u64 → Q, i64 → L
open Option renaming none → N
set_option autoImplicit true
set_option relaxedAutoImplicit true
set_option maxRecDepth 100000
set_option linter.unusedVariables false
def qq92.ords:Nat→Od
 | _=>.nil
def qq92.joins (p:List Nat):Bool:=p == [1,1] || p == [1,0,0,1,1,1] || p == [1,1,1,1] || p == [1,1,1,0,0,1,1,1]
def qq92.j1 (Y1:Option Addr) (yn1 yc1 yg2 yg4:Nat) (d0 d3 d5 d6 d7 d8 d9 dA dB dC dD dE dF dG dH dI dJ dK dL dM dN dO dP dQ dR dS dT dU dV dW dX dY dZ k0 k1 k2 k3 k4 k5 k6 k7 k8 k9 kA kB kC kD kE kF kG kH kI kJ kK kL kM kN kO kP kQ kR kS kT kU kV:V) (w:W) (R:E):Prop:=
 seg Tryz.prog entE qq92.ords qq92.joins Tryz.f57 [1,1] [1,1] [] [d0,S Y1 yn1 yc1,P (some ⟨yg2,0,N⟩),d3,P (some ⟨yg4,0,N⟩),d5,d6,d7,d8,d9,dA,dB,dC,dD,dE,dF,dG,dH,dI,dJ,dK,dL,dM,dN,dO,dP,dQ,dR,dS,dT,dU,dV,dW,dX,dY,dZ,k0,k1,k2,k3,k4,k5,k6,k7,k8,k9,kA,kB,kC,kD,kE,kF,kG,kH,kI,kJ,kK,kL,kM,kN,kO,kP,kQ,kR,kS,kT,kU,kV] w R
def qq92.j2 (Y1:Option Addr) (yn1 yc1 yg2 yg4 yg6:Nat) (y24:Bool) (d0 d3 d5 d7 d8 d9 dA dB dC dD dE dF dG dH dI dJ dK dL dM dN dP dQ dR dS dT dU dV dW dX dY dZ k0 k1 k2 k3 k4 k5 k6 k7 k8 k9 kA kB kC kD kE kF kG kH kI kJ kK kL kM kN kO kP kQ kR kS kT kU kV:V) (w:W) (R:E):Prop:=
 seg Tryz.prog entE qq92.ords qq92.joins Tryz.f57 [1,1,1,0,0,1] [1,0,0,1,1,1] [] [d0,S Y1 yn1 yc1,P (some ⟨yg2,0,N⟩),d3,P (some ⟨yg4,0,N⟩),d5,P (some ⟨yg6,0,N⟩),d7,d8,d9,dA,dB,dC,dD,dE,dF,dG,dH,dI,dJ,dK,dL,dM,dN,T y24,dP,dQ,dR,dS,dT,dU,dV,dW,dX,dY,dZ,k0,k1,k2,k3,k4,k5,k6,k7,k8,k9,kA,kB,kC,kD,kE,kF,kG,kH,kI,kJ,kK,kL,kM,kN,kO,kP,kQ,kR,kS,kT,kU,kV] w R
def qq92.j3 (yg4 yg6:Nat) (d0 d1 d2 d3 d5 d7 d8 d9 dA dB dC dD dE dF dG dH dI dJ dK dL dM dN dO dP dQ dR dS dT dU dV dW dX dY dZ k0 k1 k2 k3 k4 k5 k6 k7 k8 k9 kA kB kC kD kE kF kG kH kI kJ kK kL kM kN kO kP kQ kR kS kT kU kV:V) (w:W) (R:E):Prop:=
 seg Tryz.prog entE qq92.ords qq92.joins Tryz.f57 [1,1,1,1] [1,1,1,1] [] [d0,d1,d2,d3,P (some ⟨yg4,0,N⟩),d5,P (some ⟨yg6,0,N⟩),d7,d8,d9,dA,dB,dC,dD,dE,dF,dG,dH,dI,dJ,dK,dL,dM,dN,dO,dP,dQ,dR,dS,dT,dU,dV,dW,dX,dY,dZ,k0,k1,k2,k3,k4,k5,k6,k7,k8,k9,kA,kB,kC,kD,kE,kF,kG,kH,kI,kJ,kK,kL,kM,kN,kO,kP,kQ,kR,kS,kT,kU,kV] w R
def qq92.j4 (Y1:Option Addr) (yn1 yc1 yg4 yg6:Nat) (y39:Bool) (d0 d2 d3 d5 d7 d8 d9 dA dB dC dD dE dF dG dH dI dJ dK dL dM dN dO dP dQ dR dS dT dU dV dW dX dY dZ k0 k1 k2 k4 k5 k6 k7 k8 k9 kA kB kC kD kE kF kG kH kI kJ kK kL kM kN kO kP kQ kR kS kT kU kV:V) (w:W) (R:E):Prop:=
 seg Tryz.prog entE qq92.ords qq92.joins Tryz.f57 [1,1,1,0,0,1,1,1] [1,1,1,0,0,1,1,1] [] [d0,S Y1 yn1 yc1,d2,d3,P (some ⟨yg4,0,N⟩),d5,P (some ⟨yg6,0,N⟩),d7,d8,d9,dA,dB,dC,dD,dE,dF,dG,dH,dI,dJ,dK,dL,dM,dN,dO,dP,dQ,dR,dS,dT,dU,dV,dW,dX,dY,dZ,k0,k1,k2,T y39,k4,k5,k6,k7,k8,k9,kA,kB,kC,kD,kE,kF,kG,kH,kI,kJ,kK,kL,kM,kN,kO,kP,kQ,kR,kS,kT,kU,kV] w R
abbrev qq92.J1 (Y1:Option Addr) (yn1 yc1 yg2 yg4:Nat) (w:W) (R:E):Prop:=∀ d0 d3 d5 d6 d7 d8 d9 dA dB dC dD dE dF dG dH dI dJ dK dL dM dN dO dP dQ dR dS dT dU dV dW dX dY dZ k0 k1 k2 k3 k4 k5 k6 k7 k8 k9 kA kB kC kD kE kF kG kH kI kJ kK kL kM kN kO kP kQ kR kS kT kU kV,qq92.j1 Y1 yn1 yc1 yg2 yg4 d0 d3 d5 d6 d7 d8 d9 dA dB dC dD dE dF dG dH dI dJ dK dL dM dN dO dP dQ dR dS dT dU dV dW dX dY dZ k0 k1 k2 k3 k4 k5 k6 k7 k8 k9 kA kB kC kD kE kF kG kH kI kJ kK kL kM kN kO kP kQ kR kS kT kU kV w R
abbrev qq92.J2 (Y1:Option Addr) (yn1 yc1 yg2 yg4 yg6:Nat) (y24:Bool) (w:W) (R:E):Prop:=∀ d0 d3 d5 d7 d8 d9 dA dB dC dD dE dF dG dH dI dJ dK dL dM dN dP dQ dR dS dT dU dV dW dX dY dZ k0 k1 k2 k3 k4 k5 k6 k7 k8 k9 kA kB kC kD kE kF kG kH kI kJ kK kL kM kN kO kP kQ kR kS kT kU kV,qq92.j2 Y1 yn1 yc1 yg2 yg4 yg6 y24 d0 d3 d5 d7 d8 d9 dA dB dC dD dE dF dG dH dI dJ dK dL dM dN dP dQ dR dS dT dU dV dW dX dY dZ k0 k1 k2 k3 k4 k5 k6 k7 k8 k9 kA kB kC kD kE kF kG kH kI kJ kK kL kM kN kO kP kQ kR kS kT kU kV w R
abbrev qq92.J3 (yg4 yg6:Nat) (w:W) (R:E):Prop:=∀ d0 d1 d2 d3 d5 d7 d8 d9 dA dB dC dD dE dF dG dH dI dJ dK dL dM dN dO dP dQ dR dS dT dU dV dW dX dY dZ k0 k1 k2 k3 k4 k5 k6 k7 k8 k9 kA kB kC kD kE kF kG kH kI kJ kK kL kM kN kO kP kQ kR kS kT kU kV,qq92.j3 yg4 yg6 d0 d1 d2 d3 d5 d7 d8 d9 dA dB dC dD dE dF dG dH dI dJ dK dL dM dN dO dP dQ dR dS dT dU dV dW dX dY dZ k0 k1 k2 k3 k4 k5 k6 k7 k8 k9 kA kB kC kD kE kF kG kH kI kJ kK kL kM kN kO kP kQ kR kS kT kU kV w R
abbrev qq92.J4 (Y1:Option Addr) (yn1 yc1 yg4 yg6:Nat) (y39:Bool) (w:W) (R:E):Prop:=∀ d0 d2 d3 d5 d7 d8 d9 dA dB dC dD dE dF dG dH dI dJ dK dL dM dN dO dP dQ dR dS dT dU dV dW dX dY dZ k0 k1 k2 k4 k5 k6 k7 k8 k9 kA kB kC kD kE kF kG kH kI kJ kK kL kM kN kO kP kQ kR kS kT kU kV,qq92.j4 Y1 yn1 yc1 yg4 yg6 y39 d0 d2 d3 d5 d7 d8 d9 dA dB dC dD dE dF dG dH dI dJ dK dL dM dN dO dP dQ dR dS dT dU dV dW dX dY dZ k0 k1 k2 k4 k5 k6 k7 k8 k9 kA kB kC kD kE kF kG kH kI kJ kK kL kM kN kO kP kQ kR kS kT kU kV w R
theorem qq92.j1_eq:qq92.j1 Y1 yn1 yc1 yg2 yg4 d0 d3 d5 d6 d7 d8 d9 dA dB dC dD dE dF dG dH dI dJ dK dL dM dN dO dP dQ dR dS dT dU dV dW dX dY dZ k0 k1 k2 k3 k4 k5 k6 k7 k8 k9 kA kB kC kD kE kF kG kH kI kJ kK kL kM kN kO kP kQ kR kS kT kU kV w R =
(∃ x1:Int,w.cell? ⟨yg2,7,N⟩=some (I D x1)∧
(∃ x2:Int,w.cell? ⟨yg2,8,N⟩=some (I D x2)∧
(∃ x3:Int,w.cell? ⟨yg2,6,N⟩=some (I B x3)∧
(Let (w.heap.size) fun g4:Nat=>
 Let (w.alloc (.cells #[I D 0,I D 0,I B 0,I H 0,I H 0] 39)) fun w5:W=>
 May w5 ⟨g4,0,N⟩ 5∧
(Let (putCells w5 ⟨g4,0,N⟩ [I D x1,I D x2,I B x3,I H 0,I H 0] 0) fun w6:W=>
 ∃ x7:Int,w6.cell? ⟨yg2,6,N⟩=some (I B x7)∧
((if (x7 == 6)=true then
(Leaf (qq92.j2 Y1 yn1 yc1 yg2 yg4 g4 true d0 d3 d5 d7 d8 d9 dA dB dC dD dE dF (P (some ⟨yg2,7,N⟩)) (I D x1) (P (some ⟨yg2,8,N⟩)) (I D x2) (P (some ⟨yg2,6,N⟩)) (I B x3) (G #[I D x1,I D x2,I B x3,I H 0,I H 0]) dN (P (some ⟨yg2,6,N⟩)) (I B x7) (T (x7 == 6)) (T true) U U U (T true) dX dY dZ k0 k1 k2 k3 k4 k5 k6 k7 k8 k9 kA kB kC kD kE kF kG kH kI kJ kK kL kM kN kO kP kQ kR kS kT kU kV w6 R))
else
(∃ x8:Int,w6.cell? ⟨yg2,6,N⟩=some (I B x8)∧
(Leaf (qq92.j2 Y1 yn1 yc1 yg2 yg4 g4 (x8 == 17) d0 d3 d5 d7 d8 d9 dA dB dC dD dE dF (P (some ⟨yg2,7,N⟩)) (I D x1) (P (some ⟨yg2,8,N⟩)) (I D x2) (P (some ⟨yg2,6,N⟩)) (I B x3) (G #[I D x1,I D x2,I B x3,I H 0,I H 0]) dN (P (some ⟨yg2,6,N⟩)) (I B x7) (T (x7 == 6)) (T false) (P (some ⟨yg2,6,N⟩)) (I B x8) (T (x8 == 17)) (T (x8 == 17)) dX dY dZ k0 k1 k2 k3 k4 k5 k6 k7 k8 k9 kA kB kC kD kE kF kG kH kI kJ kK kL kM kN kO kP kQ kR kS kT kU kV w6 R)))))))))):=by kernel_rfl
theorem qq92.j2_eq:qq92.j2 Y1 yn1 yc1 yg2 yg4 yg6 y24 d0 d3 d5 d7 d8 d9 dA dB dC dD dE dF dG dH dI dJ dK dL dM dN dP dQ dR dS dT dU dV dW dX dY dZ k0 k1 k2 k3 k4 k5 k6 k7 k8 k9 kA kB kC kD kE kF kG kH kI kJ kK kL kM kN kO kP kQ kR kS kT kU kV w R =
((if y24=true then
(Calls Tryz.prog 72 #[S Y1 yn1 yc1,I L 0] w (fun (e2:Ending) (w1:W)=>
 ∃ x3:Int,e2=.returned (I H x3)∧
(Calls Tryz.prog 72 #[S Y1 yn1 yc1,I L 2] w1 (fun (e5:Ending) (w4:W)=>
 ∃ x6:Int,e5=.returned (I H x6)∧
(MayC w4 ⟨yg6,3,N⟩∧
(Let (w4.setCell ⟨yg6,3,N⟩ (I H x3)) fun w7:W=>
 MayC w7 ⟨yg6,4,N⟩∧
(Let (w7.setCell ⟨yg6,4,N⟩ (I H x6)) fun w8:W=>
 Leaf (qq92.j3 yg4 yg6 d0 (S Y1 yn1 yc1) (P (some ⟨yg2,0,N⟩)) d3 d5 d7 d8 d9 dA dB dC dD dE dF dG dH dI dJ dK dL dM dN (T y24) dP dQ dR dS dT dU dV dW (S Y1 yn1 yc1) (I H x3) (S Y1 yn1 yc1) (I H x6) (P (some ⟨yg6,3,N⟩)) (P (some ⟨yg6,4,N⟩)) k3 k4 k5 k6 k7 k8 k9 kA kB kC kD kE kF kG kH kI kJ kK kL kM kN kO kP kQ kR kS kT kU kV w8 R))))))))
else
(∃ x9:Int,w.cell? ⟨yg2,6,N⟩=some (I B x9)∧
((if (x9 == 1)=true then
(∃ a10:Addr,Y1=some a10∧(0≤(0:Int)∧(0:Int) < (yn1:Int))∧
(∃ x11:Int,w.cell? a10=some (I B x11)∧
((if (x11 == 8)=true then
(∃ a12:Addr,Y1=some a12∧(0≤(1:Int)∧(1:Int) < (yn1:Int))∧
(∃ x13:Int,w.cell? (a12.add 1)=some (I B x13)∧
(Leaf (qq92.j4 Y1 yn1 yc1 yg4 yg6 (x13 == 0) d0 (P (some ⟨yg2,0,N⟩)) d3 d5 d7 d8 d9 dA dB dC dD dE dF dG dH dI dJ dK dL dM dN (T y24) dP dQ dR dS dT dU dV dW dX dY dZ k0 k1 k2 (P (some ⟨yg2,6,N⟩)) (I B x9) (T (x9 == 1)) (T true) (S Y1 yn1 yc1) (P (some a10)) (I B x11) (T (x11 == 8)) (T true) U U U U (T true) (T true) (T true) (S Y1 yn1 yc1) (P (some (a12.add 1))) (I B x13) (T (x13 == 0)) (T (x13 == 0)) kP kQ kR kS kT kU kV w R))))
else
(∃ a14:Addr,Y1=some a14∧(0≤(0:Int)∧(0:Int) < (yn1:Int))∧
(∃ x15:Int,w.cell? a14=some (I B x15)∧
((if (x15 == 0)=true then
(∃ a16:Addr,Y1=some a16∧(0≤(1:Int)∧(1:Int) < (yn1:Int))∧
(∃ x17:Int,w.cell? (a16.add 1)=some (I B x17)∧
(Leaf (qq92.j4 Y1 yn1 yc1 yg4 yg6 (x17 == 0) d0 (P (some ⟨yg2,0,N⟩)) d3 d5 d7 d8 d9 dA dB dC dD dE dF dG dH dI dJ dK dL dM dN (T y24) dP dQ dR dS dT dU dV dW dX dY dZ k0 k1 k2 (P (some ⟨yg2,6,N⟩)) (I B x9) (T (x9 == 1)) (T true) (S Y1 yn1 yc1) (P (some a10)) (I B x11) (T (x11 == 8)) (T false) (S Y1 yn1 yc1) (P (some a14)) (I B x15) (T (x15 == 0)) (T (x15 == 0)) (T (x15 == 0)) (T true) (S Y1 yn1 yc1) (P (some (a16.add 1))) (I B x17) (T (x17 == 0)) (T (x17 == 0)) kP kQ kR kS kT kU kV w R))))
else
(Leaf (qq92.j4 Y1 yn1 yc1 yg4 yg6 false d0 (P (some ⟨yg2,0,N⟩)) d3 d5 d7 d8 d9 dA dB dC dD dE dF dG dH dI dJ dK dL dM dN (T y24) dP dQ dR dS dT dU dV dW dX dY dZ k0 k1 k2 (P (some ⟨yg2,6,N⟩)) (I B x9) (T (x9 == 1)) (T true) (S Y1 yn1 yc1) (P (some a10)) (I B x11) (T (x11 == 8)) (T false) (S Y1 yn1 yc1) (P (some a14)) (I B x15) (T (x15 == 0)) (T (x15 == 0)) (T (x15 == 0)) (T false) U U U U (T false) kP kQ kR kS kT kU kV w R))))))))))
else
(Leaf (qq92.j4 Y1 yn1 yc1 yg4 yg6 false d0 (P (some ⟨yg2,0,N⟩)) d3 d5 d7 d8 d9 dA dB dC dD dE dF dG dH dI dJ dK dL dM dN (T y24) dP dQ dR dS dT dU dV dW dX dY dZ k0 k1 k2 (P (some ⟨yg2,6,N⟩)) (I B x9) (T (x9 == 1)) (T false) U U U U U U U U U U (T false) (T false) U U U U (T false) kP kQ kR kS kT kU kV w R))))))):=by kernel_rfl
theorem qq92.j3_eq:qq92.j3 yg4 yg6 d0 d1 d2 d3 d5 d7 d8 d9 dA dB dC dD dE dF dG dH dI dJ dK dL dM dN dO dP dQ dR dS dT dU dV dW dX dY dZ k0 k1 k2 k3 k4 k5 k6 k7 k8 k9 kA kB kC kD kE kF kG kH kI kJ kK kL kM kN kO kP kQ kR kS kT kU kV w R =
(∃ x1 x2 x3 x4 x5:Int,(5=5∧At w ⟨yg6,0,N⟩ [I D x1,I D x2,I B x3,I H x4,I H x5])∧
(May w ⟨yg4,0,N⟩ 5∧
(Let (putCells w ⟨yg4,0,N⟩ [I D x1,I D x2,I B x3,I H x4,I H x5] 0) fun w6:W=>
 ∃ x7 x8 x9 x10 x11:Int,(5=5∧At w6 ⟨yg4,0,N⟩ [I D x7,I D x8,I B x9,I H x10,I H x11])∧
(R (.returned (.tuple #[G #[I D x7,I D x8,I B x9,I H x10,I H x11],T true])) w6)))):=by kernel_rfl
theorem qq92.j4_eq:qq92.j4 Y1 yn1 yc1 yg4 yg6 y39 d0 d2 d3 d5 d7 d8 d9 dA dB dC dD dE dF dG dH dI dJ dK dL dM dN dO dP dQ dR dS dT dU dV dW dX dY dZ k0 k1 k2 k4 k5 k6 k7 k8 k9 kA kB kC kD kE kF kG kH kI kJ kK kL kM kN kO kP kQ kR kS kT kU kV w R =
((if y39=true then
(Calls Tryz.prog 72 #[S Y1 yn1 yc1,I L 4] w (fun (e2:Ending) (w1:W)=>
 ∃ x3:Int,e2=.returned (I H x3)∧
(MayC w1 ⟨yg6,3,N⟩∧
(Let (w1.setCell ⟨yg6,3,N⟩ (I H x3)) fun w4:W=>
 ∃ x5:Int,w4.cell? ⟨yg6,3,N⟩=some (I H x5)∧
(MayC w4 ⟨yg6,4,N⟩∧
(Let (w4.setCell ⟨yg6,4,N⟩ (I H x5)) fun w6:W=>
 Leaf (qq92.j3 yg4 yg6 d0 (S Y1 yn1 yc1) d2 d3 d5 d7 d8 d9 dA dB dC dD dE dF dG dH dI dJ dK dL dM dN dO dP dQ dR dS dT dU dV dW dX dY dZ k0 k1 k2 (T y39) k4 k5 k6 k7 k8 k9 kA kB kC kD kE kF kG kH kI kJ kK kL kM kN kO (S Y1 yn1 yc1) (I H x3) (P (some ⟨yg6,3,N⟩)) (P (some ⟨yg6,3,N⟩)) (I H x5) (P (some ⟨yg6,4,N⟩)) kV w6 R)))))))
else
(May w ⟨yg4,0,N⟩ 5∧
(Let (putCells w ⟨yg4,0,N⟩ [I D 0,I D 0,I B 0,I H 0,I H 0] 0) fun w7:W=>
 ∃ x8 x9 x10 x11 x12:Int,(5=5∧At w7 ⟨yg4,0,N⟩ [I D x8,I D x9,I B x10,I H x11,I H x12])∧
(R (.returned (.tuple #[G #[I D x8,I D x9,I B x10,I H x11,I H x12],T false])) w7))))):=by kernel_rfl
def qq92.s (i0_0 i0_1:Int) (i0_2 i0_3:Bool) (i0_4 i0_5 i0_6 i0_7 i0_8:Int) (I0_9:Option Addr) (in0_9 ic0_9:Nat) (I1:Option Addr) (in1 ic1:Nat) (w:W) (R:E):Prop:=
(Let (w.heap.size) fun g1:Nat=>
 Let (w.alloc (.cells #[I B i0_0,I H i0_1,T i0_2,T i0_3,I L i0_4,I B i0_5,I B i0_6,I D i0_7,I D i0_8,S I0_9 in0_9 ic0_9] 35)) fun w2:W=>
 Let (w2.heap.size) fun g3:Nat=>
 Let (w2.alloc (.cells #[I D 0,I D 0,I B 0,I H 0,I H 0] 39)) fun w4:W=>
 ∃ x5:Int,w4.cell? ⟨g1,4,N⟩=some (I L x5)∧
((if (x5 != 0)=true then
(May w4 ⟨g3,0,N⟩ 5∧
(Let (putCells w4 ⟨g3,0,N⟩ [I D 0,I D 0,I B 0,I H 0,I H 0] 0) fun w6:W=>
 ∃ x7 x8 x9 x10 x11:Int,(5=5∧At w6 ⟨g3,0,N⟩ [I D x7,I D x8,I B x9,I H x10,I H x11])∧
(R (.returned (.tuple #[G #[I D x7,I D x8,I B x9,I H x10,I H x11],T false])) w6)))
else
((if decide ((in1:Int) < 8)=true then
(May w4 ⟨g3,0,N⟩ 5∧
(Let (putCells w4 ⟨g3,0,N⟩ [I D 0,I D 0,I B 0,I H 0,I H 0] 0) fun w12:W=>
 ∃ x13 x14 x15 x16 x17:Int,(5=5∧At w12 ⟨g3,0,N⟩ [I D x13,I D x14,I B x15,I H x16,I H x17])∧
(R (.returned (.tuple #[G #[I D x13,I D x14,I B x15,I H x16,I H x17],T false])) w12)))
else
(Leaf (qq92.j1 I1 in1 ic1 g1 g3 (G #[I B i0_0,I H i0_1,T i0_2,T i0_3,I L i0_4,I B i0_5,I B i0_6,I D i0_7,I D i0_8,S I0_9 in0_9 ic0_9]) U (T false) U (P (some ⟨g1,4,N⟩)) (I L x5) (T (x5 != 0)) (T false) (S I1 in1 ic1) (I L (in1:Int)) (T (decide ((in1:Int) < 8))) (T (decide ((in1:Int) < 8))) U U U U U U U U U U U U U U U U U U U U U U U U U U U U U U U U U U U U U U U U U U U U U U U U U U U U U w4 R)))))))
theorem qq92.run (h:qq92.s i0_0 i0_1 i0_2 i0_3 i0_4 i0_5 i0_6 i0_7 i0_8 I0_9 in0_9 ic0_9 I1 in1 ic1 w R):Calls Tryz.prog 57 #[G #[I B i0_0,I H i0_1,T i0_2,T i0_3,I L i0_4,I B i0_5,I B i0_6,I D i0_7,I D i0_8,S I0_9 in0_9 ic0_9],S I1 in1 ic1] w R:=
 calls_segk (ords:=qq92.ords) (J:=qq92.joins) ents mixed Tryz.func57 rfl h (by kernel_rfl)
def qq108.ords:Nat→Od
 | _=>.nil
def qq108.joins (p:List Nat):Bool:=false
def qq108.s (i0:Int) (w:W) (R:E):Prop:=
((if (i0 == 3)=true then
(R (.returned (T true)) w)
else
((if (i0 == 11)=true then
(R (.returned (T true)) w)
else
(R (.returned (T (i0 == 12))) w)))))
theorem qq108.run (h:qq108.s i0 w R):Calls Tryz.prog 58 #[I B i0] w R:=
 calls_segk (ords:=qq108.ords) (J:=qq108.joins) ents mixed Tryz.func58 rfl h (by kernel_rfl)
def qq60.ords:Nat→Od
 | 14=>(.tk 0 (.tk 1 (.tk 2 (.tk 3 (.tk 4 (.tk 5 (.on 6 (.on 7 (.on 8 .nil)))))))))
 | 15=>(.tk 0 (.tk 1 (.tk 2 (.tk 3 (.tk 4 (.tk 5 (.tk 6 (.tk 7 (.tk 8 (.tk 9 (.tk 10 (.on 11 .nil))))))))))))
 | _=>.nil
def qq60.joins (p:List Nat):Bool:=p == [1,1,1,1,1,1,1]
def qq60.j1 (y1 y2:Int) (yg4 yg7 yg8 yg10:Nat) (Y11:Option Addr) (yn11 yc11 yg13 yg14:Nat) (d0 d3 d5 d6 d9 dC dF dG dH dI dJ dK dL dM dN dO dP dQ dR dS dT dU dV dW dX dY dZ k0 k1 k2 k3 k4 k5 k6 k7 k8 k9 kA kB kC kD kE kF kG kH kI kJ kK kL kM kN kO kP kQ kR kS kT kU kV kW kX kY kZ v0 v1 v2 v3 v4 v5 v6 v7 v8 v9 vA vB vC vD vE vF vG vH vI vJ vK vL vM vN vO vP vQ vR vS vT vU vV vW vX vY vZ o0 o1 o2 o3 o4 o5 o6 o7 o8 o9 oA oB oC oD oE oF oG oH oI oJ oK oL oM oN oO oP oQ:V) (w:W) (R:E):Prop:=
 seg Tryz.prog entE qq60.ords qq60.joins Tryz.f31 [1,1,1,1,1,1,1] [1,1,1,1,1,1,1] [] [d0,I D y1,I D y2,d3,P (some ⟨yg4,0,N⟩),d5,d6,P (some ⟨yg7,0,N⟩),P (some ⟨yg8,0,N⟩),d9,P (some ⟨yg10,0,N⟩),S Y11 yn11 yc11,dC,P (some ⟨yg13,0,N⟩),P (some ⟨yg14,0,N⟩),dF,dG,dH,dI,dJ,dK,dL,dM,dN,dO,dP,dQ,dR,dS,dT,dU,dV,dW,dX,dY,dZ,k0,k1,k2,k3,k4,k5,k6,k7,k8,k9,kA,kB,kC,kD,kE,kF,kG,kH,kI,kJ,kK,kL,kM,kN,kO,kP,kQ,kR,kS,kT,kU,kV,kW,kX,kY,kZ,v0,v1,v2,v3,v4,v5,v6,v7,v8,v9,vA,vB,vC,vD,vE,vF,vG,vH,vI,vJ,vK,vL,vM,vN,vO,vP,vQ,vR,vS,vT,vU,vV,vW,vX,vY,vZ,o0,o1,o2,o3,o4,o5,o6,o7,o8,o9,oA,oB,oC,oD,oE,oF,oG,oH,oI,oJ,oK,oL,oM,oN,oO,oP,oQ] w R
abbrev qq60.J1 (y1 y2:Int) (yg4 yg7 yg8 yg10:Nat) (Y11:Option Addr) (yn11 yc11 yg13 yg14:Nat) (w:W) (R:E):Prop:=∀ d0 d3 d5 d6 d9 dC dF dG dH dI dJ dK dL dM dN dO dP dQ dR dS dT dU dV dW dX dY dZ k0 k1 k2 k3 k4 k5 k6 k7 k8 k9 kA kB kC kD kE kF kG kH kI kJ kK kL kM kN kO kP kQ kR kS kT kU kV kW kX kY kZ v0 v1 v2 v3 v4 v5 v6 v7 v8 v9 vA vB vC vD vE vF vG vH vI vJ vK vL vM vN vO vP vQ vR vS vT vU vV vW vX vY vZ o0 o1 o2 o3 o4 o5 o6 o7 o8 o9 oA oB oC oD oE oF oG oH oI oJ oK oL oM oN oO oP oQ,qq60.j1 y1 y2 yg4 yg7 yg8 yg10 Y11 yn11 yc11 yg13 yg14 d0 d3 d5 d6 d9 dC dF dG dH dI dJ dK dL dM dN dO dP dQ dR dS dT dU dV dW dX dY dZ k0 k1 k2 k3 k4 k5 k6 k7 k8 k9 kA kB kC kD kE kF kG kH kI kJ kK kL kM kN kO kP kQ kR kS kT kU kV kW kX kY kZ v0 v1 v2 v3 v4 v5 v6 v7 v8 v9 vA vB vC vD vE vF vG vH vI vJ vK vL vM vN vO vP vQ vR vS vT vU vV vW vX vY vZ o0 o1 o2 o3 o4 o5 o6 o7 o8 o9 oA oB oC oD oE oF oG oH oI oJ oK oL oM oN oO oP oQ w R
theorem qq60.j1_eq:qq60.j1 y1 y2 yg4 yg7 yg8 yg10 Y11 yn11 yc11 yg13 yg14 d0 d3 d5 d6 d9 dC dF dG dH dI dJ dK dL dM dN dO dP dQ dR dS dT dU dV dW dX dY dZ k0 k1 k2 k3 k4 k5 k6 k7 k8 k9 kA kB kC kD kE kF kG kH kI kJ kK kL kM kN kO kP kQ kR kS kT kU kV kW kX kY kZ v0 v1 v2 v3 v4 v5 v6 v7 v8 v9 vA vB vC vD vE vF vG vH vI vJ vK vL vM vN vO vP vQ vR vS vT vU vV vW vX vY vZ o0 o1 o2 o3 o4 o5 o6 o7 o8 o9 oA oB oC oD oE oF oG oH oI oJ oK oL oM oN oO oP oQ w R =
(∃ (A1:Option Addr) (n1_ c1_:Nat),w.cell? ⟨yg13,3,N⟩=some (S A1 n1_ c1_)∧
(∃ (A2:Option Addr) (n2_ c2_:Nat),w.cell? ⟨yg10,9,N⟩=some (S A2 n2_ c2_)∧
(Let (L.wrap (20+(n2_:Int))) fun x3:Int=>
 ∃ x4:Int,w.cell? ⟨yg7,0,N⟩=some (I D x4)∧
(Calls Tryz.prog 59 #[S A1 n1_ c1_,I L 12,I D x4] w (fun (e6:Ending) (w5:W)=>
 e6=.returned (.tuple #[])∧
(∃ x7:Int,w5.cell? ⟨yg7,1,N⟩=some (I D x7)∧
(Calls Tryz.prog 59 #[S A1 n1_ c1_,I L 16,I D x7] w5 (fun (e9:Ending) (w8:W)=>
 e9=.returned (.tuple #[])∧
(∃ S10:W→Prop,S10 w8.drew∧
(Let (w8.drew) fun w11:W=>
(0≤(10:Int)∧(10:Int)≤(c1_:Int))∧
((0≤x3∧x3≤(c1_:Int))∧
(0≤(12:Int)∧(12:Int)≤(x3.toNat:Int))∧
(Let (w11.heap.size) fun g12:Nat=>
 Let (w11.alloc (.cells #[S A1 10 c1_,S (cutA A1 12 c1_ 1) (x3.toNat-12) (c1_-12)] 33)) fun w13:W=>
 S10 w13∧
(Calls Tryz.prog 61 #[S (some ⟨g12,0,N⟩) 2 2] w13 (fun (e15:Ending) (w14:W)=>
 ∃ x16:Int,e15=.returned (I H x16)∧
(S10 w14∧
(Calls Tryz.prog 60 #[S A1 n1_ c1_,I L 10,I H x16] w14 (fun (e18:Ending) (w17:W)=>
 e18=.returned (.tuple #[])∧
(S10 w17∧
(∃ S19:W→Prop,S19 w17.drew∧
(Let (w17.drew) fun w20:W=>
 Let (L.wrap (x3+(yn11:Int))) fun x21:Int=>
(0≤x21∧x21≤(c1_:Int))∧
(0≤x3∧x3≤(x21.toNat:Int))∧
(∃ x22:Int,(∀ w',S19 w'→w'.cell? ⟨yg14,2,N⟩=some (I B x22))∧
(∃ x23 x24 x25 x26 x27:Int,(5=5∧(∀ w',S19 w'→At w' ⟨yg14,0,N⟩ [I D x23,I D x24,I B x25,I H x26,I H x27]))∧
(∃ x28 x29 x30 x31 x32:Int,(5=5∧(∀ w',S19 w'→At w' ⟨yg7,0,N⟩ [I D x28,I D x29,I B x30,I H x31,I H x32]))∧
(Calls Tryz.prog 37 #[S (cutA A1 x3.toNat c1_ 1) (x21.toNat-x3.toNat) (c1_-x3.toNat),I B x22,G #[I D x23,I D x24,I B x25,I H x26,I H x27],G #[I D x28,I D x29,I B x30,I H x31,I H x32],T false] w20 (fun (e34:Ending) (w33:W)=>
 e34=.returned (.tuple #[])∧
(S19 w33∧
(∃ x35 x36 x37:Int,∃ (A38:Option Addr) (n38_ c38_:Nat),(4=4∧At w33 ⟨yg13,0,N⟩ [I B x35,I B x36,I D x37,S A38 n38_ c38_])∧
(Calls Tryz.prog 62 #[G #[I B x35,I B x36,I D x37,S A38 n38_ c38_]] w33 (fun (e40:Ending) (w39:W)=>
 ∃ (A41:Option Addr) (n41_ c41_:Nat),∃ x42:Int,e40=.returned (.tuple #[S A41 n41_ c41_,I L x42])∧
((if (x42 != 0)=true then
(May w39 ⟨yg8,0,N⟩ 11∧
(Let (putCells w39 ⟨yg8,0,N⟩ [I B 0,I H 0,T false,T false,I L 0,I B 0,I B 0,I D 0,I D 0,S N 0 0,S N 0 0] 0) fun w43:W=>
 ∃ x44 x45:Int,∃ b46 b47:Bool,∃ x48 x49 x50 x51 x52:Int,∃ (A53:Option Addr) (n53_ c53_:Nat),∃ (A54:Option Addr) (n54_ c54_:Nat),(11=11∧At w43 ⟨yg8,0,N⟩ [I B x44,I H x45,T b46,T b47,I L x48,I B x49,I B x50,I D x51,I D x52,S A53 n53_ c53_,S A54 n54_ c54_])∧
(R (.returned (.tuple #[G #[I B x44,I H x45,T b46,T b47,I L x48,I B x49,I B x50,I D x51,I D x52,S A53 n53_ c53_,S A54 n54_ c54_],I L x42])) w43)))
else
(∃ x55 x56:Int,∃ b57 b58:Bool,∃ x59 x60 x61 x62 x63:Int,∃ (A64:Option Addr) (n64_ c64_:Nat),(10=10∧At w39 ⟨yg4,0,N⟩ [I B x55,I H x56,T b57,T b58,I L x59,I B x60,I B x61,I D x62,I D x63,S A64 n64_ c64_])∧
(Let (w39.heap.size) fun g65:Nat=>
 Let (w39.alloc (.cells #[I B 0,I H 0,T false,T false,I L 0,I B 0,I B 0,I D 0,I D 0,S N 0 0,S N 0 0] 37)) fun w66:W=>
 May w66 ⟨g65,0,N⟩ 11∧
(Let (putCells w66 ⟨g65,0,N⟩ [I B x55,I H x56,T b57,T b58,I L x59,I B x60,I B x61,I D x62,I D x63,S A64 n64_ c64_,S A41 n41_ c41_] 0) fun w67:W=>
 ∃ (A68:Option Addr) (n68_ c68_:Nat),w67.cell? ⟨yg4,9,N⟩=some (S A68 n68_ c68_)∧
(Calls Tryz.prog 36 #[S A68 n68_ c68_] w67 (fun (e70:Ending) (w69:W)=>
 ∃ (A71:Option Addr) (n71_ c71_:Nat),e70=.returned (S A71 n71_ c71_)∧
(MayC w69 ⟨g65,9,N⟩∧
(Let (w69.setCell ⟨g65,9,N⟩ (S A71 n71_ c71_)) fun w72:W=>
 MayC w72 ⟨g65,7,N⟩∧
(Let (w72.setCell ⟨g65,7,N⟩ (I D y1)) fun w73:W=>
 MayC w73 ⟨g65,8,N⟩∧
(Let (w73.setCell ⟨g65,8,N⟩ (I D y2)) fun w74:W=>
 ∃ x75 x76:Int,∃ b77 b78:Bool,∃ x79 x80 x81 x82 x83:Int,∃ (A84:Option Addr) (n84_ c84_:Nat),∃ (A85:Option Addr) (n85_ c85_:Nat),(11=11∧At w74 ⟨g65,0,N⟩ [I B x75,I H x76,T b77,T b78,I L x79,I B x80,I B x81,I D x82,I D x83,S A84 n84_ c84_,S A85 n85_ c85_])∧
(May w74 ⟨yg8,0,N⟩ 11∧
(Let (putCells w74 ⟨yg8,0,N⟩ [I B x75,I H x76,T b77,T b78,I L x79,I B x80,I B x81,I D x82,I D x83,S A84 n84_ c84_,S A85 n85_ c85_] 0) fun w86:W=>
 ∃ x87 x88:Int,∃ b89 b90:Bool,∃ x91 x92 x93 x94 x95:Int,∃ (A96:Option Addr) (n96_ c96_:Nat),∃ (A97:Option Addr) (n97_ c97_:Nat),(11=11∧At w86 ⟨yg8,0,N⟩ [I B x87,I H x88,T b89,T b90,I L x91,I B x92,I B x93,I D x94,I D x95,S A96 n96_ c96_,S A97 n97_ c97_])∧
(R (.returned (.tuple #[G #[I B x87,I H x88,T b89,T b90,I L x91,I B x92,I B x93,I D x94,I D x95,S A96 n96_ c96_,S A97 n97_ c97_],I L 0])) w86))))))))))))))))))))))))))))))))))))))))))):=by kernel_rfl
def qq60.s (i0_0 i0_1:Int) (i0_2 i0_3:Bool) (i0_4 i0_5 i0_6 i0_7 i0_8:Int) (I0_9:Option Addr) (in0_9 ic0_9:Nat) (I0_10:Option Addr) (in0_10 ic0_10:Nat) (i1 i2 i3_0 i3_1 i3_2 i3_3 i3_4:Int) (w:W) (R:E):Prop:=
(Let (w.heap.size) fun g1:Nat=>
 Let (w.alloc (.cells #[I B i0_0,I H i0_1,T i0_2,T i0_3,I L i0_4,I B i0_5,I B i0_6,I D i0_7,I D i0_8,S I0_9 in0_9 ic0_9,S I0_10 in0_10 ic0_10] 37)) fun w2:W=>
 Let (w2.heap.size) fun g3:Nat=>
 Let (w2.alloc (.cells #[I D i3_0,I D i3_1,I B i3_2,I H i3_3,I H i3_4] 39)) fun w4:W=>
 Let (w4.heap.size) fun g5:Nat=>
 Let (w4.alloc (.cells #[I B 0,I H 0,T false,T false,I L 0,I B 0,I B 0,I D 0,I D 0,S N 0 0,S N 0 0] 37)) fun w6:W=>
 ∃ x7 x8:Int,∃ b9 b10:Bool,∃ x11 x12 x13 x14 x15:Int,∃ (A16:Option Addr) (n16_ c16_:Nat),∃ (A17:Option Addr) (n17_ c17_:Nat),(11=11∧At w6 ⟨g1,0,N⟩ [I B x7,I H x8,T b9,T b10,I L x11,I B x12,I B x13,I D x14,I D x15,S A16 n16_ c16_,S A17 n17_ c17_])∧
(Calls Tryz.prog 55 #[G #[I B x7,I H x8,T b9,T b10,I L x11,I B x12,I B x13,I D x14,I D x15,S A16 n16_ c16_,S A17 n17_ c17_]] w6 (fun (e19:Ending) (w18:W)=>
 ∃ x20 x21:Int,∃ b22 b23:Bool,∃ x24 x25 x26 x27 x28:Int,∃ (A29:Option Addr) (n29_ c29_:Nat),∃ (A30:Option Addr) (n30_ c30_:Nat),∃ x31:Int,e19=.returned (.tuple #[G #[I B x20,I H x21,T b22,T b23,I L x24,I B x25,I B x26,I D x27,I D x28,S A29 n29_ c29_],S A30 n30_ c30_,I L x31])∧
(Let (w18.heap.size) fun g32:Nat=>
 Let (w18.alloc (.cells #[I B 0,I H 0,T false,T false,I L 0,I B 0,I B 0,I D 0,I D 0,S N 0 0] 35)) fun w33:W=>
 May w33 ⟨g32,0,N⟩ 10∧
(Let (putCells w33 ⟨g32,0,N⟩ [I B x20,I H x21,T b22,T b23,I L x24,I B x25,I B x26,I D x27,I D x28,S A29 n29_ c29_] 0) fun w34:W=>
(if (x31 != 0)=true then
(May w34 ⟨g5,0,N⟩ 11∧
(Let (putCells w34 ⟨g5,0,N⟩ [I B 0,I H 0,T false,T false,I L 0,I B 0,I B 0,I D 0,I D 0,S N 0 0,S N 0 0] 0) fun w35:W=>
 ∃ x36 x37:Int,∃ b38 b39:Bool,∃ x40 x41 x42 x43 x44:Int,∃ (A45:Option Addr) (n45_ c45_:Nat),∃ (A46:Option Addr) (n46_ c46_:Nat),(11=11∧At w35 ⟨g5,0,N⟩ [I B x36,I H x37,T b38,T b39,I L x40,I B x41,I B x42,I D x43,I D x44,S A45 n45_ c45_,S A46 n46_ c46_])∧
(R (.returned (.tuple #[G #[I B x36,I H x37,T b38,T b39,I L x40,I B x41,I B x42,I D x43,I D x44,S A45 n45_ c45_,S A46 n46_ c46_],I L x31])) w35)))
else
(∃ (A47:Option Addr) (n47_ c47_:Nat),w34.cell? ⟨g1,10,N⟩=some (S A47 n47_ c47_)∧
(Calls Tryz.prog 56 #[S A47 n47_ c47_] w34 (fun (e49:Ending) (w48:W)=>
 ∃ x50 x51 x52:Int,∃ (A53:Option Addr) (n53_ c53_:Nat),∃ x54:Int,e49=.returned (.tuple #[G #[I B x50,I B x51,I D x52,S A53 n53_ c53_],I L x54])∧
(Let (w48.heap.size) fun g55:Nat=>
 Let (w48.alloc (.cells #[I B 0,I B 0,I D 0,S N 0 0] 106)) fun w56:W=>
 May w56 ⟨g55,0,N⟩ 4∧
(Let (putCells w56 ⟨g55,0,N⟩ [I B x50,I B x51,I D x52,S A53 n53_ c53_] 0) fun w57:W=>
(if (x54 != 0)=true then
(May w57 ⟨g5,0,N⟩ 11∧
(Let (putCells w57 ⟨g5,0,N⟩ [I B 0,I H 0,T false,T false,I L 0,I B 0,I B 0,I D 0,I D 0,S N 0 0,S N 0 0] 0) fun w58:W=>
 ∃ x59 x60:Int,∃ b61 b62:Bool,∃ x63 x64 x65 x66 x67:Int,∃ (A68:Option Addr) (n68_ c68_:Nat),∃ (A69:Option Addr) (n69_ c69_:Nat),(11=11∧At w58 ⟨g5,0,N⟩ [I B x59,I H x60,T b61,T b62,I L x63,I B x64,I B x65,I D x66,I D x67,S A68 n68_ c68_,S A69 n69_ c69_])∧
(R (.returned (.tuple #[G #[I B x59,I H x60,T b61,T b62,I L x63,I B x64,I B x65,I D x66,I D x67,S A68 n68_ c68_,S A69 n69_ c69_],I L x54])) w58)))
else
(∃ x70 x71:Int,∃ b72 b73:Bool,∃ x74 x75 x76 x77 x78:Int,∃ (A79:Option Addr) (n79_ c79_:Nat),(10=10∧At w57 ⟨g32,0,N⟩ [I B x70,I H x71,T b72,T b73,I L x74,I B x75,I B x76,I D x77,I D x78,S A79 n79_ c79_])∧
(Calls Tryz.prog 57 #[G #[I B x70,I H x71,T b72,T b73,I L x74,I B x75,I B x76,I D x77,I D x78,S A79 n79_ c79_],S A30 n30_ c30_] w57 (fun (e81:Ending) (w80:W)=>
 ∃ x82 x83 x84 x85 x86:Int,∃ b87:Bool,e81=.returned (.tuple #[G #[I D x82,I D x83,I B x84,I H x85,I H x86],T b87])∧
(Let (w80.heap.size) fun g88:Nat=>
 Let (w80.alloc (.cells #[I D 0,I D 0,I B 0,I H 0,I H 0] 39)) fun w89:W=>
 May w89 ⟨g88,0,N⟩ 5∧
(Let (putCells w89 ⟨g88,0,N⟩ [I D x82,I D x83,I B x84,I H x85,I H x86] 0) fun w90:W=>
 ∃ x91:Int,w90.cell? ⟨g55,0,N⟩=some (I B x91)∧
(Calls Tryz.prog 58 #[I B x91] w90 (fun (e93:Ending) (w92:W)=>
 ∃ b94:Bool,e93=.returned (T b94)∧
((if (!b94)=true then
(May w92 ⟨g5,0,N⟩ 11∧
(Let (putCells w92 ⟨g5,0,N⟩ [I B 0,I H 0,T false,T false,I L 0,I B 0,I B 0,I D 0,I D 0,S N 0 0,S N 0 0] 0) fun w95:W=>
 ∃ x96 x97:Int,∃ b98 b99:Bool,∃ x100 x101 x102 x103 x104:Int,∃ (A105:Option Addr) (n105_ c105_:Nat),∃ (A106:Option Addr) (n106_ c106_:Nat),(11=11∧At w95 ⟨g5,0,N⟩ [I B x96,I H x97,T b98,T b99,I L x100,I B x101,I B x102,I D x103,I D x104,S A105 n105_ c105_,S A106 n106_ c106_])∧
(R (.returned (.tuple #[G #[I B x96,I H x97,T b98,T b99,I L x100,I B x101,I B x102,I D x103,I D x104,S A105 n105_ c105_,S A106 n106_ c106_],I L 230])) w95)))
else
((if (!b87)=true then
(May w92 ⟨g5,0,N⟩ 11∧
(Let (putCells w92 ⟨g5,0,N⟩ [I B 0,I H 0,T false,T false,I L 0,I B 0,I B 0,I D 0,I D 0,S N 0 0,S N 0 0] 0) fun w107:W=>
 ∃ x108 x109:Int,∃ b110 b111:Bool,∃ x112 x113 x114 x115 x116:Int,∃ (A117:Option Addr) (n117_ c117_:Nat),∃ (A118:Option Addr) (n118_ c118_:Nat),(11=11∧At w107 ⟨g5,0,N⟩ [I B x108,I H x109,T b110,T b111,I L x112,I B x113,I B x114,I D x115,I D x116,S A117 n117_ c117_,S A118 n118_ c118_])∧
(R (.returned (.tuple #[G #[I B x108,I H x109,T b110,T b111,I L x112,I B x113,I B x114,I D x115,I D x116,S A117 n117_ c117_,S A118 n118_ c118_],I L 230])) w107)))
else
(∃ x119:Int,w92.cell? ⟨g3,2,N⟩=some (I B x119)∧
(∃ x120:Int,w92.cell? ⟨g88,2,N⟩=some (I B x120)∧
((if (x119 != x120)=true then
(May w92 ⟨g5,0,N⟩ 11∧
(Let (putCells w92 ⟨g5,0,N⟩ [I B 0,I H 0,T false,T false,I L 0,I B 0,I B 0,I D 0,I D 0,S N 0 0,S N 0 0] 0) fun w121:W=>
 ∃ x122 x123:Int,∃ b124 b125:Bool,∃ x126 x127 x128 x129 x130:Int,∃ (A131:Option Addr) (n131_ c131_:Nat),∃ (A132:Option Addr) (n132_ c132_:Nat),(11=11∧At w121 ⟨g5,0,N⟩ [I B x122,I H x123,T b124,T b125,I L x126,I B x127,I B x128,I D x129,I D x130,S A131 n131_ c131_,S A132 n132_ c132_])∧
(R (.returned (.tuple #[G #[I B x122,I H x123,T b124,T b125,I L x126,I B x127,I B x128,I D x129,I D x130,S A131 n131_ c131_,S A132 n132_ c132_],I L 230])) w121)))
else
(∃ x133:Int,w92.cell? ⟨g88,2,N⟩=some (I B x133)∧
((if (x133 == 1)=true then
(∃ x134:Int,w92.cell? ⟨g3,3,N⟩=some (I H x134)∧
(∃ x135:Int,w92.cell? ⟨g3,4,N⟩=some (I H x135)∧
((if (x134 != x135)=true then
(May w92 ⟨g5,0,N⟩ 11∧
(Let (putCells w92 ⟨g5,0,N⟩ [I B 0,I H 0,T false,T false,I L 0,I B 0,I B 0,I D 0,I D 0,S N 0 0,S N 0 0] 0) fun w136:W=>
 ∃ x137 x138:Int,∃ b139 b140:Bool,∃ x141 x142 x143 x144 x145:Int,∃ (A146:Option Addr) (n146_ c146_:Nat),∃ (A147:Option Addr) (n147_ c147_:Nat),(11=11∧At w136 ⟨g5,0,N⟩ [I B x137,I H x138,T b139,T b140,I L x141,I B x142,I B x143,I D x144,I D x145,S A146 n146_ c146_,S A147 n147_ c147_])∧
(R (.returned (.tuple #[G #[I B x137,I H x138,T b139,T b140,I L x141,I B x142,I B x143,I D x144,I D x145,S A146 n146_ c146_,S A147 n147_ c147_],I L 230])) w136)))
else
(Leaf (qq60.j1 i1 i2 g1 g3 g5 g32 A30 n30_ c30_ g55 g88 (G #[I B i0_0,I H i0_1,T i0_2,T i0_3,I L i0_4,I B i0_5,I B i0_6,I D i0_7,I D i0_8,S I0_9 in0_9 ic0_9,S I0_10 in0_10 ic0_10]) (G #[I D i3_0,I D i3_1,I B i3_2,I H i3_3,I H i3_4]) U U (I L 0) (I L x54) (T b87) U U U U (.tuple #[G #[I B x20,I H x21,T b22,T b23,I L x24,I B x25,I B x26,I D x27,I D x28,S A29 n29_ c29_],S A30 n30_ c30_,I L x31]) (G #[I B x7,I H x8,T b9,T b10,I L x11,I B x12,I B x13,I D x14,I D x15,S A16 n16_ c16_,S A17 n17_ c17_]) (.tuple #[G #[I B x20,I H x21,T b22,T b23,I L x24,I B x25,I B x26,I D x27,I D x28,S A29 n29_ c29_],S A30 n30_ c30_,I L x31]) (G #[I B x20,I H x21,T b22,T b23,I L x24,I B x25,I B x26,I D x27,I D x28,S A29 n29_ c29_]) (S A30 n30_ c30_) (I L x31) (I L x31) (T (x31 != 0)) U U (.tuple #[G #[I B x50,I B x51,I D x52,S A53 n53_ c53_],I L x54]) (P (some ⟨g1,10,N⟩)) (S A47 n47_ c47_) (.tuple #[G #[I B x50,I B x51,I D x52,S A53 n53_ c53_],I L x54]) (G #[I B x50,I B x51,I D x52,S A53 n53_ c53_]) (I L x54) (I L x54) (T (x54 != 0)) U U (.tuple #[G #[I D x82,I D x83,I B x84,I H x85,I H x86],T b87]) (G #[I B x70,I H x71,T b72,T b73,I L x74,I B x75,I B x76,I D x77,I D x78,S A79 n79_ c79_]) (S A30 n30_ c30_) (.tuple #[G #[I D x82,I D x83,I B x84,I H x85,I H x86],T b87]) (G #[I D x82,I D x83,I B x84,I H x85,I H x86]) (T b87) (P (some ⟨g55,0,N⟩)) (I B x91) (T b94) (T (!b94)) (T false) (T b87) (T (!b87)) (T (!b87)) (T false) (P (some ⟨g3,2,N⟩)) (I B x119) (P (some ⟨g88,2,N⟩)) (I B x120) (T (x119 != x120)) (T (x119 != x120)) (T false) (P (some ⟨g88,2,N⟩)) (I B x133) (T (x133 == 1)) (T true) (P (some ⟨g3,3,N⟩)) (I H x134) (P (some ⟨g3,4,N⟩)) (I H x135) (T (x134 != x135)) (T (x134 != x135)) (T (x134 != x135)) U U U U U U U U U U U U U U U U U U U U U U U U U U U U U U U U U U U U U U U U U U U U U U U U U U U U U U U U U U U U U U w92 R))))))
else
(Leaf (qq60.j1 i1 i2 g1 g3 g5 g32 A30 n30_ c30_ g55 g88 (G #[I B i0_0,I H i0_1,T i0_2,T i0_3,I L i0_4,I B i0_5,I B i0_6,I D i0_7,I D i0_8,S I0_9 in0_9 ic0_9,S I0_10 in0_10 ic0_10]) (G #[I D i3_0,I D i3_1,I B i3_2,I H i3_3,I H i3_4]) U U (I L 0) (I L x54) (T b87) U U U U (.tuple #[G #[I B x20,I H x21,T b22,T b23,I L x24,I B x25,I B x26,I D x27,I D x28,S A29 n29_ c29_],S A30 n30_ c30_,I L x31]) (G #[I B x7,I H x8,T b9,T b10,I L x11,I B x12,I B x13,I D x14,I D x15,S A16 n16_ c16_,S A17 n17_ c17_]) (.tuple #[G #[I B x20,I H x21,T b22,T b23,I L x24,I B x25,I B x26,I D x27,I D x28,S A29 n29_ c29_],S A30 n30_ c30_,I L x31]) (G #[I B x20,I H x21,T b22,T b23,I L x24,I B x25,I B x26,I D x27,I D x28,S A29 n29_ c29_]) (S A30 n30_ c30_) (I L x31) (I L x31) (T (x31 != 0)) U U (.tuple #[G #[I B x50,I B x51,I D x52,S A53 n53_ c53_],I L x54]) (P (some ⟨g1,10,N⟩)) (S A47 n47_ c47_) (.tuple #[G #[I B x50,I B x51,I D x52,S A53 n53_ c53_],I L x54]) (G #[I B x50,I B x51,I D x52,S A53 n53_ c53_]) (I L x54) (I L x54) (T (x54 != 0)) U U (.tuple #[G #[I D x82,I D x83,I B x84,I H x85,I H x86],T b87]) (G #[I B x70,I H x71,T b72,T b73,I L x74,I B x75,I B x76,I D x77,I D x78,S A79 n79_ c79_]) (S A30 n30_ c30_) (.tuple #[G #[I D x82,I D x83,I B x84,I H x85,I H x86],T b87]) (G #[I D x82,I D x83,I B x84,I H x85,I H x86]) (T b87) (P (some ⟨g55,0,N⟩)) (I B x91) (T b94) (T (!b94)) (T false) (T b87) (T (!b87)) (T (!b87)) (T false) (P (some ⟨g3,2,N⟩)) (I B x119) (P (some ⟨g88,2,N⟩)) (I B x120) (T (x119 != x120)) (T (x119 != x120)) (T false) (P (some ⟨g88,2,N⟩)) (I B x133) (T (x133 == 1)) (T false) U U U U U (T false) (T false) U U U U U U U U U U U U U U U U U U U U U U U U U U U U U U U U U U U U U U U U U U U U U U U U U U U U U U U U U U U U U U w92 R))))))))))))))))))))))))))))))))
theorem qq60.run (h:qq60.s i0_0 i0_1 i0_2 i0_3 i0_4 i0_5 i0_6 i0_7 i0_8 I0_9 in0_9 ic0_9 I0_10 in0_10 ic0_10 i1 i2 i3_0 i3_1 i3_2 i3_3 i3_4 w R):Calls Tryz.prog 31 #[G #[I B i0_0,I H i0_1,T i0_2,T i0_3,I L i0_4,I B i0_5,I B i0_6,I D i0_7,I D i0_8,S I0_9 in0_9 ic0_9,S I0_10 in0_10 ic0_10],I D i1,I D i2,G #[I D i3_0,I D i3_1,I B i3_2,I H i3_3,I H i3_4]] w R:=
 calls_segk (ords:=qq60.ords) (J:=qq60.joins) ents mixed Tryz.func31 rfl h (by kernel_rfl)
end Go.Proofs.YtphbdmafchjjeaaGreatDoorS
