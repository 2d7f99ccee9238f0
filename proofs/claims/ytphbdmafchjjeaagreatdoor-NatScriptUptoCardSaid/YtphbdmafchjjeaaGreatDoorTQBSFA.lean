import Derived.Test.YtphbdmafchjjeaaGreatDoorTQBSPureM
namespace Go.Proofs.YtphbdmafchjjeaaGreatDoorS
open Go Go.Proofs
open Go renaming undef → U, World → W, Value → V
open Go.Value renaming int → I, slice → S, bool → T, pointer → P, agg → G
open Go.IntKind renaming u8 → B, u16 → H, u32 → D, u64 → Q, i64 → L
open Option renaming none → N
set_option autoImplicit true
set_option relaxedAutoImplicit true
set_option maxRecDepth 100000
set_option linter.unusedVariables false
def qq103.ords:Nat→Od
 | 1=>(.tk 0 (.tk 1 (.tk 2 (.tk 3 (.tk 4 (.tk 5 (.tk 6 (.tk 7 (.tk 8 (.tk 9 (.tk 10 (.tk 11 (.tk 12 (.tk 13 .nil))))))))))))))
 | _=>.nil
def qq103.joins (p:List Nat):Bool:=false
def qq103.s (I0:Option Addr) (in0 ic0:Nat) (i1:Int) (w:W) (R:E):Prop:=
(∃ S1:W→Prop,S1 w.drew∧
(Let (w.drew) fun w2:W=>
 ∃ a3:Addr,I0=some a3∧(0≤i1∧i1 < (in0:Int))∧
(∃ x4:Int,(∀ w',S1 w'→w'.cell? (a3.add i1.toNat)=some (I B x4))∧
(Let (H.wrap x4) fun x5:Int=>
 Let (H.wrap (x5 * 256)) fun x6:Int=>
 Let (L.wrap (i1+1)) fun x7:Int=>
 ∃ a8:Addr,I0=some a8∧(0≤x7∧x7 < (in0:Int))∧
(∃ x9:Int,(∀ w',S1 w'→w'.cell? (a8.add x7.toNat)=some (I B x9))∧
(Let (H.wrap x9) fun x10:Int=>
 Let (Go.bits .or .u16 x6 x10) fun x11:Int=>
 R (.returned (I H x11)) w2))))))
theorem qq103.run (h:qq103.s I0 in0 ic0 i1 w R):Calls Tryz.prog 110 #[S I0 in0 ic0,I L i1] w R:=
 calls_segk (ords:=qq103.ords) (J:=qq103.joins) ents mixed Tryz.func110 rfl h (by kernel_rfl)
def qq101.ords:Nat→Od
 | _=>.nil
def qq101.joins (p:List Nat):Bool:=false
def qq101.s (I0:Option Addr) (in0 ic0:Nat) (i1:Int) (w:W) (R:E):Prop:=
(Calls Tryz.prog 110 #[S I0 in0 ic0,I L i1] w (fun (e2:Ending) (w1:W)=>
 ∃ x3:Int,e2=.returned (I H x3)∧
(Let (D.wrap x3) fun x4:Int=>
 Let (D.wrap (x4 * 65536)) fun x5:Int=>
 Let (L.wrap (i1+2)) fun x6:Int=>
 Calls Tryz.prog 110 #[S I0 in0 ic0,I L x6] w1 (fun (e8:Ending) (w7:W)=>
 ∃ x9:Int,e8=.returned (I H x9)∧
(Let (D.wrap x9) fun x10:Int=>
 Let (Go.bits .or .u32 x5 x10) fun x11:Int=>
 R (.returned (I D x11)) w7)))))
theorem qq101.run (h:qq101.s I0 in0 ic0 i1 w R):Calls Tryz.prog 111 #[S I0 in0 ic0,I L i1] w R:=
 calls_segk (ords:=qq101.ords) (J:=qq101.joins) ents mixed Tryz.func111 rfl h (by kernel_rfl)
def qq83.ords:Nat→Od
 | _=>.nil
def qq83.joins (p:List Nat):Bool:=false
def qq83.s (I0:Option Addr) (in0 ic0:Nat) (i1 i2:Int) (w:W) (R:E):Prop:=
(Let (L.wrap (i1+1)) fun x1:Int=>
 Let (Int.fdiv i2 256) fun x2:Int=>
 Let (B.wrap x2) fun x3:Int=>
 Let (B.wrap i2) fun x4:Int=>
 ∃ a5:Addr,I0=some a5∧(0≤i1∧i1 < (in0:Int))∧
(MayC w (a5.add i1.toNat)∧
(Let (w.setCell (a5.add i1.toNat) (I B x3)) fun w6:W=>
 ∃ a7:Addr,I0=some a7∧(0≤x1∧x1 < (in0:Int))∧
(MayC w6 (a7.add x1.toNat)∧
(Let (w6.setCell (a7.add x1.toNat) (I B x4)) fun w8:W=>
 R (.returned (.tuple #[])) w8)))))
theorem qq83.run (h:qq83.s I0 in0 ic0 i1 i2 w R):Calls Tryz.prog 66 #[S I0 in0 ic0,I L i1,I H i2] w R:=
 calls_segk (ords:=qq83.ords) (J:=qq83.joins) ents mixed Tryz.func66 rfl h (by kernel_rfl)
def qq79.ords:Nat→Od
 | _=>.nil
def qq79.joins (p:List Nat):Bool:=false
def qq79.s (I0:Option Addr) (in0 ic0:Nat) (i1 i2:Int) (w:W) (R:E):Prop:=
(Let (Int.fdiv i2 65536) fun x1:Int=>
 Let (H.wrap x1) fun x2:Int=>
 Calls Tryz.prog 66 #[S I0 in0 ic0,I L i1,I H x2] w (fun (e4:Ending) (w3:W)=>
 e4=.returned (.tuple #[])∧
(Let (L.wrap (i1+2)) fun x5:Int=>
 Let (H.wrap i2) fun x6:Int=>
 Calls Tryz.prog 66 #[S I0 in0 ic0,I L x5,I H x6] w3 (fun (e8:Ending) (w7:W)=>
 e8=.returned (.tuple #[])∧
(R (.returned (.tuple #[])) w7)))))
theorem qq79.run (h:qq79.s I0 in0 ic0 i1 i2 w R):Calls Tryz.prog 67 #[S I0 in0 ic0,I L i1,I D i2] w R:=
 calls_segk (ords:=qq79.ords) (J:=qq79.joins) ents mixed Tryz.func67 rfl h (by kernel_rfl)
def qq89.ords:Nat→Od
 | _=>.nil
def qq89.joins (p:List Nat):Bool:=false
def qq89.l1 (n:Nat) (y0:Int) (d1 d2 d3 d4 d5 d6 d7 d8 d9 dA dB:V) (w:W) (R:E):Prop:=
 lseg Tryz.prog entE qq89.ords qq89.joins Tryz.f93 [1,0,0] [0,0,1] [] n [I Q y0,d1,d2,d3,d4,d5,d6,d7,d8,d9,dA,dB] w R
abbrev qq89.L1 (n:Nat) (y0:Int) (w:W) (R:E):Prop:=∀ d1 d2 d3 d4 d5 d6 d7 d8 d9 dA dB,qq89.l1 n y0 d1 d2 d3 d4 d5 d6 d7 d8 d9 dA dB w R
theorem qq89.l1_eq {n:Nat}:qq89.l1 (n+1) y0 d1 d2 d3 d4 d5 d6 d7 d8 d9 dA dB w R =
((if decide (y0 > 65535)=true then
(Let (Int.fdiv y0 65536) fun x1:Int=>
 Let (Go.bits .and .u64 y0 65535) fun x2:Int=>
 Let (Q.wrap (x1+x2)) fun x3:Int=>
 qq89.l1 n x3 d1 d2 (I Q y0) (T (decide (y0 > 65535))) (I Q y0) (I Q x1) (I Q y0) (I Q x2) (I Q x3) dA dB w R)
else
(Let (H.wrap y0) fun x4:Int=>
 R (.returned (I H x4)) w))):=by kernel_rfl
def qq89.s (i0:Int) (w:W) (R:E):Prop:=
(∃ n1:Nat,qq89.l1 n1 i0 U (I H 0) U U U U U U U U U w R)
theorem qq89.run (h:qq89.s i0 w R):Calls Tryz.prog 93 #[I Q i0] w R:=
 calls_segk (ords:=qq89.ords) (J:=qq89.joins) ents mixed Tryz.func93 rfl h (by kernel_rfl)
def qq110.ords:Nat→Od
 | _=>.nil
def qq110.joins (p:List Nat):Bool:=false
def qq110.l1 (n:Nat) (y3:Int) (y4:Bool) (Y9:Option Addr) (yn9 yc9:Nat) (y10 y11:Int) (d0 d1 d2 d5 d6 d7 d8 dC dD dE dF dG dH dI dJ dK dL dM dN dO dP dQ dR dS dT dU dV dW dX dY dZ k0 k1:V) (w:W) (R:E):Prop:=
 lseg Tryz.prog entE qq110.ords qq110.joins Tryz.f61 [1,1,1,0,1,0] [0,1,0,1,1,1] [] n [d0,d1,d2,I Q y3,T y4,d5,d6,d7,d8,S Y9 yn9 yc9,I L y10,I L y11,dC,dD,dE,dF,dG,dH,dI,dJ,dK,dL,dM,dN,dO,dP,dQ,dR,dS,dT,dU,dV,dW,dX,dY,dZ,k0,k1] w R
def qq110.l2 (m0 n:Nat) (y3:Int) (y4:Bool) (Y9:Option Addr) (yn9 yc9:Nat) (y10 y11:Int) (Y15:Option Addr) (yn15 yc15:Nat) (y16 y17:Int) (d0 d1 d2 d5 d6 d7 d8 dC dD dE dI dJ dK dL dM dN dO dP dQ dR dS dT dU dV dW dX dY dZ k0 k1:V) (w:W) (R:E):Prop:=
 lseg Tryz.prog entE qq110.ords qq110.joins Tryz.f61 [1,1,1,0,1,0,0,1,1,0,0,1,1,0] [0,1,1,0,0,1,1,0,0,1,0,1,1,1] [m0] n [d0,d1,d2,I Q y3,T y4,d5,d6,d7,d8,S Y9 yn9 yc9,I L y10,I L y11,dC,dD,dE,S Y15 yn15 yc15,I L y16,I L y17,dI,dJ,dK,dL,dM,dN,dO,dP,dQ,dR,dS,dT,dU,dV,dW,dX,dY,dZ,k0,k1] w R
abbrev qq110.L1 (n:Nat) (y3:Int) (y4:Bool) (Y9:Option Addr) (yn9 yc9:Nat) (y10 y11:Int) (w:W) (R:E):Prop:=∀ d0 d1 d2 d5 d6 d7 d8 dC dD dE dF dG dH dI dJ dK dL dM dN dO dP dQ dR dS dT dU dV dW dX dY dZ k0 k1,qq110.l1 n y3 y4 Y9 yn9 yc9 y10 y11 d0 d1 d2 d5 d6 d7 d8 dC dD dE dF dG dH dI dJ dK dL dM dN dO dP dQ dR dS dT dU dV dW dX dY dZ k0 k1 w R
abbrev qq110.L2 (m0 n:Nat) (y3:Int) (y4:Bool) (Y9:Option Addr) (yn9 yc9:Nat) (y10 y11:Int) (Y15:Option Addr) (yn15 yc15:Nat) (y16 y17:Int) (w:W) (R:E):Prop:=∀ d0 d1 d2 d5 d6 d7 d8 dC dD dE dI dJ dK dL dM dN dO dP dQ dR dS dT dU dV dW dX dY dZ k0 k1,qq110.l2 m0 n y3 y4 Y9 yn9 yc9 y10 y11 Y15 yn15 yc15 y16 y17 d0 d1 d2 d5 d6 d7 d8 dC dD dE dI dJ dK dL dM dN dO dP dQ dR dS dT dU dV dW dX dY dZ k0 k1 w R
theorem qq110.l1_eq {n:Nat}:qq110.l1 (n+1) y3 y4 Y9 yn9 yc9 y10 y11 d0 d1 d2 d5 d6 d7 d8 dC dD dE dF dG dH dI dJ dK dL dM dN dO dP dQ dR dS dT dU dV dW dX dY dZ k0 k1 w R =
((if decide (y11 < y10)=true then
(∃ a1:Addr,Y9=some a1∧(0≤y11∧y11 < (yn9:Int))∧
(∃ (A2:Option Addr) (n2_ c2_:Nat),w.cell? (a1.add y11.toNat)=some (S A2 n2_ c2_)∧
(∃ n3:Nat,qq110.l2 n n3 y3 y4 Y9 yn9 yc9 y10 y11 A2 n2_ c2_ (n2_:Int) 0 d0 d1 d2 d5 (S A2 n2_ c2_) d7 d8 (T (decide (y11 < y10))) (P (some (a1.add y11.toNat))) (S A2 n2_ c2_) dI dJ dK dL dM dN dO dP dQ dR dS dT dU dV dW dX dY dZ k0 k1 w R)))
else
(Calls Tryz.prog 93 #[I Q y3] w (fun (e5:Ending) (w4:W)=>
 ∃ x6:Int,e5=.returned (I H x6)∧
(Let (Go.bits .xor .u16 65535 x6) fun x7:Int=>
 R (.returned (I H x7)) w4))))):=by kernel_rfl
theorem qq110.l2_eq {n:Nat}:qq110.l2 m0 (n+1) y3 y4 Y9 yn9 yc9 y10 y11 Y15 yn15 yc15 y16 y17 d0 d1 d2 d5 d6 d7 d8 dC dD dE dI dJ dK dL dM dN dO dP dQ dR dS dT dU dV dW dX dY dZ k0 k1 w R =
((if decide (y17 < y16)=true then
(∃ a1:Addr,Y15=some a1∧(0≤y17∧y17 < (yn15:Int))∧
(∃ x2:Int,w.cell? (a1.add y17.toNat)=some (I B x2)∧
((if y4=true then
(Let (Q.wrap x2) fun x3:Int=>
 Let (Q.wrap (x3 * 256)) fun x4:Int=>
 Let (Q.wrap (y3+x4)) fun x5:Int=>
 Let (L.wrap (y17+1)) fun x6:Int=>
 qq110.l2 m0 n x5 (!y4) Y9 yn9 yc9 y10 y11 Y15 yn15 yc15 y16 x6 d0 d1 d2 d5 d6 d7 (I B x2) dC dD dE (T (decide (y17 < y16))) (P (some (a1.add y17.toNat))) (I B x2) (T y4) (I Q y3) (I B x2) (I Q x3) (I Q x4) (I Q x5) dR dS dT dU (T y4) (T (!y4)) (I L x6) dY dZ k0 k1 w R)
else
(Let (Q.wrap x2) fun x7:Int=>
 Let (Q.wrap (y3+x7)) fun x8:Int=>
 Let (L.wrap (y17+1)) fun x9:Int=>
 qq110.l2 m0 n x8 (!y4) Y9 yn9 yc9 y10 y11 Y15 yn15 yc15 y16 x9 d0 d1 d2 d5 d6 d7 (I B x2) dC dD dE (T (decide (y17 < y16))) (P (some (a1.add y17.toNat))) (I B x2) (T y4) dM dN dO dP dQ (I Q y3) (I B x2) (I Q x7) (I Q x8) (T y4) (T (!y4)) (I L x9) dY dZ k0 k1 w R)))))
else
(Let (L.wrap (y11+1)) fun x10:Int=>
 qq110.l1 m0 y3 y4 Y9 yn9 yc9 y10 x10 d0 d1 d2 d5 d6 d7 d8 dC dD dE (S Y15 yn15 yc15) (I L y16) (I L y17) (T (decide (y17 < y16))) dJ dK dL dM dN dO dP dQ dR dS dT dU dV dW dX (I L x10) dZ k0 k1 w R))):=by kernel_rfl
def qq110.s (I0:Option Addr) (in0 ic0:Nat) (w:W) (R:E):Prop:=
(∃ n1:Nat,qq110.l1 n1 0 true I0 in0 ic0 (in0:Int) 0 (S I0 in0 ic0) U (I H 0) U U U U U U U U U U U U U U U U U U U U U U U U U U U U U U w R)
theorem qq110.run (h:qq110.s I0 in0 ic0 w R):Calls Tryz.prog 61 #[S I0 in0 ic0] w R:=
 calls_segk (ords:=qq110.ords) (J:=qq110.joins) ents mixed Tryz.func61 rfl h (by kernel_rfl)
def qq81.ords:Nat→Od
 | _=>.nil
def qq81.joins (p:List Nat):Bool:=p == [1,1]
def qq81.j1 (y1:Int) (y2:Bool) (d0 d3 d4 d5 d6 d7 d8 d9 dA dB dC dD dE dF dG dH dI dJ dK dL dM dN dO dP dQ dR dS dT dU dV dW dX dY:V) (w:W) (R:E):Prop:=
 seg Tryz.prog entE qq81.ords qq81.joins Tryz.f65 [1,1] [1,1] [] [d0,I L y1,T y2,d3,d4,d5,d6,d7,d8,d9,dA,dB,dC,dD,dE,dF,dG,dH,dI,dJ,dK,dL,dM,dN,dO,dP,dQ,dR,dS,dT,dU,dV,dW,dX,dY] w R
theorem qq81.j1_eq:qq81.j1 y1 y2 d0 d3 d4 d5 d6 d7 d8 d9 dA dB dC dD dE dF dG dH dI dJ dK dL dM dN dO dP dQ dR dS dT dU dV dW dX dY w R =
((if (!y2)=true then
(R (.returned (T true)) w)
else
((if decide (y1 > 0)=true then
(Let (Int.tmod y1 8) fun x1:Int=>
 R (.returned (T (x1 == 0))) w)
else
(R (.returned (T false)) w))))):=by kernel_rfl
def qq81.s (i0 i1:Int) (i2:Bool) (w:W) (R:E):Prop:=
((if decide (i0 < 0)=true then
(R (.returned (T false)) w)
else
((if decide (i0 > 65528)=true then
(R (.returned (T false)) w)
else
(Let (Int.tmod i0 8) fun x1:Int=>
(if (x1 != 0)=true then
(R (.returned (T false)) w)
else
(Let (L.wrap (i0+i1)) fun x2:Int=>
(if decide (x2 > 65535)=true then
(R (.returned (T false)) w)
else
(Leaf (qq81.j1 i1 i2 (I L i0) U U U (T false) (I L i0) (T (decide (i0 < 0))) (T false) (I L i0) (T (decide (i0 > 65528))) (T (decide (i0 > 65528))) (T false) (I L i0) (I L x1) (T (x1 != 0)) (T (x1 != 0)) (T false) (I L i0) (I L i1) (I L x2) (T (decide (x2 > 65535))) (T (decide (x2 > 65535))) U U U U U U U U U U U w R))))))))))
theorem qq81.run (h:qq81.s i0 i1 i2 w R):Calls Tryz.prog 65 #[I L i0,I L i1,T i2] w R:=
 calls_segk (ords:=qq81.ords) (J:=qq81.joins) ents mixed Tryz.func65 rfl h (by kernel_rfl)
def qq80.ords:Nat→Od
 | _=>.nil
def qq80.joins (p:List Nat):Bool:=false
def qq80.s (I0:Option Addr) (in0 ic0:Nat) (i1:Bool) (w:W) (R:E):Prop:=
((if decide ((in0:Int) < 20)=true then
(R (.returned (.tuple #[I L 0,I L 0,I L 30])) w)
else
(∃ a1:Addr,I0=some a1∧(0≤(0:Int)∧(0:Int) < (in0:Int))∧
(∃ x2:Int,w.cell? a1=some (I B x2)∧
(Let (Int.fdiv x2 16) fun x3:Int=>
(if (x3 != 4)=true then
(R (.returned (.tuple #[I L 0,I L 0,I L 31])) w)
else
(∃ a4:Addr,I0=some a4∧(0≤(0:Int)∧(0:Int) < (in0:Int))∧
(∃ x5:Int,w.cell? a4=some (I B x5)∧
(Let (Go.bits .and .u8 x5 15) fun x6:Int=>
 Let (L.wrap x6) fun x7:Int=>
 Let (L.wrap (x7 * 4)) fun x8:Int=>
(if decide (x8 < 20)=true then
(R (.returned (.tuple #[I L 0,I L 0,I L 32])) w)
else
((if decide ((in0:Int) < x8)=true then
(R (.returned (.tuple #[I L 0,I L 0,I L 30])) w)
else
(Calls Tryz.prog 110 #[S I0 in0 ic0,I L 2] w (fun (e10:Ending) (w9:W)=>
 ∃ x11:Int,e10=.returned (I H x11)∧
(Let (L.wrap x11) fun x12:Int=>
(if decide (x12 < x8)=true then
(R (.returned (.tuple #[I L 0,I L 0,I L 32])) w9)
else
((if i1=true then
((if decide ((in0:Int) < x12)=true then
(R (.returned (.tuple #[I L 0,I L 0,I L 30])) w9)
else
(R (.returned (.tuple #[I L x8,I L x12,I L 0])) w9)))
else
(R (.returned (.tuple #[I L x8,I L x12,I L 0])) w9)))))))))))))))))))
theorem qq80.run (h:qq80.s I0 in0 ic0 i1 w R):Calls Tryz.prog 109 #[S I0 in0 ic0,T i1] w R:=
 calls_segk (ords:=qq80.ords) (J:=qq80.joins) ents mixed Tryz.func109 rfl h (by kernel_rfl)
def qq64.ords:Nat→Od
 | _=>.nil
def qq64.joins (p:List Nat):Bool:=p == [1,1] || p == [1,1,1,1,1,0,1,0,1,0,0,1,0,1,1]
def qq64.j1 (Y0:Option Addr) (yn0 yc0:Nat) (d1 d2 d3 d4 d5 d6 d7 d8 d9 dA dB dC dD dE dF dG dH dI dJ dK dL dM dN dO dP dQ dR dS dT dU dV dW dX dY dZ k0 k1 k2 k3 k4 k5 k6 k7 k8 k9 kA kB kC kD kE kF kG kH kI kJ kK kL kM kN kO kP kQ kR kS kT kU kV kW kX kY kZ v0 v1:V) (w:W) (R:E):Prop:=
 seg Tryz.prog entE qq64.ords qq64.joins Tryz.f64 [1,1] [1,1] [] [S Y0 yn0 yc0,d1,d2,d3,d4,d5,d6,d7,d8,d9,dA,dB,dC,dD,dE,dF,dG,dH,dI,dJ,dK,dL,dM,dN,dO,dP,dQ,dR,dS,dT,dU,dV,dW,dX,dY,dZ,k0,k1,k2,k3,k4,k5,k6,k7,k8,k9,kA,kB,kC,kD,kE,kF,kG,kH,kI,kJ,kK,kL,kM,kN,kO,kP,kQ,kR,kS,kT,kU,kV,kW,kX,kY,kZ,v0,v1] w R
def qq64.l1 (n:Nat) (Y0:Option Addr) (yn0 yc0:Nat) (y3:Int) (d1 d2 d4 d5 d6 d7 d8 d9 dA dB dC dD dE dF dG dH dI dJ dK dL dM dN dO dP dQ dR dS dT dU dV dW dX dY dZ k0 k1 k2 k3 k4 k5 k6 k7 k8 k9 kA kB kC kD kE kF kG kH kI kJ kK kL kM kN kO kP kQ kR kS kT kU kV kW kX kY kZ v0 v1:V) (w:W) (R:E):Prop:=
 lseg Tryz.prog entE qq64.ords qq64.joins Tryz.f64 [1,1,0,1,0] [0,1,0,1,1] [] n [S Y0 yn0 yc0,d1,d2,I L y3,d4,d5,d6,d7,d8,d9,dA,dB,dC,dD,dE,dF,dG,dH,dI,dJ,dK,dL,dM,dN,dO,dP,dQ,dR,dS,dT,dU,dV,dW,dX,dY,dZ,k0,k1,k2,k3,k4,k5,k6,k7,k8,k9,kA,kB,kC,kD,kE,kF,kG,kH,kI,kJ,kK,kL,kM,kN,kO,kP,kQ,kR,kS,kT,kU,kV,kW,kX,kY,kZ,v0,v1] w R
def qq64.l2 (m0 n:Nat) (Y61:Option Addr) (yn61 yc61:Nat) (y62 y63:Int) (d0 d1 d2 d3 d4 d5 d6 d7 d8 d9 dA dB dC dD dE dF dG dH dI dJ dK dL dM dN dO dP dQ dR dS dT dU dV dW dX dY dZ k0 k1 k2 k3 k4 k5 k6 k7 k8 k9 kA kB kC kD kE kF kG kH kI kJ kK kL kM kN kO kS kT kU kV kW kX kY kZ v0 v1:V) (w:W) (R:E):Prop:=
 lseg Tryz.prog entE qq64.ords qq64.joins Tryz.f64 [1,1,0,1,0,0,1,0,1,0,1,0,0,1,0] [0,1,0,0,1,0,1,0,1,0,0,1,0,1,1] [m0] n [d0,d1,d2,d3,d4,d5,d6,d7,d8,d9,dA,dB,dC,dD,dE,dF,dG,dH,dI,dJ,dK,dL,dM,dN,dO,dP,dQ,dR,dS,dT,dU,dV,dW,dX,dY,dZ,k0,k1,k2,k3,k4,k5,k6,k7,k8,k9,kA,kB,kC,kD,kE,kF,kG,kH,kI,kJ,kK,kL,kM,kN,kO,S Y61 yn61 yc61,I L y62,I L y63,kS,kT,kU,kV,kW,kX,kY,kZ,v0,v1] w R
def qq64.j2 (m0:Nat) (Y0:Option Addr) (yn0 yc0:Nat) (y3:Int) (d1 d2 d4 d5 d6 d7 d8 d9 dA dB dC dD dE dF dG dH dI dJ dK dL dM dN dO dP dQ dR dS dT dU dV dW dX dY dZ k0 k1 k2 k3 k4 k5 k6 k7 k8 k9 kA kB kC kD kE kF kG kH kI kJ kK kL kM kN kO kP kQ kR kS kT kU kV kW kX kY kZ v0 v1:V) (w:W) (R:E):Prop:=
 seg Tryz.prog entE qq64.ords qq64.joins Tryz.f64 [1,1,0,1,0,0,1,0,1,0,1,1,1,1,1] [1,1,1,1,1,0,1,0,1,0,0,1,0,1,1] [m0] [S Y0 yn0 yc0,d1,d2,I L y3,d4,d5,d6,d7,d8,d9,dA,dB,dC,dD,dE,dF,dG,dH,dI,dJ,dK,dL,dM,dN,dO,dP,dQ,dR,dS,dT,dU,dV,dW,dX,dY,dZ,k0,k1,k2,k3,k4,k5,k6,k7,k8,k9,kA,kB,kC,kD,kE,kF,kG,kH,kI,kJ,kK,kL,kM,kN,kO,kP,kQ,kR,kS,kT,kU,kV,kW,kX,kY,kZ,v0,v1] w R
abbrev qq64.L1 (n:Nat) (Y0:Option Addr) (yn0 yc0:Nat) (y3:Int) (w:W) (R:E):Prop:=∀ d1 d2 d4 d5 d6 d7 d8 d9 dA dB dC dD dE dF dG dH dI dJ dK dL dM dN dO dP dQ dR dS dT dU dV dW dX dY dZ k0 k1 k2 k3 k4 k5 k6 k7 k8 k9 kA kB kC kD kE kF kG kH kI kJ kK kL kM kN kO kP kQ kR kS kT kU kV kW kX kY kZ v0 v1,qq64.l1 n Y0 yn0 yc0 y3 d1 d2 d4 d5 d6 d7 d8 d9 dA dB dC dD dE dF dG dH dI dJ dK dL dM dN dO dP dQ dR dS dT dU dV dW dX dY dZ k0 k1 k2 k3 k4 k5 k6 k7 k8 k9 kA kB kC kD kE kF kG kH kI kJ kK kL kM kN kO kP kQ kR kS kT kU kV kW kX kY kZ v0 v1 w R
abbrev qq64.L2 (m0 n:Nat) (Y61:Option Addr) (yn61 yc61:Nat) (y62 y63:Int) (w:W) (R:E):Prop:=∀ d0 d1 d2 d3 d4 d5 d6 d7 d8 d9 dA dB dC dD dE dF dG dH dI dJ dK dL dM dN dO dP dQ dR dS dT dU dV dW dX dY dZ k0 k1 k2 k3 k4 k5 k6 k7 k8 k9 kA kB kC kD kE kF kG kH kI kJ kK kL kM kN kO kS kT kU kV kW kX kY kZ v0 v1,qq64.l2 m0 n Y61 yn61 yc61 y62 y63 d0 d1 d2 d3 d4 d5 d6 d7 d8 d9 dA dB dC dD dE dF dG dH dI dJ dK dL dM dN dO dP dQ dR dS dT dU dV dW dX dY dZ k0 k1 k2 k3 k4 k5 k6 k7 k8 k9 kA kB kC kD kE kF kG kH kI kJ kK kL kM kN kO kS kT kU kV kW kX kY kZ v0 v1 w R
theorem qq64.j1_eq:qq64.j1 Y0 yn0 yc0 d1 d2 d3 d4 d5 d6 d7 d8 d9 dA dB dC dD dE dF dG dH dI dJ dK dL dM dN dO dP dQ dR dS dT dU dV dW dX dY dZ k0 k1 k2 k3 k4 k5 k6 k7 k8 k9 kA kB kC kD kE kF kG kH kI kJ kK kL kM kN kO kP kQ kR kS kT kU kV kW kX kY kZ v0 v1 w R =
(∃ n1:Nat,qq64.l1 n1 Y0 yn0 yc0 0 d1 d2 d4 d5 d6 d7 d8 d9 dA dB dC dD dE dF dG dH dI dJ dK dL dM dN dO dP dQ dR dS dT dU dV dW dX dY dZ k0 k1 k2 k3 k4 k5 k6 k7 k8 k9 kA kB kC kD kE kF kG kH kI kJ kK kL kM kN kO kP kQ kR kS kT kU kV kW kX kY kZ v0 v1 w R):=by kernel_rfl
theorem qq64.l1_eq {n:Nat}:qq64.l1 (n+1) Y0 yn0 yc0 y3 d1 d2 d4 d5 d6 d7 d8 d9 dA dB dC dD dE dF dG dH dI dJ dK dL dM dN dO dP dQ dR dS dT dU dV dW dX dY dZ k0 k1 k2 k3 k4 k5 k6 k7 k8 k9 kA kB kC kD kE kF kG kH kI kJ kK kL kM kN kO kP kQ kR kS kT kU kV kW kX kY kZ v0 v1 w R =
((if decide (y3 < (yn0:Int))=true then
(∃ a1:Addr,Y0=some a1∧(0≤y3∧y3 < (yn0:Int))∧
(∃ x2:Int,w.cell? (a1.add y3.toNat)=some (I B x2)∧
((if (x2 == 0)=true then
((0≤y3∧y3≤(yn0:Int))∧
(∃ n3:Nat,qq64.l2 n n3 (cutA Y0 y3.toNat yc0 1) (yn0-y3.toNat) (yc0-y3.toNat) (((yn0-y3.toNat):Nat):Int) 0 (S Y0 yn0 yc0) d1 d2 (I L y3) d4 d5 d6 d7 d8 d9 dA dB dC dD dE (I L y3) (S Y0 yn0 yc0) (I L (yn0:Int)) (T (decide (y3 < (yn0:Int)))) (S Y0 yn0 yc0) (I L y3) (P (some (a1.add y3.toNat))) (I B x2) dN dO dP dQ dR dS dT dU dV dW dX dY dZ k0 k1 k2 k3 k4 k5 k6 k7 k8 k9 kA kB kC kD kE kF kG kH kI kJ kK (T (x2 == 0)) (T (x2 == 0)) (S Y0 yn0 yc0) (I L y3) kS kT kU kV kW kX kY kZ v0 v1 w R))
else
((if (x2 == 1)=true then
(Let (L.wrap (y3+1)) fun x4:Int=>
 qq64.l1 n Y0 yn0 yc0 x4 d1 d2 d4 d5 d6 d7 d8 d9 dA dB dC dD dE (I L y3) (S Y0 yn0 yc0) (I L (yn0:Int)) (T (decide (y3 < (yn0:Int)))) (S Y0 yn0 yc0) (I L y3) (P (some (a1.add y3.toNat))) (I B x2) dN dO dP dQ dR dS dT dU dV dW dX dY dZ k0 k1 k2 k3 k4 k5 k6 k7 k8 k9 kA kB kC kD kE kF kG kH kI kJ kK (T (x2 == 0)) (T (x2 == 0)) kN kO kP kQ kR kS kT kU kV kW kX (T (x2 == 1)) (T (x2 == 1)) (I L y3) (I L x4) w R)
else
(Let (L.wrap (y3+1)) fun x5:Int=>
(if decide (x5 ≥ (yn0:Int))=true then
(R (.returned (T false)) w)
else
(Let (L.wrap (y3+1)) fun x6:Int=>
 ∃ a7:Addr,Y0=some a7∧(0≤x6∧x6 < (yn0:Int))∧
(∃ x8:Int,w.cell? (a7.add x6.toNat)=some (I B x8)∧
((if decide (x8 < 2)=true then
(R (.returned (T false)) w)
else
(Let (L.wrap (y3+1)) fun x9:Int=>
 ∃ a10:Addr,Y0=some a10∧(0≤x9∧x9 < (yn0:Int))∧
(∃ x11:Int,w.cell? (a10.add x9.toNat)=some (I B x11)∧
(Let (L.wrap x11) fun x12:Int=>
 Let (L.wrap (y3+x12)) fun x13:Int=>
(if decide (x13 > (yn0:Int))=true then
(R (.returned (T false)) w)
else
(Leaf (qq64.j2 n Y0 yn0 yc0 y3 d1 d2 d4 d5 d6 d7 d8 d9 dA dB dC dD dE (I L y3) (S Y0 yn0 yc0) (I L (yn0:Int)) (T (decide (y3 < (yn0:Int)))) (S Y0 yn0 yc0) (I L y3) (P (some (a1.add y3.toNat))) (I B x2) (I L y3) (I L x5) (S Y0 yn0 yc0) (I L (yn0:Int)) (T (decide (x5 ≥ (yn0:Int)))) (T false) (S Y0 yn0 yc0) (I L y3) (I L x6) (P (some (a7.add x6.toNat))) (I B x8) (T (decide (x8 < 2))) (T (decide (x8 < 2))) (T false) (I L y3) (S Y0 yn0 yc0) (I L y3) (I L x9) (P (some (a10.add x9.toNat))) (I B x11) (I L x12) (I L x13) (S Y0 yn0 yc0) (I L (yn0:Int)) (T (decide (x13 > (yn0:Int)))) (T (decide (x13 > (yn0:Int)))) kD kE kF kG kH kI kJ kK (T (x2 == 0)) (T (x2 == 0)) kN kO kP kQ kR kS kT kU kV kW kX (T (x2 == 1)) (T (x2 == 1)) v0 v1 w R))))))))))))))))))
else
(R (.returned (T true)) w))):=by kernel_rfl
theorem qq64.l2_eq {n:Nat}:qq64.l2 m0 (n+1) Y61 yn61 yc61 y62 y63 d0 d1 d2 d3 d4 d5 d6 d7 d8 d9 dA dB dC dD dE dF dG dH dI dJ dK dL dM dN dO dP dQ dR dS dT dU dV dW dX dY dZ k0 k1 k2 k3 k4 k5 k6 k7 k8 k9 kA kB kC kD kE kF kG kH kI kJ kK kL kM kN kO kS kT kU kV kW kX kY kZ v0 v1 w R =
((if decide (y63 < y62)=true then
(∃ a1:Addr,Y61=some a1∧(0≤y63∧y63 < (yn61:Int))∧
(∃ x2:Int,w.cell? (a1.add y63.toNat)=some (I B x2)∧
((if (x2 != 0)=true then
(R (.returned (T false)) w)
else
(Let (L.wrap (y63+1)) fun x3:Int=>
 qq64.l2 m0 n Y61 yn61 yc61 y62 x3 d0 d1 d2 d3 d4 (I B x2) d6 d7 d8 d9 dA dB dC dD dE dF dG dH dI dJ dK dL dM dN dO dP dQ dR dS dT dU dV dW dX dY dZ k0 k1 k2 k3 k4 k5 k6 k7 k8 k9 kA kB kC kD kE kF kG kH kI kJ kK kL kM kN kO (T (decide (y63 < y62))) (P (some (a1.add y63.toNat))) (I B x2) (I B x2) (T (x2 != 0)) (I L x3) kY kZ v0 v1 w R)))))
else
(R (.returned (T true)) w))):=by kernel_rfl
theorem qq64.j2_eq:qq64.j2 m0 Y0 yn0 yc0 y3 d1 d2 d4 d5 d6 d7 d8 d9 dA dB dC dD dE dF dG dH dI dJ dK dL dM dN dO dP dQ dR dS dT dU dV dW dX dY dZ k0 k1 k2 k3 k4 k5 k6 k7 k8 k9 kA kB kC kD kE kF kG kH kI kJ kK kL kM kN kO kP kQ kR kS kT kU kV kW kX kY kZ v0 v1 w R =
(Let (L.wrap (y3+1)) fun x1:Int=>
 ∃ a2:Addr,Y0=some a2∧(0≤x1∧x1 < (yn0:Int))∧
(∃ x3:Int,w.cell? (a2.add x1.toNat)=some (I B x3)∧
(Let (L.wrap x3) fun x4:Int=>
 Let (L.wrap (y3+x4)) fun x5:Int=>
 qq64.l1 m0 Y0 yn0 yc0 x5 d1 d2 d4 d5 d6 d7 d8 d9 dA dB dC dD dE dF dG dH dI dJ dK dL dM dN dO dP dQ dR dS dT dU dV dW dX dY dZ k0 k1 k2 k3 k4 k5 k6 k7 k8 k9 kA kB kC (I L y3) (S Y0 yn0 yc0) (I L y3) (I L x1) (P (some (a2.add x1.toNat))) (I B x3) (I L x4) (I L x5) kL kM kN kO kP kQ kR kS kT kU kV kW kX kY kZ v0 v1 w R))):=by kernel_rfl
def qq64.s (I0:Option Addr) (in0 ic0:Nat) (w:W) (R:E):Prop:=
((if decide ((in0:Int) > 40)=true then
(R (.returned (T false)) w)
else
(Let (Int.tmod (in0:Int) 4) fun x1:Int=>
(if (x1 != 0)=true then
(R (.returned (T false)) w)
else
(Leaf (qq64.j1 I0 in0 ic0 U (T false) U U U (S I0 in0 ic0) (I L (in0:Int)) (T (decide ((in0:Int) > 40))) (T false) (S I0 in0 ic0) (I L (in0:Int)) (I L x1) (T (x1 != 0)) (T (x1 != 0)) U U U U U U U U U U U U U U U U U U U U U U U U U U U U U U U U U U U U U U U U U U U U U U U U U U U U U U U U U U U w R))))))
theorem qq64.run (h:qq64.s I0 in0 ic0 w R):Calls Tryz.prog 64 #[S I0 in0 ic0] w R:=
 calls_segk (ords:=qq64.ords) (J:=qq64.joins) ents mixed Tryz.func64 rfl h (by kernel_rfl)
def qq98.ords:Nat→Od
 | 6=>(.tk 0 (.tk 1 (.tk 2 (.tk 3 (.tk 4 (.tk 5 (.tk 6 (.tk 7 (.tk 8 (.tk 9 (.tk 10 (.tk 11 (.tk 12 (.tk 13 (.tk 14 (.tk 15 .nil))))))))))))))))
 | _=>.nil
def qq98.joins (p:List Nat):Bool:=false
def qq98.s (I0:Option Addr) (in0 ic0:Nat) (I1:Option Addr) (in1 ic1:Nat) (w:W) (R:E):Prop:=
((if ((in0:Int) == 0)=true then
(AppE w 1 1 5 [I B 0] N 0 0 I1 in1 (fun (A1:Option Addr) (c2:Nat) (w3:W)=>
 R (.returned (.tuple #[S N 0 0,S A1 (0+in1) c2])) w3))
else
(Let (L.wrap ((in0:Int)+(in1:Int))) fun x4:Int=>
(0≤x4∧x4≤x4∧x4≤9223372036854775807∧(1:Int) * x4≤281474976710656)∧
(Let (w.heap.size) fun g5:Nat=>
 Let (w.alloc (.cells (List.replicate x4.toNat (I B 0)).toArray 5)) fun w6:W=>
 CopyE w6 (some ⟨g5,0,N⟩) x4.toNat I0 in0 (fun w7:W=>
(0≤(in0:Int)∧(in0:Int)≤(x4.toNat:Int))∧
(CopyE w7 (cutA (some ⟨g5,0,N⟩) in0 x4.toNat 1) (x4.toNat-in0) I1 in1 (fun w8:W=>
 ∃ S9:W→Prop,S9 w8.drew∧
(Let (w8.drew) fun w10:W=>
(0≤(in0:Int)∧(in0:Int)≤(x4.toNat:Int))∧
(0≤(in0:Int)∧(in0:Int)≤(in0:Int))∧
((0≤(x4.toNat:Int)∧(x4.toNat:Int)≤(x4.toNat:Int))∧
(0≤(x4.toNat:Int)∧(x4.toNat:Int)≤(x4.toNat:Int))∧
(0≤(in0:Int)∧(in0:Int)≤(x4.toNat:Int))∧
(R (.returned (.tuple #[S (some ⟨g5,0,N⟩) in0 in0,S (cutA (some ⟨g5,0,N⟩) in0 x4.toNat 1) (x4.toNat-in0) (x4.toNat-in0)])) w10))))))))))
theorem qq98.run (h:qq98.s I0 in0 ic0 I1 in1 ic1 w R):Calls Tryz.prog 103 #[S I0 in0 ic0,S I1 in1 ic1] w R:=
 calls_segk (ords:=qq98.ords) (J:=qq98.joins) ents mixed Tryz.func103 rfl h (by kernel_rfl)
def qq107.ords:Nat→Od
 | 14=>(.tk 0 (.tk 1 (.tk 2 (.tk 3 (.tk 5 (.tk 6 (.tk 7 (.tk 8 (.tk 9 (.tk 10 (.tk 11 (.tk 12 (.tk 13 (.tk 14 (.tk 15 (.tk 16 (.tk 18 (.on 4 (.on 17 (.on 19 (.tk 20 (.on 21 .nil))))))))))))))))))))))
 | _=>.nil
def qq107.joins (p:List Nat):Bool:=false
def qq107.s (I0:Option Addr) (in0 ic0:Nat) (i1:Bool) (w:W) (R:E):Prop:=
(Let (w.heap.size) fun g1:Nat=>
 Let (w.alloc (.cells #[I B 0,I H 0,T false,T false,I L 0,I B 0,I B 0,I D 0,I D 0,S N 0 0] 35)) fun w2:W=>
 Calls Tryz.prog 109 #[S I0 in0 ic0,T i1] w2 (fun (e4:Ending) (w3:W)=>
 ∃ x5 x6 x7:Int,e4=.returned (.tuple #[I L x5,I L x6,I L x7])∧
((if (x7 != 0)=true then
(∃ x8 x9:Int,∃ b10 b11:Bool,∃ x12 x13 x14 x15 x16:Int,∃ (A17:Option Addr) (n17_ c17_:Nat),(10=10∧At w3 ⟨g1,0,N⟩ [I B x8,I H x9,T b10,T b11,I L x12,I B x13,I B x14,I D x15,I D x16,S A17 n17_ c17_])∧
(May w3 ⟨g1,0,N⟩ 10∧
(Let (putCells w3 ⟨g1,0,N⟩ [I B x8,I H x9,T b10,T b11,I L x12,I B x13,I B x14,I D x15,I D x16,S A17 n17_ c17_] 0) fun w18:W=>
 ∃ x19 x20:Int,∃ b21 b22:Bool,∃ x23 x24 x25 x26 x27:Int,∃ (A28:Option Addr) (n28_ c28_:Nat),(10=10∧At w18 ⟨g1,0,N⟩ [I B x19,I H x20,T b21,T b22,I L x23,I B x24,I B x25,I D x26,I D x27,S A28 n28_ c28_])∧
(R (.returned (.tuple #[G #[I B x19,I H x20,T b21,T b22,I L x23,I B x24,I B x25,I D x26,I D x27,S A28 n28_ c28_],I L 0,I L 0,I L x7])) w18))))
else
((0≤x5∧x5≤(ic0:Int))∧
(Let (w3.heap.size) fun g29:Nat=>
 Let (w3.alloc (.cells #[S I0 x5.toNat ic0] 33)) fun w30:W=>
 Calls Tryz.prog 61 #[S (some ⟨g29,0,N⟩) 1 1] w30 (fun (e32:Ending) (w31:W)=>
 ∃ x33:Int,e32=.returned (I H x33)∧
((if (x33 != 0)=true then
(∃ x34 x35:Int,∃ b36 b37:Bool,∃ x38 x39 x40 x41 x42:Int,∃ (A43:Option Addr) (n43_ c43_:Nat),(10=10∧At w31 ⟨g1,0,N⟩ [I B x34,I H x35,T b36,T b37,I L x38,I B x39,I B x40,I D x41,I D x42,S A43 n43_ c43_])∧
(May w31 ⟨g1,0,N⟩ 10∧
(Let (putCells w31 ⟨g1,0,N⟩ [I B x34,I H x35,T b36,T b37,I L x38,I B x39,I B x40,I D x41,I D x42,S A43 n43_ c43_] 0) fun w44:W=>
 ∃ x45 x46:Int,∃ b47 b48:Bool,∃ x49 x50 x51 x52 x53:Int,∃ (A54:Option Addr) (n54_ c54_:Nat),(10=10∧At w44 ⟨g1,0,N⟩ [I B x45,I H x46,T b47,T b48,I L x49,I B x50,I B x51,I D x52,I D x53,S A54 n54_ c54_])∧
(R (.returned (.tuple #[G #[I B x45,I H x46,T b47,T b48,I L x49,I B x50,I B x51,I D x52,I D x53,S A54 n54_ c54_],I L 0,I L 0,I L 33])) w44))))
else
(Calls Tryz.prog 110 #[S I0 in0 ic0,I L 6] w31 (fun (e56:Ending) (w55:W)=>
 ∃ x57:Int,e56=.returned (I H x57)∧
(Let (Go.bits .and .u16 x57 32768) fun x58:Int=>
(if (x58 != 0)=true then
(∃ x59 x60:Int,∃ b61 b62:Bool,∃ x63 x64 x65 x66 x67:Int,∃ (A68:Option Addr) (n68_ c68_:Nat),(10=10∧At w55 ⟨g1,0,N⟩ [I B x59,I H x60,T b61,T b62,I L x63,I B x64,I B x65,I D x66,I D x67,S A68 n68_ c68_])∧
(May w55 ⟨g1,0,N⟩ 10∧
(Let (putCells w55 ⟨g1,0,N⟩ [I B x59,I H x60,T b61,T b62,I L x63,I B x64,I B x65,I D x66,I D x67,S A68 n68_ c68_] 0) fun w69:W=>
 ∃ x70 x71:Int,∃ b72 b73:Bool,∃ x74 x75 x76 x77 x78:Int,∃ (A79:Option Addr) (n79_ c79_:Nat),(10=10∧At w69 ⟨g1,0,N⟩ [I B x70,I H x71,T b72,T b73,I L x74,I B x75,I B x76,I D x77,I D x78,S A79 n79_ c79_])∧
(R (.returned (.tuple #[G #[I B x70,I H x71,T b72,T b73,I L x74,I B x75,I B x76,I D x77,I D x78,S A79 n79_ c79_],I L 0,I L 0,I L 32])) w69))))
else
((0≤x5∧x5≤(ic0:Int))∧
(0≤(20:Int)∧(20:Int)≤(x5.toNat:Int))∧
(Calls Tryz.prog 64 #[S (cutA I0 20 ic0 1) (x5.toNat-20) (ic0-20)] w55 (fun (e81:Ending) (w80:W)=>
 ∃ b82:Bool,e81=.returned (T b82)∧
((if (!b82)=true then
(∃ x83 x84:Int,∃ b85 b86:Bool,∃ x87 x88 x89 x90 x91:Int,∃ (A92:Option Addr) (n92_ c92_:Nat),(10=10∧At w80 ⟨g1,0,N⟩ [I B x83,I H x84,T b85,T b86,I L x87,I B x88,I B x89,I D x90,I D x91,S A92 n92_ c92_])∧
(May w80 ⟨g1,0,N⟩ 10∧
(Let (putCells w80 ⟨g1,0,N⟩ [I B x83,I H x84,T b85,T b86,I L x87,I B x88,I B x89,I D x90,I D x91,S A92 n92_ c92_] 0) fun w93:W=>
 ∃ x94 x95:Int,∃ b96 b97:Bool,∃ x98 x99 x100 x101 x102:Int,∃ (A103:Option Addr) (n103_ c103_:Nat),(10=10∧At w93 ⟨g1,0,N⟩ [I B x94,I H x95,T b96,T b97,I L x98,I B x99,I B x100,I D x101,I D x102,S A103 n103_ c103_])∧
(R (.returned (.tuple #[G #[I B x94,I H x95,T b96,T b97,I L x98,I B x99,I B x100,I D x101,I D x102,S A103 n103_ c103_],I L 0,I L 0,I L 34])) w93))))
else
(Let (Go.bits .and .u16 x57 8191) fun x104:Int=>
 Let (L.wrap x104) fun x105:Int=>
 Let (L.wrap (x105 * 8)) fun x106:Int=>
 Let (Go.bits .and .u16 x57 8192) fun x107:Int=>
 Let (L.wrap (x6-x5)) fun x108:Int=>
 Calls Tryz.prog 65 #[I L x106,I L x108,T (x107 != 0)] w80 (fun (e110:Ending) (w109:W)=>
 ∃ b111:Bool,e110=.returned (T b111)∧
((if (!b111)=true then
(∃ x112 x113:Int,∃ b114 b115:Bool,∃ x116 x117 x118 x119 x120:Int,∃ (A121:Option Addr) (n121_ c121_:Nat),(10=10∧At w109 ⟨g1,0,N⟩ [I B x112,I H x113,T b114,T b115,I L x116,I B x117,I B x118,I D x119,I D x120,S A121 n121_ c121_])∧
(May w109 ⟨g1,0,N⟩ 10∧
(Let (putCells w109 ⟨g1,0,N⟩ [I B x112,I H x113,T b114,T b115,I L x116,I B x117,I B x118,I D x119,I D x120,S A121 n121_ c121_] 0) fun w122:W=>
 ∃ x123 x124:Int,∃ b125 b126:Bool,∃ x127 x128 x129 x130 x131:Int,∃ (A132:Option Addr) (n132_ c132_:Nat),(10=10∧At w122 ⟨g1,0,N⟩ [I B x123,I H x124,T b125,T b126,I L x127,I B x128,I B x129,I D x130,I D x131,S A132 n132_ c132_])∧
(R (.returned (.tuple #[G #[I B x123,I H x124,T b125,T b126,I L x127,I B x128,I B x129,I D x130,I D x131,S A132 n132_ c132_],I L 0,I L 0,I L 36])) w122))))
else
(∃ S133:W→Prop,S133 w109.drew∧
(Let (w109.drew) fun w134:W=>
 ∃ a135:Addr,I0=some a135∧(0≤(1:Int)∧(1:Int) < (in0:Int))∧
(∃ x136:Int,(∀ w',S133 w'→w'.cell? (a135.add 1)=some (I B x136))∧
(Let (Go.bits .and .u16 x57 16384) fun x137:Int=>
 ∃ a138:Addr,I0=some a138∧(0≤(8:Int)∧(8:Int) < (in0:Int))∧
(∃ x139:Int,(∀ w',S133 w'→w'.cell? (a138.add 8)=some (I B x139))∧
(∃ a140:Addr,I0=some a140∧(0≤(9:Int)∧(9:Int) < (in0:Int))∧
(∃ x141:Int,(∀ w',S133 w'→w'.cell? (a140.add 9)=some (I B x141))∧
(Calls Tryz.prog 110 #[S I0 in0 ic0,I L 4] w134 (fun (e143:Ending) (w142:W)=>
 ∃ x144:Int,e143=.returned (I H x144)∧
(S133 w142∧
(Calls Tryz.prog 111 #[S I0 in0 ic0,I L 12] w142 (fun (e146:Ending) (w145:W)=>
 ∃ x147:Int,e146=.returned (I D x147)∧
(S133 w145∧
(Calls Tryz.prog 111 #[S I0 in0 ic0,I L 16] w145 (fun (e149:Ending) (w148:W)=>
 ∃ x150:Int,e149=.returned (I D x150)∧
(S133 w148∧
(May w148 ⟨g1,0,N⟩ 10∧
(Let (putCells w148 ⟨g1,0,N⟩ [I B x136,I H x144,T (x137 != 0),T (x107 != 0),I L x106,I B x139,I B x141,I D x147,I D x150,S N 0 0] 0) fun w151:W=>
 S133 w151∧
(∃ x152 x153:Int,∃ b154 b155:Bool,∃ x156 x157 x158 x159 x160:Int,∃ (A161:Option Addr) (n161_ c161_:Nat),(10=10∧At w151 ⟨g1,0,N⟩ [I B x152,I H x153,T b154,T b155,I L x156,I B x157,I B x158,I D x159,I D x160,S A161 n161_ c161_])∧
(May w151 ⟨g1,0,N⟩ 10∧
(Let (putCells w151 ⟨g1,0,N⟩ [I B x152,I H x153,T b154,T b155,I L x156,I B x157,I B x158,I D x159,I D x160,S A161 n161_ c161_] 0) fun w162:W=>
 ∃ x163 x164:Int,∃ b165 b166:Bool,∃ x167 x168 x169 x170 x171:Int,∃ (A172:Option Addr) (n172_ c172_:Nat),(10=10∧At w162 ⟨g1,0,N⟩ [I B x163,I H x164,T b165,T b166,I L x167,I B x168,I B x169,I D x170,I D x171,S A172 n172_ c172_])∧
(R (.returned (.tuple #[G #[I B x163,I H x164,T b165,T b166,I L x167,I B x168,I B x169,I D x170,I D x171,S A172 n172_ c172_],I L x5,I L x6,I L 0])) w162))))))))))))))))))))))))))))))))))))))))))))
theorem qq107.run (h:qq107.s I0 in0 ic0 i1 w R):Calls Tryz.prog 102 #[S I0 in0 ic0,T i1] w R:=
 calls_segk (ords:=qq107.ords) (J:=qq107.joins) ents mixed Tryz.func102 rfl h (by kernel_rfl)
def qq95.ords:Nat→Od
 | 10=>(.tk 0 (.tk 1 (.tk 2 (.tk 3 (.tk 4 (.tk 5 (.tk 6 (.tk 7 (.tk 8 (.on 9 (.tk 10 (.on 11 .nil))))))))))))
 | 19=>(.tk 0 (.tk 1 (.tk 2 (.tk 3 (.tk 4 (.tk 5 (.tk 6 (.on 7 (.tk 8 (.on 9 .nil))))))))))
 | 22=>(.tk 0 (.tk 1 (.tk 2 (.tk 3 (.on 4 .nil)))))
 | 23=>(.tk 0 (.tk 1 (.tk 2 (.tk 3 (.tk 4 (.on 5 .nil))))))
 | 24=>(.tk 0 (.tk 1 (.tk 2 (.tk 3 (.tk 4 (.tk 5 (.on 6 (.on 7 (.on 8 .nil)))))))))
 | _=>.nil
def qq95.joins (p:List Nat):Bool:=p == [1,1,1,1,1,1,1,1,1,1,1] || p == [1,1,1,1,1,1,1,1,1,1,1,1]
def qq95.j1 (yg1 yg4:Nat) (y5:Int) (Y6:Option Addr) (yn6 yc6:Nat) (y7:Int) (d0 d2 d3 d8 d9 dA dB dC dD dE dF dG dH dI dJ dK dL dM dN dO dP dQ dR dS dT dU dV dW dX dY dZ k0 k1 k2 k3 k4 k5 k6 k7 k8 k9 kA kB kC kD kE kF kG kH kI kJ kK kL kM kN kO kP kQ kR kS kT kU kV kW kX kY kZ v0 v1 v2 v3 v4 v5 v6 v7 v8 v9 vA vB vC vD vE vF vG vH vI vJ vK vL vM vN vO vP vQ vR vS vT vU vV vW vX vY vZ o0 o1 o2 o3:V) (w:W) (R:E):Prop:=
 seg Tryz.prog entE qq95.ords qq95.joins Tryz.f34 [1,1,1,1,1,1,1,1,1,1,1] [1,1,1,1,1,1,1,1,1,1,1] [] [d0,P (some ⟨yg1,0,N⟩),d2,d3,P (some ⟨yg4,0,N⟩),I L y5,S Y6 yn6 yc6,I H y7,d8,d9,dA,dB,dC,dD,dE,dF,dG,dH,dI,dJ,dK,dL,dM,dN,dO,dP,dQ,dR,dS,dT,dU,dV,dW,dX,dY,dZ,k0,k1,k2,k3,k4,k5,k6,k7,k8,k9,kA,kB,kC,kD,kE,kF,kG,kH,kI,kJ,kK,kL,kM,kN,kO,kP,kQ,kR,kS,kT,kU,kV,kW,kX,kY,kZ,v0,v1,v2,v3,v4,v5,v6,v7,v8,v9,vA,vB,vC,vD,vE,vF,vG,vH,vI,vJ,vK,vL,vM,vN,vO,vP,vQ,vR,vS,vT,vU,vV,vW,vX,vY,vZ,o0,o1,o2,o3] w R
def qq95.j2 (yg1 yg4:Nat) (y5:Int) (Y6:Option Addr) (yn6 yc6:Nat) (y7:Int) (d0 d2 d3 d8 d9 dA dB dC dD dE dF dG dH dI dJ dK dL dM dN dO dP dQ dR dS dT dU dV dW dX dY dZ k0 k1 k2 k3 k4 k5 k6 k7 k8 k9 kA kB kC kD kE kF kG kH kI kJ kK kL kM kN kO kP kQ kR kS kT kU kV kW kX kY kZ v0 v1 v2 v3 v4 v5 v6 v7 v8 v9 vA vB vC vD vE vF vG vH vI vJ vK vL vM vN vO vP vQ vR vS vT vU vV vW vX vY vZ o0 o1 o2 o3:V) (w:W) (R:E):Prop:=
 seg Tryz.prog entE qq95.ords qq95.joins Tryz.f34 [1,1,1,1,1,1,1,1,1,1,1,1] [1,1,1,1,1,1,1,1,1,1,1,1] [] [d0,P (some ⟨yg1,0,N⟩),d2,d3,P (some ⟨yg4,0,N⟩),I L y5,S Y6 yn6 yc6,I H y7,d8,d9,dA,dB,dC,dD,dE,dF,dG,dH,dI,dJ,dK,dL,dM,dN,dO,dP,dQ,dR,dS,dT,dU,dV,dW,dX,dY,dZ,k0,k1,k2,k3,k4,k5,k6,k7,k8,k9,kA,kB,kC,kD,kE,kF,kG,kH,kI,kJ,kK,kL,kM,kN,kO,kP,kQ,kR,kS,kT,kU,kV,kW,kX,kY,kZ,v0,v1,v2,v3,v4,v5,v6,v7,v8,v9,vA,vB,vC,vD,vE,vF,vG,vH,vI,vJ,vK,vL,vM,vN,vO,vP,vQ,vR,vS,vT,vU,vV,vW,vX,vY,vZ,o0,o1,o2,o3] w R
abbrev qq95.J1 (yg1 yg4:Nat) (y5:Int) (Y6:Option Addr) (yn6 yc6:Nat) (y7:Int) (w:W) (R:E):Prop:=∀ d0 d2 d3 d8 d9 dA dB dC dD dE dF dG dH dI dJ dK dL dM dN dO dP dQ dR dS dT dU dV dW dX dY dZ k0 k1 k2 k3 k4 k5 k6 k7 k8 k9 kA kB kC kD kE kF kG kH kI kJ kK kL kM kN kO kP kQ kR kS kT kU kV kW kX kY kZ v0 v1 v2 v3 v4 v5 v6 v7 v8 v9 vA vB vC vD vE vF vG vH vI vJ vK vL vM vN vO vP vQ vR vS vT vU vV vW vX vY vZ o0 o1 o2 o3,qq95.j1 yg1 yg4 y5 Y6 yn6 yc6 y7 d0 d2 d3 d8 d9 dA dB dC dD dE dF dG dH dI dJ dK dL dM dN dO dP dQ dR dS dT dU dV dW dX dY dZ k0 k1 k2 k3 k4 k5 k6 k7 k8 k9 kA kB kC kD kE kF kG kH kI kJ kK kL kM kN kO kP kQ kR kS kT kU kV kW kX kY kZ v0 v1 v2 v3 v4 v5 v6 v7 v8 v9 vA vB vC vD vE vF vG vH vI vJ vK vL vM vN vO vP vQ vR vS vT vU vV vW vX vY vZ o0 o1 o2 o3 w R
abbrev qq95.J2 (yg1 yg4:Nat) (y5:Int) (Y6:Option Addr) (yn6 yc6:Nat) (y7:Int) (w:W) (R:E):Prop:=∀ d0 d2 d3 d8 d9 dA dB dC dD dE dF dG dH dI dJ dK dL dM dN dO dP dQ dR dS dT dU dV dW dX dY dZ k0 k1 k2 k3 k4 k5 k6 k7 k8 k9 kA kB kC kD kE kF kG kH kI kJ kK kL kM kN kO kP kQ kR kS kT kU kV kW kX kY kZ v0 v1 v2 v3 v4 v5 v6 v7 v8 v9 vA vB vC vD vE vF vG vH vI vJ vK vL vM vN vO vP vQ vR vS vT vU vV vW vX vY vZ o0 o1 o2 o3,qq95.j2 yg1 yg4 y5 Y6 yn6 yc6 y7 d0 d2 d3 d8 d9 dA dB dC dD dE dF dG dH dI dJ dK dL dM dN dO dP dQ dR dS dT dU dV dW dX dY dZ k0 k1 k2 k3 k4 k5 k6 k7 k8 k9 kA kB kC kD kE kF kG kH kI kJ kK kL kM kN kO kP kQ kR kS kT kU kV kW kX kY kZ v0 v1 v2 v3 v4 v5 v6 v7 v8 v9 vA vB vC vD vE vF vG vH vI vJ vK vL vM vN vO vP vQ vR vS vT vU vV vW vX vY vZ o0 o1 o2 o3 w R
theorem qq95.j1_eq:qq95.j1 yg1 yg4 y5 Y6 yn6 yc6 y7 d0 d2 d3 d8 d9 dA dB dC dD dE dF dG dH dI dJ dK dL dM dN dO dP dQ dR dS dT dU dV dW dX dY dZ k0 k1 k2 k3 k4 k5 k6 k7 k8 k9 kA kB kC kD kE kF kG kH kI kJ kK kL kM kN kO kP kQ kR kS kT kU kV kW kX kY kZ v0 v1 v2 v3 v4 v5 v6 v7 v8 v9 vA vB vC vD vE vF vG vH vI vJ vK vL vM vN vO vP vQ vR vS vT vU vV vW vX vY vZ o0 o1 o2 o3 w R =
(∃ b1:Bool,w.cell? ⟨yg4,3,N⟩=some (T b1)∧
((if b1=true then
(Let (Go.bits .or .u16 y7 8192) fun x2:Int=>
 Leaf (qq95.j2 yg1 yg4 y5 Y6 yn6 yc6 x2 d0 d2 d3 d8 d9 dA dB dC dD dE dF dG dH dI dJ dK dL dM dN dO dP dQ dR dS dT dU dV dW dX dY dZ k0 k1 k2 k3 k4 k5 k6 k7 k8 k9 kA kB kC kD kE kF kG kH kI kJ kK kL kM kN kO kP kQ kR kS kT kU kV (P (some ⟨yg4,3,N⟩)) (T b1) (I H y7) (I H x2) v0 v1 v2 v3 v4 v5 v6 v7 v8 v9 vA vB vC vD vE vF vG vH vI vJ vK vL vM vN vO vP vQ vR vS vT vU vV vW vX vY vZ o0 o1 o2 o3 w R))
else
(Leaf (qq95.j2 yg1 yg4 y5 Y6 yn6 yc6 y7 d0 d2 d3 d8 d9 dA dB dC dD dE dF dG dH dI dJ dK dL dM dN dO dP dQ dR dS dT dU dV dW dX dY dZ k0 k1 k2 k3 k4 k5 k6 k7 k8 k9 kA kB kC kD kE kF kG kH kI kJ kK kL kM kN kO kP kQ kR kS kT kU kV (P (some ⟨yg4,3,N⟩)) (T b1) kY kZ v0 v1 v2 v3 v4 v5 v6 v7 v8 v9 vA vB vC vD vE vF vG vH vI vJ vK vL vM vN vO vP vQ vR vS vT vU vV vW vX vY vZ o0 o1 o2 o3 w R))))):=by kernel_rfl
theorem qq95.j2_eq:qq95.j2 yg1 yg4 y5 Y6 yn6 yc6 y7 d0 d2 d3 d8 d9 dA dB dC dD dE dF dG dH dI dJ dK dL dM dN dO dP dQ dR dS dT dU dV dW dX dY dZ k0 k1 k2 k3 k4 k5 k6 k7 k8 k9 kA kB kC kD kE kF kG kH kI kJ kK kL kM kN kO kP kQ kR kS kT kU kV kW kX kY kZ v0 v1 v2 v3 v4 v5 v6 v7 v8 v9 vA vB vC vD vE vF vG vH vI vJ vK vL vM vN vO vP vQ vR vS vT vU vV vW vX vY vZ o0 o1 o2 o3 w R =
(Calls Tryz.prog 66 #[S Y6 yn6 yc6,I L 6,I H y7] w (fun (e2:Ending) (w1:W)=>
 e2=.returned (.tuple #[])∧
(∃ S3:W→Prop,S3 w1.drew∧
(Let (w1.drew) fun w4:W=>
 ∃ x5:Int,(∀ w',S3 w'→w'.cell? ⟨yg4,5,N⟩=some (I B x5))∧
(∃ x6:Int,(∀ w',S3 w'→w'.cell? ⟨yg4,6,N⟩=some (I B x6))∧
(∃ a7:Addr,Y6=some a7∧(0≤(8:Int)∧(8:Int) < (yn6:Int))∧
(MayC w4 (a7.add 8)∧
(Let (w4.setCell (a7.add 8) (I B x5)) fun w8:W=>
 S3 w8∧
(∃ a9:Addr,Y6=some a9∧(0≤(9:Int)∧(9:Int) < (yn6:Int))∧
(MayC w8 (a9.add 9)∧
(Let (w8.setCell (a9.add 9) (I B x6)) fun w10:W=>
 S3 w10∧
(∃ x11:Int,w10.cell? ⟨yg4,7,N⟩=some (I D x11)∧
(Calls Tryz.prog 67 #[S Y6 yn6 yc6,I L 12,I D x11] w10 (fun (e13:Ending) (w12:W)=>
 e13=.returned (.tuple #[])∧
(∃ x14:Int,w12.cell? ⟨yg4,8,N⟩=some (I D x14)∧
(Calls Tryz.prog 67 #[S Y6 yn6 yc6,I L 16,I D x14] w12 (fun (e16:Ending) (w15:W)=>
 e16=.returned (.tuple #[])∧
(∃ S17:W→Prop,S17 w15.drew∧
(Let (w15.drew) fun w18:W=>
(0≤(20:Int)∧(20:Int)≤(yn6:Int))∧
(∃ (A19:Option Addr) (n19_ c19_:Nat),(∀ w',S17 w'→w'.cell? ⟨yg4,9,N⟩=some (S A19 n19_ c19_))∧
(CopyE w18 (cutA Y6 20 yc6 1) (yn6-20) A19 n19_ (fun w20:W=>
 S17 w20∧
(∃ S21:W→Prop,S21 w20.drew∧
(Let (w20.drew) fun w22:W=>
(0≤y5∧y5≤(yn6:Int))∧
(∃ (A23:Option Addr) (n23_ c23_:Nat),(∀ w',S21 w'→w'.cell? ⟨yg1,10,N⟩=some (S A23 n23_ c23_))∧
(CopyE w22 (cutA Y6 y5.toNat yc6 1) (yn6-y5.toNat) A23 n23_ (fun w24:W=>
 S21 w24∧
(∃ S25:W→Prop,S25 w24.drew∧
(Let (w24.drew) fun w26:W=>
(0≤(10:Int)∧(10:Int)≤(yc6:Int))∧
((0≤y5∧y5≤(yc6:Int))∧
(0≤(12:Int)∧(12:Int)≤(y5.toNat:Int))∧
(Let (w26.heap.size) fun g27:Nat=>
 Let (w26.alloc (.cells #[S Y6 10 yc6,S (cutA Y6 12 yc6 1) (y5.toNat-12) (yc6-12)] 33)) fun w28:W=>
 S25 w28∧
(Calls Tryz.prog 61 #[S (some ⟨g27,0,N⟩) 2 2] w28 (fun (e30:Ending) (w29:W)=>
 ∃ x31:Int,e30=.returned (I H x31)∧
(S25 w29∧
(Calls Tryz.prog 66 #[S Y6 yn6 yc6,I L 10,I H x31] w29 (fun (e33:Ending) (w32:W)=>
 e33=.returned (.tuple #[])∧
(S25 w32∧
(R (.returned (.tuple #[S Y6 yn6 yc6,I L 0])) w32)))))))))))))))))))))))))))))))))))))):=by kernel_rfl
def qq95.s (i0_0 i0_1:Int) (i0_2 i0_3:Bool) (i0_4 i0_5 i0_6 i0_7 i0_8:Int) (I0_9:Option Addr) (in0_9 ic0_9:Nat) (I0_10:Option Addr) (in0_10 ic0_10:Nat) (w:W) (R:E):Prop:=
(Let (w.heap.size) fun g1:Nat=>
 Let (w.alloc (.cells #[I B i0_0,I H i0_1,T i0_2,T i0_3,I L i0_4,I B i0_5,I B i0_6,I D i0_7,I D i0_8,S I0_9 in0_9 ic0_9,S I0_10 in0_10 ic0_10] 37)) fun w2:W=>
 ∃ x3 x4:Int,∃ b5 b6:Bool,∃ x7 x8 x9 x10 x11:Int,∃ (A12:Option Addr) (n12_ c12_:Nat),(10=10∧At w2 ⟨g1,0,N⟩ [I B x3,I H x4,T b5,T b6,I L x7,I B x8,I B x9,I D x10,I D x11,S A12 n12_ c12_])∧
(Let (w2.heap.size) fun g13:Nat=>
 Let (w2.alloc (.cells #[I B 0,I H 0,T false,T false,I L 0,I B 0,I B 0,I D 0,I D 0,S N 0 0] 35)) fun w14:W=>
 May w14 ⟨g13,0,N⟩ 10∧
(Let (putCells w14 ⟨g13,0,N⟩ [I B x3,I H x4,T b5,T b6,I L x7,I B x8,I B x9,I D x10,I D x11,S A12 n12_ c12_] 0) fun w15:W=>
 ∃ (A16:Option Addr) (n16_ c16_:Nat),w15.cell? ⟨g13,9,N⟩=some (S A16 n16_ c16_)∧
(Calls Tryz.prog 64 #[S A16 n16_ c16_] w15 (fun (e18:Ending) (w17:W)=>
 ∃ b19:Bool,e18=.returned (T b19)∧
((if (!b19)=true then
(R (.returned (.tuple #[S N 0 0,I L 34])) w17)
else
(∃ x20:Int,w17.cell? ⟨g13,4,N⟩=some (I L x20)∧
(∃ (A21:Option Addr) (n21_ c21_:Nat),w17.cell? ⟨g1,10,N⟩=some (S A21 n21_ c21_)∧
(∃ b22:Bool,w17.cell? ⟨g13,3,N⟩=some (T b22)∧
(Calls Tryz.prog 65 #[I L x20,I L (n21_:Int),T b22] w17 (fun (e24:Ending) (w23:W)=>
 ∃ b25:Bool,e24=.returned (T b25)∧
((if (!b25)=true then
(R (.returned (.tuple #[S N 0 0,I L 36])) w23)
else
(∃ (A26:Option Addr) (n26_ c26_:Nat),w23.cell? ⟨g13,9,N⟩=some (S A26 n26_ c26_)∧
(Let (L.wrap (20+(n26_:Int))) fun x27:Int=>
 ∃ (A28:Option Addr) (n28_ c28_:Nat),w23.cell? ⟨g1,10,N⟩=some (S A28 n28_ c28_)∧
(Let (L.wrap (x27+(n28_:Int))) fun x29:Int=>
(if decide (x29 > 65535)=true then
(R (.returned (.tuple #[S N 0 0,I L 37])) w23)
else
(∃ (A30:Option Addr) (n30_ c30_:Nat),w23.cell? ⟨g1,10,N⟩=some (S A30 n30_ c30_)∧
(Let (L.wrap (x27+(n30_:Int))) fun x31:Int=>
(0≤x31∧x31≤x31∧x31≤9223372036854775807∧(1:Int) * x31≤281474976710656)∧
(Let (w23.heap.size) fun g32:Nat=>
 Let (w23.alloc (.cells (List.replicate x31.toNat (I B 0)).toArray 5)) fun w33:W=>
 ∃ S34:W→Prop,S34 w33.drew∧
(Let (w33.drew) fun w35:W=>
 Let (L.wrap (Int.tdiv x27 4)) fun x36:Int=>
 Let (Go.bits .or .i64 64 x36) fun x37:Int=>
 Let (B.wrap x37) fun x38:Int=>
 ∃ x39:Int,(∀ w',S34 w'→w'.cell? ⟨g13,0,N⟩=some (I B x39))∧
(∃ a40:Addr,some ⟨g32,0,N⟩=some a40∧(0≤(0:Int)∧(0:Int) < (x31.toNat:Int))∧
(MayC w35 a40∧
(Let (w35.setCell a40 (I B x38)) fun w41:W=>
 S34 w41∧
(∃ a42:Addr,some ⟨g32,0,N⟩=some a42∧(0≤(1:Int)∧(1:Int) < (x31.toNat:Int))∧
(MayC w41 (a42.add 1)∧
(Let (w41.setCell (a42.add 1) (I B x39)) fun w43:W=>
 S34 w43∧
(Let (H.wrap (x31.toNat:Int)) fun x44:Int=>
 Calls Tryz.prog 66 #[S (some ⟨g32,0,N⟩) x31.toNat x31.toNat,I L 2,I H x44] w43 (fun (e46:Ending) (w45:W)=>
 e46=.returned (.tuple #[])∧
(∃ x47:Int,w45.cell? ⟨g13,1,N⟩=some (I H x47)∧
(Calls Tryz.prog 66 #[S (some ⟨g32,0,N⟩) x31.toNat x31.toNat,I L 4,I H x47] w45 (fun (e49:Ending) (w48:W)=>
 e49=.returned (.tuple #[])∧
(∃ x50:Int,w48.cell? ⟨g13,4,N⟩=some (I L x50)∧
(Let (L.wrap (Int.tdiv x50 8)) fun x51:Int=>
 Let (H.wrap x51) fun x52:Int=>
 ∃ b53:Bool,w48.cell? ⟨g13,2,N⟩=some (T b53)∧
((if b53=true then
(Let (Go.bits .or .u16 x52 16384) fun x54:Int=>
 Leaf (qq95.j1 g1 g13 x27 (some ⟨g32,0,N⟩) x31.toNat x31.toNat x54 (G #[I B i0_0,I H i0_1,T i0_2,T i0_3,I L i0_4,I B i0_5,I B i0_6,I D i0_7,I D i0_8,S I0_9 in0_9 ic0_9,S I0_10 in0_10 ic0_10]) (S N 0 0) (I L 0) (P (some ⟨g1,0,N⟩)) (G #[I B x3,I H x4,T b5,T b6,I L x7,I B x8,I B x9,I D x10,I D x11,S A12 n12_ c12_]) (T (!b19)) (P (some ⟨g13,9,N⟩)) (S A16 n16_ c16_) (T b19) (T (!b19)) (T (!b25)) (P (some ⟨g13,4,N⟩)) (I L x20) (P (some ⟨g1,10,N⟩)) (S A21 n21_ c21_) (I L (n21_:Int)) (P (some ⟨g13,3,N⟩)) (T b22) (T b25) (T (!b25)) (P (some ⟨g13,9,N⟩)) (S A26 n26_ c26_) (I L (n26_:Int)) (I L x27) (I L x27) (P (some ⟨g1,10,N⟩)) (S A28 n28_ c28_) (I L (n28_:Int)) (I L x29) (T (decide (x29 > 65535))) (I L x27) (P (some ⟨g1,10,N⟩)) (S A30 n30_ c30_) (I L (n30_:Int)) (I L x31) (S (some ⟨g32,0,N⟩) x31.toNat x31.toNat) (S (some ⟨g32,0,N⟩) x31.toNat x31.toNat) (S (some ⟨g32,0,N⟩) x31.toNat x31.toNat) (I L x27) (I L x36) (I L x37) (I B x38) (P (some ⟨g13,0,N⟩)) (I B x39) (P (some a40)) (P (some (a42.add 1))) (S (some ⟨g32,0,N⟩) x31.toNat x31.toNat) (S (some ⟨g32,0,N⟩) x31.toNat x31.toNat) (I L (x31.toNat:Int)) (I H x44) (.tuple #[]) (S (some ⟨g32,0,N⟩) x31.toNat x31.toNat) (P (some ⟨g13,1,N⟩)) (I H x47) (.tuple #[]) (P (some ⟨g13,4,N⟩)) (I L x50) (I L x51) (I H x52) (P (some ⟨g13,2,N⟩)) (T b53) (I H x52) (I H x54) U U U U U U U U U U U U U U U U U U U U U U U U U U U U U U U U U U U U U U U U U U U U w48 R))
else
(Leaf (qq95.j1 g1 g13 x27 (some ⟨g32,0,N⟩) x31.toNat x31.toNat x52 (G #[I B i0_0,I H i0_1,T i0_2,T i0_3,I L i0_4,I B i0_5,I B i0_6,I D i0_7,I D i0_8,S I0_9 in0_9 ic0_9,S I0_10 in0_10 ic0_10]) (S N 0 0) (I L 0) (P (some ⟨g1,0,N⟩)) (G #[I B x3,I H x4,T b5,T b6,I L x7,I B x8,I B x9,I D x10,I D x11,S A12 n12_ c12_]) (T (!b19)) (P (some ⟨g13,9,N⟩)) (S A16 n16_ c16_) (T b19) (T (!b19)) (T (!b25)) (P (some ⟨g13,4,N⟩)) (I L x20) (P (some ⟨g1,10,N⟩)) (S A21 n21_ c21_) (I L (n21_:Int)) (P (some ⟨g13,3,N⟩)) (T b22) (T b25) (T (!b25)) (P (some ⟨g13,9,N⟩)) (S A26 n26_ c26_) (I L (n26_:Int)) (I L x27) (I L x27) (P (some ⟨g1,10,N⟩)) (S A28 n28_ c28_) (I L (n28_:Int)) (I L x29) (T (decide (x29 > 65535))) (I L x27) (P (some ⟨g1,10,N⟩)) (S A30 n30_ c30_) (I L (n30_:Int)) (I L x31) (S (some ⟨g32,0,N⟩) x31.toNat x31.toNat) (S (some ⟨g32,0,N⟩) x31.toNat x31.toNat) (S (some ⟨g32,0,N⟩) x31.toNat x31.toNat) (I L x27) (I L x36) (I L x37) (I B x38) (P (some ⟨g13,0,N⟩)) (I B x39) (P (some a40)) (P (some (a42.add 1))) (S (some ⟨g32,0,N⟩) x31.toNat x31.toNat) (S (some ⟨g32,0,N⟩) x31.toNat x31.toNat) (I L (x31.toNat:Int)) (I H x44) (.tuple #[]) (S (some ⟨g32,0,N⟩) x31.toNat x31.toNat) (P (some ⟨g13,1,N⟩)) (I H x47) (.tuple #[]) (P (some ⟨g13,4,N⟩)) (I L x50) (I L x51) (I H x52) (P (some ⟨g13,2,N⟩)) (T b53) U U U U U U U U U U U U U U U U U U U U U U U U U U U U U U U U U U U U U U U U U U U U U U w48 R)))))))))))))))))))))))))))))))))))))))
theorem qq95.run (h:qq95.s i0_0 i0_1 i0_2 i0_3 i0_4 i0_5 i0_6 i0_7 i0_8 I0_9 in0_9 ic0_9 I0_10 in0_10 ic0_10 w R):Calls Tryz.prog 34 #[G #[I B i0_0,I H i0_1,T i0_2,T i0_3,I L i0_4,I B i0_5,I B i0_6,I D i0_7,I D i0_8,S I0_9 in0_9 ic0_9,S I0_10 in0_10 ic0_10]] w R:=
 calls_segk (ords:=qq95.ords) (J:=qq95.joins) ents mixed Tryz.func34 rfl h (by kernel_rfl)
def qq99.ords:Nat→Od
 | 6=>(.tk 0 (.tk 1 (.tk 2 (.tk 3 (.tk 4 (.tk 5 (.tk 6 (.on 7 (.tk 8 (.tk 9 (.tk 10 (.tk 11 (.on 12 (.tk 13 .nil))))))))))))))
 | _=>.nil
def qq99.joins (p:List Nat):Bool:=false
def qq99.s (I0:Option Addr) (in0 ic0:Nat) (w:W) (R:E):Prop:=
(Let (w.heap.size) fun g1:Nat=>
 Let (w.alloc (.cells #[I B 0,I H 0,T false,T false,I L 0,I B 0,I B 0,I D 0,I D 0,S N 0 0] 35)) fun w2:W=>
 Calls Tryz.prog 102 #[S I0 in0 ic0,T false] w2 (fun (e4:Ending) (w3:W)=>
 ∃ x5 x6:Int,∃ b7 b8:Bool,∃ x9 x10 x11 x12 x13:Int,∃ (A14:Option Addr) (n14_ c14_:Nat),∃ x15 x16 x17:Int,e4=.returned (.tuple #[G #[I B x5,I H x6,T b7,T b8,I L x9,I B x10,I B x11,I D x12,I D x13,S A14 n14_ c14_],I L x15,I L x16,I L x17])∧
(Let (w3.heap.size) fun g18:Nat=>
 Let (w3.alloc (.cells #[I B 0,I H 0,T false,T false,I L 0,I B 0,I B 0,I D 0,I D 0,S N 0 0] 35)) fun w19:W=>
 May w19 ⟨g18,0,N⟩ 10∧
(Let (putCells w19 ⟨g18,0,N⟩ [I B x5,I H x6,T b7,T b8,I L x9,I B x10,I B x11,I D x12,I D x13,S A14 n14_ c14_] 0) fun w20:W=>
(if (x17 != 0)=true then
(May w20 ⟨g1,0,N⟩ 10∧
(Let (putCells w20 ⟨g1,0,N⟩ [I B 0,I H 0,T false,T false,I L 0,I B 0,I B 0,I D 0,I D 0,S N 0 0] 0) fun w21:W=>
 ∃ x22 x23:Int,∃ b24 b25:Bool,∃ x26 x27 x28 x29 x30:Int,∃ (A31:Option Addr) (n31_ c31_:Nat),(10=10∧At w21 ⟨g1,0,N⟩ [I B x22,I H x23,T b24,T b25,I L x26,I B x27,I B x28,I D x29,I D x30,S A31 n31_ c31_])∧
(R (.returned (.tuple #[G #[I B x22,I H x23,T b24,T b25,I L x26,I B x27,I B x28,I D x29,I D x30,S A31 n31_ c31_],S N 0 0,I L x17])) w21)))
else
(Let ((if (in0:Int) < x16 then (in0:Int) else x16)) fun x32:Int=>
 ∃ S33:W→Prop,S33 w20.drew∧
(Let (w20.drew) fun w34:W=>
(0≤x15∧x15≤(ic0:Int))∧
(0≤(20:Int)∧(20:Int)≤(x15.toNat:Int))∧
((0≤x32∧x32≤(ic0:Int))∧
(0≤x15∧x15≤(x32.toNat:Int))∧
(Calls Tryz.prog 103 #[S (cutA I0 20 ic0 1) (x15.toNat-20) (ic0-20),S (cutA I0 x15.toNat ic0 1) (x32.toNat-x15.toNat) (ic0-x15.toNat)] w34 (fun (e36:Ending) (w35:W)=>
 ∃ (A37:Option Addr) (n37_ c37_:Nat),∃ (A38:Option Addr) (n38_ c38_:Nat),e36=.returned (.tuple #[S A37 n37_ c37_,S A38 n38_ c38_])∧
(S33 w35∧
(MayC w35 ⟨g18,9,N⟩∧
(Let (w35.setCell ⟨g18,9,N⟩ (S A37 n37_ c37_)) fun w39:W=>
 S33 w39∧
(∃ x40 x41:Int,∃ b42 b43:Bool,∃ x44 x45 x46 x47 x48:Int,∃ (A49:Option Addr) (n49_ c49_:Nat),(10=10∧At w39 ⟨g18,0,N⟩ [I B x40,I H x41,T b42,T b43,I L x44,I B x45,I B x46,I D x47,I D x48,S A49 n49_ c49_])∧
(May w39 ⟨g1,0,N⟩ 10∧
(Let (putCells w39 ⟨g1,0,N⟩ [I B x40,I H x41,T b42,T b43,I L x44,I B x45,I B x46,I D x47,I D x48,S A49 n49_ c49_] 0) fun w50:W=>
 ∃ x51 x52:Int,∃ b53 b54:Bool,∃ x55 x56 x57 x58 x59:Int,∃ (A60:Option Addr) (n60_ c60_:Nat),(10=10∧At w50 ⟨g1,0,N⟩ [I B x51,I H x52,T b53,T b54,I L x55,I B x56,I B x57,I D x58,I D x59,S A60 n60_ c60_])∧
(R (.returned (.tuple #[G #[I B x51,I H x52,T b53,T b54,I L x55,I B x56,I B x57,I D x58,I D x59,S A60 n60_ c60_],S A38 n38_ c38_,I L 0])) w50)))))))))))))))))
theorem qq99.run (h:qq99.s I0 in0 ic0 w R):Calls Tryz.prog 92 #[S I0 in0 ic0] w R:=
 calls_segk (ords:=qq99.ords) (J:=qq99.joins) ents mixed Tryz.func92 rfl h (by kernel_rfl)
def qq91.ords:Nat→Od
 | _=>.nil
def qq91.joins (p:List Nat):Bool:=false
def qq91.s (i0 i1 i2:Int) (w:W) (R:E):Prop:=
(Let (Go.bits .xor .u16 65535 i0) fun x1:Int=>
 Let (Q.wrap x1) fun x2:Int=>
 Let (Go.bits .xor .u16 65535 i1) fun x3:Int=>
 Let (Q.wrap x3) fun x4:Int=>
 Let (Q.wrap (x2+x4)) fun x5:Int=>
 Let (Q.wrap i2) fun x6:Int=>
 Let (Q.wrap (x5+x6)) fun x7:Int=>
 Calls Tryz.prog 93 #[I Q x7] w (fun (e9:Ending) (w8:W)=>
 ∃ x10:Int,e9=.returned (I H x10)∧
(Let (Go.bits .xor .u16 65535 x10) fun x11:Int=>
 R (.returned (I H x11)) w8)))
theorem qq91.run (h:qq91.s i0 i1 i2 w R):Calls Tryz.prog 96 #[I H i0,I H i1,I H i2] w R:=
 calls_segk (ords:=qq91.ords) (J:=qq91.joins) ents mixed Tryz.func96 rfl h (by kernel_rfl)
end Go.Proofs.YtphbdmafchjjeaaGreatDoorS
