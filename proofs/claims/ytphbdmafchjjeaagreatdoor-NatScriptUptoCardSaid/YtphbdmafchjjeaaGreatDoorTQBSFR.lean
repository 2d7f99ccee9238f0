import Derived.Test.YtphbdmafchjjeaaGreatDoorTQBSPureM
namespace Go.Proofs.YtphbdmafchjjeaaGreatDoorS
open Go Go.Proofs
open Go renaming undef → U, World → W, Value → V
open Go.Value renaming int → I, slice → S, bool → T, pointer → P, agg → G
open Go.IntKind renaming u8 → B, u16 → H, u32 → D, u64 → Q, i64 → L
open Option renaming none → N
set_option autoImplicit true
set_option relaxedAutoImplicit true
set_option maxRecDepth 100000
set_option linter.unusedVariables false
def qq43.ords:Nat→Od
 | _=>.nil
def qq43.joins (p:List Nat):Bool:=false
def qq43.l1 (n:Nat) (Y0:Option Addr) (yn0 yc0:Nat) (Y3:Option Addr) (yn3 yc3:Nat) (y4:Int) (d1 d2 d5 d6 d7 d8 d9 dA dB dC dD dE dF dG dH dI:V) (w:W) (R:E):Prop:=
 lseg Tryz.prog entE qq43.ords qq43.joins Tryz.f108 [1,1,0,1,0] [0,1,0,1,1] [] n [S Y0 yn0 yc0,d1,d2,S Y3 yn3 yc3,I L y4,d5,d6,d7,d8,d9,dA,dB,dC,dD,dE,dF,dG,dH,dI] w R
abbrev qq43.L1 (n:Nat) (Y0:Option Addr) (yn0 yc0:Nat) (Y3:Option Addr) (yn3 yc3:Nat) (y4:Int) (w:W) (R:E):Prop:=∀ d1 d2 d5 d6 d7 d8 d9 dA dB dC dD dE dF dG dH dI,qq43.l1 n Y0 yn0 yc0 Y3 yn3 yc3 y4 d1 d2 d5 d6 d7 d8 d9 dA dB dC dD dE dF dG dH dI w R
theorem qq43.l1_eq {n:Nat}:qq43.l1 (n+1) Y0 yn0 yc0 Y3 yn3 yc3 y4 d1 d2 d5 d6 d7 d8 d9 dA dB dC dD dE dF dG dH dI w R =
((if decide (y4 < (yn0:Int))=true then
(∃ a1:Addr,Y0=some a1∧(0≤y4∧y4 < (yn0:Int))∧
(∃ x2:Int,w.cell? (a1.add y4.toNat)=some (I B x2)∧
(Let (w.heap.size) fun g3:Nat=>
 Let (w.alloc (.cells #[I B x2] 5)) fun w4:W=>
 AppE w4 1 1 5 [I B 0] Y3 yn3 yc3 (some ⟨g3,0,N⟩) 1 (fun (A5:Option Addr) (c6:Nat) (w7:W)=>
 Let (L.wrap (y4+1)) fun x8:Int=>
 qq43.l1 n Y0 yn0 yc0 A5 (yn3+1) c6 x8 d1 d2 (I L y4) (S Y0 yn0 yc0) (I L (yn0:Int)) (T (decide (y4 < (yn0:Int)))) (I L y4) (I L x8) (S Y3 yn3 yc3) (S Y0 yn0 yc0) (I L y4) (P (some (a1.add y4.toNat))) (I B x2) (S (some ⟨g3,0,N⟩) 1 1) (S A5 (yn3+1) c6) dI w7 R))))
else
(R (.returned (S Y3 yn3 yc3)) w))):=by kernel_rfl
def qq43.s (I0:Option Addr) (in0 ic0:Nat) (w:W) (R:E):Prop:=
(∃ n1:Nat,qq43.l1 n1 I0 in0 ic0 N 0 0 0 U (S N 0 0) U U U U U U U U U U U U U U w R)
theorem qq43.run (h:qq43.s I0 in0 ic0 w R):Calls Tryz.prog 108 #[S I0 in0 ic0] w R:=
 calls_segk (ords:=qq43.ords) (J:=qq43.joins) ents mixed Tryz.func108 rfl h (by kernel_rfl)
def qq77.ords:Nat→Od
 | 1=>(.tk 0 (.tk 1 (.tk 2 (.tk 3 (.tk 4 (.tk 5 (.tk 6 (.tk 7 (.tk 8 (.tk 9 (.tk 10 (.tk 11 (.tk 12 (.tk 13 .nil))))))))))))))
 | _=>.nil
def qq77.joins (p:List Nat):Bool:=false
def qq77.s (I0:Option Addr) (in0 ic0:Nat) (i1:Int) (w:W) (R:E):Prop:=
(∃ S1:W→Prop,S1 w.drew∧
(Let (w.drew) fun w2:W=>
 ∃ a3:Addr,I0=some a3∧(0≤i1∧i1 < (in0:Int))∧
(∃ x4:Int,(∀ w',S1 w'→w'.cell? (a3.add i1.toNat)=some (I B x4))∧
(Let (L.wrap x4) fun x5:Int=>
 Let (L.wrap (256 * x5)) fun x6:Int=>
 Let (L.wrap (i1+1)) fun x7:Int=>
 ∃ a8:Addr,I0=some a8∧(0≤x7∧x7 < (in0:Int))∧
(∃ x9:Int,(∀ w',S1 w'→w'.cell? (a8.add x7.toNat)=some (I B x9))∧
(Let (L.wrap x9) fun x10:Int=>
 Let (L.wrap (x6+x10)) fun x11:Int=>
 R (.returned (I L x11)) w2))))))
theorem qq77.run (h:qq77.s I0 in0 ic0 i1 w R):Calls Tryz.prog 106 #[S I0 in0 ic0,I L i1] w R:=
 calls_segk (ords:=qq77.ords) (J:=qq77.joins) ents mixed Tryz.func106 rfl h (by kernel_rfl)
def qq61.ords:Nat→Od
 | _=>.nil
def qq61.joins (p:List Nat):Bool:=false
def qq61.s (I0:Option Addr) (in0 ic0:Nat) (i1:Int) (w:W) (R:E):Prop:=
(Calls Tryz.prog 106 #[S I0 in0 ic0,I L i1] w (fun (e2:Ending) (w1:W)=>
 ∃ x3:Int,e2=.returned (I L x3)∧
(Let (L.wrap (65536 * x3)) fun x4:Int=>
 Let (L.wrap (i1+2)) fun x5:Int=>
 Calls Tryz.prog 106 #[S I0 in0 ic0,I L x5] w1 (fun (e7:Ending) (w6:W)=>
 ∃ x8:Int,e7=.returned (I L x8)∧
(Let (L.wrap (x4+x8)) fun x9:Int=>
 R (.returned (I L x9)) w6)))))
theorem qq61.run (h:qq61.s I0 in0 ic0 i1 w R):Calls Tryz.prog 107 #[S I0 in0 ic0,I L i1] w R:=
 calls_segk (ords:=qq61.ords) (J:=qq61.joins) ents mixed Tryz.func107 rfl h (by kernel_rfl)
def qq70.ords:Nat→Od
 | _=>.nil
def qq70.joins (p:List Nat):Bool:=false
def qq70.s (I0:Option Addr) (in0 ic0:Nat) (i1:Int) (w:W) (R:E):Prop:=
(Let (L.wrap (Int.tdiv i1 256)) fun x1:Int=>
 Let (B.wrap x1) fun x2:Int=>
 Let (Int.tmod i1 256) fun x3:Int=>
 Let (B.wrap x3) fun x4:Int=>
 Let (w.heap.size) fun g5:Nat=>
 Let (w.alloc (.cells #[I B x2,I B x4] 5)) fun w6:W=>
 AppE w6 1 1 5 [I B 0] I0 in0 ic0 (some ⟨g5,0,N⟩) 2 (fun (A7:Option Addr) (c8:Nat) (w9:W)=>
 R (.returned (S A7 (in0+2) c8)) w9))
theorem qq70.run (h:qq70.s I0 in0 ic0 i1 w R):Calls Tryz.prog 99 #[S I0 in0 ic0,I L i1] w R:=
 calls_segk (ords:=qq70.ords) (J:=qq70.joins) ents mixed Tryz.func99 rfl h (by kernel_rfl)
def qq53.ords:Nat→Od
 | _=>.nil
def qq53.joins (p:List Nat):Bool:=false
def qq53.l1 (n:Nat) (Y0:Option Addr) (yn0 yc0:Nat) (y3 y4:Int) (d1 d2 d5 d6 d7 d8 d9 dA dB dC dD dE dF dG dH dI dJ dK dL dM dN dO dP dQ dR dS dT:V) (w:W) (R:E):Prop:=
 lseg Tryz.prog entE qq53.ords qq53.joins Tryz.f87 [1,1,0,1,0] [0,1,0,1,1] [] n [S Y0 yn0 yc0,d1,d2,I L y3,I L y4,d5,d6,d7,d8,d9,dA,dB,dC,dD,dE,dF,dG,dH,dI,dJ,dK,dL,dM,dN,dO,dP,dQ,dR,dS,dT] w R
abbrev qq53.L1 (n:Nat) (Y0:Option Addr) (yn0 yc0:Nat) (y3 y4:Int) (w:W) (R:E):Prop:=∀ d1 d2 d5 d6 d7 d8 d9 dA dB dC dD dE dF dG dH dI dJ dK dL dM dN dO dP dQ dR dS dT,qq53.l1 n Y0 yn0 yc0 y3 y4 d1 d2 d5 d6 d7 d8 d9 dA dB dC dD dE dF dG dH dI dJ dK dL dM dN dO dP dQ dR dS dT w R
theorem qq53.l1_eq {n:Nat}:qq53.l1 (n+1) Y0 yn0 yc0 y3 y4 d1 d2 d5 d6 d7 d8 d9 dA dB dC dD dE dF dG dH dI dJ dK dL dM dN dO dP dQ dR dS dT w R =
((if decide (y4 < (yn0:Int))=true then
(Let (Int.tmod y4 2) fun x1:Int=>
(if (x1 == 0)=true then
(∃ a2:Addr,Y0=some a2∧(0≤y4∧y4 < (yn0:Int))∧
(∃ x3:Int,w.cell? (a2.add y4.toNat)=some (I B x3)∧
(Let (L.wrap x3) fun x4:Int=>
 Let (L.wrap (256 * x4)) fun x5:Int=>
 Let (L.wrap (y3+x5)) fun x6:Int=>
 Let (L.wrap (y4+1)) fun x7:Int=>
 qq53.l1 n Y0 yn0 yc0 x6 x7 d1 d2 (I L y4) (S Y0 yn0 yc0) (I L (yn0:Int)) (T (decide (y4 < (yn0:Int)))) (I L y4) (I L x7) (I L y4) (I L x1) (T (x1 == 0)) (I L y3) (S Y0 yn0 yc0) (I L y4) (P (some (a2.add y4.toNat))) (I B x3) (I L x4) (I L x5) (I L x6) dM dN dO dP dQ dR dS dT w R)))
else
(∃ a8:Addr,Y0=some a8∧(0≤y4∧y4 < (yn0:Int))∧
(∃ x9:Int,w.cell? (a8.add y4.toNat)=some (I B x9)∧
(Let (L.wrap x9) fun x10:Int=>
 Let (L.wrap (y3+x10)) fun x11:Int=>
 Let (L.wrap (y4+1)) fun x12:Int=>
 qq53.l1 n Y0 yn0 yc0 x11 x12 d1 d2 (I L y4) (S Y0 yn0 yc0) (I L (yn0:Int)) (T (decide (y4 < (yn0:Int)))) (I L y4) (I L x12) (I L y4) (I L x1) (T (x1 == 0)) dE dF dG dH dI dJ dK dL (I L y3) (S Y0 yn0 yc0) (I L y4) (P (some (a8.add y4.toNat))) (I B x9) (I L x10) (I L x11) dT w R)))))
else
(R (.returned (I L y3)) w))):=by kernel_rfl
def qq53.s (I0:Option Addr) (in0 ic0:Nat) (w:W) (R:E):Prop:=
(∃ n1:Nat,qq53.l1 n1 I0 in0 ic0 0 0 U (I L 0) U U U U U U U U U U U U U U U U U U U U U U U U U w R)
theorem qq53.run (h:qq53.s I0 in0 ic0 w R):Calls Tryz.prog 87 #[S I0 in0 ic0] w R:=
 calls_segk (ords:=qq53.ords) (J:=qq53.joins) ents mixed Tryz.func87 rfl h (by kernel_rfl)
def qq66.ords:Nat→Od
 | _=>.nil
def qq66.joins (p:List Nat):Bool:=false
def qq66.s (i0:Int) (w:W) (R:E):Prop:=
((if (i0 == 0)=true then
(R (.returned (I L 0)) w)
else
(Let (L.wrap (i0-1)) fun x1:Int=>
 Let (Int.tmod x1 65535) fun x2:Int=>
 Let (L.wrap (1+x2)) fun x3:Int=>
 R (.returned (I L x3)) w)))
theorem qq66.run (h:qq66.s i0 w R):Calls Tryz.prog 88 #[I L i0] w R:=
 calls_segk (ords:=qq66.ords) (J:=qq66.joins) ents mixed Tryz.func88 rfl h (by kernel_rfl)
def qq72.ords:Nat→Od
 | _=>.nil
def qq72.joins (p:List Nat):Bool:=false
def qq72.l1 (n:Nat) (Y0:Option Addr) (yn0 yc0:Nat) (Y3:Option Addr) (yn3 yc3:Nat) (y4:Int) (d1 d2 d5 d6 d7 d8 d9 dA dB dC dD dE dF dG dH dI dJ dK dL dM dN:V) (w:W) (R:E):Prop:=
 lseg Tryz.prog entE qq72.ords qq72.joins Tryz.f53 [1,1,0,1,0] [0,1,0,1,1] [] n [S Y0 yn0 yc0,d1,d2,S Y3 yn3 yc3,I L y4,d5,d6,d7,d8,d9,dA,dB,dC,dD,dE,dF,dG,dH,dI,dJ,dK,dL,dM,dN] w R
abbrev qq72.L1 (n:Nat) (Y0:Option Addr) (yn0 yc0:Nat) (Y3:Option Addr) (yn3 yc3:Nat) (y4:Int) (w:W) (R:E):Prop:=∀ d1 d2 d5 d6 d7 d8 d9 dA dB dC dD dE dF dG dH dI dJ dK dL dM dN,qq72.l1 n Y0 yn0 yc0 Y3 yn3 yc3 y4 d1 d2 d5 d6 d7 d8 d9 dA dB dC dD dE dF dG dH dI dJ dK dL dM dN w R
theorem qq72.l1_eq {n:Nat}:qq72.l1 (n+1) Y0 yn0 yc0 Y3 yn3 yc3 y4 d1 d2 d5 d6 d7 d8 d9 dA dB dC dD dE dF dG dH dI dJ dK dL dM dN w R =
((if decide (y4 < (yn0:Int))=true then
(∃ a1:Addr,Y0=some a1∧(0≤y4∧y4 < (yn0:Int))∧
(∃ (A2:Option Addr) (n2_ c2_:Nat),w.cell? (a1.add y4.toNat)=some (S A2 n2_ c2_)∧
(AppE w 1 1 5 [I B 0] Y3 yn3 yc3 A2 n2_ (fun (A3:Option Addr) (c4:Nat) (w5:W)=>
 Let (L.wrap (y4+1)) fun x6:Int=>
 qq72.l1 n Y0 yn0 yc0 A3 (yn3+n2_) c4 x6 d1 d2 d5 (I L y4) (S Y0 yn0 yc0) (I L (yn0:Int)) (T (decide (y4 < (yn0:Int)))) (I L y4) (I L x6) (S Y3 yn3 yc3) (S Y0 yn0 yc0) (I L y4) (P (some (a1.add y4.toNat))) (S A2 n2_ c2_) (S A3 (yn3+n2_) c4) dI dJ dK dL dM dN w5 R))))
else
(Calls Tryz.prog 87 #[S Y3 yn3 yc3] w (fun (e8:Ending) (w7:W)=>
 ∃ x9:Int,e8=.returned (I L x9)∧
(Calls Tryz.prog 88 #[I L x9] w7 (fun (e11:Ending) (w10:W)=>
 ∃ x12:Int,e11=.returned (I L x12)∧
(Let (L.wrap (65535-x12)) fun x13:Int=>
 Let (H.wrap x13) fun x14:Int=>
 R (.returned (I H x14)) w10))))))):=by kernel_rfl
def qq72.s (I0:Option Addr) (in0 ic0:Nat) (w:W) (R:E):Prop:=
(∃ n1:Nat,qq72.l1 n1 I0 in0 ic0 N 0 0 0 U (I H 0) U U U U U U U U U U U U U U U U U U U w R)
theorem qq72.run (h:qq72.s I0 in0 ic0 w R):Calls Tryz.prog 53 #[S I0 in0 ic0] w R:=
 calls_segk (ords:=qq72.ords) (J:=qq72.joins) ents mixed Tryz.func53 rfl h (by kernel_rfl)
def qq63.ords:Nat→Od
 | _=>.nil
def qq63.joins (p:List Nat):Bool:=p == [1,1] || p == [1,0,0,0,1,1,1]
def qq63.j1 (Y0:Option Addr) (yn0 yc0:Nat) (d1 d2 d3 d4 d5 d6 d7 d8 d9 dA dB dC dD dE dF dG dH dI dJ dK dL dM dN dO dP:V) (w:W) (R:E):Prop:=
 seg Tryz.prog entE qq63.ords qq63.joins Tryz.f97 [1,1] [1,1] [] [S Y0 yn0 yc0,d1,d2,d3,d4,d5,d6,d7,d8,d9,dA,dB,dC,dD,dE,dF,dG,dH,dI,dJ,dK,dL,dM,dN,dO,dP] w R
def qq63.l1 (n:Nat) (Y0:Option Addr) (yn0 yc0:Nat) (y3:Int) (d1 d2 d4 d5 d6 d7 d8 d9 dA dB dC dD dE dF dG dH dI dJ dK dL dM dN dO dP:V) (w:W) (R:E):Prop:=
 lseg Tryz.prog entE qq63.ords qq63.joins Tryz.f97 [1,1,1,0,0] [0,0,1,1,1] [] n [S Y0 yn0 yc0,d1,d2,I L y3,d4,d5,d6,d7,d8,d9,dA,dB,dC,dD,dE,dF,dG,dH,dI,dJ,dK,dL,dM,dN,dO,dP] w R
def qq63.j2 (m0:Nat) (Y0:Option Addr) (yn0 yc0:Nat) (y3:Int) (d1 d2 d4 d5 d6 d7 d8 d9 dA dB dC dD dE dF dG dH dI dJ dK dL dM dN dO dP:V) (w:W) (R:E):Prop:=
 seg Tryz.prog entE qq63.ords qq63.joins Tryz.f97 [1,1,1,0,0,0,1] [1,0,0,0,1,1,1] [m0] [S Y0 yn0 yc0,d1,d2,I L y3,d4,d5,d6,d7,d8,d9,dA,dB,dC,dD,dE,dF,dG,dH,dI,dJ,dK,dL,dM,dN,dO,dP] w R
abbrev qq63.L1 (n:Nat) (Y0:Option Addr) (yn0 yc0:Nat) (y3:Int) (w:W) (R:E):Prop:=∀ d1 d2 d4 d5 d6 d7 d8 d9 dA dB dC dD dE dF dG dH dI dJ dK dL dM dN dO dP,qq63.l1 n Y0 yn0 yc0 y3 d1 d2 d4 d5 d6 d7 d8 d9 dA dB dC dD dE dF dG dH dI dJ dK dL dM dN dO dP w R
theorem qq63.j1_eq:qq63.j1 Y0 yn0 yc0 d1 d2 d3 d4 d5 d6 d7 d8 d9 dA dB dC dD dE dF dG dH dI dJ dK dL dM dN dO dP w R =
(∃ n1:Nat,qq63.l1 n1 Y0 yn0 yc0 0 d1 d2 d4 d5 d6 d7 d8 d9 dA dB dC dD dE dF dG dH dI dJ dK dL dM dN dO dP w R):=by kernel_rfl
theorem qq63.l1_eq {n:Nat}:qq63.l1 (n+1) Y0 yn0 yc0 y3 d1 d2 d4 d5 d6 d7 d8 d9 dA dB dC dD dE dF dG dH dI dJ dK dL dM dN dO dP w R =
((if decide (y3 ≥ 0)=true then
((if decide (y3 < (yn0:Int))=true then
(Leaf (qq63.j2 n Y0 yn0 yc0 y3 d1 d2 d4 d5 d6 d7 d8 d9 dA dB dC (I L y3) (T (decide (y3 ≥ 0))) (T true) (I L y3) (S Y0 yn0 yc0) (I L (yn0:Int)) (T (decide (y3 < (yn0:Int)))) (T (decide (y3 < (yn0:Int)))) dL dM dN dO dP w R))
else
(R (.returned (T (decide (y3 ≥ 0)))) w)))
else
(R (.returned (T (decide (y3 ≥ 0)))) w))):=by kernel_rfl
theorem qq63.j2_eq:qq63.j2 m0 Y0 yn0 yc0 y3 d1 d2 d4 d5 d6 d7 d8 d9 dA dB dC dD dE dF dG dH dI dJ dK dL dM dN dO dP w R =
(Calls Tryz.prog 104 #[S Y0 yn0 yc0,I L y3] w (fun (e2:Ending) (w1:W)=>
 ∃ x3:Int,e2=.returned (I L x3)∧
(qq63.l1 m0 Y0 yn0 yc0 x3 d1 d2 d4 d5 d6 d7 d8 d9 dA dB dC dD dE dF dG dH dI dJ dK (S Y0 yn0 yc0) (I L y3) (I L x3) dO dP w1 R))):=by kernel_rfl
def qq63.s (I0:Option Addr) (in0 ic0:Nat) (w:W) (R:E):Prop:=
((if decide ((in0:Int) > 40)=true then
(R (.returned (T false)) w)
else
(Let (Int.tmod (in0:Int) 4) fun x1:Int=>
(if (x1 != 0)=true then
(R (.returned (T false)) w)
else
(Leaf (qq63.j1 I0 in0 ic0 U (T false) U (S I0 in0 ic0) (I L (in0:Int)) (T (decide ((in0:Int) > 40))) (T false) (S I0 in0 ic0) (I L (in0:Int)) (I L x1) (T (x1 != 0)) (T (x1 != 0)) U U U U U U U U U U U U U w R))))))
theorem qq63.run (h:qq63.s I0 in0 ic0 w R):Calls Tryz.prog 97 #[S I0 in0 ic0] w R:=
 calls_segk (ords:=qq63.ords) (J:=qq63.joins) ents mixed Tryz.func97 rfl h (by kernel_rfl)
def qq51.ords:Nat→Od
 | _=>.nil
def qq51.joins (p:List Nat):Bool:=p == [1,1]
def qq51.j1 (y1:Int) (y2:Bool) (d0 d3 d4 d5 d6 d7 d8 d9 dA dB dC dD dE dF dG dH dI dJ dK dL dM dN dO dP dQ dR dS dT dU dV dW dX dY:V) (w:W) (R:E):Prop:=
 seg Tryz.prog entE qq51.ords qq51.joins Tryz.f98 [1,1] [1,1] [] [d0,I L y1,T y2,d3,d4,d5,d6,d7,d8,d9,dA,dB,dC,dD,dE,dF,dG,dH,dI,dJ,dK,dL,dM,dN,dO,dP,dQ,dR,dS,dT,dU,dV,dW,dX,dY] w R
theorem qq51.j1_eq:qq51.j1 y1 y2 d0 d3 d4 d5 d6 d7 d8 d9 dA dB dC dD dE dF dG dH dI dJ dK dL dM dN dO dP dQ dR dS dT dU dV dW dX dY w R =
((if (!y2)=true then
(R (.returned (T true)) w)
else
((if decide (y1 > 0)=true then
(Let (Int.tmod y1 8) fun x1:Int=>
 R (.returned (T (x1 == 0))) w)
else
(R (.returned (T false)) w))))):=by kernel_rfl
def qq51.s (i0 i1:Int) (i2:Bool) (w:W) (R:E):Prop:=
((if decide (i0 < 0)=true then
(R (.returned (T false)) w)
else
((if decide (i0 > 65528)=true then
(R (.returned (T false)) w)
else
(Let (Int.tmod i0 8) fun x1:Int=>
(if (x1 != 0)=true then
(R (.returned (T false)) w)
else
(Let (L.wrap (i0+i1)) fun x2:Int=>
(if decide (x2 > 65535)=true then
(R (.returned (T false)) w)
else
(Leaf (qq51.j1 i1 i2 (I L i0) U U U (T false) (I L i0) (T (decide (i0 < 0))) (T false) (I L i0) (T (decide (i0 > 65528))) (T (decide (i0 > 65528))) (T false) (I L i0) (I L x1) (T (x1 != 0)) (T (x1 != 0)) (T false) (I L i0) (I L i1) (I L x2) (T (decide (x2 > 65535))) (T (decide (x2 > 65535))) U U U U U U U U U U U w R))))))))))
theorem qq51.run (h:qq51.s i0 i1 i2 w R):Calls Tryz.prog 98 #[I L i0,I L i1,T i2] w R:=
 calls_segk (ords:=qq51.ords) (J:=qq51.joins) ents mixed Tryz.func98 rfl h (by kernel_rfl)
def qq17.ords:Nat→Od
 | _=>.nil
def qq17.joins (p:List Nat):Bool:=false
def qq17.s (i0_0 i0_1:Int) (i0_2 i0_3:Bool) (i0_4 i0_5 i0_6 i0_7 i0_8:Int) (I0_9:Option Addr) (in0_9 ic0_9:Nat) (I0_10:Option Addr) (in0_10 ic0_10:Nat) (w:W) (R:E):Prop:=
(Let (w.heap.size) fun g1:Nat=>
 Let (w.alloc (.cells #[I B i0_0,I H i0_1,T i0_2,T i0_3,I L i0_4,I B i0_5,I B i0_6,I D i0_7,I D i0_8,S I0_9 in0_9 ic0_9,S I0_10 in0_10 ic0_10] 37)) fun w2:W=>
 ∃ (A3:Option Addr) (n3_ c3_:Nat),w2.cell? ⟨g1,9,N⟩=some (S A3 n3_ c3_)∧
(Calls Tryz.prog 97 #[S A3 n3_ c3_] w2 (fun (e5:Ending) (w4:W)=>
 ∃ b6:Bool,e5=.returned (T b6)∧
((if (!b6)=true then
(R (.returned (I L 34)) w4)
else
(∃ x7:Int,w4.cell? ⟨g1,4,N⟩=some (I L x7)∧
(∃ (A8:Option Addr) (n8_ c8_:Nat),w4.cell? ⟨g1,10,N⟩=some (S A8 n8_ c8_)∧
(∃ b9:Bool,w4.cell? ⟨g1,3,N⟩=some (T b9)∧
(Calls Tryz.prog 98 #[I L x7,I L (n8_:Int),T b9] w4 (fun (e11:Ending) (w10:W)=>
 ∃ b12:Bool,e11=.returned (T b12)∧
((if (!b12)=true then
(R (.returned (I L 36)) w10)
else
(∃ (A13:Option Addr) (n13_ c13_:Nat),w10.cell? ⟨g1,9,N⟩=some (S A13 n13_ c13_)∧
(Let (L.wrap (20+(n13_:Int))) fun x14:Int=>
 ∃ (A15:Option Addr) (n15_ c15_:Nat),w10.cell? ⟨g1,10,N⟩=some (S A15 n15_ c15_)∧
(Let (L.wrap (x14+(n15_:Int))) fun x16:Int=>
(if decide (x16 > 65535)=true then
(R (.returned (I L 37)) w10)
else
(R (.returned (I L 0)) w10)))))))))))))))))
theorem qq17.run (h:qq17.s i0_0 i0_1 i0_2 i0_3 i0_4 i0_5 i0_6 i0_7 i0_8 I0_9 in0_9 ic0_9 I0_10 in0_10 ic0_10 w R):Calls Tryz.prog 76 #[G #[I B i0_0,I H i0_1,T i0_2,T i0_3,I L i0_4,I B i0_5,I B i0_6,I D i0_7,I D i0_8,S I0_9 in0_9 ic0_9,S I0_10 in0_10 ic0_10]] w R:=
 calls_segk (ords:=qq17.ords) (J:=qq17.joins) ents mixed Tryz.func76 rfl h (by kernel_rfl)
def qq31.ords:Nat→Od
 | _=>.nil
def qq31.joins (p:List Nat):Bool:=p == [1,1,1,1,1,1,1] || p == [1,1,1,1,1,1,1,1]
def qq31.j1 (y2:Int) (yg3:Nat) (Y7:Option Addr) (yn7 yc7:Nat) (y8:Int) (d0 d1 d4 d5 d6 d9 dA dB dC dD dE dF dG dH dI dJ dK dL dM dN dO dP dQ dR dS dT dU dV dW dX dY dZ k0 k1 k2 k3 k4 k5 k6 k7 k8 k9 kA kB kC kD kE kF kG kH kI kJ kK kL kM kN kO kP kQ kR kS kT kU kV kW kX kY kZ v0 v1 v2 v3 v4 v5 v6 v7 v8 v9 vA vB vC vD vE vF vG vH vI vJ vK vL:V) (w:W) (R:E):Prop:=
 seg Tryz.prog entE qq31.ords qq31.joins Tryz.f77 [1,1,1,1,1,1,1] [1,1,1,1,1,1,1] [] [d0,d1,I H y2,P (some ⟨yg3,0,N⟩),d4,d5,d6,S Y7 yn7 yc7,I L y8,d9,dA,dB,dC,dD,dE,dF,dG,dH,dI,dJ,dK,dL,dM,dN,dO,dP,dQ,dR,dS,dT,dU,dV,dW,dX,dY,dZ,k0,k1,k2,k3,k4,k5,k6,k7,k8,k9,kA,kB,kC,kD,kE,kF,kG,kH,kI,kJ,kK,kL,kM,kN,kO,kP,kQ,kR,kS,kT,kU,kV,kW,kX,kY,kZ,v0,v1,v2,v3,v4,v5,v6,v7,v8,v9,vA,vB,vC,vD,vE,vF,vG,vH,vI,vJ,vK,vL] w R
def qq31.j2 (y2:Int) (yg3:Nat) (Y7:Option Addr) (yn7 yc7:Nat) (y8:Int) (d0 d1 d4 d5 d6 d9 dA dB dC dD dE dF dG dH dI dJ dK dL dM dN dO dP dQ dR dS dT dU dV dW dX dY dZ k0 k1 k2 k3 k4 k5 k6 k7 k8 k9 kA kB kC kD kE kF kG kH kI kJ kK kL kM kN kO kP kQ kR kS kT kU kV kW kX kY kZ v0 v1 v2 v3 v4 v5 v6 v7 v8 v9 vA vB vC vD vE vF vG vH vI vJ vK vL:V) (w:W) (R:E):Prop:=
 seg Tryz.prog entE qq31.ords qq31.joins Tryz.f77 [1,1,1,1,1,1,1,1] [1,1,1,1,1,1,1,1] [] [d0,d1,I H y2,P (some ⟨yg3,0,N⟩),d4,d5,d6,S Y7 yn7 yc7,I L y8,d9,dA,dB,dC,dD,dE,dF,dG,dH,dI,dJ,dK,dL,dM,dN,dO,dP,dQ,dR,dS,dT,dU,dV,dW,dX,dY,dZ,k0,k1,k2,k3,k4,k5,k6,k7,k8,k9,kA,kB,kC,kD,kE,kF,kG,kH,kI,kJ,kK,kL,kM,kN,kO,kP,kQ,kR,kS,kT,kU,kV,kW,kX,kY,kZ,v0,v1,v2,v3,v4,v5,v6,v7,v8,v9,vA,vB,vC,vD,vE,vF,vG,vH,vI,vJ,vK,vL] w R
def qq31.l1 (n yg3:Nat) (Y7:Option Addr) (yn7 yc7:Nat) (y9:Int) (d0 d1 d2 d4 d5 d6 d8 dA dB dC dD dE dF dG dH dI dJ dK dL dM dN dO dP dQ dR dS dT dU dV dW dX dY dZ k0 k1 k2 k3 k4 k5 k6 k7 k8 k9 kA kB kC kD kE kF kG kH kI kJ kK kL kM kN kO kP kQ kR kS kT kU kV kW kX kY kZ v0 v1 v2 v3 v4 v5 v6 v7 v8 v9 vA vB vC vD vE vF vG vH vI vJ vK vL:V) (w:W) (R:E):Prop:=
 lseg Tryz.prog entE qq31.ords qq31.joins Tryz.f77 [1,1,1,1,1,1,1,1,1,1,1,1,1,1,1,0,1,0] [0,1,0,1,1,1,1,1,1,1,1,1,1,1,1,1,1,1] [] n [d0,d1,d2,P (some ⟨yg3,0,N⟩),d4,d5,d6,S Y7 yn7 yc7,d8,I L y9,dA,dB,dC,dD,dE,dF,dG,dH,dI,dJ,dK,dL,dM,dN,dO,dP,dQ,dR,dS,dT,dU,dV,dW,dX,dY,dZ,k0,k1,k2,k3,k4,k5,k6,k7,k8,k9,kA,kB,kC,kD,kE,kF,kG,kH,kI,kJ,kK,kL,kM,kN,kO,kP,kQ,kR,kS,kT,kU,kV,kW,kX,kY,kZ,v0,v1,v2,v3,v4,v5,v6,v7,v8,v9,vA,vB,vC,vD,vE,vF,vG,vH,vI,vJ,vK,vL] w R
abbrev qq31.J1 (y2:Int) (yg3:Nat) (Y7:Option Addr) (yn7 yc7:Nat) (y8:Int) (w:W) (R:E):Prop:=∀ d0 d1 d4 d5 d6 d9 dA dB dC dD dE dF dG dH dI dJ dK dL dM dN dO dP dQ dR dS dT dU dV dW dX dY dZ k0 k1 k2 k3 k4 k5 k6 k7 k8 k9 kA kB kC kD kE kF kG kH kI kJ kK kL kM kN kO kP kQ kR kS kT kU kV kW kX kY kZ v0 v1 v2 v3 v4 v5 v6 v7 v8 v9 vA vB vC vD vE vF vG vH vI vJ vK vL,qq31.j1 y2 yg3 Y7 yn7 yc7 y8 d0 d1 d4 d5 d6 d9 dA dB dC dD dE dF dG dH dI dJ dK dL dM dN dO dP dQ dR dS dT dU dV dW dX dY dZ k0 k1 k2 k3 k4 k5 k6 k7 k8 k9 kA kB kC kD kE kF kG kH kI kJ kK kL kM kN kO kP kQ kR kS kT kU kV kW kX kY kZ v0 v1 v2 v3 v4 v5 v6 v7 v8 v9 vA vB vC vD vE vF vG vH vI vJ vK vL w R
abbrev qq31.J2 (y2:Int) (yg3:Nat) (Y7:Option Addr) (yn7 yc7:Nat) (y8:Int) (w:W) (R:E):Prop:=∀ d0 d1 d4 d5 d6 d9 dA dB dC dD dE dF dG dH dI dJ dK dL dM dN dO dP dQ dR dS dT dU dV dW dX dY dZ k0 k1 k2 k3 k4 k5 k6 k7 k8 k9 kA kB kC kD kE kF kG kH kI kJ kK kL kM kN kO kP kQ kR kS kT kU kV kW kX kY kZ v0 v1 v2 v3 v4 v5 v6 v7 v8 v9 vA vB vC vD vE vF vG vH vI vJ vK vL,qq31.j2 y2 yg3 Y7 yn7 yc7 y8 d0 d1 d4 d5 d6 d9 dA dB dC dD dE dF dG dH dI dJ dK dL dM dN dO dP dQ dR dS dT dU dV dW dX dY dZ k0 k1 k2 k3 k4 k5 k6 k7 k8 k9 kA kB kC kD kE kF kG kH kI kJ kK kL kM kN kO kP kQ kR kS kT kU kV kW kX kY kZ v0 v1 v2 v3 v4 v5 v6 v7 v8 v9 vA vB vC vD vE vF vG vH vI vJ vK vL w R
abbrev qq31.L1 (n yg3:Nat) (Y7:Option Addr) (yn7 yc7:Nat) (y9:Int) (w:W) (R:E):Prop:=∀ d0 d1 d2 d4 d5 d6 d8 dA dB dC dD dE dF dG dH dI dJ dK dL dM dN dO dP dQ dR dS dT dU dV dW dX dY dZ k0 k1 k2 k3 k4 k5 k6 k7 k8 k9 kA kB kC kD kE kF kG kH kI kJ kK kL kM kN kO kP kQ kR kS kT kU kV kW kX kY kZ v0 v1 v2 v3 v4 v5 v6 v7 v8 v9 vA vB vC vD vE vF vG vH vI vJ vK vL,qq31.l1 n yg3 Y7 yn7 yc7 y9 d0 d1 d2 d4 d5 d6 d8 dA dB dC dD dE dF dG dH dI dJ dK dL dM dN dO dP dQ dR dS dT dU dV dW dX dY dZ k0 k1 k2 k3 k4 k5 k6 k7 k8 k9 kA kB kC kD kE kF kG kH kI kJ kK kL kM kN kO kP kQ kR kS kT kU kV kW kX kY kZ v0 v1 v2 v3 v4 v5 v6 v7 v8 v9 vA vB vC vD vE vF vG vH vI vJ vK vL w R
theorem qq31.j1_eq:qq31.j1 y2 yg3 Y7 yn7 yc7 y8 d0 d1 d4 d5 d6 d9 dA dB dC dD dE dF dG dH dI dJ dK dL dM dN dO dP dQ dR dS dT dU dV dW dX dY dZ k0 k1 k2 k3 k4 k5 k6 k7 k8 k9 kA kB kC kD kE kF kG kH kI kJ kK kL kM kN kO kP kQ kR kS kT kU kV kW kX kY kZ v0 v1 v2 v3 v4 v5 v6 v7 v8 v9 vA vB vC vD vE vF vG vH vI vJ vK vL w R =
(∃ b1:Bool,w.cell? ⟨yg3,3,N⟩=some (T b1)∧
((if b1=true then
(Let (L.wrap (y8+8192)) fun x2:Int=>
 Leaf (qq31.j2 y2 yg3 Y7 yn7 yc7 x2 d0 d1 d4 d5 d6 d9 dA dB dC dD dE dF dG dH dI dJ dK dL dM dN dO dP dQ dR dS dT dU dV dW dX dY dZ (P (some ⟨yg3,3,N⟩)) (T b1) (I L y8) (I L x2) k4 k5 k6 k7 k8 k9 kA kB kC kD kE kF kG kH kI kJ kK kL kM kN kO kP kQ kR kS kT kU kV kW kX kY kZ v0 v1 v2 v3 v4 v5 v6 v7 v8 v9 vA vB vC vD vE vF vG vH vI vJ vK vL w R))
else
(Leaf (qq31.j2 y2 yg3 Y7 yn7 yc7 y8 d0 d1 d4 d5 d6 d9 dA dB dC dD dE dF dG dH dI dJ dK dL dM dN dO dP dQ dR dS dT dU dV dW dX dY dZ (P (some ⟨yg3,3,N⟩)) (T b1) k2 k3 k4 k5 k6 k7 k8 k9 kA kB kC kD kE kF kG kH kI kJ kK kL kM kN kO kP kQ kR kS kT kU kV kW kX kY kZ v0 v1 v2 v3 v4 v5 v6 v7 v8 v9 vA vB vC vD vE vF vG vH vI vJ vK vL w R))))):=by kernel_rfl
theorem qq31.j2_eq:qq31.j2 y2 yg3 Y7 yn7 yc7 y8 d0 d1 d4 d5 d6 d9 dA dB dC dD dE dF dG dH dI dJ dK dL dM dN dO dP dQ dR dS dT dU dV dW dX dY dZ k0 k1 k2 k3 k4 k5 k6 k7 k8 k9 kA kB kC kD kE kF kG kH kI kJ kK kL kM kN kO kP kQ kR kS kT kU kV kW kX kY kZ v0 v1 v2 v3 v4 v5 v6 v7 v8 v9 vA vB vC vD vE vF vG vH vI vJ vK vL w R =
(Calls Tryz.prog 99 #[S Y7 yn7 yc7,I L y8] w (fun (e2:Ending) (w1:W)=>
 ∃ (A3:Option Addr) (n3_ c3_:Nat),e2=.returned (S A3 n3_ c3_)∧
(∃ x4:Int,w1.cell? ⟨yg3,5,N⟩=some (I B x4)∧
(∃ x5:Int,w1.cell? ⟨yg3,6,N⟩=some (I B x5)∧
(Let (w1.heap.size) fun g6:Nat=>
 Let (w1.alloc (.cells #[I B x4,I B x5] 5)) fun w7:W=>
 AppE w7 1 1 5 [I B 0] A3 n3_ c3_ (some ⟨g6,0,N⟩) 2 (fun (A8:Option Addr) (c9:Nat) (w10:W)=>
 Let (L.wrap y2) fun x11:Int=>
 Calls Tryz.prog 99 #[S A8 (n3_+2) c9,I L x11] w10 (fun (e13:Ending) (w12:W)=>
 ∃ (A14:Option Addr) (n14_ c14_:Nat),e13=.returned (S A14 n14_ c14_)∧
(∃ x15:Int,w12.cell? ⟨yg3,7,N⟩=some (I D x15)∧
(Let (L.wrap x15) fun x16:Int=>
 Let (L.wrap (Int.tdiv x16 65536)) fun x17:Int=>
 Calls Tryz.prog 99 #[S A14 n14_ c14_,I L x17] w12 (fun (e19:Ending) (w18:W)=>
 ∃ (A20:Option Addr) (n20_ c20_:Nat),e19=.returned (S A20 n20_ c20_)∧
(∃ x21:Int,w18.cell? ⟨yg3,7,N⟩=some (I D x21)∧
(Let (L.wrap x21) fun x22:Int=>
 Let (Int.tmod x22 65536) fun x23:Int=>
 Calls Tryz.prog 99 #[S A20 n20_ c20_,I L x23] w18 (fun (e25:Ending) (w24:W)=>
 ∃ (A26:Option Addr) (n26_ c26_:Nat),e25=.returned (S A26 n26_ c26_)∧
(∃ x27:Int,w24.cell? ⟨yg3,8,N⟩=some (I D x27)∧
(Let (L.wrap x27) fun x28:Int=>
 Let (L.wrap (Int.tdiv x28 65536)) fun x29:Int=>
 Calls Tryz.prog 99 #[S A26 n26_ c26_,I L x29] w24 (fun (e31:Ending) (w30:W)=>
 ∃ (A32:Option Addr) (n32_ c32_:Nat),e31=.returned (S A32 n32_ c32_)∧
(∃ x33:Int,w30.cell? ⟨yg3,8,N⟩=some (I D x33)∧
(Let (L.wrap x33) fun x34:Int=>
 Let (Int.tmod x34 65536) fun x35:Int=>
 Calls Tryz.prog 99 #[S A32 n32_ c32_,I L x35] w30 (fun (e37:Ending) (w36:W)=>
 ∃ (A38:Option Addr) (n38_ c38_:Nat),e37=.returned (S A38 n38_ c38_)∧
(∃ n39:Nat,qq31.l1 n39 yg3 A38 n38_ c38_ 0 d0 d1 (I H y2) d4 d5 d6 (I L y8) dA dB dC dD dE dF dG dH dI dJ dK dL dM dN dO dP dQ dR dS dT dU dV dW dX dY dZ k0 k1 k2 k3 (S Y7 yn7 yc7) (I L y8) (S A3 n3_ c3_) (S A3 n3_ c3_) (P (some ⟨yg3,5,N⟩)) (I B x4) (P (some ⟨yg3,6,N⟩)) (I B x5) (S (some ⟨g6,0,N⟩) 2 2) (S A8 (n3_+2) c9) (S A8 (n3_+2) c9) (I H y2) (I L x11) (S A14 n14_ c14_) (S A14 n14_ c14_) (P (some ⟨yg3,7,N⟩)) (I D x15) (I L x16) (I L x17) (S A20 n20_ c20_) (S A20 n20_ c20_) (P (some ⟨yg3,7,N⟩)) (I D x21) (I L x22) (I L x23) (S A26 n26_ c26_) (S A26 n26_ c26_) (P (some ⟨yg3,8,N⟩)) (I D x27) (I L x28) (I L x29) (S A32 n32_ c32_) (S A32 n32_ c32_) (P (some ⟨yg3,8,N⟩)) (I D x33) (I L x34) (I L x35) (S A38 n38_ c38_) v6 v7 v8 v9 vA vB vC vD vE vF vG vH vI vJ vK vL w36 R)))))))))))))))))))):=by kernel_rfl
theorem qq31.l1_eq {n:Nat}:qq31.l1 (n+1) yg3 Y7 yn7 yc7 y9 d0 d1 d2 d4 d5 d6 d8 dA dB dC dD dE dF dG dH dI dJ dK dL dM dN dO dP dQ dR dS dT dU dV dW dX dY dZ k0 k1 k2 k3 k4 k5 k6 k7 k8 k9 kA kB kC kD kE kF kG kH kI kJ kK kL kM kN kO kP kQ kR kS kT kU kV kW kX kY kZ v0 v1 v2 v3 v4 v5 v6 v7 v8 v9 vA vB vC vD vE vF vG vH vI vJ vK vL w R =
(∃ (A1:Option Addr) (n1_ c1_:Nat),w.cell? ⟨yg3,9,N⟩=some (S A1 n1_ c1_)∧
((if decide (y9 < (n1_:Int))=true then
(∃ (A2:Option Addr) (n2_ c2_:Nat),w.cell? ⟨yg3,9,N⟩=some (S A2 n2_ c2_)∧
(∃ a3:Addr,A2=some a3∧(0≤y9∧y9 < (n2_:Int))∧
(∃ x4:Int,w.cell? (a3.add y9.toNat)=some (I B x4)∧
(Let (w.heap.size) fun g5:Nat=>
 Let (w.alloc (.cells #[I B x4] 5)) fun w6:W=>
 AppE w6 1 1 5 [I B 0] Y7 yn7 yc7 (some ⟨g5,0,N⟩) 1 (fun (A7:Option Addr) (c8:Nat) (w9:W)=>
 Let (L.wrap (y9+1)) fun x10:Int=>
 qq31.l1 n yg3 A7 (yn7+1) c8 x10 d0 d1 d2 d4 d5 d6 d8 dA dB dC dD dE dF dG dH dI dJ dK dL dM dN dO dP dQ dR dS dT dU dV dW dX dY dZ k0 k1 k2 k3 k4 k5 k6 k7 k8 k9 kA kB kC kD kE kF kG kH kI kJ kK kL kM kN kO kP kQ kR kS kT kU kV kW kX kY kZ v0 v1 v2 v3 v4 v5 (I L y9) (P (some ⟨yg3,9,N⟩)) (S A1 n1_ c1_) (I L (n1_:Int)) (T (decide (y9 < (n1_:Int)))) (I L y9) (I L x10) (S Y7 yn7 yc7) (P (some ⟨yg3,9,N⟩)) (S A2 n2_ c2_) (I L y9) (P (some (a3.add y9.toNat))) (I B x4) (S (some ⟨g5,0,N⟩) 1 1) (S A7 (yn7+1) c8) vL w9 R)))))
else
(R (.returned (S Y7 yn7 yc7)) w)))):=by kernel_rfl
def qq31.s (i0_0 i0_1:Int) (i0_2 i0_3:Bool) (i0_4 i0_5 i0_6 i0_7 i0_8:Int) (I0_9:Option Addr) (in0_9 ic0_9:Nat) (i1 i2:Int) (w:W) (R:E):Prop:=
(Let (w.heap.size) fun g1:Nat=>
 Let (w.alloc (.cells #[I B i0_0,I H i0_1,T i0_2,T i0_3,I L i0_4,I B i0_5,I B i0_6,I D i0_7,I D i0_8,S I0_9 in0_9 ic0_9] 35)) fun w2:W=>
 ∃ (A3:Option Addr) (n3_ c3_:Nat),w2.cell? ⟨g1,9,N⟩=some (S A3 n3_ c3_)∧
(Let (L.wrap (Int.tdiv (n3_:Int) 4)) fun x4:Int=>
 Let (L.wrap (69+x4)) fun x5:Int=>
 Let (B.wrap x5) fun x6:Int=>
 ∃ x7:Int,w2.cell? ⟨g1,0,N⟩=some (I B x7)∧
(Let (w2.heap.size) fun g8:Nat=>
 Let (w2.alloc (.cells #[I B x6,I B x7] 5)) fun w9:W=>
 AppE w9 1 1 5 [I B 0] N 0 0 (some ⟨g8,0,N⟩) 2 (fun (A10:Option Addr) (c11:Nat) (w12:W)=>
 Calls Tryz.prog 99 #[S A10 2 c11,I L i1] w12 (fun (e14:Ending) (w13:W)=>
 ∃ (A15:Option Addr) (n15_ c15_:Nat),e14=.returned (S A15 n15_ c15_)∧
(∃ x16:Int,w13.cell? ⟨g1,1,N⟩=some (I H x16)∧
(Let (L.wrap x16) fun x17:Int=>
 Calls Tryz.prog 99 #[S A15 n15_ c15_,I L x17] w13 (fun (e19:Ending) (w18:W)=>
 ∃ (A20:Option Addr) (n20_ c20_:Nat),e19=.returned (S A20 n20_ c20_)∧
(∃ x21:Int,w18.cell? ⟨g1,4,N⟩=some (I L x21)∧
(Let (L.wrap (Int.tdiv x21 8)) fun x22:Int=>
 ∃ b23:Bool,w18.cell? ⟨g1,2,N⟩=some (T b23)∧
((if b23=true then
(Let (L.wrap (x22+16384)) fun x24:Int=>
 Leaf (qq31.j1 i2 g1 A20 n20_ c20_ x24 (G #[I B i0_0,I H i0_1,T i0_2,T i0_3,I L i0_4,I B i0_5,I B i0_6,I D i0_7,I D i0_8,S I0_9 in0_9 ic0_9]) (I L i1) U U (S N 0 0) U (S N 0 0) (P (some ⟨g1,9,N⟩)) (S A3 n3_ c3_) (I L (n3_:Int)) (I L x4) (I L x5) (I B x6) (P (some ⟨g1,0,N⟩)) (I B x7) (S (some ⟨g8,0,N⟩) 2 2) (S A10 2 c11) (S A10 2 c11) (I L i1) (S A15 n15_ c15_) (S A15 n15_ c15_) (P (some ⟨g1,1,N⟩)) (I H x16) (I L x17) (S A20 n20_ c20_) (P (some ⟨g1,4,N⟩)) (I L x21) (I L x22) (P (some ⟨g1,2,N⟩)) (T b23) (I L x22) (I L x24) U U U U U U U U U U U U U U U U U U U U U U U U U U U U U U U U U U U U U U U U U U U U U U U U U U U U U U U U U U w18 R))
else
(Leaf (qq31.j1 i2 g1 A20 n20_ c20_ x22 (G #[I B i0_0,I H i0_1,T i0_2,T i0_3,I L i0_4,I B i0_5,I B i0_6,I D i0_7,I D i0_8,S I0_9 in0_9 ic0_9]) (I L i1) U U (S N 0 0) U (S N 0 0) (P (some ⟨g1,9,N⟩)) (S A3 n3_ c3_) (I L (n3_:Int)) (I L x4) (I L x5) (I B x6) (P (some ⟨g1,0,N⟩)) (I B x7) (S (some ⟨g8,0,N⟩) 2 2) (S A10 2 c11) (S A10 2 c11) (I L i1) (S A15 n15_ c15_) (S A15 n15_ c15_) (P (some ⟨g1,1,N⟩)) (I H x16) (I L x17) (S A20 n20_ c20_) (P (some ⟨g1,4,N⟩)) (I L x21) (I L x22) (P (some ⟨g1,2,N⟩)) (T b23) U U U U U U U U U U U U U U U U U U U U U U U U U U U U U U U U U U U U U U U U U U U U U U U U U U U U U U U U U U U U w18 R))))))))))))))
theorem qq31.run (h:qq31.s i0_0 i0_1 i0_2 i0_3 i0_4 i0_5 i0_6 i0_7 i0_8 I0_9 in0_9 ic0_9 i1 i2 w R):Calls Tryz.prog 77 #[G #[I B i0_0,I H i0_1,T i0_2,T i0_3,I L i0_4,I B i0_5,I B i0_6,I D i0_7,I D i0_8,S I0_9 in0_9 ic0_9],I L i1,I H i2] w R:=
 calls_segk (ords:=qq31.ords) (J:=qq31.joins) ents mixed Tryz.func77 rfl h (by kernel_rfl)
def qq40.ords:Nat→Od
 | _=>.nil
def qq40.joins (p:List Nat):Bool:=false
def qq40.s (I0:Option Addr) (in0 ic0:Nat) (i1:Bool) (w:W) (R:E):Prop:=
((if decide ((in0:Int) < 20)=true then
(R (.returned (.tuple #[I L 0,I L 0,I L 30])) w)
else
(∃ a1:Addr,I0=some a1∧(0≤(0:Int)∧(0:Int) < (in0:Int))∧
(∃ x2:Int,w.cell? a1=some (I B x2)∧
(Let (B.wrap (Int.tdiv x2 16)) fun x3:Int=>
(if (x3 != 4)=true then
(R (.returned (.tuple #[I L 0,I L 0,I L 31])) w)
else
(∃ a4:Addr,I0=some a4∧(0≤(0:Int)∧(0:Int) < (in0:Int))∧
(∃ x5:Int,w.cell? a4=some (I B x5)∧
(Let (Int.tmod x5 16) fun x6:Int=>
 Let (L.wrap x6) fun x7:Int=>
 Let (L.wrap (4 * x7)) fun x8:Int=>
(if decide (x8 < 20)=true then
(R (.returned (.tuple #[I L 0,I L 0,I L 32])) w)
else
((if decide ((in0:Int) < x8)=true then
(R (.returned (.tuple #[I L 0,I L 0,I L 30])) w)
else
(Calls Tryz.prog 106 #[S I0 in0 ic0,I L 2] w (fun (e10:Ending) (w9:W)=>
 ∃ x11:Int,e10=.returned (I L x11)∧
((if decide (x11 < x8)=true then
(R (.returned (.tuple #[I L 0,I L 0,I L 32])) w9)
else
((if i1=true then
((if decide ((in0:Int) < x11)=true then
(R (.returned (.tuple #[I L 0,I L 0,I L 30])) w9)
else
(R (.returned (.tuple #[I L x8,I L x11,I L 0])) w9)))
else
(R (.returned (.tuple #[I L x8,I L x11,I L 0])) w9)))))))))))))))))))
theorem qq40.run (h:qq40.s I0 in0 ic0 i1 w R):Calls Tryz.prog 105 #[S I0 in0 ic0,T i1] w R:=
 calls_segk (ords:=qq40.ords) (J:=qq40.joins) ents mixed Tryz.func105 rfl h (by kernel_rfl)
def qq33.ords:Nat→Od
 | _=>.nil
def qq33.joins (p:List Nat):Bool:=p == [1,1,1,1]
def qq33.l1 (n:Nat) (Y0:Option Addr) (yn0 yc0:Nat) (y5:Int) (d1 d2 d3 d4 d6 d7 d8 d9 dA dB dC dD dE dF dG dH dI dJ dK dL dM dN dO dP dQ dR dS dT dU dV dW dX dY dZ k0 k1 k2 k3 k4 k5 k6 k7 k8 k9 kA kB kC kD kE kF kG kH kI kJ kK kL kM kN kO kP kQ kR kS kT:V) (w:W) (R:E):Prop:=
 lseg Tryz.prog entE qq33.ords qq33.joins Tryz.f104 [1,1,0,1,0,0,1,0] [0,1,0,0,1,0,1,1] [] n [S Y0 yn0 yc0,d1,d2,d3,d4,I L y5,d6,d7,d8,d9,dA,dB,dC,dD,dE,dF,dG,dH,dI,dJ,dK,dL,dM,dN,dO,dP,dQ,dR,dS,dT,dU,dV,dW,dX,dY,dZ,k0,k1,k2,k3,k4,k5,k6,k7,k8,k9,kA,kB,kC,kD,kE,kF,kG,kH,kI,kJ,kK,kL,kM,kN,kO,kP,kQ,kR,kS,kT] w R
def qq33.j1 (Y0:Option Addr) (yn0 yc0:Nat) (y1:Int) (d2 d3 d4 d5 d6 d7 d8 d9 dA dB dC dD dE dF dG dH dI dJ dK dL dM dN dO dP dQ dR dS dT dU dV dW dX dY dZ k0 k1 k2 k3 k4 k5 k6 k7 k8 k9 kA kB kC kD kE kF kG kH kI kJ kK kL kM kN kO kP kQ kR kS kT:V) (w:W) (R:E):Prop:=
 seg Tryz.prog entE qq33.ords qq33.joins Tryz.f104 [1,1,1,1] [1,1,1,1] [] [S Y0 yn0 yc0,I L y1,d2,d3,d4,d5,d6,d7,d8,d9,dA,dB,dC,dD,dE,dF,dG,dH,dI,dJ,dK,dL,dM,dN,dO,dP,dQ,dR,dS,dT,dU,dV,dW,dX,dY,dZ,k0,k1,k2,k3,k4,k5,k6,k7,k8,k9,kA,kB,kC,kD,kE,kF,kG,kH,kI,kJ,kK,kL,kM,kN,kO,kP,kQ,kR,kS,kT] w R
abbrev qq33.L1 (n:Nat) (Y0:Option Addr) (yn0 yc0:Nat) (y5:Int) (w:W) (R:E):Prop:=∀ d1 d2 d3 d4 d6 d7 d8 d9 dA dB dC dD dE dF dG dH dI dJ dK dL dM dN dO dP dQ dR dS dT dU dV dW dX dY dZ k0 k1 k2 k3 k4 k5 k6 k7 k8 k9 kA kB kC kD kE kF kG kH kI kJ kK kL kM kN kO kP kQ kR kS kT,qq33.l1 n Y0 yn0 yc0 y5 d1 d2 d3 d4 d6 d7 d8 d9 dA dB dC dD dE dF dG dH dI dJ dK dL dM dN dO dP dQ dR dS dT dU dV dW dX dY dZ k0 k1 k2 k3 k4 k5 k6 k7 k8 k9 kA kB kC kD kE kF kG kH kI kJ kK kL kM kN kO kP kQ kR kS kT w R
theorem qq33.l1_eq {n:Nat}:qq33.l1 (n+1) Y0 yn0 yc0 y5 d1 d2 d3 d4 d6 d7 d8 d9 dA dB dC dD dE dF dG dH dI dJ dK dL dM dN dO dP dQ dR dS dT dU dV dW dX dY dZ k0 k1 k2 k3 k4 k5 k6 k7 k8 k9 kA kB kC kD kE kF kG kH kI kJ kK kL kM kN kO kP kQ kR kS kT w R =
((if decide (y5 < (yn0:Int))=true then
(∃ a1:Addr,Y0=some a1∧(0≤y5∧y5 < (yn0:Int))∧
(∃ x2:Int,w.cell? (a1.add y5.toNat)=some (I B x2)∧
((if (x2 != 0)=true then
(R (.returned (I L (-1))) w)
else
(Let (L.wrap (y5+1)) fun x3:Int=>
 qq33.l1 n Y0 yn0 yc0 x3 d1 d2 d3 d4 d6 d7 d8 d9 dA dB dC dD dE dF dG dH dI (I L y5) (S Y0 yn0 yc0) (I L (yn0:Int)) (T (decide (y5 < (yn0:Int)))) (I L y5) (I L x3) (S Y0 yn0 yc0) (I L y5) (P (some (a1.add y5.toNat))) (I B x2) (T (x2 != 0)) dU dV dW dX dY dZ k0 k1 k2 k3 k4 k5 k6 k7 k8 k9 kA kB kC kD kE kF kG kH kI kJ kK kL kM kN kO kP kQ kR kS kT w R)))))
else
(R (.returned (I L (yn0:Int))) w))):=by kernel_rfl
theorem qq33.j1_eq:qq33.j1 Y0 yn0 yc0 y1 d2 d3 d4 d5 d6 d7 d8 d9 dA dB dC dD dE dF dG dH dI dJ dK dL dM dN dO dP dQ dR dS dT dU dV dW dX dY dZ k0 k1 k2 k3 k4 k5 k6 k7 k8 k9 kA kB kC kD kE kF kG kH kI kJ kK kL kM kN kO kP kQ kR kS kT w R =
(Let (L.wrap (y1+1)) fun x1:Int=>
 ∃ a2:Addr,Y0=some a2∧(0≤x1∧x1 < (yn0:Int))∧
(∃ x3:Int,w.cell? (a2.add x1.toNat)=some (I B x3)∧
(Let (L.wrap x3) fun x4:Int=>
 Let (L.wrap (y1+x4)) fun x5:Int=>
 R (.returned (I L x5)) w))):=by kernel_rfl
def qq33.s (I0:Option Addr) (in0 ic0:Nat) (i1:Int) (w:W) (R:E):Prop:=
(∃ a1:Addr,I0=some a1∧(0≤i1∧i1 < (in0:Int))∧
(∃ x2:Int,w.cell? (a1.add i1.toNat)=some (I B x2)∧
((if (x2 == 1)=true then
(Let (L.wrap (i1+1)) fun x3:Int=>
 R (.returned (I L x3)) w)
else
(∃ a4:Addr,I0=some a4∧(0≤i1∧i1 < (in0:Int))∧
(∃ x5:Int,w.cell? (a4.add i1.toNat)=some (I B x5)∧
((if (x5 == 0)=true then
(∃ n6:Nat,qq33.l1 n6 I0 in0 ic0 i1 (I L i1) U U (I L 0) (S I0 in0 ic0) (I L i1) (P (some (a1.add i1.toNat))) (I B x2) (T (x2 == 1)) U U (S I0 in0 ic0) (I L i1) (P (some (a4.add i1.toNat))) (I B x5) (T (x5 == 0)) (I L i1) U U U U U U U U U U U U U U U U U U U U U U U U U U U U U U U U U U U U U U U U U U U U U U U w R)
else
(Let (L.wrap (i1+1)) fun x7:Int=>
(if decide (x7 ≥ (in0:Int))=true then
(R (.returned (I L (-1))) w)
else
(Let (L.wrap (i1+1)) fun x8:Int=>
 ∃ a9:Addr,I0=some a9∧(0≤x8∧x8 < (in0:Int))∧
(∃ x10:Int,w.cell? (a9.add x8.toNat)=some (I B x10)∧
((if decide (x10 < 2)=true then
(R (.returned (I L (-1))) w)
else
(Let (L.wrap (i1+1)) fun x11:Int=>
 ∃ a12:Addr,I0=some a12∧(0≤x11∧x11 < (in0:Int))∧
(∃ x13:Int,w.cell? (a12.add x11.toNat)=some (I B x13)∧
(Let (L.wrap x13) fun x14:Int=>
 Let (L.wrap (i1+x14)) fun x15:Int=>
(if decide (x15 > (in0:Int))=true then
(R (.returned (I L (-1))) w)
else
(Leaf (qq33.j1 I0 in0 ic0 i1 U U (I L 0) U (S I0 in0 ic0) (I L i1) (P (some (a1.add i1.toNat))) (I B x2) (T (x2 == 1)) U U (S I0 in0 ic0) (I L i1) (P (some (a4.add i1.toNat))) (I B x5) (T (x5 == 0)) U U U U U U U U U U U U U U (I L i1) (I L x7) (S I0 in0 ic0) (I L (in0:Int)) (T (decide (x7 ≥ (in0:Int)))) (T false) (S I0 in0 ic0) (I L i1) (I L x8) (P (some (a9.add x8.toNat))) (I B x10) (T (decide (x10 < 2))) (T (decide (x10 < 2))) (T false) (I L i1) (S I0 in0 ic0) (I L i1) (I L x11) (P (some (a12.add x11.toNat))) (I B x13) (I L x14) (I L x15) (S I0 in0 ic0) (I L (in0:Int)) (T (decide (x15 > (in0:Int)))) (T (decide (x15 > (in0:Int)))) U U U U U U U U w R))))))))))))))))))))
theorem qq33.run (h:qq33.s I0 in0 ic0 i1 w R):Calls Tryz.prog 104 #[S I0 in0 ic0,I L i1] w R:=
 calls_segk (ords:=qq33.ords) (J:=qq33.joins) ents mixed Tryz.func104 rfl h (by kernel_rfl)
def qq68.ords:Nat→Od
 | 18=>(.tk 0 (.tk 1 (.tk 2 (.tk 3 (.tk 6 (.tk 7 (.tk 8 (.tk 9 (.tk 10 (.tk 11 (.tk 12 (.tk 13 (.tk 14 (.tk 15 (.tk 16 (.tk 17 (.tk 18 (.tk 19 (.tk 22 (.tk 25 (.tk 26 (.tk 27 (.on 4 (.tk 5 (.on 20 (.tk 21 (.on 23 (.tk 24 (.on 28 (.tk 29 (.tk 30 (.on 31 .nil))))))))))))))))))))))))))))))))
 | _=>.nil
def qq68.joins (p:List Nat):Bool:=p == [1,1,1,1,1,1,1,1,1,1,1]
def qq68.j1 (Y0:Option Addr) (yn0 yc0 yg4:Nat) (y7 y8 y10 y11:Int) (d1 d2 d3 d5 d6 d9 dC dD dE dF dG dH dI dJ dK dL dM dN dO dP dQ dR dS dT dU dV dW dX dY dZ k0 k1 k2 k3 k4 k5 k6 k7 k8 k9 kA kB kC kD kE kF kG kH kI kJ kK kL kM kN kO kP kQ kR kS kT kU kV kW kX kY kZ v0 v1 v2 v3 v4 v5 v6 v7 v8 v9 vA vB vC vD vE vF vG vH vI vJ vK vL vM vN vO vP vQ vR vS vT vU:V) (w:W) (R:E):Prop:=
 seg Tryz.prog entE qq68.ords qq68.joins Tryz.f101 [1,1,1,1,1,1,1,1,1,1,1] [1,1,1,1,1,1,1,1,1,1,1] [] [S Y0 yn0 yc0,d1,d2,d3,P (some ⟨yg4,0,N⟩),d5,d6,I L y7,I L y8,d9,I L y10,I L y11,dC,dD,dE,dF,dG,dH,dI,dJ,dK,dL,dM,dN,dO,dP,dQ,dR,dS,dT,dU,dV,dW,dX,dY,dZ,k0,k1,k2,k3,k4,k5,k6,k7,k8,k9,kA,kB,kC,kD,kE,kF,kG,kH,kI,kJ,kK,kL,kM,kN,kO,kP,kQ,kR,kS,kT,kU,kV,kW,kX,kY,kZ,v0,v1,v2,v3,v4,v5,v6,v7,v8,v9,vA,vB,vC,vD,vE,vF,vG,vH,vI,vJ,vK,vL,vM,vN,vO,vP,vQ,vR,vS,vT,vU] w R
abbrev qq68.J1 (Y0:Option Addr) (yn0 yc0 yg4:Nat) (y7 y8 y10 y11:Int) (w:W) (R:E):Prop:=∀ d1 d2 d3 d5 d6 d9 dC dD dE dF dG dH dI dJ dK dL dM dN dO dP dQ dR dS dT dU dV dW dX dY dZ k0 k1 k2 k3 k4 k5 k6 k7 k8 k9 kA kB kC kD kE kF kG kH kI kJ kK kL kM kN kO kP kQ kR kS kT kU kV kW kX kY kZ v0 v1 v2 v3 v4 v5 v6 v7 v8 v9 vA vB vC vD vE vF vG vH vI vJ vK vL vM vN vO vP vQ vR vS vT vU,qq68.j1 Y0 yn0 yc0 yg4 y7 y8 y10 y11 d1 d2 d3 d5 d6 d9 dC dD dE dF dG dH dI dJ dK dL dM dN dO dP dQ dR dS dT dU dV dW dX dY dZ k0 k1 k2 k3 k4 k5 k6 k7 k8 k9 kA kB kC kD kE kF kG kH kI kJ kK kL kM kN kO kP kQ kR kS kT kU kV kW kX kY kZ v0 v1 v2 v3 v4 v5 v6 v7 v8 v9 vA vB vC vD vE vF vG vH vI vJ vK vL vM vN vO vP vQ vR vS vT vU w R
theorem qq68.j1_eq:qq68.j1 Y0 yn0 yc0 yg4 y7 y8 y10 y11 d1 d2 d3 d5 d6 d9 dC dD dE dF dG dH dI dJ dK dL dM dN dO dP dQ dR dS dT dU dV dW dX dY dZ k0 k1 k2 k3 k4 k5 k6 k7 k8 k9 kA kB kC kD kE kF kG kH kI kJ kK kL kM kN kO kP kQ kR kS kT kU kV kW kX kY kZ v0 v1 v2 v3 v4 v5 v6 v7 v8 v9 vA vB vC vD vE vF vG vH vI vJ vK vL vM vN vO vP vQ vR vS vT vU w R =
(Let (w.heap.size) fun g1:Nat=>
 Let (w.alloc (.cells #[I B 0,I H 0,T false,T false,I L 0,I B 0,I B 0,I D 0,I D 0,S N 0 0,S N 0 0] 37)) fun w2:W=>
 ∃ S3:W→Prop,S3 w2.drew∧
(Let (w2.drew) fun w4:W=>
 ∃ a5:Addr,Y0=some a5∧(0≤(1:Int)∧(1:Int) < (yn0:Int))∧
(∃ x6:Int,(∀ w',S3 w'→w'.cell? (a5.add 1)=some (I B x6))∧
(Let (L.wrap (Int.tdiv y10 2)) fun x7:Int=>
 Let (Int.tmod y10 2) fun x8:Int=>
 ∃ a9:Addr,Y0=some a9∧(0≤(8:Int)∧(8:Int) < (yn0:Int))∧
(∃ x10:Int,(∀ w',S3 w'→w'.cell? (a9.add 8)=some (I B x10))∧
(∃ a11:Addr,Y0=some a11∧(0≤(9:Int)∧(9:Int) < (yn0:Int))∧
(∃ x12:Int,(∀ w',S3 w'→w'.cell? (a11.add 9)=some (I B x12))∧
((0≤y7∧y7≤(yc0:Int))∧
(0≤(20:Int)∧(20:Int)≤(y7.toNat:Int))∧
(Calls Tryz.prog 106 #[S Y0 yn0 yc0,I L 4] w4 (fun (e14:Ending) (w13:W)=>
 ∃ x15:Int,e14=.returned (I L x15)∧
(S3 w13∧
(Let (H.wrap x15) fun x16:Int=>
 Calls Tryz.prog 107 #[S Y0 yn0 yc0,I L 12] w13 (fun (e18:Ending) (w17:W)=>
 ∃ x19:Int,e18=.returned (I L x19)∧
(S3 w17∧
(Let (D.wrap x19) fun x20:Int=>
 Calls Tryz.prog 107 #[S Y0 yn0 yc0,I L 16] w17 (fun (e22:Ending) (w21:W)=>
 ∃ x23:Int,e22=.returned (I L x23)∧
(S3 w21∧
(Let (D.wrap x23) fun x24:Int=>
 Calls Tryz.prog 108 #[S (cutA Y0 20 yc0 1) (y7.toNat-20) (yc0-20)] w21 (fun (e26:Ending) (w25:W)=>
 ∃ (A27:Option Addr) (n27_ c27_:Nat),e26=.returned (S A27 n27_ c27_)∧
(S3 w25∧
(May w25 ⟨g1,0,N⟩ 10∧
(Let (putCells w25 ⟨g1,0,N⟩ [I B x6,I H x16,T (x7 == 1),T (x8 == 1),I L y11,I B x10,I B x12,I D x20,I D x24,S A27 n27_ c27_] 0) fun w28:W=>
 S3 w28∧
((0≤y8∧y8≤(yc0:Int))∧
(0≤y7∧y7≤(y8.toNat:Int))∧
(Calls Tryz.prog 108 #[S (cutA Y0 y7.toNat yc0 1) (y8.toNat-y7.toNat) (yc0-y7.toNat)] w28 (fun (e30:Ending) (w29:W)=>
 ∃ (A31:Option Addr) (n31_ c31_:Nat),e30=.returned (S A31 n31_ c31_)∧
(MayC w29 ⟨g1,10,N⟩∧
(Let (w29.setCell ⟨g1,10,N⟩ (S A31 n31_ c31_)) fun w32:W=>
 ∃ x33 x34:Int,∃ b35 b36:Bool,∃ x37 x38 x39 x40 x41:Int,∃ (A42:Option Addr) (n42_ c42_:Nat),∃ (A43:Option Addr) (n43_ c43_:Nat),(11=11∧At w32 ⟨g1,0,N⟩ [I B x33,I H x34,T b35,T b36,I L x37,I B x38,I B x39,I D x40,I D x41,S A42 n42_ c42_,S A43 n43_ c43_])∧
(May w32 ⟨yg4,0,N⟩ 11∧
(Let (putCells w32 ⟨yg4,0,N⟩ [I B x33,I H x34,T b35,T b36,I L x37,I B x38,I B x39,I D x40,I D x41,S A42 n42_ c42_,S A43 n43_ c43_] 0) fun w44:W=>
 ∃ x45 x46:Int,∃ b47 b48:Bool,∃ x49 x50 x51 x52 x53:Int,∃ (A54:Option Addr) (n54_ c54_:Nat),∃ (A55:Option Addr) (n55_ c55_:Nat),(11=11∧At w44 ⟨yg4,0,N⟩ [I B x45,I H x46,T b47,T b48,I L x49,I B x50,I B x51,I D x52,I D x53,S A54 n54_ c54_,S A55 n55_ c55_])∧
(R (.returned (.tuple #[G #[I B x45,I H x46,T b47,T b48,I L x49,I B x50,I B x51,I D x52,I D x53,S A54 n54_ c54_,S A55 n55_ c55_],I L 0])) w44)))))))))))))))))))))))))))))):=by kernel_rfl
def qq68.s (I0:Option Addr) (in0 ic0:Nat) (i1:Bool) (w:W) (R:E):Prop:=
(Let (w.heap.size) fun g1:Nat=>
 Let (w.alloc (.cells #[I B 0,I H 0,T false,T false,I L 0,I B 0,I B 0,I D 0,I D 0,S N 0 0,S N 0 0] 37)) fun w2:W=>
 Let (w2.heap.size) fun g3:Nat=>
 Let (w2.alloc (.cells #[I B 0,I H 0,T false,T false,I L 0,I B 0,I B 0,I D 0,I D 0,S N 0 0,S N 0 0] 37)) fun w4:W=>
 Calls Tryz.prog 105 #[S I0 in0 ic0,T i1] w4 (fun (e6:Ending) (w5:W)=>
 ∃ x7 x8 x9:Int,e6=.returned (.tuple #[I L x7,I L x8,I L x9])∧
((if (x9 != 0)=true then
(∃ x10 x11:Int,∃ b12 b13:Bool,∃ x14 x15 x16 x17 x18:Int,∃ (A19:Option Addr) (n19_ c19_:Nat),∃ (A20:Option Addr) (n20_ c20_:Nat),(11=11∧At w5 ⟨g3,0,N⟩ [I B x10,I H x11,T b12,T b13,I L x14,I B x15,I B x16,I D x17,I D x18,S A19 n19_ c19_,S A20 n20_ c20_])∧
(May w5 ⟨g1,0,N⟩ 11∧
(Let (putCells w5 ⟨g1,0,N⟩ [I B x10,I H x11,T b12,T b13,I L x14,I B x15,I B x16,I D x17,I D x18,S A19 n19_ c19_,S A20 n20_ c20_] 0) fun w21:W=>
 ∃ x22 x23:Int,∃ b24 b25:Bool,∃ x26 x27 x28 x29 x30:Int,∃ (A31:Option Addr) (n31_ c31_:Nat),∃ (A32:Option Addr) (n32_ c32_:Nat),(11=11∧At w21 ⟨g1,0,N⟩ [I B x22,I H x23,T b24,T b25,I L x26,I B x27,I B x28,I D x29,I D x30,S A31 n31_ c31_,S A32 n32_ c32_])∧
(R (.returned (.tuple #[G #[I B x22,I H x23,T b24,T b25,I L x26,I B x27,I B x28,I D x29,I D x30,S A31 n31_ c31_,S A32 n32_ c32_],I L x9])) w21))))
else
((0≤x7∧x7≤(ic0:Int))∧
(Let (w5.heap.size) fun g33:Nat=>
 Let (w5.alloc (.cells #[S I0 x7.toNat ic0] 33)) fun w34:W=>
 Calls Tryz.prog 53 #[S (some ⟨g33,0,N⟩) 1 1] w34 (fun (e36:Ending) (w35:W)=>
 ∃ x37:Int,e36=.returned (I H x37)∧
((if (x37 != 0)=true then
(∃ x38 x39:Int,∃ b40 b41:Bool,∃ x42 x43 x44 x45 x46:Int,∃ (A47:Option Addr) (n47_ c47_:Nat),∃ (A48:Option Addr) (n48_ c48_:Nat),(11=11∧At w35 ⟨g3,0,N⟩ [I B x38,I H x39,T b40,T b41,I L x42,I B x43,I B x44,I D x45,I D x46,S A47 n47_ c47_,S A48 n48_ c48_])∧
(May w35 ⟨g1,0,N⟩ 11∧
(Let (putCells w35 ⟨g1,0,N⟩ [I B x38,I H x39,T b40,T b41,I L x42,I B x43,I B x44,I D x45,I D x46,S A47 n47_ c47_,S A48 n48_ c48_] 0) fun w49:W=>
 ∃ x50 x51:Int,∃ b52 b53:Bool,∃ x54 x55 x56 x57 x58:Int,∃ (A59:Option Addr) (n59_ c59_:Nat),∃ (A60:Option Addr) (n60_ c60_:Nat),(11=11∧At w49 ⟨g1,0,N⟩ [I B x50,I H x51,T b52,T b53,I L x54,I B x55,I B x56,I D x57,I D x58,S A59 n59_ c59_,S A60 n60_ c60_])∧
(R (.returned (.tuple #[G #[I B x50,I H x51,T b52,T b53,I L x54,I B x55,I B x56,I D x57,I D x58,S A59 n59_ c59_,S A60 n60_ c60_],I L 33])) w49))))
else
(∃ a61:Addr,I0=some a61∧(0≤(6:Int)∧(6:Int) < (in0:Int))∧
(∃ x62:Int,w35.cell? (a61.add 6)=some (I B x62)∧
(Let (L.wrap x62) fun x63:Int=>
 Let (L.wrap (Int.tdiv x63 32)) fun x64:Int=>
(if decide (x64 ≥ 4)=true then
(∃ x65 x66:Int,∃ b67 b68:Bool,∃ x69 x70 x71 x72 x73:Int,∃ (A74:Option Addr) (n74_ c74_:Nat),∃ (A75:Option Addr) (n75_ c75_:Nat),(11=11∧At w35 ⟨g3,0,N⟩ [I B x65,I H x66,T b67,T b68,I L x69,I B x70,I B x71,I D x72,I D x73,S A74 n74_ c74_,S A75 n75_ c75_])∧
(May w35 ⟨g1,0,N⟩ 11∧
(Let (putCells w35 ⟨g1,0,N⟩ [I B x65,I H x66,T b67,T b68,I L x69,I B x70,I B x71,I D x72,I D x73,S A74 n74_ c74_,S A75 n75_ c75_] 0) fun w76:W=>
 ∃ x77 x78:Int,∃ b79 b80:Bool,∃ x81 x82 x83 x84 x85:Int,∃ (A86:Option Addr) (n86_ c86_:Nat),∃ (A87:Option Addr) (n87_ c87_:Nat),(11=11∧At w76 ⟨g1,0,N⟩ [I B x77,I H x78,T b79,T b80,I L x81,I B x82,I B x83,I D x84,I D x85,S A86 n86_ c86_,S A87 n87_ c87_])∧
(R (.returned (.tuple #[G #[I B x77,I H x78,T b79,T b80,I L x81,I B x82,I B x83,I D x84,I D x85,S A86 n86_ c86_,S A87 n87_ c87_],I L 32])) w76))))
else
((0≤x7∧x7≤(ic0:Int))∧
(0≤(20:Int)∧(20:Int)≤(x7.toNat:Int))∧
(Calls Tryz.prog 97 #[S (cutA I0 20 ic0 1) (x7.toNat-20) (ic0-20)] w35 (fun (e89:Ending) (w88:W)=>
 ∃ b90:Bool,e89=.returned (T b90)∧
((if (!b90)=true then
(∃ x91 x92:Int,∃ b93 b94:Bool,∃ x95 x96 x97 x98 x99:Int,∃ (A100:Option Addr) (n100_ c100_:Nat),∃ (A101:Option Addr) (n101_ c101_:Nat),(11=11∧At w88 ⟨g3,0,N⟩ [I B x91,I H x92,T b93,T b94,I L x95,I B x96,I B x97,I D x98,I D x99,S A100 n100_ c100_,S A101 n101_ c101_])∧
(May w88 ⟨g1,0,N⟩ 11∧
(Let (putCells w88 ⟨g1,0,N⟩ [I B x91,I H x92,T b93,T b94,I L x95,I B x96,I B x97,I D x98,I D x99,S A100 n100_ c100_,S A101 n101_ c101_] 0) fun w102:W=>
 ∃ x103 x104:Int,∃ b105 b106:Bool,∃ x107 x108 x109 x110 x111:Int,∃ (A112:Option Addr) (n112_ c112_:Nat),∃ (A113:Option Addr) (n113_ c113_:Nat),(11=11∧At w102 ⟨g1,0,N⟩ [I B x103,I H x104,T b105,T b106,I L x107,I B x108,I B x109,I D x110,I D x111,S A112 n112_ c112_,S A113 n113_ c113_])∧
(R (.returned (.tuple #[G #[I B x103,I H x104,T b105,T b106,I L x107,I B x108,I B x109,I D x110,I D x111,S A112 n112_ c112_,S A113 n113_ c113_],I L 34])) w102))))
else
(Calls Tryz.prog 106 #[S I0 in0 ic0,I L 6] w88 (fun (e115:Ending) (w114:W)=>
 ∃ x116:Int,e115=.returned (I L x116)∧
(Let (Int.tmod x116 8192) fun x117:Int=>
 Let (L.wrap (8 * x117)) fun x118:Int=>
 Let (L.wrap (x8-x7)) fun x119:Int=>
 Let (Int.tmod x64 2) fun x120:Int=>
 Calls Tryz.prog 98 #[I L x118,I L x119,T (x120 == 1)] w114 (fun (e122:Ending) (w121:W)=>
 ∃ b123:Bool,e122=.returned (T b123)∧
((if (!b123)=true then
(∃ x124 x125:Int,∃ b126 b127:Bool,∃ x128 x129 x130 x131 x132:Int,∃ (A133:Option Addr) (n133_ c133_:Nat),∃ (A134:Option Addr) (n134_ c134_:Nat),(11=11∧At w121 ⟨g3,0,N⟩ [I B x124,I H x125,T b126,T b127,I L x128,I B x129,I B x130,I D x131,I D x132,S A133 n133_ c133_,S A134 n134_ c134_])∧
(May w121 ⟨g1,0,N⟩ 11∧
(Let (putCells w121 ⟨g1,0,N⟩ [I B x124,I H x125,T b126,T b127,I L x128,I B x129,I B x130,I D x131,I D x132,S A133 n133_ c133_,S A134 n134_ c134_] 0) fun w135:W=>
 ∃ x136 x137:Int,∃ b138 b139:Bool,∃ x140 x141 x142 x143 x144:Int,∃ (A145:Option Addr) (n145_ c145_:Nat),∃ (A146:Option Addr) (n146_ c146_:Nat),(11=11∧At w135 ⟨g1,0,N⟩ [I B x136,I H x137,T b138,T b139,I L x140,I B x141,I B x142,I D x143,I D x144,S A145 n145_ c145_,S A146 n146_ c146_])∧
(R (.returned (.tuple #[G #[I B x136,I H x137,T b138,T b139,I L x140,I B x141,I B x142,I D x143,I D x144,S A145 n145_ c145_,S A146 n146_ c146_],I L 36])) w135))))
else
((if decide (x8 > (in0:Int))=true then
(Leaf (qq68.j1 I0 in0 ic0 g1 x7 (in0:Int) x64 x118 (T i1) U U (I L 0) (P (some ⟨g3,0,N⟩)) (I L x9) U (.tuple #[I L x7,I L x8,I L x9]) (S I0 in0 ic0) (T i1) (.tuple #[I L x7,I L x8,I L x9]) (I L x7) (I L x8) (I L x9) (I L x9) (T (x9 != 0)) U U (S I0 in0 ic0) (I L x7) (S I0 x7.toNat ic0) (S (some ⟨g33,0,N⟩) 1 1) (I H x37) (T (x37 != 0)) U (S I0 in0 ic0) (P (some (a61.add 6))) (I B x62) (I L x63) (I L x64) (I L x64) (T (decide (x64 ≥ 4))) U (S I0 in0 ic0) (I L x7) (S (cutA I0 20 ic0 1) (x7.toNat-20) (ic0-20)) (T b90) (T (!b90)) U (S I0 in0 ic0) (I L x116) (I L x117) (I L x118) (I L x118) (I L x8) (I L x7) (I L x119) (I L x64) (I L x120) (T (x120 == 1)) (T b123) (T (!b123)) U (I L x8) (S I0 in0 ic0) (I L (in0:Int)) (T (decide (x8 > (in0:Int)))) (S I0 in0 ic0) (I L (in0:Int)) U U U U U U U U U U U U U U U U U U U U U U U U U U U U U U U U U U U U U U w121 R))
else
(Leaf (qq68.j1 I0 in0 ic0 g1 x7 x8 x64 x118 (T i1) U U (I L 0) (P (some ⟨g3,0,N⟩)) (I L x9) U (.tuple #[I L x7,I L x8,I L x9]) (S I0 in0 ic0) (T i1) (.tuple #[I L x7,I L x8,I L x9]) (I L x7) (I L x8) (I L x9) (I L x9) (T (x9 != 0)) U U (S I0 in0 ic0) (I L x7) (S I0 x7.toNat ic0) (S (some ⟨g33,0,N⟩) 1 1) (I H x37) (T (x37 != 0)) U (S I0 in0 ic0) (P (some (a61.add 6))) (I B x62) (I L x63) (I L x64) (I L x64) (T (decide (x64 ≥ 4))) U (S I0 in0 ic0) (I L x7) (S (cutA I0 20 ic0 1) (x7.toNat-20) (ic0-20)) (T b90) (T (!b90)) U (S I0 in0 ic0) (I L x116) (I L x117) (I L x118) (I L x118) (I L x8) (I L x7) (I L x119) (I L x64) (I L x120) (T (x120 == 1)) (T b123) (T (!b123)) U (I L x8) (S I0 in0 ic0) (I L (in0:Int)) (T (decide (x8 > (in0:Int)))) U U U U U U U U U U U U U U U U U U U U U U U U U U U U U U U U U U U U U U U U w121 R))))))))))))))))))))))))))))
theorem qq68.run (h:qq68.s I0 in0 ic0 i1 w R):Calls Tryz.prog 101 #[S I0 in0 ic0,T i1] w R:=
 calls_segk (ords:=qq68.ords) (J:=qq68.joins) ents mixed Tryz.func101 rfl h (by kernel_rfl)
def qq44.ords:Nat→Od
 | _=>.nil
def qq44.joins (p:List Nat):Bool:=false
def qq44.l1 (n yg1:Nat) (Y8:Option Addr) (yn8 yc8:Nat) (y9:Int) (d0 d2 d3 d4 d5 d6 d7 dA dB dC dD dE dF dG dH dI dJ dK dL dM dN dO dP dQ dR dS dT dU dV dW dX dY dZ k0 k1 k2 k3 k4 k5 k6 k7 k8 k9 kA kB kC kD kE kF:V) (w:W) (R:E):Prop:=
 lseg Tryz.prog entE qq44.ords qq44.joins Tryz.f42 [1,1,1,1,1,1,1,0,1,0] [0,1,0,1,1,1,1,1,1,1] [] n [d0,P (some ⟨yg1,0,N⟩),d2,d3,d4,d5,d6,d7,S Y8 yn8 yc8,I L y9,dA,dB,dC,dD,dE,dF,dG,dH,dI,dJ,dK,dL,dM,dN,dO,dP,dQ,dR,dS,dT,dU,dV,dW,dX,dY,dZ,k0,k1,k2,k3,k4,k5,k6,k7,k8,k9,kA,kB,kC,kD,kE,kF] w R
abbrev qq44.L1 (n yg1:Nat) (Y8:Option Addr) (yn8 yc8:Nat) (y9:Int) (w:W) (R:E):Prop:=∀ d0 d2 d3 d4 d5 d6 d7 dA dB dC dD dE dF dG dH dI dJ dK dL dM dN dO dP dQ dR dS dT dU dV dW dX dY dZ k0 k1 k2 k3 k4 k5 k6 k7 k8 k9 kA kB kC kD kE kF,qq44.l1 n yg1 Y8 yn8 yc8 y9 d0 d2 d3 d4 d5 d6 d7 dA dB dC dD dE dF dG dH dI dJ dK dL dM dN dO dP dQ dR dS dT dU dV dW dX dY dZ k0 k1 k2 k3 k4 k5 k6 k7 k8 k9 kA kB kC kD kE kF w R
theorem qq44.l1_eq {n:Nat}:qq44.l1 (n+1) yg1 Y8 yn8 yc8 y9 d0 d2 d3 d4 d5 d6 d7 dA dB dC dD dE dF dG dH dI dJ dK dL dM dN dO dP dQ dR dS dT dU dV dW dX dY dZ k0 k1 k2 k3 k4 k5 k6 k7 k8 k9 kA kB kC kD kE kF w R =
(∃ (A1:Option Addr) (n1_ c1_:Nat),w.cell? ⟨yg1,10,N⟩=some (S A1 n1_ c1_)∧
((if decide (y9 < (n1_:Int))=true then
(∃ (A2:Option Addr) (n2_ c2_:Nat),w.cell? ⟨yg1,10,N⟩=some (S A2 n2_ c2_)∧
(∃ a3:Addr,A2=some a3∧(0≤y9∧y9 < (n2_:Int))∧
(∃ x4:Int,w.cell? (a3.add y9.toNat)=some (I B x4)∧
(Let (w.heap.size) fun g5:Nat=>
 Let (w.alloc (.cells #[I B x4] 5)) fun w6:W=>
 AppE w6 1 1 5 [I B 0] Y8 yn8 yc8 (some ⟨g5,0,N⟩) 1 (fun (A7:Option Addr) (c8:Nat) (w9:W)=>
 Let (L.wrap (y9+1)) fun x10:Int=>
 qq44.l1 n yg1 A7 (yn8+1) c8 x10 d0 d2 d3 d4 d5 d6 d7 dA dB dC dD dE dF dG dH dI dJ dK dL dM dN dO dP dQ dR dS dT dU dV dW dX dY dZ (I L y9) (P (some ⟨yg1,10,N⟩)) (S A1 n1_ c1_) (I L (n1_:Int)) (T (decide (y9 < (n1_:Int)))) (I L y9) (I L x10) (S Y8 yn8 yc8) (P (some ⟨yg1,10,N⟩)) (S A2 n2_ c2_) (I L y9) (P (some (a3.add y9.toNat))) (I B x4) (S (some ⟨g5,0,N⟩) 1 1) (S A7 (yn8+1) c8) kF w9 R)))))
else
(R (.returned (.tuple #[S Y8 yn8 yc8,I L 0])) w)))):=by kernel_rfl
def qq44.s (i0_0 i0_1:Int) (i0_2 i0_3:Bool) (i0_4 i0_5 i0_6 i0_7 i0_8:Int) (I0_9:Option Addr) (in0_9 ic0_9:Nat) (I0_10:Option Addr) (in0_10 ic0_10:Nat) (w:W) (R:E):Prop:=
(Let (w.heap.size) fun g1:Nat=>
 Let (w.alloc (.cells #[I B i0_0,I H i0_1,T i0_2,T i0_3,I L i0_4,I B i0_5,I B i0_6,I D i0_7,I D i0_8,S I0_9 in0_9 ic0_9,S I0_10 in0_10 ic0_10] 37)) fun w2:W=>
 ∃ x3 x4:Int,∃ b5 b6:Bool,∃ x7 x8 x9 x10 x11:Int,∃ (A12:Option Addr) (n12_ c12_:Nat),∃ (A13:Option Addr) (n13_ c13_:Nat),(11=11∧At w2 ⟨g1,0,N⟩ [I B x3,I H x4,T b5,T b6,I L x7,I B x8,I B x9,I D x10,I D x11,S A12 n12_ c12_,S A13 n13_ c13_])∧
(Calls Tryz.prog 76 #[G #[I B x3,I H x4,T b5,T b6,I L x7,I B x8,I B x9,I D x10,I D x11,S A12 n12_ c12_,S A13 n13_ c13_]] w2 (fun (e15:Ending) (w14:W)=>
 ∃ x16:Int,e15=.returned (I L x16)∧
((if (x16 != 0)=true then
(R (.returned (.tuple #[S N 0 0,I L x16])) w14)
else
(∃ (A17:Option Addr) (n17_ c17_:Nat),w14.cell? ⟨g1,9,N⟩=some (S A17 n17_ c17_)∧
(Let (L.wrap (20+(n17_:Int))) fun x18:Int=>
 ∃ (A19:Option Addr) (n19_ c19_:Nat),w14.cell? ⟨g1,10,N⟩=some (S A19 n19_ c19_)∧
(Let (L.wrap (x18+(n19_:Int))) fun x20:Int=>
 ∃ x21 x22:Int,∃ b23 b24:Bool,∃ x25 x26 x27 x28 x29:Int,∃ (A30:Option Addr) (n30_ c30_:Nat),(10=10∧At w14 ⟨g1,0,N⟩ [I B x21,I H x22,T b23,T b24,I L x25,I B x26,I B x27,I D x28,I D x29,S A30 n30_ c30_])∧
(Calls Tryz.prog 77 #[G #[I B x21,I H x22,T b23,T b24,I L x25,I B x26,I B x27,I D x28,I D x29,S A30 n30_ c30_],I L x20,I H 0] w14 (fun (e32:Ending) (w31:W)=>
 ∃ (A33:Option Addr) (n33_ c33_:Nat),e32=.returned (S A33 n33_ c33_)∧
(Let (w31.heap.size) fun g34:Nat=>
 Let (w31.alloc (.cells #[S A33 n33_ c33_] 33)) fun w35:W=>
 Calls Tryz.prog 53 #[S (some ⟨g34,0,N⟩) 1 1] w35 (fun (e37:Ending) (w36:W)=>
 ∃ x38:Int,e37=.returned (I H x38)∧
(∃ x39 x40:Int,∃ b41 b42:Bool,∃ x43 x44 x45 x46 x47:Int,∃ (A48:Option Addr) (n48_ c48_:Nat),(10=10∧At w36 ⟨g1,0,N⟩ [I B x39,I H x40,T b41,T b42,I L x43,I B x44,I B x45,I D x46,I D x47,S A48 n48_ c48_])∧
(Calls Tryz.prog 77 #[G #[I B x39,I H x40,T b41,T b42,I L x43,I B x44,I B x45,I D x46,I D x47,S A48 n48_ c48_],I L x20,I H x38] w36 (fun (e50:Ending) (w49:W)=>
 ∃ (A51:Option Addr) (n51_ c51_:Nat),e50=.returned (S A51 n51_ c51_)∧
(∃ n52:Nat,qq44.l1 n52 g1 A51 n51_ c51_ 0 (G #[I B i0_0,I H i0_1,T i0_2,T i0_3,I L i0_4,I B i0_5,I B i0_6,I D i0_7,I D i0_8,S I0_9 in0_9 ic0_9,S I0_10 in0_10 ic0_10]) (S N 0 0) (I L 0) (I L x16) (I L x20) (S A33 n33_ c33_) (I H x38) (G #[I B x3,I H x4,T b5,T b6,I L x7,I B x8,I B x9,I D x10,I D x11,S A12 n12_ c12_,S A13 n13_ c13_]) (I L x16) (I L x16) (T (x16 != 0)) U (P (some ⟨g1,0,N⟩)) (P (some ⟨g1,9,N⟩)) (S A17 n17_ c17_) (I L (n17_:Int)) (I L x18) (P (some ⟨g1,10,N⟩)) (S A19 n19_ c19_) (I L (n19_:Int)) (I L x20) (P (some ⟨g1,0,N⟩)) (G #[I B x21,I H x22,T b23,T b24,I L x25,I B x26,I B x27,I D x28,I D x29,S A30 n30_ c30_]) (I L x20) (S A33 n33_ c33_) (S A33 n33_ c33_) (S (some ⟨g34,0,N⟩) 1 1) (I H x38) (P (some ⟨g1,0,N⟩)) (G #[I B x39,I H x40,T b41,T b42,I L x43,I B x44,I B x45,I D x46,I D x47,S A48 n48_ c48_]) (I L x20) (I H x38) (S A51 n51_ c51_) U U U U U U U U U U U U U U U U w49 R))))))))))))))))
theorem qq44.run (h:qq44.s i0_0 i0_1 i0_2 i0_3 i0_4 i0_5 i0_6 i0_7 i0_8 I0_9 in0_9 ic0_9 I0_10 in0_10 ic0_10 w R):Calls Tryz.prog 42 #[G #[I B i0_0,I H i0_1,T i0_2,T i0_3,I L i0_4,I B i0_5,I B i0_6,I D i0_7,I D i0_8,S I0_9 in0_9 ic0_9,S I0_10 in0_10 ic0_10]] w R:=
 calls_segk (ords:=qq44.ords) (J:=qq44.joins) ents mixed Tryz.func42 rfl h (by kernel_rfl)
def qq69.ords:Nat→Od
 | 2=>(.tk 0 (.tk 1 (.tk 2 (.tk 3 (.tk 4 (.on 5 (.tk 6 (.tk 7 .nil))))))))
 | _=>.nil
def qq69.joins (p:List Nat):Bool:=false
def qq69.s (I0:Option Addr) (in0 ic0:Nat) (w:W) (R:E):Prop:=
(Let (w.heap.size) fun g1:Nat=>
 Let (w.alloc (.cells #[I B 0,I H 0,T false,T false,I L 0,I B 0,I B 0,I D 0,I D 0,S N 0 0] 35)) fun w2:W=>
 Calls Tryz.prog 101 #[S I0 in0 ic0,T false] w2 (fun (e4:Ending) (w3:W)=>
 ∃ x5 x6:Int,∃ b7 b8:Bool,∃ x9 x10 x11 x12 x13:Int,∃ (A14:Option Addr) (n14_ c14_:Nat),∃ (A15:Option Addr) (n15_ c15_:Nat),∃ x16:Int,e4=.returned (.tuple #[G #[I B x5,I H x6,T b7,T b8,I L x9,I B x10,I B x11,I D x12,I D x13,S A14 n14_ c14_,S A15 n15_ c15_],I L x16])∧
(Let (w3.heap.size) fun g17:Nat=>
 Let (w3.alloc (.cells #[I B 0,I H 0,T false,T false,I L 0,I B 0,I B 0,I D 0,I D 0,S N 0 0,S N 0 0] 37)) fun w18:W=>
 May w18 ⟨g17,0,N⟩ 11∧
(Let (putCells w18 ⟨g17,0,N⟩ [I B x5,I H x6,T b7,T b8,I L x9,I B x10,I B x11,I D x12,I D x13,S A14 n14_ c14_,S A15 n15_ c15_] 0) fun w19:W=>
 ∃ S20:W→Prop,S20 w19.drew∧
(Let (w19.drew) fun w21:W=>
 ∃ x22 x23:Int,∃ b24 b25:Bool,∃ x26 x27 x28 x29 x30:Int,∃ (A31:Option Addr) (n31_ c31_:Nat),(10=10∧(∀ w',S20 w'→At w' ⟨g17,0,N⟩ [I B x22,I H x23,T b24,T b25,I L x26,I B x27,I B x28,I D x29,I D x30,S A31 n31_ c31_]))∧
(∃ (A32:Option Addr) (n32_ c32_:Nat),(∀ w',S20 w'→w'.cell? ⟨g17,10,N⟩=some (S A32 n32_ c32_))∧
(May w21 ⟨g1,0,N⟩ 10∧
(Let (putCells w21 ⟨g1,0,N⟩ [I B x22,I H x23,T b24,T b25,I L x26,I B x27,I B x28,I D x29,I D x30,S A31 n31_ c31_] 0) fun w33:W=>
 S20 w33∧
(∃ x34 x35:Int,∃ b36 b37:Bool,∃ x38 x39 x40 x41 x42:Int,∃ (A43:Option Addr) (n43_ c43_:Nat),(10=10∧At w33 ⟨g1,0,N⟩ [I B x34,I H x35,T b36,T b37,I L x38,I B x39,I B x40,I D x41,I D x42,S A43 n43_ c43_])∧
(R (.returned (.tuple #[G #[I B x34,I H x35,T b36,T b37,I L x38,I B x39,I B x40,I D x41,I D x42,S A43 n43_ c43_],S A32 n32_ c32_,I L x16])) w33))))))))))
theorem qq69.run (h:qq69.s I0 in0 ic0 w R):Calls Tryz.prog 85 #[S I0 in0 ic0] w R:=
 calls_segk (ords:=qq69.ords) (J:=qq69.joins) ents mixed Tryz.func85 rfl h (by kernel_rfl)
end Go.Proofs.YtphbdmafchjjeaaGreatDoorS
