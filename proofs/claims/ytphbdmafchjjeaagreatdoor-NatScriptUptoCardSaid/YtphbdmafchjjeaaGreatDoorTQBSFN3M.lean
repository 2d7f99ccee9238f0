import Derived.Test.YtphbdmafchjjeaaGreatDoorTQBSPureM
import Derived.Test.YtphbdmafchjjeaaGreatDoorTQBSFLM
namespace Go.Proofs.YtphbdmafchjjeaaGreatDoorS
open Go Go.Proofs
open Go renaming undef → U, World → W, Value → V
open Go.Value renaming int → I, slice → S, bool → T, pointer → P, agg → G
open Go.IntKind renaming u8 → B, u16 → H, u32 → D, u64 → Q, i64 → L
open Option renaming none → N
set_option autoImplicit true
set_option relaxedAutoImplicit true
set_option maxRecDepth 100000
set_option linter.unusedVariables false
def qq36.ords:Nat→Od
 | _=>.nil
def qq36.joins (p:List Nat):Bool:=p == [1,1]
def qq36.j1 (yg2 yg3:Nat) (d0 d1 d4 d5 d6 d7 d8 d9 dA dB dC dD dE dF dG dH dI dJ dK dL dM dN dO dP dQ dR dS dT dU dV dW dX dY dZ k0 k1 k2 k3 k4 k5 k6 k7 k8 k9 kA kB kC kD kE kF kG kH kI kJ kK kL kM kN kO kP kQ kR kS kT kU kV kW kX kY:V) (w:W) (R:E):Prop:=
 seg Tryz.prog entE qq36.ords qq36.joins Tryz.f48 [1,1] [1,1] [] [d0,d1,P (some ⟨yg2,0,N⟩),P (some ⟨yg3,0,N⟩),d4,d5,d6,d7,d8,d9,dA,dB,dC,dD,dE,dF,dG,dH,dI,dJ,dK,dL,dM,dN,dO,dP,dQ,dR,dS,dT,dU,dV,dW,dX,dY,dZ,k0,k1,k2,k3,k4,k5,k6,k7,k8,k9,kA,kB,kC,kD,kE,kF,kG,kH,kI,kJ,kK,kL,kM,kN,kO,kP,kQ,kR,kS,kT,kU,kV,kW,kX,kY] w R
theorem qq36.j1_eq:qq36.j1 yg2 yg3 d0 d1 d4 d5 d6 d7 d8 d9 dA dB dC dD dE dF dG dH dI dJ dK dL dM dN dO dP dQ dR dS dT dU dV dW dX dY dZ k0 k1 k2 k3 k4 k5 k6 k7 k8 k9 kA kB kC kD kE kF kG kH kI kJ kK kL kM kN kO kP kQ kR kS kT kU kV kW kX kY w R =
(∃ x1:Int,w.cell? ⟨yg2,5,N⟩=some (I B x1)∧
(∃ x2:Int,w.cell? ⟨yg3,5,N⟩=some (I B x2)∧
((if (x1 == x2)=true then
(∃ x3:Int,w.cell? ⟨yg2,6,N⟩=some (I B x3)∧
(∃ x4:Int,w.cell? ⟨yg3,6,N⟩=some (I B x4)∧
((if (x3 == x4)=true then
(∃ x5:Int,w.cell? ⟨yg2,7,N⟩=some (I D x5)∧
(∃ x6:Int,w.cell? ⟨yg3,7,N⟩=some (I D x6)∧
((if (x5 == x6)=true then
(∃ x7:Int,w.cell? ⟨yg2,8,N⟩=some (I D x7)∧
(∃ x8:Int,w.cell? ⟨yg3,8,N⟩=some (I D x8)∧
((if (x7 == x8)=true then
(∃ (A9:Option Addr) (n9_ c9_:Nat),w.cell? ⟨yg2,9,N⟩=some (S A9 n9_ c9_)∧
(∃ (A10:Option Addr) (n10_ c10_:Nat),w.cell? ⟨yg3,9,N⟩=some (S A10 n10_ c10_)∧
(Calls Tryz.prog 19 #[S A9 n9_ c9_,S A10 n10_ c10_] w (fun (e12:Ending) (w11:W)=>
 ∃ b13:Bool,e12=.returned (T b13)∧
(R (.returned (T b13)) w11)))))
else
(R (.returned (T false)) w)))))
else
(R (.returned (T false)) w)))))
else
(R (.returned (T false)) w)))))
else
(R (.returned (T false)) w))))):=by kernel_rfl
def qq36.s (i0_0 i0_1:Int) (i0_2 i0_3:Bool) (i0_4 i0_5 i0_6 i0_7 i0_8:Int) (I0_9:Option Addr) (in0_9 ic0_9:Nat) (i1_0 i1_1:Int) (i1_2 i1_3:Bool) (i1_4 i1_5 i1_6 i1_7 i1_8:Int) (I1_9:Option Addr) (in1_9 ic1_9:Nat) (w:W) (R:E):Prop:=
(Let (w.heap.size) fun g1:Nat=>
 Let (w.alloc (.cells #[I B i0_0,I H i0_1,T i0_2,T i0_3,I L i0_4,I B i0_5,I B i0_6,I D i0_7,I D i0_8,S I0_9 in0_9 ic0_9] 35)) fun w2:W=>
 Let (w2.heap.size) fun g3:Nat=>
 Let (w2.alloc (.cells #[I B i1_0,I H i1_1,T i1_2,T i1_3,I L i1_4,I B i1_5,I B i1_6,I D i1_7,I D i1_8,S I1_9 in1_9 ic1_9] 35)) fun w4:W=>
 ∃ x5:Int,w4.cell? ⟨g1,0,N⟩=some (I B x5)∧
(∃ x6:Int,w4.cell? ⟨g3,0,N⟩=some (I B x6)∧
((if (x5 != x6)=true then
(R (.returned (T false)) w4)
else
(∃ x7:Int,w4.cell? ⟨g1,1,N⟩=some (I H x7)∧
(∃ x8:Int,w4.cell? ⟨g3,1,N⟩=some (I H x8)∧
((if (x7 != x8)=true then
(R (.returned (T false)) w4)
else
(∃ b9:Bool,w4.cell? ⟨g1,2,N⟩=some (T b9)∧
(∃ b10:Bool,w4.cell? ⟨g3,2,N⟩=some (T b10)∧
((if (!(b9 == b10))=true then
(R (.returned (T false)) w4)
else
(∃ b11:Bool,w4.cell? ⟨g1,3,N⟩=some (T b11)∧
(∃ b12:Bool,w4.cell? ⟨g3,3,N⟩=some (T b12)∧
((if (!(b11 == b12))=true then
(R (.returned (T false)) w4)
else
(∃ x13:Int,w4.cell? ⟨g1,4,N⟩=some (I L x13)∧
(∃ x14:Int,w4.cell? ⟨g3,4,N⟩=some (I L x14)∧
((if (x13 != x14)=true then
(R (.returned (T false)) w4)
else
(Leaf (qq36.j1 g1 g3 (G #[I B i0_0,I H i0_1,T i0_2,T i0_3,I L i0_4,I B i0_5,I B i0_6,I D i0_7,I D i0_8,S I0_9 in0_9 ic0_9]) (G #[I B i1_0,I H i1_1,T i1_2,T i1_3,I L i1_4,I B i1_5,I B i1_6,I D i1_7,I D i1_8,S I1_9 in1_9 ic1_9]) (T false) (P (some ⟨g1,0,N⟩)) (I B x5) (P (some ⟨g3,0,N⟩)) (I B x6) (T (x5 != x6)) (T false) (P (some ⟨g1,1,N⟩)) (I H x7) (P (some ⟨g3,1,N⟩)) (I H x8) (T (x7 != x8)) (T (x7 != x8)) (T false) (P (some ⟨g1,2,N⟩)) (T b9) (P (some ⟨g3,2,N⟩)) (T b10) (T (!(b9 == b10))) (T (!(b9 == b10))) (T false) (P (some ⟨g1,3,N⟩)) (T b11) (P (some ⟨g3,3,N⟩)) (T b12) (T (!(b11 == b12))) (T (!(b11 == b12))) (T false) (P (some ⟨g1,4,N⟩)) (I L x13) (P (some ⟨g3,4,N⟩)) (I L x14) (T (x13 != x14)) (T (x13 != x14)) U U U U U U U U U U U U U U U U U U U U U U U U U U U U U U U U U w4 R))))))))))))))))))))))
theorem qq36.run (h:qq36.s i0_0 i0_1 i0_2 i0_3 i0_4 i0_5 i0_6 i0_7 i0_8 I0_9 in0_9 ic0_9 i1_0 i1_1 i1_2 i1_3 i1_4 i1_5 i1_6 i1_7 i1_8 I1_9 in1_9 ic1_9 w R):Calls Tryz.prog 48 #[G #[I B i0_0,I H i0_1,T i0_2,T i0_3,I L i0_4,I B i0_5,I B i0_6,I D i0_7,I D i0_8,S I0_9 in0_9 ic0_9],G #[I B i1_0,I H i1_1,T i1_2,T i1_3,I L i1_4,I B i1_5,I B i1_6,I D i1_7,I D i1_8,S I1_9 in1_9 ic1_9]] w R:=
 calls_segk (ords:=qq36.ords) (J:=qq36.joins) ents mixed Tryz.func48 rfl h (by kernel_rfl)
def qq13.ords:Nat→Od
 | _=>.nil
def qq13.joins (p:List Nat):Bool:=false
def qq13.s (i0_0 i0_1:Int) (i0_2 i0_3:Bool) (i0_4 i0_5 i0_6 i0_7 i0_8:Int) (I0_9:Option Addr) (in0_9 ic0_9:Nat) (I0_10:Option Addr) (in0_10 ic0_10:Nat) (i1_0 i1_1:Int) (i1_2 i1_3:Bool) (i1_4 i1_5 i1_6 i1_7 i1_8:Int) (I1_9:Option Addr) (in1_9 ic1_9:Nat) (I1_10:Option Addr) (in1_10 ic1_10:Nat) (w:W) (R:E):Prop:=
(Let (w.heap.size) fun g1:Nat=>
 Let (w.alloc (.cells #[I B i0_0,I H i0_1,T i0_2,T i0_3,I L i0_4,I B i0_5,I B i0_6,I D i0_7,I D i0_8,S I0_9 in0_9 ic0_9,S I0_10 in0_10 ic0_10] 37)) fun w2:W=>
 Let (w2.heap.size) fun g3:Nat=>
 Let (w2.alloc (.cells #[I B i1_0,I H i1_1,T i1_2,T i1_3,I L i1_4,I B i1_5,I B i1_6,I D i1_7,I D i1_8,S I1_9 in1_9 ic1_9,S I1_10 in1_10 ic1_10] 37)) fun w4:W=>
 ∃ x5 x6:Int,∃ b7 b8:Bool,∃ x9 x10 x11 x12 x13:Int,∃ (A14:Option Addr) (n14_ c14_:Nat),(10=10∧At w4 ⟨g1,0,N⟩ [I B x5,I H x6,T b7,T b8,I L x9,I B x10,I B x11,I D x12,I D x13,S A14 n14_ c14_])∧
(∃ x15 x16:Int,∃ b17 b18:Bool,∃ x19 x20 x21 x22 x23:Int,∃ (A24:Option Addr) (n24_ c24_:Nat),(10=10∧At w4 ⟨g3,0,N⟩ [I B x15,I H x16,T b17,T b18,I L x19,I B x20,I B x21,I D x22,I D x23,S A24 n24_ c24_])∧
(Calls Tryz.prog 48 #[G #[I B x5,I H x6,T b7,T b8,I L x9,I B x10,I B x11,I D x12,I D x13,S A14 n14_ c14_],G #[I B x15,I H x16,T b17,T b18,I L x19,I B x20,I B x21,I D x22,I D x23,S A24 n24_ c24_]] w4 (fun (e26:Ending) (w25:W)=>
 ∃ b27:Bool,e26=.returned (T b27)∧
((if b27=true then
(∃ (A28:Option Addr) (n28_ c28_:Nat),w25.cell? ⟨g1,10,N⟩=some (S A28 n28_ c28_)∧
(∃ (A29:Option Addr) (n29_ c29_:Nat),w25.cell? ⟨g3,10,N⟩=some (S A29 n29_ c29_)∧
(Calls Tryz.prog 19 #[S A28 n28_ c28_,S A29 n29_ c29_] w25 (fun (e31:Ending) (w30:W)=>
 ∃ b32:Bool,e31=.returned (T b32)∧
(R (.returned (T b32)) w30)))))
else
(R (.returned (T false)) w25)))))))
theorem qq13.run (h:qq13.s i0_0 i0_1 i0_2 i0_3 i0_4 i0_5 i0_6 i0_7 i0_8 I0_9 in0_9 ic0_9 I0_10 in0_10 ic0_10 i1_0 i1_1 i1_2 i1_3 i1_4 i1_5 i1_6 i1_7 i1_8 I1_9 in1_9 ic1_9 I1_10 in1_10 ic1_10 w R):Calls Tryz.prog 29 #[G #[I B i0_0,I H i0_1,T i0_2,T i0_3,I L i0_4,I B i0_5,I B i0_6,I D i0_7,I D i0_8,S I0_9 in0_9 ic0_9,S I0_10 in0_10 ic0_10],G #[I B i1_0,I H i1_1,T i1_2,T i1_3,I L i1_4,I B i1_5,I B i1_6,I D i1_7,I D i1_8,S I1_9 in1_9 ic1_9,S I1_10 in1_10 ic1_10]] w R:=
 calls_segk (ords:=qq13.ords) (J:=qq13.joins) ents mixed Tryz.func29 rfl h (by kernel_rfl)
end Go.Proofs.YtphbdmafchjjeaaGreatDoorS
namespace Go.Proofs.YtphbdmafchjjeaaGreatDoorS
open Go Go.RowKit Go.Proofs Go.Proofs.YtphbdmafchjjeaaGreatDoorX
set_option maxRecDepth 100000
set_option linter.unusedVariables false
set_option linter.unusedSectionVars false
set_option linter.unusedSimpArgs false
theorem nbbeq (b:Bool):(!(b == b))=false:=by cases b <;> rfl
theorem nheads_t {w:World} {a0 a1:Int} {a2 a3:Bool} {a4 a5 a6 a7 a8:Int} {A:Option Addr} {n c:Nat} {B:Option Addr} {m d:Nat} {l:List Int} (hA:By w A n l) (hB:By w B m l) (hn:n≤100000000000000):
  Calls Tryz.prog 48 #[.agg (hv a0 a1 a2 a3 a4 a5 a6 a7 a8 A n c).toArray,.agg (hv a0 a1 a2 a3 a4 a5 a6 a7 a8 B m d).toArray] w (Yes w):=by
 refine qq36.run ?_
 unfold qq36.s
 refine own_new (l:=hv a0 a1 a2 a3 a4 a5 a6 a7 a8 A n c) (Own.refl w) fun g1 w1 H=>?_
 refine own_new (l:=hv a0 a1 a2 a3 a4 a5 a6 a7 a8 B m d) H fun g2 w2 H=>?_
 refine ⟨_,H.cell 1 0 rfl rfl,_,H.cell 0 0 rfl rfl,ifN (fun h=>absurd rfl h) (fun _=>?_)⟩
 refine ⟨_,H.cell 1 1 rfl rfl,_,H.cell 0 1 rfl rfl,ifN (fun h=>absurd rfl h) (fun _=>?_)⟩
 refine ⟨_,H.cell 1 2 rfl rfl,_,H.cell 0 2 rfl rfl,?_⟩
 rw [nbbeq]
 refine ifB (fun h=>by cases h) (fun _=>?_)
 refine ⟨_,H.cell 1 3 rfl rfl,_,H.cell 0 3 rfl rfl,?_⟩
 rw [nbbeq]
 refine ifB (fun h=>by cases h) (fun _=>?_)
 refine ⟨_,H.cell 1 4 rfl rfl,_,H.cell 0 4 rfl rfl,ifN (fun h=>absurd rfl h) (fun _=>?_)⟩
 refine ⟨?_⟩
 rw [qq36.j1_eq]
 refine ⟨_,H.cell 1 5 rfl rfl,_,H.cell 0 5 rfl rfl,ifE (fun _=>?_) (fun h=>absurd rfl h)⟩
 refine ⟨_,H.cell 1 6 rfl rfl,_,H.cell 0 6 rfl rfl,ifE (fun _=>?_) (fun h=>absurd rfl h)⟩
 refine ⟨_,H.cell 1 7 rfl rfl,_,H.cell 0 7 rfl rfl,ifE (fun _=>?_) (fun h=>absurd rfl h)⟩
 refine ⟨_,H.cell 1 8 rfl rfl,_,H.cell 0 8 rfl rfl,ifE (fun _=>?_) (fun h=>absurd rfl h)⟩
 refine ⟨A,n,c,H.cell 1 9 rfl rfl,B,m,d,H.cell 0 9 rfl rfl,?_⟩
 refine call_of (nsame_t (hA.bel H.bel) (hB.bel H.bel) hn) ?_
 rintro e w3 ⟨rfl,k3⟩
 exact ⟨_,rfl,rfl,H.bel.trans k3⟩
theorem npackets_t {w:World} {p:Pk} {A:Option Addr} {n c:Nat} {B:Option Addr} {m d:Nat} {A':Option Addr} {n' c':Nat} {B':Option Addr} {m' d':Nat} (h:PkAt w p A n c B m d) (h':PkAt w p A' n' c' B' m' d')
  (hn:n≤100000000000000) (hm:m≤100000000000000):Calls Tryz.prog 29 #[.agg (pb p A n c B m d).toArray,.agg (pb p A' n' c' B' m' d').toArray] w (Yes w):=by
 refine qq13.run ?_
 unfold qq13.s
 refine own_new (l:=pb p A n c B m d) (Own.refl w) fun g1 w1 H=>?_
 refine own_new (l:=pb p A' n' c' B' m' d') H fun g2 w2 H=>?_
 refine ld_head10 (H.bk 1 rfl) ?_
 refine ld_head10 (H.bk 0 rfl) ?_
 refine call_of (nheads_t (h.opts.bel H.bel) (h'.opts.bel H.bel) hn) ?_
 rintro e w3 ⟨rfl,k3⟩
 replace H:=H.call k3
 refine ⟨_,rfl,ifB (fun _=>?_) (fun h=>by cases h)⟩
 refine ⟨B,m,d,H.cell 1 10 rfl rfl,B',m',d',H.cell 0 10 rfl rfl,?_⟩
 refine call_of (nsame_t (h.body.bel H.bel) (h'.body.bel H.bel) hm) ?_
 rintro e w4 ⟨rfl,k4⟩
 exact ⟨_,rfl,rfl,H.bel.trans k4⟩
def EndsV (l:List Int) (i:Nat):Prop:=i+1 < l.length∧l.getD i 0=l.getD (i+1) 0∧(l.getD i 0=0∨l.getD i 0=255)
def NearB (pr:Int) (l l':List Int):Prop:=l'.length=l.length∧∀ i,i < l.length→l.getD i 0=l'.getD i 0∨∃ a:Nat,((pr=1∧a=2)∨(pr=6∧a=16))∧(i=a∨i=a+1)∧EndsV l a∧EndsV l' a
section
variable {w0:World} {p:Pk} {l':List Int} {A:Option Addr} {n c:Nat} {B:Option Addr} {m d:Nat} {A':Option Addr} {n' c':Nat} {B':Option Addr} {m' d':Nat} (y:By w0 B m p.body) (y':By w0 B' m' l') (hN:NearB p.proto p.body l') (hm:m≤100000000000000) {g1 g3:Nat} {t1 t3:TypeId}
include y y' hN hm
end
end Go.Proofs.YtphbdmafchjjeaaGreatDoorS
namespace Go.Proofs.YtphbdmafchjjeaaGreatDoorS
open Go Go.RowKit Go.Proofs Go.Proofs.YtphbdmafchjjeaaGreatDoorX
set_option maxRecDepth 100000
set_option linter.unusedVariables false
set_option linter.unusedSectionVars false
set_option linter.unusedSimpArgs false
theorem adj_mod {s o n:Int} (h1:0≤s∧s≤65535) (h2:0≤o∧o≤65535) (h3:0≤n∧n≤65535):(adjS s o n-(s+o-n)) % 65535=0:=by
 have:=S_mod (t:=(65535-s)+(65535-o)+n) (by omega)
 unfold adjS
 omega
theorem over_mod:∀ (a b:List Int) (f:Int),a.length=b.length→0≤f∧f≤65535→Wrds a→Wrds b→(overV f a b-(f+a.sum-b.sum)) % 65535=0
 | [],[],f,_,_,_,_=>by simp [overV]
 | [],_::_,f,h,_,_,_=>by simp at h
 | _::_,[],f,h,_,_,_=>by simp at h
 | x::a,y::b,f,h,hf,ha,hb=>by
  have hx:=ha x List.mem_cons_self
  have hy:=hb y List.mem_cons_self
  have ha':Wrds a:=fun z hz=>ha z (List.mem_cons_of_mem _ hz)
  have hb':Wrds b:=fun z hz=>hb z (List.mem_cons_of_mem _ hz)
  rw [List.sum_cons,List.sum_cons]
  show (overV (if x≠y then adjS f x y else f) a b-(f+(x+a.sum)-(y+b.sum))) % 65535=0
  by_cases e:x≠y
  ·
   rw [if_pos e]
   have h1:=over_mod a b (adjS f x y) (by simpa using h) (adjS_range hf hx hy) ha' hb'
   have h2:=adj_mod hf hx hy
   omega
  ·
   rw [if_neg e]
   have h1:=over_mod a b f (by simpa using h) hf ha' hb'
   omega
def wsum (t:Tp):Int:=t.src / 65536+t.src % 65536+t.dst / 65536+t.dst % 65536+t.sp+t.dp
theorem over_ws {w:Int} (hw:0≤w∧w≤65535) {s u:Tp} (hs:s.Fine) (hu:u.Fine):(overV w (wsV s) (wsV u)-(w+wsum s-wsum u)) % 65535=0∧0≤overV w (wsV s) (wsV u)∧overV w (wsV s) (wsV u)≤65535:=by
 refine ⟨?_,overV_range hw (wsV_wrds hs) (wsV_wrds hu)⟩
 have:=over_mod (wsV s) (wsV u) w rfl hw (wsV_wrds hs) (wsV_wrds hu)
 simp only [wsV,List.sum_cons,List.sum_nil] at this
 simp only [wsum,wsV]
 omega
theorem over_id {w x y:Int} (hw:0≤w∧w≤65535) (hx:0≤x∧x≤65535) (hy:0≤y∧y≤65535):(overV w [x] [y]-(w+x-y)) % 65535=0∧0≤overV w [x] [y]∧overV w [x] [y]≤65535:=by
 have h1:Wrds [x]:=fun z hz=>by rw [List.mem_singleton.1 hz]; exact hx
 have h2:Wrds [y]:=fun z hz=>by rw [List.mem_singleton.1 hz]; exact hy
 refine ⟨?_,overV_range hw h1 h2⟩
 have:=over_mod [x] [y] w rfl hw h1 h2
 simp only [List.sum_cons,List.sum_nil] at this
 omega
theorem cut1 {l:List Int} {n:Nat} (h:n+1≤l.length):∃ a r,l=a::r∧n≤r.length:=by
 cases l with
 | nil=>simp at h
 | cons a r=>exact ⟨a,r,rfl,by simpa using h⟩
theorem cut8 {b:List Int} (h:8≤b.length) (hb:Bytes b):∃ a0 a1 a2 a3 a4 a5 a6 a7 r,b=a0::a1::a2::a3::a4::a5::a6::a7::r∧(0≤a0∧a0≤255)∧(0≤a1∧a1≤255)∧(0≤a2∧a2≤255)∧(0≤a3∧a3≤255)∧(0≤a4∧a4≤255)∧(0≤a5∧a5≤255)∧(0≤a6∧a6≤255)∧(0≤a7∧a7≤255)∧Bytes r:=by
 obtain ⟨a0,r0,rfl,h0⟩:=cut1 h
 obtain ⟨a1,r1,rfl,h1⟩:=cut1 h0
 obtain ⟨a2,r2,rfl,h2⟩:=cut1 h1
 obtain ⟨a3,r3,rfl,h3⟩:=cut1 h2
 obtain ⟨a4,r4,rfl,h4⟩:=cut1 h3
 obtain ⟨a5,r5,rfl,h5⟩:=cut1 h4
 obtain ⟨a6,r6,rfl,h6⟩:=cut1 h5
 obtain ⟨a7,r7,rfl,h7⟩:=cut1 h6
 exact ⟨a0,a1,a2,a3,a4,a5,a6,a7,r7,rfl,hb.head,hb.tail.head,hb.tail.tail.head,hb.tail.tail.tail.head,hb.tail.tail.tail.tail.head,hb.tail.tail.tail.tail.tail.head,hb.tail.tail.tail.tail.tail.tail.head,hb.tail.tail.tail.tail.tail.tail.tail.head,hb.tail.tail.tail.tail.tail.tail.tail.tail⟩
def udpX (w:Int) (s u:Tp):Int:=if overV w (wsV s) (wsV u)=0 then 65535 else overV w (wsV s) (wsV u)
theorem udpX_mod {w:Int} (hw:0≤w∧w≤65535) {s u:Tp} (hs:s.Fine) (hu:u.Fine):(udpX w s u-(w+wsum s-wsum u)) % 65535=0∧1≤udpX w s u∧udpX w s u≤65535:=by
 obtain ⟨h1,h2,h3⟩:=over_ws hw hs hu
 unfold udpX
 split <;> refine ⟨?_,?_,?_⟩ <;> omega
section
variable {a0 a1 a2 a3 a4 a5 a6 a7:Int} {r:List Int} {s u:Tp}
theorem udp_yes (h:a6 * 256+a7≠0):carV (a0::a1::a2::a3::a4::a5::a6::a7::r) 17 s u true=u.sp / 256::u.sp % 256::u.dp / 256::u.dp % 256::a4::a5::udpX (a6 * 256+a7) s u / 256::udpX (a6 * 256+a7) s u % 256::r:=by
 have e:wd (setw (setw (a0::a1::a2::a3::a4::a5::a6::a7::r) 0 u.sp) 2 u.dp) 6=a6 * 256+a7:=rfl
 unfold carV udpS
 rw [if_neg (by decide),if_pos rfl,e,if_pos h]
 rfl
theorem udp_no (h:a6 * 256+a7=0):carV (a0::a1::a2::a3::a4::a5::a6::a7::r) 17 s u true=u.sp / 256::u.sp % 256::u.dp / 256::u.dp % 256::a4::a5::a6::a7::r:=by
 have e:wd (setw (setw (a0::a1::a2::a3::a4::a5::a6::a7::r) 0 u.sp) 2 u.dp) 6=a6 * 256+a7:=rfl
 unfold carV
 rw [if_neg (by decide),if_pos rfl,e,if_neg (fun k=>k h)]
 rfl
theorem echo_car:carV (a0::a1::a2::a3::a4::a5::a6::a7::r) 1 s u true=a0::a1::echoS (a0::a1::a2::a3::u.sp / 256::u.sp % 256::a6::a7::r) s u true / 256::echoS (a0::a1::a2::a3::u.sp / 256::u.sp % 256::a6::a7::r) s u true % 256::u.sp / 256::u.sp % 256::a6::a7::r:=by
 unfold carV
 rw [if_pos rfl]
 rfl
end
theorem echoS_mod {a0 a1 a2 a3:Int} {r:List Int} {s u:Tp} (hw:0≤a2 * 256+a3∧a2 * 256+a3≤65535) (hs:s.Fine) (hu:u.Fine):
  (echoS (a0::a1::a2::a3::r) s u true-(a2 * 256+a3+s.sp-u.sp)) % 65535=0∧0≤echoS (a0::a1::a2::a3::r) s u true∧echoS (a0::a1::a2::a3::r) s u true≤65535:=by
 have e:wd (a0::a1::a2::a3::r) 2=a2 * 256+a3:=rfl
 obtain ⟨h1,h2,h3⟩:=over_id hw hs.sp hu.sp
 unfold echoS
 rw [e]
 split
 ·
  rename_i h
  have:=h.2.2.1
  refine ⟨?_,?_,?_⟩ <;> omega
 ·
  exact ⟨h1,h2,h3⟩
theorem NearB.refl (pr:Int) (l:List Int):NearB pr l l:=⟨rfl,fun i _=>Or.inl rfl⟩
end Go.Proofs.YtphbdmafchjjeaaGreatDoorS
