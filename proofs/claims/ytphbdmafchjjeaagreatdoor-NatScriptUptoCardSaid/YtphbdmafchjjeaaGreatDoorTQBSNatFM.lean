import Derived.Test.YtphbdmafchjjeaaGreatDoorTQBSNatE
import Derived.Test.YtphbdmafchjjeaaGreatDoorTQBSPureM
import Derived.Test.YtphbdmafchjjeaaGreatDoorTQBSNatC
namespace Go.Proofs.YtphbdmafchjjeaaGreatDoorS
open Go Go.RowKit Go.Proofs Go.Proofs.YtphbdmafchjjeaaGreatDoorX
set_option maxRecDepth 100000
set_option linter.unusedVariables false
set_option linter.unusedSectionVars false
set_option linter.unusedSimpArgs false
theorem cloned_c {w:World} {A:Option Addr} {n c:Nat} {l:List Int} (h:By w A n l) (hn:n≤1000000000000):Calls Tryz.prog 36 #[.slice A n c] w (fun e w'=>∃ A' c',e=.returned (.slice A' (0+n) c')∧Buf w w' [] A' (0+n) c' l):=by
 refine qq88.run ?_
 unfold qq88.s
 refine buf_app (Buf.nil (Own.refl w)) h (by omega) fun A' c' wb q=>?_
 exact ⟨A',c',rfl,by rwa [List.nil_append] at q⟩
def turnE (p:Pk) (u:Tp):Int:=if p.err≠0 then p.err else if ofE p≠0∨u.proto≠p.proto∨(u.proto=1∧u.sp≠u.dp) then 230 else 0
def turnP (p:Pk) (u:Tp):Pk:={ p with src:=u.src,dst:=u.dst,body:=if eqV (tpv (ofT p)) (tpv u)=true then p.body else carV p.body u.proto (ofT p) u true }
def turnO (p:Pk) (u:Tp):Pk:=if turnE p u=0 then turnP p u else pz
theorem at10 {w:World} {g:Nat} {t:TypeId} {p:Pk} {A:Option Addr} {n c:Nat} {B:Option Addr} {m d:Nat} (h:Bk w g t (pb p A n c B m d)):At w ⟨g,0,none⟩ [.int .u8 p.tos,.int .u16 p.id,.bool p.df,.bool p.mf,.int .i64 p.off,.int .u8 p.ttl,.int .u8 p.proto,.int .u32 p.src,.int .u32 p.dst,.slice A n c]:=fun j v hv=>by
 have hj:j < 10:=(List.getElem?_eq_some_iff.1 hv).1
 refine h.at j v ?_
 show (([.int .u8 p.tos,.int .u16 p.id,.bool p.df,.bool p.mf,.int .i64 p.off,.int .u8 p.ttl,.int .u8 p.proto,.int .u32 p.src,.int .u32 p.dst,.slice A n c]:List Value)++[.slice B m d])[j]?=some v
 rw [List.getElem?_append_left hj]
 exact hv
def RetTu (w:World) (q:Pk) (k:Int) (e:Ending) (w':World):Prop:=Bel w w'∧RetPk w q k e w'
theorem ret_turn_no {w0 w:World} {p:Pk} {u:Tp} {k:Int} (hb:Bel w0 w) (h:turnE p u=k) (hk:k≠0):RetTu w0 (turnO p u) (turnE p u) (.returned (.tuple #[.agg (pb pz none 0 0 none 0 0).toArray,.int .i64 k])) w:=by
 have e:turnO p u=pz:=by unfold turnO; rw [if_neg (by omega)]
 rw [e,h]
 exact ⟨hb,ret_pz w0 w k⟩
section
variable {w0:World} {p:Pk} {u:Tp} (h:p.Fine) (hu:u.Fine) (ho:ofE p=0) (he:turnE p u=0)
include h hu ho he
theorem ofE_len:8≤p.body.length∧(p.err=0):=by
 unfold ofE at ho
 by_cases h1:p.err≠0
 ·
  rw [if_pos h1] at ho; exact absurd ho h1
 rw [if_neg h1] at ho
 by_cases h2:p.off > 0
 ·
  rw [if_pos h2] at ho; omega
 rw [if_neg h2] at ho
 by_cases h4:(p.proto=1∨p.proto=17)∧p.body.length < 8
 ·
  rw [if_pos h4] at ho; omega
 rw [if_neg h4] at ho
 by_cases h5:p.proto=6∧p.body.length < 20
 ·
  rw [if_pos h5] at ho; omega
 rw [if_neg h5] at ho
 unfold ofE4 at ho
 by_cases h6:p.proto=17
 ·
  exact ⟨by omega,by omega⟩
 rw [if_neg h6] at ho
 by_cases h7:p.proto=6
 ·
  exact ⟨by omega,by omega⟩
 rw [if_neg h7] at ho
 by_cases h8:p.proto=1
 ·
  exact ⟨by omega,by omega⟩
 rw [if_neg h8] at ho
 omega
theorem Turn_j3 {w:World} {g4 g10 gB:Nat} {A:Option Addr} {n c:Nat} {m d:Nat} {pad:List Int} {M:List Blk} (hd:m≤d) (hc:n≤c) (hl:(turnP p u).body.length=m) (fA:Fre w0 A)
  (H:OF w0 w ((gB,5,bv ((turnP p u).body++pad))::(g10,37,pb (turnP p u) A n c (some ⟨gB,0,none⟩) m d)::(g4,37,pb pz none 0 0 none 0 0)::M) [(A,n,p.opts)]):
  qq100.J3 g4 g10 w (RetTu w0 (turnO p u) (turnE p u)):=by
 unfold qq100.J3; intros
 rw [qq100.j3_eq]
 refine ld_pkt (H.own.bk 1 rfl) ?_
 refine of_put 2 H rfl rfl (Nat.le_refl 11) fun w1 H=>?_
 refine ld_pkt (a0:=(turnP p u).tos) (H.own.bk 2 rfl) ?_
 have e:turnO p u=turnP p u:=by unfold turnO; rw [if_pos he]
 rw [e,he]
 have yb:=(H.own.bk 0 rfl).by.take (k:=m) (by rw [List.length_append]; omega)
 rw [List.take_left' hl] at yb
 exact ⟨H.own.bel,A,n,c,_,m,d,rfl,⟨(H.fz _ List.mem_cons_self).1,yb,hc,hd⟩,fA,Fre.mk (H.own.ge 0 rfl)⟩
theorem Turn_j2 {w:World} {g2 g3 g4 g8 g10 gB:Nat} {A:Option Addr} {n c:Nat} {B:Option Addr} {m d0 d:Nat} {pad:List Int} (hn:n≤1000000000000) (yA:By w0 A n p.opts) (hd:m≤d) (hl:p.body.length=m) (hm:m≤1000000)
  (H:Own w0 w [(gB,5,bv (p.body++pad)),(g10,37,pb p A n c (some ⟨gB,0,none⟩) m d),(g4,37,pb pz none 0 0 none 0 0),(g8,39,tpv (ofT p)),(g3,39,tpv u),(g2,37,pb p A n c B m d0)]):
  qq100.J2 g2 g3 g4 g8 g10 w (RetTu w0 (turnO p u) (turnE p u)):=by
 unfold qq100.J2; intros
 rw [qq100.j2_eq]
 refine ⟨_,_,_,H.cell 5 9 rfl rfl,?_⟩
 refine call_of (cloned_c (yA.bel H.bel) hn) ?_
 rintro e w1 ⟨A4,c4,rfl,q⟩
 refine ⟨_,_,_,rfl,?_⟩
 have H0:OF w0 w _ []:=⟨H,fun x hx=>by cases hx⟩
 have ne:=H0.new_ne q.fre
 have fA:Fre w0 A4:=q.fre.le H.bel
 have H1:=(H0.call q.own.bel).add (x:=(A4,0+n,p.opts)) q.by (fun _=>ne)
 refine of_set 1 H1 rfl (Nat.lt_of_lt_of_le (by decide:9 < 11) (Nat.le_refl 11)) fun w2 H2=>?_
 refine draws (fun w'=>Bk w' g3 39 (tpv u)) ((H2.call (Bel.refl w2).drew).own.bk 4 rfl) fun w3 e3=>?_
 replace H2:=H2.call (Bel.refl w2).drew
 rw [← e3] at H2
 refine ⟨_,fun w' h=>h.cell 0 rfl,_,fun w' h=>h.cell 1 rfl,?_⟩
 refine of_set 1 H2 rfl (Nat.lt_of_lt_of_le (by decide:7 < 11) (Nat.le_refl 11)) fun w4 H4=>?_
 refine ⟨H4.own.bk 4 rfl,?_⟩
 refine of_set 1 H4 rfl (Nat.lt_of_lt_of_le (by decide:8 < 11) (Nat.le_refl 11)) fun w5 H5=>?_
 refine ⟨H5.own.bk 4 rfl,?_⟩
 refine ⟨_,_,_,_,_,⟨rfl,(H5.own.bk 3 rfl).at⟩,?_⟩
 refine ⟨_,_,_,_,_,⟨rfl,(H5.own.bk 4 rfl).at⟩,?_⟩
 have l8:=ofE_len h hu ho he
 have hT:(ofT p).Fine:=by
  unfold ofT
  rw [if_pos ho]
  exact ofT1_fine h
 by_cases hq:eqV (tpv (ofT p)) (tpv u)=true
 ·
  have e2:(!(eqV (tpv (ofT p)) (tpv u)))=false:=by rw [hq]; rfl
  have eb:turnP p u={ p with src:=u.src,dst:=u.dst }:=by unfold turnP; rw [if_pos hq]
  refine ifNot (fun hx=>?_) (fun _=>?_)
  ·
   exact absurd (hq.symm.trans hx) (by decide)
  ·
   have k:=Turn_j3 (w0:=w0) (w:=w5) (g4:=g4) (g10:=g10) (gB:=gB) (A:=A4) (n:=0+n) (c:=c4) (m:=m) (d:=d) (pad:=pad) (M:=[(g8,39,tpv (ofT p)),(g3,39,tpv u),(g2,37,pb p A n c B m d0)]) h hu ho he hd q.le (by rw [eb]; exact hl) fA (by rw [eb]; exact H5)
   exact ⟨by with_reducible apply k⟩
 ·
  refine ifNot (fun _=>?_) (fun hx=>absurd hx hq)
  have eb:turnP p u={ p with src:=u.src,dst:=u.dst,body:=carV p.body u.proto (ofT p) u true }:=by unfold turnP; rw [if_neg hq]
  refine ⟨_,_,_,H5.own.cell 1 10 rfl rfl,_,H5.own.cell 4 2 rfl rfl,?_⟩
  refine ⟨_,_,_,_,_,⟨rfl,(H5.own.bk 3 rfl).at⟩,?_⟩
  refine ⟨_,_,_,_,_,⟨rfl,(H5.own.bk 4 rfl).at⟩,?_⟩
  refine call_of (carried_c (w0:=w0) (pre:=[]) (b:=p.body) (post:=pad) (o:=0) (n:=m) (c:=d) (proto:=u.proto) (whole:=true) (s:=ofT p) (u:=u) (gB:=gB) H5 rfl hl h.body hT hu (by omega) hm) ?_
  rintro e w6 ⟨rfl,H6⟩
  refine ⟨rfl,?_⟩
  have k:=Turn_j3 (w0:=w0) (w:=w6) (g4:=g4) (g10:=g10) (gB:=gB) (A:=A4) (n:=0+n) (c:=c4) (m:=m) (d:=d) (pad:=pad) (M:=[(g8,39,tpv (ofT p)),(g3,39,tpv u),(g2,37,pb p A n c B m d0)]) h hu ho he hd q.le (by rw [eb]; exact (carV_len _ _ _ _ _).trans hl) fA (by rw [eb]; exact H6)
  exact ⟨by with_reducible apply k⟩
theorem Turn_j1 {w:World} {g2 g3 g4 g8:Nat} {A:Option Addr} {n c:Nat} {B:Option Addr} {m d0:Nat} (hn:n≤1000000000000) (yA:By w0 A n p.opts) (yB:By w0 B m p.body) (hm:m≤1000000)
  (H:Own w0 w [(g8,39,tpv (ofT p)),(g4,37,pb pz none 0 0 none 0 0),(g3,39,tpv u),(g2,37,pb p A n c B m d0)]):
  qq100.J1 g2 g3 g4 g8 w (RetTu w0 (turnO p u) (turnE p u)):=by
 have hl:=yB.len
 have l8:=ofE_len h hu ho he
 unfold qq100.J1; intros
 rw [qq100.j1_eq]
 refine draws (fun w'=>Bk w' g2 37 (pb p A n c B m d0)) (H.drew.bk 3 rfl) fun w1 e1=>?_
 replace H:=H.drew
 rw [← e1] at H
 refine ⟨_,_,_,_,_,_,_,_,_,_,_,_,⟨rfl,fun w' h=>at10 h⟩,?_⟩
 refine ⟨_,_,_,fun w' h=>h.cell 10 rfl,?_⟩
 have blk_of:∀ {wa wb:World} {A':Option Addr} {c':Nat},Buf wa wb [] A' (0+m) c' p.body→∃ gB pad,A'=some ⟨gB,0,none⟩∧Own wa wb [(gB,5,bv (p.body++pad))]:=fun {wa wb A' c'} q=>by
  rcases q.2 with ⟨_,_,hb,_⟩ | ⟨g,pad,hA,_,ho⟩
  ·
   rw [hb] at l8
   exact absurd l8.1 (by decide)
  ·
   exact ⟨g,pad,hA,ho⟩
 refine ⟨?_,?_⟩
 ·
  refine call_of (cloned_c (yB.bel H.bel) (by omega)) ?_
  rintro e w2 ⟨A16,c16,rfl,q⟩
  have hle:=q.le
  obtain ⟨gB,pad,rfl,HB⟩:=blk_of q
  have H2:=Own.join H HB
  refine ⟨_,_,_,rfl,H2.bk 4 rfl,?_⟩
  refine own_new (l:=pb pz none 0 0 none 0 0) H2 fun g17 w3 H3=>?_
  refine ⟨H3.bk 5 rfl,?_⟩
  refine own_putB 0 H3 rfl rfl (Nat.le_refl 11) fun w4 H4 u4=>?_
  refine ⟨H4.bk 5 rfl,?_⟩
  replace H4:Own w0 w4 [(g17,37,pb p A n c (some ⟨gB,0,none⟩) (0+m) c16),(gB,5,bv (p.body++pad)),(g8,39,tpv (ofT p)),(g4,37,pb pz none 0 0 none 0 0),(g3,39,tpv u),(g2,37,pb p A n c B m d0)]:=H4
  rw [Nat.zero_add] at H4 hle
  have k:=Turn_j2 (w0:=w0) (w:=w4) h hu ho he hn yA hle hl hm (H4.perm ((List.Perm.swap _ _ _).trans (List.Perm.cons _ (List.Perm.cons _ (List.Perm.swap _ _ _)))))
  exact ⟨by with_reducible apply k⟩
 ·
  refine own_new (l:=pb pz none 0 0 none 0 0) H fun g20 w3 H3=>?_
  refine ⟨H3.bk 4 rfl,?_⟩
  refine call_of (cloned_c (yB.bel H3.bel) (by omega)) ?_
  rintro e w2 ⟨A16,c16,rfl,q⟩
  have hle:=q.le
  obtain ⟨gB,pad,rfl,HB⟩:=blk_of q
  have H2:=Own.join H3 HB
  refine ⟨_,_,_,rfl,H2.bk 5 rfl,?_⟩
  refine own_putB 1 H2 rfl rfl (Nat.le_refl 11) fun w4 H4 u4=>?_
  refine ⟨H4.bk 5 rfl,?_⟩
  replace H4:Own w0 w4 [(gB,5,bv (p.body++pad)),(g20,37,pb p A n c (some ⟨gB,0,none⟩) (0+m) c16),(g8,39,tpv (ofT p)),(g4,37,pb pz none 0 0 none 0 0),(g3,39,tpv u),(g2,37,pb p A n c B m d0)]:=H4
  rw [Nat.zero_add] at H4 hle
  have k:=Turn_j2 (w0:=w0) (w:=w4) h hu ho he hn yA hle hl hm (H4.perm (List.Perm.cons _ (List.Perm.cons _ (List.Perm.swap _ _ _))))
  exact ⟨by with_reducible apply k⟩
end
theorem Turn_c {w:World} {p:Pk} {u:Tp} (h:p.Fine) (hu:u.Fine) {A:Option Addr} {n c:Nat} {B:Option Addr} {m d:Nat} (hp:PkAt w p A n c B m d):
  Calls Tryz.prog 16 #[.agg (pb p A n c B m d).toArray,.agg (tpv u).toArray] w (RetTu w (turnO p u) (turnE p u)):=by
 refine qq100.run ?_
 unfold qq100.s
 refine own_new (l:=pb p A n c B m d) (Own.refl w) fun g1 w1 H=>?_
 refine own_new (l:=tpv u) H fun g3 w2 H=>?_
 refine own_new (l:=pb pz none 0 0 none 0 0) H fun g5 w3 H=>?_
 refine ld_pkt (H.bk 2 rfl) ?_
 refine call_of (Build_e h (hp.bel H.bel)) ?_
 rintro e w4 ⟨k4,C,i,j,rfl,_⟩
 refine ⟨_,_,_,_,rfl,?_⟩
 replace H:=H.call k4
 refine ifN (fun h1=>?_) (fun h1=>?_)
 ·
  refine put_pkt 0 H rfl rfl fun w5 H _=>?_
  exact ret_turn_no H.bel (by unfold turnE; rw [if_pos h1]) h1
 have hE:p.err=0:=by omega
 have t230:(ofE p≠0∨u.proto≠p.proto∨(u.proto=1∧u.sp≠u.dp))→turnE p u=230:=fun hx=>by unfold turnE; rw [if_neg (fun hx=>hx hE),if_pos hx]
 refine ld_pkt (H.bk 2 rfl) ?_
 refine call_of (Of_c h (hp.bel H.bel)) ?_
 rintro e w5 ⟨rfl,k5⟩
 refine ⟨_,_,_,_,_,_,rfl,?_⟩
 replace H:=H.call k5
 refine own_mk (tpv tpz) H rfl rfl fun g53 w6 H k6 _=>?_
 refine ifN (fun h2=>?_) (fun h2=>?_)
 ·
  refine put_pkt 1 H rfl rfl fun w7 H _=>?_
  exact ret_turn_no H.bel (t230 (Or.inl h2)) (by decide)
 have ho:ofE p=0:=by omega
 refine ⟨u.proto,H.cell 2 2 rfl rfl,p.proto,H.cell 3 6 rfl rfl,?_⟩
 refine ifN (fun h3=>?_) (fun h3=>?_)
 ·
  refine put_pkt 1 H rfl rfl fun w7 H _=>?_
  exact ret_turn_no H.bel (t230 (Or.inr (Or.inl h3))) (by decide)
 refine ⟨u.proto,H.cell 2 2 rfl rfl,?_⟩
 have hz:=Pk.err_zero hE
 have lo:=hp.opts.len
 have lb:=hp.body.len
 have fin:¬ (u.proto=1∧u.sp≠u.dp)→qq100.J1 g1 g3 g5 g53 w6 (RetTu w (turnO p u) (turnE p u)):=fun hx=>
  Turn_j1 (w0:=w) (w:=w6) h hu ho (by unfold turnE; rw [if_neg (fun hx=>hx hE),if_neg (fun hy=>by rcases hy with hy | hy | hy; exact hy ho; exact hy h3; exact hx hy)]) (by omega) hp.opts hp.body (by omega) H
 refine ifE (fun h4=>?_) (fun h4=>?_)
 ·
  refine ⟨u.sp,H.cell 2 3 rfl rfl,u.dp,H.cell 2 4 rfl rfl,?_⟩
  refine ifN (fun h5=>?_) (fun h5=>?_)
  ·
   refine put_pkt 1 H rfl rfl fun w7 H _=>?_
   exact ret_turn_no H.bel (t230 (Or.inr (Or.inr ⟨h4,h5⟩))) (by decide)
  ·
   have k:=fin (fun hx=>hx.2 h5)
   exact ⟨by with_reducible apply k⟩
 ·
  have k:=fin (fun hx=>h4 hx.1)
  exact ⟨by with_reducible apply k⟩
end Go.Proofs.YtphbdmafchjjeaaGreatDoorS
namespace Go.Proofs.YtphbdmafchjjeaaGreatDoorS
open Go Go.Proofs
open Go renaming undef → U, World → W, Value → V
open Go.Value renaming int → I, slice → S, bool → T, pointer → P, agg → G
open Go.IntKind renaming u8 → B, u16 → H, u32 → D, u64 → Q, i64 → L
open Option renaming none → N
set_option autoImplicit true
set_option relaxedAutoImplicit true
set_option maxRecDepth 100000
set_option linter.unusedVariables false
def qq4.ords:Nat→Od
 | _=>.nil
def qq4.joins (p:List Nat):Bool:=false
def qq4.s (i0:Int) (w:W) (R:E):Prop:=
((if (i0 == 0)=true then
(R (.returned (I L 64)) w)
else
(Let (Q.wrap (0-i0)) fun x1:Int=>
 Let (Go.bits .and .u64 i0 x1) fun x2:Int=>
 Let (Q.wrap (x2 * 285870213051353865)) fun x3:Int=>
 Let (Int.fdiv x3 288230376151711744) fun x4:Int=>
(0≤(x4:Int)∧(x4:Int) < 64)∧
(∃ x5:Int,w.cell? ((⟨0,0,N⟩:Addr).add (mulS x4.toNat 1))=some (I B x5)∧
(Let (L.wrap x5) fun x6:Int=>
 R (.returned (I L x6)) w)))))
theorem qq4.run (h:qq4.s i0 w R):Calls Tryz.prog 75 #[I Q i0] w R:=
 calls_segk (ords:=qq4.ords) (J:=qq4.joins) ents mixed Tryz.func75 rfl h (by kernel_rfl)
end Go.Proofs.YtphbdmafchjjeaaGreatDoorS
namespace Go.Proofs.YtphbdmafchjjeaaGreatDoorS
open Go Go.RowKit Go.Proofs Go.Proofs.YtphbdmafchjjeaaGreatDoorX
set_option maxRecDepth 100000
set_option linter.unusedVariables false
set_option linter.unusedSectionVars false
set_option linter.unusedSimpArgs false
theorem low_and (k m:Nat) (hk:k < 64) (hm:2 ^ k * (2 * m+1) < 2 ^ 64):(2 ^ k * (2 * m+1)) &&& (2 ^ 64-2 ^ k * (2 * m+1))=2 ^ k:=by
 have e64:(2:Nat) ^ 64=2 ^ k * 2 ^ (64-k):=by rw [← Nat.pow_add]; congr 1; omega
 have hlt:2 * m+1 < 2 ^ (64-k):=by
  rw [e64] at hm
  exact Nat.lt_of_mul_lt_mul_left hm
 rw [e64,← Nat.mul_sub]
 refine Nat.eq_of_testBit_eq fun i=>?_
 rw [Nat.testBit_and,Nat.testBit_two_pow_mul,Nat.testBit_two_pow_mul,Nat.testBit_two_pow]
 by_cases hi:i ≥ k
 ·
  obtain ⟨j,rfl⟩:∃ j,i=k+j:=⟨i-k,by omega⟩
  simp only [ge_iff_le,Nat.le_add_right,decide_true,Bool.true_and,Nat.add_sub_cancel_left]
  rw [show 2 ^ (64-k)-(2 * m+1)=2 ^ (64-k)-(2 * m+1) from rfl,Nat.testBit_two_pow_sub_succ (by omega:2 * m < 2 ^ (64-k))]
  cases j with
  | zero=>
   have h1:(2 * m+1).testBit 0=true:=by simp
   have h2:(2 * m).testBit 0=false:=by simp
   rw [h1,h2]
   simp
   omega
  | succ j=>
   have h1:(2 * m+1).testBit (j+1)=m.testBit j:=by
    rw [Nat.testBit_succ]
    congr 1
    omega
   have h2:(2 * m).testBit (j+1)=m.testBit j:=by
    rw [Nat.testBit_succ]
    congr 1
    omega
   rw [h1,h2]
   cases m.testBit j <;> simp
 ·
  have h1:¬ k≤i:=by omega
  have h2:k≠i:=by omega
  simp [h1,h2]
theorem low_ex:∀ (b y:Nat),y < 2 ^ b→0 < y→∃ k m,y=2 ^ k * (2 * m+1)∧k < b
 | 0,y,h,h0=>by simp at h; omega
 | b+1,y,h,h0=>by
  by_cases hy:y % 2=1
  ·
   exact ⟨0,y / 2,by omega,by omega⟩
  ·
   obtain ⟨k,m,e,hk⟩:=low_ex b (y / 2) (by rw [Nat.pow_succ] at h; omega) (by omega)
   refine ⟨k+1,m,?_,by omega⟩
   rw [Nat.pow_succ,Nat.mul_assoc,Nat.mul_comm 2,← Nat.mul_assoc,← e]
   omega
theorem low_bits (k m:Nat):(2 ^ k * (2 * m+1)).testBit k=true∧∀ j,j < k→(2 ^ k * (2 * m+1)).testBit j=false:=by
 refine ⟨?_,fun j hj=>?_⟩
 ·
  rw [Nat.testBit_two_pow_mul]
  simp
 ·
  rw [Nat.testBit_two_pow_mul]
  simp
  omega
def dbt:List Int:=[0,1,56,2,57,49,28,3,61,58,42,50,38,29,17,4,62,47,59,36,45,43,51,22,53,39,33,30,24,18,12,5,63,55,48,27,60,41,37,16,46,35,44,21,52,32,23,11,54,26,40,15,34,20,31,10,25,14,19,9,13,8,7,6]
theorem dbt_low:∀ k:_root_.Fin 64,dbt.getD (2 ^ k.val * 285870213051353865 % 18446744073709551616 / 288230376151711744) 0=(k.val:Int)∧2 ^ k.val * 285870213051353865 % 18446744073709551616 / 288230376151711744 < 64:=by decide +kernel
def Tab (w:World):Prop:=∀ i,i < 64→w.cell? ((⟨0,0,none⟩:Addr).add (mulS i 1))=some (.int .u8 (dbt.getD i 0))
theorem Tab.bel {w w':World} (h:Tab w) (k:Bel w w'):Tab w':=fun i hi=>k.cellb (h i hi)
theorem tz_c {w:World} (hT:Tab w) {y:Nat} (h0:0 < y) (h1:y < 2 ^ 64):Calls Tryz.prog 75 #[.int .u64 (y:Int)] w (fun e w'=>∃ k:Nat,e=.returned (.int .i64 (k:Int))∧w'=w∧k < 64∧y.testBit k=true∧∀ j,j < k→y.testBit j=false):=by
 obtain ⟨k,m,ey,hk⟩:=low_ex 64 y h1 h0
 have hb:=low_bits k m
 have ha:=low_and k m hk (by rw [← ey]; exact h1)
 rw [← ey] at hb ha
 have hd:=dbt_low ⟨k,hk⟩
 simp only at hd
 have e64:(2:Nat) ^ 64=18446744073709551616:=by decide
 rw [e64] at ha h1
 refine qq4.run ?_
 unfold qq4.s
 refine ifE (fun h=>by omega) (fun _=>?_)
 refine let_as ((18446744073709551616-y:Nat):Int) (by rw [u64_mod]; omega) ?_
 refine let_as ((2 ^ k:Nat):Int) (by rw [u64_and _ _ (by omega) (by omega) (by omega) (by omega),Int.toNat_natCast,Int.toNat_natCast,ha]) ?_
 refine let_as ((2 ^ k * 285870213051353865 % 18446744073709551616:Nat):Int) (by rw [u64_mod]; simp) ?_
 refine let_as ((2 ^ k * 285870213051353865 % 18446744073709551616 / 288230376151711744:Nat):Int) (by rw [fd _ (by decide)]; simp) ?_
 refine ⟨⟨by omega,by have:=hd.2; omega⟩,?_⟩
 rw [Int.toNat_natCast]
 refine ⟨_,hT _ hd.2,?_⟩
 rw [hd.1]
 refine let_as (k:Int) (w64 (by omega) (by omega)) ?_
 exact ⟨k,rfl,rfl,hk,hb⟩
def uvs (l:List Nat):List Value:=l.map fun (x:Nat)=>Value.int .u64 ((x:Nat):Int)
structure Bm (l:List Nat):Prop where
 len:l.length=1024
 lt:∀ x∈l,x < 2 ^ 64
def hasV (l:List Nat) (n:Nat):Bool:=(l.getD (n / 64) 0).testBit (n % 64)
theorem Bm.getD {l:List Nat} (h:Bm l) (i:Nat):l.getD i 0 < 2 ^ 64:=by
 rw [List.getD_eq_getElem?_getD]
 cases e:l[i]? with
 | none=>exact Nat.pos_of_ne_zero (by decide)
 | some x=>exact h.lt x (List.mem_of_getElem? e)
theorem uvs_get (l:List Nat) (i:Nat) (h:i < l.length):(uvs l)[i]?=some (.int .u64 (l.getD i 0:Nat)):=by
 simp [uvs,List.getElem?_map,List.getElem?_eq_getElem h,List.getD_eq_getElem?_getD]
def usd (l:List Nat) (n:Int):List Value:=uvs l++[.int .i64 n]
theorem usd_len (l:List Nat) (n:Int):(usd l n).length=l.length+1:=by simp [usd,uvs]
theorem usd_get {l:List Nat} {n:Int} {i:Nat} (h:i < l.length):(usd l n)[i]?=some (.int .u64 (l.getD i 0:Nat)):=by
 unfold usd
 rw [List.getElem?_append_left (by simpa [uvs] using h),uvs_get l i h]
theorem usd_cnt {l:List Nat} {n:Int} (h:l.length=1024):(usd l n)[1024]?=some (.int .i64 n):=by
 unfold usd
 rw [List.getElem?_append_right (by simp [uvs,h])]
 simp [uvs,h]
theorem fdiv_nat (a k:Nat):Int.fdiv (a:Int) ((2:Int) ^ k)=((a / 2 ^ k:Nat):Int):=by
 rw [fd _ (Int.le_of_lt (Int.pow_pos (by decide)))]
 simp
theorem has_c {w:World} {g:Nat} {t:TypeId} {l:List Nat} {c:Int} (hb:Bm l) (h:Bk w g t (usd l c)) {n:Nat} (hn:n≤65535):Calls Tryz.prog 41 #[.pointer (some ⟨g,0,none⟩),.int .i64 (n:Int)] w (Ret (.bool (hasV l n)) w):=by
 refine qq41.run ?_
 unfold qq41.s
 refine let_as ((n / 64:Nat):Int) (by rw [td (by omega),w64 (by omega) (by omega)]; omega) ?_
 refine ⟨_,rfl,⟨by omega,by omega⟩,((l.getD (n / 64) 0:Nat):Int),?_,?_⟩
 ·
  rw [Int.toNat_natCast,add_blk,Nat.zero_add]
  exact h.cell _ (usd_get (by rw [hb.len]; omega))
 refine let_as ((n % 64:Nat):Int) (by rw [tm (by omega)]; omega) ?_
 refine ⟨by omega,?_⟩
 rw [Int.toNat_natCast,Nat.min_eq_left (by omega)]
 refine let_as _ (fdiv_nat _ _) ?_
 have hlt:l.getD (n / 64) 0 / 2 ^ (n % 64) < 2 ^ 64:=Nat.lt_of_le_of_lt (Nat.div_le_self _ _) (hb.getD _)
 have e64:(2:Nat) ^ 64=18446744073709551616:=by decide
 rw [e64] at hlt
 have eZ:hasV l n=decide (l.getD (n / 64) 0 / 2 ^ (n % 64) % 2=1):=by
  unfold hasV
  rw [Nat.testBit_eq_decide_div_mod_eq]
 generalize l.getD (n / 64) 0 / 2 ^ (n % 64)=Z at hlt eZ
 refine let_as ((Z % 2:Nat):Int) (by rw [u64_and _ _ (by omega) (by omega) (by omega) (by omega),Int.toNat_natCast,show (1:Int).toNat=1 from rfl,Nat.and_one_is_mod]) ?_
 have e:((((Z % 2:Nat):Int)) == 1)=hasV l n:=by
  rw [eZ]
  by_cases h1:Z % 2=1
  ·
   rw [h1]; rfl
  ·
   have h2:Z % 2=0:=by omega
   rw [h2]; rfl
 rw [e]
 exact ⟨rfl,Bel.refl w⟩
def FreeR (l:List Nat) (n hi:Nat) (r:Int):Prop:=(r=-1∧∀ j,n≤j→j≤hi→hasV l j=true)∨∃ m:Nat,r=(m:Int)∧n≤m∧m≤hi∧hasV l m=false∧∀ j,n≤j→j < m→hasV l j=true
theorem not_bit {x:Nat} (h:x < 2 ^ 64) (i:Nat):(2 ^ 64-1-x).testBit i=(decide (i < 64) && !x.testBit i):=by
 rw [show 2 ^ 64-1-x=2 ^ 64-(x+1) by omega,Nat.testBit_two_pow_sub_succ h]
theorem xor_all {x:Nat} (h:x < 2 ^ 64):Go.bits .xor .u64 18446744073709551615 (x:Int)=((2 ^ 64-1-x:Nat):Int):=by
 have e64:(2:Nat) ^ 64=18446744073709551616:=by decide
 rw [e64] at h
 rw [u64_xor _ _ (by omega) (by omega) (by omega) (by omega),Int.toNat_natCast]
 congr 1
 refine Nat.eq_of_testBit_eq fun i=>?_
 rw [Nat.testBit_xor,not_bit (by rw [e64]; exact h),show (18446744073709551615:Int).toNat=2 ^ 64-1 from rfl,Nat.testBit_two_pow_sub_one]
 by_cases hi:i < 64
 ·
  simp [hi]
 ·
  have hx:x.testBit i=false:=Nat.testBit_lt_two_pow (Nat.lt_of_lt_of_le (by rw [← e64] at h; exact h) (Nat.pow_le_pow_right (by decide) (by omega)))
  simp [hi,hx]
theorem free_l {w:World} (hT:Tab w) {g:Nat} {t:TypeId} {l:List Nat} {c:Int} (hb:Bm l) (h:Bk w g t (usd l c)) {hi:Nat} (hh:hi≤65535) {R:Ending→World→Prop}:∀ (q n:Nat),hi+1-n < q→n≤65536→(∀ r,FreeR l n hi r→R (.returned (.int .i64 r)) w)→
  qq22.L1 q (some ⟨g,0,none⟩) (hi:Int) (n:Int) w R:=by
 intro q
 induction q with
 | zero=>intro n hq; omega
 | succ q ih=>
  intro n hq hn hR
  unfold qq22.L1; intros
  rw [qq22.l1_eq]
  refine ifD (fun h1=>?_) (fun h1=>hR _ (Or.inl ⟨rfl,fun j h2 h3=>by omega⟩))
  have hn2:n≤hi:=by omega
  refine let_as ((n / 64:Nat):Int) (by rw [td (by omega),w64 (by omega) (by omega)]; omega) ?_
  refine ⟨_,rfl,⟨by omega,by omega⟩,((l.getD (n / 64) 0:Nat):Int),?_,?_⟩
  ·
   rw [Int.toNat_natCast,add_blk,Nat.zero_add]
   exact h.cell _ (usd_get (by rw [hb.len]; omega))
  have hx:=hb.getD (n / 64)
  have hX:∀ j,j / 64=n / 64→hasV l j=(l.getD (n / 64) 0).testBit (j % 64):=fun j hj=>by unfold hasV; rw [hj]
  generalize l.getD (n / 64) 0=X at hx hX
  refine let_as _ (xor_all hx) ?_
  refine let_as ((n % 64:Nat):Int) (by rw [tm (by omega)]; omega) ?_
  refine ⟨by omega,?_⟩
  rw [Int.toNat_natCast,Nat.min_eq_left (by omega)]
  refine let_as _ (fdiv_nat _ _) ?_
  have hbit:∀ j,((2 ^ 64-1-X) / 2 ^ (n % 64)).testBit j=(decide (n % 64+j < 64) && !X.testBit (n % 64+j)):=fun j=>by
   rw [Nat.testBit_div_two_pow,Nat.add_comm j,not_bit hx]
  have hlt:(2 ^ 64-1-X) / 2 ^ (n % 64) < 2 ^ 64:=Nat.lt_of_le_of_lt (Nat.div_le_self _ _) (by omega)
  generalize (2 ^ 64-1-X) / 2 ^ (n % 64)=Y at hbit hlt
  refine ifE (fun h2=>?_) (fun h2=>?_)
  ·
   have hY:Y=0:=by omega
   refine let_as ((n / 64:Nat):Int) (by rw [td (by omega),w64 (by omega) (by omega)]; omega) ?_
   refine let_as ((n / 64+1:Nat):Int) (by rw [w64 (by omega) (by omega)]; omega) ?_
   refine let_as (((n / 64+1) * 64:Nat):Int) (by rw [w64 (by omega) (by omega)]; omega) ?_
   have all:∀ j,n≤j→j < (n / 64+1) * 64→hasV l j=true:=fun j h3 h4=>by
    have h5:=hbit (j-n)
    rw [hY,Nat.zero_testBit,show n % 64+(j-n)=j % 64 by omega] at h5
    rw [hX j (by omega)]
    cases hb2:X.testBit (j % 64)
    ·
     rw [hb2] at h5
     have:j % 64 < 64:=by omega
     simp [this] at h5
    ·
     rfl
   refine ih ((n / 64+1) * 64) (by omega) (by omega) (fun r hr=>hR r ?_) ..
   rcases hr with ⟨e1,h3⟩ | ⟨m,e1,h3,h4,h5,h6⟩
   ·
    refine Or.inl ⟨e1,fun j h7 h8=>?_⟩
    by_cases h9:j < (n / 64+1) * 64
    ·
     exact all j h7 h9
    ·
     exact h3 j (by omega) h8
   ·
    refine Or.inr ⟨m,e1,by omega,h4,h5,fun j h7 h8=>?_⟩
    by_cases h9:j < (n / 64+1) * 64
    ·
     exact all j h7 h9
    ·
     exact h6 j (by omega) h8
  ·
   refine call_of (tz_c hT (by omega) hlt) ?_
   rintro e w' ⟨k,rfl,rfl,hk,hb1,hb2⟩
   refine ⟨_,rfl,?_⟩
   refine let_as ((n+k:Nat):Int) (by rw [w64 (by omega) (by omega)]; omega) ?_
   have h3:=hbit k
   rw [hb1] at h3
   have h3:=(Bool.and_eq_true_iff.1 h3.symm)
   have h4:n % 64+k < 64:=of_decide_eq_true h3.1
   have all:∀ j,n≤j→j < n+k→hasV l j=true:=fun j h5 h6=>by
    have h7:=hbit (j-n)
    rw [hb2 (j-n) (by omega),show n % 64+(j-n)=j % 64 by omega] at h7
    rw [hX j (by omega)]
    cases hb3:X.testBit (j % 64)
    ·
     rw [hb3] at h7
     have:j % 64 < 64:=by omega
     simp [this] at h7
    ·
     rfl
   refine ifD (fun h5=>?_) (fun h5=>?_)
   ·
    exact hR _ (Or.inl ⟨rfl,fun j h6 h7=>all j h6 (by omega)⟩)
   ·
    refine hR _ (Or.inr ⟨n+k,rfl,by omega,by omega,?_,all⟩)
    rw [hX (n+k) (by omega),show (n+k) % 64=n % 64+k by omega]
    simpa using h3.2
theorem free_c {w:World} (hT:Tab w) {g:Nat} {t:TypeId} {l:List Nat} {c:Int} (hb:Bm l) (h:Bk w g t (usd l c)) {n hi:Nat} (hh:hi≤65535) (hn:n≤65536):
  Calls Tryz.prog 39 #[.pointer (some ⟨g,0,none⟩),.int .i64 (n:Int),.int .i64 (hi:Int)] w (fun e w'=>∃ r,e=.returned (.int .i64 r)∧w'=w∧FreeR l n hi r):=by
 refine qq22.run ?_
 unfold qq22.s
 refine ⟨hi+2,?_⟩
 have k:=free_l hT hb h hh (R:=fun e w'=>∃ r,e=.returned (.int .i64 r)∧w'=w∧FreeR l n hi r) (hi+2) n (by omega) hn (fun r hr=>⟨r,rfl,rfl,hr⟩)
 exact k ..
end Go.Proofs.YtphbdmafchjjeaaGreatDoorS
