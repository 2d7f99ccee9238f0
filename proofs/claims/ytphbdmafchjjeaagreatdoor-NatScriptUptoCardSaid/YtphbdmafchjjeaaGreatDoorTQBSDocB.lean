import Derived.Test.YtphbdmafchjjeaaGreatDoorTQBSDocA
import Derived.Test.YtphbdmafchjjeaaGreatDoorTQBSDocO
import Derived.Test.YtphbdmafchjjeaaGreatDoorTQBSNtG
import Derived.Test.YtphbdmafchjjeaaGreatDoorTQBSFD3
namespace Go.Proofs.YtphbdmafchjjeaaGreatDoorS
open Go Go.RowKit Go.Proofs Go.Proofs.YtphbdmafchjjeaaGreatDoorX
set_option maxRecDepth 100000
set_option linter.unusedVariables false
set_option linter.unusedSectionVars false
set_option linter.unusedSimpArgs false
def quT2 (p:Pk) (q:List Int):Tp:=if quB p q=true then quT1 p q else ⟨p.src,p.dst,p.proto,0,0⟩
def RetQ2 (w:World) (p:Pk) (q:List Int):Ending→World→Prop:=Ret (.tuple #[.agg (tpv (quT2 p q)).toArray,.bool (quB p q)]) w
section
variable {w0:World} {p:Pk} {q:List Int} {A:Option Addr} {n c:Nat} {B:Option Addr} {m d:Nat} (y:By w0 B m q) (hb:Bytes q) (hm:m≤1000000000000000) {g1 g3 g8:Nat}
theorem q2_out {k:Bool} (h:quB p q=k) {w:World} {t:Tp} (ht:quT2 p q=t) {L:List Blk} (K:Own w0 w L) (i j:Nat) (hi:L[i]?=some (g8,39,tpv t)) (hj:L[j]?=some (g3,39,tpv tpz)):
  ∃ x7:Int,∃ x8:Int,∃ x9:Int,∃ x10:Int,∃ x11:Int,(5=5∧At w ⟨g8,0,none⟩ [.int .u32 x7,.int .u32 x8,.int .u8 x9,.int .u16 x10,.int .u16 x11])∧
  (May w ⟨g3,0,none⟩ 5∧Let (putCells w ⟨g3,0,none⟩ [.int .u32 x7,.int .u32 x8,.int .u8 x9,.int .u16 x10,.int .u16 x11] 0) fun w6:World=>
   ∃ x7:Int,∃ x8:Int,∃ x9:Int,∃ x10:Int,∃ x11:Int,(5=5∧At w6 ⟨g3,0,none⟩ [.int .u32 x7,.int .u32 x8,.int .u8 x9,.int .u16 x10,.int .u16 x11])∧
   RetQ2 w0 p q (.returned (.tuple #[.agg #[.int .u32 x7,.int .u32 x8,.int .u8 x9,.int .u16 x10,.int .u16 x11],.bool k])) w6):=by
 subst h
 subst ht
 refine ⟨_,_,_,_,_,⟨rfl,(K.bk i hi).at⟩,?_⟩
 refine own_put (vs:=tpv (quT2 p q)) j K hj rfl (Nat.le_refl 5) fun w6 K6=>?_
 have lt:=(List.getElem?_eq_some_iff.1 hj).1
 exact ⟨_,_,_,_,_,⟨rfl,(K6.bk j (List.getElem?_set_self lt)).at⟩,rfl,K6.bel⟩
include y hb hm
theorem q2_j6 (h8:8≤m) (h1:p.proto=1) (h:quB p q=true) {w:World} (H:Own w0 w [(g8,39,tpv ⟨p.src,p.dst,p.proto,0,0⟩),(g3,39,tpv tpz),(g1,35,pv p A n c)]):qq16.J6 B m d g3 g8 w (RetQ2 w0 p q):=by
 unfold qq16.J6; intros
 rw [qq16.j6_eq]
 refine call_of (two23_c (y.bel H.bel) hb (i:=4) rfl (by omega) hm) ?_
 rintro e w1 ⟨rfl,k1⟩
 have hr:=wd_range hb 4
 refine ⟨_,rfl,let_as (wd q 4) (w16 hr.1 hr.2) ?_⟩
 refine own_set 0 (H.call k1) rfl (by show 3 < 5; decide) fun w5 H=>?_
 refine ⟨_,H.cell 0 3 rfl rfl,?_⟩
 refine own_set 0 H rfl (by show 4 < 5; decide) fun w7 H=>?_
 exact q2_out (t:=⟨p.src,p.dst,p.proto,wd q 4,wd q 4⟩) h (by unfold quT2 quT1; rw [if_pos h,if_pos h1]) H 0 1 rfl rfl
theorem q2_j5 (h8:8≤m) (h1:p.proto=1) {z:Bool} (hz:z=!quB p q) {w:World} (H:Own w0 w [(g8,39,tpv ⟨p.src,p.dst,p.proto,0,0⟩),(g3,39,tpv tpz),(g1,35,pv p A n c)]):qq16.J5 B m d g3 g8 z w (RetQ2 w0 p q):=by
 unfold qq16.J5; intros
 rw [qq16.j5_eq]
 refine ifB (fun h2=>?_) (fun h2=>?_)
 ·
  have h3:quB p q=false:=by rw [h2] at hz; simpa using hz
  exact q2_out h3 (by unfold quT2; rw [h3]; rfl) H 0 1 rfl rfl
 ·
  have h3:quB p q=true:=by rw [h2] at hz; simpa using hz
  have k:=q2_j6 (d:=d) y hb hm h8 h1 h3 H
  exact ⟨by with_reducible apply k⟩
theorem q2_j3 (h0:p.off=0) (h8:8≤m) {z:Bool} (hz:z=true↔(p.proto=6∨p.proto=17)) {w:World} (H:Own w0 w [(g8,39,tpv ⟨p.src,p.dst,p.proto,0,0⟩),(g3,39,tpv tpz),(g1,35,pv p A n c)]):qq16.J3 B m d g1 g3 g8 z w (RetQ2 w0 p q):=by
 have ln:=y.len
 unfold qq16.J3; intros
 rw [qq16.j3_eq]
 refine ifB (fun h2=>?_) (fun h2=>?_)
 ·
  have hp:=hz.1 h2
  have h:quB p q=true:=by unfold quB; exact decide_eq_true ⟨h0,by omega,by omega⟩
  refine call_of (two23_c (y.bel H.bel) hb (i:=0) rfl (by omega) hm) ?_
  rintro e w1 ⟨rfl,k1⟩
  have hr:=wd_range hb 0
  refine ⟨_,rfl,let_as (wd q 0) (w16 hr.1 hr.2) ?_⟩
  refine own_set 0 (H.call k1) rfl (by show 3 < 5; decide) fun w5 H=>?_
  refine call_of (two23_c (y.bel H.bel) hb (i:=2) rfl (by omega) hm) ?_
  rintro e w6 ⟨rfl,k6⟩
  have hr2:=wd_range hb 2
  refine ⟨_,rfl,let_as (wd q 2) (w16 hr2.1 hr2.2) ?_⟩
  refine own_set 0 (H.call k6) rfl (by show 4 < 5; decide) fun w10 H=>?_
  exact q2_out (t:=⟨p.src,p.dst,p.proto,wd q 0,wd q 2⟩) h (by unfold quT2 quT1; rw [if_pos h,if_neg (by omega)]) H 0 1 rfl rfl
 have hn:¬ (p.proto=6∨p.proto=17):=fun hx=>by rw [hz.2 hx] at h2; cases h2
 have no:(¬ (p.proto=1∧(q.getD 0 0=8∨q.getD 0 0=0)∧q.getD 1 0=0))→quB p q=false:=fun hx=>decide_eq_false fun hy=>by
  rcases hy.2.2 with h | h | h
  ·
   exact hn (Or.inl h)
  ·
   exact hn (Or.inr h)
  ·
   exact hx h
 refine ⟨?_⟩
 have j4:qq16.J4 B m d g1 g3 g8 w (RetQ2 w0 p q):=by
  unfold qq16.J4; intros
  rw [qq16.j4_eq]
  refine ⟨p.proto,H.cell 2 6 rfl rfl,?_⟩
  refine ifN (fun h3=>?_) (fun h3=>?_)
  ·
   refine ⟨?_⟩
   have k:qq16.J5 B m d g3 g8 true w (RetQ2 w0 p q):=by
    unfold qq16.J5; intros
    rw [qq16.j5_eq]
    have h4:quB p q=false:=no (fun h=>h3 h.1)
    exact ifB (fun _=>q2_out h4 (by unfold quT2; rw [h4]; rfl) H 0 1 rfl rfl) (fun h=>by cases h)
   with_reducible apply k
  ·
   have yw:=y.bel H.bel
   have k:∀ z:Bool,z=(!quB p q)→qq16.J5 B m d g3 g8 z w (RetQ2 w0 p q):=fun z hz=>q2_j5 y hb hm h8 h3 hz H
   refine yw.rdk 1 rfl (by omega) fun _=>?_
   refine ifN (fun h4=>?_) (fun h4=>?_)
   ·
    have k:=k true (by rw [no (fun h=>h4 h.2.2)]; rfl)
    exact ⟨by with_reducible apply k⟩
   ·
    refine yw.rd0 (by omega) fun _=>?_
    refine ifN (fun h5=>?_) (fun h5=>?_)
    ·
     refine yw.rd0 (by omega) fun _=>?_
     have k:=k (q.getD 0 0 != 0) (by
      by_cases h6:q.getD 0 0=0
      ·
       rw [h6,show quB p q=true from decide_eq_true ⟨h0,by omega,Or.inr (Or.inr ⟨h3,Or.inr h6,h4⟩)⟩]
       rfl
      ·
       rw [no (fun h=>by rcases h.2.1 with h | h <;> contradiction)]
       simpa using h6)
     exact ⟨by with_reducible apply k⟩
    ·
     have k:=k false (by rw [show quB p q=true from decide_eq_true ⟨h0,by omega,Or.inr (Or.inr ⟨h3,Or.inl h5,h4⟩)⟩]; rfl)
     exact ⟨by with_reducible apply k⟩
 with_reducible apply j4
theorem quoted2_c:Calls Tryz.prog 51 #[.agg (pv p A n c).toArray,.slice B m d] w0 (RetQ2 w0 p q):=by
 have ln:=y.len
 refine qq16.run ?_
 unfold qq16.s
 refine own_new (l:=pv p A n c) (Own.refl w0) fun g1 w2 H=>?_
 refine own_new (l:=tpv tpz) H fun g3 w4 H=>?_
 refine ⟨p.src,H.cell 1 7 rfl rfl,p.dst,H.cell 1 8 rfl rfl,p.proto,H.cell 1 6 rfl rfl,?_⟩
 refine own_mk (tpv tpz) (vs:=tpv ⟨p.src,p.dst,p.proto,0,0⟩) H rfl rfl fun g8 w10 H _ _=>?_
 refine ⟨p.off,H.cell 2 4 rfl rfl,?_⟩
 have j1:∀ z:Bool,(z=true↔(p.off≠0∨m < 8))→qq16.J1 B m d g1 g3 g8 z w10 (RetQ2 w0 p q):=fun z hz=>by
  unfold qq16.J1; intros
  rw [qq16.j1_eq]
  refine ifB (fun h2=>?_) (fun h2=>?_)
  ·
   have h4:quB p q=false:=decide_eq_false fun hy=>by
    have:=hz.1 h2
    have:=hy.2.1
    have:=hy.1
    omega
   exact q2_out h4 (by unfold quT2; rw [h4]; rfl) H 0 1 rfl rfl
  ·
   have hn:¬ (p.off≠0∨m < 8):=fun hx=>by rw [hz.2 hx] at h2; cases h2
   refine ⟨?_⟩
   have j2:qq16.J2 B m d g1 g3 g8 w10 (RetQ2 w0 p q):=by
    unfold qq16.J2; intros
    rw [qq16.j2_eq]
    refine ⟨p.proto,H.cell 2 6 rfl rfl,?_⟩
    refine ifE (fun h3=>?_) (fun h3=>?_)
    ·
     have k:=q2_j3 (d:=d) (p:=p) y hb hm (by omega) (by omega) (z:=true) ⟨fun _=>Or.inl h3,fun _=>rfl⟩ H
     exact ⟨by with_reducible apply k⟩
    ·
     refine ⟨p.proto,H.cell 2 6 rfl rfl,?_⟩
     have k:=q2_j3 (d:=d) (p:=p) y hb hm (by omega) (by omega) (z:=(p.proto == 17)) ⟨fun h=>Or.inr (by simpa using h),fun h=>by simpa using h.resolve_left h3⟩ H
     exact ⟨by with_reducible apply k⟩
   with_reducible apply j2
 refine ifN (fun h1=>?_) (fun h1=>?_)
 ·
  have k:=j1 true ⟨fun _=>Or.inl h1,fun _=>rfl⟩
  exact ⟨by with_reducible apply k⟩
 ·
  have k:=j1 (decide ((m:Int) < 8)) ⟨fun h=>Or.inr (by have:=of_decide_eq_true h; omega),fun h=>decide_eq_true (by rcases h with h | h; exact absurd h1 h; omega)⟩
  exact ⟨by with_reducible apply k⟩
end
theorem overV_self:∀ (l:List Int) (f:Int),overV f l l=f
 | [],f=>rfl
 | x::l,f=>by
  show overV (if x≠x then adjS f x x else f) l l=f
  rw [if_neg (fun h=>h rfl)]
  exact overV_self l f
theorem carV_self {p:Pk} (hf:p.Fine) (ho:ofE p=0):carV p.body p.proto (ofT p) (ofT p) true=p.body:=by
 have t:Tn p (ofT p):=⟨hf,by rw [ofT_is ho]; exact ofT1_fine hf,ho,by rw [ofT_is ho]; unfold ofT1; split <;> rfl,fun h=>by rw [ofT_is ho]; unfold ofT1; rw [if_pos h]⟩
 obtain ⟨h1,h2,h3,h4⟩:=ofE_case ho
 obtain ⟨s1,s2,s3,s4,s5⟩:=t.s_src
 rcases h4 with h4 | h4 | h4
 ·
  have e:=s5 (by omega)
  rw [h4]
  generalize ofT p=s at e
  have hbb:=hf.body
  generalize p.body=b at e h3 hbb
  obtain ⟨a0,a1,a2,a3,a4,a5,a6,a7,r,rfl,b0,b1,b2,b3,b4,b5,b6,b7,br⟩:=cut8 h3 hbb
  have e1:s.sp=a0 * 256+a1:=e.1
  have e2:s.dp=a2 * 256+a3:=e.2
  have q0:s.sp / 256=a0:=by omega
  have q1:s.sp % 256=a1:=by omega
  have q2:s.dp / 256=a2:=by omega
  have q3:s.dp % 256=a3:=by omega
  by_cases h:a6 * 256+a7=0
  ·
   rw [udp_no h,q0,q1,q2,q3]
  ·
   have hx:udpX (a6 * 256+a7) s s=a6 * 256+a7:=by unfold udpX; rw [overV_self,if_neg h]
   rw [udp_yes h,hx,q0,q1,q2,q3,show (a6 * 256+a7) / 256=a6 by omega,show (a6 * 256+a7) % 256=a7 by omega]
 ·
  have e:=s5 (by omega)
  have h20:=h4.2
  rw [h4.1]
  generalize ofT p=s at e
  have hbb:=hf.body
  generalize p.body=b at e h20 hbb
  obtain ⟨a0,a1,a2,a3,a4,a5,a6,a7,a8,a9,c0,c1,c2,c3,c4,c5,c6,c7,r,rfl⟩:=cut18 (by omega:18≤b.length)
  have e1:s.sp=a0 * 256+a1:=e.1
  have e2:s.dp=a2 * 256+a3:=e.2
  have b0:0≤a0∧a0≤255:=hbb.getD 0
  have b1:0≤a1∧a1≤255:=hbb.getD 1
  have b2:0≤a2∧a2≤255:=hbb.getD 2
  have b3:0≤a3∧a3≤255:=hbb.getD 3
  have b6:0≤c6∧c6≤255:=hbb.getD 16
  have b7:0≤c7∧c7≤255:=hbb.getD 17
  rw [tcp_car,overV_self,show s.sp / 256=a0 by omega,show s.sp % 256=a1 by omega,show s.dp / 256=a2 by omega,show s.dp % 256=a3 by omega,show (c6 * 256+c7) / 256=c6 by omega,show (c6 * 256+c7) % 256=c7 by omega]
 ·
  have e:=(s4 h4.1).2
  rw [h4.1]
  generalize ofT p=s at e
  have hbb:=hf.body
  generalize p.body=b at e h3 hbb
  obtain ⟨a0,a1,a2,a3,a4,a5,a6,a7,r,rfl,b0,b1,b2,b3,b4,b5,b6,b7,br⟩:=cut8 h3 hbb
  have e1:s.sp=a4 * 256+a5:=e
  have hx:echoS (a0::a1::a2::a3::s.sp / 256::s.sp % 256::a6::a7::r) s s true=a2 * 256+a3:=by
   unfold echoS
   rw [if_neg (fun h=>h.2.1 rfl),overV_self]
   rfl
  rw [echo_car,hx,show s.sp / 256=a4 by omega,show s.sp % 256=a5 by omega,show (a2 * 256+a3) / 256=a2 by omega,show (a2 * 256+a3) % 256=a3 by omega]
theorem Tn.doc {p:Pk} {u:Tp} (t:Tn p u):turnP p u={ p with src:=u.src,dst:=u.dst,body:=carV p.body (ofT p).proto (ofT p) u true }:=by
 have e:(ofT p).proto=p.proto:=t.s_src.2.2.1
 unfold turnP
 by_cases he:ofT p=u
 ·
  rw [if_pos ((eqV_tp _ _).2 he),e]
  have k:=carV_self t.h t.ho
  rw [he] at k ⊢
  rw [k]
 ·
  rw [if_neg (fun h=>he ((eqV_tp _ _).1 h)),e,t.hp]
theorem fit_tn {p:Pk} (h:p.Fine) (ho:ofE p=0) {u:Tp} (hu:u.Fine) (hf:fitB (ofT p) u=true):Tn p u:=by
 have hf:=of_decide_eq_true hf
 have e:(ofT p).proto=p.proto:=by rw [ofT_is ho]; unfold ofT1; split <;> rfl
 exact ⟨h,hu,ho,by rw [← hf.1,e],fun h1=>hf.2 (e.trans h1)⟩
theorem fit_no {p:Pk} (he:p.err=0) (ho:ofE p=0) {u:Tp} (hf:fitB (ofT p) u=false):turnE p u=230:=by
 have hf:=of_decide_eq_false hf
 have e:(ofT p).proto=p.proto:=by rw [ofT_is ho]; unfold ofT1; split <;> rfl
 unfold turnE
 rw [if_neg (fun h=>h he),if_pos]
 by_cases h1:u.proto=p.proto
 ·
  refine Or.inr (Or.inr ?_)
  by_cases h2:u.proto=1∧u.sp≠u.dp
  ·
   exact h2
  ·
   exact absurd ⟨e.trans h1.symm,fun h3=>Decidable.of_not_not fun h4=>h2 ⟨by rw [h1,← e]; exact h3,h4⟩⟩ hf
 ·
  exact Or.inr (Or.inl h1)
section
variable {w0:World} {p:Pk} {u:Tp} {A:Option Addr} {n c:Nat} {B:Option Addr} {m d:Nat} (hp:PkAt w0 p A n c B m d) {g1 g3 g5 g7 g9:Nat}
include hp
theorem t23_j2 (t:Tn p u) {w:World} (H:Own w0 w [(g9,39,tpv (ofT p)),(g7,37,pb pz none 0 0 none 0 0),(g5,37,pb pz none 0 0 none 0 0),(g3,39,tpv u),(g1,37,pb p A n c B m d)]):
  qq59.J2 g1 g3 g5 g9 w (RetTu w0 (turnO p u) (turnE p u)):=by
 have lo:=hp.opts.len
 have lb:=hp.body.len
 have hz:=Pk.err_zero (ofE_case t.ho).1
 have h8:=(ofE_case t.ho).2.2.1
 have hpr:=(ofE_case t.ho).2.2.2
 have s3:=t.s_src.2.2.1
 unfold qq59.J2; intros
 rw [qq59.j2_eq]
 refine ld_pkt (H.bk 4 rfl) ?_
 refine own_mk (pb pz none 0 0 none 0 0) (vs:=pb p A n c B m d) H rfl rfl fun g12 w14 H _ _=>?_
 refine ⟨A,n,c,H.cell 5 9 rfl rfl,?_⟩
 refine call_of (clone23_c (hp.opts.bel H.bel) (by omega)) ?_
 rintro e w16 ⟨A18,c18,rfl,q⟩
 refine ⟨_,_,_,rfl,?_⟩
 have H0:OF w0 w14 _ []:=⟨H,fun x hx=>by cases hx⟩
 have ne:=H0.new_ne q.fre
 have fA:Fre w0 A18:=q.fre.le H.bel
 have H1:=(H0.call q.own.bel).add (x:=(A18,n,p.opts)) q.by (fun _=>ne)
 refine of_set 0 H1 rfl (Nat.lt_of_lt_of_le (by decide:9 < 11) (Nat.le_refl 11)) fun w19 H2=>?_
 refine ⟨u.src,H2.own.cell 4 0 rfl rfl,?_⟩
 refine of_set 0 H2 rfl (Nat.lt_of_lt_of_le (by decide:7 < 11) (Nat.le_refl 11)) fun w21 H3=>?_
 refine ⟨u.dst,H3.own.cell 4 1 rfl rfl,?_⟩
 refine of_set 0 H3 rfl (Nat.lt_of_lt_of_le (by decide:8 < 11) (Nat.le_refl 11)) fun w23 H4=>?_
 refine ⟨B,m,d,H4.own.cell 5 10 rfl rfl,?_⟩
 refine ⟨_,_,_,_,_,⟨rfl,(H4.own.bk 1 rfl).at⟩,_,_,_,_,_,⟨rfl,(H4.own.bk 4 rfl).at⟩,?_⟩
 refine call_of (body_c t.sf t.hu t.h.body (hp.body.bel H4.own.bel) (by omega) (by omega) (by rw [s3]; omega) true) ?_
 rintro e w35 ⟨A37,c37,rfl,q2⟩
 refine ⟨_,_,_,rfl,?_⟩
 have ne2:=H4.new_ne q2.fre
 have fB:Fre w0 A37:=q2.fre.le H4.own.bel
 have H5:=(H4.call q2.own.bel).add (x:=(A37,m,carV p.body (ofT p).proto (ofT p) u true)) q2.by (fun _=>ne2)
 refine of_set 0 H5 rfl (Nat.lt_of_lt_of_le (by decide:10 < 11) (Nat.le_refl 11)) fun w38 H6=>?_
 have ed:=t.doc
 replace H6:OF w0 w38 [(g12,37,pb (turnP p u) A18 n c18 A37 m c37),(g9,39,tpv (ofT p)),(g7,37,pb pz none 0 0 none 0 0),(g5,37,pb pz none 0 0 none 0 0),(g3,39,tpv u),(g1,37,pb p A n c B m d)] [(A37,m,carV p.body (ofT p).proto (ofT p) u true),(A18,n,p.opts)]:=by rw [ed]; exact H6
 refine ld_pkt (H6.own.bk 0 rfl) ?_
 refine of_put 3 H6 rfl rfl (Nat.le_refl 11) fun w50 H7=>?_
 refine ld_pkt (a0:=(turnP p u).tos) (H7.own.bk 3 rfl) ?_
 have eo:turnO p u=turnP p u:=by unfold turnO; rw [if_pos t.turnE]
 rw [eo,t.turnE]
 refine ⟨H7.own.bel,A18,n,c18,A37,m,c37,rfl,⟨(H7.fz _ (List.mem_cons_of_mem _ List.mem_cons_self)).1,?_,q.le,q2.le⟩,fA,fB⟩
 rw [ed]
 exact (H7.fz _ List.mem_cons_self).1
end
theorem Turn23_c {w:World} {p:Pk} {u:Tp} (h:p.Fine) (hu:u.Fine) {A:Option Addr} {n c:Nat} {B:Option Addr} {m d:Nat} (hp:PkAt w p A n c B m d):
  Calls Tryz.prog 27 #[.agg (pb p A n c B m d).toArray,.agg (tpv u).toArray] w (RetTu w (turnO p u) (turnE p u)):=by
 refine qq59.run ?_
 unfold qq59.s
 refine own_new (l:=pb p A n c B m d) (Own.refl w) fun g1 w2 H=>?_
 refine own_new (l:=tpv u) H fun g3 w4 H=>?_
 refine own_new (l:=pb pz none 0 0 none 0 0) H fun g5 w6 H=>?_
 refine own_new (l:=pb pz none 0 0 none 0 0) H fun g7 w8 H=>?_
 refine ld_pkt (H.bk 3 rfl) ?_
 refine call_of (Build3_c h (hp.bel H.bel)) ?_
 rintro e w20 ⟨k20,C,i,j,rfl,_,_⟩
 refine ⟨_,_,_,_,rfl,?_⟩
 replace H:=H.call k20
 refine ifN (fun h1=>?_) (fun h1=>?_)
 ·
  exact zero_out (Q:=RetTu w (turnO p u) (turnE p u)) 0 1 H rfl rfl rfl (fun w1 hb=>ret_turn_no hb (by unfold turnE; rw [if_pos h1]) h1)
 have hE:p.err=0:=h1
 refine ld_pkt (H.bk 3 rfl) ?_
 refine call_of (Of21_c h (hp.bel H.bel)) ?_
 rintro e w58 ⟨rfl,k58⟩
 refine ⟨_,_,_,_,_,_,rfl,?_⟩
 refine own_mk (tpv tpz) (vs:=tpv (ofT p)) (H.call k58) rfl rfl fun g66 w68 H _ _=>?_
 have no:turnE p u=230→∀ {w':World},Bel w68 w'→qq59.J1 g1 g3 g5 g7 g66 true w' (RetTu w (turnO p u) (turnE p u)):=fun hx w' k=>by
  unfold qq59.J1; intros
  rw [qq59.j1_eq]
  refine ifB (fun _=>?_) (fun h=>by cases h)
  exact zero_out (Q:=RetTu w (turnO p u) (turnE p u)) 1 2 (H.call k) rfl rfl rfl (fun w1 hb=>ret_turn_no hb hx (by decide))
 refine ifN (fun h2=>?_) (fun h2=>?_)
 ·
  have k:=no (by unfold turnE; rw [if_neg (fun hx=>hx hE),if_pos (Or.inl h2)]) (Bel.refl w68)
  exact ⟨by with_reducible apply k⟩
 refine ⟨_,_,_,_,_,⟨rfl,(H.bk 0 rfl).at⟩,_,_,_,_,_,⟨rfl,(H.bk 3 rfl).at⟩,?_⟩
 refine call_of (fits_c w68 (ofT p) u) ?_
 rintro e w79 ⟨rfl,k79⟩
 refine ⟨_,rfl,?_⟩
 cases hf:fitB (ofT p) u with
 | false=>
  have k:qq59.J1 g1 g3 g5 g7 g66 (!false) w79 (RetTu w (turnO p u) (turnE p u)):=no (fit_no hE h2 hf) k79
  exact ⟨by with_reducible apply k⟩
 | true=>
  have t:=fit_tn h h2 hu hf
  have k:qq59.J1 g1 g3 g5 g7 g66 (!true) w79 (RetTu w (turnO p u) (turnE p u)):=by
   unfold qq59.J1; intros
   rw [qq59.j1_eq]
   refine ifB (fun h=>by cases h) (fun _=>?_)
   have k2:=t23_j2 hp t (H.call k79)
   exact ⟨by with_reducible apply k2⟩
  exact ⟨by with_reducible apply k⟩
end Go.Proofs.YtphbdmafchjjeaaGreatDoorS
