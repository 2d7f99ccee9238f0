import Derived.Test.YtphbdmafchjjeaaGreatDoorTQBSIp4BM
import Derived.Test.YtphbdmafchjjeaaGreatDoorTQBSFB
import Derived.Test.YtphbdmafchjjeaaGreatDoorTQBSTunPM
namespace Go.Proofs.YtphbdmafchjjeaaGreatDoorS
open Go Go.RowKit Go.Proofs Go.Proofs.YtphbdmafchjjeaaGreatDoorX
set_option maxRecDepth 100000
set_option linter.unusedVariables false
set_option linter.unusedSimpArgs false
def faultT (t:Int):Bool:=decide (t=3∨t=4∨t=5∨t=11∨t=12)
def GlF (w:World):Prop:=∀ i,i < 13→w.cell? ((⟨1,0,none⟩:Addr).add i)=some (.bool (faultT i))
theorem GlF.bel {w w':World} (h:GlF w) (k:Bel w w'):GlF w':=fun i hi=>k.cellb (h i hi)
end Go.Proofs.YtphbdmafchjjeaaGreatDoorS
namespace Go.Proofs.YtphbdmafchjjeaaGreatDoorS
open Go Go.RowKit Go.Proofs Go.Proofs.YtphbdmafchjjeaaGreatDoorX
set_option maxRecDepth 100000
set_option linter.unusedVariables false
set_option linter.unusedSimpArgs false
theorem isFault_c {w:World} (hg:GlF w) {t:Int} (h:0≤t∧t≤255):Calls Tryz.prog 91 #[.int .u8 t] w (Ret (.bool (faultT t)) w):=by
 refine qq74.run ?_
 unfold qq74.s
 refine let_as t (w64 (by omega) (by omega)) ?_
 refine ifD (fun h1=>?_) (fun h1=>?_)
 ·
  refine ⟨⟨h.1,h1⟩,faultT t,?_,rfl,Bel.refl w⟩
  have:=hg t.toNat (by omega)
  rwa [Int.toNat_of_nonneg h.1] at this
 ·
  rw [show faultT t=false from decide_eq_false (by omega)]
  exact ⟨rfl,Bel.refl w⟩
theorem IParse_r {w:World} {A:Option Addr} {n c:Nat} {b:List Int} (h:By w A n b) (hb:Bytes b) (hc:n≤c):
  Calls Tryz.prog 56 #[.slice A n c] w (fun e w'=>Bel w w'∧if icBad b=0 then ∃ A' c',e=.returned (.tuple #[.agg (mv (b.getD 0 0) (b.getD 1 0) (lg b 4) A' (n-8) c').toArray,.int .i64 0])∧By w' A' (n-8) (b.drop 8)∧n-8≤c'∧Fre w A'∧Rm w' A' c'
   else e=.returned (.tuple #[.agg (mv 0 0 0 none 0 0).toArray,.int .i64 (icBad b)])):=by
 refine qq87.run ?_
 unfold qq87.s
 have hl:=h.len
 refine own_new (l:=mv 0 0 0 none 0 0) (Own.refl w) fun g1 w1 H=>?_
 refine ifD (fun h1=>?_) (fun h1=>?_)
 ·
  refine put_msg 0 H rfl rfl fun w2 H _=>⟨H.bel,?_⟩
  have e:icBad b=30:=by unfold icBad; rw [if_pos (by omega)]
  rw [e]; rfl
 refine ifD (fun h2=>?_) (fun h2=>?_)
 ·
  refine put_msg 0 H rfl rfl fun w2 H _=>⟨H.bel,?_⟩
  have e:icBad b=37:=by unfold icBad; rw [if_neg (by omega),if_pos (by omega)]
  rw [e]; rfl
 refine own_newB (l:=[.slice A n c]) H fun g2 w2 H k2=>?_
 refine call_of (sum1_c (H.bk 0 rfl) (h.bel H.bel) hb (by omega) 1) ?_
 rintro e w3 ⟨rfl,k3⟩
 replace H:=(H.call k3).tail
 refine ⟨_,rfl,?_⟩
 refine ifN (fun h3=>?_) (fun h3=>?_)
 ·
  refine put_msg 0 H rfl rfl fun w2 H _=>⟨H.bel,?_⟩
  have e:icBad b=33:=by unfold icBad; rw [if_neg (by omega),if_neg (by omega),if_pos (by omega)]
  rw [e]; rfl
 have e0:icBad b=0:=by unfold icBad; rw [if_neg (by omega),if_neg (by omega),if_neg (by omega)]
 have b4:=hb.getD 4
 have b5:=hb.getD 5
 have b6:=hb.getD 6
 have b7:=hb.getD 7
 have hS:∀ w',(∃ l,Own w w' [(g1,106,l)])→Bel w w':=fun w' ⟨l,h⟩=>h.bel
 refine draws (fun w'=>∃ l,Own w w' [(g1,106,l)]) ⟨_,H.drew⟩ fun w4 e4=>?_
 replace H:=H.drew
 rw [← e4] at H
 refine h.rdkS hS 4 rfl (by omega) fun _=>?_
 refine let_as _ (u32_mod _) ?_
 refine let_as _ (u32_mod _) ?_
 refine h.rdkS hS 5 rfl (by omega) fun _=>?_
 refine let_as _ (u32_mod _) ?_
 refine let_as _ (u32_mod _) ?_
 refine let_id ?_
 refine h.rdkS hS 6 rfl (by omega) fun _=>?_
 refine let_as _ (u32_mod _) ?_
 refine let_as _ (u32_mod _) ?_
 refine let_id ?_
 refine h.rdkS hS 7 rfl (by omega) fun _=>?_
 refine let_as _ (u32_mod _) ?_
 refine let_as _ (or_four (by omega) (by omega) (by omega) (by omega)) ?_
 refine draws (fun w'=>∃ l,Own w w' [(g1,106,l)]) ⟨_,H.drew⟩ fun w5 e5=>?_
 replace H:=H.drew
 rw [← e5] at H
 refine h.rd0S hS (by omega) fun _=>?_
 refine h.rdkS hS 1 rfl (by omega) fun _=>?_
 refine ⟨⟨by omega,by omega⟩,?_⟩
 refine app_byR H (By.nil _ none) rfl ((h.bel H.bel).cut (k:=8) (m:=c) (by omega) hc) (by omega) fun A' cap w6 h2 H' k6 hb' hf=>?_
 have H0:=H
 have hf':Fre w5 A':=by
  rcases hf with ⟨rfl,_⟩ | hf
  ·
   exact Fre.nil _
  ·
   exact hf.1
 have hr:Rm w6 A' cap:=by
  rcases hf with ⟨rfl,rfl⟩ | hf
  ·
   exact Rm.nil _
  ·
   exact hf.2
 have ho:=H.old 0 rfl hf'
 refine ⟨⟨_,H'⟩,?_⟩
 rw [Nat.zero_add] at hb' ⊢
 rw [List.nil_append] at hb'
 refine own_putB 0 H' rfl rfl (Nat.le_refl 4) fun w7 H u=>?_
 refine ⟨⟨_,H⟩,?_⟩
 refine ld_msg (H.bk 0 rfl) ?_
 refine ⟨H.bel,?_⟩
 rw [if_pos e0]
 refine ⟨A',cap,rfl,hb'.but u ho,by omega,hf'.le H0.bel,hr.but u ho⟩
theorem Parse_c {w:World} {A:Option Addr} {n c:Nat} {b:List Int} (h:By w A n b) (hb:Bytes b) (hc:n≤c):
  Calls Tryz.prog 56 #[.slice A n c] w (fun e w'=>Bel w w'∧if icBad b=0 then ∃ A' c',e=.returned (.tuple #[.agg (mv (b.getD 0 0) (b.getD 1 0) (lg b 4) A' (n-8) c').toArray,.int .i64 0])∧By w' A' (n-8) (b.drop 8)∧n-8≤c'∧Fre w A'
   else e=.returned (.tuple #[.agg (mv 0 0 0 none 0 0).toArray,.int .i64 (icBad b)])):=by
 refine (IParse_r h hb hc).mono fun e w' hk=>⟨hk.1,?_⟩
 by_cases h0:icBad b=0
 ·
  have k:=hk.2
  rw [if_pos h0] at k ⊢
  obtain ⟨A1,c1,h1,h2,h3,h4,_⟩:=k
  exact ⟨A1,c1,h1,h2,h3,h4⟩
 ·
  have k:=hk.2
  rw [if_neg h0] at k ⊢
  exact k
def MadeC (w:World) (e:Ending) (w':World) (l:List Int):Prop:=∃ g cap,e=.returned (.tuple #[.slice (some ⟨g,0,none⟩) l.length cap,.int .i64 0])∧Bk w' g 5 (bv (l++List.replicate (cap-l.length) 0))∧w.heap.size≤g∧l.length≤cap∧cap≤9223372036854775807
theorem MadeC.by {w w':World} {e:Ending} {l:List Int} (h:MadeC w e w' l):∃ A cap,e=.returned (.tuple #[.slice A l.length cap,.int .i64 0])∧By w' A l.length l∧Fre w A∧l.length≤cap:=by
 obtain ⟨g,cap,e,hb,hg,hc⟩:=h
 refine ⟨_,cap,e,?_,Fre.mk hg,hc.1⟩
 have:=hb.by.take (k:=l.length) (by simp)
 rwa [List.take_left' rfl] at this
theorem BuildI_c {w:World} {q:Ic} (h:q.Fine) {A:Option Addr} {n c:Nat} (ha:By w A n q.body):
  Calls Tryz.prog 62 #[.agg (mv q.typ q.code q.rest A n c).toArray] w (fun e w'=>Bel w w'∧if q.body.length≤65507 then MadeC w e w' (q.bytes q.sum) else e=.returned (.tuple #[.slice none 0 0,.int .i64 37])):=by
 refine qq86.run ?_
 unfold qq86.s
 have la:=ha.len
 have hr:=h.rest
 have hs:=Ic.sum_range h
 refine own_new (l:=mv q.typ q.code q.rest A n c) (Own.refl w) fun g1 w1 H=>?_
 refine ⟨A,n,c,H.cell 0 3 rfl rfl,?_⟩
 refine ifD (fun h1=>?_) (fun h1=>?_)
 ·
  exact ⟨H.bel,by rw [if_neg (by omega)]⟩
 refine ⟨_,H.cell 0 0 rfl rfl,_,H.cell 0 1 rfl rfl,_,H.cell 0 2 rfl rfl,?_⟩
 refine let_as _ (fd _ (by omega)) ?_
 refine let_as (q.rest / 16777216 % 256) (by rw [IntKind.wrap_u8]) ?_
 refine ⟨_,H.cell 0 2 rfl rfl,?_⟩
 refine let_as _ (fd _ (by omega)) ?_
 refine let_as (q.rest / 65536 % 256) (by rw [IntKind.wrap_u8]) ?_
 refine ⟨_,H.cell 0 2 rfl rfl,?_⟩
 refine let_as _ (fd _ (by omega)) ?_
 refine let_as (q.rest / 256 % 256) (by rw [IntKind.wrap_u8]) ?_
 refine ⟨_,H.cell 0 2 rfl rfl,?_⟩
 refine let_as (q.rest % 256) (by rw [IntKind.wrap_u8]) ?_
 refine own_new (l:=bv [q.typ,q.code,0,0,q.rest / 16777216 % 256,q.rest / 65536 % 256,q.rest / 256 % 256,q.rest % 256]) H fun g2 w2 H=>?_
 refine ⟨A,n,c,H.cell 1 3 rfl rfl,?_⟩
 refine app_own H rfl (ha.bel H.bel) (by omega) fun g3 cap w3 h3 H=>?_
 refine own_newB (l:=[.slice (some ⟨g3,0,none⟩) (8+n) cap]) H fun g4 w4 H k4=>?_
 have hl8:([q.typ,q.code,0,0,q.rest / 16777216 % 256,q.rest / 65536 % 256,q.rest / 256 % 256,q.rest % 256]++q.body).length=8+n:=by rw [List.length_append,la]; rfl
 have hby:=(H.bk 1 rfl).by.take (k:=8+n) (by simp; omega)
 rw [List.take_left' hl8] at hby
 have hbb:Bytes ([q.typ,q.code,0,0,q.rest / 16777216 % 256,q.rest / 65536 % 256,q.rest / 256 % 256,q.rest % 256]++q.body):=Ic.bytes_bytes h 0
 refine call_of (sum1_c (H.bk 0 rfl) hby hbb (by omega) 1) ?_
 rintro e w5 ⟨rfl,k5⟩
 replace H:=(H.call k5).tail
 refine ⟨_,rfl,?_⟩
 have es:65535-S (tot true ([q.typ,q.code,0,0,q.rest / 16777216 % 256,q.rest / 65536 % 256,q.rest / 256 % 256,q.rest % 256]++q.body))=q.sum:=by
  have:=Ic.tot_bytes q (s:=0) (by omega) (by omega)
  unfold Ic.sum
  rw [Int.add_zero] at this
  rw [← this]
  rfl
 rw [es]
 refine let_as _ (fd _ (by omega)) ?_
 refine let_as (q.sum / 256 % 256) (by rw [IntKind.wrap_u8]) ?_
 refine let_as (q.sum % 256) (by rw [IntKind.wrap_u8]) ?_
 refine ⟨_,rfl,⟨by omega,by omega⟩,?_⟩
 rw [add_blk]
 refine own_set 0 H rfl (by simp [bv]) fun w6 H=>?_
 refine ⟨_,rfl,⟨by omega,by omega⟩,?_⟩
 rw [add_blk]
 refine own_set 0 H rfl (by simp [bv]) fun w7 H=>?_
 refine ⟨H.bel,?_⟩
 have ll:=Ic.len q q.sum
 rw [if_pos (by omega)]
 refine ⟨g3,cap,?_,?_,H.ge 0 rfl,by omega,by omega⟩
 ·
  rw [ll,la]
 ·
  rw [ll,la]
  exact H.bk 0 rfl
end Go.Proofs.YtphbdmafchjjeaaGreatDoorS
namespace Go.Proofs.YtphbdmafchjjeaaGreatDoorS
open Go Go.RowKit Go.Proofs Go.Proofs.YtphbdmafchjjeaaGreatDoorX
set_option maxRecDepth 100000
set_option linter.unusedVariables false
set_option linter.unusedSectionVars false
set_option linter.unusedSimpArgs false
def rightV (p:Pk):Bool:=if p.proto=17 then decide (uBad p.src p.dst p.body=0) else if p.proto=1 then decide (icBad p.body=0) else decide (S (tot true (psh p.src p.dst p.proto (p.body.length:Int)++p.body))=65535)
end Go.Proofs.YtphbdmafchjjeaaGreatDoorS
namespace Go.Proofs.YtphbdmafchjjeaaGreatDoorS
open Go Go.RowKit Go.Proofs Go.Proofs.YtphbdmafchjjeaaGreatDoorX
set_option maxRecDepth 100000
set_option linter.unusedVariables false
set_option linter.unusedSectionVars false
set_option linter.unusedSimpArgs false
theorem eqV_tp (a b:Tp):eqV (tpv a) (tpv b)=true↔a=b:=by
 cases a
 cases b
 simp [eqV,tpv]
theorem NearB.symm {pr:Int} {l l':List Int} (h:NearB pr l l'):NearB pr l' l:=by
 refine ⟨h.1.symm,fun i hi=>?_⟩
 rcases h.2 i (by rw [← h.1]; exact hi) with h1 | ⟨a,h1,h2,h3,h4⟩
 ·
  exact Or.inl h1.symm
 ·
  exact Or.inr ⟨a,h1,h2,h4,h3⟩
theorem echoS_range {b:List Int} (hb:Bytes b) {s u:Tp} (hs:s.Fine) (hu:u.Fine) (z:Bool):0≤echoS b s u z∧echoS b s u z≤65535:=by
 have h:=over_id (wd_range hb 2) hs.sp hu.sp
 unfold echoS
 split
 ·
  omega
 ·
  exact h.2
theorem carV_bytes {b:List Int} (hb:Bytes b) (pr:Int) {s u:Tp} (hs:s.Fine) (hu:u.Fine) (z:Bool):Bytes (carV b pr s u z):=by
 unfold carV
 split
 ·
  have h4:=setw_bytes hb 4 hu.sp
  exact setw_bytes h4 2 (echoS_range h4 hs hu z)
 ·
  have h2:=setw_bytes (setw_bytes hb 0 hu.sp) 2 hu.dp
  split
  ·
   split
   ·
    refine setw_bytes h2 6 ?_
    have h:=over_ws (wd_range h2 6) hs hu
    unfold udpS
    split
    ·
     omega
    ·
     exact h.2
   ·
    exact h2
  ·
   split
   ·
    exact setw_bytes h2 16 (over_ws (wd_range h2 16) hs hu).2
   ·
    exact h2
theorem ofE_case {p:Pk} (ho:ofE p=0):p.err=0∧¬ p.off > 0∧8≤p.body.length∧(p.proto=17∨(p.proto=6∧20≤p.body.length)∨(p.proto=1∧(p.body.getD 0 0=8∨p.body.getD 0 0=0)∧p.body.getD 1 0=0)):=by
 unfold ofE at ho
 by_cases h1:p.err≠0
 ·
  rw [if_pos h1] at ho; exact absurd ho h1
 rw [if_neg h1] at ho
 by_cases h2:p.off > 0
 ·
  rw [if_pos h2] at ho; omega
 rw [if_neg h2] at ho
 by_cases h4:(p.proto=1∨p.proto=17)∧p.body.length < 8
 ·
  rw [if_pos h4] at ho; omega
 rw [if_neg h4] at ho
 by_cases h5:p.proto=6∧p.body.length < 20
 ·
  rw [if_pos h5] at ho; omega
 rw [if_neg h5] at ho
 unfold ofE4 at ho
 refine ⟨by omega,h2,?_⟩
 by_cases h6:p.proto=17
 ·
  exact ⟨by omega,Or.inl h6⟩
 rw [if_neg h6] at ho
 by_cases h7:p.proto=6
 ·
  exact ⟨by omega,Or.inr (Or.inl ⟨h7,by omega⟩)⟩
 rw [if_neg h7] at ho
 by_cases h8:p.proto=1
 ·
  rw [if_pos h8] at ho
  by_cases h9:(p.body.getD 0 0=8∨p.body.getD 0 0=0)∧p.body.getD 1 0=0
  ·
   exact ⟨by omega,Or.inr (Or.inr ⟨h8,h9⟩)⟩
  ·
   rw [if_neg h9] at ho; omega
 rw [if_neg h8] at ho
 omega
theorem ofE_mk {p:Pk} (h1:p.err=0) (h2:¬ p.off > 0) (h3:8≤p.body.length) (h4:p.proto=17∨(p.proto=6∧20≤p.body.length)∨(p.proto=1∧(p.body.getD 0 0=8∨p.body.getD 0 0=0)∧p.body.getD 1 0=0)):ofE p=0:=by
 unfold ofE
 rw [if_neg (fun h=>h h1),if_neg h2,if_neg (fun h=>by omega),if_neg (fun h=>by omega)]
 unfold ofE4
 rcases h4 with h4 | h4 | h4
 ·
  rw [if_pos h4]
 ·
  rw [if_neg (by omega),if_pos h4.1]
 ·
  rw [if_neg (by omega),if_neg (by omega),if_pos h4.1,if_pos h4.2]
theorem udp_ports {b:List Int} (hb:Bytes b) (hl:8≤b.length) (s:Tp) {u:Tp} (hu:u.Fine):wd (carV b 17 s u true) 0=u.sp∧wd (carV b 17 s u true) 2=u.dp:=by
 obtain ⟨a0,a1,a2,a3,a4,a5,a6,a7,r,rfl,_⟩:=cut8 hl hb
 by_cases h:a6 * 256+a7=0
 ·
  rw [udp_no h]
  exact ⟨show u.sp / 256 * 256+u.sp % 256=u.sp by omega,show u.dp / 256 * 256+u.dp % 256=u.dp by omega⟩
 ·
  rw [udp_yes h]
  exact ⟨show u.sp / 256 * 256+u.sp % 256=u.sp by omega,show u.dp / 256 * 256+u.dp % 256=u.dp by omega⟩
theorem tcp_ports {b:List Int} (hl:18≤b.length) (s u:Tp):wd (carV b 6 s u true) 0=u.sp∧wd (carV b 6 s u true) 2=u.dp:=by
 obtain ⟨a0,a1,a2,a3,a4,a5,a6,a7,a8,a9,c0,c1,c2,c3,c4,c5,c6,c7,r,rfl⟩:=cut18 hl
 rw [tcp_car]
 exact ⟨show u.sp / 256 * 256+u.sp % 256=u.sp by omega,show u.dp / 256 * 256+u.dp % 256=u.dp by omega⟩
theorem echo_ports {b:List Int} (hb:Bytes b) (hl:8≤b.length) (s u:Tp):wd (carV b 1 s u true) 4=u.sp∧(carV b 1 s u true).getD 0 0=b.getD 0 0∧(carV b 1 s u true).getD 1 0=b.getD 1 0:=by
 obtain ⟨a0,a1,a2,a3,a4,a5,a6,a7,r,rfl,_⟩:=cut8 hl hb
 rw [echo_car]
 exact ⟨show u.sp / 256 * 256+u.sp % 256=u.sp by omega,rfl,rfl⟩
section
variable {p:Pk} {u:Tp}
theorem turn_same (he:ofT p=u) (ho:ofE p=0):turnP p u=p:=by
 have e2:ofT p=ofT1 p:=by unfold ofT; rw [if_pos ho]
 have e1:eqV (tpv (ofT p)) (tpv u)=true:=(eqV_tp _ _).2 he
 have hs:u.src=p.src∧u.dst=p.dst:=by
  rw [← he,e2]
  unfold ofT1
  split <;> exact ⟨rfl,rfl⟩
 unfold turnP
 rw [if_pos e1,hs.1,hs.2]
theorem turn_other (he:ofT p≠u):turnP p u={ p with src:=u.src,dst:=u.dst,body:=carV p.body u.proto (ofT p) u true }:=by
 unfold turnP
 rw [if_neg (fun h=>he ((eqV_tp _ _).1 h))]
structure Tn (p:Pk) (u:Tp):Prop where
 h:p.Fine
 hu:u.Fine
 ho:ofE p=0
 hp:u.proto=p.proto
 hi:p.proto=1→u.sp=u.dp
theorem ofT_is (ho:ofE p=0):ofT p=ofT1 p:=by unfold ofT; rw [if_pos ho]
theorem Tn.sf (t:Tn p u):(ofT p).Fine:=by rw [ofT_is t.ho]; exact ofT1_fine t.h
theorem Tn.s_src (t:Tn p u):(ofT p).src=p.src∧(ofT p).dst=p.dst∧(ofT p).proto=p.proto∧(p.proto=1→(ofT p).sp=(ofT p).dp∧(ofT p).sp=wd p.body 4)∧(p.proto≠1→(ofT p).sp=wd p.body 0∧(ofT p).dp=wd p.body 2):=by
 rw [ofT_is t.ho]
 unfold ofT1
 split
 ·
  exact ⟨rfl,rfl,rfl,fun _=>⟨rfl,rfl⟩,fun h=>by contradiction⟩
 ·
  exact ⟨rfl,rfl,rfl,fun h=>by contradiction,fun _=>⟨rfl,rfl⟩⟩
theorem Tn.turnE (t:Tn p u):turnE p u=0:=by
 unfold Go.Proofs.YtphbdmafchjjeaaGreatDoorS.turnE
 rw [if_neg (fun h=>h (ofE_case t.ho).1),if_neg]
 rintro (h | h | h)
 ·
  exact h t.ho
 ·
  exact h t.hp
 ·
  exact h.2 (t.hi (t.hp ▸ h.1))
theorem Tn.q (t:Tn p u):(turnP p u).Fine∧(turnP p u).err=0∧ofE (turnP p u)=0∧ofT (turnP p u)=u∧(turnP p u).proto=p.proto∧(turnP p u).body.length=p.body.length:=by
 by_cases he:ofT p=u
 ·
  rw [turn_same he t.ho]
  exact ⟨t.h,(ofE_case t.ho).1,t.ho,he,rfl,rfl⟩
 obtain ⟨h1,h2,h3,h4⟩:=ofE_case t.ho
 have bb:=carV_bytes t.h.body u.proto t.sf t.hu true
 have bl:=carV_len p.body u.proto (ofT p) u true
 rw [turn_other he]
 have f:Pk.Fine { p with src:=u.src,dst:=u.dst,body:=carV p.body u.proto (ofT p) u true }:=⟨t.h.tos,t.h.id,t.h.off,t.h.ttl,t.h.proto,t.hu.src,t.hu.dst,t.h.opts,bb,t.h.lo,by rw [bl]; exact t.h.lb⟩
 have e:Pk.err { p with src:=u.src,dst:=u.dst,body:=carV p.body u.proto (ofT p) u true }=0:=by
  rw [← h1]
  unfold Pk.err
  simp only [bl]
 have o:ofE { p with src:=u.src,dst:=u.dst,body:=carV p.body u.proto (ofT p) u true }=0:=by
  refine ofE_mk e h2 (by rw [bl]; exact h3) ?_
  rcases h4 with h4 | h4 | h4
  ·
   exact Or.inl h4
  ·
   exact Or.inr (Or.inl ⟨h4.1,by rw [bl]; exact h4.2⟩)
  ·
   have hp:=echo_ports t.h.body h3 (ofT p) u
   refine Or.inr (Or.inr ⟨h4.1,?_⟩)
   show ((carV p.body u.proto (ofT p) u true).getD 0 0=8∨(carV p.body u.proto (ofT p) u true).getD 0 0=0)∧(carV p.body u.proto (ofT p) u true).getD 1 0=0
   rw [t.hp,h4.1,hp.2.1,hp.2.2]
   exact h4.2
 refine ⟨f,e,o,?_,rfl,bl⟩
 rw [ofT_is o]
 unfold ofT1
 have tp:u.proto=p.proto:=t.hp
 have ti:=t.hi
 have pr:(p.proto=1→wd (carV p.body u.proto (ofT p) u true) 4=u.sp)∧(p.proto≠1→wd (carV p.body u.proto (ofT p) u true) 0=u.sp∧wd (carV p.body u.proto (ofT p) u true) 2=u.dp):=by
  rw [tp]
  rcases h4 with h4 | h4 | h4
  ·
   rw [h4]
   exact ⟨fun h=>by omega,fun _=>udp_ports t.h.body h3 (ofT p) t.hu⟩
  ·
   rw [h4.1]
   exact ⟨fun h=>by omega,fun _=>tcp_ports (by omega) (ofT p) u⟩
  ·
   rw [h4.1]
   exact ⟨fun _=>(echo_ports t.h.body h3 (ofT p) u).1,fun h=>absurd rfl h⟩
 by_cases hc:p.proto=1
 ·
  rw [if_pos hc]
  have e5:=pr.1 hc
  have e6:=ti hc
  show Tp.mk u.src u.dst p.proto (wd (carV p.body u.proto (ofT p) u true) 4) (wd (carV p.body u.proto (ofT p) u true) 4)=u
  rw [e5,← tp]
  calc Tp.mk u.src u.dst u.proto u.sp u.sp=Tp.mk u.src u.dst u.proto u.sp u.dp:=by rw [e6]
   _=u:=rfl
 ·
  rw [if_neg hc]
  have e5:=pr.2 hc
  show Tp.mk u.src u.dst p.proto (wd (carV p.body u.proto (ofT p) u true) 0) (wd (carV p.body u.proto (ofT p) u true) 2)=u
  rw [e5.1,e5.2,← tp]
theorem Tn.right (t:Tn p u) (hr:rightV p=true) (hl:p.body.length≤65535):rightV (turnP p u)=true:=by
 by_cases he:ofT p=u
 ·
  rw [turn_same he t.ho]
  exact hr
 obtain ⟨h1,h2,h3,h4⟩:=ofE_case t.ho
 obtain ⟨s1,s2,s3,s4,s5⟩:=t.s_src
 rw [turn_other he,t.hp]
 unfold rightV at hr ⊢
 rcases h4 with h4 | h4 | h4
 ·
  have:=s5 (by omega)
  rw [if_pos h4] at hr
  rw [if_pos h4]
  refine decide_eq_true ?_
  show uBad u.src u.dst (carV p.body p.proto (ofT p) u true)=0
  rw [h4]
  exact udp_right t.h.body t.sf t.hu this.1 this.2 (by rw [s1,s2]; exact of_decide_eq_true hr)
 ·
  have:=s5 (by omega)
  rw [if_neg (by omega),if_neg (by omega)] at hr
  rw [if_neg (by show ¬ p.proto=17; omega),if_neg (by show ¬ p.proto=1; omega)]
  refine decide_eq_true ?_
  show S (tot true (psh u.src u.dst p.proto ((carV p.body p.proto (ofT p) u true).length:Int)++carV p.body p.proto (ofT p) u true))=65535
  have hr2:=of_decide_eq_true hr
  rw [h4.1] at hr2 ⊢
  exact tcp_right t.h.body (by omega) hl t.sf t.hu this.1 this.2 (by rw [s1,s2]; exact hr2)
 ·
  rw [if_neg (by omega),if_pos h4.1] at hr
  rw [if_neg (by show ¬ p.proto=17; omega),if_pos h4.1]
  refine decide_eq_true ?_
  show icBad (carV p.body p.proto (ofT p) u true)=0
  rw [h4.1]
  exact echo_right t.h.body t.sf t.hu (s4 h4.1).2 (of_decide_eq_true hr)
end
end Go.Proofs.YtphbdmafchjjeaaGreatDoorS
