import Derived.Test.YtphbdmafchjjeaaGreatDoorTQBSIcmpM
import Derived.Test.YtphbdmafchjjeaaGreatDoorTQBSNatLM
import Derived.Test.YtphbdmafchjjeaaGreatDoorTQBSRef6M
import Derived.Test.YtphbdmafchjjeaaGreatDoorTQBSFD
namespace Go.Proofs.YtphbdmafchjjeaaGreatDoorS
open Go Go.RowKit Go.Proofs Go.Proofs.YtphbdmafchjjeaaGreatDoorX
set_option maxRecDepth 100000
set_option linter.unusedVariables false
set_option linter.unusedSectionVars false
set_option linter.unusedSimpArgs false
theorem pair_c {w:World} {A:Option Addr} {n c:Nat} {l:List Int} (h:By w A n l) (hb:Bytes l) {i:Nat} {j:Int} (hj:j=i) (hi:i+1 < n) (hn:n≤1000000000000000):Calls Tryz.prog 100 #[.slice A n c,.int .i64 j] w (Ret (.int .u16 (wd l i)) w):=by
 subst hj
 refine qq56.run ?_
 unfold qq56.s
 have h0:=hb.getD i
 have h1:=hb.getD (i+1)
 refine drawsR fun w1 k1=>?_
 refine h.rdS (fun w' k=>k) (by omega) (by omega) fun _=>?_
 rw [Int.toNat_natCast]
 refine let_as _ (w64 (by omega) (by omega)) ?_
 refine let_as _ (w64 (by omega) (by omega)) ?_
 refine let_as ((i+1:Nat):Int) (by rw [w64 (by omega) (by omega)]; omega) ?_
 refine h.rdS (fun w' k=>k) (by omega) (by omega) fun _=>?_
 rw [Int.toNat_natCast]
 refine let_as _ (w64 (by omega) (by omega)) ?_
 refine let_as (wd l i) (by rw [w64 (by omega) (by omega)]; unfold wd; omega) ?_
 refine let_as (wd l i) (w16 (by unfold wd; omega) (by unfold wd; omega)) ?_
 exact ⟨rfl,k1⟩
def porE (p:Pk):Int:=ofE4 p
def porT (p:Pk):Tp:=if ofE4 p=0 then ofT1 p else tpz
def RetPor (w:World) (p:Pk):Ending→World→Prop:=Ret (.tuple #[.agg (tpv (porT p)).toArray,.int .i64 (porE p)]) w
section
variable {w0:World} {p:Pk} (h:p.Fine) {B:Option Addr} {m d:Nat} (y:By w0 B m p.body) (hm:m≤1000000000000000) (h8:(p.proto=1∨p.proto=6∨p.proto=17)→8≤m) {g1 g3:Nat}
include h y hm h8
theorem por_no (he:ofE4 p=210) {w:World} {z:Tp} (H:Own w0 w [(g3,39,tpv tpz),(g1,39,tpv z)]):
  May w ⟨g3,0,none⟩ 5∧Let (putCells w ⟨g3,0,none⟩ (tpv tpz) 0) fun w6:World=>
   ∃ x7:Int,∃ x8:Int,∃ x9:Int,∃ x10:Int,∃ x11:Int,(5=5∧At w6 ⟨g3,0,none⟩ [.int .u32 x7,.int .u32 x8,.int .u8 x9,.int .u16 x10,.int .u16 x11])∧
   RetPor w0 p (.returned (.tuple #[.agg #[.int .u32 x7,.int .u32 x8,.int .u8 x9,.int .u16 x10,.int .u16 x11],.int .i64 210])) w6:=by
 refine own_put 0 H rfl rfl (Nat.le_refl 5) fun w6 K6=>?_
 refine ⟨_,_,_,_,_,⟨rfl,(K6.bk 0 rfl).at⟩,?_,K6.bel⟩
 unfold porT porE
 rw [he,if_neg (by decide)]
 rfl
theorem por_yes (he:ofE4 p=0) {w:World} (H:Own w0 w [(g3,39,tpv tpz),(g1,39,tpv (ofT1 p))]):
  ∃ x7:Int,∃ x8:Int,∃ x9:Int,∃ x10:Int,∃ x11:Int,(5=5∧At w ⟨g1,0,none⟩ [.int .u32 x7,.int .u32 x8,.int .u8 x9,.int .u16 x10,.int .u16 x11])∧
  (May w ⟨g3,0,none⟩ 5∧Let (putCells w ⟨g3,0,none⟩ [.int .u32 x7,.int .u32 x8,.int .u8 x9,.int .u16 x10,.int .u16 x11] 0) fun w6:World=>
   ∃ x7:Int,∃ x8:Int,∃ x9:Int,∃ x10:Int,∃ x11:Int,(5=5∧At w6 ⟨g3,0,none⟩ [.int .u32 x7,.int .u32 x8,.int .u8 x9,.int .u16 x10,.int .u16 x11])∧
   RetPor w0 p (.returned (.tuple #[.agg #[.int .u32 x7,.int .u32 x8,.int .u8 x9,.int .u16 x10,.int .u16 x11],.int .i64 0])) w6):=by
 refine ⟨_,_,_,_,_,⟨rfl,(H.bk 1 rfl).at⟩,?_⟩
 refine own_put (vs:=tpv (ofT1 p)) 0 H rfl rfl (Nat.le_refl 5) fun w6 K6=>?_
 refine ⟨_,_,_,_,_,⟨rfl,(K6.bk 0 rfl).at⟩,?_,K6.bel⟩
 unfold porT porE
 rw [he,if_pos rfl]
 rfl
theorem por_j2 (h1:p.proto=1) {z:Bool} (hz:z=true↔((p.body.getD 0 0=8∨p.body.getD 0 0=0)∧p.body.getD 1 0=0)) {w:World} (H:Own w0 w [(g3,39,tpv tpz),(g1,39,tpv ⟨p.src,p.dst,p.proto,0,0⟩)]):
  qq15.J2 B m d g1 g3 z w (RetPor w0 p):=by
 have e4:ofE4 p=if (p.body.getD 0 0=8∨p.body.getD 0 0=0)∧p.body.getD 1 0=0 then 0 else 210:=by
  unfold ofE4
  rw [if_neg (by omega),if_neg (by omega),if_pos h1]
 have h9:=h8 (Or.inl h1)
 unfold qq15.J2; intros
 rw [qq15.j2_eq]
 refine ifB (fun h2=>?_) (fun h2=>?_)
 ·
  refine call_of (pair_c (y.bel H.bel) h.body (i:=4) rfl (by omega) hm) ?_
  rintro e w1 ⟨rfl,k1⟩
  refine ⟨_,rfl,?_⟩
  refine own_set 1 (H.call k1) rfl (by show 3 < 5; decide) fun w4 H=>?_
  refine call_of (pair_c (y.bel H.bel) h.body (i:=4) rfl (by omega) hm) ?_
  rintro e w5 ⟨rfl,k5⟩
  refine ⟨_,rfl,?_⟩
  refine own_set 1 (H.call k5) rfl (by show 4 < 5; decide) fun w8 H=>?_
  have e:ofT1 p=⟨p.src,p.dst,p.proto,wd p.body 4,wd p.body 4⟩:=by unfold ofT1; rw [if_pos h1]
  replace H:Own w0 w8 [(g3,39,tpv tpz),(g1,39,tpv ⟨p.src,p.dst,p.proto,wd p.body 4,wd p.body 4⟩)]:=H
  rw [← e] at H
  exact por_yes h y hm h8 (by rw [e4,if_pos (hz.1 h2)]) H
 ·
  exact por_no h y hm h8 (by rw [e4,if_neg (fun hx=>by rw [hz.2 hx] at h2; cases h2)]) H
theorem por_j1 {z:Bool} (hz:z=true↔(p.proto=6∨p.proto=17)) {w:World} (H:Own w0 w [(g3,39,tpv tpz),(g1,39,tpv ⟨p.src,p.dst,p.proto,0,0⟩)]):
  qq15.J1 B m d g1 g3 p.proto z w (RetPor w0 p):=by
 unfold qq15.J1; intros
 rw [qq15.j1_eq]
 refine ifB (fun h2=>?_) (fun h2=>?_)
 ·
  have hp:=hz.1 h2
  have h9:=h8 (Or.inr hp)
  refine call_of (pair_c (y.bel H.bel) h.body (i:=0) rfl (by omega) hm) ?_
  rintro e w1 ⟨rfl,k1⟩
  refine ⟨_,rfl,?_⟩
  refine own_set 1 (H.call k1) rfl (by show 3 < 5; decide) fun w4 H=>?_
  refine call_of (pair_c (y.bel H.bel) h.body (i:=2) rfl (by omega) hm) ?_
  rintro e w5 ⟨rfl,k5⟩
  refine ⟨_,rfl,?_⟩
  refine own_set 1 (H.call k5) rfl (by show 4 < 5; decide) fun w8 H=>?_
  have e:ofT1 p=⟨p.src,p.dst,p.proto,wd p.body 0,wd p.body 2⟩:=by unfold ofT1; rw [if_neg (by omega)]
  replace H:Own w0 w8 [(g3,39,tpv tpz),(g1,39,tpv ⟨p.src,p.dst,p.proto,wd p.body 0,wd p.body 2⟩)]:=H
  rw [← e] at H
  refine por_yes h y hm h8 ?_ H
  unfold ofE4
  rcases hp with hp | hp
  ·
   rw [if_neg (by omega),if_pos hp]
  ·
   rw [if_pos hp]
 have hn:¬ (p.proto=6∨p.proto=17):=fun hx=>by rw [hz.2 hx] at h2; cases h2
 refine ifE (fun h3=>?_) (fun h3=>?_)
 ·
  have yw:=y.bel H.bel
  have h9:=h8 (Or.inl h3)
  have k:∀ z:Bool,(z=true↔((p.body.getD 0 0=8∨p.body.getD 0 0=0)∧p.body.getD 1 0=0))→qq15.J2 B m d g1 g3 z w (RetPor w0 p):=fun z hz=>por_j2 h y hm h8 h3 hz H
  refine yw.rd0 (by omega) fun _=>?_
  refine ifE (fun h4=>?_) (fun h4=>?_)
  ·
   refine yw.rdk 1 rfl (by omega) fun _=>?_
   have k:=k (p.body.getD 1 0 == 0) (by rw [beq_iff_eq]; exact ⟨fun h5=>⟨Or.inl h4,h5⟩,fun h5=>h5.2⟩)
   exact ⟨by with_reducible apply k⟩
  ·
   refine yw.rd0 (by omega) fun _=>?_
   refine ifE (fun h5=>?_) (fun h5=>?_)
   ·
    refine yw.rdk 1 rfl (by omega) fun _=>?_
    have k:=k (p.body.getD 1 0 == 0) (by rw [beq_iff_eq]; exact ⟨fun h6=>⟨Or.inr h5,h6⟩,fun h6=>h6.2⟩)
    exact ⟨by with_reducible apply k⟩
   ·
    have k:=k false ⟨fun hx=>(by cases hx),fun hx=>by rcases hx.1 with hx | hx <;> contradiction⟩
    exact ⟨by with_reducible apply k⟩
 ·
  refine por_no h y hm h8 ?_ H
  unfold ofE4
  rw [if_neg (fun hx=>hn (Or.inr hx)),if_neg (fun hx=>hn (Or.inl hx)),if_neg h3]
theorem ported_c:Calls Tryz.prog 78 #[.agg (tpv ⟨p.src,p.dst,p.proto,0,0⟩).toArray,.slice B m d] w0 (RetPor w0 p):=by
 refine qq15.run ?_
 unfold qq15.s
 refine own_new (l:=tpv ⟨p.src,p.dst,p.proto,0,0⟩) (Own.refl w0) fun g1 w2 H=>?_
 refine own_new (l:=tpv tpz) H fun g3 w4 H=>?_
 refine ⟨p.proto,H.cell 1 2 rfl rfl,?_⟩
 refine ifE (fun h1=>?_) (fun h1=>?_)
 ·
  have k:=por_j1 (d:=d) h y hm h8 (z:=(p.proto == 6)) ⟨fun _=>Or.inl h1,fun _=>by simpa using h1⟩ H
  exact ⟨by with_reducible apply k⟩
 ·
  have k:=por_j1 (d:=d) h y hm h8 (z:=(p.proto == 17)) ⟨fun hx=>Or.inr (by simpa using hx),fun hx=>by simpa using hx.resolve_left h1⟩ H
  exact ⟨by with_reducible apply k⟩
end
def RetO21 (w:World) (p:Pk):Ending→World→Prop:=Ret (.tuple #[.agg (tpv (ofT p)).toArray,.int .i64 (ofE p)]) w
section
variable {w0:World} {p:Pk} (h:p.Fine) {A:Option Addr} {n c:Nat} {B:Option Addr} {m d:Nat} (hp:PkAt w0 p A n c B m d) {g1 g3 g6:Nat}
include h hp
theorem o21_no {k:Int} (hk:ofE p=k) (k0:k≠0) {w:World} {L:List Blk} (H:Own w0 w L) (i:Nat) (hi:L[i]?=some (g3,39,tpv tpz)):
  May w ⟨g3,0,none⟩ 5∧Let (putCells w ⟨g3,0,none⟩ (tpv tpz) 0) fun w6:World=>
   ∃ x7:Int,∃ x8:Int,∃ x9:Int,∃ x10:Int,∃ x11:Int,(5=5∧At w6 ⟨g3,0,none⟩ [.int .u32 x7,.int .u32 x8,.int .u8 x9,.int .u16 x10,.int .u16 x11])∧
   RetO21 w0 p (.returned (.tuple #[.agg #[.int .u32 x7,.int .u32 x8,.int .u8 x9,.int .u16 x10,.int .u16 x11],.int .i64 k])) w6:=by
 refine own_put i H hi rfl (Nat.le_refl 5) fun w6 K6=>?_
 have lt:=(List.getElem?_eq_some_iff.1 hi).1
 refine ⟨_,_,_,_,_,⟨rfl,(K6.bk i (List.getElem?_set_self lt)).at⟩,?_,K6.bel⟩
 unfold ofT
 rw [hk,if_neg k0]
 rfl
theorem o21_j1 (he:ofE p=ofE4 p) (hm8:(p.proto=1∨p.proto=6∨p.proto=17)→8≤m) (hm:m≤1000000000000000) {w:World} (H:Own w0 w [(g6,35,pv p A n c),(g3,39,tpv tpz),(g1,37,pb p A n c B m d)]):qq76.J1 g1 g3 g6 w (RetO21 w0 p):=by
 unfold qq76.J1; intros
 rw [qq76.j1_eq]
 refine ⟨p.src,H.cell 0 7 rfl rfl,p.dst,H.cell 0 8 rfl rfl,p.proto,H.cell 0 6 rfl rfl,?_⟩
 refine own_mk (tpv tpz) (vs:=tpv ⟨p.src,p.dst,p.proto,0,0⟩) H rfl rfl fun g4 w6 H _ _=>?_
 refine ⟨_,_,_,_,_,⟨rfl,(H.bk 0 rfl).at⟩,B,m,d,H.cell 3 10 rfl rfl,?_⟩
 refine call_of (ported_c h (hp.body.bel H.bel) hm hm8) ?_
 rintro e w13 ⟨rfl,k13⟩
 refine ⟨_,_,_,_,_,_,rfl,?_⟩
 refine own_mk (tpv tpz) (vs:=tpv (porT p)) (H.call k13) rfl rfl fun g21 w23 H _ _=>?_
 refine ifN (fun h1=>?_) (fun h1=>?_)
 ·
  exact o21_no h hp (k:=porE p) he h1 H 3 rfl
 ·
  have e0:ofE4 p=0:=h1
  have eT:porT p=ofT p:=by unfold porT ofT; rw [he,e0,if_pos rfl]
  rw [eT] at H
  refine ⟨_,_,_,_,_,⟨rfl,(H.bk 0 rfl).at⟩,?_⟩
  refine own_put (vs:=tpv (ofT p)) 3 H rfl rfl (Nat.le_refl 5) fun w35 K=>?_
  refine ⟨_,_,_,_,_,⟨rfl,(K.bk 3 rfl).at⟩,?_,K.bel⟩
  rw [he,e0]
  rfl
end
theorem Of21_c {w:World} {p:Pk} (h:p.Fine) {A:Option Addr} {n c:Nat} {B:Option Addr} {m d:Nat} (hp:PkAt w p A n c B m d):Calls Tryz.prog 43 #[.agg (pb p A n c B m d).toArray] w (RetO21 w p):=by
 have lb:=hp.body.len
 refine qq76.run ?_
 unfold qq76.s
 refine own_new (l:=pb p A n c B m d) (Own.refl w) fun g1 w2 H=>?_
 refine own_new (l:=tpv tpz) H fun g3 w4 H=>?_
 refine ld_pkt (H.bk 1 rfl) ?_
 refine call_of (Build3_c h (hp.bel H.bel)) ?_
 rintro e w16 ⟨k16,C,i,j,rfl,_,_⟩
 refine ⟨_,_,_,_,rfl,?_⟩
 replace H:=H.call k16
 refine ifN (fun h1=>?_) (fun h1=>?_)
 ·
  exact o21_no h hp (k:=p.err) (by unfold ofE; rw [if_pos h1]) h1 H 0 rfl
 have hE:p.err=0:=h1
 have hz:=Pk.err_zero hE
 refine ld_head10 (H.bk 1 rfl) ?_
 refine own_mk Go.Proofs.YtphbdmafchjjeaaGreatDoorS.hz (vs:=pv p A n c) H rfl rfl fun g36 w38 H _ _=>?_
 refine ⟨p.off,H.cell 0 4 rfl rfl,?_⟩
 refine ifD (fun h2=>?_) (fun h2=>?_)
 ·
  exact o21_no h hp (k:=75) (by unfold ofE; rw [if_neg (fun hx=>hx hE),if_pos h2]) (by decide) H 1 rfl
 have eof:ofE p=if (p.proto=1∨p.proto=17)∧p.body.length < 8 then 30 else if p.proto=6∧p.body.length < 20 then 30 else ofE4 p:=by unfold ofE; rw [if_neg (fun hx=>hx hE),if_neg h2]
 have fin:¬ ((p.proto=1∨p.proto=17)∧p.body.length < 8)→¬ (p.proto=6∧p.body.length < 20)→qq76.J1 g1 g3 g36 w38 (RetO21 w p):=fun ha hb=>
  o21_j1 h hp (by rw [eof,if_neg ha,if_neg hb]) (fun hx=>by omega) (by omega) H
 refine ⟨B,m,d,H.cell 2 10 rfl rfl,?_⟩
 refine ⟨p.proto,H.cell 0 6 rfl rfl,?_⟩
 refine ifE (fun h3=>?_) (fun h3=>?_)
 ·
  refine ifD (fun h4=>?_) (fun h4=>?_)
  ·
   exact o21_no h hp (k:=30) (by rw [eof,if_pos ⟨Or.inl h3,by omega⟩]) (by decide) H 1 rfl
  ·
   refine ⟨p.proto,H.cell 0 6 rfl rfl,?_⟩
   refine ifE (fun h5=>absurd (h3.symm.trans h5) (by decide)) (fun h5=>?_)
   have k:=fin (by omega) (by omega)
   exact ⟨by with_reducible apply k⟩
 ·
  refine ⟨p.proto,H.cell 0 6 rfl rfl,?_⟩
  refine ifE (fun h4=>?_) (fun h4=>?_)
  ·
   refine ifD (fun h5=>?_) (fun h5=>?_)
   ·
    exact o21_no h hp (k:=30) (by rw [eof,if_pos ⟨Or.inr h4,by omega⟩]) (by decide) H 1 rfl
   ·
    refine ⟨p.proto,H.cell 0 6 rfl rfl,?_⟩
    refine ifE (fun h6=>absurd (h4.symm.trans h6) (by decide)) (fun h6=>?_)
    have k:=fin (by omega) (by omega)
    exact ⟨by with_reducible apply k⟩
  ·
   refine ⟨p.proto,H.cell 0 6 rfl rfl,?_⟩
   refine ifE (fun h5=>?_) (fun h5=>?_)
   ·
    refine ifD (fun h6=>?_) (fun h6=>?_)
    ·
     exact o21_no h hp (k:=30) (by rw [eof,if_neg (by omega),if_pos ⟨h5,by omega⟩]) (by decide) H 1 rfl
    ·
     have k:=fin (by omega) (by omega)
     exact ⟨by with_reducible apply k⟩
   ·
    have k:=fin (by omega) (by omega)
    exact ⟨by with_reducible apply k⟩
end Go.Proofs.YtphbdmafchjjeaaGreatDoorS
