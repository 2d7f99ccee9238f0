import Derived.Test.YtphbdmafchjjeaaGreatDoorTQBSNatFM
import Derived.Test.YtphbdmafchjjeaaGreatDoorTQBSFO2
import Derived.Test.YtphbdmafchjjeaaGreatDoorTQBSNatLM
namespace Go.Proofs.YtphbdmafchjjeaaGreatDoorS
open Go Go.RowKit Go.Proofs Go.Proofs.YtphbdmafchjjeaaGreatDoorX
set_option maxRecDepth 100000
set_option linter.unusedVariables false
set_option linter.unusedSectionVars false
set_option linter.unusedSimpArgs false
def mayT (t:Int):Bool:=decide (t=3∨t=11∨t=12)
theorem nmay_c (w:World) (t:Int):Calls Tryz.prog 58 #[.int .u8 t] w (Ret (.bool (mayT t)) w):=by
 refine qq108.run ?_
 unfold qq108.s mayT
 refine ifE (fun h=>⟨by rw [decide_eq_true (Or.inl h)],Bel.refl w⟩) (fun h1=>?_)
 refine ifE (fun h=>⟨by rw [decide_eq_true (Or.inr (Or.inl h))],Bel.refl w⟩) (fun h2=>?_)
 refine ⟨?_,Bel.refl w⟩
 by_cases h3:t=12
 ·
  rw [decide_eq_true (Or.inr (Or.inr h3)),h3]
  rfl
 ·
  rw [decide_eq_false (by omega),show (t == 12)=false from beq_eq_false_iff_ne.2 h3]
theorem puta_c {w0 w:World} {M:List Blk} {cs:List Lst} {g o n c:Nat} {pre b post:List Int} (H:OF w0 w ((g,5,bv (pre++(b++post)))::M) cs) (ho:pre.length=o) (hn:b.length=n) {i:Nat} {j a:Int} (hj:j=i) (hi:i+3 < n) (hm:n≤1000000000000000) (ha:0≤a∧a≤4294967295):
  Calls Tryz.prog 59 #[.slice (some ⟨g,o,none⟩) n c,.int .i64 j,.int .u32 a] w fun e w'=>e=.returned (.tuple #[])∧OF w0 w' ((g,5,bv (pre++(setw (setw b i (a / 65536)) (i+2) (a % 65536)++post)))::M) cs:=by
 refine qq82.run ?_
 unfold qq82.s
 subst hj
 refine let_as (a / 65536) (fd _ (by decide)) ?_
 refine let_as (a / 65536) (w16 (by omega) (by omega)) ?_
 refine call_of (putw_c H ho hn (i:=i) rfl (by omega) hm (by omega)) ?_
 rintro e w3 ⟨rfl,H3⟩
 refine ⟨rfl,?_⟩
 refine let_as ((i+2:Nat):Int) (by rw [w64 (by omega) (by omega)]; omega) ?_
 refine let_as (a % 65536) (by rw [IntKind.wrap_u16]) ?_
 refine call_of (putw_c H3 ho (by rw [setw_len]; exact hn) (i:=i+2) rfl (by omega) hm (by omega)) ?_
 rintro e w7 ⟨rfl,H7⟩
 exact ⟨rfl,rfl,H7⟩
def quB (p:Pk) (q:List Int):Bool:=decide (p.off=0∧8≤q.length∧(p.proto=6∨p.proto=17∨(p.proto=1∧(q.getD 0 0=8∨q.getD 0 0=0)∧q.getD 1 0=0)))
def quT1 (p:Pk) (q:List Int):Tp:=if p.proto=1 then ⟨p.src,p.dst,p.proto,wd q 4,wd q 4⟩ else ⟨p.src,p.dst,p.proto,wd q 0,wd q 2⟩
def quT (p:Pk) (q:List Int):Tp:=if quB p q=true then quT1 p q else tpz
def RetQu (w:World) (p:Pk) (q:List Int):Ending→World→Prop:=Ret (.tuple #[.agg (tpv (quT p q)).toArray,.bool (quB p q)]) w
section
variable {w0:World} {p:Pk} {q:List Int} {A:Option Addr} {n c:Nat} {B:Option Addr} {m d:Nat} (y:By w0 B m q) (hb:Bytes q) (hm:m≤1000000000000000) {g1 g3 g6:Nat}
theorem quo_no (h:quB p q=false) {w:World} {L:List Blk} (K:Own w0 w L) (k:Nat) (hk:L[k]?=some (g3,39,tpv tpz)):
  May w ⟨g3,0,none⟩ 5∧Let (putCells w ⟨g3,0,none⟩ (tpv tpz) 0) fun w6:World=>
   ∃ x7:Int,∃ x8:Int,∃ x9:Int,∃ x10:Int,∃ x11:Int,(5=5∧At w6 ⟨g3,0,none⟩ [.int .u32 x7,.int .u32 x8,.int .u8 x9,.int .u16 x10,.int .u16 x11])∧
   RetQu w0 p q (.returned (.tuple #[.agg #[.int .u32 x7,.int .u32 x8,.int .u8 x9,.int .u16 x10,.int .u16 x11],.bool false])) w6:=by
 refine own_put k K hk rfl (Nat.le_refl 5) fun w6 K6=>?_
 have lt:=(List.getElem?_eq_some_iff.1 hk).1
 have hk6:(L.set k (g3,39,tpv tpz))[k]?=some (g3,39,tpv tpz):=by rw [List.getElem?_set_self lt]
 refine ⟨_,_,_,_,_,⟨rfl,(K6.bk k hk6).at⟩,?_,K6.bel⟩
 unfold quT
 rw [h,if_neg (by decide)]
 rfl
include y hb hm
theorem quo_j3 (h:quB p q=true) {w:World} (H:Own w0 w [(g6,39,tpv (quT1 p q)),(g3,39,tpv tpz),(g1,35,pv p A n c)]):qq92.J3 g3 g6 w (RetQu w0 p q):=by
 unfold qq92.J3; intros
 rw [qq92.j3_eq]
 refine ⟨_,_,_,_,_,⟨rfl,(H.bk 0 rfl).at⟩,?_⟩
 refine own_put (vs:=tpv (quT1 p q)) 1 H rfl rfl (Nat.le_refl 5) fun w6 H6=>?_
 refine ⟨_,_,_,_,_,⟨rfl,(H6.bk 1 rfl).at⟩,?_,H6.bel⟩
 unfold quT
 rw [h,if_pos rfl]
 rfl
theorem quo_j4 (h8:8≤m) (h1:p.proto=1) {z:Bool} (hz:z=quB p q) {w:World} (H:Own w0 w [(g6,39,tpv ⟨p.src,p.dst,p.proto,0,0⟩),(g3,39,tpv tpz),(g1,35,pv p A n c)]):
  qq92.J4 B m d g3 g6 z w (RetQu w0 p q):=by
 unfold qq92.J4; intros
 rw [qq92.j4_eq]
 refine ifB (fun h2=>?_) (fun h2=>?_)
 ·
  refine call_of (nword_c (y.bel H.bel) hb (i:=4) rfl (by omega) hm) ?_
  rintro e w1 ⟨rfl,k1⟩
  refine ⟨_,rfl,?_⟩
  refine own_set 0 (H.call k1) rfl (by show 3 < 5; decide) fun w4 H=>?_
  refine ⟨_,H.cell 0 3 rfl rfl,?_⟩
  refine own_set 0 H rfl (by show 4 < 5; decide) fun w6 H=>?_
  have e:quT1 p q=⟨p.src,p.dst,p.proto,wd q 4,wd q 4⟩:=by unfold quT1; rw [if_pos h1]
  replace H:Own w0 w6 [(g6,39,tpv ⟨p.src,p.dst,p.proto,wd q 4,wd q 4⟩),(g3,39,tpv tpz),(g1,35,pv p A n c)]:=H
  rw [← e] at H
  have k:=quo_j3 (p:=p) y hb hm (by rw [← hz]; exact h2) H
  exact ⟨by with_reducible apply k⟩
 ·
  exact quo_no (by rw [← hz]; exact h2) H 1 rfl
theorem quo_j2 (h0:p.off=0) (h8:8≤m) {z:Bool} (hz:z=true↔(p.proto=6∨p.proto=17)) {w:World} (H:Own w0 w [(g6,39,tpv ⟨p.src,p.dst,p.proto,0,0⟩),(g3,39,tpv tpz),(g1,35,pv p A n c)]):
  qq92.J2 B m d g1 g3 g6 z w (RetQu w0 p q):=by
 have ln:=y.len
 unfold qq92.J2; intros
 rw [qq92.j2_eq]
 refine ifB (fun h2=>?_) (fun h2=>?_)
 ·
  have hp:=hz.1 h2
  refine call_of (nword_c (y.bel H.bel) hb (i:=0) rfl (by omega) hm) ?_
  rintro e w1 ⟨rfl,k1⟩
  refine ⟨_,rfl,?_⟩
  refine call_of (nword_c ((y.bel H.bel).bel k1) hb (i:=2) rfl (by omega) hm) ?_
  rintro e w4 ⟨rfl,k4⟩
  refine ⟨_,rfl,?_⟩
  refine own_set 0 ((H.call k1).call k4) rfl (by show 3 < 5; decide) fun w7 H=>?_
  refine own_set 0 H rfl (by show 4 < 5; decide) fun w8 H=>?_
  have e:quT1 p q=⟨p.src,p.dst,p.proto,wd q 0,wd q 2⟩:=by unfold quT1; rw [if_neg (by omega)]
  replace H:Own w0 w8 [(g6,39,tpv ⟨p.src,p.dst,p.proto,wd q 0,wd q 2⟩),(g3,39,tpv tpz),(g1,35,pv p A n c)]:=H
  rw [← e] at H
  have k:=quo_j3 (p:=p) y hb hm (by unfold quB; exact decide_eq_true ⟨h0,by omega,by omega⟩) H
  exact ⟨by with_reducible apply k⟩
 have hn:¬ (p.proto=6∨p.proto=17):=fun hx=>by rw [hz.2 hx] at h2; cases h2
 have no:(¬ (p.proto=1∧(q.getD 0 0=8∨q.getD 0 0=0)∧q.getD 1 0=0))→quB p q=false:=fun hx=>decide_eq_false fun hy=>by
  rcases hy.2.2 with h | h | h
  ·
   exact hn (Or.inl h)
  ·
   exact hn (Or.inr h)
  ·
   exact hx h
 refine ⟨p.proto,H.cell 2 6 rfl rfl,?_⟩
 refine ifE (fun h3=>?_) (fun h3=>?_)
 ·
  have yw:=y.bel H.bel
  have k:∀ z:Bool,z=quB p q→qq92.J4 B m d g3 g6 z w (RetQu w0 p q):=fun z hz=>quo_j4 y hb hm h8 h3 hz H
  refine yw.rd0 (by omega) fun _=>?_
  refine ifE (fun h4=>?_) (fun h4=>?_)
  ·
   refine yw.rdk 1 rfl (by omega) fun _=>?_
   have k:=k (q.getD 1 0 == 0) (by
    by_cases h5:q.getD 1 0=0
    ·
     rw [h5]
     exact (decide_eq_true ⟨h0,by omega,Or.inr (Or.inr ⟨h3,Or.inl h4,h5⟩)⟩).symm
    ·
     rw [no (fun h=>h5 h.2.2)]
     exact beq_eq_false_iff_ne.2 h5)
   exact ⟨by with_reducible apply k⟩
  ·
   refine yw.rd0 (by omega) fun _=>?_
   refine ifE (fun h5=>?_) (fun h5=>?_)
   ·
    refine yw.rdk 1 rfl (by omega) fun _=>?_
    have k:=k (q.getD 1 0 == 0) (by
     by_cases h6:q.getD 1 0=0
     ·
      rw [h6]
      exact (decide_eq_true ⟨h0,by omega,Or.inr (Or.inr ⟨h3,Or.inr h5,h6⟩)⟩).symm
     ·
      rw [no (fun h=>h6 h.2.2)]
      exact beq_eq_false_iff_ne.2 h6)
    exact ⟨by with_reducible apply k⟩
   ·
    have k:=k false (no (fun h=>by rcases h.2.1 with h | h <;> contradiction)).symm
    exact ⟨by with_reducible apply k⟩
 ·
  have k:qq92.J4 B m d g3 g6 false w (RetQu w0 p q):=by
   unfold qq92.J4; intros
   rw [qq92.j4_eq]
   exact ifB (fun h=>by cases h) (fun _=>quo_no (no (fun h=>h3 h.1)) H 1 rfl)
  exact ⟨by with_reducible apply k⟩
end
theorem quoted_c {w:World} {p:Pk} {q:List Int} {A:Option Addr} {n c:Nat} {B:Option Addr} {m d:Nat} (y:By w B m q) (hb:Bytes q) (hm:m≤1000000000000000):
  Calls Tryz.prog 57 #[.agg (pv p A n c).toArray,.slice B m d] w (RetQu w p q):=by
 have ln:=y.len
 refine qq92.run ?_
 unfold qq92.s
 refine own_new (l:=pv p A n c) (Own.refl w) fun g1 w2 H=>?_
 refine own_new (l:=tpv tpz) H fun g3 w4 H=>?_
 refine ⟨p.off,H.cell 1 4 rfl rfl,?_⟩
 refine ifN (fun h1=>?_) (fun h1=>?_)
 ·
  exact quo_no (decide_eq_false fun h=>h1 h.1) H 0 rfl
 refine ifD (fun h2=>?_) (fun h2=>?_)
 ·
  exact quo_no (decide_eq_false fun h=>by have:=h.2.1; omega) H 0 rfl
 refine ⟨?_⟩
 have k:qq92.J1 B m d g1 g3 w4 (RetQu w p q):=by
  unfold qq92.J1; intros
  rw [qq92.j1_eq]
  refine ⟨p.src,H.cell 1 7 rfl rfl,p.dst,H.cell 1 8 rfl rfl,p.proto,H.cell 1 6 rfl rfl,?_⟩
  refine own_mk (tpv tpz) (vs:=tpv ⟨p.src,p.dst,p.proto,0,0⟩) H rfl rfl fun g6 w6 H _ _=>?_
  refine ⟨p.proto,H.cell 2 6 rfl rfl,?_⟩
  refine ifE (fun h3=>?_) (fun h3=>?_)
  ·
   have k:=quo_j2 (d:=d) (p:=p) y hb hm h1 (by omega) (z:=true) ⟨fun _=>Or.inl h3,fun _=>rfl⟩ H
   exact ⟨by with_reducible apply k⟩
  ·
   refine ⟨p.proto,H.cell 2 6 rfl rfl,?_⟩
   have k:=quo_j2 (d:=d) (p:=p) y hb hm h1 (by omega) (z:=(p.proto == 17)) ⟨fun h=>Or.inr (by simpa using h),fun h=>by rcases h with h | h; exact absurd h h3; simpa using h⟩ H
   exact ⟨by with_reducible apply k⟩
 exact k ..
end Go.Proofs.YtphbdmafchjjeaaGreatDoorS
namespace Go.Proofs.YtphbdmafchjjeaaGreatDoorS
open Go Go.RowKit Go.Proofs Go.Proofs.YtphbdmafchjjeaaGreatDoorX
set_option maxRecDepth 100000
set_option linter.unusedVariables false
set_option linter.unusedSectionVars false
set_option linter.unusedSimpArgs false
def tfB (p:Pk):List Int:=p.body.drop 8
def tfH (p:Pk):Pk:=ofB (tfB p)
def tfQ (p:Pk):List Int:=((tfB p).take (there (tfB p))).drop (hlen (tfB p))
def tfS (p:Pk):Tp:=quT (tfH p) (tfQ p)
def tfE (p:Pk) (u:Tp):Int:=if aboutE p≠0 then aboutE p else if mayT (p.body.getD 0 0)=false∨quB (tfH p) (tfQ p)=false∨u.proto≠(tfS p).proto∨((tfS p).proto=1∧u.sp≠u.dp) then 230 else 0
def tf2 (p:Pk) (u:Tp):List Int:=setw (setw (setw (setw (tfB p) 12 (u.src / 65536)) 14 (u.src % 65536)) 16 (u.dst / 65536)) 18 (u.dst % 65536)
def tf3 (p:Pk) (u:Tp):List Int:=setw (tf2 p u) 10 (65535-S (tot true ((tf2 p u).take 10++((tf2 p u).take (hlen (tfB p))).drop 12)))
def tf4 (p:Pk) (u:Tp):List Int:=(tf3 p u).take (hlen (tfB p))++(carV (((tf3 p u).drop (hlen (tfB p))).take (tfQ p).length) (tfS p).proto (tfS p) u false++(tf3 p u).drop (hlen (tfB p)+(tfQ p).length))
def tfI (p:Pk) (u:Tp):Ic:=⟨p.body.getD 0 0,p.body.getD 1 0,lg p.body 4,tf4 p u⟩
def tfP (p:Pk) (u:Tp) (src dst:Int):Pk:={ p with src:=src,dst:=dst,body:=(tfI p u).bytes (tfI p u).sum }
def tfO (p:Pk) (u:Tp) (src dst:Int):Pk:=if tfE p u=0 then tfP p u src dst else pz
theorem tf2_len (p:Pk) (u:Tp):(tf2 p u).length=(tfB p).length:=by
 unfold tf2
 rw [setw_len,setw_len,setw_len,setw_len]
theorem tf3_len (p:Pk) (u:Tp):(tf3 p u).length=(tfB p).length:=by
 unfold tf3
 rw [setw_len,tf2_len]
theorem tf2_bytes {p:Pk} (h:Bytes (tfB p)) {u:Tp} (hu:u.Fine):Bytes (tf2 p u):=by
 have h1:=hu.src
 have h2:=hu.dst
 unfold tf2
 exact setw_bytes (setw_bytes (setw_bytes (setw_bytes h 12 (by omega)) 14 (by omega)) 16 (by omega)) 18 (by omega)
theorem tf3_bytes {p:Pk} (h:Bytes (tfB p)) {u:Tp} (hu:u.Fine):Bytes (tf3 p u):=by
 have h2:=tf2_bytes h hu
 have hS:=S_range (tot_nonneg (b:=true) ((h2.take 10).append ((h2.take (hlen (tfB p))).drop 12)))
 unfold tf3
 exact setw_bytes h2 10 (by omega)
theorem rm_part {w:World} {A:Option Addr} {n c:Nat} {l:List Int} (r:Rm w A c) (y:By w A n l) (h0:0 < n) (hc:n≤c):∃ g f pre post,A=some ⟨g,f,none⟩∧pre.length=f∧Bk w g 5 (bv (pre++(l++post))):=by
 have ln:=y.len
 rcases r with ⟨_,rfl⟩ | ⟨g,f,X,rfl,hb,hl,_⟩
 ·
  omega
 refine ⟨g,f,X.take f,X.drop (f+n),rfl,by rw [List.length_take]; omega,?_⟩
 obtain ⟨a,ea,hcell⟩:=y.2 h0
 injection ea with ea
 subst ea
 have e:l=(X.drop f).take n:=by
  apply List.ext_getElem?
  intro i
  by_cases hi:i < n
  ·
   have h1:=hcell i hi
   rw [add_blk] at h1
   have h2:=hb.cell (f+i) (v:=.int .u8 (X.getD (f+i) 0)) (by
    unfold bv
    rw [List.getElem?_map,List.getElem?_eq_getElem (by omega),List.getD_eq_getElem?_getD,List.getElem?_eq_getElem (by omega)]
    rfl)
   have h3:=h1.symm.trans h2
   injection h3 with h3
   injection h3 with _ h3
   rw [List.getElem?_take_of_lt hi,List.getElem?_drop,List.getElem?_eq_getElem (by omega),List.getElem?_eq_getElem (by omega)]
   rw [List.getD_eq_getElem?_getD,List.getD_eq_getElem?_getD,List.getElem?_eq_getElem (by omega),List.getElem?_eq_getElem (by omega)] at h3
   exact congrArg some h3
  ·
   rw [List.getElem?_eq_none (by omega),List.getElem?_eq_none (by rw [List.length_take]; omega)]
 have e2:X.take f++(l++X.drop (f+n))=X:=by
  rw [e]
  have h1:=List.take_append_drop n (X.drop f)
  rw [List.drop_drop] at h1
  rw [h1,List.take_append_drop]
 rw [e2]
 exact hb
end Go.Proofs.YtphbdmafchjjeaaGreatDoorS
namespace Go.Proofs.YtphbdmafchjjeaaGreatDoorS
open Go Go.RowKit Go.Proofs Go.Proofs.YtphbdmafchjjeaaGreatDoorX
set_option maxRecDepth 100000
set_option linter.unusedVariables false
set_option linter.unusedSectionVars false
set_option linter.unusedSimpArgs false
theorem cut_in {g o l m:Nat} (h:m≠l):cutA (some (⟨g,o,none⟩:Addr)) l m 1=some ⟨g,o+l,none⟩:=by
 unfold cutA
 rw [if_neg h]
 simp [mulS,add_blk]
theorem part_eq {pre b post:List Int} {o i j:Nat} (ho:pre.length=o) (h:i+j≤b.length):((pre++(b++post)).drop (o+i)).take j=(b.take (i+j)).drop i:=by
 rw [← List.drop_drop,List.drop_left' ho,List.drop_append_of_le_length (by omega),List.take_append_of_le_length (by rw [List.length_drop]; omega),List.drop_take,Nat.add_sub_cancel_left]
def RetTF (w0:World) (p:Pk) (u:Tp) (src dst:Int) (e:Ending) (w':World):Prop:=Bel w0 w'∧RetPk w0 (tfO p u src dst) (tfE p u) e w'
structure Tf (p:Pk) (u:Tp):Prop where
 h:p.Fine
 hu:u.Fine
 he:tfE p u=0
 l1:20≤hlen (tfB p)
 l2:8≤(tfQ p).length
 l3:hlen (tfB p)+(tfQ p).length≤(tfB p).length
 l4:(tfB p).length≤65507
 bb:Bytes (tfB p)
 sf:(tfS p).Fine
theorem Tf.len4 {p:Pk} {u:Tp} (t:Tf p u):(tf4 p u).length=(tfB p).length:=by
 have h1:=t.l3
 have h2:=tf3_len p u
 unfold tf4
 rw [List.length_append,List.length_append,carV_len,List.length_take,List.length_take,List.length_drop,List.length_drop,h2]
 omega
theorem Tf.bytes4 {p:Pk} {u:Tp} (t:Tf p u) (hc:Bytes (carV (((tf3 p u).drop (hlen (tfB p))).take (tfQ p).length) (tfS p).proto (tfS p) u false)):Bytes (tf4 p u):=by
 have h3:=tf3_bytes t.bb t.hu
 unfold tf4
 exact (h3.take _).append (hc.append (h3.drop _))
end Go.Proofs.YtphbdmafchjjeaaGreatDoorS
