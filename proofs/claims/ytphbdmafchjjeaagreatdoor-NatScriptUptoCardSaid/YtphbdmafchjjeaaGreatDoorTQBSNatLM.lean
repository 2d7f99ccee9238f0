import Derived.Test.YtphbdmafchjjeaaGreatDoorTQBSNatK
import Derived.Test.YtphbdmafchjjeaaGreatDoorTQBSIcmpM
namespace Go.Proofs.YtphbdmafchjjeaaGreatDoorS
open Go Go.RowKit Go.Proofs Go.Proofs.YtphbdmafchjjeaaGreatDoorX
set_option maxRecDepth 100000
set_option linter.unusedVariables false
set_option linter.unusedSectionVars false
set_option linter.unusedSimpArgs false
abbrev bkd (x:Int×Int):List Value:=[.int .u32 x.1,.int .u16 x.2]
def bvs (l:List (Int×Int)):List Value:=l.flatMap bkd
theorem bvs_len:∀ l:List (Int×Int),(bvs l).length=l.length * 2
 | []=>rfl
 | x::l=>by
  unfold bvs
  rw [List.flatMap_cons,List.length_append]
  have:=bvs_len l
  unfold bvs at this
  rw [this]
  simp
  omega
theorem bvs_app (a b:List (Int×Int)):bvs (a++b)=bvs a++bvs b:=by simp [bvs]
theorem bvs_one (x:Int×Int):bvs [x]=bkd x:=by simp [bvs]
theorem bvs_get:∀ (l:List (Int×Int)) (i:Nat),i < l.length→∀ j v,(bkd (l.getD i (0,0)))[j]?=some v→(bvs l)[i * 2+j]?=some v
 | [],i,hi=>by simp at hi
 | x::l,0,hi=>fun j v hv=>by
  have hj:j < 2:=(List.getElem?_eq_some_iff.1 hv).1
  unfold bvs
  rw [List.flatMap_cons,Nat.zero_mul,Nat.zero_add,List.getElem?_append_left hj]
  exact hv
 | x::l,i+1,hi=>fun j v hv=>by
  have:=bvs_get l i (by simpa using hi) j v (by simpa using hv)
  unfold bvs
  rw [List.flatMap_cons,List.getElem?_append_right (by simp; omega)]
  unfold bvs at this
  rw [← this]
  congr 1
  simp
  omega
theorem bks_bk {w:World} {g:Nat} {t:TypeId} {l:List (Int×Int)} {pad:List Value} (h:Bk w g t (bvs l++pad)):Bks w (some ⟨g,0,none⟩) l.length l:=by
 refine ⟨rfl,fun _=>⟨_,rfl,fun i hi j v hv=>?_⟩⟩
 rw [add_blk,add_blk,Nat.zero_add]
 refine h.cell (i * 2+j) ?_
 have hj:j < 2:=(List.getElem?_eq_some_iff.1 hv).1
 rw [List.getElem?_append_left (by rw [bvs_len]; omega)]
 exact bvs_get l i hi j v hv
def BL (w0 w:World) (M:List Blk) (A:Option Addr) (n c:Nat) (l:List (Int×Int)):Prop:=∃ o:Option Blk,OF w0 w (o.toList++M) []∧RV 65 2 o A n c (bvs l)∧l.length=n
section
variable {w0 w w':World} {M:List Blk} {A:Option Addr} {n c:Nat} {l:List (Int×Int)}
theorem BL.nil (h:Own w0 w M):BL w0 w M none 0 0 []:=⟨none,⟨h,fun x hx=>by cases hx⟩,RV.none,rfl⟩
theorem BL.call (h:BL w0 w M A n c l) (k:Bel w w'):BL w0 w' M A n c l:=let ⟨o,h1,h2,h3⟩:=h; ⟨o,h1.call k,h2,h3⟩
theorem BL.own (h:BL w0 w M A n c l):Own w0 w M:=by
 obtain ⟨o,h1,_⟩:=h
 exact h1.own.less
theorem BL.bks (h:BL w0 w M A n c l):Bks w A n l∧n≤c:=by
 obtain ⟨o,h1,q,h3⟩:=h
 subst h3
 rcases q.2 with ⟨rfl,rfl,rfl,h4⟩ | ⟨b,pad,rfl,rfl,hc⟩
 ·
  have:=congrArg List.length h4
  rw [bvs_len] at this
  have:l=[]:=List.eq_nil_of_length_eq_zero (by
   have e:l.length * 2=0:=this
   omega)
  subst this
  exact ⟨⟨rfl,fun h=>by simp at h⟩,Nat.le_refl _⟩
 ·
  refine ⟨bks_bk (h1.own.bk 0 rfl),?_⟩
  rw [bvs_len] at hc
  omega
theorem bl_app (h:BL w0 w M A n c l) {x:Int×Int} {g0:Nat} (hB:At w ⟨g0,0,none⟩ (bkd x)) (hn:n≤1000000) {K:Option Addr→Nat→World→Prop} (hK:∀ A' c' wb,BL w0 wb M A' (n+1) c' (l++[x])→K A' c' wb):
  AppE w 2 8 65 [.int .u32 0,.int .u16 0] A n c (some ⟨g0,0,.none⟩) 1 K:=by
 obtain ⟨o,h1,q,h3⟩:=h
 refine rv_app (bytes:=8) (zs:=[.int .u32 0,.int .u16 0]) rfl h1 q (v:=bkd x) rfl rfl hB (by omega) (by omega) fun o' A' c' wb H' q'=>?_
 refine hK A' c' wb ⟨o',H',by rw [bvs_app,bvs_one]; exact q',by rw [List.length_append,h3]; rfl⟩
end
theorem Bks.rd {w:World} {A:Option Addr} {n:Nat} {l:List (Int×Int)} (h:Bks w A n l) {i:Nat} (hi:i < n):∃ a,A=some a∧At w (a.add (i * 2)) (bkd (l.getD i (0,0))):=by
 obtain ⟨a,e,hc⟩:=h.2 (by omega)
 exact ⟨a,e,hc i hi⟩
theorem At.bel {w w':World} {a:Addr} {l:List Value} (h:At w a l) (k:Bel w w'):At w' a l:=fun j v hv=>k.cellb (h j v hv)
theorem take_snoc {α:Type} {l:List α} {i:Nat} {d:α} (h:i < l.length):l.take i++[l.getD i d]=l.take (i+1):=by
 rw [List.take_succ_eq_append_getElem h,List.getD_eq_getElem?_getD,List.getElem?_eq_getElem h]
 rfl
def RetBL (w:World) (l:List (Int×Int)) (e:Ending) (w':World):Prop:=∃ A c,e=.returned (.slice A l.length c)∧BL w w' [] A l.length c l
section
variable {w:World} {A:Option Addr} {n c:Nat} {l:List (Int×Int)} (h:Bks w A n l) (hn:n≤500000)
include h hn
theorem backs_l:∀ (q i:Nat) (wa:World) (B:Option Addr) (d:Nat),n-i < q→i≤n→BL w wa [] B i d (l.take i)→qq26.L1 q A n c B i d (i:Int) wa (RetBL w l):=by
 have hl:=h.1
 intro q
 induction q with
 | zero=>intro i wa B d hq; omega
 | succ q ih=>
  intro i wa B d hq hi b
  unfold qq26.L1; intros
  rw [qq26.l1_eq]
  refine ifD (fun h1=>?_) (fun h1=>?_)
  ·
   obtain ⟨a,ea,hat⟩:=h.rd (i:=i) (by omega)
   have hat2:=hat.bel b.own.bel
   refine ⟨a,ea,⟨by omega,by omega⟩,_,_,⟨rfl,hat2⟩,?_⟩
   refine let_as wa.heap.size rfl (let_as (wa.alloc (.cells (bkd (l.getD i (0,0))).toArray 65)) rfl ?_)
   refine bl_app (b.call ((Bel.refl wa).alloc _)) (Bk.new wa _ _).at (by omega) fun A' c' wb b'=>?_
   refine let_as ((i+1:Nat):Int) (by rw [w64 (by omega) (by omega)]; omega) ?_
   rw [take_snoc (by omega)] at b'
   exact ih (i+1) wb A' c' (by omega) (by omega) b' ..
  ·
   have e:i=n:=by omega
   subst e
   rw [List.take_of_length_le (by omega)] at b
   refine ⟨B,d,by rw [hl],?_⟩
   rw [hl]
   exact b
theorem backs_c:Calls Tryz.prog 33 #[.slice A n c] w (RetBL w l):=by
 refine qq26.run ?_
 unfold qq26.s
 refine ⟨n+1,?_⟩
 have k:=backs_l (c:=c) h hn (n+1) 0 w none 0 (by omega) (by omega) (BL.nil (Own.refl w))
 exact k ..
end
abbrev wtV (t:Tp) (x:Int×Int):Int:=weightV t x.1 x.2
def Unt (t:Tp) (l:List (Int×Int)):Prop:=∀ x∈l,∀ y∈l,wtV t x=wtV t y→x=y
def FineB (l:List (Int×Int)):Prop:=∀ x∈l,(0≤x.1∧x.1≤4294967295)∧(0≤x.2∧x.2≤65535)
section
variable {w0:World} {t:Tp} {A:Option Addr} {n c:Nat} {l:List (Int×Int)}
def UntTo (t:Tp) (l:List (Int×Int)) (i:Nat):Prop:=∀ a b,a < i→b < a→wtV t (l.getD a (0,0))=wtV t (l.getD b (0,0))→l.getD a (0,0)=l.getD b (0,0)
theorem UntTo.all (h:UntTo t l l.length):Unt t l:=fun x hx y hy e=>by
 obtain ⟨i,hi⟩:=List.mem_iff_getElem?.1 hx
 obtain ⟨j,hj⟩:=List.mem_iff_getElem?.1 hy
 have li:=(List.getElem?_eq_some_iff.1 hi).1
 have lj:=(List.getElem?_eq_some_iff.1 hj).1
 have ei:l.getD i (0,0)=x:=by rw [List.getD_eq_getElem?_getD,hi]; rfl
 have ej:l.getD j (0,0)=y:=by rw [List.getD_eq_getElem?_getD,hj]; rfl
 rcases Nat.lt_trichotomy i j with h1 | h1 | h1
 ·
  have:=h j i lj h1 (by rw [ei,ej]; exact e.symm)
  rw [ei,ej] at this
  exact this.symm
 ·
  subst h1
  rw [ei] at ej
  exact ej
 ·
  have:=h i j li h1 (by rw [ei,ej]; exact e)
  rw [ei,ej] at this
  exact this
end
end Go.Proofs.YtphbdmafchjjeaaGreatDoorS
namespace Go.Proofs.YtphbdmafchjjeaaGreatDoorS
open Go Go.RowKit Go.Proofs Go.Proofs.YtphbdmafchjjeaaGreatDoorX
set_option maxRecDepth 100000
set_option linter.unusedVariables false
set_option linter.unusedSimpArgs false
def RetER (w:World) (k:Int) (q:Pk) (e:Ending) (w':World):Prop:=RetPkR w (if k=0 then q else pz) k e w'
theorem RetER.no {w w':World} {k:Int} (q:Pk) (h:k≠0):RetER w k q (.returned (.tuple #[.agg (pb pz none 0 0 none 0 0).toArray,.int .i64 k])) w':=by
 unfold RetER
 rw [if_neg h]
 exact ret_pzR w w' k
def msgE (p:Pk):Int:=if p.err≠0 then p.err else if p.proto≠1 then 60 else if p.off > 0 then 60 else if p.mf=true then 60 else icBad p.body
def RetMsg (w:World) (p:Pk) (e:Ending) (w':World):Prop:=
 if msgE p=0 then ∃ A c,e=.returned (.tuple #[.agg (mv (p.body.getD 0 0) (p.body.getD 1 0) (lg p.body 4) A (p.body.length-8) c).toArray,.int .i64 0])∧By w' A (p.body.length-8) (p.body.drop 8)∧p.body.length-8≤c∧Fre w A
 else e=.returned (.tuple #[.agg (mv 0 0 0 none 0 0).toArray,.int .i64 (msgE p)])
theorem message_c {w:World} {p:Pk} (h:p.Fine) {A:Option Addr} {n c:Nat} {B:Option Addr} {m d:Nat} (hp:PkAt w p A n c B m d):
  Calls Tryz.prog 90 #[.agg (pb p A n c B m d).toArray] w (fun e w'=>Bel w w'∧RetMsg w p e w'):=by
 refine qq75.run ?_
 unfold qq75.s
 have lb:=hp.body.len
 refine own_new (l:=pb p A n c B m d) (Own.refl w) fun g1 w1 H=>?_
 refine own_new (l:=mv 0 0 0 none 0 0) H fun g2 w2 H=>?_
 refine ld_pkt (H.bk 1 rfl) ?_
 refine call_of (Build_e h (hp.bel H.bel)) ?_
 rintro e w3 ⟨k3,C,i,j,rfl,_⟩
 replace H:=H.call k3
 refine ⟨_,_,_,_,rfl,?_⟩
 have no:∀ (k:Int) (w':World),k≠0→Bel w w'→msgE p=k→Bel w w'∧RetMsg w p (.returned (.tuple #[.agg (mv 0 0 0 none 0 0).toArray,.int .i64 k])) w':=fun k w' hk hb he=>⟨hb,by unfold RetMsg; rw [he,if_neg hk]⟩
 refine ifN (fun h1=>?_) (fun h1=>?_)
 ·
  refine put_msg 0 H rfl rfl fun w4 H u=>no _ _ h1 H.bel ?_
  unfold msgE; rw [if_pos h1]
 refine ⟨_,H.cell 1 6 rfl rfl,?_⟩
 refine ifN (fun h2=>?_) (fun h2=>?_)
 ·
  refine put_msg 0 H rfl rfl fun w4 H u=>no _ _ (by decide) H.bel ?_
  unfold msgE; rw [if_neg (not_not_intro h1),if_pos h2]
 refine ⟨_,H.cell 1 4 rfl rfl,?_⟩
 refine ifD (fun h3=>?_) (fun h3=>?_)
 ·
  refine put_msg 0 H rfl rfl fun w4 H u=>no _ _ (by decide) H.bel ?_
  unfold msgE; rw [if_neg (not_not_intro h1),if_neg (not_not_intro h2),if_pos h3]
 refine ⟨_,H.cell 1 3 rfl rfl,?_⟩
 refine ifB (fun h4=>?_) (fun h4=>?_)
 ·
  refine put_msg 0 H rfl rfl fun w4 H u=>no _ _ (by decide) H.bel ?_
  unfold msgE; rw [if_neg (not_not_intro h1),if_neg (not_not_intro h2),if_neg h3,if_pos h4]
 have em:msgE p=icBad p.body:=by unfold msgE; rw [if_neg (not_not_intro h1),if_neg (not_not_intro h2),if_neg h3,if_neg (by rw [h4]; decide)]
 refine ⟨?_⟩
 rw [qq75.j1_eq]
 refine ⟨B,m,d,H.cell 1 10 rfl rfl,?_⟩
 refine call_of (Parse_c (hp.body.bel H.bel) h.body hp.cb) ?_
 rintro e w4 ⟨k4,he⟩
 by_cases h5:icBad p.body=0
 ·
  rw [if_pos h5] at he
  obtain ⟨A',c',rfl,hb,hc,hf⟩:=he
  have ho:=H.old 0 rfl hf
  have hf0:=hf.le H.bel
  replace H:=H.call k4
  refine ⟨_,_,_,_,_,_,_,rfl,?_⟩
  refine put_msg 0 H rfl rfl fun w5 H u=>⟨H.bel,?_⟩
  unfold RetMsg
  rw [em,if_pos h5,lb]
  exact ⟨A',c',rfl,hb.but u ho,hc,hf0⟩
 ·
  rw [if_neg h5] at he
  subst he
  replace H:=H.call k4
  refine ⟨_,_,_,_,_,_,_,rfl,?_⟩
  exact put_msg 0 H rfl rfl fun w5 H u=>no _ _ h5 H.bel em
def RetE (w:World) (k:Int) (q:Pk) (e:Ending) (w':World):Prop:=RetPk w (if k=0 then q else pz) k e w'
theorem RetE.no {w w':World} {k:Int} (q:Pk) (h:k≠0):RetE w k q (.returned (.tuple #[.agg (pb pz none 0 0 none 0 0).toArray,.int .i64 k])) w':=by
 unfold RetE
 rw [if_neg h]
 exact ret_pz w w' k
theorem msgE_zero {p:Pk} (h:msgE p=0):p.err=0∧p.proto=1∧¬ p.off > 0∧p.mf=false∧icBad p.body=0:=by
 unfold msgE at h
 by_cases h1:p.err≠0
 ·
  rw [if_pos h1] at h; exact absurd h h1
 rw [if_neg h1] at h
 by_cases h2:p.proto≠1
 ·
  rw [if_pos h2] at h; omega
 rw [if_neg h2] at h
 by_cases h3:p.off > 0
 ·
  rw [if_pos h3] at h; omega
 rw [if_neg h3] at h
 by_cases h4:p.mf=true
 ·
  rw [if_pos h4] at h; omega
 rw [if_neg h4] at h
 exact ⟨Decidable.of_not_not h1,Decidable.of_not_not h2,h3,by simpa using h4,h⟩
def aboutE (p:Pk):Int:=if msgE p≠0 then msgE p else if faultT (p.body.getD 0 0)=false then 62 else bad false (p.body.drop 8)
def RetAb (w:World) (p:Pk) (e:Ending) (w':World):Prop:=
 if aboutE p=0 then ∃ A1 c1 A2 c2,e=.returned (.tuple #[.agg (hb (p.body.drop 8) A1 (hlen (p.body.drop 8)-20) c1).toArray,.slice A2 (there (p.body.drop 8)-hlen (p.body.drop 8)) c2,.int .i64 0])∧
  By w' A1 (hlen (p.body.drop 8)-20) (((p.body.drop 8).take (hlen (p.body.drop 8))).drop 20)∧By w' A2 (there (p.body.drop 8)-hlen (p.body.drop 8)) (((p.body.drop 8).take (there (p.body.drop 8))).drop (hlen (p.body.drop 8)))∧
  hlen (p.body.drop 8)-20≤c1∧there (p.body.drop 8)-hlen (p.body.drop 8)≤c2∧Fre w A1∧Fre w A2
 else e=.returned (.tuple #[.agg hz.toArray,.slice none 0 0,.int .i64 (aboutE p)])
def RetAbR (w:World) (p:Pk) (e:Ending) (w':World):Prop:=
 if aboutE p=0 then ∃ A1 c1 A2 c2,e=.returned (.tuple #[.agg (hb (p.body.drop 8) A1 (hlen (p.body.drop 8)-20) c1).toArray,.slice A2 (there (p.body.drop 8)-hlen (p.body.drop 8)) c2,.int .i64 0])∧
  By w' A1 (hlen (p.body.drop 8)-20) (((p.body.drop 8).take (hlen (p.body.drop 8))).drop 20)∧By w' A2 (there (p.body.drop 8)-hlen (p.body.drop 8)) (((p.body.drop 8).take (there (p.body.drop 8))).drop (hlen (p.body.drop 8)))∧
  hlen (p.body.drop 8)-20≤c1∧there (p.body.drop 8)-hlen (p.body.drop 8)≤c2∧Fre w A1∧Fre w A2∧Rm2 w' A1 c1 A2 c2
 else e=.returned (.tuple #[.agg hz.toArray,.slice none 0 0,.int .i64 (aboutE p)])
theorem About_r {w:World} (hg:GlF w) {p:Pk} (h:p.Fine) {A:Option Addr} {n c:Nat} {B:Option Addr} {m d:Nat} (hp:PkAt w p A n c B m d):
  Calls Tryz.prog 55 #[.agg (pb p A n c B m d).toArray] w (fun e w'=>Bel w w'∧RetAbR w p e w'):=by
 refine qq85.run ?_
 unfold qq85.s
 refine own_new (l:=pb p A n c B m d) (Own.refl w) fun g1 w1 H=>?_
 refine own_new (l:=hz) H fun g2 w2 H=>?_
 refine ld_pkt (H.bk 1 rfl) ?_
 refine call_of (message_c h (hp.bel H.bel)) ?_
 rintro e w3 ⟨k3,he⟩
 unfold RetMsg at he
 have no:∀ (k:Int) (w':World),k≠0→Bel w w'→aboutE p=k→Bel w w'∧RetAbR w p (.returned (.tuple #[.agg hz.toArray,.slice none 0 0,.int .i64 k])) w':=fun k w' hk hb he=>⟨hb,by unfold RetAbR; rw [he,if_neg hk]⟩
 by_cases h1:msgE p=0
 ·
  rw [if_pos h1] at he
  obtain ⟨M,mc,rfl,hM,hmc,hf⟩:=he
  replace H:=H.call k3
  refine ⟨_,_,_,_,_,_,_,rfl,?_⟩
  refine own_newC (l:=mv 0 0 0 none 0 0) H fun g3 w4 H k4 hg3=>?_
  have hn:=hM.newer hg3
  replace hM:=hM.bel k4
  refine own_putB 0 H rfl rfl (Nat.le_refl 4) fun w5 H u5=>?_
  replace hM:=hM.but1 u5 hn
  refine ifN (fun h=>absurd rfl h) (fun _=>?_)
  refine ⟨_,H.cell 0 0 rfl rfl,?_⟩
  have hb0:=h.body.getD 0
  refine call_of (isFault_c (hg.bel H.bel) (by omega)) ?_
  rintro e w6 ⟨rfl,k6⟩
  replace H:=H.call k6
  replace hM:=hM.bel k6
  refine ⟨_,rfl,?_⟩
  refine ifNot (fun h2=>?_) (fun h2=>?_)
  ·
   refine put_head 1 H rfl rfl fun w6 H u=>no _ _ (by decide) H.bel ?_
   unfold aboutE; rw [if_neg (not_not_intro h1),if_pos h2]
  have ea:aboutE p=bad false (p.body.drop 8):=by unfold aboutE; rw [if_neg (not_not_intro h1),if_neg (by rw [h2]; decide)]
  have hz:=icBad_zero (msgE_zero h1).2.2.2.2
  refine ⟨M,p.body.length-8,mc,H.cell 0 3 rfl rfl,?_⟩
  refine call_of (Peek_r hM (h.body.drop _) hmc (by omega)) ?_
  rintro e w7 ⟨k7,he⟩
  by_cases h3:bad false (p.body.drop 8)=0
  ·
   rw [if_pos h3] at he
   obtain ⟨A1,c1,A2,c2,rfl,b1,b2,l1,l2,f1,f2,r2⟩:=he
   have o1:=H.old 1 rfl f1
   have o2:=H.old 1 rfl f2
   have hb0:=H.bel
   replace H:=H.call k7
   refine ⟨_,_,_,_,_,_,_,_,_,_,_,_,_,_,_,_,rfl,?_⟩
   refine put_head 1 H rfl rfl fun w8 H u8=>⟨H.bel,?_⟩
   unfold RetAbR
   rw [ea,if_pos h3]
   exact ⟨A1,c1,A2,c2,rfl,b1.but u8 o1,b2.but u8 o2,l1,l2,f1.le hb0,f2.le hb0,r2.but u8 o1 o2⟩
  ·
   rw [if_neg h3] at he
   subst he
   replace H:=H.call k7
   refine ⟨_,_,_,_,_,_,_,_,_,_,_,_,_,_,_,_,rfl,?_⟩
   exact put_head 1 H rfl rfl fun w8 H u8=>no _ _ h3 H.bel ea
 ·
  rw [if_neg h1] at he
  subst he
  replace H:=H.call k3
  refine ⟨_,_,_,_,_,_,_,rfl,?_⟩
  refine own_new (l:=mv 0 0 0 none 0 0) H fun g3 w4 H=>?_
  refine own_put 0 H rfl rfl (Nat.le_refl 4) fun w5 H=>?_
  refine ifN (fun _=>?_) (fun h=>absurd h h1)
  refine put_head 1 H rfl rfl fun w6 H u=>no _ _ h1 H.bel ?_
  unfold aboutE; rw [if_pos h1]
end Go.Proofs.YtphbdmafchjjeaaGreatDoorS
