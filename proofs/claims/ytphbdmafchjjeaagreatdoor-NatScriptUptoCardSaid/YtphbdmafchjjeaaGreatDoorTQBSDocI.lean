import Derived.Test.YtphbdmafchjjeaaGreatDoorTQBSDocGM
import Derived.Test.YtphbdmafchjjeaaGreatDoorTQBSFQ
namespace Go.Proofs.YtphbdmafchjjeaaGreatDoorS
open Go Go.RowKit Go.Proofs Go.Proofs.YtphbdmafchjjeaaGreatDoorX
set_option maxRecDepth 100000
set_option linter.unusedVariables false
set_option linter.unusedSectionVars false
set_option linter.unusedSimpArgs false
theorem own_buf {w a b:World} {L:List Blk} {A:Option Addr} {n c:Nat} {l:List Int} (h:Own w a L) (q:Buf a b [] A n c l):∃ o:Option Blk,Own w b (o.toList++L)∧SL o A n c l:=by
 obtain ⟨o,h2,k⟩:=buf_sl q
 rw [List.append_nil] at h2
 exact ⟨o,h.join h2,k⟩
theorem perm2 {α:Type} (o X:List α) (a b:α):(o++(a::b::X)).Perm (a::b::(o++X)):=List.perm_middle.trans (List.perm_middle.cons _)
abbrev lists23 (o:NOp):List LC:=[⟨o.B,o.m,o.d,o.p.body⟩,⟨o.A,o.n,o.c,o.p.opts⟩]
structure NX (o:NOp) (l:List (Int×Int)) (os:List (Option Blk)) (oL:Option Blk):Prop where
 ls:SLs os (lists23 o)
 rv:RV 65 2 oL o.L o.ln o.lc (bvs l)
 ll:l.length=o.ln
structure NF (o:NOp) (l:List (Int×Int)):Prop where
 p:o.p.Fine
 t:o.t.Fine
 bf:FineB l
 pt:o.pt≤65535
 n6:o.n≤2000000
 m6:o.m≤2000000
 l6:o.ln≤500000
theorem OpF.nf {w:World} {o:NOp} {l:List (Int×Int)} (h:OpF w o l):NF o l:=⟨h.p,h.t,h.bf,h.pt,h.n6,h.m6,h.l6⟩
section
variable {w0 w:World} {R:List Blk} {os:List (Option Blk)} {oL:Option Blk} {o:NOp} {l:List (Int×Int)}
theorem nx_at (h:Own w0 w (Bls os++(oL.toList++R))) (x:NX o l os oL) (f:NF o l):OpF w o l∧o.ln≤o.lc:=by
 have b0:=SLs.by h x.ls (i:=0) rfl
 have b1:=SLs.by h x.ls (i:=1) rfl
 have h2:Own w0 w (oL.toList++(Bls os++R)):=h.perm (List.perm_append_comm_assoc _ _ _)
 have b2:BL w0 w (Bls os++R) o.L o.ln o.lc l:=⟨oL,⟨h2,fun x hx=>by cases hx⟩,x.rv,x.ll⟩
 exact ⟨⟨f.p,⟨b1.1,b0.1,b1.2,b0.2⟩,f.t,b2.bks.1,f.bf,f.pt,f.n6,f.m6,f.l6⟩,b2.bks.2⟩
end
def RetX (w:World) (o:NOp) (l:List (Int×Int)) (e:Ending) (w':World):Prop:=∃ (o':NOp) (os:List (Option Blk)) (oL:Option Blk),
 e=.returned (.agg (nov o').toArray)∧Own w w' (Bls os++(oL.toList++[]))∧NX o' l os oL∧NF o' l∧o'.k=o.k∧o'.p=o.p∧o'.t=o.t∧o'.src=o.src∧o'.dst=o.dst
def RetTx (w:World) (p:Pk) (n m:Nat) (e:Ending) (w':World):Prop:=∃ (A:Option Addr) (c:Nat) (B:Option Addr) (d:Nat) (os:List (Option Blk)),e=.returned (.agg (pb p A n c B m d).toArray)∧Own w w' (Bls os)∧SLs os [⟨B,m,d,p.body⟩,⟨A,n,c,p.opts⟩]
theorem twin_x {w:World} {p:Pk} {A:Option Addr} {n c:Nat} {B:Option Addr} {m d:Nat} (hp:PkAt w p A n c B m d) (hn:n≤10000000000000) (hm:m≤10000000000000):Calls Tryz.prog 28 #[.agg (pb p A n c B m d).toArray] w (RetTx w p n m):=by
 refine qq55.run ?_
 unfold qq55.s
 refine own_new (l:=pb p A n c B m d) (Own.refl w) fun g1 w2 H=>?_
 refine own_new (l:=pb pz none 0 0 none 0 0) H fun g3 w4 H=>?_
 refine ⟨A,n,c,H.cell 1 9 rfl rfl,?_⟩
 refine call_of (clonel_c (hp.opts.bel H.bel) hn) ?_
 rintro e w6 ⟨A8,c8,rfl,q⟩
 refine ⟨_,_,_,rfl,?_⟩
 obtain ⟨o1,H1,t1⟩:=own_buf H q
 replace H1:=H1.perm (perm2 _ _ _ _)
 refine own_set 1 H1 rfl (Nat.lt_of_lt_of_le (by decide:9 < 11) (Nat.le_refl 11)) fun w9 H=>?_
 replace H:Own w w9 ((g3,37,pb pz none 0 0 none 0 0)::(g1,37,pb p A8 n c8 B m d)::(o1.toList++[])):=H
 refine ⟨B,m,d,H.cell 1 10 rfl rfl,?_⟩
 refine call_of (clonel_c (hp.body.bel H.bel) hm) ?_
 rintro e w11 ⟨A13,c13,rfl,q2⟩
 refine ⟨_,_,_,rfl,?_⟩
 obtain ⟨o2,H1,t2⟩:=own_buf H q2
 replace H1:=H1.perm (perm2 _ _ _ _)
 refine own_set 1 H1 rfl (Nat.lt_of_lt_of_le (by decide:10 < 11) (Nat.le_refl 11)) fun w14 H=>?_
 replace H:Own w w14 ((g3,37,pb pz none 0 0 none 0 0)::(g1,37,pb p A8 n c8 A13 m c13)::(o2.toList++(o1.toList++[]))):=H
 refine ld_pkt (H.bk 1 rfl) ?_
 refine own_put (vs:=pb p A8 n c8 A13 m c13) 0 H rfl rfl (Nat.le_refl 11) fun w26 H5=>?_
 refine ld_pkt (a0:=p.tos) (H5.bk 0 rfl) ?_
 exact ⟨A8,c8,A13,c13,[o2,o1],rfl,H5.tail.tail,SLs.cons (x:=⟨A13,m,c13,p.body⟩) t2 (SLs.cons (x:=⟨A8,n,c8,p.opts⟩) t1 SLs.nil)⟩
theorem perm_bx {α:Type} (q X:List α) (a b:α):((q++[])++(a::b::(X++[]))).Perm (a::b::(X++(q++[]))):=by
 have e:((q++[])++(X++[])).Perm (X++(q++[])):=by
  rw [List.append_nil,List.append_nil]
  exact List.perm_append_comm
 exact (perm2 _ _ _ _).trans ((e.cons _).cons _)
theorem alone23_t {w:World} {o:NOp} {l:List (Int×Int)} (h:OpF w o l):Calls Tryz.prog 10 #[.agg (nov o).toArray] w (RetX w o l):=by
 have n6:=h.n6
 have m6:=h.m6
 have l6:=h.l6
 have hll:=h.bk.1
 refine qq29.run ?_
 unfold qq29.s
 refine own_new (l:=nov o) (Own.refl w) fun g1 w2 H=>?_
 refine own_new (l:=noz) H fun g3 w4 H=>?_
 refine ⟨_,_,_,_,_,_,_,_,_,_,_,_,_,_,_,⟨rfl,nov_pkt (H.bk 1 rfl)⟩,?_⟩
 refine call_of (twin_x (h.pa.bel H.bel) (by omega) (by omega)) ?_
 rintro e w6 ⟨A1,c1,B1,d1,os,rfl,HX,sl⟩
 refine ⟨_,_,_,_,_,_,_,_,_,_,_,_,_,_,_,rfl,?_⟩
 have H1:=(Own.join H HX).perm (perm2 _ _ _ _)
 refine own_put (vs:=pb o.p A1 o.n c1 B1 o.m d1) 1 H1 rfl rfl (by show 13≤23; decide) fun w29 H2=>?_
 replace H2:Own w w29 ((g3,42,noz)::(g1,42,nov { o with A:=A1,c:=c1,B:=B1,d:=d1 })::(Bls os++[])):=H2
 refine ⟨o.L,o.ln,o.lc,H2.cell 1 20 rfl rfl,?_⟩
 refine call_of (backs_c (h.bk.bel H2.bel) (by omega)) ?_
 rintro e w31 ⟨A2,c2,rfl,oL,HB,rv,_⟩
 refine ⟨_,_,_,rfl,?_⟩
 have H3:=(Own.join H2 HB.own).perm (perm_bx _ _ _ _)
 refine own_set 1 H3 rfl (Nat.lt_of_lt_of_le (by decide:20 < 23) (Nat.le_refl 23)) fun w34 H4=>?_
 replace H4:Own w w34 ((g3,42,noz)::(g1,42,nov { o with A:=A1,c:=c1,B:=B1,d:=d1,L:=A2,ln:=l.length,lc:=c2 })::(Bls os++(oL.toList++[]))):=H4
 refine ⟨_,_,_,_,_,_,_,_,_,_,_,_,_,_,_,_,_,_,_,_,_,_,_,_,_,_,_,_,_,⟨rfl,(H4.bk 1 rfl).at⟩,?_⟩
 refine own_put 0 H4 rfl rfl (Nat.le_refl 23) fun w5 H5=>?_
 rw [splice_all _ _ (by rfl)] at H5
 refine ⟨_,_,_,_,_,_,_,_,_,_,_,_,_,_,_,_,_,_,_,_,_,_,_,_,_,_,_,_,_,⟨rfl,(H5.bk 0 rfl).at⟩,?_⟩
 exact ⟨{ o with A:=A1,c:=c1,B:=B1,d:=d1,L:=A2,ln:=l.length,lc:=c2 },os,oL,rfl,H5.tail.tail,⟨sl,rv,rfl⟩,⟨h.p,h.t,h.bf,h.pt,n6,m6,by show l.length≤500000; omega⟩,rfl,rfl,rfl,rfl,rfl⟩
structure Tld where
 p:Pk
 n:Int
 e:Int
def tnv (T:Tld) (A:Option Addr) (n c:Nat) (B:Option Addr) (m d:Nat):List Value:=[.int .u8 T.p.tos,.int .u16 T.p.id,.bool T.p.df,.bool T.p.mf,.int .i64 T.p.off,.int .u8 T.p.ttl,.int .u8 T.p.proto,.int .u32 T.p.src,.int .u32 T.p.dst,.slice A n c,.slice B m d,.int .i64 T.n,.int .i64 T.e]
abbrev tz:List Value:=[.int .u8 0,.int .u16 0,.bool false,.bool false,.int .i64 0,.int .u8 0,.int .u8 0,.int .u32 0,.int .u32 0,.slice none 0 0,.slice none 0 0,.int .i64 0,.int .i64 0]
theorem tn_pkt {w:World} {g t:Nat} {T:Tld} {A:Option Addr} {n c:Nat} {B:Option Addr} {m d:Nat} (h:Bk w g t (tnv T A n c B m d)):At w ⟨g,0,none⟩ (pb T.p A n c B m d):=at_mid [] (mid:=pb T.p A n c B m d) (post:=[.int .i64 T.n,.int .i64 T.e]) h rfl
def RetT (w:World) (T:Tld) (e:Ending) (w':World):Prop:=Bel w w'∧∃ A n c B m d,e=.returned (.agg (tnv T A n c B m d).toArray)∧PkAt w' T.p A n c B m d∧Fre w A∧Fre w B
def tldN (o:NOp) (l:List (Int×Int)):Tld:=
 if o.k=1 then ⟨turnO o.p o.t,0,turnE o.p o.t⟩ else if o.k=2 then ⟨tfO o.p o.t o.src o.dst,0,tfE o.p o.t⟩ else if o.k=3 then ⟨pz,pickI o.t l,pickE l⟩ else ⟨pz,0,0⟩
theorem tld_eq {o o':NOp} {l:List (Int×Int)} (h1:o'.k=o.k) (h2:o'.p=o.p) (h3:o'.t=o.t) (h4:o'.src=o.src) (h5:o'.dst=o.dst):tldN o' l=tldN o l:=by
 unfold tldN
 rw [h1,h2,h3,h4,h5]
theorem tld_len {w w':World} {o:NOp} {l:List (Int×Int)} (f:OpF w o l) {A:Option Addr} {n c:Nat} {B:Option Addr} {m d:Nat} (h:PkAt w' (tldN o l).p A n c B m d):n≤2000000∧m≤2000000:=by
 have lo:=f.pa.opts.len
 have lb:=f.pa.body.len
 have n6:=f.n6
 have m6:=f.m6
 have z:PkAt w' pz A n c B m d→n≤2000000∧m≤2000000:=fun h=>by
  have e1:=h.opts.len
  have e2:=h.body.len
  have e3:pz.opts.length=0:=rfl
  have e4:pz.body.length=0:=rfl
  omega
 unfold tldN at h
 split at h
 ·
  exact turnO_len h (by omega) (by omega)
 split at h
 ·
  exact tfO_len f.p f.t h (by omega)
 split at h
 ·
  exact z h
 ·
  exact z h
section
variable {w:World} {o:NOp} {l:List (Int×Int)}
theorem ran23_t (hg:GlF w) (h:OpF w o l) (hlc:o.ln≤o.lc):Calls Tryz.prog 11 #[.agg (nov o).toArray] w (RetT w (tldN o l)):=by
 refine qq62.run ?_
 unfold qq62.s
 refine own_new (l:=nov o) (Own.refl w) fun g1 w2 H=>?_
 refine own_new (l:=tz) H fun g3 w4 H=>?_
 refine ⟨o.k,H.cell 1 0 rfl rfl,?_⟩
 unfold tldN
 refine ifE (fun hk=>?_) (fun hk=>?_)
 ·
  rw [if_pos hk]
  refine ⟨_,_,_,_,_,_,_,_,_,_,_,_,_,_,_,⟨rfl,nov_pkt (H.bk 1 rfl)⟩,?_⟩
  refine ⟨_,_,_,_,_,⟨rfl,nov_tup (H.bk 1 rfl)⟩,?_⟩
  refine call_of (Turn_c h.p h.t (h.pa.bel H.bel)) ?_
  rintro e w22 ⟨k22,A1,n1,c1,B1,m1,d1,rfl,y1,f1,f2⟩
  have o1:=H.old 0 rfl f1
  have o2:=H.old 0 rfl f2
  replace f1:=f1.le H.bel
  replace f2:=f2.le H.bel
  replace H:=H.call k22
  refine ⟨_,_,_,_,_,_,_,_,_,_,_,_,_,_,_,_,rfl,?_⟩
  generalize turnO o.p o.t=q at *
  refine own_mk (pb pz none 0 0 none 0 0) H rfl rfl fun g4 w5 H k5 _=>?_
  replace y1:=y1.bel k5
  replace H:Own w w5 [(g4,37,pb q A1 n1 c1 B1 m1 d1),(g3,51,tz),(g1,42,nov o)]:=H
  refine ld_pkt (H.bk 0 rfl) ?_
  refine own_putB 1 H rfl rfl (Nat.le_refl 13) fun w6 H6 u=>?_
  replace H6:Own w w6 [(g4,37,pb q A1 n1 c1 B1 m1 d1),(g3,51,tnv ⟨q,0,turnE o.p o.t⟩ A1 n1 c1 B1 m1 d1),(g1,42,nov o)]:=H6
  refine ⟨_,_,_,_,_,_,_,_,_,_,_,_,_,_,_,_,_,⟨rfl,(H6.bk 1 rfl).at⟩,?_⟩
  exact ⟨H6.bel,A1,n1,c1,B1,m1,d1,rfl,y1.but u o1 o2,f1,f2⟩
 rw [if_neg hk]
 refine ifE (fun hk=>?_) (fun hk=>?_)
 ·
  rw [if_pos hk]
  refine ⟨_,_,_,_,_,_,_,_,_,_,_,_,_,_,_,⟨rfl,nov_pkt (H.bk 1 rfl)⟩,?_⟩
  refine ⟨o.src,H.cell 1 18 rfl rfl,o.dst,H.cell 1 19 rfl rfl,?_⟩
  refine ⟨_,_,_,_,_,⟨rfl,nov_tup (H.bk 1 rfl)⟩,?_⟩
  refine call_of (TurnFault_c (hg.bel H.bel) h.p h.t o.src o.dst (h.pa.bel H.bel)) ?_
  rintro e w22 ⟨k22,A1,n1,c1,B1,m1,d1,rfl,y1,f1,f2⟩
  have o1:=H.old 0 rfl f1
  have o2:=H.old 0 rfl f2
  replace f1:=f1.le H.bel
  replace f2:=f2.le H.bel
  replace H:=H.call k22
  refine ⟨_,_,_,_,_,_,_,_,_,_,_,_,_,_,_,_,rfl,?_⟩
  generalize tfO o.p o.t o.src o.dst=q at *
  refine own_mk (pb pz none 0 0 none 0 0) H rfl rfl fun g4 w5 H k5 _=>?_
  replace y1:=y1.bel k5
  replace H:Own w w5 [(g4,37,pb q A1 n1 c1 B1 m1 d1),(g3,51,tz),(g1,42,nov o)]:=H
  refine ld_pkt (H.bk 0 rfl) ?_
  refine own_putB 1 H rfl rfl (Nat.le_refl 13) fun w6 H6 u=>?_
  replace H6:Own w w6 [(g4,37,pb q A1 n1 c1 B1 m1 d1),(g3,51,tnv ⟨q,0,tfE o.p o.t⟩ A1 n1 c1 B1 m1 d1),(g1,42,nov o)]:=H6
  refine ⟨_,_,_,_,_,_,_,_,_,_,_,_,_,_,_,_,_,⟨rfl,(H6.bk 1 rfl).at⟩,?_⟩
  exact ⟨H6.bel,A1,n1,c1,B1,m1,d1,rfl,y1.but u o1 o2,f1,f2⟩
 rw [if_neg hk]
 refine ifE (fun hk=>?_) (fun hk=>?_)
 ·
  rw [if_pos hk]
  refine ⟨_,_,_,_,_,⟨rfl,nov_tup (H.bk 1 rfl)⟩,?_⟩
  refine ⟨o.L,o.ln,o.lc,H.cell 1 20 rfl rfl,?_⟩
  refine call_of (Pick_c (h.bk.bel H.bel) hlc) ?_
  rintro e w22 ⟨rfl,k22⟩
  replace H:=H.call k22
  refine ⟨_,_,rfl,?_⟩
  refine own_putB 0 H rfl rfl (Nat.le_refl 13) fun w6 H6 u=>?_
  replace H6:Own w w6 [(g3,51,tnv ⟨pz,pickI o.t l,pickE l⟩ none 0 0 none 0 0),(g1,42,nov o)]:=H6
  refine ⟨_,_,_,_,_,_,_,_,_,_,_,_,_,_,_,_,_,⟨rfl,(H6.bk 0 rfl).at⟩,?_⟩
  exact ⟨H6.bel,none,0,0,none,0,0,rfl,pz_at _,Fre.nil _,Fre.nil _⟩
 rw [if_neg hk]
 refine own_putB 0 H rfl rfl (Nat.le_refl 13) fun w6 H6 u=>?_
 replace H6:Own w w6 [(g3,51,tnv ⟨pz,0,0⟩ none 0 0 none 0 0),(g1,42,nov o)]:=H6
 refine ⟨_,_,_,_,_,_,_,_,_,_,_,_,_,_,_,_,_,⟨rfl,(H6.bk 0 rfl).at⟩,?_⟩
 exact ⟨H6.bel,none,0,0,none,0,0,rfl,pz_at _,Fre.nil _,Fre.nil _⟩
theorem meant23_t (h0:OpF w o l):Calls Tryz.prog 12 #[.agg (nov o).toArray] w (RetT w (tldN o l)):=by
 refine qq39.run ?_
 unfold qq39.s
 refine own_new (l:=nov o) (Own.refl w) fun g1 w2 H=>?_
 refine own_new (l:=tz) H fun g3 w4 H=>?_
 refine ⟨_,_,_,_,_,_,_,_,_,_,_,_,_,_,_,_,_,_,_,_,_,_,_,_,_,_,_,_,_,⟨rfl,(H.bk 1 rfl).at⟩,?_⟩
 refine call_of (alone23_t (h0.bel H.bel)) ?_
 rintro e w28 ⟨o',os,oL,rfl,HX,xo,nf,e1,e2,e3,e4,e5⟩
 have h:OpF w28 o' l:=(nx_at HX xo nf).1
 replace H:=H.call HX.bel
 rw [← tld_eq e1 e2 e3 e4 e5]
 clear e1 e2 e3 e4 e5 h0
 refine ⟨_,_,_,_,_,_,_,_,_,_,_,_,_,_,_,_,_,_,_,_,_,_,_,_,_,_,_,_,_,rfl,?_⟩
 refine own_mk noz H rfl rfl fun g5 w55 H k5 _=>?_
 replace h:=h.bel k5
 replace H:Own w w55 [(g5,42,nov o'),(g3,51,tz),(g1,42,nov o)]:=H
 refine ⟨o'.k,H.cell 0 0 rfl rfl,?_⟩
 unfold tldN
 refine ifE (fun hk=>?_) (fun hk=>?_)
 ·
  rw [if_pos hk]
  refine ⟨_,_,_,_,_,_,_,_,_,_,_,_,_,_,_,⟨rfl,nov_pkt (H.bk 0 rfl)⟩,?_⟩
  refine ⟨_,_,_,_,_,⟨rfl,nov_tup (H.bk 0 rfl)⟩,?_⟩
  refine call_of (Turn23_c h.p h.t h.pa) ?_
  rintro e w22 ⟨k22,A1,n1,c1,B1,m1,d1,rfl,y1,f1,f2⟩
  have o1:=H.old 1 rfl f1
  have o2:=H.old 1 rfl f2
  replace f1:=f1.le H.bel
  replace f2:=f2.le H.bel
  replace H:=H.call k22
  refine ⟨_,_,_,_,_,_,_,_,_,_,_,_,_,_,_,_,rfl,?_⟩
  generalize turnO o'.p o'.t=q at *
  refine own_mk (pb pz none 0 0 none 0 0) H rfl rfl fun g4 w5 H k5 _=>?_
  replace y1:=y1.bel k5
  replace H:Own w w5 [(g4,37,pb q A1 n1 c1 B1 m1 d1),(g5,42,nov o'),(g3,51,tz),(g1,42,nov o)]:=H
  refine ld_pkt (H.bk 0 rfl) ?_
  refine own_putB 2 H rfl rfl (Nat.le_refl 13) fun w6 H6 u=>?_
  replace H6:Own w w6 [(g4,37,pb q A1 n1 c1 B1 m1 d1),(g5,42,nov o'),(g3,51,tnv ⟨q,0,turnE o'.p o'.t⟩ A1 n1 c1 B1 m1 d1),(g1,42,nov o)]:=H6
  refine ⟨_,_,_,_,_,_,_,_,_,_,_,_,_,_,_,_,_,⟨rfl,(H6.bk 2 rfl).at⟩,?_⟩
  exact ⟨H6.bel,A1,n1,c1,B1,m1,d1,rfl,y1.but u o1 o2,f1,f2⟩
 rw [if_neg hk]
 refine ifE (fun hk=>?_) (fun hk=>?_)
 ·
  rw [if_pos hk]
  refine ⟨_,_,_,_,_,_,_,_,_,_,_,_,_,_,_,⟨rfl,nov_pkt (H.bk 0 rfl)⟩,?_⟩
  refine ⟨o'.src,H.cell 0 18 rfl rfl,o'.dst,H.cell 0 19 rfl rfl,?_⟩
  refine ⟨_,_,_,_,_,⟨rfl,nov_tup (H.bk 0 rfl)⟩,?_⟩
  refine call_of (TurnFault23_c h.p h.t o'.src o'.dst h.pa) ?_
  rintro e w22 ⟨k22,A1,n1,c1,B1,m1,d1,rfl,y1,f1,f2⟩
  have o1:=H.old 1 rfl f1
  have o2:=H.old 1 rfl f2
  replace f1:=f1.le H.bel
  replace f2:=f2.le H.bel
  replace H:=H.call k22
  refine ⟨_,_,_,_,_,_,_,_,_,_,_,_,_,_,_,_,rfl,?_⟩
  generalize tfO o'.p o'.t o'.src o'.dst=q at *
  refine own_mk (pb pz none 0 0 none 0 0) H rfl rfl fun g4 w5 H k5 _=>?_
  replace y1:=y1.bel k5
  replace H:Own w w5 [(g4,37,pb q A1 n1 c1 B1 m1 d1),(g5,42,nov o'),(g3,51,tz),(g1,42,nov o)]:=H
  refine ld_pkt (H.bk 0 rfl) ?_
  refine own_putB 2 H rfl rfl (Nat.le_refl 13) fun w6 H6 u=>?_
  replace H6:Own w w6 [(g4,37,pb q A1 n1 c1 B1 m1 d1),(g5,42,nov o'),(g3,51,tnv ⟨q,0,tfE o'.p o'.t⟩ A1 n1 c1 B1 m1 d1),(g1,42,nov o)]:=H6
  refine ⟨_,_,_,_,_,_,_,_,_,_,_,_,_,_,_,_,_,⟨rfl,(H6.bk 2 rfl).at⟩,?_⟩
  exact ⟨H6.bel,A1,n1,c1,B1,m1,d1,rfl,y1.but u o1 o2,f1,f2⟩
 rw [if_neg hk]
 refine ifE (fun hk=>?_) (fun hk=>?_)
 ·
  rw [if_pos hk]
  refine ⟨_,_,_,_,_,⟨rfl,nov_tup (H.bk 0 rfl)⟩,?_⟩
  refine ⟨o'.L,o'.ln,o'.lc,H.cell 0 20 rfl rfl,?_⟩
  refine call_of (Pick23_c h.t h.bf h.bk) ?_
  rintro e w22 ⟨rfl,k22⟩
  replace H:=H.call k22
  refine ⟨_,_,rfl,?_⟩
  refine own_putB 1 H rfl rfl (Nat.le_refl 13) fun w6 H6 u=>?_
  replace H6:Own w w6 [(g5,42,nov o'),(g3,51,tnv ⟨pz,pickI o'.t l,pickE l⟩ none 0 0 none 0 0),(g1,42,nov o)]:=H6
  refine ⟨_,_,_,_,_,_,_,_,_,_,_,_,_,_,_,_,_,⟨rfl,(H6.bk 1 rfl).at⟩,?_⟩
  exact ⟨H6.bel,none,0,0,none,0,0,rfl,pz_at _,Fre.nil _,Fre.nil _⟩
 rw [if_neg hk]
 refine own_putB 1 H rfl rfl (Nat.le_refl 13) fun w6 H6 u=>?_
 replace H6:Own w w6 [(g5,42,nov o'),(g3,51,tnv ⟨pz,0,0⟩ none 0 0 none 0 0),(g1,42,nov o)]:=H6
 refine ⟨_,_,_,_,_,_,_,_,_,_,_,_,_,_,_,_,_,⟨rfl,(H6.bk 1 rfl).at⟩,?_⟩
 exact ⟨H6.bel,none,0,0,none,0,0,rfl,pz_at _,Fre.nil _,Fre.nil _⟩
end
theorem agree23_t {w:World} {T:Tld} {A:Option Addr} {n c:Nat} {B:Option Addr} {m d:Nat} {A':Option Addr} {n' c':Nat} {B':Option Addr} {m' d':Nat} (h:PkAt w T.p A n c B m d) (h':PkAt w T.p A' n' c' B' m' d') (hn:n≤2000000) (hm:m≤2000000):
  Calls Tryz.prog 13 #[.agg (tnv T A n c B m d).toArray,.agg (tnv T A' n' c' B' m' d').toArray] w (Yes w):=by
 refine qq24.run ?_
 unfold qq24.s
 refine own_new (l:=tnv T A n c B m d) (Own.refl w) fun g1 w1 H=>?_
 refine own_new (l:=tnv T A' n' c' B' m' d') H fun g2 w2 H=>?_
 refine ⟨_,H.cell 1 11 rfl rfl,_,H.cell 0 11 rfl rfl,ifE (fun _=>?_) (fun h=>absurd rfl h)⟩
 refine ⟨_,H.cell 1 12 rfl rfl,_,H.cell 0 12 rfl rfl,ifE (fun _=>?_) (fun h=>absurd rfl h)⟩
 refine ⟨_,_,_,_,_,_,_,_,_,_,_,_,_,_,_,⟨rfl,tn_pkt (H.bk 1 rfl)⟩,?_⟩
 refine ⟨_,_,_,_,_,_,_,_,_,_,_,_,_,_,_,⟨rfl,tn_pkt (H.bk 0 rfl)⟩,?_⟩
 refine call_of (npackets_t (h.bel H.bel) (h'.bel H.bel) (by omega) (by omega)) ?_
 rintro e w3 ⟨rfl,k3⟩
 exact ⟨_,rfl,rfl,H.bel.trans k3⟩
end Go.Proofs.YtphbdmafchjjeaaGreatDoorS
