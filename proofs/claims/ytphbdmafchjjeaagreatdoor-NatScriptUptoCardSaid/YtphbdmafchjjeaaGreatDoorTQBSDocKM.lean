import Derived.Test.YtphbdmafchjjeaaGreatDoorTQBSDocJ
import Derived.Test.YtphbdmafchjjeaaGreatDoorTQBSRowZ
namespace Go.Proofs.YtphbdmafchjjeaaGreatDoorS
open Go Go.RowKit Go.Proofs Go.Proofs.YtphbdmafchjjeaaGreatDoorX
set_option maxRecDepth 100000
set_option linter.unusedVariables false
set_option linter.unusedSectionVars false
set_option linter.unusedSimpArgs false
def bO:Option BP→List Blk
 | none=>[]
 | some x=>nPB x++dpB x
def FA (w0 w:World) (ob:Option BP):Prop:=∀ x,ob=some x→MapF w x∧FX w0 x
theorem FA.mk {w0 w w':World} {ob:Option BP} (h:FA w0 w ob) (m:Mk w w'):FA w0 w' ob:=fun x hx=>⟨(h x hx).1.mk m,(h x hx).2⟩
theorem counts_o {w0 w:World} (hT:Tab w0) {ob:Option BP} {Y:List Blk} {cs:List Lst} (H:OF w0 w (Y++bO ob) cs) (fa:FA w0 w ob) (hl:∀ x,ob=some x→x.l.length≤1000000) {o:NOp} (hpt:o.pt≤65535) {Q:Ending→World→Prop}
  (hQ:∀ w' (ob':Option BP),OF w0 w' (Y++bO ob') cs→FA w0 w' ob'→pts2 ob'=pts2 ob→(∀ x,ob'=some x→∃ z,ob=some z∧x.l.length≤z.l.length+1)→Q (.returned (.bool true)) w'):
  Calls Tryz.prog 7 #[.agg (pts2 ob).toArray,.agg (nov o).toArray] w Q:=by
 cases ob with
 | none=>
  refine (counts_nil w (o:=o)).mono fun e w' he=>?_
  obtain ⟨rfl,k⟩:=he
  exact hQ w' none (H.call k) (fun x hx=>by cases hx) rfl (fun x hx=>by cases hx)
 | some x=>
  have f:=fa x rfl
  have p:(Y++bO (some x)).Perm (nPB x++(dpB x++Y)):=by
   show (Y++(nPB x++dpB x)).Perm _
   rw [← List.append_assoc (nPB x)]
   exact List.perm_append_comm
  have B:BF w0 w x Y cs:=⟨H.perm p,f.1,f.2⟩
  refine counts_c hT B (hl x rfl) hpt fun w' y hB hs hl2 hm=>?_
  have p2:(nPB y++(dpB y++Y)).Perm (Y++bO (some y)):=by
   show (nPB y++(dpB y++Y)).Perm (Y++(nPB y++dpB y))
   rw [← List.append_assoc (nPB y)]
   exact List.perm_append_comm
  refine hQ w' (some y) (hB.of.perm p2) (fun z hz=>?_) hs.pts (fun z hz=>?_)
  ·
   injection hz with hz
   subst hz
   exact ⟨hB.mp,hB.fx⟩
  ·
   injection hz with hz
   subst hz
   exact ⟨x,rfl,hl2⟩
structure Ad where
 A:Option Addr
 n:Nat
 c:Nat
 B:Option Addr
 m:Nat
 d:Nat
def Ad.v (a:Ad) (T:Tld):List Value:=tnv T a.A a.n a.c a.B a.m a.d
def Ad.ls (a:Ad) (T:Tld):List Lst:=[(a.A,a.n,T.p.opts),(a.B,a.m,T.p.body)]
structure Ad.Cap (a:Ad):Prop where
 n:a.n≤a.c
 m:a.m≤a.d
 n2:a.n≤2000000
 m2:a.m≤2000000
structure En where
 T:Tld
 x:Ad
 y:Ad
def En.a (e:En):List Value:=e.x.v e.T
def En.w (e:En):List Value:=e.y.v e.T
theorem En.a_len (e:En):e.a.length=13:=rfl
theorem En.w_len (e:En):e.w.length=13:=rfl
structure En.Ok (e:En) (cs:List Lst):Prop where
 a:e.x.ls e.T⊆cs
 w:e.y.ls e.T⊆cs
 ca:e.x.Cap
 cw:e.y.Cap
theorem En.Ok.mono {e:En} {cs cs':List Lst} (h:e.Ok cs) (k:cs⊆cs'):e.Ok cs':=⟨fun x hx=>k (h.a hx),fun x hx=>k (h.w hx),h.ca,h.cw⟩
theorem OF.tk {w0 w:World} {L:List Blk} {cs:List Lst} {a:Ad} {T:Tld} (h:OF w0 w L cs) (k:a.ls T⊆cs) (c:a.Cap):PkAt w T.p a.A a.n a.c a.B a.m a.d:=
 ⟨(h.fz _ (k (List.mem_cons_self))).1,(h.fz _ (k (List.mem_cons_of_mem _ List.mem_cons_self))).1,c.n,c.m⟩
theorem OF.adds {w0 w w':World} {L:List Blk} {cs:List Lst} {T:Tld} {a:Ad} (h:OF w0 w L cs) (k:Bel w w') (y:PkAt w' T.p a.A a.n a.c a.B a.m a.d) (f1:Fre w a.A) (f2:Fre w a.B):OF w0 w' L (a.ls T++cs):=
 ((h.call k).add (x:=(a.B,a.m,T.p.body)) y.body (fun _=>h.new_ne f2)).add (x:=(a.A,a.n,T.p.opts)) y.opts (fun _=>h.new_ne f1)
theorem permH4 {α:Type} (o X:List α) (a b c d:α):(o++(a::b::c::d::X)).Perm (a::b::c::d::(o++X)):=List.perm_append_comm_assoc o [a,b,c,d] X
theorem eqTT {α:Type} (a b c d:α) (L W X K T:List α):(a::b::c::d::(L++(W++(X++K))))++T=a::b::c::d::(L++(W++(X++(K++T)))):=by simp
theorem pR2 {α:Type} (a b:α) (L W X K T:List α):(a::b::(L++(W++(X++(K++T))))).Perm (X++(K++(a::b::(L++(W++T))))):=by
 have e1:a::b::(L++(W++(X++(K++T))))=(a::b::(L++W))++((X++K)++T):=by simp
 have e2:X++(K++(a::b::(L++(W++T))))=(X++K)++((a::b::(L++W))++T):=by simp
 rw [e1,e2]
 exact List.perm_append_comm_assoc _ _ _
theorem pX2 {α:Type} (a b:α) (L W X K Y M T:List α):((Y++(M++[]))++(a::b::(L++(W++(X++(K++T)))))).Perm (X++(K++(a::b::(L++(W++(Y++(M++T))))))):=by
 have e1:(Y++(M++[]))++(a::b::(L++(W++(X++(K++T)))))=(Y++M)++((a::b::(L++W))++((X++K)++T)):=by simp
 have e2:X++(K++(a::b::(L++(W++(Y++(M++T))))))=(X++K)++((a::b::(L++W))++((Y++M)++T)):=by simp
 rw [e1,e2]
 exact ((List.perm_append_comm_assoc _ _ _).append_left _).trans ((List.perm_append_comm_assoc _ _ _).trans ((List.perm_append_comm_assoc _ _ _).append_left _))
abbrev sB (g13 g9:Nat) (o:NOp) (ob:Option BP) (oL oW:Option Blk) (os:List (Option Blk)) (oK:Option Blk) (T:List Blk):List Blk:=
 (g13,42,nov o)::(g9,27,pts2 ob)::(oL.toList++(oW.toList++(Bls os++(oK.toList++T))))
def IvS (w0 w:World) (g9 g13:Nat) (AL:Option Addr) (k cL:Nat) (AW:Option Addr) (k' cW:Nat) (held:Int) (i i2:Nat):Prop:=
 ∃ (oL oW:Option Blk) (es:List En) (o:NOp) (l:List (Int×Int)) (os:List (Option Blk)) (oK:Option Blk) (ob:Option BP) (cs:List Lst),
  OF w0 w (sB g13 g9 o ob oL oW os oK (bO ob)) cs∧FA w0 w ob∧RV 51 13 oL AL k cL (es.flatMap En.a)∧RV 51 13 oW AW k' cW (es.flatMap En.w)∧es.length=k∧k'=k∧
  (∀ e∈es,e.Ok cs)∧NX o l os oK∧NF o l∧(∀ x,ob=some x→x.l.length≤i2)∧800 * (k:Int)≤held∧800 * (k:Int)≤33554432∧held≤5000000 * (i:Int)
theorem Script_l2 {w0:World} {AL:Option Addr} {k cL:Nat} {AW:Option Addr} {cW:Nat} {L:List Blk} {oL oW:Option Blk} {cs:List Lst} {es:List En} (qL:RV 51 13 oL AL k cL (es.flatMap En.a)) (qW:RV 51 13 oW AW k cW (es.flatMap En.w)) (hes:es.length=k) (hok:∀ e∈es,e.Ok cs) (hk:k≤100000000):∀ (q i:Nat) (w:World),k-i < q→i≤k→
  OF w0 w (oL.toList++(oW.toList++L)) cs→qq6.L2 q AL k cL AW k cW (i:Int) w (Yes w0):=by
 intro q
 induction q with
 | zero=>intro i w h; omega
 | succ q ih=>
  intro i w hq hi H
  unfold qq6.L2; intros
  rw [qq6.l2_eq]
  refine ifD (fun h1=>?_) (fun h1=>⟨rfl,H.own.bel⟩)
  have hi2:i < k:=by omega
  refine draws (fun w'=>OF w0 w' (oL.toList++(oW.toList++L)) cs) (H.call (Bel.refl w).drew) fun w2 e2'=>?_
  replace H:=H.call (Bel.refl w).drew
  rw [← e2'] at H
  have hx:es[i]?=some es[i]:=List.getElem?_eq_getElem (by omega)
  have ho:=hok es[i] (List.getElem_mem _)
  generalize es[i]=e at hx ho
  obtain ⟨b1,e1,r1⟩:=qL.rdb hi2 (by decide)
  obtain ⟨b2,e2,r2⟩:=qW.rdb hi2 (by decide)
  refine ⟨_,e1,⟨by omega,by omega⟩,?_⟩
  rw [Int.toNat_natCast,add_blk,Nat.zero_add]
  refine ⟨_,_,_,_,_,_,_,_,_,_,_,_,_,_,_,_,_,⟨rfl,fun w' h=>r1 (u:=e.a) h.own (fm_at En.a En.a_len hx)⟩,?_⟩
  refine ⟨_,e2,⟨by omega,by omega⟩,?_⟩
  rw [add_blk,Nat.zero_add]
  refine ⟨_,_,_,_,_,_,_,_,_,_,_,_,_,_,_,_,_,⟨rfl,fun w' h=>r2 (u:=e.w) (h.perm (List.perm_append_comm_assoc _ _ _)).own (fm_at En.w En.w_len hx)⟩,?_⟩
  refine call_of (agree23_t (T:=e.T) (H.tk ho.a ho.ca) (H.tk ho.w ho.cw) ho.ca.n2 ho.ca.m2) ?_
  rintro z w3 ⟨rfl,k3⟩
  refine ⟨_,rfl,H.call k3,ifNot (fun h=>by cases h) (fun _=>?_)⟩
  refine let_as ((i+1:Nat):Int) (by rw [w64 (by omega) (by omega)]; omega) ?_
  have kk:=ih (i+1) w3 (by omega) (by omega) (H.call k3)
  with_reducible apply kk
section
variable {w0:World} {X:Option Addr} {xn xc:Nat} {X':Option Addr} {xn' xc':Nat} {m0 i:Nat} {g9:Nat} (hi:i < 1000000)
  (hk:∀ (AL:Option Addr) (k cL:Nat) (AW:Option Addr) (k' cW:Nat) (g13:Nat) (held:Int) (w:World),IvS w0 w g9 g13 AL k cL AW k' cW held (i+1) (i+1)→qq6.L1 m0 X xn xc X' xn' xc' g9 AL k cL AW k' cW g13 held ((i+1:Nat):Int) w (Yes w0))
include hi hk
theorem Script_j4 {oL oW:Option Blk} {es:List En} {o:NOp} {l:List (Int×Int)} {os:List (Option Blk)} {oK:Option Blk} {ob:Option BP} {cs:List Lst} {AL:Option Addr} {k cL:Nat} {AW:Option Addr} {cW:Nat} {g13 g16 g17:Nat} {held:Int} {w:World} {T:Tld} {a1 a2:Ad}
  (H:OF w0 w ((g17,51,a2.v T)::(g16,51,a1.v T)::sB g13 g9 o ob oL oW os oK (bO ob)) cs) (fa:FA w0 w ob) (qL:RV 51 13 oL AL k cL (es.flatMap En.a)) (qW:RV 51 13 oW AW k cW (es.flatMap En.w)) (hes:es.length=k)
  (hok:∀ e∈es,e.Ok cs) (he:(⟨T,a1,a2⟩:En).Ok cs) (xo:NX o l os oK) (nf:NF o l) (hb:∀ x,ob=some x→x.l.length≤i+1) (h1:800 * (k:Int)≤held) (h2:800 * (k:Int)≤33554432) (h3:held≤5000000 * (i:Int)):
  qq6.J4 m0 X xn xc X' xn' xc' g9 AL k cL AW k cW g13 held (i:Int) g16 g17 w (Yes w0):=by
 have c1:a1.n≤2000000:=he.ca.n2
 have c2:a1.m≤2000000:=he.ca.m2
 unfold qq6.J4; intros
 rw [qq6.j4_eq]
 refine let_as (held+800) (w64 (by omega) (by omega)) ?_
 refine ⟨a1.B,a1.m,a1.d,H.own.cell 1 10 rfl rfl,?_⟩
 refine let_as (held+800+(a1.m:Int)) (w64 (by omega) (by omega)) ?_
 refine ⟨a1.A,a1.n,a1.c,H.own.cell 1 9 rfl rfl,?_⟩
 refine let_as (held+800+(a1.m:Int)+(a1.n:Int)) (w64 (by omega) (by omega)) ?_
 refine ifD (fun h5=>?_) (fun h5=>?_)
 ·
  refine ⟨_,_,_,_,_,_,_,_,_,_,_,_,_,_,_,_,_,⟨rfl,(H.own.bk 1 rfl).at⟩,?_⟩
  refine let_as w.heap.size rfl (let_as (w.alloc (.cells (a1.v T).toArray 51)) rfl ?_)
  have k5:Bel w (w.alloc (.cells (a1.v T).toArray 51)):=(Bel.refl w).alloc _
  refine rv_appM (zs:=tz) rfl ((H.call k5).perm (permH4 _ _ _ _ _ _).symm) qL (v:=a1.v T) rfl rfl (Bk.new w _ _).at (by omega) (by omega) fun oL' AL' cL' w6 H6 qL' m6=>?_
  replace H6:=H6.perm (permH4 _ _ _ _ _ _)
  refine ⟨_,_,_,_,_,_,_,_,_,_,_,_,_,_,_,_,_,⟨rfl,(H6.own.bk 0 rfl).at⟩,?_⟩
  refine let_as w6.heap.size rfl (let_as (w6.alloc (.cells (a2.v T).toArray 51)) rfl ?_)
  have k7:Bel w6 (w6.alloc (.cells (a2.v T).toArray 51)):=(Bel.refl w6).alloc _
  have p7:((g17,51,a2.v T)::(g16,51,a1.v T)::sB g13 g9 o ob oL' oW os oK (bO ob)).Perm (oW.toList++((g17,51,a2.v T)::(g16,51,a1.v T)::(g13,42,nov o)::(g9,27,pts2 ob)::(oL'.toList++(Bls os++(oK.toList++bO ob))))):=
   (((((List.perm_append_comm_assoc oL'.toList oW.toList _).cons _).cons _).cons _).cons _).trans (permH4 _ _ _ _ _ _).symm
  refine rv_appM (zs:=tz) rfl ((H6.call k7).perm p7) qW (v:=a2.v T) rfl rfl (Bk.new w6 _ _).at (by omega) (by omega) fun oW' AW' cW' w7 H7 qW' m7=>?_
  replace H7:=H7.perm ((permH4 _ _ _ _ _ _).trans (((((List.perm_append_comm_assoc oW'.toList oL'.toList _).cons _).cons _).cons _).cons _))
  have mA:Mk w w7:=(Mk.bel k5).tr (m6.tr ((Mk.bel k7).tr m7))
  refine let_as ((i+1:Nat):Int) (by rw [w64 (by omega) (by omega)]; omega) ?_
  have kk:=hk AL' (k+1) cL' AW' (k+1) cW' g13 (held+800+(a1.m:Int)+(a1.n:Int)) w7 ⟨oL',oW',es++[⟨T,a1,a2⟩],o,l,os,oK,ob,cs,H7.tail.tail,fa.mk mA,
   by rw [List.flatMap_append,List.flatMap_singleton]; exact qL',by rw [List.flatMap_append,List.flatMap_singleton]; exact qW',by rw [List.length_append,hes]; rfl,rfl,fun e he2=>by
    rcases List.mem_append.1 he2 with he2 | he2
    ·
     exact hok e he2
    ·
     rw [List.mem_singleton.1 he2]
     exact he,xo,nf,hb,by omega,by omega,by omega⟩
  with_reducible apply kk
 ·
  refine let_as ((i+1:Nat):Int) (by rw [w64 (by omega) (by omega)]; omega) ?_
  have kk:=hk AL k cL AW k cW g13 (held+800+(a1.m:Int)+(a1.n:Int)) w ⟨oL,oW,es,o,l,os,oK,ob,cs,H.tail.tail,fa,qL,qW,hes,rfl,hok,xo,nf,hb,by omega,by omega,by omega⟩
  with_reducible apply kk
theorem Script_j3 (hT:Tab w0) (hg:GlF w0) {AL:Option Addr} {k cL:Nat} {AW:Option Addr} {k' cW:Nat} {g13:Nat} {held:Int} {w:World} (I:IvS w0 w g9 g13 AL k cL AW k' cW held i i):qq6.J3 m0 X xn xc X' xn' xc' g9 AL k cL AW k' cW g13 held (i:Int) w (Yes w0):=by
 obtain ⟨oL,oW,es,o,l,os,oK,ob,cs,H,fa,qL,qW,hes,rfl,hok,xo,nf,hb,h1,h2,h3⟩:=I
 unfold qq6.J3; intros
 rw [qq6.j3_eq]
 have sub:∀ {w:World} {M:List Blk} {cs:List Lst} {T:List Blk},OF w0 w (M++(oL.toList++(oW.toList++(Bls os++(oK.toList++T))))) cs→OpF w o l∧o.ln≤o.lc:=fun h=>nx_at (OF.less (L:=oW.toList) (OF.less (L:=oL.toList) (OF.less h))).own xo nf
 have hx0:=sub (M:=[_,_]) H
 refine ⟨_,_,_,_,_,_,_,_,_,_,_,_,_,_,_,_,_,_,_,_,_,_,_,_,_,_,_,_,_,⟨rfl,(H.own.bk 0 rfl).at⟩,?_⟩
 refine call_of (ran23_t (hg.bel H.own.bel) hx0.1 hx0.2) ?_
 rintro e w1 ⟨k1,A1,n1,c1,B1,m1,d1,rfl,y1,f1,f2⟩
 have H1:=H.adds (a:=⟨A1,n1,c1,B1,m1,d1⟩) k1 y1 f1 f2
 refine ⟨_,_,_,_,_,_,_,_,_,_,_,_,_,_,_,_,_,rfl,?_⟩
 refine of_mkM tz H1 rfl rfl fun g39 w2 H2 m2=>?_
 refine ⟨_,_,_,_,_,_,_,_,_,_,_,_,_,_,_,_,_,_,_,_,_,_,_,_,_,_,_,_,_,⟨rfl,(H2.own.bk 1 rfl).at⟩,?_⟩
 have hx2:=sub (M:=[_,_,_]) H2
 refine call_of (meant23_t hx2.1) ?_
 rintro e w3 ⟨k3,A2,n2,c2,B2,m2',d2,rfl,y2,f3,f4⟩
 have H3:=H2.adds (a:=⟨A2,n2,c2,B2,m2',d2⟩) k3 y2 f3 f4
 refine ⟨_,_,_,_,_,_,_,_,_,_,_,_,_,_,_,_,_,rfl,?_⟩
 refine of_mkM tz H3 rfl rfl fun g80 w4 H4 m4=>?_
 have t1:=tld_len hx0.1 y1
 have t2:=tld_len hx2.1 y2
 have mA:Mk w w4:=(Mk.bel k1).tr (m2.tr ((Mk.bel k3).tr m4))
 replace fa:=fa.mk mA
 generalize hT0:tldN o l=T at *
 have p1:(⟨A1,n1,c1,B1,m1,d1⟩:Ad).Cap:=⟨y1.co,y1.cb,t1.1,t1.2⟩
 have p2:(⟨A2,n2,c2,B2,m2',d2⟩:Ad).Cap:=⟨y2.co,y2.cb,t2.1,t2.2⟩
 obtain ⟨a1,ha1⟩:∃ a1:Ad,a1=⟨A1,n1,c1,B1,m1,d1⟩:=⟨_,rfl⟩
 obtain ⟨a2,ha2⟩:∃ a2:Ad,a2=⟨A2,n2,c2,B2,m2',d2⟩:=⟨_,rfl⟩
 rw [← ha1] at p1
 rw [← ha2] at p2
 replace H4:OF w0 w4 ((g80,51,a2.v T)::(g39,51,a1.v T)::sB g13 g9 o ob oL oW os oK (bO ob)) (a2.ls T++(a1.ls T++cs)):=by rw [ha1,ha2]; exact H4
 have i2:a2.ls T⊆a2.ls T++(a1.ls T++cs):=List.subset_append_left _ _
 have i1:a1.ls T⊆a2.ls T++(a1.ls T++cs):=fun x hx=>List.mem_append.2 (Or.inr (List.mem_append.2 (Or.inl hx)))
 have isub:cs⊆a2.ls T++(a1.ls T++cs):=fun x hx=>List.mem_append.2 (Or.inr (List.mem_append.2 (Or.inr hx)))
 generalize a2.ls T++(a1.ls T++cs)=cs' at H4 i1 i2 isub
 refine ⟨_,_,_,_,_,_,_,_,_,_,_,_,_,_,_,_,_,⟨rfl,(H4.own.bk 1 rfl).at⟩,?_⟩
 refine ⟨_,_,_,_,_,_,_,_,_,_,_,_,_,_,_,_,_,⟨rfl,(H4.own.bk 0 rfl).at⟩,?_⟩
 refine call_of (agree23_t (T:=T) (H4.tk i1 p1) (H4.tk i2 p2) p1.n2 p1.m2) ?_
 rintro z w5 ⟨rfl,k5⟩
 replace H4:=H4.call k5
 replace fa:=fa.mk (Mk.bel k5)
 refine ⟨_,rfl,ifNot (fun h=>by cases h) (fun _=>?_)⟩
 refine ⟨_,_,⟨rfl,(H4.own.bk 3 rfl).at⟩,?_⟩
 refine ⟨_,_,_,_,_,_,_,_,_,_,_,_,_,_,_,_,_,_,_,_,_,_,_,_,_,_,_,_,_,⟨rfl,(H4.own.bk 2 rfl).at⟩,?_⟩
 have H5:OF w0 w5 (((g80,51,a2.v T)::(g39,51,a1.v T)::(g13,42,nov o)::(g9,27,pts2 ob)::(oL.toList++(oW.toList++(Bls os++oK.toList))))++bO ob) cs':=by rw [eqTT]; exact H4
 refine call_of (counts_o hT H5 fa (fun x hx=>by have:=hb x hx; omega) nf.pt (Q:=fun e w'=>e=.returned (.bool true)∧∃ ob':Option BP,OF w0 w' (((g80,51,a2.v T)::(g39,51,a1.v T)::(g13,42,nov o)::(g9,27,pts2 ob)::(oL.toList++(oW.toList++(Bls os++oK.toList))))++bO ob') cs'∧FA w0 w' ob'∧pts2 ob'=pts2 ob∧(∀ x,ob'=some x→x.l.length≤i+1))
  fun w' ob' q1 q2 q3 q4=>⟨rfl,ob',q1,q2,q3,fun x hx=>by
   obtain ⟨z,hz,hl⟩:=q4 x hx
   have:=hb z hz
   omega⟩) ?_
 rintro e w6 ⟨rfl,ob',H6,fa6,ep,hb6⟩
 refine ⟨_,rfl,ifNot (fun h=>by cases h) (fun _=>?_)⟩
 rw [eqTT,← ep] at H6
 have kk:=Script_j4 (X:=X) (xn:=xn) (xc:=xc) (X':=X') (xn':=xn') (xc':=xc') hi hk H6 fa6 qL qW hes (fun e he=>(hok e he).mono isub) ⟨i1,i2,p1,p2⟩ xo nf hb6 h1 h2 h3
 exact ⟨by with_reducible apply kk⟩
theorem Script_j2 (hT:Tab w0) (hg:GlF w0) (hS:NScrF w0 X xn) (hN:∀ a,X'=some a→∀ j,j < xn'→∃ x:Int,w0.cell? (a.add j)=some (.int .i64 x)∧(-9223372036854775808≤x∧x≤9223372036854775807)) (hN2:0 < xn'→∃ a,X'=some a) (hin:i < xn)
  {AL:Option Addr} {k cL:Nat} {AW:Option Addr} {k' cW:Nat} {g13:Nat} {held:Int} {w:World} (I:IvS w0 w g9 g13 AL k cL AW k' cW held i i) {b:Bool} (hb:b=true→i < xn'):qq6.J2 m0 X xn xc X' xn' xc' g9 AL k cL AW k' cW g13 held (i:Int) b w (Yes w0):=by
 obtain ⟨oL,oW,es,o,l,os,oK,ob,cs,H,fa,qL,qW,hes,rfl,hok,xo,nf,hbl,h1,h2,h3⟩:=I
 unfold qq6.J2; intros
 rw [qq6.j2_eq]
 refine ifB (fun hbt=>?_) (fun _=>?_)
 ·
  have hix:=hb hbt
  obtain ⟨a,ea⟩:=hN2 (by omega)
  obtain ⟨x,hx1,hx2⟩:=hN a ea i hix
  refine draws (fun w'=>∃ M cs',OF w0 w' ((g13,42,nov o)::M) cs') ⟨_,_,H.call (Bel.refl w).drew⟩ fun w2 e2=>?_
  replace H:=H.call (Bel.refl w).drew
  have md:Mk w w.drew:=Mk.bel (Bel.refl w).drew
  rw [← e2] at H md
  refine ⟨_,_,_,_,_,_,_,_,_,_,_,_,_,_,_,_,_,_,_,_,_,_,_,_,_,_,_,_,_,⟨rfl,fun w' ⟨M,cs',h⟩=>(h.own.bk 0 rfl).at⟩,?_⟩
  refine ⟨a,ea,⟨by omega,by omega⟩,x,fun w' ⟨M,cs',h⟩=>by rw [Int.toNat_natCast]; exact h.own.bel.cellb hx1,?_⟩
  refine call_of (other23_t (R:=(g13,42,nov o)::(g9,27,pts2 ob)::(oL.toList++(oW.toList++bO ob))) (H.perm (pR2 _ _ _ _ _ _ _)) xo nf hx2) ?_
  rintro e w3 ⟨o',l',os',oK',rfl,H3,xo',nf',m3⟩
  refine ⟨_,_,_,_,_,_,_,_,_,_,_,_,_,_,_,_,_,_,_,_,_,_,_,_,_,_,_,_,_,rfl,?_⟩
  have H4:=H3.perm (pR2 _ _ oL.toList oW.toList (Bls os') oK'.toList (bO ob)).symm
  refine ⟨⟨_,_,H4⟩,?_⟩
  refine of_putM 0 H4 rfl rfl (Nat.le_refl 23) fun w4 H5 m4=>?_
  rw [splice_all _ _ (by rfl)] at H5
  have kk:=Script_j3 (X:=X) (xn:=xn) (xc:=xc) (X':=X') (xn':=xn') (xc':=xc') hi hk hT hg ⟨oL,oW,es,o',l',os',oK',ob,cs,H5,fa.mk (md.tr (m3.tr m4)),qL,qW,hes,rfl,hok,xo',nf',hbl,h1,h2,h3⟩
  exact ⟨by with_reducible apply kk⟩
 ·
  obtain ⟨a,ea,hc⟩:=hS (by omega)
  obtain ⟨o',l',hat,hof⟩:=hc i hin
  refine ⟨a,ea,⟨by omega,by omega⟩,?_⟩
  rw [Int.toNat_natCast]
  refine ⟨_,_,_,_,_,_,_,_,_,_,_,_,_,_,_,_,_,_,_,_,_,_,_,_,_,_,_,_,_,⟨rfl,hat.bel H.own.bel⟩,?_⟩
  refine call_of (alone23_t (hof.bel H.own.bel)) ?_
  rintro e w3 ⟨o2,os2,oK2,rfl,HX,xo2,nf2,_⟩
  refine ⟨_,_,_,_,_,_,_,_,_,_,_,_,_,_,_,_,_,_,_,_,_,_,_,_,_,_,_,_,_,rfl,?_⟩
  have H4:=OF.less (OF.less ((H.join HX).perm (pX2 _ _ oL.toList oW.toList (Bls os) oK.toList (Bls os2) oK2.toList (bO ob)):OF w0 w3 (Bls os++(oK.toList++_)) cs))
  refine of_putM 0 H4 rfl rfl (Nat.le_refl 23) fun w4 H5 m4=>?_
  rw [splice_all _ _ (by rfl)] at H5
  have kk:=Script_j3 (X:=X) (xn:=xn) (xc:=xc) (X':=X') (xn':=xn') (xc':=xc') hi hk hT hg ⟨oL,oW,es,o2,l',os2,oK2,ob,cs,H5,fa.mk ((Mk.bel HX.bel).tr m4),qL,qW,hes,rfl,hok,xo2,nf2,hbl,h1,h2,h3⟩
  exact ⟨by with_reducible apply kk⟩
end
end Go.Proofs.YtphbdmafchjjeaaGreatDoorS
namespace Go.Proofs.YtphbdmafchjjeaaGreatDoorS
open Go Go.RowKit Go.Proofs Go.Proofs.YtphbdmafchjjeaaGreatDoorX
set_option maxRecDepth 100000
set_option linter.unusedVariables false
set_option linter.unusedSectionVars false
set_option linter.unusedSimpArgs false
def Nums (w:World) (A:Option Addr) (n:Nat):Prop:=0 < n→∃ a,A=some a∧∀ i,i < n→∃ x:Int,w.cell? (a.add i)=some (.int .i64 x)∧(-9223372036854775808≤x∧x≤9223372036854775807)
theorem Nums.all {w:World} {A:Option Addr} {n:Nat} (h:Nums w A n):∀ a,A=some a→∀ j,j < n→∃ x:Int,w.cell? (a.add j)=some (.int .i64 x)∧(-9223372036854775808≤x∧x≤9223372036854775807):=fun a ea j hj=>by
 obtain ⟨b,eb,hc⟩:=h (by omega)
 rw [ea] at eb
 injection eb with eb
 subst eb
 exact hc j hj
theorem Nums.ex {w:World} {A:Option Addr} {n:Nat} (h:Nums w A n):0 < n→∃ a,A=some a:=fun hn=>let ⟨a,e,_⟩:=h hn; ⟨a,e⟩
section
variable {w0:World} (hT:Tab w0) (hg:GlF w0) {X:Option Addr} {xn xc:Nat} {X':Option Addr} {xn' xc':Nat} {g9:Nat}
include hT hg
theorem Script_l1 (hS:NScrF w0 X xn) (hN:Nums w0 X' xn') (hn:xn≤900000):∀ (q i:Nat) (AL:Option Addr) (k cL:Nat) (AW:Option Addr) (k' cW:Nat) (g13:Nat) (held:Int) (w:World),xn-i < q→i≤xn→IvS w0 w g9 g13 AL k cL AW k' cW held i i→
  qq6.L1 q X xn xc X' xn' xc' g9 AL k cL AW k' cW g13 held (i:Int) w (Yes w0):=by
 intro q
 induction q with
 | zero=>intro i AL k cL AW k' cW g13 held w h; omega
 | succ q ih=>
  intro i AL k cL AW k' cW g13 held w hq hi I
  unfold qq6.L1; intros
  rw [qq6.l1_eq]
  refine ifD (fun h1=>?_) (fun h1=>?_)
  ·
   have next:∀ (AL:Option Addr) (k cL:Nat) (AW:Option Addr) (k' cW:Nat) (g13:Nat) (held:Int) (w:World),IvS w0 w g9 g13 AL k cL AW k' cW held (i+1) (i+1)→qq6.L1 q X xn xc X' xn' xc' g9 AL k cL AW k' cW g13 held ((i+1:Nat):Int) w (Yes w0):=
    fun AL k cL AW k' cW g13 held w I=>ih (i+1) AL k cL AW k' cW g13 held w (by omega) (by omega) I
   have no:=Script_j2 (xc:=xc) (xc':=xc') (by omega) next hT hg hS hN.all hN.ex (by omega) I (b:=false) (fun h=>by cases h)
   refine ifD (fun h2=>?_) (fun h2=>⟨by with_reducible apply no⟩)
   refine ifD (fun h3=>?_) (fun h3=>⟨by with_reducible apply no⟩)
   obtain ⟨a,ea,hc⟩:=hN (by omega)
   obtain ⟨x,hx1,hx2⟩:=hc i (by omega)
   have hbel:Bel w0 w:=by
    obtain ⟨oL,oW,es,o,l,os,oK,ob,cs,H,_⟩:=I
    exact H.own.bel
   refine ⟨a,ea,⟨by omega,by omega⟩,x,by rw [Int.toNat_natCast]; exact hbel.cellb hx1,?_⟩
   have kk:=Script_j2 (xc:=xc) (xc':=xc') (by omega) next hT hg hS hN.all hN.ex (by omega) I (b:=x != 0) (fun h=>by omega)
   exact ⟨by with_reducible apply kk⟩
  ·
   obtain ⟨oL,oW,es,o,l,os,oK,ob,cs,H,fa,qL,qW,hes,rfl,hok,xo,nf,hbl,h4,h2,h3⟩:=I
   refine ⟨k'+1,?_⟩
   have kk:qq6.L2 (k'+1) AL k' cL AW k' cW 0 w (Yes w0):=Script_l2 qL qW hes hok (by omega) (k'+1) 0 w (by omega) (by omega) H.tail.tail
   with_reducible apply kk
end
theorem pz_fine:pz.Fine:=⟨by decide,by decide,by decide,by decide,by decide,by decide,by decide,Bytes.nil,Bytes.nil,by decide,by decide⟩
def nz0:NOp:=⟨0,false,pz,none,0,0,none,0,0,⟨0,0,0,0,0⟩,0,0,none,0,0,0,0⟩
theorem both_o {w w1:World} {e:Ending} {lo hi:Nat} (h:RetBt w lo hi e w1):∃ ob:Option BP,e=.returned (.tuple #[.agg (pts2 ob).toArray,.bool true])∧OF w w1 (bO ob) []∧FA w w1 ob∧∀ x,ob=some x→x.l.length≤0:=by
 rcases h with ⟨rfl,k⟩ | ⟨x,rfl,k,hl⟩
 ·
  exact ⟨none,rfl,⟨(Own.refl w).call k,(fun x hx=>by cases hx)⟩,(fun x hx=>by cases hx),fun x hx=>by cases hx⟩
 ·
  refine ⟨some x,rfl,?_,fun y hy=>?_,fun y hy=>?_⟩
  ·
   have H:=k.of
   rw [List.append_nil] at H
   exact H
  ·
   injection hy with hy
   subst hy
   exact ⟨k.mp,k.fx⟩
  ·
   injection hy with hy
   subst hy
   rw [hl]
   exact Nat.le_refl _
theorem NatScript_t {w:World} (hTg:Tab w∧GlF w) {a b:Int} (ha:0≤a∧a≤65535) (hb:0≤b∧b≤65535) {Y:Option Addr} {sn sc:Nat} (hS:NScrF w Y sn∧sn≤900000) {Y':Option Addr} {sn' sc':Nat} (hN:Nums w Y' sn'∧sn'≤1000000000000):
  Calls Tryz.prog 4 #[.int .u16 a,.int .u16 b,.slice Y sn sc,.slice Y' sn' sc'] w (Yes w):=by
 obtain ⟨lo,rfl⟩:=Int.eq_ofNat_of_zero_le ha.1
 obtain ⟨hi,rfl⟩:=Int.eq_ofNat_of_zero_le hb.1
 refine qq6.run ?_
 unfold qq6.s
 refine call_of (both_c w (lo:=lo) (hi:=hi) (by omega) (by omega)) ?_
 intro e w1 hB
 obtain ⟨ob,rfl,H1,fa,hl0⟩:=both_o hB
 refine ⟨_,_,_,rfl,?_⟩
 refine of_mkM [.pointer none,.pointer none] H1 rfl rfl fun g6 w8 H8 m8=>?_
 refine call_of (first_t (w0:=w8) (hTg.1.bel H8.own.bel) (Bel.refl w8)) ?_
 rintro e w9 ⟨rfl,k9⟩
 refine ⟨_,rfl,?_⟩
 refine ifNot (fun h=>by cases h) (fun _=>?_)
 refine ifNot (fun h=>by cases h) (fun _=>?_)
 have H9:=H8.call k9
 have fa9:=fa.mk (m8.tr (Mk.bel k9))
 have j1:qq6.J1 Y sn sc Y' sn' sc' g6 w9 (Yes w):=by
  unfold qq6.J1; intros
  rw [qq6.j1_eq]
  refine let_as w9.heap.size rfl (let_as (w9.alloc (.cells noz.toArray 42)) rfl ?_)
  have H2:=H9.new 42 noz
  have fa2:=fa9.mk (Mk.bel ((Bel.refl w9).alloc (.cells noz.toArray 42)))
  generalize w9.alloc (.cells noz.toArray 42)=w2 at H2 fa2 ⊢
  generalize w9.heap.size=g13 at H2 ⊢
  refine ⟨sn+1,?_⟩
  have z:SL none none 0 0 []:=SL.none
  have hl:SLs [none,none] (lists23 nz0):=SLs.cons (x:=⟨none,0,0,[]⟩) z (SLs.cons (x:=⟨none,0,0,[]⟩) z SLs.nil)
  have I:IvS w w2 g6 g13 none 0 0 none 0 0 0 0 0:=⟨none,none,[],nz0,[],[none,none],none,ob,[],H2,fa2,RV.none,RV.none,rfl,rfl,(fun e he=>by cases he),⟨hl,RV.none,rfl⟩,
   ⟨pz_fine,⟨by decide,by decide,by decide,by decide,by decide⟩,(fun x hx=>by cases hx),by decide,by decide,by decide,by decide⟩,hl0,by decide,by decide,by decide⟩
  have kk:qq6.L1 (sn+1) Y sn sc Y' sn' sc' g6 none 0 0 none 0 0 g13 0 0 w2 (Yes w):=Script_l1 hTg.1 hTg.2 (xc:=sc) (xc':=sc') hS.1 hN.1 hS.2 (sn+1) 0 none 0 0 none 0 0 g13 0 w2 (by omega) (by omega) I
  with_reducible apply kk
 exact ⟨by with_reducible apply j1⟩
end Go.Proofs.YtphbdmafchjjeaaGreatDoorS
namespace Go.Proofs.YtphbdmafchjjeaaGreatDoorS
open Go Go.RowKit Go.Proofs Go.Proofs.YtphbdmafchjjeaaGreatDoorX Go.Proofs.YtphbdmafchjjeaaGreatDoor
set_option linter.unusedVariables false
theorem ints_ofB {H:Type} {w:World} {A:Option Addr} {n c:Nat} {d:DataW H} (h:KSl 1 8 (KInt .i64) w [.slice A n c] d) (hb:Rows.uptoBulk d≤1048576):Nums w A n∧n≤1000000000000:=by
 rcases h with ⟨e,rfl⟩ | ⟨a,len,cap,D,rest,e,rfl,hl,hD,hB,hel⟩
 ·
  obtain ⟨rfl,rfl,rfl⟩:=slice_one e
  exact ⟨fun h=>by omega,by omega⟩
 ·
  obtain ⟨rfl,rfl,rfl⟩:=slice_one e
  have hbl:=bulk_len D
  simp only [Rows.uptoBulk] at hb
  refine ⟨fun _=>⟨a,rfl,fun i hi=>?_⟩,by omega⟩
  obtain ⟨cs',x,hx0,hat,⟨v,rfl,_,fv⟩⟩:=hel i hi
  have:=hat 0 _ rfl
  rw [Nat.mul_one,addr_add_zero] at this
  exact ⟨v,this,wf_i64 fv⟩
end Go.Proofs.YtphbdmafchjjeaaGreatDoorS
