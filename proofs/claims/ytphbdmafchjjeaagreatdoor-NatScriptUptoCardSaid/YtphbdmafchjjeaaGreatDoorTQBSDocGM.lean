import Derived.Test.YtphbdmafchjjeaaGreatDoorTQBSFWM
import Derived.Test.YtphbdmafchjjeaaGreatDoorTQBSPureM
namespace Go.Proofs.YtphbdmafchjjeaaGreatDoorS
open Go Go.RowKit Go.Proofs Go.Proofs.YtphbdmafchjjeaaGreatDoorX
set_option maxRecDepth 100000
set_option linter.unusedVariables false
set_option linter.unusedSectionVars false
set_option linter.unusedSimpArgs false
structure BP where
 gP:Nat
 gm:Nat
 lo:Nat
 hi:Nat
 us:List Us
 gQ:Nat
 o:Option Blk
 A:Option Addr
 n:Nat
 c:Nat
 l:List (Int×Int)
abbrev dpB (x:BP):List Blk:=(x.gQ,81,dpv x.lo x.hi x.A x.n x.c)::x.o.toList
abbrev nPB (x:BP):List Blk:=PX x.gP x.gm x.lo x.hi x.us
def MapF (w:World) (x:BP):Prop:=∃ es c,w.heap[x.gm]?=some (.map es c)∧(es.toList.map fun e=>(e.key,e.val))=x.us.map uent
theorem MapF.mk {w w':World} {x:BP} (h:MapF w x) (m:Mk w w'):MapF w' x:=let ⟨es,c,h1,h2⟩:=h; ⟨es,c,m _ _ _ h1,h2⟩
theorem MapF.mf {w w':World} {x:BP} {gm:Nat} (h:MapF w x) (m:Mf gm w w') (hne:x.gm≠gm):MapF w' x:=let ⟨es,c,h1,h2⟩:=h; ⟨es,c,m _ _ _ hne h1,h2⟩
structure FX (w0:World) (x:BP):Prop where
 ge:w0.heap.size≤x.gm
 bm:∀ u∈x.us,Bm u.l
 rv:RV 98 2 x.o x.A x.n x.c (hds x.l)
 iv:Iv x.us x.l x.lo x.hi
 l1:1≤x.lo
 l2:x.lo≤x.hi
 l3:x.hi≤65535
structure BF (w0 w:World) (x:BP) (R:List Blk) (cs:List Lst:=[]):Prop where
 of:OF w0 w (nPB x++(dpB x++R)) cs
 mp:MapF w x
 fx:FX w0 x
def Sam (x y:BP):Prop:=y.gP=x.gP∧y.gm=x.gm∧y.gQ=x.gQ∧y.lo=x.lo∧y.hi=x.hi
theorem Mk.mf {w w':World} (m:Mk w w') (gm:Nat):Mf gm w w':=fun r es c _ h=>m r es c h
section
variable {w0 w w':World} {x:BP} {R R':List Blk} {cs:List Lst}
theorem BF.call (h:BF w0 w x R cs) (k:Bel w w'):BF w0 w' x R cs:=⟨h.of.call k,h.mp.mk (Mk.bel k),h.fx⟩
theorem BF.pts (h:BF w0 w x R cs):Pts w0 w x.gP x.gm x.lo x.hi x.us (dpB x++R) cs:=⟨h.of,h.mp,h.fx.ge,h.fx.bm⟩
theorem BF.bk (h:BF w0 w x R cs) {y:Blk} (hy:y∈R):Bk w y.1 y.2.1 y.2.2:=memB h.of.own (List.mem_append.2 (Or.inr (List.mem_append.2 (Or.inr hy))))
theorem BF.new (h:BF w0 w x R cs) (t:TypeId) (l:List Value):BF w0 (w.alloc (.cells l.toArray t)) x ((w.heap.size,t,l)::R) cs:=
 ⟨(h.of.new t l).perm ((List.perm_middle (a:=(w.heap.size,t,l)) (l₁:=nPB x) (l₂:=dpB x++R)).symm.trans ((List.perm_middle (a:=(w.heap.size,t,l)) (l₁:=dpB x) (l₂:=R)).symm.append_left (nPB x))),h.mp.mk (Mk.bel ((Bel.refl w).alloc _)),h.fx⟩
theorem bf_new {t:TypeId} {l:List Value} {K:Nat→World→Prop} (P:BF w0 w x R cs) (hk:∀ g w1,BF w0 w1 x ((g,t,l)::R) cs→Bel w w1→K g w1):Let w.heap.size fun g=>Let (w.alloc (.cells l.toArray t)) (K g):=hk _ _ (P.new t l) ((Bel.refl w).alloc _)
theorem BF.less {L:List Blk} (h:BF w0 w x (L++R) cs):BF w0 w x R cs:=
 ⟨by
  have p:(nPB x++(dpB x++(L++R))).Perm (L++(nPB x++(dpB x++R))):=((List.perm_append_comm_assoc (dpB x) L R).append_left _).trans (List.perm_append_comm_assoc (nPB x) L (dpB x++R))
  exact (h.of.perm p).less,h.mp,h.fx⟩
theorem BF.join {w2 w3:World} {us':List Us} {l':List (Int×Int)} (h:BF w0 w x R cs) (P:Pts w0 w2 x.gP x.gm x.lo x.hi us' (dpB x++R) cs) (hm:Mf x.gm w w2) (D:DP w0 w3 (nPB { x with us:=us' }++R) cs x.gQ x.lo x.hi l') (m:Mk w2 w3) (iv:Iv us' l' x.lo x.hi):
  ∃ y:BP,BF w0 w3 y R cs∧Sam x y∧y.l=l'∧Mf x.gm w w3:=by
 obtain ⟨o,A,n,c,H,rv⟩:=D
 obtain ⟨es,cc,h1,h2⟩:=P.mp
 refine ⟨{ x with us:=us',o:=o,A:=A,n:=n,c:=c,l:=l' },⟨?_,⟨es,cc,m _ _ _ h1,h2⟩,⟨h.fx.ge,P.bm,rv,iv,h.fx.l1,h.fx.l2,h.fx.l3⟩⟩,⟨rfl,rfl,rfl,rfl,rfl⟩,rfl,hm.trans (m.mf _)⟩
 exact H.perm (List.perm_append_comm_assoc ((x.gQ,81,dpv x.lo x.hi A n c)::o.toList) (nPB { x with us:=us' }) R)
theorem Pts.dp {us':List Us} {R:List Blk} (h:FX w0 x) (P:Pts w0 w x.gP x.gm x.lo x.hi us' (dpB x++R) cs):DP w0 w (nPB { x with us:=us' }++R) cs x.gQ x.lo x.hi x.l:=
 ⟨x.o,x.A,x.n,x.c,P.of.perm (List.perm_append_comm_assoc (nPB { x with us:=us' }) (dpB x) R),h.rv⟩
end
theorem Iv.perm {us:List Us} {l l':List (Int×Int)} {lo hi:Nat} (h:Iv us l lo hi) (p:l.Perm l'):Iv us l' lo hi:=
 ⟨fun q m=>(h.has q m).trans p.mem_iff,fun q=>by rw [h.cnt q,p.countP_eq],p.nodup_iff.1 h.nd,fun x hx=>h.rg x (p.mem_iff.2 hx)⟩
theorem cut_perm {l:List (Int×Int)} (hd:l.Nodup) {i:Nat} (hi:i < l.length) {x:Int×Int} (e:l.getD i (0,0)=x):(l.filter fun y=>!decide (y=x)).Perm (l.take i++l.drop (i+1)):=by
 have hx:x∈l:=by
  rw [← e,List.getD_eq_getElem?_getD,List.getElem?_eq_getElem hi]
  exact List.getElem_mem _
 have e1:(l.filter fun y=>!decide (y=x))=l.erase x:=by
  rw [hd.erase_eq_filter]
  congr 1
  funext y
  by_cases hy:y=x <;> simp [hy]
 have e2:(x::(l.take i++l.drop (i+1))).Perm l:=by
  have e3:l=l.take i++x::l.drop (i+1):=by
   rw [← e,List.getD_eq_getElem?_getD,List.getElem?_eq_getElem hi]
   show l=l.take i++l[i]::l.drop (i+1)
   rw [← List.drop_eq_getElem_cons hi,List.take_append_drop]
  conv=>rhs; rw [e3]
  exact List.perm_middle.symm
 rw [e1]
 exact (List.Perm.cons_inv ((List.perm_cons_erase hx).symm.trans e2.symm))
abbrev npt (o:Option BP):Option Addr:=o.map fun x=>⟨x.gP,0,none⟩
abbrev dpt (o:Option BP):Option Addr:=o.map fun x=>⟨x.gQ,0,none⟩
section
variable {w0 w:World} {x:BP} {R:List Blk} {cs:List Lst}
theorem nov_at {w:World} {g:Nat} {o:NOp} (h:Bk w g 42 (nov o)):w.cell? ⟨g,0,none⟩=some (.int .i64 o.k)∧w.cell? ⟨g,21,none⟩=some (.int .u8 o.pr)∧w.cell? ⟨g,22,none⟩=some (.int .u16 (o.pt:Int)):=⟨h.cell 0 rfl,h.cell 21 rfl,h.cell 22 rfl⟩
theorem take_form {us us':List Us} {pr:Int} {lo hi want:Nat} {e:Ending} (h:TakeR us us' pr lo hi want e):∃ n k:Int,e=.returned (.tuple #[.int .u16 n,.int .i64 k]):=by
 rcases h with ⟨h,_⟩ | ⟨n,h,_⟩
 ·
  exact ⟨_,_,h⟩
 ·
  exact ⟨_,_,h⟩
theorem take_same {us us':List Us} {l l':List (Int×Int)} {pr:Int} {lo hi want:Nat} {e e2:Ending} (iv:Iv us l lo hi) (hlh:lo≤hi) (h:TakeR us us' pr lo hi want e) (h2:dpTake lo hi want pr l l' e2):e2=e∧Iv us' l' lo hi∧l'.length≤l.length+1:=by
 have eh:(fun m=>hasU us pr m)=fun m=>decide ((pr,((m:Nat):Int))∈l):=by
  funext m
  rw [Bool.eq_iff_iff,iv.has pr m,decide_eq_true_iff]
 rcases h with ⟨rfl,h1,h3,h4⟩ | ⟨n,rfl,n1,n2,n3,n4,h3,h4⟩
 ·
  rcases h2 with ⟨rfl,g1,rfl⟩ | ⟨m,rfl,m1,m2,m3,m4,rfl⟩
  ·
   exact ⟨rfl,iv.same h3 h4,by omega⟩
  ·
   exact absurd ((iv.has pr m).1 (h1 m m1 m2)) m3
 ·
  rcases h2 with ⟨rfl,g1,rfl⟩ | ⟨m,rfl,m1,m2,m3,m4,rfl⟩
  ·
   exact absurd (g1 n n1 n2) (iv.no n3)
  ·
   rw [eh] at n4
   have e:n=m:=n4.uniq m4 (decide_eq_false (iv.no n3)) (decide_eq_false m3) ⟨n1,n2⟩ ⟨m1,m2⟩
   subst e
   exact ⟨rfl,iv.take n3 n1 n2 h3 h4,by rw [List.length_append]; exact Nat.le_refl _⟩
theorem give_same {us us':List Us} {l l':List (Int×Int)} {pr:Int} {lo hi n:Nat} {e e2:Ending} (iv:Iv us l lo hi) (h:GiveR us us' pr n e) (h2:dpGive pr n l l' e2):e2=e∧(∃ k:Int,e=.returned (.int .i64 k))∧Iv us' l' lo hi∧l'.length≤l.length+1:=by
 rcases h with ⟨rfl,h1,rfl⟩ | ⟨rfl,h1,h3,h4⟩
 ·
  rcases h2 with ⟨rfl,g1,rfl⟩ | ⟨rfl,g1,_⟩
  ·
   exact ⟨rfl,⟨_,rfl⟩,iv,by omega⟩
  ·
   exact absurd g1 (iv.no h1)
 ·
  rcases h2 with ⟨rfl,g1,rfl⟩ | ⟨rfl,g1,i,i1,i2,rfl⟩
  ·
   exact absurd ((iv.has pr n).1 h1) g1
  ·
   refine ⟨rfl,⟨_,rfl⟩,(iv.give h1 h3 h4).perm (cut_perm iv.nd i1 i2),?_⟩
   rw [List.length_append,List.length_take,List.length_drop]
   omega
theorem counts_j1 (hT:Tab w0) (hl:x.l.length≤1000000) {o:NOp} (hpt:o.pt≤65535) {g1 g3:Nat} (B:BF w0 w x ((g3,42,nov o)::(g1,27,[.pointer (some ⟨x.gP,0,none⟩),.pointer (some ⟨x.gQ,0,none⟩)])::R) cs)
  {Q:Ending→World→Prop} (hQ:∀ w' (y:BP),BF w0 w' y R cs→Sam x y→y.l.length≤x.l.length+1→Mf x.gm w w'→Q (.returned (.bool true)) w'):qq0.J1 g1 g3 w Q:=by
 have l1:=B.fx.l1
 have l2:=B.fx.l2
 have l3:=B.fx.l3
 have m3:∀ {wz:World} {us':List Us},Pts w0 wz x.gP x.gm x.lo x.hi us' (dpB x++((g3,42,nov o)::(g1,27,[.pointer (some ⟨x.gP,0,none⟩),.pointer (some ⟨x.gQ,0,none⟩)])::R)) cs→Bk wz g3 42 (nov o)∧Bk wz g1 27 [.pointer (some ⟨x.gP,0,none⟩),.pointer (some ⟨x.gQ,0,none⟩)]:=fun P=>
  ⟨P.mem (x:=(g3,42,nov o)) (List.mem_append.2 (Or.inr List.mem_cons_self)),P.mem (x:=(g1,27,[.pointer (some ⟨x.gP,0,none⟩),.pointer (some ⟨x.gQ,0,none⟩)])) (List.mem_append.2 (Or.inr (List.mem_cons_of_mem _ List.mem_cons_self)))⟩
 have P:=B.pts
 obtain ⟨b3,b1⟩:=m3 P
 have cb:-1000000000000000≤cntU x.us o.pr∧cntU x.us o.pr≤1000000000000000:=by
  have:=List.countP_le_length (p:=fun y:Int×Int=>decide (y.1=o.pr)) (l:=x.l)
  rw [B.fx.iv.cnt]
  omega
 unfold qq0.J1; intros
 rw [qq0.j1_eq]
 refine ⟨o.k,(nov_at b3).1,?_⟩
 refine ifE (fun _=>?_) (fun _=>?_)
 ·
  refine ⟨_,b1.cell 0 rfl,o.pr,(nov_at b3).2.1,(o.pt:Int),(nov_at b3).2.2,?_⟩
  refine call_of (Take_c (P.tab hT) P l1 l2 l3 (pr:=o.pr) (want:=o.pt) hpt cb) ?_
  rintro e w5 ⟨us',P5,hR,mf⟩
  obtain ⟨n,k,rfl⟩:=take_form hR
  obtain ⟨c3,c1⟩:=m3 P5
  refine ⟨_,_,rfl,_,c1.cell 1 rfl,o.pr,(nov_at c3).2.1,(o.pt:Int),(nov_at c3).2.2,?_⟩
  refine call_of (Take23_c (Pts.dp B.fx P5) l2 l3 hl (pr:=o.pr) (want:=o.pt) hpt) ?_
  rintro e w12 ⟨l',D',hR2,mk⟩
  obtain ⟨rfl,iv',hl'⟩:=take_same B.fx.iv l2 hR hR2
  refine ⟨_,_,rfl,?_⟩
  refine ifE (fun _=>?_) (fun h=>absurd rfl h)
  obtain ⟨y,hB,hs,rfl,hm⟩:=B.join P5 mf D' mk iv'
  rw [show (k == k)=true by simp]
  exact hQ w12 y (hB.less (L:=[_,_])) hs hl' hm
 refine ifE (fun _=>?_) (fun _=>?_)
 ·
  refine ⟨_,b1.cell 0 rfl,o.pr,(nov_at b3).2.1,(o.pt:Int),(nov_at b3).2.2,?_⟩
  refine call_of (Give_c P (pr:=o.pr) (n:=o.pt) hpt cb) ?_
  rintro e w19 ⟨us',P5,hR,mf⟩
  obtain ⟨k,rfl⟩:∃ k:Int,e=.returned (.int .i64 k):=by
   rcases hR with ⟨h,_⟩ | ⟨h,_⟩
   ·
    exact ⟨_,h⟩
   ·
    exact ⟨_,h⟩
  obtain ⟨c3,c1⟩:=m3 P5
  refine ⟨_,rfl,_,c1.cell 1 rfl,o.pr,(nov_at c3).2.1,(o.pt:Int),(nov_at c3).2.2,?_⟩
  refine call_of (Give23_c (Pts.dp B.fx P5) hl (pr:=o.pr) (p:=o.pt) hpt) ?_
  rintro e w25 ⟨l',D',hR2,mk⟩
  obtain ⟨rfl,_,iv',hl'⟩:=give_same B.fx.iv hR hR2
  refine ⟨_,rfl,?_⟩
  obtain ⟨y,hB,hs,rfl,hm⟩:=B.join P5 mf D' mk iv'
  rw [show (k == k)=true by simp]
  exact hQ w25 y (hB.less (L:=[_,_])) hs hl' hm
 refine ifE (fun _=>?_) (fun _=>?_)
 ·
  have kd:Bel w w.drew:=(Bel.refl w).drew
  refine draws (fun w'=>Bk w' g3 42 (nov o)∧Bk w' g1 27 [.pointer (some ⟨x.gP,0,none⟩),.pointer (some ⟨x.gQ,0,none⟩)]) ⟨b3.bel kd,b1.bel kd⟩ fun w29 e29=>?_
  rw [← e29] at kd
  have B2:=B.call kd
  refine ⟨_,fun w' h=>h.2.cell 0 rfl,o.pr,fun w' h=>(nov_at h.1).2.1,_,fun w' h=>h.2.cell 1 rfl,o.pr,fun w' h=>(nov_at h.1).2.1,?_⟩
  refine call_of (Taken_c B2.pts o.pr) ?_
  rintro e w34 ⟨rfl,k34⟩
  have B3:=B2.call k34
  have r3:=m3 B3.pts
  refine ⟨_,rfl,⟨r3.1,r3.2⟩,?_⟩
  obtain ⟨A,n,c,bD,hD⟩:=(Pts.dp B3.fx B3.pts).read
  refine call_of (Taken23_c bD hD (by have:=hD.1; omega) o.pr) ?_
  rintro e w37 ⟨rfl,k37⟩
  have B4:=B3.call k37
  have r4:=m3 B4.pts
  refine ⟨_,rfl,⟨r4.1,r4.2⟩,?_⟩
  rw [B.fx.iv.cnt,show (((x.l.countP fun x=>decide (x.1=o.pr):Nat):Int) == ((x.l.countP fun x=>decide (x.1=o.pr):Nat):Int))=true by simp]
  exact hQ w37 x (B4.less (L:=[_,_])) ⟨rfl,rfl,rfl,rfl,rfl⟩ (by omega) (Mf.bel _ (kd.trans (Bel.trans k34 k37)))
 ·
  exact hQ w x (B.less (L:=[_,_])) ⟨rfl,rfl,rfl,rfl,rfl⟩ (by omega) (Mf.refl _ _)
theorem counts_c (hT:Tab w0) (B:BF w0 w x R cs) (hl:x.l.length≤1000000) {o:NOp} (hpt:o.pt≤65535) {Q:Ending→World→Prop} (hQ:∀ w' (y:BP),BF w0 w' y R cs→Sam x y→y.l.length≤x.l.length+1→Mf x.gm w w'→Q (.returned (.bool true)) w'):
  Calls Tryz.prog 7 #[.agg #[.pointer (some ⟨x.gP,0,none⟩),.pointer (some ⟨x.gQ,0,none⟩)],.agg (nov o).toArray] w Q:=by
 refine qq0.run ?_
 unfold qq0.s
 refine bf_new (l:=[.pointer (some ⟨x.gP,0,none⟩),.pointer (some ⟨x.gQ,0,none⟩)]) B fun g1 w2 B2 k2=>?_
 refine bf_new (l:=nov o) B2 fun g3 w4 B4 k4=>?_
 have b1:=B4.bk (y:=(g1,27,[.pointer (some ⟨x.gP,0,none⟩),.pointer (some ⟨x.gQ,0,none⟩)])) (List.mem_cons_of_mem _ List.mem_cons_self)
 refine ⟨_,b1.cell 0 rfl,?_⟩
 refine ifB (fun h=>by cases h) (fun _=>?_)
 refine ⟨_,b1.cell 1 rfl,?_⟩
 refine ifB (fun h=>by cases h) (fun _=>?_)
 have k:=counts_j1 hT hl hpt B4 (Q:=Q) (fun w' y a1 a2 a3 a4=>hQ w' y a1 a2 a3 ((Mf.bel _ (Bel.trans k2 k4)).trans a4))
 exact ⟨by with_reducible apply k⟩
theorem counts_nil (w:World) {o:NOp}:Calls Tryz.prog 7 #[.agg #[.pointer none,.pointer none],.agg (nov o).toArray] w (Yes w):=by
 refine qq0.run ?_
 unfold qq0.s
 refine own_new (l:=[.pointer none,.pointer none]) (Own.refl w) fun g1 w2 H=>?_
 refine own_new (l:=nov o) H fun g3 w4 H=>?_
 refine ⟨none,H.cell 1 0 rfl rfl,?_⟩
 exact ifB (fun _=>⟨rfl,H.bel⟩) (fun h=>by cases h)
end
def RetBt (w:World) (lo hi:Nat) (e:Ending) (w':World):Prop:=
 (e=.returned (.tuple #[.agg #[.pointer none,.pointer none],.bool true])∧Bel w w')∨∃ x:BP,e=.returned (.tuple #[.agg #[.pointer (some ⟨x.gP,0,none⟩),.pointer (some ⟨x.gQ,0,none⟩)],.bool true])∧BF w w' x []∧x.l=[]
theorem both_c (w:World) {lo hi:Nat} (hl:lo≤65535) (hh:hi≤65535):Calls Tryz.prog 5 #[.int .u16 (lo:Int),.int .u16 (hi:Int)] w (RetBt w lo hi):=by
 refine qq54.run ?_
 unfold qq54.s
 refine own_new (l:=[.pointer none,.pointer none]) (Own.refl w) fun g1 w2 H=>?_
 refine call_of (New_c w2 (lo:=lo) (hi:=hi) hl hh) ?_
 rintro e w3 hN
 unfold RetNew at hN
 by_cases h:lo=0∨hi < lo
 ·
  rw [if_pos h] at hN
  obtain ⟨rfl,k3⟩:=hN
  refine ⟨_,_,rfl,?_⟩
  refine call_of (New23_c w3 (lo:=lo) (hi:=hi) hl hh) ?_
  rintro e w7 hM
  unfold RetN23 at hM
  rw [if_pos h] at hM
  obtain ⟨rfl,rfl⟩:=hM
  refine ⟨_,_,rfl,?_⟩
  refine ifE (fun _=>?_) (fun h=>absurd rfl h)
  refine own_put (vs:=[.pointer none,.pointer none]) 0 (H.call k3) rfl rfl (Nat.le_refl 2) fun w11 H2=>?_
  exact ⟨none,none,⟨rfl,(H2.bk 0 rfl).at⟩,Or.inl ⟨rfl,H2.bel⟩⟩
 ·
  rw [if_neg h] at hN
  obtain ⟨gP,gm,rfl,P⟩:=hN
  refine ⟨_,_,rfl,?_⟩
  refine call_of (New23_c w3 (lo:=lo) (hi:=hi) hl hh) ?_
  rintro e w7 hM
  unfold RetN23 at hM
  rw [if_neg h] at hM
  obtain ⟨gQ,rfl,HQ⟩:=hM
  refine ⟨_,_,rfl,?_⟩
  refine ifE (fun _=>?_) (fun h=>absurd rfl h)
  have o1:OF w2 w3 (PX gP gm lo hi []++[]) []:=P.of
  rw [List.append_nil] at o1
  have H3:=Own.join (Own.join H o1.own) HQ
  have hm3:=P.mp
  have hp:([(gQ,81,dpv lo hi none 0 0)]++(PX gP gm lo hi []++[(g1,27,[.pointer none,.pointer none])]):List Blk)[2]?=some (g1,27,[.pointer none,.pointer none]):=rfl
  refine own_putB (vs:=[.pointer (some ⟨gP,0,none⟩),.pointer (some ⟨gQ,0,none⟩)]) 2 H3 hp rfl (Nat.le_refl 2) fun w11 H4 u4=>?_
  refine ⟨some ⟨gP,0,none⟩,some ⟨gQ,0,none⟩,⟨rfl,(H4.bk 2 rfl).at⟩,?_⟩
  refine Or.inr ⟨⟨gP,gm,lo,hi,[],gQ,none,none,0,0,[]⟩,rfl,⟨⟨?_,fun x hx=>by cases hx⟩,?_,⟨?_,(fun u hu=>by cases hu),RV.none,Iv.nil,by show 1≤lo; omega,by show lo≤hi; omega,hh⟩⟩,rfl⟩
  ·
   have H5:Own w w11 ((g1,27,[.pointer (some ⟨gP,0,none⟩),.pointer (some ⟨gQ,0,none⟩)])::[(gP,78,pvs lo hi gm),(gQ,81,dpv lo hi none 0 0)]):=H4.perm perm3
   exact H5.tail
  ·
   obtain ⟨es,c,h1,h2⟩:=hm3
   exact ⟨es,c,but_map u4 (H3.bk 2 hp) (bel_map HQ.bel h1),h2⟩
  ·
   exact Nat.le_trans H.bel.size P.ge
end Go.Proofs.YtphbdmafchjjeaaGreatDoorS
namespace Go.Proofs.YtphbdmafchjjeaaGreatDoorS
open Go Go.Proofs
open Go renaming undef → U, World → W, Value → V
open Go.Value renaming int → I, slice → S, bool → T, pointer → P, agg → G
open Go.IntKind renaming u8 → B, u16 → H, u32 → D, u64 → Q, i64 → L
open Option renaming none → N
set_option autoImplicit true
set_option relaxedAutoImplicit true
set_option maxRecDepth 100000
set_option linter.unusedVariables false
def weftlaw23_NatAll.ords:Nat→Od
 | 18=>(.tk 0 (.tk 1 (.tk 2 (.tk 3 (.tk 4 (.tk 5 (.tk 6 (.tk 7 (.on 8 (.tk 9 (.tk 10 .nil)))))))))))
 | 20=>(.tk 0 (.tk 1 (.tk 2 (.tk 3 (.tk 4 (.on 5 (.tk 6 .nil)))))))
 | _=>.nil
def weftlaw23_NatAll.joins (p:List Nat):Bool:=p == [1,1,1] || p == [1,0,1,0,1,0,0,1,0,0,1,0,1,1,1,1,1] || p == [1,1,0,0,1,0,0,1,0,1,1,1,1,1]
def weftlaw23_NatAll.l1 (n:Nat) (y2 y3:Int) (Y4:Option Addr) (yn4 yc4 yg11:Nat) (y12:Bool) (yg13:Nat) (y14:Bool) (y15:Int) (d0 d1 d5 d6 d7 d8 d9 dA dG dH dI dJ dK dL dM dN dO dP dQ dR dS dT dU dV dW dX dY dZ k0 k1 k2 k3 k4 k5 k6 k7 k8 k9 kA kB kC kD kE kF kG kH kI kJ kK kL kM kN kO kP kQ kR kS kT kU kV kW kX kY kZ v0 v1 v2 v3 v4 v5 v6 v7 v8 v9 vA vB vC vD vE:V) (w:W) (R:E):Prop:=
 lseg Tryz.prog entE weftlaw23_NatAll.ords weftlaw23_NatAll.joins Tryz.f3 [1,1,1,1,1,0,1,0] [0,1,0,1,1,1,1,1] [] n [d0,d1,I H y2,I H y3,S Y4 yn4 yc4,d5,d6,d7,d8,d9,dA,P (some ⟨yg11,0,N⟩),T y12,P (some ⟨yg13,0,N⟩),T y14,I L y15,dG,dH,dI,dJ,dK,dL,dM,dN,dO,dP,dQ,dR,dS,dT,dU,dV,dW,dX,dY,dZ,k0,k1,k2,k3,k4,k5,k6,k7,k8,k9,kA,kB,kC,kD,kE,kF,kG,kH,kI,kJ,kK,kL,kM,kN,kO,kP,kQ,kR,kS,kT,kU,kV,kW,kX,kY,kZ,v0,v1,v2,v3,v4,v5,v6,v7,v8,v9,vA,vB,vC,vD,vE] w R
abbrev weftlaw23_NatAll.L1 (n:Nat) (y2 y3:Int) (Y4:Option Addr) (yn4 yc4 yg11:Nat) (y12:Bool) (yg13:Nat) (y14:Bool) (y15:Int) (w:W) (R:E):Prop:=∀ d0 d1 d5 d6 d7 d8 d9 dA dG dH dI dJ dK dL dM dN dO dP dQ dR dS dT dU dV dW dX dY dZ k0 k1 k2 k3 k4 k5 k6 k7 k8 k9 kA kB kC kD kE kF kG kH kI kJ kK kL kM kN kO kP kQ kR kS kT kU kV kW kX kY kZ v0 v1 v2 v3 v4 v5 v6 v7 v8 v9 vA vB vC vD vE,weftlaw23_NatAll.l1 n y2 y3 Y4 yn4 yc4 yg11 y12 yg13 y14 y15 d0 d1 d5 d6 d7 d8 d9 dA dG dH dI dJ dK dL dM dN dO dP dQ dR dS dT dU dV dW dX dY dZ k0 k1 k2 k3 k4 k5 k6 k7 k8 k9 kA kB kC kD kE kF kG kH kI kJ kK kL kM kN kO kP kQ kR kS kT kU kV kW kX kY kZ v0 v1 v2 v3 v4 v5 v6 v7 v8 v9 vA vB vC vD vE w R
end Go.Proofs.YtphbdmafchjjeaaGreatDoorS
namespace Go.Proofs.YtphbdmafchjjeaaGreatDoorS
open Go Go.RowKit Go.Proofs Go.Proofs.YtphbdmafchjjeaaGreatDoorX
set_option maxRecDepth 100000
set_option linter.unusedVariables false
set_option linter.unusedSectionVars false
set_option linter.unusedSimpArgs false
abbrev bB (x:BP):List Blk:=nPB x++dpB x
structure NS (w0 w:World) (xs:List BP) (R:List Blk):Prop where
 of:OF w0 w (R++xs.flatMap bB) []
 fa:∀ x∈xs,MapF w x∧FX w0 x
 nd:(xs.map BP.gm).Nodup
section
variable {w0 w w':World} {xs A B:List BP} {x:BP} {R R':List Blk}
theorem NS.call (h:NS w0 w xs R) (k:Bel w w'):NS w0 w' xs R:=⟨h.of.call k,fun x hx=>⟨(h.fa x hx).1.mk (Mk.bel k),(h.fa x hx).2⟩,h.nd⟩
theorem NS.turn (h:NS w0 w xs R) (H:OF w0 w' (R'++xs.flatMap bB) []) (m:Mk w w'):NS w0 w' xs R':=⟨H,fun x hx=>⟨(h.fa x hx).1.mk m,(h.fa x hx).2⟩,h.nd⟩
theorem NS.bk (h:NS w0 w xs R) {y:Blk} (hy:y∈R):Bk w y.1 y.2.1 y.2.2:=memB h.of.own (List.mem_append.2 (Or.inl hy))
theorem NS.less {L:List Blk} (h:NS w0 w xs (L++R)):NS w0 w xs R:=h.turn (OF.less (L:=L) (by rw [← List.append_assoc]; exact h.of)) (Mk.refl w)
theorem NS.add (h:NS w0 w xs R) (k:BF w w' x []):NS w0 w' (xs++[x]) R:=by
 have o1:Own w w' (nPB x++(dpB x++[])):=k.of.own
 rw [List.append_nil] at o1
 have j:=Own.join h.of.own o1
 refine ⟨⟨j.perm ?_,fun y hy=>by cases hy⟩,fun z hz=>?_,?_⟩
 ·
  rw [List.flatMap_append,List.flatMap_cons,List.flatMap_nil,List.append_nil]
  refine List.perm_append_comm.trans ?_
  rw [List.append_assoc]
 ·
  rcases List.mem_append.1 hz with hz | hz
  ·
   have hf:=h.fa z hz
   exact ⟨hf.1.mk (Mk.bel k.of.own.bel),hf.2⟩
  ·
   rw [List.mem_singleton.1 hz]
   exact ⟨k.mp,⟨Nat.le_trans h.of.own.bel.size k.fx.ge,k.fx.bm,k.fx.rv,k.fx.iv,k.fx.l1,k.fx.l2,k.fx.l3⟩⟩
 ·
  rw [List.map_append,List.nodup_append]
  refine ⟨h.nd,by simp,fun a ha b hb=>?_⟩
  obtain ⟨z,hz,rfl⟩:=List.mem_map.1 ha
  have hb2:b=x.gm:=by simpa using hb
  obtain ⟨es,c,h1,_⟩:=(h.fa z hz).1
  have:=(Array.getElem?_eq_some_iff.1 h1).1
  have:=k.fx.ge
  omega
theorem NS.drop {A B:List BP} (h:NS w0 w (A++B) R):NS w0 w A R:=by
 refine ⟨?_,fun x hx=>h.fa x (List.mem_append.2 (Or.inl hx)),?_⟩
 ·
  have H:=h.of
  rw [List.flatMap_append] at H
  refine OF.less (L:=B.flatMap bB) (H.perm ?_)
  rw [← List.append_assoc]
  exact List.perm_append_comm
 ·
  have:=h.nd
  rw [List.map_append] at this
  exact (List.nodup_append.1 this).1
theorem NS.nil (k:Bel w0 w):NS w0 w [] []:=⟨⟨(Own.refl w0).call k,(fun x hx=>by cases hx)⟩,(fun x hx=>by cases hx),List.nodup_nil⟩
end
abbrev pts2 (o:Option BP):List Value:=[.pointer (npt o),.pointer (dpt o)]
theorem Sam.pts {x y:BP} (s:Sam x y):pts2 (some y)=pts2 (some x):=by
 show [Value.pointer (some ⟨y.gP,0,none⟩),Value.pointer (some ⟨y.gQ,0,none⟩)]=_
 rw [s.1,s.2.2.1]
 rfl
def NScrF (w:World) (A:Option Addr) (n:Nat):Prop:=0 < n→∃ a,A=some a∧∀ i,i < n→∃ (o:NOp) (l:List (Int×Int)),At w (a.add (i * 23)) (nov o)∧OpF w o l
section
variable {w0:World} (hT:Tab w0) (hg:GlF w0) {lo hi:Nat} (hlo:lo≤65535) (hhi:hi≤65535) {Y:Option Addr} {sn sc:Nat} (hS:NScrF w0 Y sn) (hs:sn≤900000) {g11 g13:Nat}
include hT hg hlo hhi hS hs
structure AS (w0 w:World) (g11 g13:Nat) (bg:Bool) (i:Nat) (oa ob:Option BP):Prop where
 ns:NS w0 w (oa.toList++(ob.toList++[])) [(g11,27,pts2 oa),(g13,27,pts2 ob)]
 la:∀ x∈oa.toList,x.l.length≤i
 lb:∀ x∈ob.toList,x.l.length≤i
 no:bg=false→ob=none
section
variable {q i:Nat} (hi1:i < sn) (hK:∀ (w':World) (bg:Bool) (oa ob:Option BP),AS w0 w' g11 g13 bg (i+1) oa ob→weftlaw23_NatAll.L1 q (lo:Int) (hi:Int) Y sn sc g11 true g13 bg ((i+1:Nat):Int) w' (Yes w0))
include hi1 hK
end
end
end Go.Proofs.YtphbdmafchjjeaaGreatDoorS
