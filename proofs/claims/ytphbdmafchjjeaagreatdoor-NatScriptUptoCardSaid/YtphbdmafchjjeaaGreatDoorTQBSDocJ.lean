import Derived.Test.YtphbdmafchjjeaaGreatDoorTQBSDocI
namespace Go.Proofs.YtphbdmafchjjeaaGreatDoorS
open Go Go.RowKit Go.Proofs Go.Proofs.YtphbdmafchjjeaaGreatDoorX
set_option maxRecDepth 100000
set_option linter.unusedVariables false
set_option linter.unusedSectionVars false
set_option linter.unusedSimpArgs false
theorem wu16 (x:Int):0≤IntKind.u16.wrap x∧IntKind.u16.wrap x≤65535:=by rw [IntKind.wrap_u16]; omega
theorem wu8 (x:Int):0≤IntKind.u8.wrap x∧IntKind.u8.wrap x≤255:=by rw [IntKind.wrap_u8]; omega
theorem wu32 (x:Int):0≤IntKind.u32.wrap x∧IntKind.u32.wrap x≤4294967295:=by rw [IntKind.wrap_u32]; omega
theorem bset {l:List Int} (h:Bytes l) (j:Nat) {y:Int} (hy:0≤y∧y≤255):Bytes (l.set j y):=fun z hz=>by
 rcases List.mem_or_eq_of_mem_set hz with hz | rfl
 ·
  exact h z hz
 ·
  exact hy
theorem bvs_set:∀ (l:List (Int×Int)) (i:Nat) (y:Int),i < l.length→(bvs l).set (i * 2+1) (.int .u16 y)=bvs (l.set i ((l.getD i (0,0)).1,y))
 | [],i,y,hi=>by simp at hi
 | x::l,0,y,hi=>rfl
 | x::l,i+1,y,hi=>by
  have k:=bvs_set l i y (by simpa using hi)
  have e:(i+1) * 2+1=(i * 2+1)+2:=by omega
  rw [e]
  show Value.int .u32 x.1::Value.int .u16 x.2::(bvs l).set (i * 2+1) (.int .u16 y)=_
  rw [k]
  rfl
theorem Mk.tr {w w' w2:World} (m:Mk w w') (k:Mk w' w2):Mk w w2:=fun r es c h=>k r es c (m r es c h)
section
variable {w0 a:World} {cs:List Lst} {R:List Blk}
theorem of_setM {L:List Blk} (k:Nat) {g i:Nat} {t:TypeId} {l:List Value} {v:Value} {K:World→Prop} (h:OF w0 a L cs) (hk:L[k]?=some (g,t,l)) (hi:i < l.length) (hn:∀ w1,OF w0 w1 (L.set k (g,t,l.set i v)) cs→Mk a w1→K w1):
  MayC a ⟨g,i,none⟩∧Let (a.setCell ⟨g,i,none⟩ v) K:=of_setB k h hk hi fun w1 H u=>hn w1 H (Mk.but u (h.own.bk k hk))
theorem of_putM {L:List Blk} (k:Nat) {g o n:Nat} {t:TypeId} {l vs:List Value} {K:World→Prop} (h:OF w0 a L cs) (hk:L[k]?=some (g,t,l)) (hn:vs.length=n) (hi:o+n≤l.length) (hw:∀ w1,OF w0 w1 (L.set k (g,t,splice l o vs)) cs→Mk a w1→K w1):
  May a ⟨g,o,none⟩ n∧Let (putCells a ⟨g,o,none⟩ vs 0) K:=by
 have hp:=Bk.put (t:=t) (o:=o) vs a l 0 (h.own.bk k hk) (by omega)
 rw [Nat.add_zero] at hp
 exact ⟨(h.own.bk k hk).mayN hi,hw _ (h.over k hk hp.2 hp.1) (Mk.but hp.2 (h.own.bk k hk))⟩
theorem of_mkM {L:List Blk} {t:TypeId} {n:Nat} (l:List Value) {vs:List Value} {K:Nat→World→Prop} (h:OF w0 a L cs) (hl:l.length=n) (hv:vs.length=n) (hk:∀ g w1,OF w0 w1 ((g,t,vs)::L) cs→Mk a w1→K g w1):
  Let a.heap.size fun g=>Let (a.alloc (.cells l.toArray t)) fun w2=>May w2 ⟨g,0,none⟩ n∧Let (putCells w2 ⟨g,0,none⟩ vs 0) (K g):=
 of_putM 0 (h.new t l) rfl hv (by omega) fun w1 H m=>by
  rw [splice_all _ _ (by omega)] at H
  exact hk _ w1 H (Mk.tr (Mk.bel ((Bel.refl a).alloc _)) m)
theorem sls_byteM {os:List (Option Blk)} {ls:List LC} {i:Nat} {x:LC} (H:OF w0 a (Bls os++R) cs) (k:SLs os ls) (hx:ls[i]?=some x) {j:Nat} (hj:j < x.n):∃ b,x.A=some ⟨b,0,none⟩∧∀ {y:Int} {K:World→Prop},
  (∀ w1 (os':List (Option Blk)),OF w0 w1 (Bls os'++R) cs→SLs os' (ls.set i ⟨x.A,x.n,x.c,x.l.set j y⟩)→Mk a w1→K w1)→MayC a ⟨b,j,none⟩∧Let (a.setCell ⟨b,j,none⟩ (.int .u8 y)) K:=by
 have hil:i < ls.length:=(List.getElem?_eq_some_iff.1 hx).1
 have hi:i < os.length:=by rw [k.1]; exact hil
 have ho:os[i]?=some os[i]:=List.getElem?_eq_getElem hi
 have sl:=k.2 i _ x ho hx
 have hn:=sl.1
 rcases sl.2 with ⟨_,_,_,e⟩ | ⟨b,pad,e,hA,hc⟩
 ·
  rw [e] at hn
  simp at hn
  omega
 refine ⟨b,hA,fun {y K} hK=>?_⟩
 have p:=bls_erase ho
 rw [e] at p
 have H1:OF w0 a ((b,5,bv (x.l++pad))::(Bls (os.eraseIdx i)++R)) cs:=H.perm (p.append_right R)
 refine of_setM 0 H1 rfl (by rw [bv_len,List.length_append]; omega) fun w1 H2 m=>?_
 have e2:(bv (x.l++pad)).set j (.int .u8 y)=bv (x.l.set j y++pad):=by rw [bv_set,List.set_append_left _ _ (by omega)]
 have H3:OF w0 w1 ((b,5,(bv (x.l++pad)).set j (.int .u8 y))::(Bls (os.eraseIdx i)++R)) cs:=H2
 rw [e2] at H3
 refine hK w1 (os.set i (some (b,5,bv (x.l.set j y++pad)))) (H3.perm ((bls_set hi (some (b,5,bv (x.l.set j y++pad)))).symm.append_right R)) ⟨by simp [k.1],fun i' o' x' h1 h2=>?_⟩ m
 by_cases hii:i'=i
 ·
  subst hii
  rw [List.getElem?_set_self hi] at h1
  rw [List.getElem?_set_self hil] at h2
  injection h1 with h1
  injection h2 with h2
  subst h1 h2
  exact ⟨by rw [List.length_set]; exact hn,Or.inr ⟨b,pad,rfl,hA,by rw [List.length_set]; exact hc⟩⟩
 ·
  rw [List.getElem?_set_ne (by omega)] at h1 h2
  exact k.2 i' o' x' h1 h2
end
def RetO (w0 wB:World) (R:List Blk) (cs:List Lst) (e:Ending) (w':World):Prop:=∃ (o:NOp) (l:List (Int×Int)) (os:List (Option Blk)) (oL:Option Blk),
 e=.returned (.agg (nov o).toArray)∧OF w0 w' (Bls os++(oL.toList++R)) cs∧NX o l os oL∧NF o l∧Mk wB w'
section
variable {w0 w wB:World} {R:List Blk} {cs:List Lst} {os:List (Option Blk)} {oL:Option Blk} {o:NOp} {l:List (Int×Int)} {g2 g4:Nat}
abbrev oB (g2 g4:Nat) (o:NOp) (os:List (Option Blk)) (oL:Option Blk) (R:List Blk):List Blk:=(g2,42,nov o)::(g4,42,noz)::(Bls os++(oL.toList++R))
theorem other_j4 (H:OF w0 w (oB g2 g4 o os oL R) cs) (mB:Mk wB w) (x:NX o l os oL) (f:NF o l):qq35.J4 g2 g4 w (RetO w0 wB R cs):=by
 unfold qq35.J4; intros
 rw [qq35.j4_eq]
 refine ⟨_,_,_,_,_,_,_,_,_,_,_,_,_,_,_,_,_,_,_,_,_,_,_,_,_,_,_,_,_,⟨rfl,(H.own.bk 0 rfl).at⟩,?_⟩
 refine of_putM 1 H rfl rfl (Nat.le_refl 23) fun w1 H2 m=>?_
 rw [splice_all _ _ (by rfl)] at H2
 refine ⟨_,_,_,_,_,_,_,_,_,_,_,_,_,_,_,_,_,_,_,_,_,_,_,_,_,_,_,_,_,⟨rfl,(H2.own.bk 1 rfl).at⟩,?_⟩
 exact ⟨o,l,os,oL,rfl,H2.tail.tail,x,f,mB.tr m⟩
theorem body_set (H:OF w0 w (oB g2 g4 o os oL R) cs) (x:NX o l os oL) (f:NF o l) {j:Nat} (hj:j < o.m):∃ b,o.B=some ⟨b,0,none⟩∧∀ {y:Int} {K:World→Prop},0≤y∧y≤255→
  (∀ w1 (os':List (Option Blk)),OF w0 w1 (oB g2 g4 o os' oL R) cs→NX { o with p:={ o.p with body:=o.p.body.set j y } } l os' oL→NF { o with p:={ o.p with body:=o.p.body.set j y } } l→Mk w w1→K w1)→MayC w ⟨b,j,none⟩∧Let (w.setCell ⟨b,j,none⟩ (.int .u8 y)) K:=by
 have H1:OF w0 w (Bls os++((g2,42,nov o)::(g4,42,noz)::(oL.toList++R))) cs:=H.perm (perm2 _ _ _ _).symm
 obtain ⟨b,hb,hw⟩:=sls_byteM H1 x.ls (i:=0) (x:=⟨o.B,o.m,o.d,o.p.body⟩) rfl hj
 refine ⟨b,hb,fun {y K} hy hK=>hw fun w1 os' H2 k2 m=>?_⟩
 exact hK w1 os' (H2.perm (perm2 _ _ _ _)) ⟨k2,x.rv,x.ll⟩
  ⟨⟨f.p.tos,f.p.id,f.p.off,f.p.ttl,f.p.proto,f.p.src,f.p.dst,f.p.opts,bset f.p.body j hy,f.p.lo,by rw [List.length_set]; exact f.p.lb⟩,f.t,f.bf,f.pt,f.n6,f.m6,f.l6⟩ m
theorem opts_set (H:OF w0 w (oB g2 g4 o os oL R) cs) (x:NX o l os oL) (f:NF o l) {j:Nat} (hj:j < o.n):∃ b,o.A=some ⟨b,0,none⟩∧∀ {y:Int} {K:World→Prop},0≤y∧y≤255→
  (∀ w1 (os':List (Option Blk)),OF w0 w1 (oB g2 g4 o os' oL R) cs→NX { o with p:={ o.p with opts:=o.p.opts.set j y } } l os' oL→NF { o with p:={ o.p with opts:=o.p.opts.set j y } } l→Mk w w1→K w1)→MayC w ⟨b,j,none⟩∧Let (w.setCell ⟨b,j,none⟩ (.int .u8 y)) K:=by
 have H1:OF w0 w (Bls os++((g2,42,nov o)::(g4,42,noz)::(oL.toList++R))) cs:=H.perm (perm2 _ _ _ _).symm
 obtain ⟨b,hb,hw⟩:=sls_byteM H1 x.ls (i:=1) (x:=⟨o.A,o.n,o.c,o.p.opts⟩) rfl hj
 refine ⟨b,hb,fun {y K} hy hK=>hw fun w1 os' H2 k2 m=>?_⟩
 exact hK w1 os' (H2.perm (perm2 _ _ _ _)) ⟨k2,x.rv,x.ll⟩
  ⟨⟨f.p.tos,f.p.id,f.p.off,f.p.ttl,f.p.proto,f.p.src,f.p.dst,bset f.p.opts j hy,f.p.body,by rw [List.length_set]; exact f.p.lo,f.p.lb⟩,f.t,f.bf,f.pt,f.n6,f.m6,f.l6⟩ m
theorem perm_l {α:Type} (a b:α) (X L R:List α):(a::b::(X++(L++R))).Perm (L++(a::b::(X++R))):=
 (((List.perm_append_comm_assoc X L R).cons b).cons a).trans (perm2 _ _ _ _).symm
theorem port_set (H:OF w0 w (oB g2 g4 o os oL R) cs) (x:NX o l os oL) (f:NF o l) {j:Nat} (hj:j < o.ln):∃ b,o.L=some ⟨b,0,none⟩∧(∀ w',OF w0 w' (oB g2 g4 o os oL R) cs→w'.cell? ⟨b,j * 2+1,none⟩=some (.int .u16 (l.getD j (0,0)).2))∧∀ {y:Int} {K:World→Prop},0≤y∧y≤65535→
  (∀ w1 (l':List (Int×Int)) (oL':Option Blk),OF w0 w1 (oB g2 g4 o os oL' R) cs→NX o l' os oL'→NF o l'→Mk w w1→K w1)→MayC w ⟨b,j * 2+1,none⟩∧Let (w.setCell ⟨b,j * 2+1,none⟩ (.int .u16 y)) K:=by
 have hll:=x.ll
 rcases x.rv.2 with ⟨_,_,_,e⟩ | ⟨b,pad,e,hA,hc⟩
 ·
  have e2:=bvs_len l
  rw [e] at e2
  have e3:0=l.length * 2:=e2
  omega
 subst e
 have hlt:j * 2+1 < (bvs l).length:=by rw [bvs_len]; omega
 refine ⟨b,hA,fun w' h=>?_,fun {y K} hy hK=>?_⟩
 ·
  have H1:=h.perm (perm_l _ _ (Bls os) _ R)
  refine H1.own.cell 0 (j * 2+1) rfl ?_
  rw [List.getElem?_append_left hlt]
  exact bvs_get l j (by omega) 1 _ rfl
 ·
  have H1:OF w0 w ((b,65,bvs l++pad)::((g2,42,nov o)::(g4,42,noz)::(Bls os++R))) cs:=H.perm (perm_l _ _ (Bls os) _ R)
  refine of_setM 0 H1 rfl (by rw [List.length_append]; omega) fun w1 H2 m=>?_
  have H3:OF w0 w1 ((b,65,(bvs l++pad).set (j * 2+1) (.int .u16 y))::((g2,42,nov o)::(g4,42,noz)::(Bls os++R))) cs:=H2
  rw [List.set_append_left _ _ hlt,bvs_set l j y (by omega)] at H3
  have hl2:(l.set j ((l.getD j (0,0)).1,y)).length=l.length:=by rw [List.length_set]
  refine hK w1 (l.set j ((l.getD j (0,0)).1,y)) (some (b,65,bvs (l.set j ((l.getD j (0,0)).1,y))++pad)) (H3.perm (perm_l _ _ (Bls os) [_] R).symm) ⟨x.ls,⟨?_,Or.inr ⟨b,pad,rfl,hA,?_⟩⟩,by rw [hl2]; exact hll⟩ ⟨f.p,f.t,fun z hz=>?_,f.pt,f.n6,f.m6,f.l6⟩ m
  ·
   rw [bvs_len,hl2,hll]
  ·
   rw [hc,bvs_len,bvs_len,hl2]
  ·
   rcases List.mem_or_eq_of_mem_set hz with hz | rfl
   ·
    exact f.bf z hz
   ·
    refine ⟨(f.bf (l.getD j (0,0)) ?_).1,hy⟩
    rw [List.getD_eq_getElem?_getD,List.getElem?_eq_getElem (by omega)]
    exact List.getElem_mem _
theorem idx_of {k:Int} {n:Nat} (hk:0≤k) (hn:0 < n):∃ j:Nat,k % (n:Int)=(j:Int)∧j < n:=by
 have i0:=Int.emod_nonneg k (b:=(n:Int)) (by omega)
 have i1:=Int.emod_lt_of_pos k (b:=(n:Int)) (by omega)
 exact ⟨(k % (n:Int)).toNat,by omega,by omega⟩
theorem u16_of (x:Int):∃ q:Nat,IntKind.u16.wrap x=(q:Int)∧q≤65535:=by
 have:=wu16 x
 exact ⟨(IntKind.u16.wrap x).toNat,by omega,by omega⟩
variable {k how:Int} (hk:0≤k) (hk2:k≤9223372036854775807)
include hk hk2
theorem other_j6 (H:OF w0 w (oB g2 g4 o os oL R) cs) (mB:Mk wB w) (x:NX o l os oL) (f:NF o l) {b:Bool} (hb:b=true→0 < o.ln):qq35.J6 k g2 g4 how b w (RetO w0 wB R cs):=by
 unfold qq35.J6; intros
 rw [qq35.j6_eq]
 refine ifB (fun hbt=>?_) (fun _=>?_)
 ·
  have hn:=hb hbt
  obtain ⟨j,ej,hj⟩:=idx_of (k:=k) (n:=o.ln) hk hn
  refine draws (fun w'=>OF w0 w' (oB g2 g4 o os oL R) cs) (H.call (Bel.refl w).drew) fun w2 e2=>?_
  replace H:=H.call (Bel.refl w).drew
  have m2:Mk w w.drew:=Mk.bel (Bel.refl w).drew
  rw [← e2] at H m2
  obtain ⟨b2,hA,hrd,hw⟩:=port_set H x f hj
  refine ⟨o.L,o.ln,o.lc,fun w' h=>h.own.cell 0 20 rfl rfl,o.L,o.ln,o.lc,fun w' h=>h.own.cell 0 20 rfl rfl,by omega,?_⟩
  refine let_as (j:Int) (by rw [tm hk]; exact ej) ?_
  refine ⟨o.L,o.ln,o.lc,fun w' h=>h.own.cell 0 20 rfl rfl,o.L,o.ln,o.lc,fun w' h=>h.own.cell 0 20 rfl rfl,by omega,?_⟩
  refine let_as (j:Int) (by rw [tm hk]; exact ej) ?_
  refine ⟨_,hA,⟨by omega,by omega⟩,(l.getD j (0,0)).2,fun w' h=>?_,?_⟩
  ·
   rw [Int.toNat_natCast,add_blk,add_blk,Nat.zero_add]
   exact hrd w' h
  refine let_id (let_id (let_id (let_id ?_)))
  refine ⟨_,hA,⟨by omega,by omega⟩,?_⟩
  rw [Int.toNat_natCast,add_blk,add_blk,Nat.zero_add]
  refine hw (wu16 _) fun w1 l' oL' H2 x2 f2 m=>?_
  have kk:=other_j4 H2 (mB.tr (m2.tr m)) x2 f2
  exact ⟨by with_reducible apply kk⟩
 refine ifE (fun _=>?_) (fun _=>?_)
 ·
  refine ⟨o.t.sp,H.own.cell 0 16 rfl rfl,?_⟩
  refine let_id (let_id (let_id (let_id ?_)))
  refine of_setM 0 H rfl (Nat.lt_of_lt_of_le (by decide:16 < 23) (Nat.le_refl 23)) fun w1 H1 m1=>?_
  refine ⟨o.src,H1.own.cell 0 18 rfl rfl,?_⟩
  refine let_id (let_id (let_id ?_))
  refine of_setM 0 H1 rfl (Nat.lt_of_lt_of_le (by decide:18 < 23) (Nat.le_refl 23)) fun w2 H2 m2=>?_
  have kk:=other_j4 (o:={ o with t:={ o.t with sp:=IntKind.u16.wrap (o.t.sp+IntKind.u16.wrap (IntKind.i64.wrap (1+Int.tmod k 3))) },src:=IntKind.u32.wrap (o.src+IntKind.u32.wrap (Int.tmod k 3)) }) H2 (mB.tr (m1.tr m2)) ⟨x.ls,x.rv,x.ll⟩
   ⟨f.p,⟨f.t.src,f.t.dst,f.t.proto,wu16 _,f.t.dp⟩,f.bf,f.pt,f.n6,f.m6,f.l6⟩
  exact ⟨by with_reducible apply kk⟩
 refine ifE (fun _=>?_) (fun _=>?_)
 ·
  refine ⟨o.t.dst,H.own.cell 0 14 rfl rfl,?_⟩
  refine let_id (let_id (let_id (let_id ?_)))
  refine of_setM 0 H rfl (Nat.lt_of_lt_of_le (by decide:14 < 23) (Nat.le_refl 23)) fun w1 H1 m1=>?_
  refine ⟨(o.pt:Int),H1.own.cell 0 22 rfl rfl,?_⟩
  refine let_id (let_id (let_id ?_))
  obtain ⟨q,eq,hq⟩:=u16_of ((o.pt:Int)+IntKind.u16.wrap (Int.tmod k 3))
  rw [eq]
  refine of_setM 0 H1 rfl (Nat.lt_of_lt_of_le (by decide:22 < 23) (Nat.le_refl 23)) fun w2 H2 m2=>?_
  have kk:=other_j4 (o:={ o with t:={ o.t with dst:=IntKind.u32.wrap (o.t.dst+IntKind.u32.wrap (IntKind.i64.wrap (1+Int.tmod k 3))) },pt:=q }) H2 (mB.tr (m1.tr m2)) ⟨x.ls,x.rv,x.ll⟩
   ⟨f.p,⟨f.t.src,wu32 _,f.t.proto,f.t.sp,f.t.dp⟩,f.bf,hq,f.n6,f.m6,f.l6⟩
  exact ⟨by with_reducible apply kk⟩
 refine ifE (fun _=>?_) (fun _=>?_)
 ·
  refine ⟨o.t.dp,H.own.cell 0 17 rfl rfl,?_⟩
  refine let_id (let_id (let_id (let_id ?_)))
  refine of_setM 0 H rfl (Nat.lt_of_lt_of_le (by decide:17 < 23) (Nat.le_refl 23)) fun w1 H1 m1=>?_
  refine ⟨o.p.id,H1.own.cell 0 3 rfl rfl,?_⟩
  refine let_id (let_id ?_)
  refine of_setM 0 H1 rfl (Nat.lt_of_lt_of_le (by decide:3 < 23) (Nat.le_refl 23)) fun w2 H2 m2=>?_
  have kk:=other_j4 (o:={ o with t:={ o.t with dp:=IntKind.u16.wrap (o.t.dp+IntKind.u16.wrap (IntKind.i64.wrap (1+Int.tmod k 3))) },p:={ o.p with id:=IntKind.u16.wrap (o.p.id+IntKind.u16.wrap k) } }) H2 (mB.tr (m1.tr m2)) ⟨x.ls,x.rv,x.ll⟩
   ⟨⟨f.p.tos,wu16 _,f.p.off,f.p.ttl,f.p.proto,f.p.src,f.p.dst,f.p.opts,f.p.body,f.p.lo,f.p.lb⟩,⟨f.t.src,f.t.dst,f.t.proto,f.t.sp,wu16 _⟩,f.bf,f.pt,f.n6,f.m6,f.l6⟩
  exact ⟨by with_reducible apply kk⟩
 ·
  have kk:=other_j4 H mB x f
  exact ⟨by with_reducible apply kk⟩
theorem other_j5 (H:OF w0 w (oB g2 g4 o os oL R) cs) (mB:Mk wB w) (x:NX o l os oL) (f:NF o l) {b:Bool} (hb:b=true→0 < o.n):qq35.J5 k g2 g4 how b w (RetO w0 wB R cs):=by
 unfold qq35.J5; intros
 rw [qq35.j5_eq]
 refine ifB (fun hbt=>?_) (fun _=>?_)
 ·
  have hn:=hb hbt
  obtain ⟨j,ej,hj⟩:=idx_of (k:=k) (n:=o.n) hk hn
  refine draws (fun w'=>Bk w' g2 42 (nov o)) ((H.call (Bel.refl w).drew).own.bk 0 rfl) fun w2 e2=>?_
  replace H:=H.call (Bel.refl w).drew
  have m2:Mk w w.drew:=Mk.bel (Bel.refl w).drew
  rw [← e2] at H m2
  obtain ⟨b2,hA,hw⟩:=opts_set H x f hj
  refine ⟨o.A,o.n,o.c,fun w' h=>h.cell 11 rfl,o.A,o.n,o.c,fun w' h=>h.cell 11 rfl,by omega,?_⟩
  refine let_as (j:Int) (by rw [tm hk]; exact ej) ?_
  refine let_id ?_
  refine ⟨_,hA,⟨by omega,by omega⟩,?_⟩
  rw [Int.toNat_natCast,add_blk,Nat.zero_add]
  refine hw (wu8 _) fun w1 os' H2 x2 f2 m=>⟨H2.own.bk 0 rfl,?_⟩
  have kk:=other_j4 (o:={ o with p:={ o.p with opts:=o.p.opts.set j (IntKind.u8.wrap k) } }) H2 (mB.tr (m2.tr m)) x2 f2
  exact ⟨by with_reducible apply kk⟩
 refine ifE (fun _=>?_) (fun _=>?_)
 ·
  refine ⟨o.L,o.ln,o.lc,H.own.cell 0 20 rfl rfl,?_⟩
  have kk:=other_j6 hk hk2 H mB x f (how:=how) (b:=decide ((o.ln:Int) > 0)) (fun h=>by have:=of_decide_eq_true h; omega)
  exact ⟨by with_reducible apply kk⟩
 ·
  have kk:=other_j6 hk hk2 H mB x f (how:=how) (b:=false) (fun h=>by cases h)
  exact ⟨by with_reducible apply kk⟩
theorem other_j3 (H:OF w0 w (oB g2 g4 o os oL R) cs) (mB:Mk wB w) (x:NX o l os oL) (f:NF o l) {b:Bool} (hb:b=true→0 < o.m):qq35.J3 k g2 g4 how b w (RetO w0 wB R cs):=by
 unfold qq35.J3; intros
 rw [qq35.j3_eq]
 refine ifB (fun hbt=>?_) (fun _=>?_)
 ·
  have hn:=hb hbt
  obtain ⟨j,ej,hj⟩:=idx_of (k:=k) (n:=o.m) hk hn
  refine draws (fun w'=>OF w0 w' (oB g2 g4 o os oL R) cs) (H.call (Bel.refl w).drew) fun w2 e2=>?_
  replace H:=H.call (Bel.refl w).drew
  have m2:Mk w w.drew:=Mk.bel (Bel.refl w).drew
  rw [← e2] at H m2
  obtain ⟨b2,hA,hw⟩:=body_set H x f hj
  refine ⟨o.B,o.m,o.d,fun w' h=>h.own.cell 0 12 rfl rfl,o.B,o.m,o.d,fun w' h=>h.own.cell 0 12 rfl rfl,by omega,?_⟩
  refine let_as (j:Int) (by rw [tm hk]; exact ej) ?_
  refine ⟨o.B,o.m,o.d,fun w' h=>h.own.cell 0 12 rfl rfl,o.B,o.m,o.d,fun w' h=>h.own.cell 0 12 rfl rfl,by omega,?_⟩
  refine let_as (j:Int) (by rw [tm hk]; exact ej) ?_
  refine ⟨_,hA,⟨by omega,by omega⟩,o.p.body.getD j 0,fun w' h=>?_,?_⟩
  ·
   have H1:OF w0 w' (Bls os++((g2,42,nov o)::(g4,42,noz)::(oL.toList++R))) cs:=h.perm (perm2 _ _ _ _).symm
   have by1:By w' o.B o.m o.p.body:=(x.ls.by H1.own (i:=0) rfl).1
   obtain ⟨a,ea,hc⟩:=by1.2 (by omega)
   rw [hA] at ea
   injection ea with ea
   subst ea
   rw [Int.toNat_natCast]
   exact hc j hj
  refine let_as (k % 255) (tm hk) ?_
  refine let_as (1+k % 255) (w64 (by omega) (by omega)) ?_
  refine let_as (1+k % 255) (w8 (by omega) (by omega)) ?_
  refine let_id ?_
  refine ⟨_,hA,⟨by omega,by omega⟩,?_⟩
  rw [Int.toNat_natCast,add_blk,Nat.zero_add]
  refine hw (xor8 (f.p.body.getD j) (by omega)) fun w1 os' H2 x2 f2 m=>?_
  have kk:=other_j4 (o:={ o with p:={ o.p with body:=o.p.body.set j (Go.bits .xor .u8 (o.p.body.getD j 0) (1+k % 255)) } }) H2 (mB.tr (m2.tr m)) x2 f2
  exact ⟨by with_reducible apply kk⟩
 refine ifE (fun _=>?_) (fun _=>?_)
 ·
  refine ⟨o.A,o.n,o.c,H.own.cell 0 11 rfl rfl,?_⟩
  have kk:=other_j5 hk hk2 H mB x f (how:=how) (b:=decide ((o.n:Int) > 0)) (fun h=>by have:=of_decide_eq_true h; omega)
  exact ⟨by with_reducible apply kk⟩
 ·
  have kk:=other_j5 hk hk2 H mB x f (how:=how) (b:=false) (fun h=>by cases h)
  exact ⟨by with_reducible apply kk⟩
theorem other_j2 (H:OF w0 w (oB g2 g4 o os oL R) cs) (mB:Mk wB w) (x:NX o l os oL) (f:NF o l):qq35.J2 k g2 g4 w (RetO w0 wB R cs):=by
 unfold qq35.J2; intros
 rw [qq35.j2_eq]
 refine let_as (k / 2) (by rw [td hk,w64 (by omega) (by omega)]) ?_
 refine let_as (k / 2 % 6) (tm (by omega)) ?_
 refine let_as (k / 12) (by rw [td hk,w64 (by omega) (by omega)]) ?_
 refine ifE (fun _=>?_) (fun _=>?_)
 ·
  refine ⟨o.B,o.m,o.d,H.own.cell 0 12 rfl rfl,?_⟩
  have kk:=other_j3 (k:=k / 12) (by omega) (by omega) H mB x f (how:=k / 2 % 6) (b:=decide ((o.m:Int) > 0)) (fun h=>by have:=of_decide_eq_true h; omega)
  exact ⟨by with_reducible apply kk⟩
 ·
  have kk:=other_j3 (k:=k / 12) (by omega) (by omega) H mB x f (how:=k / 2 % 6) (b:=false) (fun h=>by cases h)
  exact ⟨by with_reducible apply kk⟩
omit hk hk2 in
theorem perm_o {α:Type} (a b:α) (X L Y M R:List α):((Y++(M++[]))++(a::b::(X++(L++R)))).Perm (X++(L++(a::b::(Y++(M++R))))):=by
 have e:((Y++(M++[]))++(X++(L++R))).Perm (X++(L++(Y++(M++R)))):=by
  have e1:(Y++(M++[]))++(X++(L++R))=(Y++M)++((X++L)++R):=by simp
  have e2:X++(L++(Y++(M++R)))=(X++L)++((Y++M)++R):=by simp
  rw [e1,e2]
  exact List.perm_append_comm_assoc _ _ _
 refine (perm2 _ _ _ _).trans (((e.cons b).cons a).trans ?_)
 exact ((perm2 X (L++(Y++(M++R))) a b).symm).trans ((perm2 L (Y++(M++R)) a b).symm.append_left X)
theorem other_j1 (H:OF w0 w (oB g2 g4 o os oL R) cs) (mB:Mk wB w) (x:NX o l os oL) (f:NF o l):qq35.J1 k g2 g4 w (RetO w0 wB R cs):=by
 unfold qq35.J1; intros
 rw [qq35.j1_eq]
 refine let_as (k % 2) (tm hk) ?_
 refine ifE (fun _=>?_) (fun _=>?_)
 ·
  have h:OpF w o l:=(nx_at (OF.tail (OF.tail H)).own x f).1
  refine ⟨_,_,_,_,_,_,_,_,_,_,_,_,_,_,_,_,_,_,_,_,_,_,_,_,_,_,_,_,_,⟨rfl,(H.own.bk 0 rfl).at⟩,?_⟩
  refine call_of (alone23_t h) ?_
  rintro e w3 ⟨o',os',oL',rfl,HX,x',f',_⟩
  refine ⟨_,_,_,_,_,_,_,_,_,_,_,_,_,_,_,_,_,_,_,_,_,_,_,_,_,_,_,_,_,rfl,?_⟩
  have H1:=OF.less (OF.less ((H.join HX).perm (perm_o _ _ (Bls os) oL.toList (Bls os') oL'.toList R):OF w0 w3 (Bls os++(oL.toList++_)) cs))
  refine of_putM 0 H1 rfl rfl (Nat.le_refl 23) fun w4 H2 m4=>?_
  rw [splice_all _ _ (by rfl)] at H2
  have kk:=other_j2 hk hk2 (o:=o') H2 (mB.tr ((Mk.bel HX.bel).tr m4)) x' f'
  exact ⟨by with_reducible apply kk⟩
 ·
  have kk:=other_j2 hk hk2 H mB x f
  exact ⟨by with_reducible apply kk⟩
end
theorem other23_t {w0 w:World} {R:List Blk} {cs:List Lst} {os:List (Option Blk)} {oL:Option Blk} {o:NOp} {l:List (Int×Int)} (H:OF w0 w (Bls os++(oL.toList++R)) cs) (x:NX o l os oL) (f:NF o l) {k:Int} (hk:-9223372036854775808≤k∧k≤9223372036854775807):
  Calls Tryz.prog 9 #[.agg (nov o).toArray,.int .i64 k] w (RetO w0 w R cs):=by
 refine qq35.run ?_
 unfold qq35.s
 refine let_as w.heap.size rfl (let_as (w.alloc (.cells (nov o).toArray 42)) rfl ?_)
 have H1:=H.new 42 (nov o)
 have m1:Mk w (w.alloc (.cells (nov o).toArray 42)):=Mk.bel ((Bel.refl w).alloc _)
 generalize w.alloc (.cells (nov o).toArray 42)=w1 at H1 m1 ⊢
 refine let_as w1.heap.size rfl (let_as (w1.alloc (.cells noz.toArray 42)) rfl ?_)
 have H2:=(H1.new 42 noz).perm (List.Perm.swap _ _ _)
 have m2:Mk w1 (w1.alloc (.cells noz.toArray 42)):=Mk.bel ((Bel.refl w1).alloc _)
 generalize w1.alloc (.cells noz.toArray 42)=w2 at H2 m2 ⊢
 refine ifD (fun h1=>?_) (fun h1=>?_)
 ·
  refine let_as (k+1) (w64 (by omega) (by omega)) ?_
  refine let_as (0-(k+1)) (w64 (by omega) (by omega)) ?_
  have kk:=other_j1 (k:=0-(k+1)) (by omega) (by omega) H2 (m1.tr m2) x f
  exact ⟨by with_reducible apply kk⟩
 ·
  have kk:=other_j1 (k:=k) (by omega) (by omega) H2 (m1.tr m2) x f
  exact ⟨by with_reducible apply kk⟩
end Go.Proofs.YtphbdmafchjjeaaGreatDoorS
