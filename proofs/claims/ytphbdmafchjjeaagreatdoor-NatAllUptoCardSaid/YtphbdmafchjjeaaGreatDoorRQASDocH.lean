import Derived.Test.YtphbdmafchjjeaaGreatDoorRQASDocG
import Derived.Test.YtphbdmafchjjeaaGreatDoorRQASFW2
namespace Go.Proofs.YtphbdmafchjjeaaGreatDoorS
open Go Go.RowKit Go.Proofs Go.Proofs.YtphbdmafchjjeaaGreatDoorX
set_option maxRecDepth 100000
set_option linter.unusedVariables false
set_option linter.unusedSectionVars false
set_option linter.unusedSimpArgs false
abbrev bB (x:BP):List Blk:=nPB x++dpB x
structure NS (w0 w:World) (xs:List BP) (R:List Blk):Prop where
 of:OF w0 w (R++xs.flatMap bB) []
 fa:∀ x∈xs,MapF w x∧FX w0 x
 nd:(xs.map BP.gm).Nodup
section
variable {w0 w w':World} {xs A B:List BP} {x:BP} {R R':List Blk}
theorem NS.call (h:NS w0 w xs R) (k:Bel w w'):NS w0 w' xs R:=⟨h.of.call k,fun x hx=>⟨(h.fa x hx).1.mk (Mk.bel k),(h.fa x hx).2⟩,h.nd⟩
theorem NS.turn (h:NS w0 w xs R) (H:OF w0 w' (R'++xs.flatMap bB) []) (m:Mk w w'):NS w0 w' xs R':=⟨H,fun x hx=>⟨(h.fa x hx).1.mk m,(h.fa x hx).2⟩,h.nd⟩
theorem NS.bk (h:NS w0 w xs R) {y:Blk} (hy:y∈R):Bk w y.1 y.2.1 y.2.2:=memB h.of.own (List.mem_append.2 (Or.inl hy))
theorem NS.less {L:List Blk} (h:NS w0 w xs (L++R)):NS w0 w xs R:=h.turn (OF.less (L:=L) (by rw [← List.append_assoc]; exact h.of)) (Mk.refl w)
theorem NS.reb (h:NS w0 w xs R) (p:R.Perm R'):NS w0 w xs R':=h.turn (h.of.perm (p.append_right _)) (Mk.refl w)
theorem ns_new {t:TypeId} {l:List Value} {K:Nat→World→Prop} (h:NS w0 w xs R) (hk:∀ g w1,NS w0 w1 xs ((g,t,l)::R)→Bel w w1→K g w1):Let w.heap.size fun g=>Let (w.alloc (.cells l.toArray t)) (K g):=
 hk _ _ (h.turn (R':=(w.heap.size,t,l)::R) (h.of.new t l) (Mk.bel ((Bel.refl w).alloc _))) ((Bel.refl w).alloc _)
theorem ns_put (k:Nat) {g o n:Nat} {t:TypeId} {l vs:List Value} {K:World→Prop} (h:NS w0 w xs R) (hk:R[k]?=some (g,t,l)) (hn:vs.length=n) (hi':o+n≤l.length)
  (hw:∀ w1,NS w0 w1 xs (R.set k (g,t,splice l o vs))→K w1):May w ⟨g,o,none⟩ n∧Let (putCells w ⟨g,o,none⟩ vs 0) K:=by
 have lt:=(List.getElem?_eq_some_iff.1 hk).1
 have hb:Bk w g t l:=h.bk (List.mem_of_getElem? hk)
 have hp:=Bk.put (t:=t) (o:=o) vs w l 0 hb (by omega)
 rw [show o+0=o from rfl] at hp
 refine ⟨hb.mayN hi',hw _ (h.turn ?_ (Mk.but hp.2 hb))⟩
 have:=h.of.over k (by rw [List.getElem?_append_left lt]; exact hk) hp.2 hp.1
 rwa [List.set_append_left _ _ lt] at this
theorem fm_mid (f:BP→List Blk):(R++(A++x::B).flatMap f).Perm (f x++((A++B).flatMap f++R)):=by
 rw [List.flatMap_append,List.flatMap_cons,List.flatMap_append]
 refine List.perm_append_comm.trans ?_
 rw [← List.append_assoc (f x)]
 refine List.Perm.append_right R ?_
 exact List.perm_append_comm_assoc _ _ _
theorem NS.focus (h:NS w0 w (A++x::B) R):BF w0 w x ((A++B).flatMap bB++R):=by
 have hx:=h.fa x (List.mem_append.2 (Or.inr List.mem_cons_self))
 refine ⟨?_,hx.1,hx.2⟩
 have:=h.of.perm (fm_mid bB)
 rwa [List.append_assoc] at this
theorem NS.unfocus {y:BP} (h:NS w0 w (A++x::B) R) (k:BF w0 w' y ((A++B).flatMap bB++R)) (s:Sam x y) (m:Mf x.gm w w'):NS w0 w' (A++y::B) R:=by
 have nd:=h.nd
 rw [List.map_append,List.map_cons] at nd
 have nd2:=List.nodup_append.1 nd
 have nd3:=List.nodup_cons.1 nd2.2.1
 refine ⟨?_,fun z hz=>?_,?_⟩
 ·
  have H:=k.of
  rw [← List.append_assoc] at H
  exact H.perm (fm_mid bB).symm
 ·
  rcases List.mem_append.1 hz with hz | hz
  ·
   have hf:=h.fa z (List.mem_append.2 (Or.inl hz))
   exact ⟨hf.1.mf m (nd2.2.2 _ (List.mem_map.2 ⟨z,hz,rfl⟩) _ List.mem_cons_self),hf.2⟩
  ·
   rcases List.mem_cons.1 hz with rfl | hz
   ·
    exact ⟨k.mp,k.fx⟩
   ·
    have hf:=h.fa z (List.mem_append.2 (Or.inr (List.mem_cons_of_mem _ hz)))
    exact ⟨hf.1.mf m (fun e=>nd3.1 (e ▸ List.mem_map.2 ⟨z,hz,rfl⟩)),hf.2⟩
 ·
  rw [List.map_append,List.map_cons,s.2.1]
  exact nd
theorem NS.add (h:NS w0 w xs R) (k:BF w w' x []):NS w0 w' (xs++[x]) R:=by
 have o1:Own w w' (nPB x++(dpB x++[])):=k.of.own
 rw [List.append_nil] at o1
 have j:=Own.join h.of.own o1
 refine ⟨⟨j.perm ?_,fun y hy=>by cases hy⟩,fun z hz=>?_,?_⟩
 ·
  rw [List.flatMap_append,List.flatMap_cons,List.flatMap_nil,List.append_nil]
  refine List.perm_append_comm.trans ?_
  rw [List.append_assoc]
 ·
  rcases List.mem_append.1 hz with hz | hz
  ·
   have hf:=h.fa z hz
   exact ⟨hf.1.mk (Mk.bel k.of.own.bel),hf.2⟩
  ·
   rw [List.mem_singleton.1 hz]
   exact ⟨k.mp,⟨Nat.le_trans h.of.own.bel.size k.fx.ge,k.fx.bm,k.fx.rv,k.fx.iv,k.fx.l1,k.fx.l2,k.fx.l3⟩⟩
 ·
  rw [List.map_append,List.nodup_append]
  refine ⟨h.nd,by simp,fun a ha b hb=>?_⟩
  obtain ⟨z,hz,rfl⟩:=List.mem_map.1 ha
  have hb2:b=x.gm:=by simpa using hb
  obtain ⟨es,c,h1,_⟩:=(h.fa z hz).1
  have:=(Array.getElem?_eq_some_iff.1 h1).1
  have:=k.fx.ge
  omega
theorem NS.drop {A B:List BP} (h:NS w0 w (A++B) R):NS w0 w A R:=by
 refine ⟨?_,fun x hx=>h.fa x (List.mem_append.2 (Or.inl hx)),?_⟩
 ·
  have H:=h.of
  rw [List.flatMap_append] at H
  refine OF.less (L:=B.flatMap bB) (H.perm ?_)
  rw [← List.append_assoc]
  exact List.perm_append_comm
 ·
  have:=h.nd
  rw [List.map_append] at this
  exact (List.nodup_append.1 this).1
theorem NS.nil (k:Bel w0 w):NS w0 w [] []:=⟨⟨(Own.refl w0).call k,(fun x hx=>by cases hx)⟩,(fun x hx=>by cases hx),List.nodup_nil⟩
end
abbrev pts2 (o:Option BP):List Value:=[.pointer (npt o),.pointer (dpt o)]
theorem Sam.pts {x y:BP} (s:Sam x y):pts2 (some y)=pts2 (some x):=by
 show [Value.pointer (some ⟨y.gP,0,none⟩),Value.pointer (some ⟨y.gQ,0,none⟩)]=_
 rw [s.1,s.2.2.1]
 rfl
def NScrF (w:World) (A:Option Addr) (n:Nat):Prop:=0 < n→∃ a,A=some a∧∀ i,i < n→∃ (o:NOp) (l:List (Int×Int)),At w (a.add (i * 23)) (nov o)∧OpF w o l
section
variable {w0:World} (hT:Tab w0) (hg:GlF w0) {lo hi:Nat} (hlo:lo≤65535) (hhi:hi≤65535) {Y:Option Addr} {sn sc:Nat} (hS:NScrF w0 Y sn) (hs:sn≤900000) {g11 g13:Nat}
include hT hg hlo hhi hS hs
theorem all_j3 {w:World} {q i:Nat} (hi1:i < sn) {A B:List BP} {oc:Option BP} {R:List Blk} {g3:Nat} {bg:Bool} (h:NS w0 w (A++(oc.toList++B)) ((g3,27,pts2 oc)::R)) (hl:∀ x∈oc.toList,x.l.length≤i)
  (hK:∀ w' (od:Option BP),NS w0 w' (A++(od.toList++B)) R→pts2 od=pts2 oc→(∀ x∈od.toList,x.l.length≤i+1)→qq17.L1 q (lo:Int) (hi:Int) Y sn sc g11 true g13 bg ((i+1:Nat):Int) w' (Yes w0)):
  qq17.J3 q (lo:Int) (hi:Int) Y sn sc g11 true g13 bg (i:Int) g3 w (Yes w0):=by
 obtain ⟨a,ea,ha⟩:=hS (by omega)
 obtain ⟨x,l,hat,hx⟩:=ha i hi1
 unfold qq17.J3; intros
 rw [qq17.j3_eq]
 have kd:Bel w w.drew:=(Bel.refl w).drew
 refine draws (fun w'=>Bk w' g3 27 (pts2 oc)∧Bel w0 w') ⟨(h.call kd).bk List.mem_cons_self,(h.call kd).of.own.bel⟩ fun w2 e2=>?_
 rw [← e2] at kd
 have h2:=h.call kd
 refine ⟨_,_,⟨rfl,fun w' h=>h.1.at⟩,a,ea,⟨by omega,by omega⟩,?_⟩
 refine ⟨_,_,_,_,_,_,_,_,_,_,_,_,_,_,_,_,_,_,_,_,_,_,_,_,_,_,_,_,_,⟨rfl,fun w' h=>hat.bel h.2⟩,?_⟩
 have kb:Bel w0 w2:=h2.of.own.bel
 have fin:∀ w' (od:Option BP),NS w0 w' (A++(od.toList++B)) ((g3,27,pts2 oc)::R)→pts2 od=pts2 oc→(∀ x∈od.toList,x.l.length≤i+1)→
   qq17.L1 q (lo:Int) (hi:Int) Y sn sc g11 true g13 bg ((i+1:Nat):Int) w' (Yes w0)∧(Bk w' g3 27 (pts2 oc)∧Bel w0 w'):=fun w' od a1 a2 a3=>
  ⟨hK w' od (a1.less (L:=[_])) a2 a3,a1.bk List.mem_cons_self,a1.of.own.bel⟩
 refine plays_cc (hg.bel kb) (hx.bel kb) (fun w' k=>?_) (fun w' k=>?_)
 ·
  obtain ⟨f1,f2⟩:=fin w' oc (h2.call k) rfl (fun x hx=>Nat.le_succ_of_le (hl x hx))
  refine ⟨_,rfl,f2,?_⟩
  refine ifNot (fun h=>by cases h) (fun _=>?_)
  refine let_as ((i+1:Nat):Int) (by rw [w64 (by omega) (by omega)]; omega) ?_
  exact f1 ..
 ·
  have h3:=h2.call k
  cases oc with
  | none=>
   refine call_of (counts_nil w' (o:=x)) ?_
   rintro e w4 ⟨rfl,k4⟩
   obtain ⟨f1,f2⟩:=fin w4 none (h3.call k4) rfl (fun x hx=>by cases hx)
   refine ⟨_,rfl,_,rfl,f2,?_⟩
   refine ifNot (fun h=>by cases h) (fun _=>?_)
   refine let_as ((i+1:Nat):Int) (by rw [w64 (by omega) (by omega)]; omega) ?_
   exact f1 ..
  | some z=>
   have h4:NS w0 w' (A++z::B) ((g3,27,pts2 (some z))::R):=h3
   refine counts_c hT h4.focus (by have:=hl z List.mem_cons_self; omega) hx.pt (fun w5 y hB hs2 hl2 hm=>?_)
   have h5:=h4.unfocus hB hs2 hm
   obtain ⟨f1,f2⟩:=fin w5 (some y) h5 hs2.pts (fun x hx=>by
    rw [List.mem_singleton.1 hx]
    have:=hl z List.mem_cons_self
    omega)
   refine ⟨_,rfl,_,rfl,f2,?_⟩
   refine ifNot (fun h=>by cases h) (fun _=>?_)
   refine let_as ((i+1:Nat):Int) (by rw [w64 (by omega) (by omega)]; omega) ?_
   exact f1 ..
structure AS (w0 w:World) (g11 g13:Nat) (bg:Bool) (i:Nat) (oa ob:Option BP):Prop where
 ns:NS w0 w (oa.toList++(ob.toList++[])) [(g11,27,pts2 oa),(g13,27,pts2 ob)]
 la:∀ x∈oa.toList,x.l.length≤i
 lb:∀ x∈ob.toList,x.l.length≤i
 no:bg=false→ob=none
omit hT hg hS hs hlo hhi in
theorem both_ns {w w':World} {xs:List BP} {R:List Blk} (h:NS w0 w xs R) {e:Ending} {lo hi:Nat} (k:RetBt w lo hi e w'):∃ o:Option BP,e=.returned (.tuple #[.agg #[.pointer (npt o),.pointer (dpt o)],.bool true])∧NS w0 w' (xs++(o.toList++[])) R∧(∀ x∈o.toList,x.l=[])∧∀ x∈o.toList,BF w w' x []:=by
 rcases k with ⟨rfl,k⟩ | ⟨x,rfl,k,hl⟩
 ·
  refine ⟨none,rfl,?_,(fun x hx=>by cases hx),(fun x hx=>by cases hx)⟩
  rw [Option.toList_none,List.nil_append,List.append_nil]
  exact h.call k
 ·
  refine ⟨some x,rfl,h.add k,fun y hy=>?_,fun y hy=>?_⟩
  ·
   rw [List.mem_singleton.1 hy]
   exact hl
  ·
   rw [List.mem_singleton.1 hy]
   exact k
section
variable {q i:Nat} (hi1:i < sn) (hK:∀ (w':World) (bg:Bool) (oa ob:Option BP),AS w0 w' g11 g13 bg (i+1) oa ob→qq17.L1 q (lo:Int) (hi:Int) Y sn sc g11 true g13 bg ((i+1:Nat):Int) w' (Yes w0))
include hi1 hK
theorem all_j2 {w:World} {oa ob:Option BP} {g3:Nat} (h:NS w0 w (oa.toList++(ob.toList++[])) ((g3,27,pts2 oa)::[(g11,27,pts2 oa),(g13,27,pts2 ob)])) (la:∀ x∈oa.toList,x.l.length≤i) (lb:∀ x∈ob.toList,x.l.length≤i):
  qq17.J2 q (lo:Int) (hi:Int) Y sn sc g11 true g13 true (i:Int) g3 w (Yes w0):=by
 obtain ⟨a,ea,ha⟩:=hS (by omega)
 obtain ⟨x,l,hat,hx⟩:=ha i hi1
 unfold qq17.J2; intros
 rw [qq17.j2_eq]
 have b13:Bk w g13 27 (pts2 ob):=h.bk (y:=(g13,27,pts2 ob)) (List.mem_cons_of_mem _ (List.mem_cons_of_mem _ List.mem_cons_self))
 refine ⟨_,_,⟨rfl,b13.at⟩,?_⟩
 refine ns_put (vs:=pts2 ob) 0 h rfl rfl (Nat.le_refl 2) fun w3 h3=>?_
 replace h3:NS w0 w3 (oa.toList++(ob.toList++[])) ((g3,27,pts2 ob)::[(g11,27,pts2 oa),(g13,27,pts2 ob)]):=h3
 refine call_of (both_c w3 hlo hhi) ?_
 intro e w4 hB
 obtain ⟨oy,rfl,h4,hnil,hbf⟩:=both_ns h3 hB
 refine ⟨_,_,_,rfl,?_⟩
 refine ns_new (l:=[.pointer none,.pointer none]) h4 fun g9 w10 h10 k10=>?_
 refine ns_put (vs:=pts2 oy) 0 h10 rfl rfl (Nat.le_refl 2) fun w11 h11=>?_
 replace h11:NS w0 w11 ((oa.toList++(ob.toList++[]))++(oy.toList++[])) ((g9,27,pts2 oy)::((g3,27,pts2 ob)::[(g11,27,pts2 oa),(g13,27,pts2 ob)])):=h11
 have kd:Bel w11 w11.drew:=(Bel.refl w11).drew
 refine draws (fun w'=>Bk w' g9 27 (pts2 oy)∧Bel w0 w') ⟨(h11.call kd).bk List.mem_cons_self,(h11.call kd).of.own.bel⟩ fun w13 e13=>?_
 rw [← e13] at kd
 have h13:=h11.call kd
 refine ifNot (fun h=>by cases h) (fun _=>?_)
 refine ⟨_,_,⟨rfl,fun w' h=>h.1.at⟩,a,ea,⟨by omega,by omega⟩,?_⟩
 refine ⟨_,_,_,_,_,_,_,_,_,_,_,_,_,_,_,_,_,_,_,_,_,_,_,_,_,_,_,_,_,⟨rfl,fun w' h=>hat.bel h.2⟩,?_⟩
 have fin:∀ w' (od:Option BP),NS w0 w' ((oa.toList++(ob.toList++[]))++(od.toList++[])) ((g9,27,pts2 oy)::((g3,27,pts2 ob)::[(g11,27,pts2 oa),(g13,27,pts2 ob)]))→
   qq17.J3 q (lo:Int) (hi:Int) Y sn sc g11 true g13 true (i:Int) g3 w' (Yes w0)∧(Bk w' g9 27 (pts2 oy)∧Bel w0 w'):=fun w' od hd=>by
  refine ⟨?_,hd.bk List.mem_cons_self,hd.of.own.bel⟩
  have h1:NS w0 w' (oa.toList++(ob.toList++[])) ((g3,27,pts2 ob)::[(g11,27,pts2 oa),(g13,27,pts2 ob)]):=(hd.less (L:=[_])).drop
  exact all_j3 hT hg hlo hhi hS hs hi1 (A:=oa.toList) (oc:=ob) (B:=[]) h1 lb (fun w2 oe a1 a2 a3=>hK w2 true oa oe ⟨by rw [a2]; exact a1,fun x hx=>Nat.le_succ_of_le (la x hx),a3,fun h=>by cases h⟩)
 cases oy with
 | none=>
  refine call_of (counts_nil w13 (o:=x)) ?_
  rintro e w40 ⟨rfl,k40⟩
  obtain ⟨f1,f2⟩:=fin w40 none (h13.call k40)
  refine ⟨_,rfl,f2,?_⟩
  refine ifNot (fun h=>by cases h) (fun _=>?_)
  exact ⟨by with_reducible apply f1⟩
 | some z=>
  refine counts_c hT h13.focus (by rw [hnil z List.mem_cons_self]; exact Nat.zero_le _) hx.pt (fun w5 y hB hs2 hl2 hm=>?_)
  have h5:=h13.unfocus hB hs2 hm
  obtain ⟨f1,f2⟩:=fin w5 (some y) h5
  refine ⟨_,rfl,f2,?_⟩
  refine ifNot (fun h=>by cases h) (fun _=>?_)
  exact ⟨by with_reducible apply f1⟩
end
theorem all_l:∀ (q i:Nat) (w:World) (bg:Bool) (oa ob:Option BP),sn-i < q→i≤sn→AS w0 w g11 g13 bg i oa ob→qq17.L1 q (lo:Int) (hi:Int) Y sn sc g11 true g13 bg (i:Int) w (Yes w0):=by
 intro q
 induction q with
 | zero=>intro i w bg oa ob hq; omega
 | succ q ih=>
  intro i w bg oa ob hq hi' st
  unfold qq17.L1; intros
  rw [qq17.l1_eq]
  refine ifD (fun h4=>?_) (fun h4=>?_)
  ·
   have hi1:i < sn:=by omega
   obtain ⟨a,ea,ha⟩:=hS (by omega)
   obtain ⟨x,l,hat,hx⟩:=ha i hi1
   have hK:∀ (w':World) (bg:Bool) (oa ob:Option BP),AS w0 w' g11 g13 bg (i+1) oa ob→qq17.L1 q (lo:Int) (hi:Int) Y sn sc g11 true g13 bg ((i+1:Nat):Int) w' (Yes w0):=fun w' bg oa ob st=>ih (i+1) w' bg oa ob (by omega) (by omega) st
   clear ih
   have h:=st.ns
   have b11:Bk w g11 27 (pts2 oa):=h.bk (y:=(g11,27,pts2 oa)) List.mem_cons_self
   refine ⟨_,_,⟨rfl,b11.at⟩,?_⟩
   refine ns_new (l:=[.pointer none,.pointer none]) h fun g3 w4 h4 k4=>?_
   refine ns_put (vs:=pts2 oa) 0 h4 rfl rfl (Nat.le_refl 2) fun w5 h5=>?_
   replace h5:NS w0 w5 (oa.toList++(ob.toList++[])) ((g3,27,pts2 oa)::[(g11,27,pts2 oa),(g13,27,pts2 ob)]):=h5
   refine ⟨a,ea,⟨by omega,by omega⟩,x.on,hat.bel h5.of.own.bel 1 _ rfl,?_⟩
   refine ifB (fun h6=>?_) (fun h6=>?_)
   ·
    refine ifNot (fun h7=>?_) (fun h7=>?_)
    ·
     have eo:=st.no h7
     subst eo
     refine call_of (both_c w5 hlo hhi) ?_
     intro e w8 hB
     obtain ⟨oy,rfl,h8,hnil,hbf⟩:=both_ns h5 hB
     refine ⟨_,_,_,rfl,?_⟩
     refine ns_put (vs:=pts2 oy) 2 h8 rfl rfl (Nat.le_refl 2) fun w13 h13=>?_
     refine ifNot (fun h=>by cases h) (fun _=>?_)
     have h14:NS w0 w13 (oa.toList++(oy.toList++[])) ((g3,27,pts2 oa)::[(g11,27,pts2 oa),(g13,27,pts2 oy)]):=by
      have e:(oa.toList++((none:Option BP).toList++[]))++(oy.toList++[])=oa.toList++(oy.toList++[]):=by simp
      rw [← e]
      exact h13
     have k:=all_j2 hT hg hlo hhi hS hs hi1 hK h14 st.la (fun x hx=>by rw [hnil x hx]; exact Nat.zero_le _)
     exact ⟨by with_reducible apply k⟩
    ·
     have k:=all_j2 hT hg hlo hhi hS hs hi1 hK h5 st.la st.lb
     rw [h7]
     exact ⟨by with_reducible apply k⟩
   ·
    have k:=all_j3 hT hg hlo hhi hS hs hi1 (bg:=bg) (g11:=g11) (g13:=g13) (A:=[]) (oc:=oa) (B:=ob.toList++[]) h5 st.la (fun w2 oe a1 a2 a3=>hK w2 bg oe ob ⟨by rw [a2]; exact a1,a3,fun x hx=>Nat.le_succ_of_le (st.lb x hx),st.no⟩)
    exact ⟨by with_reducible apply k⟩
  ·
   refine ifNot (fun h7=>?_) (fun h7=>?_)
   ·
    refine call_of (both_c w hlo hhi) ?_
    intro e w14 hB
    obtain ⟨oy,rfl,h8,hnil,hbf⟩:=both_ns st.ns hB
    exact ⟨_,_,_,rfl,rfl,h8.of.own.bel⟩
   ·
    exact ⟨rfl,st.ns.of.own.bel⟩
end
theorem NatAll_t {w:World} (hTg:Tab w∧GlF w) {a b c d:Int} (ha:0≤a∧a≤65535) (hb:0≤b∧b≤65535) (hc:0≤c∧c≤65535) (hd:0≤d∧d≤65535) {Y:Option Addr} {sn sc:Nat} (hS:NScrF w Y sn∧sn≤900000):
  Calls Tryz.prog 3 #[.int .u16 a,.int .u16 b,.int .u16 c,.int .u16 d,.slice Y sn sc] w (Yes w):=by
 obtain ⟨lo,rfl⟩:=Int.eq_ofNat_of_zero_le ha.1
 obtain ⟨hi,rfl⟩:=Int.eq_ofNat_of_zero_le hb.1
 obtain ⟨lo2,rfl⟩:=Int.eq_ofNat_of_zero_le hc.1
 obtain ⟨hi2,rfl⟩:=Int.eq_ofNat_of_zero_le hd.1
 refine qq17.run ?_
 unfold qq17.s
 refine call_of (both_c w (lo:=lo) (hi:=hi) (by omega) (by omega)) ?_
 intro e w1 hB
 obtain ⟨oa,rfl,h1,hnil,_⟩:=both_ns (NS.nil (Bel.refl w)) hB
 rw [List.nil_append] at h1
 refine ⟨_,_,_,rfl,?_⟩
 refine ns_new (l:=[.pointer none,.pointer none]) h1 fun g6 w7 h7 _=>?_
 refine ns_put (vs:=pts2 oa) 0 h7 rfl rfl (Nat.le_refl 2) fun w8 h8=>?_
 replace h8:NS w w8 (oa.toList++[]) [(g6,27,pts2 oa)]:=h8
 refine call_of (first_t (w0:=w8) (hTg.1.bel h8.of.own.bel) (Bel.refl w8)) ?_
 rintro e w9 ⟨rfl,k9⟩
 refine ⟨_,rfl,?_⟩
 refine ifNot (fun h=>by cases h) (fun _=>?_)
 refine ifNot (fun h=>by cases h) (fun _=>?_)
 have h9:=h8.call k9
 have j1:qq17.J1 (lo2:Int) (hi2:Int) Y sn sc g6 true w9 (Yes w):=by
  unfold qq17.J1; intros
  rw [qq17.j1_eq]
  refine ns_new (l:=[.pointer none,.pointer none]) h9 fun g13 w2 h2 _=>?_
  refine ⟨sn+1,?_⟩
  have k:=all_l hTg.1 hTg.2 (lo:=lo2) (hi:=hi2) (by omega) (by omega) hS.1 hS.2 (sc:=sc) (g11:=g6) (g13:=g13) (sn+1) 0 w2 false oa none (by omega) (Nat.zero_le _) ⟨h2.reb (List.Perm.swap _ _ _),(fun x hx=>by rw [hnil x hx]; exact Nat.zero_le _),(fun x hx=>by cases hx),fun _=>rfl⟩
  exact k ..
 exact ⟨by with_reducible apply j1⟩
end Go.Proofs.YtphbdmafchjjeaaGreatDoorS
