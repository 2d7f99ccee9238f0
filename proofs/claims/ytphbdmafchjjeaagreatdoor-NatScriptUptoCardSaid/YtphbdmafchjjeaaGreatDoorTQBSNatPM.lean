import Derived.Test.YtphbdmafchjjeaaGreatDoorTQBSNatLM
import Derived.Test.YtphbdmafchjjeaaGreatDoorTQBSFLM
namespace Go.Proofs.YtphbdmafchjjeaaGreatDoorS
open Go Go.RowKit Go.Proofs Go.Proofs.YtphbdmafchjjeaaGreatDoorX
set_option maxRecDepth 100000
set_option linter.unusedVariables false
set_option linter.unusedSectionVars false
set_option linter.unusedSimpArgs false
def Mk (w w':World):Prop:=∀ (r:Nat) (es:Array MapEntry) (c:Nat),w.heap[r]?=some (.map es c)→w'.heap[r]?=some (.map es c)
theorem Mk.refl (w:World):Mk w w:=fun _ _ _ h=>h
theorem Mk.bel {w w':World} (k:Bel w w'):Mk w w':=fun r es c h=>bel_map k h
theorem Mk.but {w w':World} {g:Nat} {t:TypeId} {l:List Value} (k:But g w w') (hb:Bk w g t l):Mk w w':=fun r es c h=>but_map k hb h
abbrev PX (gP gm lo hi:Nat) (us:List Us):List Blk:=(gP,78,pvs lo hi gm)::us.map ublk
section
variable {w0 w w':World} {gP gm lo hi:Nat} {us:List Us} {R R':List Blk} {cs:List Lst}
theorem Pts.front (P:Pts w0 w gP gm lo hi us R cs):OF w0 w (R++PX gP gm lo hi us) cs:=P.of.perm (List.perm_append_comm (l₁:=PX gP gm lo hi us))
theorem Pts.turn (P:Pts w0 w gP gm lo hi us R cs) (H:OF w0 w' (R'++PX gP gm lo hi us) cs) (m:Mk w w'):Pts w0 w' gP gm lo hi us R' cs:=
 ⟨H.perm (List.perm_append_comm (l₂:=PX gP gm lo hi us)),let ⟨es,c,h1,h2⟩:=P.mp; ⟨es,c,m _ _ _ h1,h2⟩,P.ge,P.bm⟩
theorem Pts.bk (P:Pts w0 w gP gm lo hi us R cs) (k:Nat) {g:Nat} {t:TypeId} {l:List Value} (hk:R[k]?=some (g,t,l)):Bk w g t l:=
 P.front.own.bk k (by rw [List.getElem?_append_left (List.getElem?_eq_some_iff.1 hk).1]; exact hk)
theorem Pts.mem (P:Pts w0 w gP gm lo hi us R cs) {x:Blk} (h:x∈R):Bk w x.1 x.2.1 x.2.2:=by
 obtain ⟨k,hk⟩:=List.mem_iff_getElem?.1 h
 exact P.bk k hk
theorem Pts.less {L:List Blk} (P:Pts w0 w gP gm lo hi us (L++R) cs):Pts w0 w gP gm lo hi us R cs:=
 P.turn (OF.less (L:=L) (by rw [← List.append_assoc]; exact P.front)) (Mk.refl w)
end
section
variable {w0 a:World} {R:List Blk} {cs:List Lst} {t:TypeId} {k bytes:Nat} {o:Option Blk} {A:Option Addr} {n c:Nat} {vs:List Value}
theorem rv_appM {zs:List Value} (hz:zs.length=k) (h:OF w0 a (o.toList++R) cs) (q:RV t k o A n c vs) {v:List Value} (hv:v.length=k) (h1:v.all one1=true) {g0:Nat} (hB:At a ⟨g0,0,.none⟩ v)
  (hm:(n+1) * bytes≤140737488355328) (hn:n+1≤9223372036854775807) {K:Option Addr→Nat→World→Prop}
  (hK:∀ (o':Option Blk) A' c' (wb:World),OF w0 wb (o'.toList++R) cs→RV t k o' A' (n+1) c' (vs++v)→Mk a wb→K A' c' wb):AppE a k bytes t zs A n c (some ⟨g0,0,.none⟩) 1 K:=by
 have ln:=q.1
 have e1:(n+1) * k=n * k+k:=Nat.succ_mul n k
 refine ⟨v,by rw [hv,Nat.one_mul],h1,fun _=>⟨_,rfl,hB⟩,fun hfit=>?_,fun hlt=>⟨vs,ln,fun hp=>?_,⟨hm,hn⟩,fun cap h2 h3=>?_⟩⟩
 ·
  rcases q.2 with ⟨rfl,rfl,rfl,rfl⟩ | ⟨b,pad,rfl,rfl,hc⟩
  ·
   omega
  ·
   have e:((some (⟨b,0,.none⟩:Addr)).map (·.add (n * k)))=some ⟨b,n * k,.none⟩:=by simp [add_blk]
   rw [e]
   have hle:(n+1) * k≤c * k:=Nat.mul_le_mul_right k hfit
   have hlen:(vs++pad).length=c * k:=by rw [List.length_append,hc]
   have hp0:n * k+v.length≤(vs++pad).length:=by rw [hlen,hv]; omega
   refine ⟨fun _=>⟨_,rfl,(h.own.bk 0 rfl).mayN hp0⟩,?_⟩
   have hp:=Bk.put (t:=t) (o:=n * k) v a (vs++pad) 0 (h.own.bk 0 rfl) (by rw [Nat.add_zero]; exact hp0)
   rw [Nat.add_zero,splice_at _ _ _ ln] at hp
   refine hK (some (b,t,(vs++v)++pad.drop v.length)) _ _ _ ?_ ⟨by rw [List.length_append,ln,hv,e1],Or.inr ⟨b,pad.drop v.length,rfl,rfl,?_⟩⟩ (Mk.but hp.2 (h.own.bk 0 rfl))
   ·
    have:=h.over 0 rfl hp.2 hp.1
    rw [List.append_assoc]
    exact this
   ·
    rw [hc,List.length_append,List.length_drop]
    omega
 ·
  rcases q.2 with ⟨rfl,rfl,rfl,rfl⟩ | ⟨b,pad,rfl,rfl,hc⟩
  ·
   simp at hp
  ·
   refine ⟨_,rfl,fun j u hu=>(h.own.bk 0 rfl).at j u ?_⟩
   rw [List.getElem?_append_left (List.getElem?_eq_some_iff.1 hu).1]
   exact hu
 ·
  have hM:OF w0 a R cs:=by
   rcases q.2 with ⟨rfl,_⟩ | ⟨b,pad,rfl,_⟩
   ·
    exact h
   ·
    exact h.tail
  obtain ⟨zl,ez,hzl⟩:=zero_rows zs.toArray (cap-(n+1))
  rw [ez,show (vs.toArray++v.toArray++zl.toArray)=((vs++v)++zl).toArray by simp]
  have kb:Bel a (a.drew.alloc (.cells ((vs++v)++zl).toArray t)):=(Bel.refl a).drew.alloc _
  refine hK (some (a.heap.size,t,(vs++v)++zl)) _ _ _ ((hM.call (Bel.refl a).drew).new t _) ⟨by rw [List.length_append,ln,hv,e1],Or.inr ⟨_,zl,rfl,rfl,?_⟩⟩ (Mk.bel kb)
  rw [List.length_append,ln,hv,hzl,← e1,show zs.toArray.size=k by simpa using hz,← Nat.add_mul,show n+1+(cap-(n+1))=cap by omega]
variable {w:World} {gP gm lo hi:Nat} {us:List Us}
end
abbrev ppd (x:Int×Int):List Value:=[.int .u8 x.1,.int .u16 x.2]
def Pls (w:World) (A:Option Addr) (n:Nat) (l:List (Int×Int)):Prop:=l.length=n∧(0 < n→∃ a,A=some a∧∀ i,i < n→At w (a.add (i * 2)) (ppd (l.getD i (0,0))))
theorem Pls.bel {w w':World} {A:Option Addr} {n:Nat} {l:List (Int×Int)} (h:Pls w A n l) (k:Bel w w'):Pls w' A n l:=
 ⟨h.1,fun hn=>let ⟨a,e,hc⟩:=h.2 hn; ⟨a,e,fun i hi=>(hc i hi).bel k⟩⟩
theorem Pls.rd {w:World} {A:Option Addr} {n:Nat} {l:List (Int×Int)} (h:Pls w A n l) {i:Nat} (hi:i < n):∃ a,A=some a∧At w (a.add (i * 2)) (ppd (l.getD i (0,0))):=by
 obtain ⟨a,e,hc⟩:=h.2 (by omega)
 exact ⟨a,e,hc i hi⟩
section
variable {w:World} {A:Option Addr} {n c:Nat} {l:List (Int×Int)} (h:Pls w A n l) (hn:n≤1000000000)
include h hn
end
end Go.Proofs.YtphbdmafchjjeaaGreatDoorS
namespace Go.Proofs.YtphbdmafchjjeaaGreatDoorS
open Go Go.RowKit Go.Proofs Go.Proofs.YtphbdmafchjjeaaGreatDoorX
set_option maxRecDepth 100000
set_option linter.unusedVariables false
set_option linter.unusedSectionVars false
set_option linter.unusedSimpArgs false
structure NOp where
 k:Int
 on:Bool
 p:Pk
 A:Option Addr
 n:Nat
 c:Nat
 B:Option Addr
 m:Nat
 d:Nat
 t:Tp
 src:Int
 dst:Int
 L:Option Addr
 ln:Nat
 lc:Nat
 pr:Int
 pt:Nat
def nov (o:NOp):List Value:=[.int .i64 o.k,.bool o.on,.int .u8 o.p.tos,.int .u16 o.p.id,.bool o.p.df,.bool o.p.mf,.int .i64 o.p.off,.int .u8 o.p.ttl,.int .u8 o.p.proto,.int .u32 o.p.src,.int .u32 o.p.dst,.slice o.A o.n o.c,.slice o.B o.m o.d,
 .int .u32 o.t.src,.int .u32 o.t.dst,.int .u8 o.t.proto,.int .u16 o.t.sp,.int .u16 o.t.dp,.int .u32 o.src,.int .u32 o.dst,.slice o.L o.ln o.lc,.int .u8 o.pr,.int .u16 (o.pt:Int)]
abbrev noz:List Value:=[.int .i64 0,.bool false,.int .u8 0,.int .u16 0,.bool false,.bool false,.int .i64 0,.int .u8 0,.int .u8 0,.int .u32 0,.int .u32 0,.slice none 0 0,.slice none 0 0,.int .u32 0,.int .u32 0,.int .u8 0,.int .u16 0,.int .u16 0,.int .u32 0,.int .u32 0,.slice none 0 0,.int .u8 0,.int .u16 0]
structure Iv (us:List Us) (l:List (Int×Int)) (lo hi:Nat):Prop where
 has:∀ q (m:Nat),hasU us q m=true↔(q,(m:Int))∈l
 cnt:∀ q,cntU us q=(l.countP (fun x=>decide (x.1=q)):Int)
 nd:l.Nodup
 rg:∀ x∈l,(lo:Int)≤x.2∧x.2≤(hi:Int)
section
variable {us us':List Us} {l:List (Int×Int)} {lo hi:Nat}
theorem Iv.nil:Iv [] [] lo hi:=⟨fun q m=>by rw [hasU_nil]; simp,fun q=>by rw [cntU_nil]; rfl,List.nodup_nil,fun x hx=>by cases hx⟩
theorem Iv.same (h:Iv us l lo hi) (h1:∀ q m,hasU us' q m=hasU us q m) (h2:∀ q,cntU us' q=cntU us q):Iv us' l lo hi:=
 ⟨fun q m=>by rw [h1]; exact h.has q m,fun q=>by rw [h2]; exact h.cnt q,h.nd,h.rg⟩
theorem Iv.no (h:Iv us l lo hi) {q:Int} {m:Nat} (k:hasU us q m=false):(q,(m:Int)) ∉ l:=fun hm=>by
 rw [(h.has q m).2 hm] at k
 cases k
theorem Iv.take (h:Iv us l lo hi) {pr:Int} {n:Nat} (k:hasU us pr n=false) (h3:lo≤n) (h4:n≤hi) (h1:∀ q m,hasU us' q m=(hasU us q m || decide (q=pr∧m=n))) (h2:∀ q,cntU us' q=cntU us q+(if q=pr then 1 else 0)):
  Iv us' (l++[(pr,(n:Int))]) lo hi:=by
 refine ⟨fun q m=>?_,fun q=>?_,?_,fun x hx=>?_⟩
 ·
  rw [h1,Bool.or_eq_true,h.has q m,decide_eq_true_iff,List.mem_append,List.mem_singleton,Prod.mk.injEq]
  constructor
  ·
   rintro (h5 | ⟨rfl,rfl⟩)
   ·
    exact Or.inl h5
   ·
    exact Or.inr ⟨rfl,rfl⟩
  ·
   rintro (h5 | ⟨h5,h6⟩)
   ·
    exact Or.inl h5
   ·
    exact Or.inr ⟨h5,by omega⟩
 ·
  rw [h2,h.cnt q,List.countP_append]
  by_cases hq:q=pr
  ·
   rw [if_pos hq]
   simp [hq]
  ·
   rw [if_neg hq]
   simp [Ne.symm hq]
 ·
  rw [List.nodup_append]
  refine ⟨h.nd,by simp,fun a ha b hb=>?_⟩
  rw [List.mem_singleton.1 hb]
  exact fun e=>h.no k (e ▸ ha)
 ·
  rcases List.mem_append.1 hx with hx | hx
  ·
   exact h.rg x hx
  ·
   rw [List.mem_singleton.1 hx]
   exact ⟨by show (lo:Int)≤(n:Int); omega,by show (n:Int)≤(hi:Int); omega⟩
theorem Iv.give (h:Iv us l lo hi) {pr:Int} {n:Nat} (k:hasU us pr n=true) (h1:∀ q m,hasU us' q m=(hasU us q m && !decide (q=pr∧m=n))) (h2:∀ q,cntU us' q=cntU us q-(if q=pr then 1 else 0)):
  Iv us' (l.filter fun y=>!decide (y=(pr,(n:Int)))) lo hi:=by
 have hm:=(h.has pr n).1 k
 refine ⟨fun q m=>?_,fun q=>?_,h.nd.sublist List.filter_sublist,fun x hx=>h.rg x (List.mem_filter.1 hx).1⟩
 ·
  rw [h1,Bool.and_eq_true,h.has q m,List.mem_filter]
  simp only [Bool.not_eq_true',decide_eq_false_iff_not,Prod.mk.injEq]
  constructor
  ·
   rintro ⟨h5,h6⟩
   exact ⟨h5,fun h7=>h6 ⟨h7.1,by omega⟩⟩
  ·
   rintro ⟨h5,h6⟩
   exact ⟨h5,fun h7=>h6 ⟨h7.1,by omega⟩⟩
 ·
  rw [h2,h.cnt q]
  have e:(l.filter fun y=>!decide (y=(pr,(n:Int))))=l.erase (pr,(n:Int)):=by
   rw [h.nd.erase_eq_filter]
   congr 1
   funext y
   by_cases hy:y=(pr,(n:Int)) <;> simp [hy]
  have e2:=(List.perm_cons_erase hm).countP_eq (fun x=>decide (x.1=q))
  rw [List.countP_cons] at e2
  rw [e,e2]
  by_cases hq:q=pr
  ·
   rw [if_pos hq,if_pos (by simp [hq])]
   omega
  ·
   rw [if_neg hq,if_neg (by simp [Ne.symm hq])]
   omega
theorem Iv.all (h:Iv us l lo hi) (hl:lo≤hi) {pr:Int} (k:∀ n,lo≤n→n≤hi→hasU us pr n=true):(l.countP (fun x=>decide (x.1=pr)):Int)=(hi:Int)-(lo:Int)+1:=by
 have n2:((List.range' lo (hi-lo+1)).map fun (m:Nat)=>((pr,(m:Int)):Int×Int)).Nodup:=by
  refine List.pairwise_map.2 ((List.nodup_range' (s:=lo) (n:=hi-lo+1)).imp fun hne e=>hne ?_)
  have:=congrArg Prod.snd e
  simp only at this
  omega
 have n1:(l.filter fun x=>decide (x.1=pr)).Nodup:=h.nd.sublist List.filter_sublist
 have p:(l.filter fun x=>decide (x.1=pr)).Perm ((List.range' lo (hi-lo+1)).map fun (m:Nat)=>((pr,(m:Int)):Int×Int)):=by
  refine (List.perm_ext_iff_of_nodup n1 n2).2 fun x=>?_
  rw [List.mem_filter,List.mem_map]
  constructor
  ·
   rintro ⟨h1,h2⟩
   have h3:=h.rg x h1
   refine ⟨x.2.toNat,List.mem_range'_1.2 ⟨by omega,by omega⟩,?_⟩
   have:x.1=pr:=of_decide_eq_true h2
   obtain ⟨a,b⟩:=x
   simp only at this h3 ⊢
   rw [this,Int.toNat_of_nonneg (by omega)]
  ·
   rintro ⟨m,h1,rfl⟩
   have h2:=List.mem_range'_1.1 h1
   exact ⟨(h.has pr m).1 (k m (by omega) (by omega)),decide_eq_true rfl⟩
 have e:=p.length_eq
 rw [← List.countP_eq_length_filter,List.length_map,List.length_range'] at e
 rw [e]
 omega
end
end Go.Proofs.YtphbdmafchjjeaaGreatDoorS
