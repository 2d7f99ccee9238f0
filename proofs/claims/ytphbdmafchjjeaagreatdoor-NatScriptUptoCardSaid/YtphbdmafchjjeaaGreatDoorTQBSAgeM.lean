import Derived.Test.YtphbdmafchjjeaaGreatDoorTQBSRef3CM
import Derived.Test.YtphbdmafchjjeaaGreatDoorTQBSRowBM
namespace Go.Proofs.YtphbdmafchjjeaaGreatDoorS
open Go Go.RowKit Go.Proofs Go.Proofs.YtphbdmafchjjeaaGreatDoorX
set_option maxRecDepth 100000
set_option linter.unusedVariables false
set_option linter.unusedSectionVars false
set_option linter.unusedSimpArgs false
def adjS (s o n:Int):Int:=65535-S ((65535-s)+(65535-o)+n)
theorem adjS_range {s o n:Int} (h1:0≤s∧s≤65535) (h2:0≤o∧o≤65535) (h3:0≤n∧n≤65535):0≤adjS s o n∧adjS s o n≤65535:=by
 have:=S_range (t:=(65535-s)+(65535-o)+n) (by omega)
 unfold adjS
 omega
theorem Adjust_c (w:World) {s o n:Int} (h1:0≤s∧s≤65535) (h2:0≤o∧o≤65535) (h3:0≤n∧n≤65535):Calls Tryz.prog 96 #[.int .u16 s,.int .u16 o,.int .u16 n] w (Ret (.int .u16 (adjS s o n)) w):=by
 refine qq91.run ?_
 unfold qq91.s
 refine let_as _ (not_u16 h1.1 h1.2) ?_
 refine let_as _ (wu64 (by omega) (by omega)) ?_
 refine let_as _ (not_u16 h2.1 h2.2) ?_
 refine let_as _ (wu64 (by omega) (by omega)) ?_
 refine let_as _ (wu64 (by omega) (by omega)) ?_
 refine let_as _ (wu64 (by omega) (by omega)) ?_
 refine let_as _ (wu64 (by omega) (by omega)) ?_
 have hS:=S_range (t:=(65535-s)+(65535-o)+n) (by omega)
 refine call_of (folded_c w (by omega) (by omega)) ?_
 rintro e w1 ⟨rfl,k1⟩
 refine ⟨_,rfl,?_⟩
 refine let_as _ (not_u16 hS.1 hS.2) ?_
 exact ⟨rfl,k1⟩
def RetLB (w:World) (l:List Int) (k:Int) (e:Ending) (w':World):Prop:=∃ A c,e=.returned (.tuple #[.slice A l.length c,.int .i64 k])∧Buf w w' [] A l.length c l
theorem RetLB.no {w w':World} (h:Bel w w') (k:Int):RetLB w [] k (.returned (.tuple #[.slice none 0 0,.int .i64 k])) w':=⟨none,0,rfl,Buf.nil ((Own.refl w).call h)⟩
def RetLE (w:World) (l:List Int) (k:Int) (e:Ending) (w':World):Prop:=Bel w w'∧∃ A c,e=.returned (.tuple #[.slice A l.length c,.int .i64 k])∧By w' A l.length l∧l.length≤c∧(0 < l.length→Fre w A)
theorem RetLB.le {w w':World} {l:List Int} {k:Int} {e:Ending} (h:RetLB w l k e w'):RetLE w l k e w':=by
 obtain ⟨A,c,rfl,hb⟩:=h
 exact ⟨hb.own.bel,A,c,rfl,hb.by,hb.le,fun _=>hb.fre⟩
theorem RetLE.no {w w':World} (h:Bel w w') (k:Int):RetLE w [] k (.returned (.tuple #[.slice none 0 0,.int .i64 k])) w':=(RetLB.no h k).le
end Go.Proofs.YtphbdmafchjjeaaGreatDoorS
namespace Go.Proofs.YtphbdmafchjjeaaGreatDoorS
open Go Go.RowKit Go.Proofs Go.Proofs.YtphbdmafchjjeaaGreatDoorX
set_option linter.unusedVariables false
set_option linter.unusedSectionVars false
set_option linter.unusedSimpArgs false
theorem Own.perm {w a:World} {L M:List (Nat×TypeId×List Value)} (h:Own w a L) (p:L.Perm M):Own w a M:=
 ⟨h.bel,fun k g t l hk=>by
  obtain ⟨i,hi⟩:=List.mem_iff_getElem?.1 (p.symm.subset (List.mem_of_getElem? hk))
  exact h.own i g t l hi,(p.map Prod.fst).nodup_iff.1 h.one⟩
theorem By.lt {w:World} {A:Option Addr} {n:Nat} {l:List Int} (h:By w A n l):0 < n→∀ a,A=some a→a.block < w.heap.size:=fun hn a e=>by
 obtain ⟨b,e2,hc⟩:=h.2 hn
 rw [e] at e2
 injection e2 with e2
 subst e2
 have:=World.block_lt_of_cell? w _ (hc 0 hn)
 rw [addr_add_zero] at this
 exact this
abbrev Lst:=Option Addr×Nat×List Int
structure OF (w0 w:World) (L:List (Nat×TypeId×List Value)) (cs:List Lst):Prop where
 own:Own w0 w L
 fz:∀ x∈cs,By w x.1 x.2.1 x.2.2∧(0 < x.2.1→∀ a,x.1=some a→∀ p∈L,a.block≠p.1)
section
variable {w0 a b:World} {L M:List (Nat×TypeId×List Value)} {cs:List Lst}
theorem OF.call (h:OF w0 a L cs) (k:Bel a b):OF w0 b L cs:=⟨h.own.call k,fun x hx=>⟨(h.fz x hx).1.bel k,(h.fz x hx).2⟩⟩
theorem OF.perm (h:OF w0 a L cs) (p:L.Perm M):OF w0 a M cs:=⟨h.own.perm p,fun x hx=>⟨(h.fz x hx).1,fun hn c e q hq=>(h.fz x hx).2 hn c e q (p.symm.subset hq)⟩⟩
theorem OF.less (h:OF w0 a (L++M) cs):OF w0 a M cs:=⟨h.own.less,fun x hx=>⟨(h.fz x hx).1,fun hn c e q hq=>(h.fz x hx).2 hn c e q (List.mem_append.2 (Or.inr hq))⟩⟩
theorem OF.tail {p:Nat×TypeId×List Value} (h:OF w0 a (p::M) cs):OF w0 a M cs:=OF.less (L:=[p]) h
theorem OF.new (h:OF w0 a L cs) (t:TypeId) (l:List Value):OF w0 (a.alloc (.cells l.toArray t)) ((a.heap.size,t,l)::L) cs:=
 ⟨h.own.new t l,fun x hx=>⟨(h.fz x hx).1.bel ((Bel.refl a).alloc _),fun hn c e q hq=>by
  rcases List.mem_cons.1 hq with rfl | hq
  ·
   have:=(h.fz x hx).1.lt hn c e
   exact fun e2=>by rw [e2] at this; exact Nat.lt_irrefl _ this
  ·
   exact (h.fz x hx).2 hn c e q hq⟩⟩
theorem OF.over (h:OF w0 a L cs) (k:Nat) {g:Nat} {t:TypeId} {l l':List Value} (hk:L[k]?=some (g,t,l)) (hb:But g a b) (hn:Bk b g t l'):OF w0 b (L.set k (g,t,l')) cs:=
 ⟨h.own.over k hk hb hn,fun x hx=>⟨(h.fz x hx).1.but1 hb (fun hn c e=>(h.fz x hx).2 hn c e _ (List.mem_of_getElem? hk)),fun hn c e q hq=>by
  rcases List.mem_or_eq_of_mem_set hq with hq | rfl
  ·
   exact (h.fz x hx).2 hn c e q hq
  ·
   exact (h.fz x hx).2 hn c e (g,t,l) (List.mem_of_getElem? hk)⟩⟩
theorem OF.add (h:OF w0 a L cs) {x:Lst} (y:By a x.1 x.2.1 x.2.2) (z:0 < x.2.1→∀ c,x.1=some c→∀ p∈L,c.block≠p.1):OF w0 a L (x::cs):=
 ⟨h.own,fun u hu=>by
  rcases List.mem_cons.1 hu with rfl | hu
  ·
   exact ⟨y,z⟩
  ·
   exact h.fz u hu⟩
theorem OF.new_ne (h:OF w0 a L cs) {A:Option Addr} (hf:Fre a A):∀ c,A=some c→∀ p∈L,c.block≠p.1:=fun c e p hp=>by
 obtain ⟨i,hi⟩:=List.mem_iff_getElem?.1 hp
 have:=(h.own.bk i (g:=p.1) (t:=p.2.1) (l:=p.2.2) hi).lt
 have:=hf c e
 omega
end
def LBuf (w0 wa:World) (M:List (Nat×TypeId×List Value)) (cs:List Lst) (A:Option Addr) (n c:Nat) (vs:List Value):Prop:=
 vs.length=n∧((A=none∧c=0∧vs=[]∧OF w0 wa M cs)∨∃ g pad,A=some ⟨g,0,none⟩∧c=vs.length+pad.length∧OF w0 wa ((g,33,vs++pad)::M) cs)
section
variable {w0 wa:World} {M:List (Nat×TypeId×List Value)} {cs:List Lst} {A:Option Addr} {n c:Nat} {vs:List Value}
theorem LBuf.call {wb:World} (h:LBuf w0 wa M cs A n c vs) (k:Bel wa wb):LBuf w0 wb M cs A n c vs:=by
 refine ⟨h.1,?_⟩
 rcases h.2 with ⟨h1,h2,h3,h4⟩ | ⟨g,pad,h1,h2,h3⟩
 ·
  exact Or.inl ⟨h1,h2,h3,h4.call k⟩
 ·
  exact Or.inr ⟨g,pad,h1,h2,h3.call k⟩
def SV (o:Option (Nat×TypeId×List Value)) (A:Option Addr) (n c:Nat) (vs:List Value):Prop:=vs.length=n∧((o=none∧A=none∧c=0∧vs=[])∨∃ b pad,o=some (b,33,vs++pad)∧A=some ⟨b,0,none⟩∧c=vs.length+pad.length)
def SL (o:Option (Nat×TypeId×List Value)) (A:Option Addr) (n c:Nat) (l:List Int):Prop:=l.length=n∧((o=none∧A=none∧c=0∧l=[])∨∃ b pad,o=some (b,5,bv (l++pad))∧A=some ⟨b,0,none⟩∧c=l.length+pad.length)
theorem SV.none:SV none none 0 0 []:=⟨rfl,Or.inl ⟨rfl,rfl,rfl,rfl⟩⟩
theorem SL.none:SL none none 0 0 []:=⟨rfl,Or.inl ⟨rfl,rfl,rfl,rfl⟩⟩
end
theorem SL.by {w0 a:World} {M:List (Nat×TypeId×List Value)} {o:Option (Nat×TypeId×List Value)} {A:Option Addr} {n c:Nat} {l:List Int} (h:Own w0 a (o.toList++M)) (k:SL o A n c l):By a A n l∧n≤c:=by
 have hn:=k.1
 rcases k.2 with ⟨rfl,rfl,rfl,rfl⟩ | ⟨b,pad,rfl,rfl,rfl⟩
 ·
  simp at hn
  subst hn
  exact ⟨By.nil _ _,Nat.le_refl _⟩
 ·
  have:=(h.bk 0 rfl).by.take (k:=n) (by simp; omega)
  rw [List.take_left' hn] at this
  exact ⟨this,by omega⟩
theorem buf_sl {w a:World} {A:Option Addr} {n c:Nat} {l:List Int} (h:Buf w a [] A n c l):∃ o:Option (Nat×TypeId×List Value),Own w a (o.toList++[])∧SL o A n c l:=by
 rcases h.2 with ⟨h1,h2,h3,h4⟩ | ⟨g,pad,h1,h2,h3⟩
 ·
  exact ⟨.none,h4,h.1,Or.inl ⟨rfl,h1,h2,h3⟩⟩
 ·
  exact ⟨some (g,5,bv (l++pad)),h3,h.1,Or.inr ⟨g,pad,rfl,h1,h2.1⟩⟩
section
variable {w0 a:World} {L R:List (Nat×TypeId×List Value)} {cs:List Lst} {p:Nat×TypeId×List Value}
theorem OF.join {b:World} (h:OF w0 a R cs) (k:Own a b L):OF w0 b (L++R) cs:=
 ⟨Own.join h.own k,fun x hx=>⟨(h.fz x hx).1.bel k.bel,fun hn c e q hq=>by
  rcases List.mem_append.1 hq with hq | hq
  ·
   obtain ⟨i,hi⟩:=List.mem_iff_getElem?.1 hq
   have h1:=k.ge i (g:=q.1) (t:=q.2.1) (l:=q.2.2) hi
   have h2:=(h.fz x hx).1.lt hn c e
   omega
  ·
   exact (h.fz x hx).2 hn c e q hq⟩⟩
theorem of_set (k:Nat) {g i:Nat} {t:TypeId} {l:List Value} {v:Value} {K:World→Prop} (h:OF w0 a L cs) (hk:L[k]?=some (g,t,l)) (hi:i < l.length) (hn:∀ w1,OF w0 w1 (L.set k (g,t,l.set i v)) cs→K w1):
  MayC a ⟨g,i,none⟩∧Let (a.setCell ⟨g,i,none⟩ v) K:=
 ⟨(h.own.bk k hk).may hi,hn _ (h.over k hk (But.set a g i v) ((h.own.bk k hk).set i v))⟩
end
end Go.Proofs.YtphbdmafchjjeaaGreatDoorS
namespace Go.Proofs.YtphbdmafchjjeaaGreatDoorS
open Go Go.RowKit Go.Proofs Go.Proofs.YtphbdmafchjjeaaGreatDoorX
set_option linter.unusedVariables false
set_option linter.unusedSectionVars false
set_option linter.unusedSimpArgs false
abbrev Blk:=Nat×TypeId×List Value
def RV (t:TypeId) (k:Nat) (o:Option Blk) (A:Option Addr) (n c:Nat) (vs:List Value):Prop:=
 vs.length=n * k∧((o=none∧A=none∧c=0∧vs=[])∨∃ b pad,o=some (b,t,vs++pad)∧A=some ⟨b,0,none⟩∧c * k=vs.length+pad.length)
theorem RV.none {t:TypeId} {k:Nat}:RV t k none none 0 0 []:=⟨by simp,Or.inl ⟨rfl,rfl,rfl,rfl⟩⟩
theorem zero_rows (zs:Array Value) (j:Nat):∃ l:List Value,Builtin.zeroCells zs j=l.toArray∧l.length=j * zs.size:=⟨(Builtin.zeroCells zs j).toList,by simp,by simp [Builtin.zeroCells]⟩
section
variable {w0 a:World} {R:List Blk} {cs:List Lst} {t:TypeId} {k bytes:Nat} {o:Option Blk} {A:Option Addr} {n c:Nat} {vs:List Value}
theorem rv_app {zs:List Value} (hz:zs.length=k) (h:OF w0 a (o.toList++R) cs) (q:RV t k o A n c vs) {v:List Value} (hv:v.length=k) (h1:v.all one1=true) {g0:Nat} (hB:At a ⟨g0,0,.none⟩ v)
  (hm:(n+1) * bytes≤140737488355328) (hn:n+1≤9223372036854775807) {K:Option Addr→Nat→World→Prop}
  (hK:∀ (o':Option Blk) A' c' (wb:World),OF w0 wb (o'.toList++R) cs→RV t k o' A' (n+1) c' (vs++v)→K A' c' wb):AppE a k bytes t zs A n c (some ⟨g0,0,.none⟩) 1 K:=by
 have ln:=q.1
 have e1:(n+1) * k=n * k+k:=Nat.succ_mul n k
 refine ⟨v,by rw [hv,Nat.one_mul],h1,fun _=>⟨_,rfl,hB⟩,fun hfit=>?_,fun hlt=>⟨vs,ln,fun hp=>?_,⟨hm,hn⟩,fun cap h2 h3=>?_⟩⟩
 ·
  rcases q.2 with ⟨rfl,rfl,rfl,rfl⟩ | ⟨b,pad,rfl,rfl,hc⟩
  ·
   omega
  ·
   have e:((some (⟨b,0,.none⟩:Addr)).map (·.add (n * k)))=some ⟨b,n * k,.none⟩:=by simp [add_blk]
   rw [e]
   have hle:(n+1) * k≤c * k:=Nat.mul_le_mul_right k hfit
   have hlen:(vs++pad).length=c * k:=by rw [List.length_append,hc]
   have hp0:n * k+v.length≤(vs++pad).length:=by rw [hlen,hv]; omega
   refine ⟨fun _=>⟨_,rfl,(h.own.bk 0 rfl).mayN hp0⟩,?_⟩
   have hp:=Bk.put (t:=t) (o:=n * k) v a (vs++pad) 0 (h.own.bk 0 rfl) (by rw [Nat.add_zero]; exact hp0)
   rw [Nat.add_zero,splice_at _ _ _ ln] at hp
   refine hK (some (b,t,(vs++v)++pad.drop v.length)) _ _ _ ?_ ⟨by rw [List.length_append,ln,hv,e1],Or.inr ⟨b,pad.drop v.length,rfl,rfl,?_⟩⟩
   ·
    have:=h.over 0 rfl hp.2 hp.1
    rw [List.append_assoc]
    exact this
   ·
    rw [hc,List.length_append,List.length_drop]
    omega
 ·
  rcases q.2 with ⟨rfl,rfl,rfl,rfl⟩ | ⟨b,pad,rfl,rfl,hc⟩
  ·
   simp at hp
  ·
   refine ⟨_,rfl,fun j u hu=>(h.own.bk 0 rfl).at j u ?_⟩
   rw [List.getElem?_append_left (List.getElem?_eq_some_iff.1 hu).1]
   exact hu
 ·
  have hM:OF w0 a R cs:=by
   rcases q.2 with ⟨rfl,_⟩ | ⟨b,pad,rfl,_⟩
   ·
    exact h
   ·
    exact h.tail
  obtain ⟨zl,ez,hzl⟩:=zero_rows zs.toArray (cap-(n+1))
  rw [ez,show (vs.toArray++v.toArray++zl.toArray)=((vs++v)++zl).toArray by simp]
  refine hK (some (a.heap.size,t,(vs++v)++zl)) _ _ _ ((hM.call (Bel.refl a).drew).new t _) ⟨by rw [List.length_append,ln,hv,e1],Or.inr ⟨_,zl,rfl,rfl,?_⟩⟩
  rw [List.length_append,ln,hv,hzl,← e1,show zs.toArray.size=k by simpa using hz,← Nat.add_mul,show n+1+(cap-(n+1))=cap by omega]
theorem RV.rd (h:Own w0 a (o.toList++R)) (q:RV t k o A n c vs) {i:Nat} (hi:i < n) (hk:0 < k) {u:List Value} (hu:∀ j x,u[j]?=some x→vs[i * k+j]?=some x):∃ b,A=some ⟨b,0,.none⟩∧At a ⟨b,i * k,.none⟩ u:=by
 have ln:=q.1
 rcases q.2 with ⟨rfl,rfl,rfl,rfl⟩ | ⟨b,pad,rfl,rfl,hc⟩
 ·
  have:0 < n * k:=Nat.mul_pos (by omega) hk
  simp at ln
  omega
 ·
  refine ⟨b,rfl,fun j x hx=>?_⟩
  rw [add_blk]
  have:=hu j x hx
  exact (h.bk 0 rfl).cell _ (by rw [List.getElem?_append_left (List.getElem?_eq_some_iff.1 this).1]; exact this)
end
theorem fm_get {α:Type} (f:α→List Value) {k:Nat} (hf:∀ e,(f e).length=k):∀ (es:List α) (i j:Nat) {e:α},es[i]?=some e→j < k→(es.flatMap f)[i * k+j]?=(f e)[j]?
 | [],i,j,e,h,_=>by simp at h
 | x::es,0,j,e,h,hj=>by
  simp only [List.getElem?_cons_zero,Option.some.injEq] at h
  subst h
  rw [List.flatMap_cons,Nat.zero_mul,Nat.zero_add,List.getElem?_append_left (by rw [hf]; exact hj)]
 | x::es,i+1,j,e,h,hj=>by
  rw [List.getElem?_cons_succ] at h
  have:=fm_get f hf es i j h hj
  rw [List.flatMap_cons,List.getElem?_append_right (by rw [hf,Nat.succ_mul]; omega),hf,show (i+1) * k+j-k=i * k+j by rw [Nat.succ_mul]; omega]
  exact this
theorem fm_at {α:Type} (f:α→List Value) {k:Nat} (hf:∀ e,(f e).length=k) {es:List α} {i:Nat} {e:α} (h:es[i]?=some e):∀ j x,(f e)[j]?=some x→(es.flatMap f)[i * k+j]?=some x:=fun j x hx=>by
 rw [fm_get f hf es i j h (by rw [← hf e]; exact (List.getElem?_eq_some_iff.1 hx).1)]
 exact hx
structure LC where
 A:Option Addr
 n:Nat
 c:Nat
 l:List Int
abbrev LC.val (x:LC):Value:=.slice x.A x.n x.c
abbrev Bls (os:List (Option Blk)):List Blk:=os.flatMap Option.toList
def SLs (os:List (Option Blk)) (ls:List LC):Prop:=os.length=ls.length∧∀ (i:Nat) (o:Option Blk) (x:LC),os[i]?=some o→ls[i]?=some x→SL o x.A x.n x.c x.l
theorem erase_perm {α:Type}:∀ (l:List α) (i:Nat) (h:i < l.length),(l[i]::l.eraseIdx i).Perm l
 | [],i,h=>absurd h (Nat.not_lt_zero i)
 | x::l,0,_=>List.Perm.refl _
 | x::l,i+1,h=>by
  have:=erase_perm l i (by simpa using h)
  exact (List.Perm.swap _ _ _).trans (this.cons x)
theorem bls_erase {os:List (Option Blk)} {i:Nat} {o:Option Blk} (h:os[i]?=some o):(Bls os).Perm (o.toList++Bls (os.eraseIdx i)):=by
 obtain ⟨hi,rfl⟩:=List.getElem?_eq_some_iff.1 h
 have:=(erase_perm os i hi).symm.flatMap_right Option.toList
 rw [List.flatMap_cons] at this
 exact this
theorem bls_set {os:List (Option Blk)} {i:Nat} (hi:i < os.length) (o:Option Blk):(Bls (os.set i o)).Perm (o.toList++Bls (os.eraseIdx i)):=by
 have:=bls_erase (os:=os.set i o) (i:=i) (o:=o) (by rw [List.getElem?_set_self hi])
 rwa [List.eraseIdx_set_eq] at this
theorem SLs.cons {os:List (Option Blk)} {ls:List LC} {o:Option Blk} {x:LC} (h:SL o x.A x.n x.c x.l) (k:SLs os ls):SLs (o::os) (x::ls):=by
 refine ⟨by simp [k.1],fun i o' x' ho hx=>?_⟩
 cases i with
 | zero=>
  simp only [List.getElem?_cons_zero,Option.some.injEq] at ho hx
  subst ho hx
  exact h
 | succ i=>exact k.2 i o' x' (by simpa using ho) (by simpa using hx)
theorem SLs.nil:SLs [] []:=⟨rfl,fun i o x h=>by simp at h⟩
section
variable {w0 a:World} {R:List Blk} {cs:List Lst} {os:List (Option Blk)} {ls:List LC} {i:Nat} {x:LC}
theorem SLs.by (h:Own w0 a (Bls os++R)) (k:SLs os ls) (hx:ls[i]?=some x):By a x.A x.n x.l∧x.n≤x.c:=by
 have hi:i < os.length:=by rw [k.1]; exact (List.getElem?_eq_some_iff.1 hx).1
 have ho:os[i]?=some os[i]:=List.getElem?_eq_getElem hi
 refine SL.by (M:=Bls (os.eraseIdx i)++R) (h.perm ?_) (k.2 i _ x ho hx)
 rw [← List.append_assoc]
 exact (bls_erase ho).append_right R
theorem SLs.len (k:SLs os ls) (hx:ls[i]?=some x):x.l.length=x.n:=by
 have hi:i < os.length:=by rw [k.1]; exact (List.getElem?_eq_some_iff.1 hx).1
 exact (k.2 i _ x (List.getElem?_eq_getElem hi) hx).1
theorem of_put {L:List Blk} (k:Nat) {g o n:Nat} {t:TypeId} {l vs:List Value} {K:World→Prop} (h:OF w0 a L cs) (hk:L[k]?=some (g,t,l)) (hn:vs.length=n) (hi:o+n≤l.length) (hw:∀ w1,OF w0 w1 (L.set k (g,t,splice l o vs)) cs→K w1):
  May a ⟨g,o,none⟩ n∧Let (putCells a ⟨g,o,none⟩ vs 0) K:=by
 have hp:=Bk.put (t:=t) (o:=o) vs a l 0 (h.own.bk k hk) (by omega)
 rw [Nat.add_zero] at hp
 exact ⟨(h.own.bk k hk).mayN hi,hw _ (h.over k hk hp.2 hp.1)⟩
theorem of_mk {L:List Blk} {t:TypeId} {n:Nat} (l:List Value) {vs:List Value} {K:Nat→World→Prop} (h:OF w0 a L cs) (hl:l.length=n) (hv:vs.length=n) (hk:∀ g w1,OF w0 w1 ((g,t,vs)::L) cs→K g w1):
  Let a.heap.size fun g=>Let (a.alloc (.cells l.toArray t)) fun w2=>May w2 ⟨g,0,none⟩ n∧Let (putCells w2 ⟨g,0,none⟩ vs 0) (K g):=
 of_put 0 (h.new t l) rfl hv (by omega) fun w1 H=>by
  rw [splice_all _ _ (by omega)] at H
  exact hk _ w1 H
end
theorem RV.rdb {t:TypeId} {k:Nat} {o:Option Blk} {A:Option Addr} {n c:Nat} {vs:List Value} (q:RV t k o A n c vs) {i:Nat} (hi:i < n) (hk:0 < k):∃ b,A=some ⟨b,0,.none⟩∧∀ {w0 a:World} {R:List Blk} {u:List Value},Own w0 a (o.toList++R)→(∀ j x,u[j]?=some x→vs[i * k+j]?=some x)→At a ⟨b,i * k,.none⟩ u:=by
 have ln:=q.1
 rcases q.2 with ⟨rfl,rfl,rfl,rfl⟩ | ⟨b,pad,rfl,rfl,hc⟩
 ·
  have:0 < n * k:=Nat.mul_pos (by omega) hk
  simp at ln
  omega
 ·
  refine ⟨b,rfl,fun h hu j x hx=>?_⟩
  rw [add_blk]
  have:=hu j x hx
  exact (h.bk 0 rfl).cell _ (by rw [List.getElem?_append_left (List.getElem?_eq_some_iff.1 this).1]; exact this)
theorem xor8 {x y:Int} (hx:0≤x∧x≤255) (hy:0≤y∧y≤255):0≤Go.bits .xor .u8 x y∧Go.bits .xor .u8 x y≤255:=by
 rw [u8_xor x y (by omega) (by omega) (by omega) (by omega)]
 have:=Nat.xor_lt_two_pow (x:=x.toNat) (y:=y.toNat) (n:=8) (by omega) (by omega)
 omega
end Go.Proofs.YtphbdmafchjjeaaGreatDoorS
