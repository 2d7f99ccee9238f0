import Derived.Test.YtphbdmafchjjeaaGreatDoorTQBSNatPM
import Derived.Test.YtphbdmafchjjeaaGreatDoorTQBSFD2
namespace Go.Proofs.YtphbdmafchjjeaaGreatDoorS
open Go Go.RowKit Go.Proofs Go.Proofs.YtphbdmafchjjeaaGreatDoorX
set_option maxRecDepth 100000
set_option linter.unusedVariables false
set_option linter.unusedSectionVars false
set_option linter.unusedSimpArgs false
theorem bk_range {l:List (Int×Int)} (h:FineB l) (i:Nat):(0≤(l.getD i (0,0)).1∧(l.getD i (0,0)).1≤4294967295)∧(0≤(l.getD i (0,0)).2∧(l.getD i (0,0)).2≤65535):=by
 rw [List.getD_eq_getElem?_getD]
 cases e:l[i]? with
 | none=>exact ⟨⟨by decide,by decide⟩,⟨by decide,by decide⟩⟩
 | some x=>exact h x (List.mem_of_getElem? e)
theorem pick23_l {w0:World} {t:Tp} (ht:t.Fine) {A:Option Addr} {n c:Nat} {l:List (Int×Int)} (hf:FineB l) (h:Bks w0 A n l) (hn:n≤1000) {g2:Nat}:∀ (q i b:Nat) (w:World),n-i < q→i≤n→b < n→Own w0 w [(g2,39,tpv t)]→
  qq50.L1 q A n c g2 (b:Int) (i:Int) w (Ret (.tuple #[.int .i64 (pickG t (l.drop i) i b (wtV t (l.getD b (0,0))):Int),.int .i64 0]) w0):=by
 have ln:=h.1
 intro q
 induction q with
 | zero=>intro i b w hq; omega
 | succ q ih=>
  intro i b w hq hi hb H
  unfold qq50.L1; intros
  rw [qq50.l1_eq]
  refine ifD (fun h1=>?_) (fun h1=>?_)
  ·
   have hi2:i < n:=by omega
   refine draws (fun w'=>Own w0 w' [(g2,39,tpv t)]) H.drew fun w2 e2=>?_
   replace H:=H.drew
   rw [← e2] at H
   obtain ⟨a,ea,hat⟩:=h.rd hi2
   obtain ⟨a',ea',hat'⟩:=h.rd hb
   refine ⟨_,_,_,_,_,⟨rfl,fun w' h=>(h.bk 0 rfl).at⟩,a,ea,⟨by omega,by omega⟩,_,_,⟨rfl,fun w' h=>hat.bel h.bel⟩,?_⟩
   refine ⟨_,_,_,_,_,⟨rfl,fun w' h=>(h.bk 0 rfl).at⟩,a',ea',⟨by omega,by omega⟩,_,_,⟨rfl,fun w' h=>hat'.bel h.bel⟩,?_⟩
   refine call_of (Weight_c ht (bk_range hf i).1 (bk_range hf i).2) ?_
   rintro e w19 ⟨rfl,k19⟩
   replace H:=H.call k19
   refine ⟨_,rfl,H,?_⟩
   refine call_of (Weight_c ht (bk_range hf b).1 (bk_range hf b).2) ?_
   rintro e w22 ⟨rfl,k22⟩
   replace H:=H.call k22
   refine ⟨_,rfl,H,?_⟩
   have ed:l.drop i=l.getD i (0,0)::l.drop (i+1):=by
    rw [List.drop_eq_getElem_cons (by omega),List.getD_eq_getElem?_getD,List.getElem?_eq_getElem (by omega)]
    rfl
   rw [ed]
   unfold pickG
   refine ifD (fun h3=>?_) (fun h3=>?_)
   ·
    rw [if_pos h3]
    refine let_as ((i+1:Nat):Int) (by rw [w64 (by omega) (by omega)]; omega) ?_
    exact ih (i+1) i w22 (by omega) (by omega) hi2 H ..
   ·
    rw [if_neg h3]
    refine let_as ((i+1:Nat):Int) (by rw [w64 (by omega) (by omega)]; omega) ?_
    exact ih (i+1) b w22 (by omega) (by omega) hb H ..
  ·
   rw [List.drop_eq_nil_of_le (by omega)]
   exact ⟨rfl,H.bel⟩
theorem Pick23_c {w:World} {t:Tp} (ht:t.Fine) {A:Option Addr} {n c:Nat} {l:List (Int×Int)} (hf:FineB l) (h:Bks w A n l):Calls Tryz.prog 32 #[.agg (tpv t).toArray,.slice A n c] w (Ret (.tuple #[.int .i64 (pickI t l),.int .i64 (pickE l)]) w):=by
 have hl:=h.1
 refine qq50.run ?_
 unfold qq50.s
 refine own_new (l:=tpv t) (Own.refl w) fun g1 w1 H=>?_
 refine ifD (fun h1=>?_) (fun h1=>?_)
 ·
  have e1:pickI t l=0:=by unfold pickI; rw [if_pos (by omega)]
  have e2:pickE l=2:=by unfold pickE; rw [if_pos (by omega)]
  rw [e1,e2]
  exact ⟨rfl,H.bel⟩
 refine ifE (fun h2=>?_) (fun h2=>?_)
 ·
  have e1:pickI t l=0:=by unfold pickI; rw [if_neg (by omega),if_pos (by omega)]
  have e2:pickE l=232:=by unfold pickE; rw [if_neg (by omega),if_pos (by omega)]
  rw [e1,e2]
  exact ⟨rfl,H.bel⟩
 have e1:pickI t l=(pickV t l:Int):=by unfold pickI; rw [if_neg (by omega),if_neg (by omega)]
 have e2:pickE l=0:=by unfold pickE; rw [if_neg (by omega),if_neg (by omega)]
 rw [e1,e2]
 refine ⟨n+1,?_⟩
 have k:=pick23_l (c:=c) ht hf h (by omega) (n+1) 0 0 w1 (by omega) (by omega) (by omega) H
 have ev:pickG t (l.drop 0) 0 0 (wtV t (l.getD 0 (0,0)))=pickV t l:=by
  cases l with
  | nil=>simp at hl; omega
  | cons x r=>
   show (if weightV t x.1 x.2 > weightV t x.1 x.2 then _ else _)=_
   rw [if_neg (by omega)]
   rfl
 rw [ev] at k
 exact k ..
abbrev hdd (x:Int×Int):List Value:=[.int .u8 x.1,.int .i64 x.2]
def hds (l:List (Int×Int)):List Value:=l.flatMap hdd
theorem hds_len:∀ l:List (Int×Int),(hds l).length=l.length * 2
 | []=>rfl
 | x::l=>by
  unfold hds
  rw [List.flatMap_cons,List.length_append]
  have:=hds_len l
  unfold hds at this
  rw [this]
  simp
  omega
theorem hds_app (l m:List (Int×Int)):hds (l++m)=hds l++hds m:=by simp [hds]
theorem hds_one (x:Int×Int):hds [x]=hdd x:=by simp [hds]
def Hls (w:World) (A:Option Addr) (n:Nat) (l:List (Int×Int)):Prop:=l.length=n∧(0 < n→∃ a,A=some a∧∀ i,i < n→At w (a.add (i * 2)) (hdd (l.getD i (0,0))))
theorem Hls.rd {w:World} {A:Option Addr} {n:Nat} {l:List (Int×Int)} (h:Hls w A n l) {i:Nat} (hi:i < n):∃ a,A=some a∧At w (a.add (i * 2)) (hdd (l.getD i (0,0))):=by
 obtain ⟨a,e,hc⟩:=h.2 (by omega)
 exact ⟨a,e,hc i hi⟩
theorem RV.hls {w:World} {t:TypeId} {o:Option Blk} {A:Option Addr} {n c:Nat} {l:List (Int×Int)} (q:RV t 2 o A n c (hds l)) (h:∀ x∈o.toList,Bk w x.1 x.2.1 x.2.2):Hls w A n l:=by
 have hl:=q.1
 rw [hds_len] at hl
 have hl2:l.length=n:=by omega
 refine ⟨hl2,fun hn=>?_⟩
 rcases q.2 with ⟨rfl,rfl,rfl,h4⟩ | ⟨b,pad,rfl,rfl,hc⟩
 ·
  have:=congrArg List.length h4
  rw [hds_len] at this
  have e:l.length * 2=0:=this
  omega
 ·
  refine ⟨_,rfl,fun i hi j v hv=>?_⟩
  have hb:Bk w b t (hds l++pad):=h (b,t,hds l++pad) (List.mem_singleton.2 rfl)
  rw [add_blk,add_blk,Nat.zero_add]
  refine hb.cell (i * 2+j) ?_
  have hj:j < 2:=(List.getElem?_eq_some_iff.1 hv).1
  rw [List.getElem?_append_left (by rw [hds_len]; omega)]
  have e:l[i]?=some (l.getD i (0,0)):=by
   rw [List.getD_eq_getElem?_getD,List.getElem?_eq_getElem (by omega)]
   rfl
  rw [show (hds l)[i * 2+j]?=_ from fm_get hdd (fun _=>rfl) l i j e hj]
  exact hv
abbrev dpv (lo hi:Nat) (A:Option Addr) (n c:Nat):List Value:=[.int .i64 (lo:Int),.int .i64 (hi:Int),.slice A n c]
section
variable {w:World} {g lo hi:Nat} {A:Option Addr} {n c:Nat} {l:List (Int×Int)} (b:Bk w g 81 (dpv lo hi A n c)) (h:Hls w A n l) (hn:n≤1000000000)
include b h hn
def AtR (l:List (Int×Int)) (x:Int×Int) (r:Int):Prop:=(r=-1∧x ∉ l)∨∃ i:Nat,r=(i:Int)∧i < l.length∧l.getD i (0,0)=x
theorem at23_l {x:Int×Int}:∀ (q i:Nat),n-i < q→i≤n→(∀ y∈l.take i,y≠x)→qq12.L1 q (some ⟨g,0,none⟩) x.1 x.2 (i:Int) w (fun e w'=>∃ r,e=.returned (.int .i64 r)∧AtR l x r∧w'=w):=by
 have hl:=h.1
 intro q
 induction q with
 | zero=>intro i hq; omega
 | succ q ih=>
  intro i hq hi hx
  unfold qq12.L1; intros
  rw [qq12.l1_eq]
  have b2:w.cell? ((⟨g,0,none⟩:Addr).add 2)=some (.slice A n c):=by rw [add_blk]; exact b.cell 2 rfl
  refine ⟨_,rfl,A,n,c,b2,?_⟩
  refine ifD (fun h1=>?_) (fun h1=>?_)
  ·
   have hi2:i < n:=by omega
   obtain ⟨a,ea,hat⟩:=h.rd hi2
   have nx:l.getD i (0,0)≠x→∀ y∈l.take (i+1),y≠x:=fun hne y hy=>by
    rw [← take_snoc (d:=((0,0):Int×Int)) (by omega:i < l.length)] at hy
    rcases List.mem_append.1 hy with hy | hy
    ·
     exact hx y hy
    ·
     rw [List.mem_singleton.1 hy]
     exact hne
   refine ⟨_,rfl,A,n,c,b2,a,ea,⟨by omega,by omega⟩,(l.getD i (0,0)).1,by have:=hat 0 _ rfl; rwa [addr_add_zero] at this,?_⟩
   refine ifE (fun h2=>?_) (fun h2=>?_)
   ·
    refine ⟨_,rfl,A,n,c,b2,a,ea,⟨by omega,by omega⟩,(l.getD i (0,0)).2,hat 1 _ rfl,?_⟩
    refine ifE (fun h3=>?_) (fun h3=>?_)
    ·
     exact ⟨_,rfl,Or.inr ⟨i,rfl,by omega,Prod.ext h2 h3⟩,rfl⟩
    ·
     refine let_as ((i+1:Nat):Int) (by rw [w64 (by omega) (by omega)]; omega) ?_
     exact ih (i+1) (by omega) (by omega) (nx fun e=>h3 (by rw [e])) ..
   ·
    refine let_as ((i+1:Nat):Int) (by rw [w64 (by omega) (by omega)]; omega) ?_
    exact ih (i+1) (by omega) (by omega) (nx fun e=>h2 (by rw [e])) ..
  ·
   have e:i=n:=by omega
   subst e
   rw [List.take_of_length_le (by omega)] at hx
   exact ⟨_,rfl,Or.inl ⟨rfl,fun hm=>hx x hm rfl⟩,rfl⟩
theorem at23_c (x:Int×Int):Calls Tryz.prog 40 #[.pointer (some ⟨g,0,none⟩),.int .u8 x.1,.int .i64 x.2] w (fun e w'=>∃ r,e=.returned (.int .i64 r)∧AtR l x r∧w'=w):=by
 refine qq12.run ?_
 unfold qq12.s
 refine ⟨n+1,?_⟩
 have k:=at23_l b h hn (x:=x) (n+1) 0 (by omega) (by omega) (fun y hy=>by simp at hy)
 exact k ..
theorem taken23_l {pr:Int}:∀ (q i:Nat),n-i < q→i≤n→qq1.L1 q (some ⟨g,0,none⟩) pr ((l.take i).countP (fun x=>decide (x.1=pr)):Int) (i:Int) w (Ret (.int .i64 (l.countP (fun x=>decide (x.1=pr)):Int)) w):=by
 have hl:=h.1
 intro q
 induction q with
 | zero=>intro i hq; omega
 | succ q ih=>
  intro i hq hi
  have hle:(l.take i).countP (fun x=>decide (x.1=pr))≤i:=Nat.le_trans List.countP_le_length (by simp; omega)
  unfold qq1.L1; intros
  rw [qq1.l1_eq]
  have b2:w.cell? ((⟨g,0,none⟩:Addr).add 2)=some (.slice A n c):=by rw [add_blk]; exact b.cell 2 rfl
  refine ⟨_,rfl,A,n,c,b2,?_⟩
  refine ifD (fun h1=>?_) (fun h1=>?_)
  ·
   have hi2:i < n:=by omega
   obtain ⟨a,ea,hat⟩:=h.rd hi2
   have e1:(l.take (i+1)).countP (fun x=>decide (x.1=pr))=(l.take i).countP (fun x=>decide (x.1=pr))+(if (l.getD i (0,0)).1=pr then 1 else 0):=by
    rw [← take_snoc (d:=((0,0):Int×Int)) (by omega:i < l.length),List.countP_append]
    congr 1
    simp [List.countP_cons]
   refine ⟨_,rfl,A,n,c,b2,a,ea,⟨by omega,by omega⟩,(l.getD i (0,0)).1,by have:=hat 0 _ rfl; rwa [addr_add_zero] at this,?_⟩
   refine ifE (fun h2=>?_) (fun h2=>?_)
   ·
    rw [if_pos h2] at e1
    refine let_as (((l.take (i+1)).countP (fun x=>decide (x.1=pr)):Nat):Int) (by rw [w64 (by omega) (by omega),e1]; omega) ?_
    refine let_as ((i+1:Nat):Int) (by rw [w64 (by omega) (by omega)]; omega) ?_
    exact ih (i+1) (by omega) (by omega) ..
   ·
    rw [if_neg h2] at e1
    replace e1:(l.take (i+1)).countP (fun x=>decide (x.1=pr))=(l.take i).countP (fun x=>decide (x.1=pr)):=e1
    refine let_as ((i+1:Nat):Int) (by rw [w64 (by omega) (by omega)]; omega) ?_
    rw [← e1]
    exact ih (i+1) (by omega) (by omega) ..
  ·
   have e:i=n:=by omega
   subst e
   rw [List.take_of_length_le (by omega)]
   exact ⟨rfl,Bel.refl w⟩
theorem Taken23_c (pr:Int):Calls Tryz.prog 26 #[.pointer (some ⟨g,0,none⟩),.int .u8 pr] w (Ret (.int .i64 (l.countP (fun x=>decide (x.1=pr)):Int)) w):=by
 refine qq1.run ?_
 unfold qq1.s
 refine ⟨n+1,?_⟩
 have k:qq1.L1 (n+1) (some ⟨g,0,none⟩) pr 0 0 w (Ret (.int .i64 (l.countP (fun x=>decide (x.1=pr)):Int)) w):=by
  have:=taken23_l b h hn (pr:=pr) (n+1) 0 (by omega) (by omega)
  simpa using this
 exact k ..
end
def RetN23 (w:World) (lo hi:Nat) (e:Ending) (w':World):Prop:=if lo=0∨hi < lo then e=.returned (.tuple #[.pointer none,.int .i64 1])∧w'=w else ∃ g,e=.returned (.tuple #[.pointer (some ⟨g,0,none⟩),.int .i64 0])∧Own w w' [(g,81,dpv lo hi none 0 0)]
theorem New23_c (w:World) {lo hi:Nat} (hl:lo≤65535) (hh:hi≤65535):Calls Tryz.prog 15 #[.int .u16 (lo:Int),.int .u16 (hi:Int)] w (RetN23 w lo hi):=by
 refine qq71.run ?_
 unfold qq71.s
 refine ifE (fun h1=>?_) (fun h1=>?_)
 ·
  unfold RetN23
  rw [if_pos (Or.inl (by omega))]
  exact ⟨rfl,rfl⟩
 refine ifD (fun h2=>?_) (fun h2=>?_)
 ·
  unfold RetN23
  rw [if_pos (Or.inr (by omega))]
  exact ⟨rfl,rfl⟩
 refine let_as (lo:Int) (w64 (by omega) (by omega)) ?_
 refine let_as (hi:Int) (w64 (by omega) (by omega)) ?_
 refine own_new (l:=dpv lo hi none 0 0) (Own.refl w) fun g w2 H=>?_
 unfold RetN23
 rw [if_neg (by omega)]
 exact ⟨g,rfl,H⟩
end Go.Proofs.YtphbdmafchjjeaaGreatDoorS
namespace Go.Proofs.YtphbdmafchjjeaaGreatDoorS
open Go Go.RowKit Go.Proofs Go.Proofs.YtphbdmafchjjeaaGreatDoorX
set_option maxRecDepth 100000
set_option linter.unusedVariables false
set_option linter.unusedSectionVars false
set_option linter.unusedSimpArgs false
def prt (lo N f i:Nat):Nat:=lo+(f-lo+i) % N
theorem prt_lt {lo N f i:Nat} (h:f-lo+i < N) (hf:lo≤f):prt lo N f i=f+i:=by
 unfold prt
 rw [Nat.mod_eq_of_lt h]
 omega
theorem prt_ge {lo N f i:Nat} (h:N≤f-lo+i) (h2:f-lo+i < N+N) (hf:lo≤f):prt lo N f i=lo+(f-lo+i-N):=by
 unfold prt
 rw [Nat.mod_eq_sub_mod h,Nat.mod_eq_of_lt (by omega)]
theorem prt_all {lo hi f:Nat} {h:Nat→Bool} (hf:lo≤f∧f≤hi) (hk:∀ k,k < hi-lo+1→h (prt lo (hi-lo+1) f k)=true):∀ j,lo≤j→j≤hi→h j=true:=fun j h1 h2=>by
 by_cases h3:f≤j
 ·
  have:=hk (j-f) (by omega)
  rwa [prt_lt (by omega) hf.1,show f+(j-f)=j by omega] at this
 ·
  have:=hk (j+(hi-lo+1)-f) (by omega)
  rwa [prt_ge (by omega) (by omega) hf.1,show lo+(f-lo+(j+(hi-lo+1)-f)-(hi-lo+1))=j by omega] at this
theorem prt_fst {lo hi want i:Nat} {h:Nat→Bool} (h2:lo≤hi) (hi2:i < hi-lo+1) (hk:∀ k,k < i→h (prt lo (hi-lo+1) (fromN lo hi want) k)=true):lo≤prt lo (hi-lo+1) (fromN lo hi want) i∧prt lo (hi-lo+1) (fromN lo hi want) i≤hi∧Fst h lo hi want (prt lo (hi-lo+1) (fromN lo hi want) i):=by
 have hf:lo≤fromN lo hi want∧fromN lo hi want≤hi:=by unfold fromN; split <;> omega
 generalize hF:fromN lo hi want=f at *
 by_cases h3:f-lo+i < hi-lo+1
 ·
  rw [prt_lt h3 hf.1]
  refine ⟨by omega,by omega,?_⟩
  unfold Fst
  rw [hF]
  refine Or.inl ⟨by omega,fun j g1 g2=>?_⟩
  have:=hk (j-f) (by omega)
  rwa [prt_lt (by omega) hf.1,show f+(j-f)=j by omega] at this
 ·
  rw [prt_ge (by omega) (by omega) hf.1]
  refine ⟨by omega,by omega,?_⟩
  unfold Fst
  rw [hF]
  refine Or.inr ⟨by omega,fun j g1 g2=>?_,fun j g1 g2=>?_⟩
  ·
   have:=hk (j-f) (by omega)
   rwa [prt_lt (by omega) hf.1,show f+(j-f)=j by omega] at this
  ·
   have:=hk (j+(hi-lo+1)-f) (by omega)
   rwa [prt_ge (by omega) (by omega) hf.1,show lo+(f-lo+(j+(hi-lo+1)-f)-(hi-lo+1))=j by omega] at this
theorem Fst.uniq {h:Nat→Bool} {lo hi want n m:Nat} (k:Fst h lo hi want n) (k2:Fst h lo hi want m) (hn:h n=false) (hm:h m=false) (n1:lo≤n∧n≤hi) (m1:lo≤m∧m≤hi):n=m:=by
 have no:∀ {j},h j=true→h j=false→False:=fun a b=>by rw [a] at b; cases b
 rcases k with ⟨a1,a2⟩ | ⟨a1,a2,a3⟩
 ·
  rcases k2 with ⟨b1,b2⟩ | ⟨b1,b2,b3⟩
  ·
   rcases Nat.lt_trichotomy n m with h1 | h1 | h1
   ·
    exact (no (b2 n a1 h1) hn).elim
   ·
    exact h1
   ·
    exact (no (a2 m b1 h1) hm).elim
  ·
   exact (no (b2 n a1 n1.2) hn).elim
 ·
  rcases k2 with ⟨b1,b2⟩ | ⟨b1,b2,b3⟩
  ·
   exact (no (a2 m b1 m1.2) hm).elim
  ·
   rcases Nat.lt_trichotomy n m with h1 | h1 | h1
   ·
    exact (no (b3 n n1.1 h1) hn).elim
   ·
    exact h1
   ·
    exact (no (a3 m m1.1 h1) hm).elim
def DP (w0 w:World) (R:List Blk) (cs:List Lst) (g lo hi:Nat) (l:List (Int×Int)):Prop:=∃ o A n c,OF w0 w ((g,81,dpv lo hi A n c)::(Option.toList o++R)) cs∧RV 98 2 o A n c (hds l)
section
variable {w0 w w':World} {R:List Blk} {cs:List Lst} {g lo hi:Nat} {l:List (Int×Int)}
theorem DP.call (h:DP w0 w R cs g lo hi l) (k:Bel w w'):DP w0 w' R cs g lo hi l:=let ⟨o,A,n,c,h1,h2⟩:=h; ⟨o,A,n,c,h1.call k,h2⟩
theorem DP.read (h:DP w0 w R cs g lo hi l):∃ A n c,Bk w g 81 (dpv lo hi A n c)∧Hls w A n l:=by
 obtain ⟨o,A,n,c,h1,h2⟩:=h
 exact ⟨A,n,c,h1.own.bk 0 rfl,h2.hls fun x hx=>memB h1.own (List.mem_cons_of_mem _ (List.mem_append.2 (Or.inl hx)))⟩
theorem DP.rest (h:DP w0 w R cs g lo hi l):OF w0 w R cs:=by
 obtain ⟨o,A,n,c,h1,h2⟩:=h
 exact h1.tail.less
def dpTake (lo hi want:Nat) (pr:Int) (l l':List (Int×Int)) (e:Ending):Prop:=
 (e=.returned (.tuple #[.int .u16 0,.int .i64 231])∧(∀ n:Nat,lo≤n→n≤hi→(pr,(n:Int))∈l)∧l'=l)∨
 ∃ n:Nat,e=.returned (.tuple #[.int .u16 (n:Int),.int .i64 0])∧lo≤n∧n≤hi∧(pr,(n:Int)) ∉ l∧Fst (fun m=>decide ((pr,(m:Int))∈l)) lo hi want n∧l'=l++[(pr,(n:Int))]
theorem Take23_l (h2:lo≤hi) (h3:hi≤65535) (hn:l.length≤1000000) {pr:Int} {want:Nat}:∀ (q i:Nat) (w:World),(hi-lo+1)-i < q→i≤hi-lo+1→DP w0 w R cs g lo hi l→(∀ k,k < i→(pr,(prt lo (hi-lo+1) (fromN lo hi want) k:Int))∈l)→
  ∀ {Q:Ending→World→Prop},(∀ e w' l',DP w0 w' R cs g lo hi l'→dpTake lo hi want pr l l' e→Mk w w'→Q e w')→qq3.L1 q (some ⟨g,0,none⟩) pr ((fromN lo hi want:Nat):Int) ((hi-lo+1:Nat):Int) (i:Int) w Q:=by
 have hf:lo≤fromN lo hi want∧fromN lo hi want≤hi:=by unfold fromN; split <;> omega
 intro q
 induction q with
 | zero=>intro i w hq; omega
 | succ q ih=>
  intro i w hq hi2 D hk Q hQ
  unfold qq3.L1; intros
  rw [qq3.l1_eq]
  refine ifD (fun h1=>?_) (fun h1=>?_)
  ·
   have hi3:i < hi-lo+1:=by omega
   have k2:Bel w w.drew:=(Bel.refl w).drew
   have D2:=D.call k2
   have rd:∀ {w'},DP w0 w' R cs g lo hi l→(w'.cell? ⟨g,0,none⟩=some (.int .i64 (lo:Int))):=fun h=>by
    obtain ⟨A,n,c,b,_⟩:=h.read
    exact b.cell 0 rfl
   refine draws (fun w'=>DP w0 w' R cs g lo hi l) D2 fun w2 e2=>?_
   rw [← e2] at D2 k2
   refine ⟨_,rfl,(lo:Int),fun w' h=>rd h,_,rfl,(lo:Int),fun w' h=>rd h,?_⟩
   refine let_as ((fromN lo hi want-lo:Nat):Int) (by rw [w64 (by omega) (by omega)]; omega) ?_
   refine let_as ((fromN lo hi want-lo+i:Nat):Int) (by rw [w64 (by omega) (by omega)]; omega) ?_
   refine ⟨by omega,?_⟩
   refine let_as (((fromN lo hi want-lo+i) % (hi-lo+1):Nat):Int) (by rw [tm (by omega)]; omega) ?_
   have hlt:(fromN lo hi want-lo+i) % (hi-lo+1) < hi-lo+1:=Nat.mod_lt _ (by omega)
   refine let_as (prt lo (hi-lo+1) (fromN lo hi want) i:Int) (by rw [w64 (by omega) (by omega)]; unfold prt; omega) ?_
   have hp:=prt_fst (h:=fun m=>decide ((pr,(m:Int))∈l)) (want:=want) h2 hi3 (fun k hk2=>decide_eq_true (hk k hk2))
   generalize hP:prt lo (hi-lo+1) (fromN lo hi want) i=P at *
   obtain ⟨A,n,c,b,hl⟩:=D2.read
   refine call_of (at23_c b hl (by have:=hl.1; omega) (pr,(P:Int))) ?_
   rintro e w11 ⟨r,rfl,hr,rfl⟩
   refine ⟨_,rfl,?_⟩
   refine ifD (fun h4=>?_) (fun h4=>?_)
   ·
    have hno:(pr,(P:Int)) ∉ l:=by
     rcases hr with ⟨_,h5⟩ | ⟨j,h5,_⟩
     ·
      exact h5
     ·
      omega
    obtain ⟨o,A,n,c,H,rv⟩:=D2
    have hln:n=l.length:=by have:=rv.1; rw [hds_len] at this; omega
    refine ⟨_,rfl,A,n,c,by rw [add_blk]; exact H.own.cell 0 2 rfl rfl,?_⟩
    refine let_as w11.heap.size rfl (let_as (w11.alloc (.cells (hdd (pr,(P:Int))).toArray 98)) rfl ?_)
    have H2:=H.new 98 (hdd (pr,(P:Int)))
    have k4:Bel w11 (w11.alloc (.cells (hdd (pr,(P:Int))).toArray 98)):=(Bel.refl w11).alloc _
    have hB:At (w11.alloc (.cells (hdd (pr,(P:Int))).toArray 98)) ⟨w11.heap.size,0,none⟩ (hdd (pr,(P:Int))):=(Bk.new w11 _ _).at
    have H3:OF w0 (w11.alloc (.cells (hdd (pr,(P:Int))).toArray 98)) (o.toList++((w11.heap.size,98,hdd (pr,(P:Int)))::(g,81,dpv lo hi A n c)::R)) cs:=
     H2.perm ((List.Perm.cons _ List.perm_middle.symm).trans List.perm_middle.symm)
    refine rv_appM (bytes:=16) (zs:=[.int .u8 0,.int .i64 0]) rfl H3 rv (v:=hdd (pr,(P:Int))) rfl rfl hB (by omega) (by omega) fun o' A' c' wb H4 rv' m4=>?_
    refine ⟨_,rfl,?_⟩
    rw [add_blk]
    have H5:OF w0 wb ((g,81,dpv lo hi A n c)::(w11.heap.size,98,hdd (pr,(P:Int)))::(o'.toList++R)) cs:=
     H4.perm ((List.perm_middle.trans (List.Perm.cons _ List.perm_middle)).trans (List.Perm.swap _ _ _))
    refine of_setB 0 H5 rfl (by show 2 < 3; decide) fun w22 H6 u6=>?_
    refine let_as (P:Int) (w16 (by omega) (by omega)) ?_
    refine hQ _ w22 (l++[(pr,(P:Int))]) ⟨o',A',n+1,c',?_,?_⟩ (Or.inr ⟨P,rfl,hp.1,hp.2.1,hno,hp.2.2,rfl⟩) ?_
    ·
     have H7:OF w0 w22 ((w11.heap.size,98,hdd (pr,(P:Int)))::(g,81,dpv lo hi A' (n+1) c')::(o'.toList++R)) cs:=H6.perm (List.Perm.swap _ _ _)
     exact H7.tail
    ·
     rw [hds_app,hds_one]
     exact rv'
    ·
     intro r es c2 hm
     exact but_map u6 (H5.own.bk 0 rfl) (m4 r es c2 (bel_map k4 (bel_map k2 hm)))
   ·
    have hyes:(pr,(P:Int))∈l:=by
     rcases hr with ⟨h5,_⟩ | ⟨j,_,h6,h7⟩
     ·
      omega
     ·
      rw [← h7,List.getD_eq_getElem?_getD,List.getElem?_eq_getElem h6]
      exact List.getElem_mem _
    refine let_as ((i+1:Nat):Int) (by rw [w64 (by omega) (by omega)]; omega) ?_
    refine ih (i+1) w11 (by omega) (by omega) D2 (fun k hk2=>?_) (Q:=Q) (fun e w' l' a1 a2 a3=>hQ e w' l' a1 a2 fun r es c2 hm=>a3 r es c2 (bel_map k2 hm)) ..
    by_cases h5:k=i
    ·
     rw [h5,hP]
     exact hyes
    ·
     exact hk k (by omega)
  ·
   have e:i=hi-lo+1:=by omega
   subst e
   have hall:=prt_all (h:=fun m=>decide ((pr,(m:Int))∈l)) hf (fun k hk2=>decide_eq_true (hk k hk2))
   exact hQ _ w l D (Or.inl ⟨rfl,fun n n1 n2=>of_decide_eq_true (hall n n1 n2),rfl⟩) (Mk.refl w)
theorem Take23_c (D:DP w0 w R cs g lo hi l) (h2:lo≤hi) (h3:hi≤65535) (hn:l.length≤1000000) {pr:Int} {want:Nat} (hw:want≤65535):
  Calls Tryz.prog 23 #[.pointer (some ⟨g,0,none⟩),.int .u8 pr,.int .u16 (want:Int)] w (fun e w'=>∃ l',DP w0 w' R cs g lo hi l'∧dpTake lo hi want pr l l' e∧Mk w w'):=by
 have b0:∀ {w'},DP w0 w' R cs g lo hi l→w'.cell? ⟨g,0,none⟩=some (.int .i64 (lo:Int))∧w'.cell? ⟨g,1,none⟩=some (.int .i64 (hi:Int)):=fun h=>by
  obtain ⟨A,n,c,b,_⟩:=h.read
  exact ⟨b.cell 0 rfl,b.cell 1 rfl⟩
 refine qq3.run ?_
 unfold qq3.s
 refine let_as (want:Int) (w64 (by omega) (by omega)) ?_
 refine ⟨_,rfl,(lo:Int),(b0 D).1,?_⟩
 have j2:∀ {v:Int},v=((fromN lo hi want:Nat):Int)→qq3.J2 (some ⟨g,0,none⟩) pr v w (fun e w'=>∃ l',DP w0 w' R cs g lo hi l'∧dpTake lo hi want pr l l' e∧Mk w w'):=fun {v} hv=>by
  subst hv
  unfold qq3.J2; intros
  rw [qq3.j2_eq]
  have k2:Bel w w.drew:=(Bel.refl w).drew
  have D2:=D.call k2
  refine draws (fun w'=>DP w0 w' R cs g lo hi l) D2 fun w2 e2=>?_
  rw [← e2] at D2 k2
  refine ⟨_,rfl,(hi:Int),fun w' h=>by rw [add_blk]; exact (b0 h).2,_,rfl,(lo:Int),fun w' h=>(b0 h).1,?_⟩
  refine let_as ((hi:Int)-(lo:Int)) (w64 (by omega) (by omega)) ?_
  refine let_as ((hi-lo+1:Nat):Int) (by rw [w64 (by omega) (by omega)]; omega) ?_
  refine ⟨(hi-lo+1)+1,?_⟩
  have k:=Take23_l h2 h3 hn (pr:=pr) (want:=want) ((hi-lo+1)+1) 0 w2 (by omega) (by omega) D2 (fun k hk=>by omega) (Q:=fun e w'=>∃ l',DP w0 w' R cs g lo hi l'∧dpTake lo hi want pr l l' e∧Mk w w') (fun e w' l' a1 a2 a3=>⟨l',a1,a2,fun r es c2 hm=>a3 r es c2 (bel_map k2 hm)⟩)
  exact k ..
 have j1:∀ z:Bool,(z=true↔(want < lo∨hi < want))→qq3.J1 (some ⟨g,0,none⟩) pr (want:Int) z w (fun e w'=>∃ l',DP w0 w' R cs g lo hi l'∧dpTake lo hi want pr l l' e∧Mk w w'):=fun z hz=>by
  unfold qq3.J1; intros
  rw [qq3.j1_eq]
  refine ifB (fun h=>?_) (fun h=>?_)
  ·
   refine ⟨_,rfl,(lo:Int),(b0 D).1,?_⟩
   have k:=j2 (v:=(lo:Int)) (by have:=hz.1 h; unfold fromN; rw [if_neg (by omega)])
   exact ⟨by with_reducible apply k⟩
  ·
   have hn:¬ (want < lo∨hi < want):=fun hx=>by rw [hz.2 hx] at h; cases h
   have k:=j2 (v:=(want:Int)) (by unfold fromN; rw [if_pos ⟨by omega,by omega⟩])
   exact ⟨by with_reducible apply k⟩
 refine ifD (fun h4=>?_) (fun h4=>?_)
 ·
  have k:=j1 true ⟨fun _=>Or.inl (by omega),fun _=>rfl⟩
  exact ⟨by with_reducible apply k⟩
 ·
  refine ⟨_,rfl,(hi:Int),by rw [add_blk]; exact (b0 D).2,?_⟩
  have k:=j1 (decide ((want:Int) > (hi:Int))) ⟨fun hx=>by have:=of_decide_eq_true hx; omega,fun hx=>decide_eq_true (by omega)⟩
  exact ⟨by with_reducible apply k⟩
def dpGive (pr:Int) (n:Nat) (l l':List (Int×Int)) (e:Ending):Prop:=
 (e=.returned (.int .i64 231)∧(pr,(n:Int)) ∉ l∧l'=l)∨(e=.returned (.int .i64 0)∧(pr,(n:Int))∈l∧∃ i,i < l.length∧l.getD i (0,0)=(pr,(n:Int))∧l'=l.take i++l.drop (i+1))
theorem Give23_c (D:DP w0 w R cs g lo hi l) (hn:l.length≤1000000) {pr:Int} {p:Nat} (hp:p≤65535):
  Calls Tryz.prog 25 #[.pointer (some ⟨g,0,none⟩),.int .u8 pr,.int .u16 (p:Int)] w (fun e w'=>∃ l',DP w0 w' R cs g lo hi l'∧dpGive pr p l l' e∧Mk w w'):=by
 refine qq2.run ?_
 unfold qq2.s
 refine let_as (p:Int) (w64 (by omega) (by omega)) ?_
 obtain ⟨A,n,c,b,hl⟩:=D.read
 refine call_of (at23_c b hl (by have:=hl.1; omega) (pr,(p:Int))) ?_
 rintro e w2 ⟨r,rfl,hr,rfl⟩
 refine ⟨_,rfl,?_⟩
 refine ifD (fun h4=>?_) (fun h4=>?_)
 ·
  have hno:(pr,(p:Int)) ∉ l:=by
   rcases hr with ⟨_,h5⟩ | ⟨j,h5,_⟩
   ·
    exact h5
   ·
    omega
  exact ⟨l,D,Or.inl ⟨rfl,hno,rfl⟩,Mk.refl _⟩
 ·
  obtain ⟨i,rfl,hi1,hi2⟩:∃ i:Nat,r=(i:Int)∧i < l.length∧l.getD i (0,0)=(pr,(p:Int)):=by
   rcases hr with ⟨h5,_⟩ | h5
   ·
    omega
   ·
    exact h5
  have hyes:(pr,(p:Int))∈l:=by
   rw [← hi2,List.getD_eq_getElem?_getD,List.getElem?_eq_getElem hi1]
   exact List.getElem_mem _
  obtain ⟨o,A,n,c,H,rv⟩:=D
  have hln:n=l.length:=by have:=rv.1; rw [hds_len] at this; omega
  rcases rv.2 with ⟨rfl,rfl,rfl,h0⟩ | ⟨bb,pad,rfl,rfl,hc⟩
  ·
   have:=congrArg List.length h0
   rw [hds_len] at this
   have e:l.length * 2=0:=this
   omega
  rw [hds_len] at hc
  have k2:Bel w2 w2.drew:=(Bel.refl w2).drew
  replace H:=H.call k2
  refine draws (fun w'=>w'.cell? ⟨g,2,none⟩=some (.slice (some ⟨bb,0,none⟩) n c)) (H.own.cell 0 2 rfl rfl) fun w6 e6=>?_
  rw [← e6] at H k2
  refine ⟨_,rfl,_,_,_,fun w' h=>by rw [add_blk]; exact h,⟨by omega,by omega⟩,_,rfl,_,_,_,fun w' h=>by rw [add_blk]; exact h,?_⟩
  refine let_as ((i+1:Nat):Int) (by rw [w64 (by omega) (by omega)]; omega) ?_
  refine ⟨⟨by omega,by omega⟩,?_⟩
  rw [Int.toNat_natCast,Int.toNat_natCast]
  have H2:OF w0 w6 ((bb,98,hds l++pad)::(g,81,dpv lo hi (some ⟨bb,0,none⟩) n c)::R) cs:=H.perm (List.Perm.swap _ _ _)
  have ld:(hds (l.drop (i+1))).length=(n-(i+1)) * 2:=by rw [hds_len,List.length_drop,hln]
  have lt:(hds (l.take i)).length=i * 2:=by rw [hds_len,List.length_take]; omega
  have one:∀ m:List (Int×Int),(hds m).all one1=true:=fun m=>by
   induction m with
   | nil=>rfl
   | cons x m ih=>
    have:hds (x::m)=hdd x++hds m:=by simp [hds]
    rw [this,List.all_append,ih]
    rfl
  have epos:hds l++pad=hds (l.take (i+1))++(hds (l.drop (i+1))++pad):=by
   rw [← List.append_assoc,← hds_app,List.take_append_drop]
  have fin:∀ wb,OF w0 wb ((bb,98,hds (l.take i++l.drop (i+1))++(hds l++pad).drop ((n-1) * 2))::(g,81,dpv lo hi (some ⟨bb,0,none⟩) n c)::R) cs→Mk w6 wb→
    (fun w14:World=>(w14.cell? ⟨g,2,none⟩=some (.slice (some ⟨bb,0,none⟩) n c))∧(∃ a15:Addr,(some (⟨g,0,none⟩:Addr))=some a15∧(MayC w14 (a15.add 2)∧(Let (w14.setCell (a15.add 2) (.slice (some ⟨bb,0,none⟩) (i+(n-(i+1))) c)) fun w16:World=>(fun e w'=>∃ l',DP w0 w' R cs g lo hi l'∧dpGive pr p l l' e∧Mk w2 w') (.returned (.int .i64 0)) w16)))) wb:=fun wb H3 m3=>by
   refine ⟨H3.own.cell 1 2 rfl rfl,_,rfl,?_⟩
   rw [add_blk]
   refine of_setB 1 H3 rfl (by show 2 < 3; decide) fun w16 H4 u4=>?_
   refine ⟨l.take i++l.drop (i+1),⟨_,_,i+(n-(i+1)),c,?_,?_,Or.inr ⟨bb,(hds l++pad).drop ((n-1) * 2),rfl,rfl,?_⟩⟩,Or.inr ⟨rfl,hyes,i,hi1,hi2,rfl⟩,fun r es c2 hm=>but_map u4 (H3.own.bk 1 rfl) (m3 r es c2 (bel_map k2 hm))⟩
   ·
    exact H4.perm (List.Perm.swap _ _ _)
   ·
    rw [hds_app,List.length_append,lt,ld,Nat.add_mul]
   ·
    rw [hds_app,List.length_append,lt,ld,List.length_drop,List.length_append,hds_len]
    omega
  refine ⟨hds (l.drop (i+1)),ld,one _,?_,fun _=>?_,fun h=>by omega⟩
  ·
   intro hpos
   have hlt:i+1 < c:=by omega
   refine ⟨⟨bb,(i+1) * 2,none⟩,?_,?_⟩
   ·
    unfold cutA
    rw [if_neg (by omega)]
    simp [mulS,add_blk]
   ·
    have hb:=H2.own.bk 0 rfl
    rw [epos] at hb
    exact at_mid _ hb (by rw [hds_len,List.length_take]; omega)
  ·
   have e0:((some (⟨bb,0,none⟩:Addr)).map (·.add (i * 2)))=some ⟨bb,i * 2,none⟩:=by simp [add_blk]
   rw [e0]
   have hle:i * 2+(hds (l.drop (i+1))).length≤(hds l++pad).length:=by rw [ld,List.length_append,hds_len]; omega
   refine ⟨fun _=>⟨_,rfl,(H2.own.bk 0 rfl).mayN hle⟩,?_⟩
   have hp:=Bk.put (t:=98) (o:=i * 2) (hds (l.drop (i+1))) w6 (hds l++pad) 0 (H2.own.bk 0 rfl) (by rw [Nat.add_zero]; exact hle)
   rw [show i * 2+0=i * 2 from rfl] at hp
   have es:splice (hds l++pad) (i * 2) (hds (l.drop (i+1)))=hds (l.take i++l.drop (i+1))++(hds l++pad).drop ((n-1) * 2):=by
    unfold splice
    rw [hds_app,ld]
    congr 1
    ·
     congr 1
     have:hds l=hds (l.take i)++hds (l.drop i):=by rw [← hds_app,List.take_append_drop]
     rw [this,List.append_assoc,List.take_left' lt]
    ·
     congr 1
     omega
   rw [es] at hp
   exact fin _ (H2.over 0 rfl hp.2 hp.1) (Mk.but hp.2 (H2.own.bk 0 rfl))
end
end Go.Proofs.YtphbdmafchjjeaaGreatDoorS
