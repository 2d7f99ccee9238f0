import Derived.Test.YtphbdmafchjjeaaGreatDoorTQBSRef3M
namespace Go.Proofs.YtphbdmafchjjeaaGreatDoorS
open Go Go.RowKit Go.Proofs Go.Proofs.YtphbdmafchjjeaaGreatDoorX
set_option maxRecDepth 100000
set_option linter.unusedVariables false
set_option linter.unusedSimpArgs false
theorem header_l {w:World} {p:Pk} {g:Nat} {A:Option Addr} {n c:Nat} (hA:By w A n p.opts) (hn:n≤40) {F:List Int} (hF:F.length=20):∀ (q i:Nat) (wa:World) (B:Option Addr) (m d:Nat),n-i < q→i≤n→
  Buf w wa [(g,35,pv p A n c)] B m d (F++p.opts.take i)→qq31.L1 q g B m d (i:Int) wa (RetBuf w (F++p.opts)):=by
 intro q
 induction q with
 | zero=>intro i wa B m d h; omega
 | succ q ih=>
  intro i wa B m d hq hi hb
  have hl:=hA.len
  have hm:=hb.len
  rw [List.length_append,List.length_take] at hm
  unfold qq31.L1; intros
  rw [qq31.l1_eq]
  refine ⟨A,n,c,hb.own.cell 0 9 rfl rfl,?_⟩
  refine ifD (fun h1=>?_) (fun h1=>?_)
  ·
   refine ⟨A,n,c,hb.own.cell 0 9 rfl rfl,?_⟩
   refine (hA.bel hb.own.bel).rd (by omega) (by omega) fun _=>?_
   rw [Int.toNat_natCast]
   refine buf_lit (m:=1) hb [p.opts.getD i 0] rfl (by omega) fun B' d' wb hb'=>?_
   refine let_as ((i+1:Nat):Int) (by rw [w64 (by omega) (by omega)]; omega) ?_
   have e:p.opts.take i++[p.opts.getD i 0]=p.opts.take (i+1):=by
    rw [List.take_succ_eq_append_getElem (by omega)]
    simp [List.getD_eq_getElem?_getD,show i < p.opts.length by omega]
   rw [List.append_assoc,e] at hb'
   apply ih (i+1) wb B' (m+1) d' (by omega) (by omega) hb'
  ·
   have:i=p.opts.length:=by omega
   subst this
   rw [List.take_length] at hb
   refine ⟨B,d,by rw [hb.len],?_⟩
   rw [hb.len]
   exact hb.alone
theorem header_j2 {w wa:World} {p:Pk} (h:p.Fine) (he:p.err=0) {s:Int} (hs:0≤s∧s≤65535) {g:Nat} {A:Option Addr} {n c:Nat} (hA:By w A n p.opts) {B:Option Addr} {d:Nat}
  (hb:Buf w wa [(g,35,pv p A n c)] B 6 d [p.h0,p.tos,(p.tl:Int) / 256 % 256,(p.tl:Int) % 256,p.id / 256 % 256,p.id % 256]):qq31.J2 s g B 6 d p.fl wa (RetBuf w (p.head s)):=by
 unfold qq31.J2; intros
 rw [qq31.j2_eq]
 have hfl:=Pk.fl_range (Pk.err_zero he).2.1
 have ho:=oOK_len (Pk.err_zero he).1
 have hl:=hA.len
 have h1:=h.src
 have h2:=h.dst
 refine put2_c hb (by omega) (by omega) fun B1 d1 w1 hb=>?_
 refine ⟨_,_,_,rfl,_,hb.own.cell 0 5 rfl rfl,_,hb.own.cell 0 6 rfl rfl,?_⟩
 refine buf_lit (m:=2) hb [p.ttl,p.proto] rfl (by omega) fun B2 d2 w2 hb=>?_
 refine let_as s (w64 (by omega) (by omega)) ?_
 refine put2_c hb hs (by omega) fun B3 d3 w3 hb=>?_
 refine ⟨_,_,_,rfl,_,hb.own.cell 0 7 rfl rfl,?_⟩
 refine let_as p.src (w64 (by omega) (by omega)) ?_
 refine let_as (p.src / 65536) (by rw [td (by omega),w64 (by omega) (by omega)]) ?_
 refine put2_c hb (by omega) (by omega) fun B4 d4 w4 hb=>?_
 refine ⟨_,_,_,rfl,_,hb.own.cell 0 7 rfl rfl,?_⟩
 refine let_as p.src (w64 (by omega) (by omega)) ?_
 refine let_as (p.src % 65536) (tm (by omega)) ?_
 refine put2_c hb (by omega) (by omega) fun B5 d5 w5 hb=>?_
 refine ⟨_,_,_,rfl,_,hb.own.cell 0 8 rfl rfl,?_⟩
 refine let_as p.dst (w64 (by omega) (by omega)) ?_
 refine let_as (p.dst / 65536) (by rw [td (by omega),w64 (by omega) (by omega)]) ?_
 refine put2_c hb (by omega) (by omega) fun B6 d6 w6 hb=>?_
 refine ⟨_,_,_,rfl,_,hb.own.cell 0 8 rfl rfl,?_⟩
 refine let_as p.dst (w64 (by omega) (by omega)) ?_
 refine let_as (p.dst % 65536) (tm (by omega)) ?_
 refine put2_c hb (by omega) (by omega) fun B7 d7 w7 hb=>?_
 refine ⟨_,_,_,rfl,n+1,?_⟩
 have e:∀ F:List Int,F=p.fr++(s / 256 % 256::s % 256::p.bk)→F++p.opts=p.head s:=fun F hF=>by
  rw [hF]
  unfold Pk.head
  simp
 have hF:[p.h0,p.tos,(p.tl:Int) / 256 % 256,(p.tl:Int) % 256,p.id / 256 % 256,p.id % 256]++[p.fl / 256 % 256,p.fl % 256]++[p.ttl,p.proto]++[s / 256 % 256,s % 256]++[p.src / 65536 / 256 % 256,p.src / 65536 % 256]++[p.src % 65536 / 256 % 256,p.src % 65536 % 256]++[p.dst / 65536 / 256 % 256,p.dst / 65536 % 256]++[p.dst % 65536 / 256 % 256,p.dst % 65536 % 256]=p.fr++(s / 256 % 256::s % 256::p.bk):=by
  simp only [Pk.fr,Pk.bk,List.cons_append,List.nil_append,List.cons.injEq,and_true,true_and]
  omega
 rw [hF] at hb
 rw [← e _ rfl]
 have:=header_l (c:=c) (g:=g) hA (by omega) (F:=p.fr++(s / 256 % 256::s % 256::p.bk)) (by rfl) (n+1) 0 w7 B7 _ d7 (by omega) (by omega) (by rw [List.take_zero,List.append_nil]; exact hb)
 apply this
theorem header_j1 {w wa:World} {p:Pk} (h:p.Fine) (he:p.err=0) {s:Int} (hs:0≤s∧s≤65535) {g:Nat} {A:Option Addr} {n c:Nat} (hA:By w A n p.opts) {B:Option Addr} {d:Nat}
  (hb:Buf w wa [(g,35,pv p A n c)] B 6 d [p.h0,p.tos,(p.tl:Int) / 256 % 256,(p.tl:Int) % 256,p.id / 256 % 256,p.id % 256]) {x:Int} (hx:x=p.off / 8+(if p.df=true then 16384 else 0)):
  qq31.J1 s g B 6 d x wa (RetBuf w (p.head s)):=by
 unfold qq31.J1; intros
 rw [qq31.j1_eq]
 have hod:=(ordB_true (Pk.err_zero he).2.1).1
 have e2:=header_j2 h he hs hA hb
 refine ⟨_,hb.own.cell 0 3 rfl rfl,?_⟩
 refine ifB (fun hm=>?_) (fun hm=>?_)
 ·
  have ef:p.fl=x+8192:=by unfold Pk.fl; rw [if_pos hm,hx]
  refine let_as p.fl (by rw [ef]; exact w64 (by rw [hx]; split <;> omega) (by rw [hx]; split <;> omega)) ?_
  exact ⟨by with_reducible apply e2⟩
 ·
  have ef:x=p.fl:=by unfold Pk.fl; rw [if_neg (c:=p.mf=true) (by rw [hm]; decide),hx,Int.add_zero]
  rw [ef]
  exact ⟨by with_reducible apply e2⟩
end Go.Proofs.YtphbdmafchjjeaaGreatDoorS
namespace Go.Proofs.YtphbdmafchjjeaaGreatDoorS
open Go Go.RowKit Go.Proofs Go.Proofs.YtphbdmafchjjeaaGreatDoorX
set_option maxRecDepth 100000
set_option linter.unusedVariables false
set_option linter.unusedSimpArgs false
theorem header_c {w:World} {p:Pk} (h:p.Fine) (he:p.err=0) {s:Int} (hs:0≤s∧s≤65535) {A:Option Addr} {n c:Nat} (hA:By w A n p.opts) {tl:Int} (et:tl=(p.tl:Int)):
  Calls Tryz.prog 77 #[.agg (pv p A n c).toArray,.int .i64 tl,.int .u16 s] w (RetBuf w (p.head s)):=by
 refine qq31.run ?_
 unfold qq31.s
 obtain ⟨h1,h2,h3⟩:=Pk.err_zero he
 have ho:=oOK_len h1
 have hod:=(ordB_true h2).1
 have htl:=tl_le he
 have htl':0≤tl∧tl≤65535:=by omega
 have hid:=h.id
 have hl:=hA.len
 refine own_new (l:=pv p A n c) (Own.refl w) fun g w1 H=>?_
 refine ⟨A,n,c,H.cell 0 9 rfl rfl,?_⟩
 refine let_as ((n:Int) / 4) (by rw [td (by omega),w64 (by omega) (by omega)]) ?_
 refine let_as (69+(n:Int) / 4) (w64 (by omega) (by omega)) ?_
 refine let_as p.h0 (by rw [w8 (by omega) (by omega)]; unfold Pk.h0 Pk.hl; omega) ?_
 refine ⟨_,H.cell 0 0 rfl rfl,?_⟩
 refine buf_lit (m:=2) (Buf.nil H) [p.h0,p.tos] rfl (by omega) fun B1 d1 w2 hb=>?_
 rw [List.nil_append] at hb
 refine put2_c hb htl' (by omega) fun B2 d2 w3 hb=>?_
 refine ⟨_,4,_,rfl,_,hb.own.cell 0 1 rfl rfl,?_⟩
 refine let_as p.id (w64 (by omega) (by omega)) ?_
 refine put2_c hb hid (by omega) fun B3 d3 w4 hb=>?_
 refine ⟨_,6,_,rfl,_,hb.own.cell 0 4 rfl rfl,?_⟩
 refine let_as (p.off / 8) (by rw [td (by omega),w64 (by omega) (by omega)]) ?_
 refine ⟨_,hb.own.cell 0 2 rfl rfl,?_⟩
 subst et
 replace hb:Buf w w4 [(g,35,pv p A n c)] B3 6 d3 [p.h0,p.tos,(p.tl:Int) / 256 % 256,(p.tl:Int) % 256,p.id / 256 % 256,p.id % 256]:=hb
 refine ifB (fun hd=>?_) (fun hd=>?_)
 ·
  refine let_as (p.off / 8+16384) (w64 (by omega) (by omega)) ?_
  refine ⟨?_⟩
  with_reducible apply header_j1 h he hs hA hb (by rw [if_pos hd])
 ·
  refine ⟨?_⟩
  with_reducible apply header_j1 h he hs hA hb (by rw [if_neg (by rw [hd]; decide),Int.add_zero])
theorem build3_l {w:World} {p:Pk} {g:Nat} {A:Option Addr} {n c:Nat} {B:Option Addr} {m d:Nat} (hB:By w B m p.body) (hm:m≤100000) {F:List Int} (hF:F.length≤100000) {Q:Ending→World→Prop}
  (hQ:∀ w' C j,Buf w w' [] C (F++p.body).length j (F++p.body)→Q (.returned (.tuple #[.slice C (F++p.body).length j,.int .i64 0])) w'):∀ (q i:Nat) (wa:World) (C:Option Addr) (k j:Nat),m-i < q→i≤m→
  Buf w wa [(g,37,pb p A n c B m d)] C k j (F++p.body.take i)→qq44.L1 q g C k j (i:Int) wa Q:=by
 intro q
 induction q with
 | zero=>intro i wa C k j h; omega
 | succ q ih=>
  intro i wa C k j hq hi hb
  have hl:=hB.len
  have hk:=hb.len
  rw [List.length_append,List.length_take] at hk
  unfold qq44.L1; intros
  rw [qq44.l1_eq]
  refine ⟨B,m,d,hb.own.cell 0 10 rfl rfl,?_⟩
  refine ifD (fun h1=>?_) (fun h1=>?_)
  ·
   refine ⟨B,m,d,hb.own.cell 0 10 rfl rfl,?_⟩
   refine (hB.bel hb.own.bel).rd (by omega) (by omega) fun _=>?_
   rw [Int.toNat_natCast]
   refine buf_lit (m:=1) hb [p.body.getD i 0] rfl (by omega) fun B' d' wb hb'=>?_
   refine let_as ((i+1:Nat):Int) (by rw [w64 (by omega) (by omega)]; omega) ?_
   have e:p.body.take i++[p.body.getD i 0]=p.body.take (i+1):=by
    rw [List.take_succ_eq_append_getElem (by omega)]
    simp [List.getD_eq_getElem?_getD,show i < p.body.length by omega]
   rw [List.append_assoc,e] at hb'
   exact ih (i+1) wb B' (k+1) d' (by omega) (by omega) hb' ..
  ·
   have:i=p.body.length:=by omega
   subst this
   rw [List.take_length] at hb
   have e:=hb.len
   subst e
   exact hQ _ _ _ hb.alone
theorem Build3_c {w:World} {p:Pk} (h:p.Fine) {A:Option Addr} {n c:Nat} {B:Option Addr} {m d:Nat} (hp:PkAt w p A n c B m d):
  Calls Tryz.prog 42 #[.agg (pb p A n c B m d).toArray] w (fun e w'=>Bel w w'∧∃ C i j,e=.returned (.tuple #[.slice C i j,.int .i64 p.err])∧(p.err=0→i=p.tl∧By w' C i (p.bytes p.sum)∧i≤j∧Fre w C)∧(p.err≠0→i=0)):=by
 refine qq44.run ?_
 unfold qq44.s
 have lo:=hp.opts.len
 have lb:=hp.body.len
 refine own_new (l:=pb p A n c B m d) (Own.refl w) fun g1 w2 H=>?_
 refine ld_pkt (H.bk 0 rfl) ?_
 refine call_of (refused_c h (hp.bel H.bel)) ?_
 rintro e w3 ⟨rfl,k1⟩
 replace H:=H.call k1
 refine ⟨_,rfl,?_⟩
 refine ifN (fun h1=>?_) (fun h1=>?_)
 ·
  exact ⟨H.bel,none,0,0,rfl,fun h=>absurd h h1,fun _=>rfl⟩
 obtain ⟨q1,q2,q3⟩:=Pk.err_zero h1
 have htl:=tl_le h1
 have hs:=Pk.sum_range h h1
 refine ⟨A,n,c,H.cell 0 9 rfl rfl,?_⟩
 refine let_as (20+(n:Int)) (w64 (by omega) (by omega)) ?_
 refine ⟨B,m,d,H.cell 0 10 rfl rfl,?_⟩
 refine let_as (p.tl:Int) (by rw [w64 (by omega) (by omega)]; unfold Pk.tl; omega) ?_
 refine ld_head10 (H.bk 0 rfl) ?_
 refine call_of (header_c h h1 (s:=0) (by omega) (hp.opts.bel H.bel) rfl) ?_
 rintro e w4 ⟨C,j,rfl,b1⟩
 replace H:=H.call b1.own.bel
 refine ⟨_,_,_,rfl,?_⟩
 have y1:=b1.by
 refine own_newB H fun g2 w5 H k5=>?_
 have hbb:=Pk.head_bytes h h1 0
 have hbl:=Pk.head_len p 0
 refine call_of (sum31_c (H.bk 0 rfl) (y1.bel k5) hbb (by omega) 1) ?_
 rintro e w6 ⟨rfl,k6⟩
 replace H:=(H.call k6).tail
 refine ⟨_,rfl,?_⟩
 refine ld_head10 (H.bk 0 rfl) ?_
 have es:65535-S (tot true (p.head 0))=p.sum:=by
  rw [Pk.head_tot (by omega) (by omega),Int.add_zero]; rfl
 rw [es]
 refine call_of (header_c h h1 (s:=p.sum) (by omega) (hp.opts.bel H.bel) rfl) ?_
 rintro e w7 ⟨C2,j2,rfl,b2⟩
 have bb:=Buf.join H b2
 refine ⟨_,_,_,rfl,m+1,?_⟩
 have hbl2:=Pk.head_len p p.sum
 have:=build3_l (g:=g1) (A:=A) (n:=n) (c:=c) (d:=d) hp.body (by omega) (F:=p.head p.sum) (by omega) (Q:=fun e w'=>Bel w w'∧∃ C i j,e=.returned (.tuple #[.slice C i j,.int .i64 p.err])∧(p.err=0→i=p.tl∧By w' C i (p.bytes p.sum)∧i≤j∧Fre w C)∧(p.err≠0→i=0))
  (fun w' C j hb=>⟨hb.own.bel,C,(p.head p.sum++p.body).length,j,by rw [h1],fun _=>⟨Pk.bytes_len p p.sum,hb.by,hb.le,hb.fre⟩,fun hx=>absurd h1 hx⟩) (m+1) 0 w7 C2 _ j2 (by omega) (by omega) (by rw [List.take_zero,List.append_nil]; exact bb)
 exact this ..
theorem front_c {w:World} {A:Option Addr} {n c:Nat} {b:List Int} (h:By w A n b) (hb:Bytes b) (hn:n≤1000000000000) (whole:Bool):
  Calls Tryz.prog 105 #[.slice A n c,.bool whole] w (Ret (if badLen whole b=0 then .tuple #[.int .i64 (hlen b:Int),.int .i64 (wd b 2),.int .i64 0] else .tuple #[.int .i64 0,.int .i64 0,.int .i64 (badLen whole b)]) w):=by
 refine qq40.run ?_
 unfold qq40.s badLen
 have hl:=h.len
 have g0:=hb.getD 0
 have hw:=wd_range hb 2
 rw [hl]
 refine ifD (fun h1=>?_) (fun h1=>?_)
 ·
  simp only [if_pos (show n < 20 by omega)]
  exact ⟨rfl,Bel.refl w⟩
 simp only [if_neg (show ¬ n < 20 by omega)]
 refine h.rd0 (by omega) fun _=>?_
 refine let_as (b.getD 0 0 / 16) (by rw [td (by omega),w8 (by omega) (by omega)]) ?_
 refine ifN (fun h2=>?_) (fun h2=>?_)
 ·
  simp only [if_pos h2]
  exact ⟨rfl,Bel.refl w⟩
 simp only [if_neg (not_not_intro h2)]
 refine h.rd0 (by omega) fun _=>?_
 refine let_as (b.getD 0 0 % 16) (tm (by omega)) ?_
 refine let_as _ (w64 (by omega) (by omega)) ?_
 refine let_as (hlen b:Int) (by rw [w64 (by omega) (by omega)]; unfold hlen; omega) ?_
 refine ifD (fun h3=>?_) (fun h3=>?_)
 ·
  simp only [if_pos (show hlen b < 20 by omega)]
  exact ⟨rfl,Bel.refl w⟩
 simp only [if_neg (show ¬ hlen b < 20 by omega)]
 refine ifD (fun h4=>?_) (fun h4=>?_)
 ·
  simp only [if_pos (show n < hlen b by omega)]
  exact ⟨rfl,Bel.refl w⟩
 simp only [if_neg (show ¬ n < hlen b by omega)]
 refine call_of (two_c h hb (i:=2) rfl (by omega) (by omega)) ?_
 rintro e w1 ⟨rfl,k1⟩
 refine ⟨_,rfl,?_⟩
 refine ifD (fun h5=>?_) (fun h5=>?_)
 ·
  simp only [if_pos h5]
  exact ⟨rfl,k1⟩
 simp only [if_neg h5]
 refine ifB (fun h6=>?_) (fun h6=>?_)
 ·
  subst h6
  refine ifD (fun h7=>?_) (fun h7=>?_)
  ·
   simp only [if_pos (show True∧(n:Int) < wd b 2 from ⟨trivial,h7⟩)]
   exact ⟨rfl,k1⟩
  ·
   simp only [if_neg (show ¬ (True∧(n:Int) < wd b 2) from fun h=>h7 h.2)]
   exact ⟨rfl,k1⟩
 ·
  subst h6
  simp only [Bool.false_eq_true,false_and,if_false]
  exact ⟨rfl,k1⟩
def RetRd (w:World) (whole:Bool) (b:List Int) (e:Ending) (w':World):Prop:=Bel w w'∧if bad whole b=0 then ∃ A1 c1 A2 c2,e=.returned (.tuple #[.agg (hb b A1 (hlen b-20) c1++[Value.slice A2 (there b-hlen b) c2]).toArray,.int .i64 0])∧
   By w' A1 (hlen b-20) ((b.take (hlen b)).drop 20)∧By w' A2 (there b-hlen b) ((b.take (there b)).drop (hlen b))∧hlen b-20≤c1∧there b-hlen b≤c2∧Fre w A1∧Fre w A2
   else e=.returned (.tuple #[.agg (pb pz none 0 0 none 0 0).toArray,.int .i64 (bad whole b)])
end Go.Proofs.YtphbdmafchjjeaaGreatDoorS
namespace Go.Proofs.YtphbdmafchjjeaaGreatDoorS
open Go Go.RowKit Go.Proofs Go.Proofs.YtphbdmafchjjeaaGreatDoorX
set_option maxRecDepth 100000
set_option linter.unusedVariables false
set_option linter.unusedSimpArgs false
theorem at_head {w:World} {g:Nat} {t:TypeId} {a0 a1:Int} {a2 a3:Bool} {a4 a5 a6 a7 a8:Int} {A:Option Addr} {n c:Nat} {l:List Value} (h:Bk w g t (hv a0 a1 a2 a3 a4 a5 a6 a7 a8 A n c++l)):
  At w ⟨g,0,none⟩ [.int .u8 a0,.int .u16 a1,.bool a2,.bool a3,.int .i64 a4,.int .u8 a5,.int .u8 a6,.int .u32 a7,.int .u32 a8,.slice A n c]:=fun j u hu=>by
 have hj:j < 10:=(List.getElem?_eq_some_iff.1 hu).1
 rw [add_blk,Nat.zero_add]
 refine h.cell j ?_
 rw [List.getElem?_append_left hj]
 exact hu
theorem clone3_m {w:World} {A:Option Addr} {n c:Nat} {l:List Int} (h:By w A n l) (hn:n≤10000000000000):
  Calls Tryz.prog 108 #[.slice A n c] w (fun e w'=>Bel w w'∧∃ A' c',e=.returned (.slice A' n c')∧By w' A' n l∧n≤c'∧Fre w A'):=by
 refine call_of (clone3_c h hn) ?_
 have hl:=h.len
 rintro e w' ⟨k,A',c',e1,h1,h2,h3⟩
 rw [hl] at e1 h1 h2
 exact ⟨k,A',c',e1,h1,h2,h3⟩
theorem read3_j1 {w0 w:World} {A:Option Addr} {n c:Nat} {b:List Int} (h:By w0 A n b) (hb_:Bytes b) (hc:n≤c) (hn:n≤1000000000000) {whole:Bool} (h1:bad whole b=0) {g1 g3:Nat}
  (H:Own w0 w [(g3,37,pb pz none 0 0 none 0 0),(g1,37,pb pz none 0 0 none 0 0)]) {f:Int} (ef:f=b.getD 6 0 / 32):
  qq68.J1 A n c g1 (hlen b:Int) (there b:Int) f (wd b 6 % 8192 * 8) w (RetRd w0 whole b):=by
 obtain ⟨q1,q2,q3,q4,q5⟩:=bad_zero h1
 obtain ⟨p1,p2,p3,p4,p5,p6⟩:=badLen_zero q1
 obtain ⟨t1,t2,t3⟩:=flag_top hb_
 have hl:=h.len
 have g6:=hb_.getD 6
 have hw2:=wd_range hb_ 2
 have hw4:=wd_range hb_ 4
 have hw12:=lg_range hb_ 12
 have hw16:=lg_range hb_ 16
 have u1:hlen b≤there b:=by unfold there; omega
 have u2:there b≤n:=by unfold there; omega
 have f4:¬ f ≥ 4:=by rw [ef]; intro hx; have:=t1.2 hx; omega
 have eD:((f / 2) == (1:Int))=decide (wd b 6 / 16384 % 2=1):=by rw [beq_d,t2,← ef]; congr 1; exact propext ⟨fun h=>by omega,fun h=>by omega⟩
 have eM:((f % 2) == (1:Int))=decide (wd b 6 / 8192 % 2=1):=by rw [beq_d,t3,← ef]
 unfold qq68.J1; intros
 rw [qq68.j1_eq]
 refine own_new (l:=pb pz none 0 0 none 0 0) H fun g4 w2 H=>?_
 refine draws (fun w'=>∃ l,Own w0 w' [(g4,37,l),(g3,37,pb pz none 0 0 none 0 0),(g1,37,pb pz none 0 0 none 0 0)]) ⟨_,H.drew⟩ fun w4 e4=>?_
 replace H:=H.drew
 rw [← e4] at H
 have hS:∀ w',(∃ l,Own w0 w' [(g4,37,l),(g3,37,pb pz none 0 0 none 0 0),(g1,37,pb pz none 0 0 none 0 0)])→Bel w0 w':=fun w' ⟨l,h⟩=>h.bel
 refine h.rdkS hS 1 rfl (by omega) fun _=>?_
 refine let_as (f / 2) (by rw [td (by omega),w64 (by omega) (by omega)]) ?_
 refine let_as (f % 2) (tm (by omega)) ?_
 rw [eD,eM]
 refine h.rdkS hS 8 rfl (by omega) fun _=>?_
 refine h.rdkS hS 9 rfl (by omega) fun _=>?_
 refine ⟨⟨by omega,by omega⟩,⟨by omega,by omega⟩,?_⟩
 refine call_of (two_c (h.bel H.bel) hb_ (i:=4) rfl (by omega) (by omega)) ?_
 rintro e w5 ⟨rfl,k5⟩
 replace H:=H.call k5
 refine ⟨_,rfl,⟨_,H⟩,?_⟩
 refine let_as _ (w16 (by omega) (by omega)) ?_
 refine call_of (four_c (h.bel H.bel) hb_ (i:=12) rfl (by omega) (by omega)) ?_
 rintro e w6 ⟨rfl,k6⟩
 replace H:=H.call k6
 refine ⟨_,rfl,⟨_,H⟩,?_⟩
 refine let_as _ (w32 (by omega) (by omega)) ?_
 refine call_of (four_c (h.bel H.bel) hb_ (i:=16) rfl (by omega) (by omega)) ?_
 rintro e w7 ⟨rfl,k7⟩
 replace H:=H.call k7
 refine ⟨_,rfl,⟨_,H⟩,?_⟩
 refine let_as _ (w32 (by omega) (by omega)) ?_
 rw [Int.toNat_natCast,Int.toNat_natCast]
 refine call_of (clone3_m ((h.bel H.bel).mid (k:=20) (j:=hlen b) (m:=c) (by omega) (by omega) hc) (by omega)) ?_
 rintro e w8 ⟨k8,A1,c1,rfl,y1,l1,r1⟩
 have o1:=H.old 0 rfl r1
 have o1':=H.old 2 rfl r1
 have kw1:=H.bel
 replace H:=H.call k8
 refine ⟨_,_,_,rfl,⟨_,H⟩,?_⟩
 refine own_putB 0 H rfl rfl (by decide) fun w9 H u9=>?_
 refine ⟨⟨_,H⟩,?_⟩
 replace y1:=y1.but u9 o1
 refine ⟨⟨by omega,by omega⟩,⟨by omega,by omega⟩,?_⟩
 refine call_of (clone3_m ((h.bel H.bel).mid (k:=hlen b) (j:=there b) (m:=c) (by omega) (by omega) hc) (by omega)) ?_
 rintro e w10 ⟨k10,A2,c2,rfl,y2,l2,r2⟩
 have o2:=H.old 0 rfl r2
 have o2':=H.old 2 rfl r2
 have kw2:=H.bel
 replace H:=H.call k10
 replace y1:=y1.bel k10
 refine ⟨_,_,_,rfl,?_⟩
 refine own_setB 0 H rfl (Nat.lt_of_lt_of_le (by decide:10 < 11) (Nat.le_refl 11)) fun w11 H u11=>?_
 replace H:Own w0 w11 [(g4,37,hb b A1 (hlen b-20) c1++[.slice A2 (there b-hlen b) c2]),(g3,37,pb pz none 0 0 none 0 0),(g1,37,pb pz none 0 0 none 0 0)]:=H
 refine ld_pkt (H.bk 0 rfl) ?_
 refine put_pkt 2 H rfl rfl fun w12 H u12=>?_
 refine ⟨H.bel,?_⟩
 rw [if_pos h1]
 exact ⟨A1,c1,A2,c2,rfl,(y1.but u11 o1).but u12 o1',(y2.but u11 o2).but u12 o2',l1,l2,r1.le kw1,r2.le kw2⟩
theorem RetRd.no {w0 w w':World} {whole:Bool} {b:List Int} {k:Int} (h:bad whole b=k) (hk:k≠0) (hb:Bel w0 w'):RetRd w0 whole b (.returned (.tuple #[.agg (pb pz none 0 0 none 0 0).toArray,.int .i64 k])) w':=by
 refine ⟨hb,?_⟩
 rw [if_neg (by rw [h]; exact hk),h]
theorem read3_c {w:World} {A:Option Addr} {n c:Nat} {b:List Int} (h:By w A n b) (hb_:Bytes b) (hc:n≤c) (hn:n≤1000000000000) (whole:Bool):
  Calls Tryz.prog 101 #[.slice A n c,.bool whole] w (RetRd w whole b):=by
 refine qq68.run ?_
 unfold qq68.s
 have hl:=h.len
 obtain ⟨t1,t2,t3⟩:=flag_top hb_
 have g6:=hb_.getD 6
 have hw2:=wd_range hb_ 2
 have hw6:=wd_range hb_ 6
 refine own_new (l:=pb pz none 0 0 none 0 0) (Own.refl w) fun g1 w2 H=>?_
 refine own_new (l:=pb pz none 0 0 none 0 0) H fun g3 w3 H=>?_
 have no:∀ {w5:World} (k:Int) (hk:bad whole b=k) (h0:k≠0) (H:Own w w5 [(g3,37,pb pz none 0 0 none 0 0),(g1,37,pb pz none 0 0 none 0 0)]),
   ∃ x0:Int,∃ x1:Int,∃ x2:Bool,∃ x3:Bool,∃ x4:Int,∃ x5:Int,∃ x6:Int,∃ x7:Int,∃ x8:Int,∃ (C:Option Addr) (i j:Nat),∃ (D:Option Addr) (i' j':Nat),
   (11=11∧At w5 ⟨g3,0,none⟩ [.int .u8 x0,.int .u16 x1,.bool x2,.bool x3,.int .i64 x4,.int .u8 x5,.int .u8 x6,.int .u32 x7,.int .u32 x8,.slice C i j,.slice D i' j'])∧
   (May w5 ⟨g1,0,none⟩ 11∧(Let (putCells w5 ⟨g1,0,none⟩ [.int .u8 x0,.int .u16 x1,.bool x2,.bool x3,.int .i64 x4,.int .u8 x5,.int .u8 x6,.int .u32 x7,.int .u32 x8,.slice C i j,.slice D i' j'] 0) fun w21:World=>
   ∃ x0:Int,∃ x1:Int,∃ x2:Bool,∃ x3:Bool,∃ x4:Int,∃ x5:Int,∃ x6:Int,∃ x7:Int,∃ x8:Int,∃ (C:Option Addr) (i j:Nat),∃ (D:Option Addr) (i' j':Nat),
   (11=11∧At w21 ⟨g1,0,none⟩ [.int .u8 x0,.int .u16 x1,.bool x2,.bool x3,.int .i64 x4,.int .u8 x5,.int .u8 x6,.int .u32 x7,.int .u32 x8,.slice C i j,.slice D i' j'])∧
   (RetRd w whole b (.returned (.tuple #[.agg #[.int .u8 x0,.int .u16 x1,.bool x2,.bool x3,.int .i64 x4,.int .u8 x5,.int .u8 x6,.int .u32 x7,.int .u32 x8,.slice C i j,.slice D i' j'],.int .i64 k])) w21))):=by
  intro w5 k hk h0 H
  refine ld_pkt (H.bk 0 rfl) ?_
  refine put_pkt 1 H rfl rfl fun w12 H u12=>?_
  exact RetRd.no (w:=w) hk h0 H.bel
 refine call_of (front_c (h.bel H.bel) hb_ (by omega) whole) ?_
 rintro e w4 ⟨rfl,k4⟩
 replace H:=H.call k4
 by_cases h1:badLen whole b≠0
 ·
  have eb:bad whole b=badLen whole b:=by unfold bad; rw [if_pos h1]
  rw [if_neg h1]
  refine ⟨_,_,_,rfl,?_⟩
  refine ifN (fun _=>?_) (fun h=>absurd h h1)
  exact no _ eb h1 H
 replace h1:badLen whole b=0:=Decidable.of_not_not h1
 obtain ⟨p1,p2,p3,p4,p5,p6⟩:=badLen_zero h1
 rw [if_pos h1]
 refine ⟨_,_,_,rfl,?_⟩
 refine ifN (fun h=>absurd rfl h) (fun _=>?_)
 refine ⟨⟨by omega,by omega⟩,?_⟩
 rw [Int.toNat_natCast]
 refine own_newB H fun g5 w5 H k5=>?_
 refine call_of (sum31_c (H.bk 0 rfl) ((h.bel H.bel).take (by omega)) (hb_.take _) (by rw [List.length_take]; omega) 1) ?_
 rintro e w6 ⟨rfl,k6⟩
 replace H:=(H.call k6).tail
 refine ⟨_,rfl,?_⟩
 refine ifN (fun h2=>?_) (fun h2=>?_)
 ·
  exact no 33 (by unfold bad; rw [if_neg (not_not_intro h1),if_pos h2]) (by decide) H
 refine (h.bel H.bel).rdk 6 rfl (by omega) fun _=>?_
 refine let_as _ (w64 (by omega) (by omega)) ?_
 refine let_as (b.getD 6 0 / 32) (by rw [td (by omega),w64 (by omega) (by omega)]) ?_
 refine ifD (fun h3=>?_) (fun h3=>?_)
 ·
  exact no 32 (by unfold bad; rw [if_neg (not_not_intro h1),if_neg (not_not_intro h2),if_pos (t1.2 h3)]) (by decide) H
 have h3':¬ 32768≤wd b 6:=fun hx=>h3 (t1.1 hx)
 refine ⟨⟨by omega,by omega⟩,⟨by omega,by omega⟩,?_⟩
 refine call_of (area3_c ((h.bel H.bel).mid (k:=20) (j:=hlen b) (m:=c) (by omega) (by omega) hc) ((hb_.take _).drop _)) ?_
 rintro e w7 ⟨rfl,k7⟩
 replace H:=H.call k7
 refine ⟨_,rfl,?_⟩
 refine ifNot (fun h4=>?_) (fun h4=>?_)
 ·
  exact no 34 (by unfold bad; rw [if_neg (not_not_intro h1),if_neg (not_not_intro h2),if_neg h3',if_pos (by rw [h4]; decide)]) (by decide) H
 refine call_of (two_c (h.bel H.bel) hb_ (i:=6) rfl (by omega) (by omega)) ?_
 rintro e w8 ⟨rfl,k8⟩
 replace H:=H.call k8
 refine ⟨_,rfl,?_⟩
 refine let_as (wd b 6 % 8192) (tm (by omega)) ?_
 refine let_as (wd b 6 % 8192 * 8) (by rw [w64 (by omega) (by omega)]; omega) ?_
 refine let_as _ (w64 (by omega) (by omega)) ?_
 refine let_as (b.getD 6 0 / 32 % 2) (tm (by omega)) ?_
 have eM:((b.getD 6 0 / 32 % 2) == (1:Int))=decide (wd b 6 / 8192 % 2=1):=by rw [beq_d,t3]
 rw [eM]
 refine call_of (piece_c w8 (off:=wd b 6 % 8192 * 8) (body:=wd b 2-hlen b) (mf:=decide (wd b 6 / 8192 % 2=1)) (by omega) (by omega)) ?_
 rintro e w9 ⟨rfl,k9⟩
 replace H:=H.call k9
 refine ⟨_,rfl,?_⟩
 refine ifNot (fun h5=>?_) (fun h5=>?_)
 ·
  exact no 36 (by unfold bad; rw [if_neg (not_not_intro h1),if_neg (not_not_intro h2),if_neg h3',if_neg (by rw [h4]; decide),if_pos (by rw [h5]; decide)]) (by decide) H
 have eb:bad whole b=0:=by unfold bad; rw [if_neg (not_not_intro h1),if_neg (not_not_intro h2),if_neg h3',if_neg (by rw [h4]; decide),if_neg (by rw [h5]; decide)]
 have fin:=read3_j1 (c:=c) h hb_ hc hn eb H rfl
 refine ifD (fun h6=>?_) (fun h6=>?_)
 ·
  have e6:(n:Int)=(there b:Int):=by unfold there; omega
  refine ⟨?_⟩
  rw [e6]
  exact fin ..
 ·
  have e6:wd b 2=(there b:Int):=by unfold there; omega
  refine ⟨?_⟩
  rw [e6]
  exact fin ..
theorem Peek3_c {w:World} {A:Option Addr} {n c:Nat} {b:List Int} (h:By w A n b) (hb_:Bytes b) (hc:n≤c) (hn:n≤1000000000000):
  Calls Tryz.prog 85 #[.slice A n c] w (fun e w'=>Bel w w'∧if bad false b=0 then ∃ A1 c1 A2 c2,e=.returned (.tuple #[.agg (hb b A1 (hlen b-20) c1).toArray,.slice A2 (there b-hlen b) c2,.int .i64 0])∧
   By w' A1 (hlen b-20) ((b.take (hlen b)).drop 20)∧By w' A2 (there b-hlen b) ((b.take (there b)).drop (hlen b))∧hlen b-20≤c1∧there b-hlen b≤c2∧Fre w A1∧Fre w A2
   else e=.returned (.tuple #[.agg hz.toArray,.slice none 0 0,.int .i64 (bad false b)])):=by
 refine qq69.run ?_
 unfold qq69.s
 refine own_new (l:=hz) (Own.refl w) fun g1 w2 H=>?_
 refine call_of (read3_c (h.bel H.bel) hb_ hc hn false) ?_
 rintro e w3 ⟨k3,he⟩
 by_cases h1:bad false b=0
 ·
  rw [if_pos h1] at he
  obtain ⟨A1,c1,A2,c2,rfl,y1,y2,l1,l2,r1,r2⟩:=he
  have o1:=H.old 0 rfl r1
  have o2:=H.old 0 rfl r2
  have kw:=H.bel
  replace H:=H.call k3
  refine ⟨_,_,_,_,_,_,_,_,_,_,_,_,_,_,_,_,rfl,?_⟩
  refine own_newC (l:=pb pz none 0 0 none 0 0) H fun g2 w4 H k4 hg=>?_
  have z1:=y1.newer hg
  have z2:=y2.newer hg
  replace y1:=y1.bel k4
  replace y2:=y2.bel k4
  refine own_putB 0 H rfl rfl (by decide) fun w5 H u5=>?_
  replace y1:=y1.but1 u5 z1
  replace y2:=y2.but1 u5 z2
  replace H:Own w w5 [(g2,37,hb b A1 (hlen b-20) c1++[.slice A2 (there b-hlen b) c2]),(g1,35,hz)]:=H
  refine draws (fun w'=>∃ l,Own w w' [(g2,37,hb b A1 (hlen b-20) c1++[.slice A2 (there b-hlen b) c2]),(g1,35,l)]) ⟨_,H.drew⟩ fun w6 e6=>?_
  replace H:=H.drew
  have kd:Bel w5 w6:=by rw [e6]; exact (Bel.refl w5).drew
  replace y1:=y1.bel kd
  replace y2:=y2.bel kd
  rw [← e6] at H
  refine ⟨_,_,_,_,_,_,_,_,_,_,_,_,⟨rfl,fun w' ⟨l,hw⟩=>at_head (hw.bk 0 rfl)⟩,?_⟩
  refine ⟨_,_,_,fun w' ⟨l,hw⟩=>hw.cell 0 10 rfl rfl,?_⟩
  refine own_putB 1 H rfl rfl (by decide) fun w7 H u7=>?_
  refine ⟨⟨_,H⟩,?_⟩
  refine ld_head (H.bk 1 rfl) ?_
  refine ⟨H.bel,?_⟩
  rw [if_pos h1]
  exact ⟨A1,c1,A2,c2,rfl,y1.but u7 o1,y2.but u7 o2,l1,l2,r1.le kw,r2.le kw⟩
 ·
  rw [if_neg h1] at he
  subst he
  replace H:=H.call k3
  refine ⟨_,_,_,_,_,_,_,_,_,_,_,_,_,_,_,_,rfl,?_⟩
  refine own_new (l:=pb pz none 0 0 none 0 0) H fun g2 w4 H=>?_
  refine own_put 0 H rfl rfl (by decide) fun w5 H=>?_
  replace H:Own w w5 [(g2,37,pb pz none 0 0 none 0 0),(g1,35,hz)]:=H
  refine draws (fun w'=>∃ l,Own w w' [(g2,37,pb pz none 0 0 none 0 0),(g1,35,l)]) ⟨_,H.drew⟩ fun w6 e6=>?_
  replace H:=H.drew
  rw [← e6] at H
  refine ⟨_,_,_,_,_,_,_,_,_,_,_,_,⟨rfl,fun w' ⟨l,hw⟩=>at_head (hw.bk 0 rfl)⟩,?_⟩
  refine ⟨_,_,_,fun w' ⟨l,hw⟩=>hw.cell 0 10 rfl rfl,?_⟩
  refine own_put 1 H rfl rfl (by decide) fun w7 H=>?_
  refine ⟨⟨_,H⟩,?_⟩
  refine ld_head (H.bk 1 rfl) ?_
  refine ⟨H.bel,?_⟩
  rw [if_neg h1]
  rfl
end Go.Proofs.YtphbdmafchjjeaaGreatDoorS
