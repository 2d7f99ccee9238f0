import Derived.Test.YtphbdmafchjjeaaGreatDoorTQBSRef3CM
import Derived.Test.YtphbdmafchjjeaaGreatDoorTQBSNatLM
import Derived.Test.YtphbdmafchjjeaaGreatDoorTQBSFS
namespace Go.Proofs.YtphbdmafchjjeaaGreatDoorS
open Go Go.RowKit Go.Proofs Go.Proofs.YtphbdmafchjjeaaGreatDoorX
set_option maxRecDepth 100000
set_option linter.unusedVariables false
set_option linter.unusedSimpArgs false
section
variable {w a:World} {L:List (Nat×TypeId×List Value)}
theorem zero_out (i k:Nat) {g g':Nat} {t t':TypeId} {l:List Value} (h:Own w a L) (hi:L[i]?=some (g,t,pb pz none 0 0 none 0 0)) (hk:L[k]?=some (g',t',l)) (hl:l.length=11) {Q:Ending→World→Prop} {kk:Int}
  (hQ:∀ w1,Bel w w1→Q (.returned (.tuple #[.agg (pb pz none 0 0 none 0 0).toArray,.int .i64 kk])) w1):
  ∃ x0:Int,∃ x1:Int,∃ x2:Bool,∃ x3:Bool,∃ x4:Int,∃ x5:Int,∃ x6:Int,∃ x7:Int,∃ x8:Int,∃ (C:Option Addr) (i j:Nat),∃ (D:Option Addr) (i' j':Nat),
   (11=11∧At a ⟨g,0,none⟩ [.int .u8 x0,.int .u16 x1,.bool x2,.bool x3,.int .i64 x4,.int .u8 x5,.int .u8 x6,.int .u32 x7,.int .u32 x8,.slice C i j,.slice D i' j'])∧
   (May a ⟨g',0,none⟩ 11∧(Let (putCells a ⟨g',0,none⟩ [.int .u8 x0,.int .u16 x1,.bool x2,.bool x3,.int .i64 x4,.int .u8 x5,.int .u8 x6,.int .u32 x7,.int .u32 x8,.slice C i j,.slice D i' j'] 0) fun w21:World=>
   ∃ x0:Int,∃ x1:Int,∃ x2:Bool,∃ x3:Bool,∃ x4:Int,∃ x5:Int,∃ x6:Int,∃ x7:Int,∃ x8:Int,∃ (C:Option Addr) (i j:Nat),∃ (D:Option Addr) (i' j':Nat),
   (11=11∧At w21 ⟨g',0,none⟩ [.int .u8 x0,.int .u16 x1,.bool x2,.bool x3,.int .i64 x4,.int .u8 x5,.int .u8 x6,.int .u32 x7,.int .u32 x8,.slice C i j,.slice D i' j'])∧
   (Q (.returned (.tuple #[.agg #[.int .u8 x0,.int .u16 x1,.bool x2,.bool x3,.int .i64 x4,.int .u8 x5,.int .u8 x6,.int .u32 x7,.int .u32 x8,.slice C i j,.slice D i' j'],.int .i64 kk])) w21))):=by
 refine ld_pkt (h.bk i hi) ?_
 exact put_pkt k h hk hl fun w1 H _=>hQ w1 H.bel
theorem zero_msg (i k:Nat) {g g':Nat} {t t':TypeId} {l:List Value} (h:Own w a L) (hi:L[i]?=some (g,t,mv 0 0 0 none 0 0)) (hk:L[k]?=some (g',t',l)) (hl:l.length=4) {Q:Ending→World→Prop} {kk:Int}
  (hQ:∀ w1,Bel w w1→Q (.returned (.tuple #[.agg (mv 0 0 0 none 0 0).toArray,.int .i64 kk])) w1):
  ∃ x0:Int,∃ x1:Int,∃ x2:Int,∃ (C:Option Addr) (i j:Nat),(4=4∧At a ⟨g,0,none⟩ [.int .u8 x0,.int .u8 x1,.int .u32 x2,.slice C i j])∧
   (May a ⟨g',0,none⟩ 4∧(Let (putCells a ⟨g',0,none⟩ [.int .u8 x0,.int .u8 x1,.int .u32 x2,.slice C i j] 0) fun w21:World=>
   ∃ x0:Int,∃ x1:Int,∃ x2:Int,∃ (C:Option Addr) (i j:Nat),(4=4∧At w21 ⟨g',0,none⟩ [.int .u8 x0,.int .u8 x1,.int .u32 x2,.slice C i j])∧
   (Q (.returned (.tuple #[.agg #[.int .u8 x0,.int .u8 x1,.int .u32 x2,.slice C i j],.int .i64 kk])) w21))):=by
 refine ld_msg (h.bk i hi) ?_
 exact put_msg k h hk hl fun w1 H _=>hQ w1 H.bel
theorem zero_head (i k:Nat) {g g':Nat} {t t':TypeId} {l:List Value} (h:Own w a L) (hi:L[i]?=some (g,t,hz)) (hk:L[k]?=some (g',t',l)) (hl:l.length=10) {Q:Ending→World→Prop} {kk:Int}
  (hQ:∀ w1,Bel w w1→Q (.returned (.tuple #[.agg hz.toArray,.slice none 0 0,.int .i64 kk])) w1):
  ∃ x0:Int,∃ x1:Int,∃ x2:Bool,∃ x3:Bool,∃ x4:Int,∃ x5:Int,∃ x6:Int,∃ x7:Int,∃ x8:Int,∃ (C:Option Addr) (i j:Nat),
   (10=10∧At a ⟨g,0,none⟩ [.int .u8 x0,.int .u16 x1,.bool x2,.bool x3,.int .i64 x4,.int .u8 x5,.int .u8 x6,.int .u32 x7,.int .u32 x8,.slice C i j])∧
   (May a ⟨g',0,none⟩ 10∧(Let (putCells a ⟨g',0,none⟩ [.int .u8 x0,.int .u16 x1,.bool x2,.bool x3,.int .i64 x4,.int .u8 x5,.int .u8 x6,.int .u32 x7,.int .u32 x8,.slice C i j] 0) fun w21:World=>
   ∃ x0:Int,∃ x1:Int,∃ x2:Bool,∃ x3:Bool,∃ x4:Int,∃ x5:Int,∃ x6:Int,∃ x7:Int,∃ x8:Int,∃ (C:Option Addr) (i j:Nat),
   (10=10∧At w21 ⟨g',0,none⟩ [.int .u8 x0,.int .u16 x1,.bool x2,.bool x3,.int .i64 x4,.int .u8 x5,.int .u8 x6,.int .u32 x7,.int .u32 x8,.slice C i j])∧
   (Q (.returned (.tuple #[.agg #[.int .u8 x0,.int .u16 x1,.bool x2,.bool x3,.int .i64 x4,.int .u8 x5,.int .u8 x6,.int .u32 x7,.int .u32 x8,.slice C i j],.slice none 0 0,.int .i64 kk])) w21))):=by
 refine ld_head (h.bk i hi) ?_
 exact put_head k h hk hl fun w1 H _=>hQ w1 H.bel
end
theorem faulty6_c (w:World) (t:Int):Calls Tryz.prog 84 #[.int .u8 t] w (Ret (.bool (faultT t)) w):=by
 refine qq25.run ?_
 unfold qq25.s faultT
 refine ifE (fun h1=>?_) (fun h1=>?_)
 ·
  rw [decide_eq_true (by omega)]; exact ⟨rfl,Bel.refl w⟩
 refine ifE (fun h2=>?_) (fun h2=>?_)
 ·
  rw [decide_eq_true (by omega)]; exact ⟨rfl,Bel.refl w⟩
 refine ifE (fun h3=>?_) (fun h3=>?_)
 ·
  rw [decide_eq_true (by omega)]; exact ⟨rfl,Bel.refl w⟩
 refine ifE (fun h4=>?_) (fun h4=>?_)
 ·
  rw [decide_eq_true (by omega)]; exact ⟨rfl,Bel.refl w⟩
 rw [beq_d]
 refine ⟨?_,Bel.refl w⟩
 congr 3
 exact propext ⟨fun h=>by omega,fun h=>by omega⟩
theorem clone6_l (w:World) {A:Option Addr} {n c:Nat} {l:List Int} (h:By w A n l) (hn:n≤10000000000000):∀ (q i:Nat) (wa:World) (B:Option Addr) (d:Nat),n-i < q→i≤n→Buf w wa [] B i d (l.take i)→
  qq48.L1 q A n c B i d (i:Int) wa (RetBy w l):=by
 intro q
 induction q with
 | zero=>intro i wa B d h; omega
 | succ q ih=>
  intro i wa B d hq hi hb
  have hl:=h.len
  unfold qq48.L1; intros
  rw [qq48.l1_eq]
  refine ifD (fun h1=>?_) (fun h1=>?_)
  ·
   refine (h.bel hb.own.bel).rd (by omega) (by omega) fun _=>?_
   rw [Int.toNat_natCast]
   refine buf_lit (m:=1) hb [l.getD i 0] rfl (by omega) fun B' d' wb hb'=>?_
   refine let_as ((i+1:Nat):Int) (by rw [w64 (by omega) (by omega)]; omega) ?_
   have e:l.take i++[l.getD i 0]=l.take (i+1):=by
    rw [List.take_succ_eq_append_getElem (by omega)]
    simp [List.getD_eq_getElem?_getD,show i < l.length by omega]
   rw [e] at hb'
   exact ih (i+1) wb B' d' (by omega) (by omega) hb' ..
  ·
   have:i=l.length:=by omega
   subst this
   rw [List.take_length] at hb
   exact ⟨hb.own.bel,B,d,rfl,hb.by,hb.le,hb.fre⟩
theorem clone6_m {w:World} {A:Option Addr} {n c:Nat} {l:List Int} (h:By w A n l) (hn:n≤10000000000000):
  Calls Tryz.prog 86 #[.slice A n c] w (fun e w'=>Bel w w'∧∃ A' c',e=.returned (.slice A' n c')∧By w' A' n l∧n≤c'∧Fre w A'):=by
 refine qq48.run ?_
 unfold qq48.s
 have hl:=h.len
 refine ⟨n+1,?_⟩
 intros
 have k:=clone6_l w (c:=c) h hn (n+1) 0 w none 0 (by omega) (by omega) (Buf.nil (Own.refl w))
 have e:RetBy w l=fun e w'=>Bel w w'∧∃ A' c',e=.returned (.slice A' n c')∧By w' A' n l∧n≤c'∧Fre w A':=by
  unfold RetBy
  rw [hl]
 rw [e] at k
 exact k ..
theorem raw6_l {w:World} {q:Ic} {g:Nat} {A:Option Addr} {n c:Nat} (hA:By w A n q.body) (hn:n≤1000000) {F:List Int} (hF:F.length=8):∀ (k i:Nat) (wa:World) (B:Option Addr) (m d:Nat),n-i < k→i≤n→
  Buf w wa [(g,106,mv q.typ q.code q.rest A n c)] B m d (F++q.body.take i)→qq73.L1 k g B m d (i:Int) wa (RetBuf w (F++q.body)):=by
 intro k
 induction k with
 | zero=>intro i wa B m d h; omega
 | succ k ih=>
  intro i wa B m d hq hi hb
  have hl:=hA.len
  have hm:=hb.len
  rw [List.length_append,List.length_take] at hm
  unfold qq73.L1; intros
  rw [qq73.l1_eq]
  refine ⟨A,n,c,hb.own.cell 0 3 rfl rfl,?_⟩
  refine ifD (fun h1=>?_) (fun h1=>?_)
  ·
   refine ⟨A,n,c,hb.own.cell 0 3 rfl rfl,?_⟩
   refine (hA.bel hb.own.bel).rd (by omega) (by omega) fun _=>?_
   rw [Int.toNat_natCast]
   refine buf_lit (m:=1) hb [q.body.getD i 0] rfl (by omega) fun B' d' wb hb'=>?_
   refine let_as ((i+1:Nat):Int) (by rw [w64 (by omega) (by omega)]; omega) ?_
   have e:q.body.take i++[q.body.getD i 0]=q.body.take (i+1):=by
    rw [List.take_succ_eq_append_getElem (by omega)]
    simp [List.getD_eq_getElem?_getD,show i < q.body.length by omega]
   rw [List.append_assoc,e] at hb'
   exact ih (i+1) wb B' (m+1) d' (by omega) (by omega) hb' ..
  ·
   have:i=q.body.length:=by omega
   subst this
   rw [List.take_length] at hb
   refine ⟨B,d,by rw [hb.len],?_⟩
   rw [hb.len]
   exact hb.alone
theorem raw6_c {w:World} {q:Ic} (h:q.Fine) (h5:q.body.length≤65507) {s:Int} (hs:0≤s∧s≤65535) {A:Option Addr} {n c:Nat} (hA:By w A n q.body):
  Calls Tryz.prog 89 #[.agg (mv q.typ q.code q.rest A n c).toArray,.int .u16 s] w (RetBuf w (q.bytes s)):=by
 refine qq73.run ?_
 unfold qq73.s
 have hr:=h.rest
 have hl:=hA.len
 refine own_new (l:=mv q.typ q.code q.rest A n c) (Own.refl w) fun g w1 H=>?_
 refine ⟨_,H.cell 0 2 rfl rfl,?_⟩
 refine let_as q.rest (w64 (by omega) (by omega)) ?_
 refine ⟨_,H.cell 0 0 rfl rfl,_,H.cell 0 1 rfl rfl,?_⟩
 refine let_as (s / 256) (by rw [td (by omega),w16 (by omega) (by omega)]) ?_
 refine let_as (s / 256 % 256) (by rw [w8 (by omega) (by omega)]; omega) ?_
 refine let_as (s % 256) (tm (by omega)) ?_
 refine let_as (s % 256) (w8 (by omega) (by omega)) ?_
 refine let_as (q.rest / 16777216) (by rw [td (by omega),w64 (by omega) (by omega)]) ?_
 refine let_as (q.rest / 16777216 % 256) (by rw [w8 (by omega) (by omega)]; omega) ?_
 refine let_as (q.rest / 65536) (by rw [td (by omega),w64 (by omega) (by omega)]) ?_
 refine let_as (q.rest / 65536 % 256) (tm (by omega)) ?_
 refine let_as (q.rest / 65536 % 256) (w8 (by omega) (by omega)) ?_
 refine let_as (q.rest / 256) (by rw [td (by omega),w64 (by omega) (by omega)]) ?_
 refine let_as (q.rest / 256 % 256) (tm (by omega)) ?_
 refine let_as (q.rest / 256 % 256) (w8 (by omega) (by omega)) ?_
 refine let_as (q.rest % 256) (tm (by omega)) ?_
 refine let_as (q.rest % 256) (w8 (by omega) (by omega)) ?_
 refine own_new (l:=bv [q.typ,q.code,s / 256 % 256,s % 256,q.rest / 16777216 % 256,q.rest / 65536 % 256,q.rest / 256 % 256,q.rest % 256]) H fun g2 w2 H=>?_
 refine ⟨n+1,?_⟩
 have k:=raw6_l (c:=c) (g:=g) hA (by omega) (F:=[q.typ,q.code,s / 256 % 256,s % 256,q.rest / 16777216 % 256,q.rest / 65536 % 256,q.rest / 256 % 256,q.rest % 256]) rfl (n+1) 0 w2 (some ⟨g2,0,none⟩) 8 8 (by omega) (by omega) (Buf.full H rfl)
 exact k ..
theorem Build6_c {w:World} {q:Ic} (h:q.Fine) {A:Option Addr} {n c:Nat} (ha:By w A n q.body):
  Calls Tryz.prog 54 #[.agg (mv q.typ q.code q.rest A n c).toArray] w (fun e w'=>Bel w w'∧if q.body.length≤65507 then ∃ B cap,e=.returned (.tuple #[.slice B (q.bytes q.sum).length cap,.int .i64 0])∧By w' B (q.bytes q.sum).length (q.bytes q.sum)∧Fre w B∧(q.bytes q.sum).length≤cap else e=.returned (.tuple #[.slice none 0 0,.int .i64 37])):=by
 refine qq47.run ?_
 unfold qq47.s
 have hl:=ha.len
 refine own_new (l:=mv q.typ q.code q.rest A n c) (Own.refl w) fun g w1 H=>?_
 refine ⟨A,n,c,H.cell 0 3 rfl rfl,?_⟩
 refine ifD (fun h1=>?_) (fun h1=>?_)
 ·
  refine ⟨H.bel,?_⟩
  rw [if_neg (by omega)]
 have h5:q.body.length≤65507:=by omega
 have hs:=Ic.sum_range h
 have l0:=Ic.len q 0
 refine ld_msg (H.bk 0 rfl) ?_
 refine call_of (raw6_c h h5 (s:=0) (by omega) (ha.bel H.bel)) ?_
 rintro e w2 ⟨C,j,rfl,b1⟩
 replace H:=H.call b1.own.bel
 have y1:=b1.by
 refine ⟨_,_,_,rfl,?_⟩
 refine own_newB H fun g2 w3 H k3=>?_
 refine call_of (sum31_c (H.bk 0 rfl) (y1.bel k3) (Ic.bytes_bytes h 0) (by omega) 1) ?_
 rintro e w4 ⟨rfl,k4⟩
 replace H:=(H.call k4).tail
 refine ⟨_,rfl,?_⟩
 refine ld_msg (H.bk 0 rfl) ?_
 have es:65535-S (tot true (q.bytes 0))=q.sum:=by
  rw [Ic.tot_bytes q (by omega) (by omega),Int.add_zero]; rfl
 rw [es]
 refine call_of (raw6_c h h5 (s:=q.sum) hs (ha.bel H.bel)) ?_
 rintro e w5 ⟨C2,j2,rfl,b2⟩
 refine ⟨_,_,_,rfl,H.bel.trans b2.own.bel,?_⟩
 rw [if_pos h5]
 exact ⟨C2,j2,rfl,b2.by,b2.fre.le H.bel,b2.le⟩
theorem rest6_l {w wa:World} {A:Option Addr} {n c:Nat} {b:List Int} (h:By w A n b) (hb:Bytes b) (hc:n≤c) (h8:8≤n) (hn:n≤65515) {g1 g3:Nat} (H:Own w wa [(g3,106,mv 0 0 0 none 0 0),(g1,106,mv 0 0 0 none 0 0)])
  {Q:Ending→World→Prop} (hQ:∀ w' A' c',Bel w w'→By w' A' (n-8) (b.drop 8)→n-8≤c'→Fre w A'→Q (.returned (.tuple #[.agg (mv (b.getD 0 0) (b.getD 1 0) (lg b 4) A' (n-8) c').toArray,.int .i64 0])) w'):
  qq57.L1 5 A n c g1 0 4 wa Q:=by
 have hl:=h.len
 have c4:=hb.getD 4
 have c5:=hb.getD 5
 have c6:=hb.getD 6
 have c7:=hb.getD 7
 have step:∀ (k i:Nat) (t t':Int),i < 8→4≤i→0≤t→t≤16777215→t'=256 * t+b.getD i 0→qq57.L1 k A n c g1 t' ((i+1:Nat):Int) wa Q→qq57.L1 (k+1) A n c g1 t (i:Int) wa Q:=by
  intro k i t t' h1 h2 h3 h4 et hk
  have ci:=hb.getD i
  unfold qq57.L1; intros
  rw [qq57.l1_eq]
  refine ifD (fun _=>?_) (fun h=>by omega)
  refine let_as (256 * t) (w64 (by omega) (by omega)) ?_
  refine (h.bel H.bel).rd (by omega) (by omega) fun _=>?_
  rw [Int.toNat_natCast]
  refine let_as _ (w64 (by omega) (by omega)) ?_
  refine let_as t' (by rw [et]; exact w64 (by omega) (by omega)) ?_
  refine let_as ((i+1:Nat):Int) (by rw [w64 (by omega) (by omega)]; omega) ?_
  exact hk ..
 refine step 4 4 0 (b.getD 4 0) (by decide) (by decide) (by decide) (by decide) (by omega) ?_
 refine step 3 5 _ (256 * b.getD 4 0+b.getD 5 0) (by decide) (by decide) (by omega) (by omega) rfl ?_
 refine step 2 6 _ (256 * (256 * b.getD 4 0+b.getD 5 0)+b.getD 6 0) (by decide) (by decide) (by omega) (by omega) rfl ?_
 refine step 1 7 _ (lg b 4) (by decide) (by decide) (by omega) (by omega) (by show (b.getD 4 0 * 256+b.getD 5 0) * 65536+(b.getD 6 0 * 256+b.getD 7 0)=_; omega) ?_
 have r4:=lg_range hb 4
 unfold qq57.L1; intros
 rw [qq57.l1_eq]
 refine ifD (fun h=>absurd h (by decide)) (fun _=>?_)
 refine draws (fun w'=>∃ l,Own w w' [(g3,106,mv 0 0 0 none 0 0),(g1,106,l)]) ⟨_,H.drew⟩ fun w2 e2=>?_
 replace H:=H.drew
 rw [← e2] at H
 have hS:∀ w',(∃ l,Own w w' [(g3,106,mv 0 0 0 none 0 0),(g1,106,l)])→Bel w w':=fun w' ⟨l,h⟩=>h.bel
 refine h.rd0S hS (by omega) fun _=>?_
 refine h.rdkS hS 1 rfl (by omega) fun _=>?_
 refine let_as _ (w32 r4.1 r4.2) ?_
 refine ⟨⟨by omega,by omega⟩,?_⟩
 refine call_of (clone6_m ((h.bel H.bel).cut (k:=8) (m:=c) h8 hc) (by omega)) ?_
 rintro e w3 ⟨k3,A',c',rfl,y,l1,r1⟩
 have o1:=H.old 1 rfl r1
 have kw:=H.bel
 replace H:=H.call k3
 refine ⟨_,_,_,rfl,⟨_,H⟩,?_⟩
 refine own_putB 1 H rfl rfl (by decide) fun w4 H u4=>?_
 refine ⟨⟨_,H⟩,?_⟩
 refine ld_msg (H.bk 1 rfl) ?_
 exact hQ _ _ _ H.bel (y.but u4 o1) l1 (r1.le kw)
def RetIc (w:World) (n:Nat) (b:List Int) (e:Ending) (w':World):Prop:=Bel w w'∧if icBad b=0 then ∃ A' c',e=.returned (.tuple #[.agg (mv (b.getD 0 0) (b.getD 1 0) (lg b 4) A' (n-8) c').toArray,.int .i64 0])∧By w' A' (n-8) (b.drop 8)∧n-8≤c'∧Fre w A'
   else e=.returned (.tuple #[.agg (mv 0 0 0 none 0 0).toArray,.int .i64 (icBad b)])
theorem Parse6_c {w:World} {A:Option Addr} {n c:Nat} {b:List Int} (h:By w A n b) (hb:Bytes b) (hc:n≤c):
  Calls Tryz.prog 50 #[.slice A n c] w (RetIc w n b):=by
 refine qq57.run ?_
 unfold qq57.s
 have hl:=h.len
 refine own_new (l:=mv 0 0 0 none 0 0) (Own.refl w) fun g1 w2 H=>?_
 refine own_new (l:=mv 0 0 0 none 0 0) H fun g3 w4 H=>?_
 refine ifD (fun h1=>?_) (fun h1=>?_)
 ·
  refine zero_msg 0 1 H rfl rfl rfl fun w5 k5=>⟨k5,?_⟩
  have e:icBad b=30:=by unfold icBad; rw [if_pos (by omega)]
  rw [e,if_neg (by decide)]
 refine ifD (fun h2=>?_) (fun h2=>?_)
 ·
  refine zero_msg 0 1 H rfl rfl rfl fun w5 k5=>⟨k5,?_⟩
  have e:icBad b=37:=by unfold icBad; rw [if_neg (by omega),if_pos (by omega)]
  rw [e,if_neg (by decide)]
 refine own_newB H fun g5 w5 H k5=>?_
 refine call_of (sum31_c (H.bk 0 rfl) (h.bel H.bel) hb (by omega) 1) ?_
 rintro e w6 ⟨rfl,k6⟩
 replace H:=(H.call k6).tail
 refine ⟨_,rfl,?_⟩
 refine ifN (fun h3=>?_) (fun h3=>?_)
 ·
  refine zero_msg 0 1 H rfl rfl rfl fun w7 k7=>⟨k7,?_⟩
  have e:icBad b=33:=by unfold icBad; rw [if_neg (by omega),if_neg (by omega),if_pos (by omega)]
  rw [e,if_neg (by decide)]
 have e:icBad b=0:=by unfold icBad; rw [if_neg (by omega),if_neg (by omega),if_neg (by omega)]
 refine ⟨5,?_⟩
 exact rest6_l h hb hc (by omega) (by omega) H (fun w' A' c' k y l1 r1=>⟨k,by rw [if_pos e]; exact ⟨A',c',rfl,y,l1,r1⟩⟩) ..
end Go.Proofs.YtphbdmafchjjeaaGreatDoorS
namespace Go.Proofs.YtphbdmafchjjeaaGreatDoorS
open Go Go.RowKit Go.Proofs Go.Proofs.YtphbdmafchjjeaaGreatDoorX
set_option maxRecDepth 100000
set_option linter.unusedVariables false
set_option linter.unusedSimpArgs false
def RetM6 (w:World) (p:Pk) (e:Ending) (w':World):Prop:=Bel w w'∧RetMsg w p e w'
theorem RetM6.no {w w':World} {p:Pk} {k:Int} (hk:k≠0) (he:msgE p=k) (hb:Bel w w'):RetM6 w p (.returned (.tuple #[.agg (mv 0 0 0 none 0 0).toArray,.int .i64 k])) w':=⟨hb,by unfold RetMsg; rw [he,if_neg hk]⟩
theorem message6_c {w:World} {p:Pk} (h:p.Fine) {A:Option Addr} {n c:Nat} {B:Option Addr} {m d:Nat} (hp:PkAt w p A n c B m d):
  Calls Tryz.prog 83 #[.agg (pb p A n c B m d).toArray] w (RetM6 w p):=by
 refine qq20.run ?_
 unfold qq20.s
 have lb:=hp.body.len
 refine own_new (l:=pb p A n c B m d) (Own.refl w) fun g1 w1 H=>?_
 refine own_new (l:=mv 0 0 0 none 0 0) H fun g2 w2 H=>?_
 refine own_new (l:=mv 0 0 0 none 0 0) H fun g3 w3 H=>?_
 refine ld_pkt (H.bk 2 rfl) ?_
 refine call_of (Build3_c h (hp.bel H.bel)) ?_
 rintro e w4 ⟨k4,C,i,j,rfl,_⟩
 replace H:=H.call k4
 refine ⟨_,_,_,_,rfl,?_⟩
 refine ifN (fun h1=>?_) (fun h1=>?_)
 ·
  exact zero_msg 0 1 H rfl rfl rfl fun w5 k5=>RetM6.no h1 (by unfold msgE; rw [if_pos h1]) k5
 have bad:∀ b:Bool,b=true→(p.proto≠1∨p.off > 0∨p.mf=true)→qq20.J1 g1 g2 g3 b w4 (RetM6 w p):=by
  intro b hb hx
  unfold qq20.J1; intros
  rw [qq20.j1_eq]
  refine ifB (fun _=>?_) (fun hf=>by rw [hb] at hf; cases hf)
  refine zero_msg 0 1 H rfl rfl rfl fun w5 k5=>RetM6.no (by decide) ?_ k5
  unfold msgE
  rw [if_neg (not_not_intro h1)]
  rcases hx with hx | hx | hx
  ·
   rw [if_pos hx]
  ·
   by_cases h2:p.proto≠1
   ·
    rw [if_pos h2]
   ·
    rw [if_neg h2,if_pos hx]
  ·
   by_cases h2:p.proto≠1
   ·
    rw [if_pos h2]
   ·
    rw [if_neg h2]
    by_cases h3:p.off > 0
    ·
     rw [if_pos h3]
    ·
     rw [if_neg h3,if_pos hx]
 refine ⟨_,H.cell 2 6 rfl rfl,?_⟩
 refine ifN (fun h2=>?_) (fun h2=>?_)
 ·
  have k:=bad true rfl (.inl h2)
  exact ⟨by with_reducible apply k⟩
 refine ⟨_,H.cell 2 4 rfl rfl,?_⟩
 refine ifD (fun h3=>?_) (fun h3=>?_)
 ·
  have k:=bad true rfl (.inr (.inl h3))
  exact ⟨by with_reducible apply k⟩
 refine ⟨_,H.cell 2 3 rfl rfl,?_⟩
 by_cases h4:p.mf=true
 ·
  have k:=bad p.mf h4 (.inr (.inr h4))
  exact ⟨by with_reducible apply k⟩
 refine ⟨?_⟩
 rw [qq20.j1_eq]
 refine ifB (fun hf=>absurd hf h4) (fun _=>?_)
 refine ⟨?_⟩
 rw [qq20.j2_eq]
 have em:msgE p=icBad p.body:=by unfold msgE; rw [if_neg (not_not_intro h1),if_neg (not_not_intro h2),if_neg h3,if_neg h4]
 refine ⟨B,m,d,H.cell 2 10 rfl rfl,?_⟩
 refine call_of (Parse6_c (hp.body.bel H.bel) h.body hp.cb) ?_
 rintro e w5 ⟨k5,he⟩
 by_cases h5:icBad p.body=0
 ·
  rw [if_pos h5] at he
  obtain ⟨A',c',rfl,y,l1,r1⟩:=he
  have o1:=H.old 1 rfl r1
  have kw:=H.bel
  replace H:=H.call k5
  refine ⟨_,_,_,_,_,_,_,rfl,?_⟩
  refine put_msg 1 H rfl rfl fun w6 H u=>?_
  refine ⟨H.bel,?_⟩
  unfold RetMsg
  rw [em,if_pos h5,lb]
  exact ⟨A',c',rfl,y.but u o1,l1,r1.le kw⟩
 ·
  rw [if_neg h5] at he
  subst he
  replace H:=H.call k5
  refine ⟨_,_,_,_,_,_,_,rfl,?_⟩
  refine put_msg 1 H rfl rfl fun w6 H u=>?_
  exact RetM6.no (w:=w) h5 em H.bel
def RetA6 (w:World) (p:Pk) (e:Ending) (w':World):Prop:=Bel w w'∧RetAb w p e w'
theorem About6_c {w:World} {p:Pk} (h:p.Fine) {A:Option Addr} {n c:Nat} {B:Option Addr} {m d:Nat} (hp:PkAt w p A n c B m d):
  Calls Tryz.prog 49 #[.agg (pb p A n c B m d).toArray] w (RetA6 w p):=by
 refine qq52.run ?_
 unfold qq52.s
 have lb:=hp.body.len
 have no:∀ {w':World} {k:Int},k≠0→aboutE p=k→Bel w w'→RetA6 w p (.returned (.tuple #[.agg hz.toArray,.slice none 0 0,.int .i64 k])) w':=fun hk he hb=>⟨hb,by unfold RetAb; rw [he,if_neg hk]⟩
 refine own_new (l:=pb p A n c B m d) (Own.refl w) fun g1 w1 H=>?_
 refine own_new (l:=hz) H fun g2 w2 H=>?_
 refine own_new (l:=hz) H fun g3 w3 H=>?_
 refine ld_pkt (H.bk 2 rfl) ?_
 refine call_of (message6_c h (hp.bel H.bel)) ?_
 rintro e w4 ⟨k4,he⟩
 unfold RetMsg at he
 by_cases h1:msgE p≠0
 ·
  rw [if_neg h1] at he
  subst he
  replace H:=H.call k4
  refine ⟨_,_,_,_,_,_,_,rfl,?_⟩
  refine own_new (l:=mv 0 0 0 none 0 0) H fun g5 w5 H=>?_
  refine own_put 0 H rfl rfl (by decide) fun w6 H=>?_
  refine ifN (fun _=>?_) (fun hx=>absurd hx h1)
  exact zero_head 1 2 H rfl rfl rfl fun w7 k7=>no h1 (by unfold aboutE; rw [if_pos h1]) k7
 replace h1:msgE p=0:=Decidable.of_not_not h1
 rw [if_pos h1] at he
 obtain ⟨C,j,rfl,y,l1,r1⟩:=he
 replace H:=H.call k4
 refine ⟨_,_,_,_,_,_,_,rfl,?_⟩
 refine own_newC (l:=mv 0 0 0 none 0 0) H fun g5 w5 H k5 hg=>?_
 have z:=y.newer hg
 replace y:=y.bel k5
 refine own_putB 0 H rfl rfl (by decide) fun w6 H u6=>?_
 replace y:=y.but1 u6 z
 replace H:Own w w6 [(g5,106,mv (p.body.getD 0 0) (p.body.getD 1 0) (lg p.body 4) C (p.body.length-8) j),(g3,35,hz),(g2,35,hz),(g1,37,pb p A n c B m d)]:=H
 refine ifN (fun hx=>absurd rfl hx) (fun _=>?_)
 refine ⟨_,H.cell 0 0 rfl rfl,?_⟩
 refine call_of (faulty6_c _ _) ?_
 rintro e w7 ⟨rfl,k7⟩
 replace H:=H.call k7
 replace y:=y.bel k7
 refine ⟨_,rfl,?_⟩
 refine ifNot (fun h2=>?_) (fun h2=>?_)
 ·
  exact zero_head 1 2 H rfl rfl rfl fun w8 k8=>no (by decide) (by unfold aboutE; rw [if_neg (not_not_intro h1),if_pos h2]) k8
 obtain ⟨q1,q2,q3⟩:=icBad_zero (msgE_zero h1).2.2.2.2
 have ea:aboutE p=bad false (p.body.drop 8):=by unfold aboutE; rw [if_neg (not_not_intro h1),if_neg (by rw [h2]; decide)]
 refine ⟨C,_,j,H.cell 0 3 rfl rfl,?_⟩
 refine call_of (Peek3_c y (h.body.drop 8) l1 (by omega)) ?_
 rintro e w8 ⟨k8,he⟩
 by_cases h3:bad false (p.body.drop 8)=0
 ·
  rw [if_pos h3] at he
  obtain ⟨A1,c1,A2,c2,rfl,y1,y2,m1,m2,f1,f2⟩:=he
  have x1:=H.old 2 rfl f1
  have x2:=H.old 2 rfl f2
  have kw:=H.bel
  replace H:=H.call k8
  refine ⟨_,_,_,_,_,_,_,_,_,_,_,_,_,_,_,_,rfl,?_⟩
  refine put_head 2 H rfl rfl fun w9 H u9=>?_
  refine ⟨H.bel,?_⟩
  unfold RetAb
  rw [ea,if_pos h3]
  exact ⟨A1,c1,A2,c2,rfl,y1.but u9 x1,y2.but u9 x2,m1,m2,f1.le kw,f2.le kw⟩
 ·
  rw [if_neg h3] at he
  subst he
  replace H:=H.call k8
  refine ⟨_,_,_,_,_,_,_,_,_,_,_,_,_,_,_,_,rfl,?_⟩
  refine put_head 2 H rfl rfl fun w9 H u9=>?_
  exact no (w':=w9) h3 ea H.bel
end Go.Proofs.YtphbdmafchjjeaaGreatDoorS
