import Derived.Test.YtphbdmafchjjeaaGreatDoorRQASDocC
import Derived.Test.YtphbdmafchjjeaaGreatDoorRQASDocDM
import Derived.Test.YtphbdmafchjjeaaGreatDoorRQASFN3M
import Derived.Test.YtphbdmafchjjeaaGreatDoorRQASFW
namespace Go.Proofs.YtphbdmafchjjeaaGreatDoorS
open Go Go.RowKit Go.Proofs Go.Proofs.YtphbdmafchjjeaaGreatDoorX
set_option maxRecDepth 100000
set_option linter.unusedVariables false
set_option linter.unusedSectionVars false
set_option linter.unusedSimpArgs false
theorem clonel_l (w:World) {A:Option Addr} {n c:Nat} {l:List Int} (h:By w A n l) (hn:n≤10000000000000):∀ (q i:Nat) (wa:World) (B:Option Addr) (d:Nat),n-i < q→i≤n→Buf w wa [] B i d (l.take i)→
  qq31.L1 q A n c B i d (i:Int) wa (fun e w'=>∃ A' c',e=.returned (.slice A' n c')∧Buf w w' [] A' n c' l):=by
 intro q
 induction q with
 | zero=>intro i wa B d h; omega
 | succ q ih=>
  intro i wa B d hq hi hb
  have hl:=h.len
  unfold qq31.L1; intros
  rw [qq31.l1_eq]
  refine ifD (fun h1=>?_) (fun h1=>?_)
  ·
   refine (h.bel hb.own.bel).rd (by omega) (by omega) fun _=>?_
   rw [Int.toNat_natCast]
   refine buf_lit (m:=1) hb [l.getD i 0] rfl (by omega) fun B' d' wb hb'=>?_
   refine let_as ((i+1:Nat):Int) (by rw [w64 (by omega) (by omega)]; omega) ?_
   have e:l.take i++[l.getD i 0]=l.take (i+1):=by
    rw [List.take_succ_eq_append_getElem (by omega)]
    simp [List.getD_eq_getElem?_getD,show i < l.length by omega]
   rw [e] at hb'
   apply ih (i+1) wb B' d' (by omega) (by omega) hb'
  ·
   have:i=l.length:=by omega
   subst this
   rw [List.take_length] at hb
   exact ⟨B,d,by rw [hl],by rw [← hl]; exact hb⟩
theorem clonel_c {w:World} {A:Option Addr} {n c:Nat} {l:List Int} (h:By w A n l) (hn:n≤10000000000000):Calls Tryz.prog 47 #[.slice A n c] w (fun e w'=>∃ A' c',e=.returned (.slice A' n c')∧Buf w w' [] A' n c' l):=by
 refine qq31.run ?_
 unfold qq31.s
 refine ⟨n+1,?_⟩
 have k:=clonel_l w (c:=c) h hn (n+1) 0 w none 0 (by omega) (by omega) (Buf.nil (Own.refl w))
 exact k ..
def RetTw (w:World) (q:Pk) (n m:Nat) (e:Ending) (w':World):Prop:=Bel w w'∧∃ A c B d,e=.returned (.agg (pb q A n c B m d).toArray)∧PkAt w' q A n c B m d∧Fre w A∧Fre w B
theorem twin_c {w:World} {p:Pk} {A:Option Addr} {n c:Nat} {B:Option Addr} {m d:Nat} (hp:PkAt w p A n c B m d) (hn:n≤10000000000000) (hm:m≤10000000000000):Calls Tryz.prog 28 #[.agg (pb p A n c B m d).toArray] w (RetTw w p n m):=by
 refine qq48.run ?_
 unfold qq48.s
 refine own_new (l:=pb p A n c B m d) (Own.refl w) fun g1 w2 H=>?_
 refine own_new (l:=pb pz none 0 0 none 0 0) H fun g3 w4 H=>?_
 refine ⟨A,n,c,H.cell 1 9 rfl rfl,?_⟩
 refine call_of (clonel_c (hp.opts.bel H.bel) hn) ?_
 rintro e w6 ⟨A8,c8,rfl,q⟩
 refine ⟨_,_,_,rfl,?_⟩
 have H0:OF w w4 [(g3,37,pb pz none 0 0 none 0 0),(g1,37,pb p A n c B m d)] []:=⟨H,fun x hx=>by cases hx⟩
 have ne:=H0.new_ne q.fre
 have fA:Fre w A8:=q.fre.le H.bel
 have H1:=(H0.call q.own.bel).add (x:=(A8,n,p.opts)) q.by (fun _=>ne)
 refine of_set 1 H1 rfl (Nat.lt_of_lt_of_le (by decide:9 < 11) (Nat.le_refl 11)) fun w9 H2=>?_
 refine ⟨B,m,d,H2.own.cell 1 10 rfl rfl,?_⟩
 refine call_of (clonel_c (hp.body.bel H2.own.bel) hm) ?_
 rintro e w11 ⟨A13,c13,rfl,q2⟩
 refine ⟨_,_,_,rfl,?_⟩
 have ne2:=H2.new_ne q2.fre
 have fB:Fre w A13:=q2.fre.le H2.own.bel
 have H3:=(H2.call q2.own.bel).add (x:=(A13,m,p.body)) q2.by (fun _=>ne2)
 refine of_set 1 H3 rfl (Nat.lt_of_lt_of_le (by decide:10 < 11) (Nat.le_refl 11)) fun w14 H4=>?_
 replace H4:OF w w14 [(g3,37,pb pz none 0 0 none 0 0),(g1,37,pb p A8 n c8 A13 m c13)] [(A13,m,p.body),(A8,n,p.opts)]:=H4
 refine ld_pkt (H4.own.bk 1 rfl) ?_
 refine of_put (vs:=pb p A8 n c8 A13 m c13) 0 H4 rfl rfl (Nat.le_refl 11) fun w26 H5=>?_
 refine ld_pkt (a0:=p.tos) (H5.own.bk 0 rfl) ?_
 exact ⟨H5.own.bel,A8,c8,A13,c13,rfl,⟨(H5.fz _ (List.mem_cons_of_mem _ List.mem_cons_self)).1,(H5.fz _ List.mem_cons_self).1,q.le,q2.le⟩,fA,fB⟩
structure OpF (w:World) (x:NOp) (l:List (Int×Int)):Prop where
 p:x.p.Fine
 pa:PkAt w x.p x.A x.n x.c x.B x.m x.d
 t:x.t.Fine
 bk:Bks w x.L x.ln l
 bf:FineB l
 pt:x.pt≤65535
 n6:x.n≤2000000
 m6:x.m≤2000000
 l6:x.ln≤500000
theorem OpF.bel {w w':World} {x:NOp} {l:List (Int×Int)} (h:OpF w x l) (k:Bel w w'):OpF w' x l:=⟨h.p,h.pa.bel k,h.t,h.bk.bel k,h.bf,h.pt,h.n6,h.m6,h.l6⟩
theorem nov_pkt {w:World} {g:Nat} {x:NOp} (h:Bk w g 42 (nov x)):At w ⟨g,2,none⟩ (pb x.p x.A x.n x.c x.B x.m x.d):=at_mid [.int .i64 x.k,.bool x.on] h rfl
theorem nov_tup {w:World} {g:Nat} {x:NOp} (h:Bk w g 42 (nov x)):At w ⟨g,13,none⟩ (tpv x.t):=at_mid ([.int .i64 x.k,.bool x.on]++pb x.p x.A x.n x.c x.B x.m x.d) (mid:=tpv x.t) (post:=[.int .u32 x.src,.int .u32 x.dst,.slice x.L x.ln x.lc,.int .u8 x.pr,.int .u16 (x.pt:Int)]) h rfl
section
variable {w0:World} {q:Pk} {k:Int} {A:Option Addr} {n c:Nat} {B:Option Addr} {m d:Nat} {A':Option Addr} {n' c':Nat} {B':Option Addr} {m' d':Nat} {g g':Nat} {Q:Ending→World→Prop}
theorem cmp_c {w:World} (b1:Bk w g 37 (pb q A n c B m d)) (b2:Bk w g' 37 (pb q A' n' c' B' m' d')) (h1:PkAt w q A n c B m d) (h2:PkAt w q A' n' c' B' m' d') (hn:n≤100000000000000) (hm:m≤100000000000000)
  (hQ:∀ w',Bel w w'→Q (.returned (.bool true)) w'):qq2.J3 g' k g k w Q:=by
 unfold qq2.J3; intros
 rw [qq2.j3_eq]
 refine ifE (fun _=>?_) (fun h=>absurd rfl h)
 refine ld_pkt b1 ?_
 refine ld_pkt b2 ?_
 refine call_of (npackets_t h1 h2 hn hm) ?_
 rintro e w23 ⟨rfl,k23⟩
 exact ⟨_,rfl,hQ _ k23⟩
theorem cmp_c4 {w:World} (b1:Bk w g 37 (pb q A n c B m d)) (b2:Bk w g' 37 (pb q A' n' c' B' m' d')) (h1:PkAt w q A n c B m d) (h2:PkAt w q A' n' c' B' m' d') (hn:n≤100000000000000) (hm:m≤100000000000000)
  (hQ:∀ w',Bel w w'→Q (.returned (.bool true)) w'):qq2.J4 g' k g k w Q:=by
 unfold qq2.J4; intros
 rw [qq2.j4_eq]
 refine ifE (fun _=>?_) (fun h=>absurd rfl h)
 refine ld_pkt b1 ?_
 refine ld_pkt b2 ?_
 refine call_of (npackets_t h1 h2 hn hm) ?_
 rintro e w23 ⟨rfl,k23⟩
 exact ⟨_,rfl,hQ _ k23⟩
end
theorem turnO_len {p:Pk} {u:Tp} {n m:Nat} {w:World} {A:Option Addr} {c:Nat} {B:Option Addr} {d:Nat} (h:PkAt w (turnO p u) A n c B m d) (h1:p.opts.length≤2000000) (h2:p.body.length≤2000000):n≤2000000∧m≤2000000:=by
 have e1:=h.opts.len
 have e2:=h.body.len
 have k:(turnO p u).opts.length≤2000000∧(turnO p u).body.length≤2000000:=by
  unfold turnO
  split
  ·
   unfold turnP
   refine ⟨h1,?_⟩
   show (if eqV (tpv (ofT p)) (tpv u)=true then p.body else carV p.body u.proto (ofT p) u true).length≤_
   split
   ·
    exact h2
   ·
    rw [carV_len]; exact h2
  ·
   exact ⟨Nat.zero_le _,Nat.zero_le _⟩
 omega
theorem tfO_len {p:Pk} (hp:p.Fine) {u:Tp} (hu:u.Fine) {a b:Int} {n m:Nat} {w:World} {A:Option Addr} {c:Nat} {B:Option Addr} {d:Nat} (h:PkAt w (tfO p u a b) A n c B m d) (h1:p.opts.length≤2000000):n≤2000000∧m≤2000000:=by
 have e1:=h.opts.len
 have e2:=h.body.len
 have k:(tfO p u a b).opts.length≤2000000∧(tfO p u a b).body.length≤2000000:=by
  unfold tfO
  split
  ·
   rename_i he
   have t:=Tf.of hp hu he
   refine ⟨h1,?_⟩
   show ((tfI p u).bytes (tfI p u).sum).length≤_
   rw [Ic.len]
   have:=t.len4
   have:=t.l4
   show 8+(tf4 p u).length≤_
   omega
  ·
   exact ⟨Nat.zero_le _,Nat.zero_le _⟩
 omega
section
variable {w0:World} (hg:GlF w0) {x:NOp} {l:List (Int×Int)} (hx:OpF w0 x l) {p q:Option Addr} {Q:Ending→World→Prop} (hQ:∀ w',Bel w0 w'→Q (.returned (.bool true)) w') {g1 g3:Nat}
include hg hx hQ
theorem plays_j1 {w:World} {A:Option Addr} {n c:Nat} {B:Option Addr} {m d:Nat} {g5:Nat} {M:List Blk} (hw:PkAt w (turnO x.p x.t) A n c B m d)
  (H:Own w0 w ((g5,37,pb (turnO x.p x.t) A n c B m d)::(g3,42,nov x)::M)):qq2.J1 g3 g5 (turnE x.p x.t) w Q:=by
 have lo:=hx.pa.opts.len
 have lb:=hx.pa.body.len
 have n6:=hx.n6
 have m6:=hx.m6
 have ts:∀ {wz:World} {A':Option Addr} {n' c':Nat} {B':Option Addr} {m' d':Nat},PkAt wz (turnO x.p x.t) A' n' c' B' m' d'→n'≤2000000∧m'≤2000000:=fun h=>turnO_len h (by omega) (by omega)
 unfold qq2.J1; intros
 rw [qq2.j1_eq]
 refine draws (fun w'=>Bk w' g3 42 (nov x)∧Bk w' g5 37 (pb (turnO x.p x.t) A n c B m d)) ⟨H.drew.bk 1 rfl,H.drew.bk 0 rfl⟩ fun w2 e2=>?_
 have kd:Bel w w2:=by rw [e2]; exact (Bel.refl w).drew
 replace H:=H.drew
 rw [← e2] at H
 replace hw:=hw.bel kd
 refine ⟨_,_,_,_,_,_,_,_,_,_,_,_,_,_,_,⟨rfl,fun w' h=>nov_pkt h.1⟩,?_⟩
 refine ⟨_,_,_,_,_,⟨rfl,fun w' h=>nov_tup h.1⟩,?_⟩
 have cal:∀ {wa:World},Bel w0 wa→∀ {A':Option Addr} {c':Nat} {B':Option Addr} {d':Nat},PkAt wa x.p A' x.n c' B' x.m d'→Calls Tryz.prog 16 #[.agg (pb x.p A' x.n c' B' x.m d').toArray,.agg (tpv x.t).toArray] wa (RetTu wa (turnO x.p x.t) (turnE x.p x.t)):=fun {wa} kk {A'} {c'} {B'} {d'} h=>Turn_c hx.p hx.t h
 have fin:∀ {wa:World} {L:List Blk} {g7:Nat} {A':Option Addr} {n' c':Nat} {B':Option Addr} {m' d':Nat},Own w0 wa L→(g7,37,pb (turnO x.p x.t) A' n' c' B' m' d')∈L→(g5,37,pb (turnO x.p x.t) A n c B m d)∈L→PkAt wa (turnO x.p x.t) A' n' c' B' m' d'→PkAt wa (turnO x.p x.t) A n c B m d→
   qq2.J3 g5 (turnE x.p x.t) g7 (turnE x.p x.t) wa Q:=fun {wa} {L} {g7} {A'} {n'} {c'} {B'} {m'} {d'} HL h1 h2 h3 h4=>by
  have:=ts h3
  exact cmp_c (memB HL h1) (memB HL h2) h3 h4 (by omega) (by omega) (fun w' k=>hQ w' (HL.bel.trans k))
 refine ⟨?_,?_⟩
 ·
  refine call_of (twin_c (hx.pa.bel H.bel) (by omega) (by omega)) ?_
  rintro e w19 ⟨k19,A1,c1,B1,d1,rfl,h1,_,_⟩
  have H1:=H.call k19
  refine ⟨_,_,_,_,_,_,_,_,_,_,_,_,_,_,_,rfl,⟨H1.bk 1 rfl,H1.bk 0 rfl⟩,?_⟩
  refine ⟨?_,?_⟩
  ·
   refine call_of (cal H1.bel h1) ?_
   rintro e w32 ⟨k32,A2,n2,c2,B2,m2,d2,rfl,h2,_,_⟩
   have H2:=H1.call k32
   refine ⟨_,_,_,_,_,_,_,_,_,_,_,_,_,_,_,_,rfl,⟨H2.bk 1 rfl,H2.bk 0 rfl⟩,?_⟩
   refine own_newC (l:=pb pz none 0 0 none 0 0) H2 fun g46 w47 H3 k47 h46=>?_
   refine ⟨⟨H3.bk 2 rfl,H3.bk 1 rfl⟩,?_⟩
   refine own_putB (vs:=pb (turnO x.p x.t) A2 n2 c2 B2 m2 d2) 0 H3 rfl rfl (Nat.le_refl 11) fun w48 H4 u48=>?_
   refine ⟨⟨H4.bk 2 rfl,H4.bk 1 rfl⟩,?_⟩
   have k48:Bel w32 w48:=But.bel k47 h46 u48
   have k:=fin H4 (List.mem_cons_self) (List.mem_cons_of_mem _ List.mem_cons_self) (h2.bel k48) ((hw.bel (k19.trans k32)).bel k48)
   exact ⟨by with_reducible apply k⟩
  ·
   refine own_newC (l:=pb pz none 0 0 none 0 0) H1 fun g49 w50 H2 k50 h49=>?_
   refine ⟨⟨H2.bk 2 rfl,H2.bk 1 rfl⟩,?_⟩
   refine call_of (cal H2.bel (h1.bel k50)) ?_
   rintro e w51 ⟨k51,A2,n2,c2,B2,m2,d2,rfl,h2,fa,fb⟩
   have H3:=H2.call k51
   refine ⟨_,_,_,_,_,_,_,_,_,_,_,_,_,_,_,_,rfl,⟨H3.bk 2 rfl,H3.bk 1 rfl⟩,?_⟩
   have o1:=H2.old 0 rfl fa
   have o2:=H2.old 0 rfl fb
   refine own_putB (vs:=pb (turnO x.p x.t) A2 n2 c2 B2 m2 d2) 0 H3 rfl rfl (Nat.le_refl 11) fun w65 H4 u65=>?_
   refine ⟨⟨H4.bk 2 rfl,H4.bk 1 rfl⟩,?_⟩
   have kq:Bel w19 w65:=But.bel (k50.trans k51) h49 u65
   have k:=fin H4 (List.mem_cons_self) (List.mem_cons_of_mem _ List.mem_cons_self) (h2.but u65 o1 o2) ((hw.bel k19).bel kq)
   exact ⟨by with_reducible apply k⟩
 ·
  refine own_newC (l:=pb pz none 0 0 none 0 0) H fun g66 w67 H1 k67 h66=>?_
  refine ⟨⟨H1.bk 2 rfl,H1.bk 1 rfl⟩,?_⟩
  refine call_of (twin_c (hx.pa.bel H1.bel) (by omega) (by omega)) ?_
  rintro e w68 ⟨k68,A1,c1,B1,d1,rfl,h1,_,_⟩
  have H2:=H1.call k68
  refine ⟨_,_,_,_,_,_,_,_,_,_,_,_,_,_,_,rfl,⟨H2.bk 2 rfl,H2.bk 1 rfl⟩,?_⟩
  refine call_of (cal H2.bel h1) ?_
  rintro e w81 ⟨k81,A2,n2,c2,B2,m2,d2,rfl,h2,fa,fb⟩
  have H3:=H2.call k81
  refine ⟨_,_,_,_,_,_,_,_,_,_,_,_,_,_,_,_,rfl,⟨H3.bk 2 rfl,H3.bk 1 rfl⟩,?_⟩
  have o1:=H2.old 0 rfl fa
  have o2:=H2.old 0 rfl fb
  refine own_putB (vs:=pb (turnO x.p x.t) A2 n2 c2 B2 m2 d2) 0 H3 rfl rfl (Nat.le_refl 11) fun w95 H4 u95=>?_
  refine ⟨⟨H4.bk 2 rfl,H4.bk 1 rfl⟩,?_⟩
  have kq:Bel w2 w95:=But.bel (k67.trans (k68.trans k81)) h66 u95
  have k:=fin H4 (List.mem_cons_self) (List.mem_cons_of_mem _ List.mem_cons_self) (h2.but u95 o1 o2) (hw.bel kq)
  exact ⟨by with_reducible apply k⟩
theorem plays_j2 {w:World} {A:Option Addr} {n c:Nat} {B:Option Addr} {m d:Nat} {g5:Nat} {M:List Blk} (hw:PkAt w (tfO x.p x.t x.src x.dst) A n c B m d)
  (H:Own w0 w ((g5,37,pb (tfO x.p x.t x.src x.dst) A n c B m d)::(g3,42,nov x)::M)):qq2.J2 g3 g5 (tfE x.p x.t) w Q:=by
 have lo:=hx.pa.opts.len
 have lb:=hx.pa.body.len
 have n6:=hx.n6
 have m6:=hx.m6
 have ts:∀ {wz:World} {A':Option Addr} {n' c':Nat} {B':Option Addr} {m' d':Nat},PkAt wz (tfO x.p x.t x.src x.dst) A' n' c' B' m' d'→n'≤2000000∧m'≤2000000:=fun h=>tfO_len hx.p hx.t h (by omega)
 unfold qq2.J2; intros
 rw [qq2.j2_eq]
 refine draws (fun w'=>Bk w' g3 42 (nov x)∧Bk w' g5 37 (pb (tfO x.p x.t x.src x.dst) A n c B m d)) ⟨H.drew.bk 1 rfl,H.drew.bk 0 rfl⟩ fun w2 e2=>?_
 have kd:Bel w w2:=by rw [e2]; exact (Bel.refl w).drew
 replace H:=H.drew
 rw [← e2] at H
 replace hw:=hw.bel kd
 refine ⟨_,_,_,_,_,_,_,_,_,_,_,_,_,_,_,⟨rfl,fun w' h=>nov_pkt h.1⟩,?_⟩
 refine ⟨x.src,fun w' h=>(h.1).cell 18 rfl,x.dst,fun w' h=>(h.1).cell 19 rfl,?_⟩
 refine ⟨_,_,_,_,_,⟨rfl,fun w' h=>nov_tup h.1⟩,?_⟩
 have cal:∀ {wa:World},Bel w0 wa→∀ {A':Option Addr} {c':Nat} {B':Option Addr} {d':Nat},PkAt wa x.p A' x.n c' B' x.m d'→Calls Tryz.prog 31 #[.agg (pb x.p A' x.n c' B' x.m d').toArray,.int .u32 x.src,.int .u32 x.dst,.agg (tpv x.t).toArray] wa (RetTF wa x.p x.t x.src x.dst):=fun {wa} kk {A'} {c'} {B'} {d'} h=>TurnFault_c (hg.bel kk) hx.p hx.t x.src x.dst h
 have fin:∀ {wa:World} {L:List Blk} {g7:Nat} {A':Option Addr} {n' c':Nat} {B':Option Addr} {m' d':Nat},Own w0 wa L→(g7,37,pb (tfO x.p x.t x.src x.dst) A' n' c' B' m' d')∈L→(g5,37,pb (tfO x.p x.t x.src x.dst) A n c B m d)∈L→PkAt wa (tfO x.p x.t x.src x.dst) A' n' c' B' m' d'→PkAt wa (tfO x.p x.t x.src x.dst) A n c B m d→
   qq2.J4 g5 (tfE x.p x.t) g7 (tfE x.p x.t) wa Q:=fun {wa} {L} {g7} {A'} {n'} {c'} {B'} {m'} {d'} HL h1 h2 h3 h4=>by
  have:=ts h3
  exact cmp_c4 (memB HL h1) (memB HL h2) h3 h4 (by omega) (by omega) (fun w' k=>hQ w' (HL.bel.trans k))
 refine ⟨?_,?_⟩
 ·
  refine call_of (twin_c (hx.pa.bel H.bel) (by omega) (by omega)) ?_
  rintro e w19 ⟨k19,A1,c1,B1,d1,rfl,h1,_,_⟩
  have H1:=H.call k19
  refine ⟨_,_,_,_,_,_,_,_,_,_,_,_,_,_,_,rfl,⟨H1.bk 1 rfl,H1.bk 0 rfl⟩,?_⟩
  refine ⟨?_,?_⟩
  ·
   refine call_of (cal H1.bel h1) ?_
   rintro e w32 ⟨k32,A2,n2,c2,B2,m2,d2,rfl,h2,_,_⟩
   have H2:=H1.call k32
   refine ⟨_,_,_,_,_,_,_,_,_,_,_,_,_,_,_,_,rfl,⟨H2.bk 1 rfl,H2.bk 0 rfl⟩,?_⟩
   refine own_newC (l:=pb pz none 0 0 none 0 0) H2 fun g46 w47 H3 k47 h46=>?_
   refine ⟨⟨H3.bk 2 rfl,H3.bk 1 rfl⟩,?_⟩
   refine own_putB (vs:=pb (tfO x.p x.t x.src x.dst) A2 n2 c2 B2 m2 d2) 0 H3 rfl rfl (Nat.le_refl 11) fun w48 H4 u48=>?_
   refine ⟨⟨H4.bk 2 rfl,H4.bk 1 rfl⟩,?_⟩
   have k48:Bel w32 w48:=But.bel k47 h46 u48
   have k:=fin H4 (List.mem_cons_self) (List.mem_cons_of_mem _ List.mem_cons_self) (h2.bel k48) ((hw.bel (k19.trans k32)).bel k48)
   exact ⟨by with_reducible apply k⟩
  ·
   refine own_newC (l:=pb pz none 0 0 none 0 0) H1 fun g49 w50 H2 k50 h49=>?_
   refine ⟨⟨H2.bk 2 rfl,H2.bk 1 rfl⟩,?_⟩
   refine call_of (cal H2.bel (h1.bel k50)) ?_
   rintro e w51 ⟨k51,A2,n2,c2,B2,m2,d2,rfl,h2,fa,fb⟩
   have H3:=H2.call k51
   refine ⟨_,_,_,_,_,_,_,_,_,_,_,_,_,_,_,_,rfl,⟨H3.bk 2 rfl,H3.bk 1 rfl⟩,?_⟩
   have o1:=H2.old 0 rfl fa
   have o2:=H2.old 0 rfl fb
   refine own_putB (vs:=pb (tfO x.p x.t x.src x.dst) A2 n2 c2 B2 m2 d2) 0 H3 rfl rfl (Nat.le_refl 11) fun w65 H4 u65=>?_
   refine ⟨⟨H4.bk 2 rfl,H4.bk 1 rfl⟩,?_⟩
   have kq:Bel w19 w65:=But.bel (k50.trans k51) h49 u65
   have k:=fin H4 (List.mem_cons_self) (List.mem_cons_of_mem _ List.mem_cons_self) (h2.but u65 o1 o2) ((hw.bel k19).bel kq)
   exact ⟨by with_reducible apply k⟩
 ·
  refine own_newC (l:=pb pz none 0 0 none 0 0) H fun g66 w67 H1 k67 h66=>?_
  refine ⟨⟨H1.bk 2 rfl,H1.bk 1 rfl⟩,?_⟩
  refine call_of (twin_c (hx.pa.bel H1.bel) (by omega) (by omega)) ?_
  rintro e w68 ⟨k68,A1,c1,B1,d1,rfl,h1,_,_⟩
  have H2:=H1.call k68
  refine ⟨_,_,_,_,_,_,_,_,_,_,_,_,_,_,_,rfl,⟨H2.bk 2 rfl,H2.bk 1 rfl⟩,?_⟩
  refine call_of (cal H2.bel h1) ?_
  rintro e w81 ⟨k81,A2,n2,c2,B2,m2,d2,rfl,h2,fa,fb⟩
  have H3:=H2.call k81
  refine ⟨_,_,_,_,_,_,_,_,_,_,_,_,_,_,_,_,rfl,⟨H3.bk 2 rfl,H3.bk 1 rfl⟩,?_⟩
  have o1:=H2.old 0 rfl fa
  have o2:=H2.old 0 rfl fb
  refine own_putB (vs:=pb (tfO x.p x.t x.src x.dst) A2 n2 c2 B2 m2 d2) 0 H3 rfl rfl (Nat.le_refl 11) fun w95 H4 u95=>?_
  refine ⟨⟨H4.bk 2 rfl,H4.bk 1 rfl⟩,?_⟩
  have kq:Bel w2 w95:=But.bel (k67.trans (k68.trans k81)) h66 u95
  have k:=fin H4 (List.mem_cons_self) (List.mem_cons_of_mem _ List.mem_cons_self) (h2.but u95 o1 o2) (hw.bel kq)
  exact ⟨by with_reducible apply k⟩
theorem plays_cc (hc:∀ w',Bel w0 w'→Calls Tryz.prog 7 #[.agg #[.pointer p,.pointer q],.agg (nov x).toArray] w' (fun e w2=>∃ b,e=.returned (.bool b)∧Q e w2)):Calls Tryz.prog 8 #[.agg #[.pointer p,.pointer q],.agg (nov x).toArray] w0 Q:=by
 have lo:=hx.pa.opts.len
 have lb:=hx.pa.body.len
 have n6:=hx.n6
 have m6:=hx.m6
 refine qq2.run ?_
 unfold qq2.s
 refine own_new (l:=[.pointer p,.pointer q]) (Own.refl w0) fun g1 w2 H=>?_
 refine own_new (l:=nov x) H fun g3 w4 H=>?_
 refine ⟨x.k,H.cell 0 0 rfl rfl,?_⟩
 refine ifE (fun _=>?_) (fun _=>?_)
 ·
  clear hc
  refine draws (fun w'=>Bk w' g3 42 (nov x)) (H.drew.bk 0 rfl) fun w2 e2=>?_
  replace H:=H.drew
  rw [← e2] at H
  refine ⟨_,_,_,_,_,_,_,_,_,_,_,_,_,_,_,⟨rfl,fun w' h=>nov_pkt h⟩,?_⟩
  refine ⟨_,_,_,_,_,⟨rfl,fun w' h=>nov_tup h⟩,?_⟩
  have cal:∀ {wa:World},Bel w0 wa→∀ {A':Option Addr} {c':Nat} {B':Option Addr} {d':Nat},PkAt wa x.p A' x.n c' B' x.m d'→Calls Tryz.prog 27 #[.agg (pb x.p A' x.n c' B' x.m d').toArray,.agg (tpv x.t).toArray] wa (RetTu wa (turnO x.p x.t) (turnE x.p x.t)):=fun {wa} kk {A'} {c'} {B'} {d'} h=>Turn23_c hx.p hx.t h
  have fin:∀ {wa:World} {g5:Nat} {A':Option Addr} {n' c':Nat} {B':Option Addr} {m' d':Nat},Own w0 wa ((g5,37,pb (turnO x.p x.t) A' n' c' B' m' d')::(g3,42,nov x)::[(g1,27,[.pointer p,.pointer q])])→PkAt wa (turnO x.p x.t) A' n' c' B' m' d'→qq2.J1 g3 g5 (turnE x.p x.t) wa Q:=fun {wa} {g5} {A'} {n'} {c'} {B'} {m'} {d'} HL h2=>plays_j1 hg hx hQ h2 HL
  refine ⟨?_,?_⟩
  ·
   refine call_of (twin_c (hx.pa.bel H.bel) (by omega) (by omega)) ?_
   rintro e w19 ⟨k19,A1,c1,B1,d1,rfl,h1,_,_⟩
   have H1:=H.call k19
   refine ⟨_,_,_,_,_,_,_,_,_,_,_,_,_,_,_,rfl,H1.bk 0 rfl,?_⟩
   refine ⟨?_,?_⟩
   ·
    refine call_of (cal H1.bel h1) ?_
    rintro e w32 ⟨k32,A2,n2,c2,B2,m2,d2,rfl,h2,_,_⟩
    have H2:=H1.call k32
    refine ⟨_,_,_,_,_,_,_,_,_,_,_,_,_,_,_,_,rfl,H2.bk 0 rfl,?_⟩
    refine own_newC (l:=pb pz none 0 0 none 0 0) H2 fun g46 w47 H3 k47 h46=>?_
    refine ⟨H3.bk 1 rfl,?_⟩
    refine own_putB (vs:=pb (turnO x.p x.t) A2 n2 c2 B2 m2 d2) 0 H3 rfl rfl (Nat.le_refl 11) fun w48 H4 u48=>?_
    refine ⟨H4.bk 1 rfl,?_⟩
    have k48:Bel w32 w48:=But.bel k47 h46 u48
    have k:=fin H4 (h2.bel k48)
    exact ⟨by with_reducible apply k⟩
   ·
    refine own_newC (l:=pb pz none 0 0 none 0 0) H1 fun g49 w50 H2 k50 h49=>?_
    refine ⟨H2.bk 1 rfl,?_⟩
    refine call_of (cal H2.bel (h1.bel k50)) ?_
    rintro e w51 ⟨k51,A2,n2,c2,B2,m2,d2,rfl,h2,fa,fb⟩
    have H3:=H2.call k51
    refine ⟨_,_,_,_,_,_,_,_,_,_,_,_,_,_,_,_,rfl,H3.bk 1 rfl,?_⟩
    have o1:=H2.old 0 rfl fa
    have o2:=H2.old 0 rfl fb
    refine own_putB (vs:=pb (turnO x.p x.t) A2 n2 c2 B2 m2 d2) 0 H3 rfl rfl (Nat.le_refl 11) fun w65 H4 u65=>?_
    refine ⟨H4.bk 1 rfl,?_⟩
    have kq:Bel w19 w65:=But.bel (k50.trans k51) h49 u65
    have k:=fin H4 (h2.but u65 o1 o2)
    exact ⟨by with_reducible apply k⟩
  ·
   refine own_newC (l:=pb pz none 0 0 none 0 0) H fun g66 w67 H1 k67 h66=>?_
   refine ⟨H1.bk 1 rfl,?_⟩
   refine call_of (twin_c (hx.pa.bel H1.bel) (by omega) (by omega)) ?_
   rintro e w68 ⟨k68,A1,c1,B1,d1,rfl,h1,_,_⟩
   have H2:=H1.call k68
   refine ⟨_,_,_,_,_,_,_,_,_,_,_,_,_,_,_,rfl,H2.bk 1 rfl,?_⟩
   refine call_of (cal H2.bel h1) ?_
   rintro e w81 ⟨k81,A2,n2,c2,B2,m2,d2,rfl,h2,fa,fb⟩
   have H3:=H2.call k81
   refine ⟨_,_,_,_,_,_,_,_,_,_,_,_,_,_,_,_,rfl,H3.bk 1 rfl,?_⟩
   have o1:=H2.old 0 rfl fa
   have o2:=H2.old 0 rfl fb
   refine own_putB (vs:=pb (turnO x.p x.t) A2 n2 c2 B2 m2 d2) 0 H3 rfl rfl (Nat.le_refl 11) fun w95 H4 u95=>?_
   refine ⟨H4.bk 1 rfl,?_⟩
   have kq:Bel w2 w95:=But.bel (k67.trans (k68.trans k81)) h66 u95
   have k:=fin H4 (h2.but u95 o1 o2)
   exact ⟨by with_reducible apply k⟩
 refine ifE (fun _=>?_) (fun _=>?_)
 ·
  clear hc
  refine draws (fun w'=>Bk w' g3 42 (nov x)) (H.drew.bk 0 rfl) fun w2 e2=>?_
  replace H:=H.drew
  rw [← e2] at H
  refine ⟨_,_,_,_,_,_,_,_,_,_,_,_,_,_,_,⟨rfl,fun w' h=>nov_pkt h⟩,?_⟩
  refine ⟨x.src,fun w' h=>(h).cell 18 rfl,x.dst,fun w' h=>(h).cell 19 rfl,?_⟩
  refine ⟨_,_,_,_,_,⟨rfl,fun w' h=>nov_tup h⟩,?_⟩
  have cal:∀ {wa:World},Bel w0 wa→∀ {A':Option Addr} {c':Nat} {B':Option Addr} {d':Nat},PkAt wa x.p A' x.n c' B' x.m d'→Calls Tryz.prog 30 #[.agg (pb x.p A' x.n c' B' x.m d').toArray,.int .u32 x.src,.int .u32 x.dst,.agg (tpv x.t).toArray] wa (RetTF wa x.p x.t x.src x.dst):=fun {wa} kk {A'} {c'} {B'} {d'} h=>TurnFault23_c hx.p hx.t x.src x.dst h
  have fin:∀ {wa:World} {g5:Nat} {A':Option Addr} {n' c':Nat} {B':Option Addr} {m' d':Nat},Own w0 wa ((g5,37,pb (tfO x.p x.t x.src x.dst) A' n' c' B' m' d')::(g3,42,nov x)::[(g1,27,[.pointer p,.pointer q])])→PkAt wa (tfO x.p x.t x.src x.dst) A' n' c' B' m' d'→qq2.J2 g3 g5 (tfE x.p x.t) wa Q:=fun {wa} {g5} {A'} {n'} {c'} {B'} {m'} {d'} HL h2=>plays_j2 hg hx hQ h2 HL
  refine ⟨?_,?_⟩
  ·
   refine call_of (twin_c (hx.pa.bel H.bel) (by omega) (by omega)) ?_
   rintro e w19 ⟨k19,A1,c1,B1,d1,rfl,h1,_,_⟩
   have H1:=H.call k19
   refine ⟨_,_,_,_,_,_,_,_,_,_,_,_,_,_,_,rfl,H1.bk 0 rfl,?_⟩
   refine ⟨?_,?_⟩
   ·
    refine call_of (cal H1.bel h1) ?_
    rintro e w32 ⟨k32,A2,n2,c2,B2,m2,d2,rfl,h2,_,_⟩
    have H2:=H1.call k32
    refine ⟨_,_,_,_,_,_,_,_,_,_,_,_,_,_,_,_,rfl,H2.bk 0 rfl,?_⟩
    refine own_newC (l:=pb pz none 0 0 none 0 0) H2 fun g46 w47 H3 k47 h46=>?_
    refine ⟨H3.bk 1 rfl,?_⟩
    refine own_putB (vs:=pb (tfO x.p x.t x.src x.dst) A2 n2 c2 B2 m2 d2) 0 H3 rfl rfl (Nat.le_refl 11) fun w48 H4 u48=>?_
    refine ⟨H4.bk 1 rfl,?_⟩
    have k48:Bel w32 w48:=But.bel k47 h46 u48
    have k:=fin H4 (h2.bel k48)
    exact ⟨by with_reducible apply k⟩
   ·
    refine own_newC (l:=pb pz none 0 0 none 0 0) H1 fun g49 w50 H2 k50 h49=>?_
    refine ⟨H2.bk 1 rfl,?_⟩
    refine call_of (cal H2.bel (h1.bel k50)) ?_
    rintro e w51 ⟨k51,A2,n2,c2,B2,m2,d2,rfl,h2,fa,fb⟩
    have H3:=H2.call k51
    refine ⟨_,_,_,_,_,_,_,_,_,_,_,_,_,_,_,_,rfl,H3.bk 1 rfl,?_⟩
    have o1:=H2.old 0 rfl fa
    have o2:=H2.old 0 rfl fb
    refine own_putB (vs:=pb (tfO x.p x.t x.src x.dst) A2 n2 c2 B2 m2 d2) 0 H3 rfl rfl (Nat.le_refl 11) fun w65 H4 u65=>?_
    refine ⟨H4.bk 1 rfl,?_⟩
    have kq:Bel w19 w65:=But.bel (k50.trans k51) h49 u65
    have k:=fin H4 (h2.but u65 o1 o2)
    exact ⟨by with_reducible apply k⟩
  ·
   refine own_newC (l:=pb pz none 0 0 none 0 0) H fun g66 w67 H1 k67 h66=>?_
   refine ⟨H1.bk 1 rfl,?_⟩
   refine call_of (twin_c (hx.pa.bel H1.bel) (by omega) (by omega)) ?_
   rintro e w68 ⟨k68,A1,c1,B1,d1,rfl,h1,_,_⟩
   have H2:=H1.call k68
   refine ⟨_,_,_,_,_,_,_,_,_,_,_,_,_,_,_,rfl,H2.bk 1 rfl,?_⟩
   refine call_of (cal H2.bel h1) ?_
   rintro e w81 ⟨k81,A2,n2,c2,B2,m2,d2,rfl,h2,fa,fb⟩
   have H3:=H2.call k81
   refine ⟨_,_,_,_,_,_,_,_,_,_,_,_,_,_,_,_,rfl,H3.bk 1 rfl,?_⟩
   have o1:=H2.old 0 rfl fa
   have o2:=H2.old 0 rfl fb
   refine own_putB (vs:=pb (tfO x.p x.t x.src x.dst) A2 n2 c2 B2 m2 d2) 0 H3 rfl rfl (Nat.le_refl 11) fun w95 H4 u95=>?_
   refine ⟨H4.bk 1 rfl,?_⟩
   have kq:Bel w2 w95:=But.bel (k67.trans (k68.trans k81)) h66 u95
   have k:=fin H4 (h2.but u95 o1 o2)
   exact ⟨by with_reducible apply k⟩
 refine ifE (fun _=>?_) (fun _=>?_)
 ·
  have l6:=hx.l6
  have hbl:=hx.bk.1
  refine draws (fun w'=>Bk w' g3 42 (nov x)) (H.drew.bk 0 rfl) fun w5 e5=>?_
  replace H:=H.drew
  rw [← e5] at H
  refine ⟨_,_,_,_,_,⟨rfl,fun w' h=>nov_tup h⟩,x.L,x.ln,x.lc,fun w' h=>h.cell 20 rfl,?_⟩
  refine call_of (backs_c (hx.bk.bel H.bel) (by omega)) ?_
  rintro e w206 ⟨A1,c1,rfl,hb1⟩
  have H1:=H.call hb1.own.bel
  refine ⟨_,_,_,rfl,H1.bk 0 rfl,?_⟩
  refine call_of (Pick23_c hx.t hx.bf hb1.bks.1) ?_
  rintro e w209 ⟨rfl,k209⟩
  replace H1:=H1.call k209
  refine ⟨_,_,rfl,H1.bk 0 rfl,?_⟩
  refine draws (fun w'=>Bk w' g3 42 (nov x)) (H1.drew.bk 0 rfl) fun w6 e6=>?_
  replace H1:=H1.drew
  rw [← e6] at H1
  refine ⟨_,_,_,_,_,⟨rfl,fun w' h=>nov_tup h⟩,x.L,x.ln,x.lc,fun w' h=>h.cell 20 rfl,?_⟩
  refine call_of (backs_c (hx.bk.bel H1.bel) (by omega)) ?_
  rintro e w221 ⟨A2,c2,rfl,hb2⟩
  have H2:=H1.call hb2.own.bel
  refine ⟨_,_,_,rfl,H2.bk 0 rfl,?_⟩
  refine call_of (Pick_c hb2.bks.1 hb2.bks.2) ?_
  rintro e w224 ⟨rfl,k224⟩
  replace H2:=H2.call k224
  refine ⟨_,_,rfl,H2.bk 0 rfl,?_⟩
  refine ifE (fun _=>?_) (fun h=>absurd rfl h)
  rw [show (pickI x.t l == pickI x.t l)=true from by simp]
  exact hQ _ H2.bel
 ·
  refine ⟨p,q,⟨rfl,(H.bk 1 rfl).at⟩,?_⟩
  refine ⟨_,_,_,_,_,_,_,_,_,_,_,_,_,_,_,_,_,_,_,_,_,_,_,_,_,_,_,_,_,⟨rfl,(H.bk 0 rfl).at⟩,?_⟩
  refine call_of (hc w4 H.bel) ?_
  rintro e w253 ⟨b,rfl,he⟩
  exact ⟨_,rfl,he⟩
end
end Go.Proofs.YtphbdmafchjjeaaGreatDoorS
