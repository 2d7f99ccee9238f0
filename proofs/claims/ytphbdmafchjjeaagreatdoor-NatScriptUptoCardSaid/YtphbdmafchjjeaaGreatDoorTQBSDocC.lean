import Derived.Test.YtphbdmafchjjeaaGreatDoorTQBSDocB
namespace Go.Proofs.YtphbdmafchjjeaaGreatDoorS
open Go Go.RowKit Go.Proofs Go.Proofs.YtphbdmafchjjeaaGreatDoorX
set_option maxRecDepth 100000
set_option linter.unusedVariables false
set_option linter.unusedSectionVars false
set_option linter.unusedSimpArgs false
theorem setw_drop {l:List Int} {i k:Nat} (h:i+1 < k) (v:Int):(setw l i v).drop k=l.drop k:=by
  unfold setw
  rw [List.drop_set_of_lt (by omega),List.drop_set_of_lt (by omega)]
theorem tf2_drop (p:Pk) (u:Tp) {k:Nat} (h:20≤k):(tf2 p u).drop k=(tfB p).drop k:=by
  unfold tf2
  rw [setw_drop (by omega),setw_drop (by omega),setw_drop (by omega),setw_drop (by omega)]
theorem tf3_drop (p:Pk) (u:Tp) {k:Nat} (h:20≤k):(tf3 p u).drop k=(tfB p).drop k:=by
  unfold tf3
  rw [setw_drop (by omega),tf2_drop p u h]
theorem quote_is {p:Pk} (ha:aboutE p=0) (h8:8≤(tfQ p).length):tfQ p=((tfB p).drop (hlen (tfB p))).take (tfQ p).length∧there (tfB p)=hlen (tfB p)+(tfQ p).length:=by
  obtain ⟨a1,a2,a3,a4,a5,a6,a7⟩:=tfB_ok ha
  have e:there (tfB p)=hlen (tfB p)+(tfQ p).length:=by omega
  refine ⟨?_,e⟩
  conv=>lhs; unfold tfQ
  rw [List.drop_take]
  congr 1
  omega
theorem take_sum {l:List Int} {k:Nat} (h1:20≤k) (h2:20≤l.length) (v:Int):(setw l 10 v).take k=l.take 10++(v / 256::v % 256::(l.take k).drop 12):=by
  obtain ⟨x0,x1,x2,x3,x4,x5,x6,x7,x8,x9,x10,x11,x12,x13,x14,x15,x16,x17,x18,x19,r,rfl⟩:=twenty h2
  obtain ⟨j,rfl⟩:∃ j,k=j+20:=⟨k-20,by omega⟩
  rfl
theorem setw_setw {l:List Int} (h2:20≤l.length) (v v':Int):setw (setw l 10 v) 10 v'=setw l 10 v':=by
  obtain ⟨x0,x1,x2,x3,x4,x5,x6,x7,x8,x9,x10,x11,x12,x13,x14,x15,x16,x17,x18,x19,r,rfl⟩:=twenty h2
  rfl
theorem sum_zero {l:List Int} {k:Nat} (h1:20≤k) (h2:20≤l.length):tot true ((setw l 10 0).take k)=tot true (l.take 10++(l.take k).drop 12):=by
  rw [take_sum h1 h2]
  have h:=tot_pair (l.take 10) (by rw [List.length_take]; omega) 0 (by decide) (by decide) ((l.take k).drop 12)
  rw [Int.add_zero] at h
  exact h
theorem lay_one {H A O:List Int} {i:Nat} (h1:i < A.length) (h2:A.length≤O.length):(H++(A.take i++O.drop i)).set (H.length+i) (A.getD i 0)=H++(A.take (i+1)++O.drop (i+1)):=by
  have lt:(A.take i).length=i:=by rw [List.length_take]; omega
  rw [List.set_append_right _ _ (by omega),Nat.add_sub_cancel_left,List.set_append_right _ _ (by omega),lt,Nat.sub_self]
  have e1:(O.drop i).set 0 (A.getD i 0)=A.getD i 0::O.drop (i+1):=by
    rw [List.drop_eq_getElem_cons (by omega)]
    rfl
  have e2:A.take (i+1)=A.take i++[A.getD i 0]:=by
    rw [List.take_succ_eq_append_getElem h1]
    simp [List.getD_eq_getElem?_getD,h1]
  rw [e1,e2]
  simp
section
variable {w0:World} {p:Pk} {u:Tp} {A:Option Addr} {n c:Nat} {B:Option Addr} {m d:Nat} (hp:PkAt w0 p A n c B m d) {g1 g3 g5 g7 g34 g68 g89 gM:Nat} {pad:List Int} {src dst:Int} (t:Tf p u) (ha:aboutE p=0) (hn:n≤1000000000000)
  {Y:Option Addr} {yc:Nat} {Y4:Option Addr} {c4:Nat} {C0:Option Addr} {cc:Nat} {A1:Option Addr} {c1:Nat}
abbrev FB (g1 g3 g5 g7 g34 g68 g89 gM:Nat) (l pad:List Int) (p:Pk) (u:Tp) (A:Option Addr) (n c:Nat) (B:Option Addr) (m d:Nat) (C0:Option Addr) (cc:Nat) (A1:Option Addr) (c1:Nat):List Blk:=
  [(gM,5,bv ([]++(l++pad))),(g89,39,tpv (tfS p)),(g68,106,mv (p.body.getD 0 0) (p.body.getD 1 0) (lg p.body 4) C0 (tfB p).length cc),(g34,35,hb (tfB p) A1 (hlen (tfB p)-20) c1),
   (g7,37,pb pz none 0 0 none 0 0),(g5,37,pb pz none 0 0 none 0 0),(g3,39,tpv u),(g1,37,pb p A n c B m d)]
def innV (p:Pk) (u:Tp):List Int:=carV (tfQ p) (tfS p).proto (tfS p) u false
include hp t ha hn
theorem f23_l {c6:Nat} (hc6:(tfB p).length≤c6):∀ (q i:Nat) (w:World),(innV p u).length-i < q→i≤(innV p u).length→
    OF w0 w (FB g1 g3 g5 g7 g34 g68 g89 gM ((tf3 p u).take (hlen (tfB p))++((innV p u).take i++((tf3 p u).drop (hlen (tfB p))).drop i)) pad p u A n c B m d C0 cc A1 c1) [(Y4,(innV p u).length,innV p u)]→
    qq8.L1 q src dst g1 g5 g7 g68 ((hlen (tfB p):Nat):Int) (some ⟨gM,0,none⟩) (tfB p).length c6 Y4 (innV p u).length c4 (i:Int) w (RetTF w0 p u src dst):=by
  have l1:=t.l1
  have l2:=t.l2
  have l3:=t.l3
  have l4:=t.l4
  have t3:=tf3_len p u
  have b3:=tf3_bytes t.bb t.hu
  have hv:(innV p u).length=(tfQ p).length:=carV_len _ _ _ _ _
  have lt3:((tf3 p u).take (hlen (tfB p))).length=hlen (tfB p):=by rw [List.length_take,t3]; omega
  have ld3:((tf3 p u).drop (hlen (tfB p))).length=(tfB p).length-hlen (tfB p):=by rw [List.length_drop,t3]
  intro q
  induction q with
  | zero=>intro i w h; omega
  | succ q ih=>
    intro i w hq hi H
    unfold qq8.L1; intros
    rw [qq8.l1_eq]
    refine ifD (fun h1=>?_) (fun h1=>?_)
    · have hi2:i < (innV p u).length:=by omega
      refine let_as ((hlen (tfB p)+i:Nat):Int) (by rw [w64 (by omega) (by omega)]; omega) ?_
      have yI:By w Y4 (innV p u).length (innV p u):=(H.fz _ List.mem_cons_self).1
      refine yI.rd (by omega) (by omega) fun _=>?_
      rw [Int.toNat_natCast]
      refine ⟨_,rfl,⟨by omega,by omega⟩,?_⟩
      rw [add_blk,Int.toNat_natCast,Nat.zero_add]
      have lX:((tf3 p u).take (hlen (tfB p))++((innV p u).take i++((tf3 p u).drop (hlen (tfB p))).drop i)).length=(tfB p).length:=by
        rw [List.length_append,List.length_append,lt3,List.length_take,List.length_drop,ld3]
        omega
      refine of_set 0 H rfl (by rw [bv_len,List.nil_append,List.length_append,lX]; omega) fun w5 H5=>?_
      refine let_as ((i+1:Nat):Int) (by rw [w64 (by omega) (by omega)]; omega) ?_
      have es:(bv ([]++(((tf3 p u).take (hlen (tfB p))++((innV p u).take i++((tf3 p u).drop (hlen (tfB p))).drop i))++pad))).set (hlen (tfB p)+i) (.int .u8 ((innV p u).getD i 0))=bv ([]++(((tf3 p u).take (hlen (tfB p))++((innV p u).take (i+1)++((tf3 p u).drop (hlen (tfB p))).drop (i+1)))++pad)):=by
        rw [bv_set,List.nil_append,List.nil_append,List.set_append_left _ _ (by rw [lX]; omega)]
        have k:=lay_one (H:=(tf3 p u).take (hlen (tfB p))) (A:=innV p u) (O:=(tf3 p u).drop (hlen (tfB p))) (i:=i) hi2 (by rw [ld3]; omega)
        rw [lt3] at k
        rw [k]
      refine ih (i+1) w5 (by omega) (by omega) ?_ ..
      unfold FB
      rw [← es]
      exact H5
    · have e:i=(innV p u).length:=by omega
      subst e
      have e4:(tf3 p u).take (hlen (tfB p))++((innV p u).take (innV p u).length++((tf3 p u).drop (hlen (tfB p))).drop (innV p u).length)=tf4 p u:=by
        unfold tf4
        rw [List.take_length,List.drop_drop,hv]
        unfold innV
        congr 3
        have k:=(quote_is ha l2).1
        rw [tf3_drop p u l1]
        exact k
      rw [e4] at H
      have hl4:=t.len4
      have b4:=t.bytes4 (carV_bytes ((b3.drop _).take _) _ t.sf t.hu false)
      have hI:(tfI p u).Fine:=⟨t.h.body.getD 0,t.h.body.getD 1,lg_range t.h.body 4,b4,by show (tf4 p u).length≤_; omega⟩
      refine of_set 2 H rfl (by show 3 < 4; decide) fun w7 H7=>?_
      replace H7:OF w0 w7 [(gM,5,bv ([]++(tf4 p u++pad))),(g89,39,tpv (tfS p)),(g68,106,mv (p.body.getD 0 0) (p.body.getD 1 0) (lg p.body 4) (some ⟨gM,0,none⟩) (tfB p).length c6),(g34,35,hb (tfB p) A1 (hlen (tfB p)-20) c1),
        (g7,37,pb pz none 0 0 none 0 0),(g5,37,pb pz none 0 0 none 0 0),(g3,39,tpv u),(g1,37,pb p A n c B m d)] [(Y4,(innV p u).length,innV p u)]:=H7
      have y4:By w7 (some ⟨gM,0,none⟩) (tfB p).length (tf4 p u):=by_part (pre:=[]) (post:=pad) (H7.own.bk 0 rfl) rfl hl4
      refine ld_msg (H7.own.bk 2 rfl) ?_
      refine call_of (Build6_c (q:=tfI p u) hI y4) ?_
      rintro e w12 ⟨k12,hM⟩
      rw [if_pos (show (tfI p u).body.length≤65507 by show (tf4 p u).length≤65507; omega)] at hM
      obtain ⟨A14,cap,rfl,yB,fB,lB⟩:=hM
      refine ⟨_,_,_,_,rfl,?_⟩
      refine ifN (fun h=>absurd rfl h) (fun _=>?_)
      have ne:=H7.new_ne fB
      have fB0:Fre w0 A14:=fB.le H7.own.bel
      have H12:=(H7.call k12).add (x:=(A14,((tfI p u).bytes (tfI p u).sum).length,(tfI p u).bytes (tfI p u).sum)) yB (fun _=>ne)
      refine ld_pkt (H12.own.bk 7 rfl) ?_
      refine of_mk (pb pz none 0 0 none 0 0) (vs:=pb p A n c B m d) H12 rfl rfl fun g50 w52 H52=>?_
      refine ⟨A,n,c,H52.own.cell 8 9 rfl rfl,?_⟩
      refine call_of (clone23_c (hp.opts.bel H52.own.bel) (by omega)) ?_
      rintro e w54 ⟨A56,c56,rfl,qb⟩
      refine ⟨_,_,_,rfl,?_⟩
      have ne2:=H52.new_ne qb.fre
      have fA0:Fre w0 A56:=qb.fre.le H52.own.bel
      have H54:=(H52.call qb.own.bel).add (x:=(A56,n,p.opts)) qb.by (fun _=>ne2)
      refine of_set 0 H54 rfl (Nat.lt_of_lt_of_le (by decide:9 < 11) (Nat.le_refl 11)) fun w57 H57=>?_
      refine of_set 0 H57 rfl (Nat.lt_of_lt_of_le (by decide:7 < 11) (Nat.le_refl 11)) fun w58 H58=>?_
      refine of_set 0 H58 rfl (Nat.lt_of_lt_of_le (by decide:8 < 11) (Nat.le_refl 11)) fun w59 H59=>?_
      refine of_set 0 H59 rfl (Nat.lt_of_lt_of_le (by decide:10 < 11) (Nat.le_refl 11)) fun w60 H60=>?_
      replace H60:OF w0 w60 ((g50,37,pb (tfP p u src dst) A56 n c56 A14 ((tfI p u).bytes (tfI p u).sum).length cap)::_) _:=H60
      refine ld_pkt (H60.own.bk 0 rfl) ?_
      refine of_put 6 H60 rfl rfl (Nat.le_refl 11) fun w72 H72=>?_
      refine ld_pkt (a0:=(tfP p u src dst).tos) (H72.own.bk 6 rfl) ?_
      have e5:tfO p u src dst=tfP p u src dst:=by unfold tfO; rw [if_pos t.he]
      refine ⟨H72.own.bel,?_⟩
      rw [e5,t.he]
      exact ⟨A56,n,c56,A14,_,cap,rfl,⟨(H72.fz _ List.mem_cons_self).1,(H72.fz _ (List.mem_cons_of_mem _ List.mem_cons_self)).1,qb.le,lB⟩,fA0,fB0⟩
theorem f23_j2 {w:World} (yC:By w C0 (tfB p).length (tfB p)) (hl:(tfB p).length≤cc)
    (H:Own w0 w [(g89,39,tpv (tfS p)),(g68,106,mv (p.body.getD 0 0) (p.body.getD 1 0) (lg p.body 4) C0 (tfB p).length cc),(g34,35,hb (tfB p) A1 (hlen (tfB p)-20) c1),
      (g7,37,pb pz none 0 0 none 0 0),(g5,37,pb pz none 0 0 none 0 0),(g3,39,tpv u),(g1,37,pb p A n c B m d)]):
    qq8.J2 src dst g1 g3 g5 g7 g34 Y (tfQ p).length yc g68 g89 w (RetTF w0 p u src dst):=by
  have l1:=t.l1
  have l2:=t.l2
  have l3:=t.l3
  have l4:=t.l4
  have u1:=t.hu.src
  have u2:=t.hu.dst
  have t2:=tf2_len p u
  have b2:=tf2_bytes t.bb t.hu
  have hv:(innV p u).length=(tfQ p).length:=carV_len _ _ _ _ _
  have hq3:(of_decide_eq_true (tfE_zero t.he).2.2.1).2.1=(of_decide_eq_true (tfE_zero t.he).2.2.1).2.1:=rfl
  have hpr:(tfS p).proto=1∨(tfS p).proto=6∨(tfS p).proto=17:=by
    have hq:=(tfE_zero t.he).2.2.1
    have h3:=(of_decide_eq_true hq).2.2
    have e:(tfS p).proto=(tfH p).proto:=by
      unfold tfS quT
      rw [if_pos hq]
      unfold quT1
      split <;> rfl
    rw [e]
    rcases h3 with h | h | h
    · exact Or.inr (Or.inl h)
    · exact Or.inr (Or.inr h)
    · exact Or.inl h.1
  unfold qq8.J2; intros
  rw [qq8.j2_eq]
  refine ⟨_,_,_,H.cell 2 9 rfl rfl,?_⟩
  refine let_as ((hlen (tfB p):Nat):Int) (by rw [w64 (by omega) (by omega)]; omega) ?_
  refine ⟨_,_,_,H.cell 1 3 rfl rfl,?_⟩
  refine call_of (clone23_c yC (by omega)) ?_
  rintro e w4 ⟨A6,c6,rfl,qb⟩
  obtain ⟨gM,pad,rfl,⟨hcc,hc2⟩,HB⟩:∃ g pad,A6=some ⟨g,0,none⟩∧(c6=(tfB p).length+pad.length∧c6≤9223372036854775807)∧Own w w4 [(g,5,bv (tfB p++pad))]:=by
    rcases qb.2 with ⟨_,_,hb0,_⟩ | h
    · have e0:(tfB p).length=0:=by rw [hb0]; rfl
      omega
    · exact h
  refine ⟨_,_,_,rfl,?_⟩
  have H1:OF w0 w4 (FB g1 g3 g5 g7 g34 g68 g89 gM (tfB p) pad p u A n c B m d C0 cc A1 c1) []:=⟨Own.join H HB,fun x hx=>by cases hx⟩
  refine draws (fun w'=>Bk w' g89 39 (tpv (tfS p))∧Bk w' g3 39 (tpv u)) ⟨(H1.call (Bel.refl w4).drew).own.bk 1 rfl,(H1.call (Bel.refl w4).drew).own.bk 6 rfl⟩ fun w8 e8=>?_
  replace H1:=H1.call (Bel.refl w4).drew
  rw [← e8] at H1
  refine let_as ((hlen (tfB p)+(tfQ p).length:Nat):Int) (by rw [w64 (by omega) (by omega)]; omega) ?_
  rw [Int.toNat_natCast]
  refine ⟨⟨by omega,by omega⟩,⟨by omega,by omega⟩,?_⟩
  refine ⟨_,_,_,_,_,⟨rfl,fun w' h=>h.1.at⟩,_,_,_,_,_,⟨rfl,fun w' h=>h.2.at⟩,?_⟩
  rw [Int.toNat_natCast,Nat.add_sub_cancel_left]
  have yq:By w8 (cutA (some ⟨gM,0,none⟩) (hlen (tfB p)) c6 1) (tfQ p).length (tfQ p):=by
    have yb:By w8 (some ⟨gM,0,none⟩) (tfB p).length (tfB p):=by_part (pre:=[]) (post:=pad) (H1.own.bk 0 rfl) rfl rfl
    have k:=yb.mid (k:=hlen (tfB p)) (j:=hlen (tfB p)+(tfQ p).length) (m:=c6) (by omega) (by omega) (by omega)
    rw [Nat.add_sub_cancel_left,List.drop_take,Nat.add_sub_cancel_left,← (quote_is ha l2).1] at k
    exact k
  have bq:Bytes (tfQ p):=(t.bb.take _).drop _
  refine call_of (body_c t.sf t.hu bq yq (by omega) (by omega) hpr false) ?_
  rintro e w20 ⟨A22,c22,rfl,q2⟩
  refine ⟨_,_,_,rfl,?_⟩
  have ne2:=H1.new_ne q2.fre
  have H20:=(H1.call q2.own.bel).add (x:=(A22,(innV p u).length,innV p u)) (by rw [hv]; exact q2.by) (fun _=>ne2)
  refine ⟨⟨H20.own.bk 1 rfl,H20.own.bk 6 rfl⟩,?_⟩
  refine ⟨_,H20.own.cell 6 0 rfl rfl,?_⟩
  refine let_as u.src (w64 (by omega) (by omega)) (let_as (u.src / 65536) (by rw [td u1.1,w64 (by omega) (by omega)]) ?_)
  refine call_of (put23_c H20 rfl rfl (i:=12) rfl (by omega) (by omega) (by omega)) ?_
  rintro e w26 ⟨rfl,H26⟩
  refine ⟨rfl,_,H26.own.cell 6 0 rfl rfl,?_⟩
  refine let_as u.src (w64 (by omega) (by omega)) (let_as (u.src % 65536) (tm u1.1) ?_)
  refine call_of (put23_c H26 rfl (by rw [setw_len]) (i:=14) rfl (by omega) (by omega) (by omega)) ?_
  rintro e w31 ⟨rfl,H31⟩
  refine ⟨rfl,_,H31.own.cell 6 1 rfl rfl,?_⟩
  refine let_as u.dst (w64 (by omega) (by omega)) (let_as (u.dst / 65536) (by rw [td u2.1,w64 (by omega) (by omega)]) ?_)
  refine call_of (put23_c H31 rfl (by rw [setw_len,setw_len]) (i:=16) rfl (by omega) (by omega) (by omega)) ?_
  rintro e w36 ⟨rfl,H36⟩
  refine ⟨rfl,_,H36.own.cell 6 1 rfl rfl,?_⟩
  refine let_as u.dst (w64 (by omega) (by omega)) (let_as (u.dst % 65536) (tm u2.1) ?_)
  refine call_of (put23_c H36 rfl (by rw [setw_len,setw_len,setw_len]) (i:=18) rfl (by omega) (by omega) (by omega)) ?_
  rintro e w41 ⟨rfl,H41⟩
  refine ⟨rfl,?_⟩
  replace H41:OF w0 w41 (FB g1 g3 g5 g7 g34 g68 g89 gM (tf2 p u) pad p u A n c B m d C0 cc A1 c1) [(A22,(innV p u).length,innV p u)]:=H41
  refine call_of (put23_c H41 rfl t2 (i:=10) (v:=0) rfl (by omega) (by omega) (by decide)) ?_
  rintro e w43 ⟨rfl,H43⟩
  refine ⟨rfl,⟨by omega,by omega⟩,?_⟩
  refine of_newN (l:=[.slice (some ⟨gM,0,none⟩) (hlen (tfB p)) c6]) H43 fun g45 w46 H46=>?_
  have ys:By w46 (some ⟨gM,0,none⟩) (hlen (tfB p)) ((setw (tf2 p u) 10 0).take (hlen (tfB p))):=by
    have yb:By w46 (some ⟨gM,0,none⟩) (tfB p).length (setw (tf2 p u) 10 0):=by_part (pre:=[]) (post:=pad) (H46.own.bk 1 rfl) rfl (by rw [setw_len]; exact t2)
    exact yb.take (by omega)
  have bs:Bytes ((setw (tf2 p u) 10 0).take (hlen (tfB p))):=(setw_bytes b2 10 (by decide)).take _
  refine call_of (sum31_c (H46.own.bk 0 rfl) ys bs (by rw [ys.len]; omega) 1) ?_
  rintro e w47 ⟨rfl,k47⟩
  rw [sum_zero l1 (by omega)]
  have hS:=S_range (tot_nonneg (b:=true) ((b2.take 10).append ((b2.take (hlen (tfB p))).drop 12)))
  refine ⟨_,rfl,let_as _ (w64 (by omega) (by omega)) ?_⟩
  refine call_of (put23_c (H46.call k47).tail rfl (by rw [setw_len]; exact t2) (i:=10) rfl (by omega) (by omega) (by omega)) ?_
  rintro e w51 ⟨rfl,H51⟩
  rw [setw_setw (by omega)] at H51
  replace H51:OF w0 w51 (FB g1 g3 g5 g7 g34 g68 g89 gM (tf3 p u) pad p u A n c B m d C0 cc A1 c1) [(A22,(innV p u).length,innV p u)]:=H51
  refine ⟨rfl,(innV p u).length+1,?_⟩
  rw [← hv]
  have k:=f23_l (src:=src) (dst:=dst) (c4:=c22) hp t ha hn (c6:=c6) (Y4:=A22) (pad:=pad) (by omega) ((innV p u).length+1) 0 w51 (by omega) (Nat.zero_le _) (by
    rw [List.take_zero,List.drop_zero,List.nil_append,List.take_append_drop]
    exact H51)
  exact k ..
end
theorem TurnFault23_c {w:World} {p:Pk} (h:p.Fine) {u:Tp} (hu:u.Fine) (src dst:Int) {A:Option Addr} {n c:Nat} {B:Option Addr} {m d:Nat} (hp:PkAt w p A n c B m d):
    Calls Tryz.prog 30 #[.agg (pb p A n c B m d).toArray,.int .u32 src,.int .u32 dst,.agg (tpv u).toArray] w (RetTF w p u src dst):=by
  refine qq8.run ?_
  unfold qq8.s
  have lb:=hp.body.len
  have lo:=hp.opts.len
  refine own_new (l:=pb p A n c B m d) (Own.refl w) fun g1 w2 H=>?_
  refine own_new (l:=tpv u) H fun g3 w4 H=>?_
  refine own_new (l:=pb pz none 0 0 none 0 0) H fun g5 w6 H=>?_
  refine own_new (l:=pb pz none 0 0 none 0 0) H fun g7 w8 H=>?_
  refine ld_pkt (H.bk 3 rfl) ?_
  refine call_of (About6_c h (hp.bel H.bel)) ?_
  rintro e w20 ⟨k20,he⟩
  unfold RetAb at he
  by_cases ea:aboutE p=0
  rotate_left
  · rw [if_neg ea] at he
    subst he
    refine ⟨_,_,_,_,_,_,_,_,_,_,_,_,_,_,_,_,rfl,?_⟩
    refine own_mk Go.Proofs.YtphbdmafchjjeaaGreatDoorS.hz (vs:=Go.Proofs.YtphbdmafchjjeaaGreatDoorS.hz) (H.call k20) rfl rfl fun g34 w36 H _ _=>?_
    refine ifN (fun _=>?_) (fun h=>absurd h ea)
    exact zero_out (Q:=RetTF w p u src dst) 1 2 H rfl rfl rfl (fun w1 hb=>ret_tf_no hb (by unfold tfE; rw [if_pos ea]) ea)
  rw [if_pos ea,show p.body.drop 8=tfB p from rfl] at he
  obtain ⟨A1,c1,A2,c2,rfl,y1,y2,l1,l2,f1,f2⟩:=he
  obtain ⟨a1,a2,a3,a4,a5,a6,a7⟩:=tfB_ok ea
  obtain ⟨z1,z2,z3⟩:=aboutE_zero ea
  have zB:=(msgE_zero z1).2.2.2.2
  have bb:Bytes (tfB p):=h.body.drop 8
  have bq:Bytes (tfQ p):=(bb.take _).drop _
  refine ⟨_,_,_,_,_,_,_,_,_,_,_,_,_,_,_,_,rfl,?_⟩
  refine own_mk Go.Proofs.YtphbdmafchjjeaaGreatDoorS.hz (vs:=hb (tfB p) A1 (hlen (tfB p)-20) c1) (H.call k20) rfl rfl fun g34 w36 H k36 _=>?_
  refine ifN (fun h=>absurd rfl h) (fun _=>?_)
  refine ⟨B,m,d,H.cell 4 10 rfl rfl,?_⟩
  refine call_of (Parse6_c (hp.body.bel H.bel) h.body hp.cb) ?_
  rintro e w61 ⟨k61,he⟩
  rw [if_pos zB,show p.body.drop 8=tfB p from rfl] at he
  obtain ⟨C0,cc,rfl,yC,lC,fC⟩:=he
  have em:m-8=(tfB p).length:=by omega
  rw [em] at yC lC ⊢
  refine ⟨_,_,_,_,_,_,_,rfl,?_⟩
  refine own_mk (mv 0 0 0 none 0 0) (vs:=mv (p.body.getD 0 0) (p.body.getD 1 0) (lg p.body 4) C0 (tfB p).length cc) (H.call k61) rfl rfl fun g68 w70 H k70 _=>?_
  refine ld_head (H.bk 1 rfl) ?_
  have yq:By w70 A2 (there (tfB p)-hlen (tfB p)) (tfQ p):=y2.bel (Bel.trans k36 (Bel.trans k61 k70))
  refine call_of (quoted2_c (p:=tfH p) (A:=A1) (n:=hlen (tfB p)-20) (c:=c1) yq bq (by omega)) ?_
  rintro e w81 ⟨rfl,k81⟩
  refine ⟨_,_,_,_,_,_,rfl,?_⟩
  refine own_mk (tpv tpz) (vs:=tpv (quT2 (tfH p) (tfQ p))) (H.call k81) rfl rfl fun g89 w91 H k91 _=>?_
  have t230:(mayT (p.body.getD 0 0)=false∨quB (tfH p) (tfQ p)=false∨u.proto≠(tfS p).proto∨((tfS p).proto=1∧u.sp≠u.dp))→tfE p u=230:=fun hx=>by unfold tfE; rw [if_neg (fun hx=>hx ea),if_pos hx]
  have no:tfE p u=230→∀ {w':World},Bel w91 w'→qq8.J1 src dst g1 g3 g5 g7 g34 A2 (there (tfB p)-hlen (tfB p)) c2 g68 g89 true w' (RetTF w p u src dst):=fun hx w' k=>by
    unfold qq8.J1; intros
    rw [qq8.j1_eq]
    refine ifB (fun _=>?_) (fun h=>by cases h)
    exact zero_out (Q:=RetTF w p u src dst) 3 4 (H.call k) rfl rfl rfl (fun w1 hb=>ret_tf_no hb hx (by decide))
  have fk:mayT (p.body.getD 0 0)=true→quB (tfH p) (tfQ p)=true→∀ {w':World},Bel w91 w'→qq8.J1 src dst g1 g3 g5 g7 g34 A2 (there (tfB p)-hlen (tfB p)) c2 g68 g89 (!fitB (quT2 (tfH p) (tfQ p)) u) w' (RetTF w p u src dst):=fun h1 h2 w' k=>by
    have eS:quT2 (tfH p) (tfQ p)=tfS p:=by unfold quT2 tfS quT; rw [if_pos h2,if_pos h2]
    rw [eS] at H ⊢
    cases hf:fitB (tfS p) u with
    | false=>
      have hf:=of_decide_eq_false hf
      refine no (t230 ?_) k
      by_cases h3:u.proto=(tfS p).proto
      · refine Or.inr (Or.inr (Or.inr ?_))
        by_cases h4:(tfS p).proto=1∧u.sp≠u.dp
        · exact h4
        · exact absurd ⟨h3.symm,fun h5=>Decidable.of_not_not fun h6=>h4 ⟨h5,h6⟩⟩ hf
      · exact Or.inr (Or.inr (Or.inl h3))
    | true=>
      have hf:=of_decide_eq_true hf
      have he:tfE p u=0:=by
        unfold tfE
        rw [if_neg (fun hx=>hx ea),if_neg]
        rintro (h | h | h | h)
        · rw [h1] at h; cases h
        · rw [h2] at h; cases h
        · exact h hf.1.symm
        · exact h.2 (hf.2 h.1)
      have t:=Tf.of h hu he
      have ez:=(Pk.err_zero (msgE_zero z1).1).2.2
      unfold qq8.J1; intros
      rw [qq8.j1_eq]
      refine ifB (fun h=>by cases h) (fun _=>?_)
      have k2:=f23_j2 (src:=src) (dst:=dst) (Y:=A2) (yc:=c2) hp t ea (by omega) (yC.bel (Bel.trans k70 (Bel.trans k81 (Bel.trans k91 k)))) lC (H.call k)
      rw [a6] at k2
      exact ⟨by with_reducible apply k2⟩
  refine ⟨p.body.getD 0 0,H.cell 1 0 rfl rfl,?_⟩
  refine ifN (fun n1=>?_) (fun n1=>?_)
  · refine ⟨p.body.getD 0 0,H.cell 1 0 rfl rfl,?_⟩
    refine ifN (fun n2=>?_) (fun n2=>?_)
    · refine ⟨p.body.getD 0 0,H.cell 1 0 rfl rfl,?_⟩
      refine ifN (fun n3=>?_) (fun n3=>?_)
      · have k:=no (t230 (Or.inl (by unfold mayT; exact decide_eq_false (by omega)))) (Bel.refl w91)
        exact ⟨by with_reducible apply k⟩
      · refine ifNot (fun h2=>?_) (fun h2=>?_)
        · have k:=no (t230 (Or.inr (Or.inl h2))) (Bel.refl w91)
          exact ⟨by with_reducible apply k⟩
        · refine ⟨_,_,_,_,_,⟨rfl,(H.bk 0 rfl).at⟩,_,_,_,_,_,⟨rfl,(H.bk 5 rfl).at⟩,?_⟩
          refine call_of (fits_c w91 (quT2 (tfH p) (tfQ p)) u) ?_
          rintro e w' ⟨rfl,k'⟩
          refine ⟨_,rfl,?_⟩
          have k:=fk (by unfold mayT; exact decide_eq_true (by omega)) h2 k'
          exact ⟨by with_reducible apply k⟩
    · refine ifNot (fun h2=>?_) (fun h2=>?_)
      · have k:=no (t230 (Or.inr (Or.inl h2))) (Bel.refl w91)
        exact ⟨by with_reducible apply k⟩
      · refine ⟨_,_,_,_,_,⟨rfl,(H.bk 0 rfl).at⟩,_,_,_,_,_,⟨rfl,(H.bk 5 rfl).at⟩,?_⟩
        refine call_of (fits_c w91 (quT2 (tfH p) (tfQ p)) u) ?_
        rintro e w' ⟨rfl,k'⟩
        refine ⟨_,rfl,?_⟩
        have k:=fk (by unfold mayT; exact decide_eq_true (by omega)) h2 k'
        exact ⟨by with_reducible apply k⟩
  · refine ifNot (fun h2=>?_) (fun h2=>?_)
    · have k:=no (t230 (Or.inr (Or.inl h2))) (Bel.refl w91)
      exact ⟨by with_reducible apply k⟩
    · refine ⟨_,_,_,_,_,⟨rfl,(H.bk 0 rfl).at⟩,_,_,_,_,_,⟨rfl,(H.bk 5 rfl).at⟩,?_⟩
      refine call_of (fits_c w91 (quT2 (tfH p) (tfQ p)) u) ?_
      rintro e w' ⟨rfl,k'⟩
      refine ⟨_,rfl,?_⟩
      have k:=fk (by unfold mayT; exact decide_eq_true (by omega)) h2 k'
      exact ⟨by with_reducible apply k⟩
end Go.Proofs.YtphbdmafchjjeaaGreatDoorS
