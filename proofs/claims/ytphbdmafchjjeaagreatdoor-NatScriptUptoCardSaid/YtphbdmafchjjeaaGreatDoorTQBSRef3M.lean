import Derived.Test.YtphbdmafchjjeaaGreatDoorTQBSIp4BM
import Derived.Test.YtphbdmafchjjeaaGreatDoorTQBSRowBM
import Derived.Test.YtphbdmafchjjeaaGreatDoorTQBSFR
namespace Go.Proofs.YtphbdmafchjjeaaGreatDoorS
open Go Go.RowKit Go.Proofs Go.Proofs.YtphbdmafchjjeaaGreatDoorX
set_option maxRecDepth 100000
set_option linter.unusedVariables false
set_option linter.unusedSimpArgs false
def RetBy (w:World) (l:List Int) (e:Ending) (w':World):Prop:=Bel w w'∧∃ A c,e=.returned (.slice A l.length c)∧By w' A l.length l∧l.length≤c∧Fre w A
theorem clone3_l (w:World) {A:Option Addr} {n c:Nat} {l:List Int} (h:By w A n l) (hn:n≤10000000000000):∀ (q i:Nat) (wa:World) (B:Option Addr) (d:Nat),n-i < q→i≤n→Buf w wa [] B i d (l.take i)→
  qq43.L1 q A n c B i d (i:Int) wa (RetBy w l):=by
 intro q
 induction q with
 | zero=>intro i wa B d h; omega
 | succ q ih=>
  intro i wa B d hq hi hb
  have hl:=h.len
  unfold qq43.L1; intros
  rw [qq43.l1_eq]
  refine ifD (fun h1=>?_) (fun h1=>?_)
  ·
   refine (h.bel hb.own.bel).rd (by omega) (by omega) fun _=>?_
   rw [Int.toNat_natCast]
   refine buf_lit (m:=1) hb [l.getD i 0] rfl (by omega) fun B' d' wb hb'=>?_
   refine let_as ((i+1:Nat):Int) (by rw [w64 (by omega) (by omega)]; omega) ?_
   have e:l.take i++[l.getD i 0]=l.take (i+1):=by
    rw [List.take_succ_eq_append_getElem (by omega)]
    simp [List.getD_eq_getElem?_getD,show i < l.length by omega]
   rw [e] at hb'
   apply ih (i+1) wb B' d' (by omega) (by omega) hb'
  ·
   have:i=l.length:=by omega
   subst this
   rw [List.take_length] at hb
   exact ⟨hb.own.bel,B,d,rfl,hb.by,hb.le,hb.fre⟩
theorem clone3_c {w:World} {A:Option Addr} {n c:Nat} {l:List Int} (h:By w A n l) (hn:n≤10000000000000):Calls Tryz.prog 108 #[.slice A n c] w (RetBy w l):=by
 refine qq43.run ?_
 unfold qq43.s
 refine ⟨n+1,?_⟩
 apply clone3_l w h hn (n+1) 0 w none 0 (by omega) (by omega) (Buf.nil (Own.refl w))
theorem two_c {w:World} {A:Option Addr} {n c:Nat} {l:List Int} (h:By w A n l) (hb:Bytes l) {i:Nat} {j:Int} (hj:j=i) (hi:i+1 < n) (hn:n≤1000000000000000):Calls Tryz.prog 106 #[.slice A n c,.int .i64 j] w (Ret (.int .i64 (wd l i)) w):=by
 subst hj
 refine qq77.run ?_
 unfold qq77.s
 have h0:=hb.getD i
 have h1:=hb.getD (i+1)
 refine draws (fun w'=>Bel w w') (Bel.refl w).drew fun w1 e1=>?_
 have k1:Bel w w1:=by rw [e1]; exact (Bel.refl w).drew
 refine h.rdS (fun w' k=>k) (by omega) (by omega) fun _=>?_
 rw [Int.toNat_natCast]
 refine let_as _ (w64 (by omega) (by omega)) ?_
 refine let_as _ (w64 (by omega) (by omega)) ?_
 refine let_as ((i+1:Nat):Int) (by rw [w64 (by omega) (by omega)]; omega) ?_
 refine h.rdS (fun w' k=>k) (by omega) (by omega) fun _=>?_
 rw [Int.toNat_natCast]
 refine let_as _ (w64 (by omega) (by omega)) ?_
 refine let_as (wd l i) (by rw [w64 (by omega) (by omega)]; unfold wd; omega) ?_
 exact ⟨rfl,k1⟩
theorem four_c {w:World} {A:Option Addr} {n c:Nat} {l:List Int} (h:By w A n l) (hb:Bytes l) {i:Nat} {j:Int} (hj:j=i) (hi:i+3 < n) (hn:n≤1000000000000000):Calls Tryz.prog 107 #[.slice A n c,.int .i64 j] w (Ret (.int .i64 (lg l i)) w):=by
 subst hj
 refine qq61.run ?_
 unfold qq61.s
 have h0:=wd_range hb i
 have h1:=wd_range hb (i+2)
 refine call_of (two_c h hb rfl (by omega) hn) ?_
 rintro e w1 ⟨rfl,k1⟩
 refine ⟨_,rfl,?_⟩
 refine let_as _ (w64 (by omega) (by omega)) ?_
 refine let_as ((i+2:Nat):Int) (by rw [w64 (by omega) (by omega)]; omega) ?_
 refine call_of (two_c (h.bel k1) hb rfl (by omega) hn) ?_
 rintro e w2 ⟨rfl,k2⟩
 refine ⟨_,rfl,?_⟩
 refine let_as (lg l i) (by rw [w64 (by omega) (by omega)]; unfold lg; omega) ?_
 exact ⟨rfl,Bel.trans k1 k2⟩
theorem put2_c {w wa:World} {M:List (Nat×TypeId×List Value)} {A:Option Addr} {n c:Nat} {l:List Int} (h:Buf w wa M A n c l) {v:Int} (hv:0≤v∧v≤65535) (hn:n≤10000000000000) {R:Ending→World→Prop}
  (hR:∀ A' c' wb,Buf w wb M A' (n+2) c' (l++[v / 256 % 256,v % 256])→R (.returned (.slice A' (n+2) c')) wb):Calls Tryz.prog 99 #[.slice A n c,.int .i64 v] wa R:=by
 refine qq70.run ?_
 unfold qq70.s
 refine let_as (v / 256) (by rw [td (by omega),w64 (by omega) (by omega)]) ?_
 refine let_as (v / 256 % 256) (by rw [w8 (by omega) (by omega)]; omega) ?_
 refine let_as (v % 256) (tm (by omega)) ?_
 refine let_as (v % 256) (w8 (by omega) (by omega)) ?_
 exact buf_lit (m:=2) h [v / 256 % 256,v % 256] rfl (by omega) hR
theorem total_l (w:World) {A:Option Addr} {n c:Nat} {l:List Int} (h:By w A n l) (hb:Bytes l) (hn:n≤1000000000000):∀ (q i:Nat) (t:Int),n-i < q→i≤n→0≤t→t+65280 * (n-i:Nat)≤1000000000000000000→
  qq53.L1 q A n c t (i:Int) w (Ret (.int .i64 (t+tot (decide (i % 2=0)) (l.drop i))) w):=by
 intro q
 induction q with
 | zero=>intro i t h; omega
 | succ q ih=>
  intro i t hq hi ht hbd
  have hl:=h.len
  unfold qq53.L1; intros
  rw [qq53.l1_eq]
  refine ifD (fun h1=>?_) (fun h1=>?_)
  ·
   have hlt:i < l.length:=by omega
   have hd:l.drop i=l[i]::l.drop (i+1):=List.drop_eq_getElem_cons hlt
   have eg:l.getD i 0=l[i]:=by simp [List.getD_eq_getElem?_getD,hlt]
   have hx:=hb.getD i
   refine let_as ((i % 2:Nat):Int) (by rw [tm (by omega)]; omega) ?_
   refine ifE (fun h2=>?_) (fun h2=>?_)
   ·
    refine h.rd (by omega) (by omega) fun _=>?_
    rw [Int.toNat_natCast]
    refine let_as _ (w64 (by omega) (by omega)) ?_
    refine let_as _ (w64 (by omega) (by omega)) ?_
    refine let_as _ (w64 (by omega) (by omega)) ?_
    refine let_as ((i+1:Nat):Int) (by rw [w64 (by omega) (by omega)]; omega) ?_
    have:=ih (i+1) (t+256 * l.getD i 0) (by omega) (by omega) (by omega) (by omega)
    rw [hd,decide_eq_true (by omega:i % 2=0),tot,← eg]
    rw [decide_eq_false (by omega:¬ (i+1) % 2=0),Int.add_assoc] at this
    apply this
   ·
    refine h.rd (by omega) (by omega) fun _=>?_
    rw [Int.toNat_natCast]
    refine let_as _ (w64 (by omega) (by omega)) ?_
    refine let_as _ (w64 (by omega) (by omega)) ?_
    refine let_as ((i+1:Nat):Int) (by rw [w64 (by omega) (by omega)]; omega) ?_
    have:=ih (i+1) (t+l.getD i 0) (by omega) (by omega) (by omega) (by omega)
    rw [hd,decide_eq_false (by omega:¬ i % 2=0),tot,← eg]
    rw [decide_eq_true (by omega:(i+1) % 2=0),Int.add_assoc] at this
    apply this
  ·
   have:i=l.length:=by omega
   subst this
   rw [List.drop_length]
   simp only [tot,Int.add_zero]
   exact ⟨rfl,Bel.refl w⟩
theorem total_c {w:World} {A:Option Addr} {n c:Nat} {l:List Int} (h:By w A n l) (hb:Bytes l) (hn:n≤1000000000000):Calls Tryz.prog 87 #[.slice A n c] w (Ret (.int .i64 (tot true l)) w):=by
 refine qq53.run ?_
 unfold qq53.s
 refine ⟨n+1,?_⟩
 have:=total_l w (c:=c) h hb hn (n+1) 0 0 (by omega) (by omega) (by omega) (by omega)
 rw [List.drop_zero,Int.zero_add] at this
 apply this
theorem fold_c (w:World) {t:Int} (h0:0≤t) (h1:t≤1000000000000000000):Calls Tryz.prog 88 #[.int .i64 t] w (Ret (.int .i64 (S t)) w):=by
 refine qq66.run ?_
 unfold qq66.s
 refine ifE (fun h=>?_) (fun h=>?_)
 ·
  rw [h]; exact ⟨rfl,Bel.refl w⟩
 ·
  refine let_as _ (w64 (by omega) (by omega)) ?_
  refine let_as _ (tm (by omega)) ?_
  refine let_as (S t) (by rw [w64 (by omega) (by omega)]; unfold S; rw [if_neg h]) ?_
  exact ⟨rfl,Bel.refl w⟩
theorem sum3_l (w:World) {A:Option Addr} {n c:Nat} {ps:List (List Int)} (hp:Bys w A n ps) (hb:∀ p∈ps,Bytes p) (hf:ps.flatten.length≤100000000000) (hn:n≤100000000000):∀ (q i:Nat) (wa:World) (B:Option Addr) (m d:Nat),n-i < q→i≤n→Buf w wa [] B m d (ps.take i).flatten→
  qq72.L1 q A n c B m d (i:Int) wa (Ret (.int .u16 (65535-S (tot true ps.flatten))) w):=by
 intro q
 induction q with
 | zero=>intro i wa B m d h; omega
 | succ q ih=>
  intro i wa B m d hq hi hbuf
  have hl:=hp.1
  have hm:=hbuf.len
  have hsplit:ps.flatten=(ps.take i).flatten++(ps.drop i).flatten:=by rw [← List.flatten_append,List.take_append_drop]
  unfold qq72.L1; intros
  rw [qq72.l1_eq]
  refine ifD (fun h1=>?_) (fun h1=>?_)
  ·
   have hlt:i < ps.length:=by omega
   have hd:ps.drop i=ps[i]::ps.drop (i+1):=List.drop_eq_getElem_cons hlt
   have eg:ps.getD i []=ps[i]:=by simp [List.getD_eq_getElem?_getD,hlt]
   obtain ⟨a,ea,hc⟩:=(hp.bel hbuf.own.bel).2 (by omega)
   obtain ⟨C,k,e,h2,h3⟩:=hc i (by omega)
   rw [eg] at h3
   have hk:=h3.len
   have hlen:m+k≤100000000000:=by
    rw [hsplit,hd,List.flatten_cons] at hf
    simp only [List.length_append] at hf
    omega
   refine ⟨a,ea,⟨by omega,by omega⟩,C,k,e,by rw [Int.toNat_natCast]; exact h2,?_⟩
   refine buf_app hbuf h3 (by omega) fun B' d' wb hb'=>?_
   refine let_as ((i+1:Nat):Int) (by rw [w64 (by omega) (by omega)]; omega) ?_
   have e1:(ps.take i).flatten++ps[i]=(ps.take (i+1)).flatten:=by rw [List.take_succ_eq_append_getElem hlt,List.flatten_append]; simp
   rw [e1] at hb'
   apply ih (i+1) wb B' (m+k) d' (by omega) (by omega) hb'
  ·
   have:i=ps.length:=by omega
   subst this
   rw [List.take_length] at hbuf hm
   have hbb:Bytes ps.flatten:=fun x hx=>by
    obtain ⟨p,hp1,hp2⟩:=List.mem_flatten.1 hx
    exact hb p hp1 x hp2
   have ht0:=tot_nonneg (b:=true) hbb
   have ht1:=tot_le (b:=true) hbb
   have hS:=S_range ht0
   refine call_of (total_c hbuf.by hbb (by omega)) ?_
   rintro e w1 ⟨rfl,k1⟩
   refine ⟨_,rfl,?_⟩
   refine call_of (fold_c w1 ht0 (by omega)) ?_
   rintro e w2 ⟨rfl,k2⟩
   refine ⟨_,rfl,?_⟩
   refine let_as _ (w64 (by omega) (by omega)) ?_
   refine let_as _ (w16 (by omega) (by omega)) ?_
   exact ⟨rfl,Bel.trans (Bel.trans hbuf.own.bel k1) k2⟩
theorem sum3_c {w:World} {A:Option Addr} {n c:Nat} {ps:List (List Int)} (hp:Bys w A n ps) (hb:∀ p∈ps,Bytes p) (hf:ps.flatten.length≤100000000000) (hn:n≤100000000000):
  Calls Tryz.prog 53 #[.slice A n c] w (Ret (.int .u16 (65535-S (tot true ps.flatten))) w):=by
 refine qq72.run ?_
 unfold qq72.s
 refine ⟨n+1,?_⟩
 apply sum3_l w hp hb hf hn (n+1) 0 w none 0 0 (by omega) (by omega) (Buf.nil (Own.refl w))
theorem sum31_c {w:World} {g:Nat} {t:TypeId} {A:Option Addr} {n c:Nat} {l:List Int} (h:Bk w g t [.slice A n c]) (k:By w A n l) (hb:Bytes l) (hn:l.length≤100000000000) (c':Nat):
  Calls Tryz.prog 53 #[.slice (some ⟨g,0,none⟩) 1 c'] w (Ret (.int .u16 (65535-S (tot true l))) w):=by
 have:=sum3_c (c:=c') (Bys.one (c:=c) h k) (fun p hp=>by rw [List.mem_singleton.1 hp]; exact hb) (by simpa using hn) (by omega)
 simpa using this
end Go.Proofs.YtphbdmafchjjeaaGreatDoorS
namespace Go.Proofs.YtphbdmafchjjeaaGreatDoorS
open Go Go.RowKit Go.Proofs Go.Proofs.YtphbdmafchjjeaaGreatDoorX
set_option maxRecDepth 100000
set_option linter.unusedVariables false
set_option linter.unusedSimpArgs false
theorem behind_l (w:World) {A:Option Addr} {n c:Nat} {l:List Int} (h:By w A n l) (hn:n≤1000000000000):∀ (q i:Nat),n-i < q→i≤n→
  qq33.L1 q A n c (i:Int) w (Ret (.int .i64 (if (l.drop i).all (· == 0)=true then (n:Int) else -1)) w):=by
 intro q
 induction q with
 | zero=>intro i h; omega
 | succ q ih=>
  intro i hq hi
  have hl:=h.len
  unfold qq33.L1; intros
  rw [qq33.l1_eq]
  refine ifD (fun h1=>?_) (fun h1=>?_)
  ·
   have hlt:i < l.length:=by omega
   have hd:l.drop i=l[i]::l.drop (i+1):=List.drop_eq_getElem_cons hlt
   have eg:l.getD i 0=l[i]:=by simp [List.getD_eq_getElem?_getD,hlt]
   refine h.rd (by omega) (by omega) fun _=>?_
   rw [Int.toNat_natCast]
   refine ifN (fun h2=>?_) (fun h2=>?_)
   ·
    rw [hd,List.all_cons,← eg,if_neg (by simp only [Bool.and_eq_true,beq_iff_eq]; exact fun h=>h2 h.1)]
    exact ⟨rfl,Bel.refl w⟩
   ·
    refine let_as ((i+1:Nat):Int) (by rw [w64 (by omega) (by omega)]; omega) ?_
    have:=ih (i+1) (by omega) (by omega)
    have e:(l.drop i).all (· == 0)=(l.drop (i+1)).all (· == 0):=by rw [hd,List.all_cons,← eg,h2]; rfl
    rw [e]
    apply this
  ·
   have:i=l.length:=by omega
   subst this
   rw [List.drop_length,if_pos (show ([]:List Int).all (· == 0)=true from rfl)]
   exact ⟨rfl,Bel.refl w⟩
theorem behind_c {w:World} {A:Option Addr} {n c:Nat} {l:List Int} (h:By w A n l) (hb:Bytes l) (hn:n≤1000000000000) {i:Nat} {j:Int} (hj:j=i) (hi:i < n):Calls Tryz.prog 104 #[.slice A n c,.int .i64 j] w (Ret (.int .i64 (bhd l i)) w):=by
 subst hj
 refine qq33.run ?_
 unfold qq33.s
 have hl:=h.len
 have h0:=hb.getD i
 have h1:=hb.getD (i+1)
 unfold bhd
 refine h.rd (by omega) (by omega) fun _=>?_
 rw [Int.toNat_natCast]
 refine ifE (fun h2=>?_) (fun h2=>?_)
 ·
  rw [if_pos h2]
  refine let_as ((i+1:Nat):Int) (by rw [w64 (by omega) (by omega)]; omega) ?_
  exact ⟨rfl,Bel.refl w⟩
 rw [if_neg h2]
 refine h.rd (by omega) (by omega) fun _=>?_
 rw [Int.toNat_natCast]
 refine ifE (fun h3=>?_) (fun h3=>?_)
 ·
  rw [if_pos h3]
  refine ⟨n+1,?_⟩
  have:=behind_l w (c:=c) h hn (n+1) i (by omega) (by omega)
  rw [hl]
  apply this
 rw [if_neg h3]
 refine let_as ((i+1:Nat):Int) (by rw [w64 (by omega) (by omega)]; omega) ?_
 refine ifD (fun h4=>?_) (fun h4=>?_)
 ·
  rw [if_pos (by omega)]; exact ⟨rfl,Bel.refl w⟩
 rw [if_neg (by omega)]
 refine let_as ((i+1:Nat):Int) (by rw [w64 (by omega) (by omega)]; omega) ?_
 refine h.rd (by omega) (by omega) fun _=>?_
 rw [Int.toNat_natCast]
 refine ifD (fun h5=>?_) (fun h5=>?_)
 ·
  rw [if_pos h5]; exact ⟨rfl,Bel.refl w⟩
 rw [if_neg h5]
 refine let_as ((i+1:Nat):Int) (by rw [w64 (by omega) (by omega)]; omega) ?_
 refine h.rd (by omega) (by omega) fun _=>?_
 rw [Int.toNat_natCast]
 refine let_as _ (w64 (by omega) (by omega)) ?_
 refine let_as ((i+(l.getD (i+1) 0).toNat:Nat):Int) (by rw [w64 (by omega) (by omega)]; omega) ?_
 refine ifD (fun h6=>?_) (fun h6=>?_)
 ·
  rw [if_pos (by omega)]; exact ⟨rfl,Bel.refl w⟩
 rw [if_neg (by omega)]
 refine ⟨?_⟩
 rw [qq33.j1_eq]
 refine let_as ((i+1:Nat):Int) (by rw [w64 (by omega) (by omega)]; omega) ?_
 refine h.rd (by omega) (by omega) fun _=>?_
 rw [Int.toNat_natCast]
 refine let_as _ (w64 (by omega) (by omega)) ?_
 refine let_as ((i+(l.getD (i+1) 0).toNat:Nat):Int) (by rw [w64 (by omega) (by omega)]; omega) ?_
 exact ⟨rfl,Bel.refl w⟩
theorem area_nil':area []=true:=by simp [area]
theorem area3_l (w:World) {A:Option Addr} {n c:Nat} {l:List Int} (h:By w A n l) (hb:Bytes l) (hn:n≤1000000000000):∀ (q i:Nat) (wa:World),n-i < q→i≤n→Bel w wa→
  qq63.L1 (q+1) A n c (i:Int) wa (Ret (.bool (area (l.drop i))) w):=by
 intro q
 induction q with
 | zero=>intro i wa h; omega
 | succ q ih=>
  intro i wa hq hi hk
  have hl:=h.len
  unfold qq63.L1; intros
  rw [qq63.l1_eq]
  refine ifD (fun _=>?_) (fun h=>by omega)
  refine ifD (fun h1=>?_) (fun h1=>?_)
  ·
   refine ⟨?_⟩
   rw [qq63.j2_eq]
   refine call_of (behind_c (h.bel hk) hb hn rfl (by omega)) ?_
   rintro e w1 ⟨rfl,k1⟩
   refine ⟨_,rfl,?_⟩
   rcases area_next (o:=l) (i:=i) (by omega) with ⟨e1,e2⟩ | ⟨j,e1,e2,e3,e4⟩
   ·
    rw [e1,e2,qq63.l1_eq]
    refine ifD (fun h=>by omega) (fun _=>?_)
    exact ⟨by rfl,Bel.trans hk k1⟩
   ·
    rw [e1,e4]
    have:=ih j w1 (by omega) (by omega) (Bel.trans hk k1)
    apply this
  ·
   have:i=l.length:=by omega
   subst this
   rw [List.drop_length,area_nil']
   exact ⟨by rw [decide_eq_true (by omega)],hk⟩
theorem area3_c {w:World} {A:Option Addr} {n c:Nat} {l:List Int} (h:By w A n l) (hb:Bytes l):Calls Tryz.prog 97 #[.slice A n c] w (Ret (.bool (oOK l)) w):=by
 refine qq63.run ?_
 unfold qq63.s
 have hl:=h.len
 refine ifD (fun h1=>?_) (fun h1=>?_)
 ·
  have e:oOK l=false:=by unfold oOK; rw [decide_eq_false (by omega),Bool.false_and]
  rw [e]; exact ⟨rfl,Bel.refl w⟩
 refine let_as ((n % 4:Nat):Int) (by rw [tm (by omega)]; omega) ?_
 refine ifN (fun h2=>?_) (fun h2=>?_)
 ·
  have e:oOK l=false:=by unfold oOK; rw [decide_eq_false (by omega:¬ l.length % 4=0),Bool.false_and,Bool.and_false]
  rw [e]; exact ⟨rfl,Bel.refl w⟩
 refine ⟨?_⟩
 rw [qq63.j1_eq]
 refine ⟨n+2,?_⟩
 have e:oOK l=area l:=by unfold oOK; rw [decide_eq_true (by omega:l.length≤40),decide_eq_true (by omega:l.length % 4=0),Bool.true_and,Bool.true_and]
 have:=area3_l w (c:=c) h hb (by omega) (n+1) 0 w (by omega) (by omega) (Bel.refl w)
 rw [List.drop_zero] at this
 rw [e]
 apply this
theorem piece_c (w:World) {off body:Int} {mf:Bool} (h0:0≤body) (h1:body≤140737488355328):Calls Tryz.prog 98 #[.int .i64 off,.int .i64 body,.bool mf] w (Ret (.bool (ordB off body mf)) w):=by
 refine qq51.run ?_
 unfold qq51.s
 have no:¬ (0≤off∧off≤65528∧off % 8=0∧off+body≤65535)→ordB off body mf=false:=fun h=>by unfold ordB; rw [decide_eq_false h,Bool.false_and]
 refine ifD (fun h2=>?_) (fun h2=>?_)
 ·
  rw [no (by omega)]; exact ⟨rfl,Bel.refl w⟩
 refine ifD (fun h3=>?_) (fun h3=>?_)
 ·
  rw [no (by omega)]; exact ⟨rfl,Bel.refl w⟩
 refine let_as _ (tm (by omega)) ?_
 refine ifN (fun h4=>?_) (fun h4=>?_)
 ·
  rw [no (by omega)]; exact ⟨rfl,Bel.refl w⟩
 refine let_as _ (w64 (by omega) (by omega)) ?_
 refine ifD (fun h5=>?_) (fun h5=>?_)
 ·
  rw [no (by omega)]; exact ⟨rfl,Bel.refl w⟩
 have e:ordB off body mf=(!mf || decide (0 < body∧body % 8=0)):=by unfold ordB; rw [decide_eq_true (by omega),Bool.true_and]
 rw [e]
 refine ⟨?_⟩
 rw [qq51.j1_eq]
 refine ifNot (fun h6=>?_) (fun h6=>?_)
 ·
  rw [h6]; exact ⟨rfl,Bel.refl w⟩
 ·
  rw [h6]
  simp only [Bool.not_true,Bool.false_or]
  refine ifD (fun h7=>?_) (fun h7=>?_)
  ·
   refine let_as _ (tm (by omega)) ?_
   refine ⟨?_,Bel.refl w⟩
   by_cases h8:body % 8=0
   ·
    rw [decide_eq_true (by omega),h8]; rfl
   ·
    rw [decide_eq_false (by omega),show (body % 8 == 0)=false by simpa using h8]
  ·
   rw [decide_eq_false (by omega)]
   exact ⟨rfl,Bel.refl w⟩
theorem refused_c {w:World} {p:Pk} (h:p.Fine) {A:Option Addr} {n c:Nat} {B:Option Addr} {m d:Nat} (hp:PkAt w p A n c B m d):Calls Tryz.prog 76 #[.agg (pb p A n c B m d).toArray] w (Ret (.int .i64 p.err) w):=by
 refine qq17.run ?_
 unfold qq17.s
 have la:=hp.opts.len
 have lb:=hp.body.len
 have hlb:=h.lb
 have hlo:=h.lo
 refine own_new (l:=pb p A n c B m d) (Own.refl w) fun g1 w1 H=>?_
 refine ⟨A,n,c,H.cell 0 9 rfl rfl,?_⟩
 refine call_of (area3_c (hp.opts.bel H.bel) h.opts) ?_
 rintro e w2 ⟨rfl,k2⟩
 replace H:=H.call k2
 refine ⟨_,rfl,?_⟩
 refine ifNot (fun h1=>?_) (fun h1=>?_)
 ·
  have e:p.err=34:=by unfold Pk.err; rw [if_neg (by rw [h1]; decide)]
  rw [e]; exact ⟨rfl,H.bel⟩
 refine ⟨_,H.cell 0 4 rfl rfl,B,m,d,H.cell 0 10 rfl rfl,_,H.cell 0 3 rfl rfl,?_⟩
 refine call_of (piece_c w2 (by omega) (by omega)) ?_
 rintro e w3 ⟨rfl,k3⟩
 replace H:=H.call k3
 refine ⟨_,rfl,?_⟩
 refine ifNot (fun h2=>?_) (fun h2=>?_)
 ·
  have e:p.err=36:=by unfold Pk.err; rw [if_pos h1,if_neg (by rw [lb,h2]; decide)]
  rw [e]; exact ⟨rfl,H.bel⟩
 refine ⟨A,n,c,H.cell 0 9 rfl rfl,?_⟩
 refine let_as _ (w64 (by omega) (by omega)) ?_
 refine ⟨B,m,d,H.cell 0 10 rfl rfl,?_⟩
 refine let_as _ (w64 (by omega) (by omega)) ?_
 refine ifD (fun h3=>?_) (fun h3=>?_)
 ·
  have e:p.err=37:=by unfold Pk.err; rw [if_pos h1,if_pos (by rw [lb]; exact h2),if_neg (by omega)]
  rw [e]; exact ⟨rfl,H.bel⟩
 ·
  have e:p.err=0:=Pk.err_of h1 (by rw [lb]; exact h2) (by omega)
  rw [e]; exact ⟨rfl,H.bel⟩
end Go.Proofs.YtphbdmafchjjeaaGreatDoorS
