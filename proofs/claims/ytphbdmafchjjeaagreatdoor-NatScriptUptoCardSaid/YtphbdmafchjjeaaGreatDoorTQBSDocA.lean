import Derived.Test.YtphbdmafchjjeaaGreatDoorTQBSIcmpM
import Derived.Test.YtphbdmafchjjeaaGreatDoorTQBSNatLM
import Derived.Test.YtphbdmafchjjeaaGreatDoorTQBSRef6M
import Derived.Test.YtphbdmafchjjeaaGreatDoorTQBSFD1
namespace Go.Proofs.YtphbdmafchjjeaaGreatDoorS
open Go Go.RowKit Go.Proofs Go.Proofs.YtphbdmafchjjeaaGreatDoorX
set_option maxRecDepth 100000
set_option linter.unusedVariables false
set_option linter.unusedSectionVars false
set_option linter.unusedSimpArgs false
def fitB (t u:Tp):Bool:=decide (t.proto=u.proto∧(t.proto=1→u.sp=u.dp))
theorem fits_c (w:World) (t u:Tp):Calls Tryz.prog 44 #[.agg (tpv t).toArray,.agg (tpv u).toArray] w (Ret (.bool (fitB t u)) w):=by
 refine qq46.run ?_
 unfold qq46.s
 refine own_new (l:=tpv t) (Own.refl w) fun g1 w2 H=>?_
 refine own_new (l:=tpv u) H fun g3 w4 H=>?_
 refine ⟨t.proto,H.cell 1 2 rfl rfl,u.proto,H.cell 0 2 rfl rfl,?_⟩
 unfold fitB
 refine ifE (fun h1=>?_) (fun h1=>?_)
 ·
  refine ⟨t.proto,H.cell 1 2 rfl rfl,?_⟩
  refine ifN (fun h2=>?_) (fun h2=>?_)
  ·
   rw [decide_eq_true (⟨h1,fun h=>absurd h h2⟩:t.proto=u.proto∧(t.proto=1→u.sp=u.dp))]
   exact ⟨rfl,H.bel⟩
  ·
   refine ⟨u.sp,H.cell 0 3 rfl rfl,u.dp,H.cell 0 4 rfl rfl,?_,H.bel⟩
   rw [beq_d,decide_eq_decide.2 (by constructor <;> intro h; exact ⟨h1,fun _=>h⟩; exact h.2 h2:u.sp=u.dp↔(t.proto=u.proto∧(t.proto=1→u.sp=u.dp)))]
 ·
  rw [decide_eq_false (fun h=>h1 h.1:¬ (t.proto=u.proto∧(t.proto=1→u.sp=u.dp)))]
  exact ⟨rfl,H.bel⟩
theorem clone23_l (w:World) {A:Option Addr} {n c:Nat} {l:List Int} (h:By w A n l) (hn:n≤10000000000000):∀ (q i:Nat) (wa:World) (B:Option Addr) (d:Nat),n-i < q→i≤n→Buf w wa [] B i d (l.take i)→
  qq28.L1 q A n c B i d (i:Int) wa (fun e w'=>∃ A' c',e=.returned (.slice A' n c')∧Buf w w' [] A' n c' l):=by
 intro q
 induction q with
 | zero=>intro i wa B d h; omega
 | succ q ih=>
  intro i wa B d hq hi hb
  have hl:=h.len
  unfold qq28.L1; intros
  rw [qq28.l1_eq]
  refine ifD (fun h1=>?_) (fun h1=>?_)
  ·
   refine (h.bel hb.own.bel).rd (by omega) (by omega) fun _=>?_
   rw [Int.toNat_natCast]
   refine buf_lit (m:=1) hb [l.getD i 0] rfl (by omega) fun B' d' wb hb'=>?_
   refine let_as ((i+1:Nat):Int) (by rw [w64 (by omega) (by omega)]; omega) ?_
   have e:l.take i++[l.getD i 0]=l.take (i+1):=by
    rw [List.take_succ_eq_append_getElem (by omega)]
    simp [List.getD_eq_getElem?_getD,show i < l.length by omega]
   rw [e] at hb'
   apply ih (i+1) wb B' d' (by omega) (by omega) hb'
  ·
   have:i=l.length:=by omega
   subst this
   rw [List.take_length] at hb
   exact ⟨B,d,by rw [hl],by rw [← hl]; exact hb⟩
theorem clone23_c {w:World} {A:Option Addr} {n c:Nat} {l:List Int} (h:By w A n l) (hn:n≤10000000000000):Calls Tryz.prog 45 #[.slice A n c] w (fun e w'=>∃ A' c',e=.returned (.slice A' n c')∧Buf w w' [] A' n c' l):=by
 refine qq28.run ?_
 unfold qq28.s
 refine ⟨n+1,?_⟩
 have k:=clone23_l w (c:=c) h hn (n+1) 0 w none 0 (by omega) (by omega) (Buf.nil (Own.refl w))
 exact k ..
theorem two23_c {w:World} {A:Option Addr} {n c:Nat} {l:List Int} (h:By w A n l) (hb:Bytes l) {i:Nat} {j:Int} (hj:j=i) (hi:i+1 < n) (hn:n≤1000000000000000):Calls Tryz.prog 81 #[.slice A n c,.int .i64 j] w (Ret (.int .i64 (wd l i)) w):=by
 subst hj
 refine qq67.run ?_
 unfold qq67.s
 have h0:=hb.getD i
 have h1:=hb.getD (i+1)
 refine drawsR fun w1 k1=>?_
 refine h.rdS (fun w' k=>k) (by omega) (by omega) fun _=>?_
 rw [Int.toNat_natCast]
 refine let_as _ (w64 (by omega) (by omega)) ?_
 refine let_as _ (w64 (by omega) (by omega)) ?_
 refine let_as ((i+1:Nat):Int) (by rw [w64 (by omega) (by omega)]; omega) ?_
 refine h.rdS (fun w' k=>k) (by omega) (by omega) fun _=>?_
 rw [Int.toNat_natCast]
 refine let_as _ (w64 (by omega) (by omega)) ?_
 refine let_as (wd l i) (by rw [w64 (by omega) (by omega)]; unfold wd; omega) ?_
 exact ⟨rfl,k1⟩
section
variable {w0 w:World} {M:List Blk} {cs:List Lst}
theorem put23_c {g o n c:Nat} {pre b post:List Int} (H:OF w0 w ((g,5,bv (pre++(b++post)))::M) cs) (ho:pre.length=o) (hn:b.length=n) {i:Nat} {j v:Int} (hj:j=i) (hi:i+1 < n) (hm:n≤1000000000000000) (hv:0≤v∧v≤65535):
  Calls Tryz.prog 52 #[.slice (some ⟨g,o,none⟩) n c,.int .i64 j,.int .i64 v] w fun e w'=>e=.returned (.tuple #[])∧OF w0 w' ((g,5,bv (pre++(setw b i v++post)))::M) cs:=by
 subst hj
 refine qq65.run ?_
 unfold qq65.s
 have hlen:(bv (pre++(b++post))).length=o+n+post.length:=by rw [bv_len,List.length_append,List.length_append,ho,hn]; omega
 refine let_as (v / 256) (by rw [td hv.1,w64 (by omega) (by omega)]) ?_
 refine let_as (v / 256) (by rw [IntKind.wrap_u8]; omega) ?_
 refine ⟨_,rfl,⟨by omega,by omega⟩,?_⟩
 rw [add_blk,Int.toNat_natCast]
 refine of_set 0 H rfl (by rw [hlen]; omega) fun w4 H4=>?_
 refine let_as ((i+1:Nat):Int) (by rw [w64 (by omega) (by omega)]; omega) ?_
 refine let_as (v % 256) (tm hv.1) ?_
 refine let_as (v % 256) (by rw [IntKind.wrap_u8]; omega) ?_
 refine ⟨_,rfl,⟨by omega,by omega⟩,?_⟩
 rw [add_blk,Int.toNat_natCast]
 have e1:(bv (pre++(b++post))).set (o+i) (.int .u8 (v / 256))=bv (pre++(b.set i (v / 256)++post)):=by rw [bv_set,set_part ho (by omega)]
 replace H4:OF w0 w4 ((g,5,bv (pre++(b.set i (v / 256)++post)))::M) cs:=by rw [← e1]; exact H4
 refine of_set 0 H4 rfl (by rw [bv_len,List.length_append,List.length_append,List.length_set,ho,hn]; omega) fun w9 H9=>?_
 have e2:(bv (pre++(b.set i (v / 256)++post))).set (o+(i+1)) (.int .u8 (v % 256))=bv (pre++(setw b i v++post)):=by rw [bv_set,set_part ho (by rw [List.length_set]; omega)]; rfl
 refine ⟨rfl,?_⟩
 rw [← e2]
 exact H9
end
def Ns (w:World) (A:Option Addr) (n:Nat) (l:List Int):Prop:=l.length=n∧(0 < n→∃ a,A=some a∧∀ i,i < n→w.cell? (a.add i)=some (.int .i64 (l.getD i 0)))
theorem Ns.bel {w w':World} {A:Option Addr} {n:Nat} {l:List Int} (h:Ns w A n l) (k:Bel w w'):Ns w' A n l:=
 ⟨h.1,fun hn=>let ⟨a,e,hc⟩:=h.2 hn; ⟨a,e,fun i hi=>k.cellb (hc i hi)⟩⟩
theorem Ns.rdS {w:World} {A:Option Addr} {n:Nat} {l:List Int} (h:Ns w A n l) {S:World→Prop} (hS:∀ w',S w'→Bel w w') {i:Nat} (h1:i < n) {K:Addr→Int→Prop} (hk:∀ a,K a (l.getD i 0)):
  ∃ a:Addr,A=some a∧(0≤(i:Int)∧(i:Int) < (n:Int))∧(∃ x:Int,(∀ w',S w'→w'.cell? (a.add ((i:Int)).toNat)=some (.int .i64 x))∧K a x):=by
 obtain ⟨a,e,hc⟩:=h.2 (by omega)
 exact ⟨a,e,⟨by omega,by omega⟩,_,fun w' hw'=>(hS w' hw').cellb (hc i h1),hk a⟩
theorem Ns.of {w:World} {g o n:Nat} {t:TypeId} {l:List Int} (h:Bk w g t (ivs l)) (hn:o+n≤l.length):Ns w (some ⟨g,o,none⟩) n ((l.drop o).take n):=by
 refine ⟨by simp; omega,fun _=>⟨_,rfl,fun i hi=>?_⟩⟩
 rw [add_blk,h.cell (o+i) (ivs_get l (o+i) (by omega))]
 simp [List.getD_eq_getElem?_getD,List.getElem?_take,hi,List.getElem?_drop]
theorem ns_one {w:World} {g:Nat} {s:Tp} (h:Bk w g 3 (ivs (wsV s))):Ns w (cutA (some ⟨g,0,none⟩) 4 6 1) 1 [s.sp]:=by
 rw [cut0 g 4 6 (by decide)]
 exact Ns.of (o:=4) (n:=1) h (by show 5≤6; decide)
theorem ns_all {w:World} {g:Nat} {s:Tp} (h:Bk w g 3 (ivs (wsV s))):Ns w (some ⟨g,0,none⟩) 6 (wsV s):=Ns.of (o:=0) (n:=6) h (Nat.le_refl 6)
theorem S_absorb {t x:Int} (ht:0≤t) (hx:0≤x):S (S t+x)=S (t+x):=by
 have h1:=S_range ht
 have h2:=S_mod ht
 by_cases h0:t=0
 ·
  subst h0
  rw [S_zero]
 ·
  have h3:S t≠0:=fun h=>h0 ((S_eq_zero ht).1 h)
  exact S_congr (by omega) (by omega) (by omega)
def TuI (f f' t:Int) (o:Bool):Prop:=(o=false→t=65535-f∧f'=f)∧(o=true→f'=65535-S t)
theorem turned_l {w0:World} {A B:Option Addr} {n c d:Nat} {a b:List Int} (hA:Ns w0 A n a) (hB:Ns w0 B n b) (wa:Wrds a) (wb:Wrds b) (hn:n≤1000000) {f:Int} (hf:0≤f∧f≤65535):∀ (q i:Nat) (f' t:Int) (o:Bool) (w:World),n-i < q→i≤n→(0≤f'∧f'≤65535)→(0≤t∧t≤65535+(i:Int) * 131070)→TuI f f' t o→Bel w0 w→
  qq18.L1 q f A n c B n d t o (i:Int) w (Ret (.int .i64 (overV f' (a.drop i) (b.drop i))) w0):=by
 have la:=hA.1
 have lb:=hB.1
 intro q
 induction q with
 | zero=>intro i f' t o w h; omega
 | succ q ih=>
  intro i f' t o w hq hi hf' ht hI k
  unfold qq18.L1; intros
  rw [qq18.l1_eq]
  refine ifD (fun h1=>?_) (fun h1=>?_)
  ·
   have hi2:i < n:=by omega
   have ea:a.drop i=a.getD i 0::a.drop (i+1):=by rw [List.drop_eq_getElem_cons (by omega)]; simp [List.getD_eq_getElem?_getD,show i < a.length by omega]
   have eb:b.drop i=b.getD i 0::b.drop (i+1):=by rw [List.drop_eq_getElem_cons (by omega)]; simp [List.getD_eq_getElem?_getD,show i < b.length by omega]
   have ra:=wa.getD i
   have rb:=wb.getD i
   rw [ea,eb]
   refine draws (fun w'=>Bel w0 w') k.drew fun w2 e2=>?_
   have k2:Bel w0 w2:=by rw [e2]; exact k.drew
   refine hA.rdS (fun _ h=>h) hi2 fun _=>?_
   refine hB.rdS (fun _ h=>h) hi2 fun _=>?_
   show _
   refine ifN (fun h2=>?_) (fun h2=>?_)
   ·
    refine draws (fun w'=>Bel w0 w') k2.drew fun w3 e3=>?_
    have k3:Bel w0 w3:=by rw [e3]; exact k2.drew
    refine let_as _ (w64 (by omega) (by omega)) ?_
    refine hA.rdS (fun _ h=>h) hi2 fun _=>?_
    refine let_as _ (w64 (by omega) (by omega)) ?_
    refine hB.rdS (fun _ h=>h) hi2 fun _=>?_
    refine let_as _ (w64 (by omega) (by omega)) ?_
    refine let_as ((i+1:Nat):Int) (by rw [w64 (by omega) (by omega)]; omega) ?_
    have eo:overV f' (a.getD i 0::a.drop (i+1)) (b.getD i 0::b.drop (i+1))=overV (adjS f' (a.getD i 0) (b.getD i 0)) (a.drop (i+1)) (b.drop (i+1)):=by
     show overV (if a.getD i 0≠b.getD i 0 then _ else _) _ _=_
     rw [if_pos h2]
    rw [eo]
    have ej:adjS f' (a.getD i 0) (b.getD i 0)=65535-S (t+65535-a.getD i 0+b.getD i 0):=by
     unfold adjS
     cases o with
     | false=>
      obtain ⟨h3,h4⟩:=hI.1 rfl
      rw [h4,h3]
      congr 2
      omega
     | true=>
      have h3:=hI.2 rfl
      rw [h3,show 65535-(65535-S t)+(65535-a.getD i 0)+b.getD i 0=S t+(65535-a.getD i 0+b.getD i 0) by omega,S_absorb ht.1 (by omega)]
      congr 2
      omega
    exact ih (i+1) _ _ true w3 (by omega) (by omega) (adjS_range hf' ra rb) ⟨by omega,by omega⟩ ⟨(fun h=>by cases h),fun _=>ej⟩ k3 ..
   ·
    refine let_as ((i+1:Nat):Int) (by rw [w64 (by omega) (by omega)]; omega) ?_
    have eo:overV f' (a.getD i 0::a.drop (i+1)) (b.getD i 0::b.drop (i+1))=overV f' (a.drop (i+1)) (b.drop (i+1)):=by
     show overV (if a.getD i 0≠b.getD i 0 then _ else _) _ _=_
     rw [if_neg (fun h=>h h2)]
    rw [eo]
    exact ih (i+1) f' t o w2 (by omega) (by omega) hf' ⟨ht.1,by omega⟩ hI k2 ..
  ·
   have e:i=n:=by omega
   subst e
   have e0:overV f' (a.drop i) (b.drop i)=f':=by
    rw [List.drop_eq_nil_of_le (by omega),List.drop_eq_nil_of_le (by omega)]
    rfl
   rw [e0]
   refine ifNot (fun h2=>?_) (fun h2=>?_)
   ·
    obtain ⟨_,h4⟩:=hI.1 h2
    rw [h4]
    exact ⟨rfl,k⟩
   ·
    have h3:=hI.2 h2
    refine ifE (fun h4=>?_) (fun h4=>?_)
    ·
     rw [h3,h4]
     exact ⟨rfl,k⟩
    ·
     refine let_as (t-1) (w64 (by omega) (by omega)) ?_
     refine let_as ((t-1) % 65535) (tm (by omega)) ?_
     refine let_as (1+(t-1) % 65535) (w64 (by omega) (by omega)) ?_
     refine let_as (65535-(1+(t-1) % 65535)) (w64 (by omega) (by omega)) ?_
     rw [h3,S_pos (by omega)]
     exact ⟨rfl,k⟩
theorem turned_c {w:World} {A B:Option Addr} {n c d:Nat} {a b:List Int} (hA:Ns w A n a) (hB:Ns w B n b) (wa:Wrds a) (wb:Wrds b) (hn:n≤1000000) {f:Int} (hf:0≤f∧f≤65535):
  Calls Tryz.prog 80 #[.int .i64 f,.slice A n c,.slice B n d] w (Ret (.int .i64 (overV f a b)) w):=by
 refine qq18.run ?_
 unfold qq18.s
 refine let_as (65535-f) (w64 (by omega) (by omega)) ?_
 refine ⟨n+1,?_⟩
 have k:=turned_l (c:=c) (d:=d) hA hB wa wb hn hf (n+1) 0 f (65535-f) false w (by omega) (by omega) hf ⟨by omega,by omega⟩ ⟨fun _=>⟨rfl,rfl⟩,(fun h=>by cases h)⟩ (Bel.refl w)
 rw [List.drop_zero,List.drop_zero] at k
 exact k ..
theorem blank_l {w0:World} {A:Option Addr} {n c:Nat} {l:List Int} (hA:By w0 A n l) (hn:n≤1000000000):∀ (q i:Nat),n-i < q→i≤n→
  qq37.L1 q A n c (i:Int) w0 (Ret (.bool (blankV 2 (l.drop i) i)) w0):=by
 have ln:=hA.len
 intro q
 induction q with
 | zero=>intro i h; omega
 | succ q ih=>
  intro i hq hi
  unfold qq37.L1; intros
  rw [qq37.l1_eq]
  refine ifD (fun h1=>?_) (fun h1=>?_)
  ·
   have hi2:i < n:=by omega
   have ea:l.drop i=l.getD i 0::l.drop (i+1):=by rw [List.drop_eq_getElem_cons (by omega)]; simp [List.getD_eq_getElem?_getD,show i < l.length by omega]
   refine hA.rd (by omega) (by omega) fun _=>?_
   rw [Int.toNat_natCast]
   have k:=ih (i+1) (by omega) (by omega)
   rw [ea]
   unfold blankV
   have nx:∀ b:Bool,b=true→Ret (.bool (b && blankV 2 (l.drop (i+1)) (i+1))) w0=Ret (.bool (blankV 2 (l.drop (i+1)) (i+1))) w0:=fun b hb=>by rw [hb,Bool.true_and]
   refine ifN (fun h2=>?_) (fun h2=>?_)
   ·
    refine ifN (fun h3=>?_) (fun h3=>?_)
    ·
     refine ifN (fun h4=>?_) (fun h4=>?_)
     ·
      have e:(decide (l.getD i 0=0) || decide (i=2) || decide (i=2+1))=false:=by
       simp only [Bool.or_eq_false_iff,decide_eq_false_iff_not]
       exact ⟨⟨h2,by omega⟩,by omega⟩
      rw [e,Bool.false_and]
      exact ⟨rfl,Bel.refl w0⟩
     ·
      refine let_as ((i+1:Nat):Int) (by rw [w64 (by omega) (by omega)]; omega) ?_
      rw [nx _ (by simp only [Bool.or_eq_true,decide_eq_true_eq]; omega)]
      exact ih (i+1) (by omega) (by omega) ..
    ·
     refine let_as ((i+1:Nat):Int) (by rw [w64 (by omega) (by omega)]; omega) ?_
     rw [nx _ (by simp only [Bool.or_eq_true,decide_eq_true_eq]; omega)]
     exact ih (i+1) (by omega) (by omega) ..
   ·
    refine let_as ((i+1:Nat):Int) (by rw [w64 (by omega) (by omega)]; omega) ?_
    rw [nx _ (by simp only [Bool.or_eq_true,decide_eq_true_eq]; exact Or.inl (Or.inl h2))]
    exact ih (i+1) (by omega) (by omega) ..
  ·
   have e:i=n:=by omega
   subst e
   rw [List.drop_eq_nil_of_le (by omega)]
   exact ⟨rfl,Bel.refl w0⟩
theorem blank_c {w:World} {A:Option Addr} {n c:Nat} {l:List Int} (hA:By w A n l) (hn:n≤1000000000):Calls Tryz.prog 82 #[.slice A n c] w (Ret (.bool (blankV 2 l 0)) w):=by
 refine qq37.run ?_
 unfold qq37.s
 refine ⟨n+1,?_⟩
 have k:=blank_l (c:=c) hA hn (n+1) 0 (by omega) (by omega)
 rw [List.drop_zero] at k
 exact k ..
def RetBd (w:World) (n:Nat) (l:List Int) (e:Ending) (w':World):Prop:=∃ A' c',e=.returned (.slice A' n c')∧Buf w w' [] A' n c' l
section
variable {w0 w:World} {g1 g3 gB gO gN n c:Nat} {pad b b1:List Int} {s u:Tp} {I:Option Addr} {ic:Nat} (hs:s.Fine) (hu:u.Fine) (hb:Bytes b) (y:By w0 I n b) (h8:8≤n) (hm:n≤1000000) (hn1:b1.length=n)
abbrev BB (g1 g3 gB gO gN:Nat) (pad b1:List Int) (s u:Tp):List Blk:=[(gB,5,bv ([]++(b1++pad))),(gN,3,ivs (wsV u)),(gO,3,ivs (wsV s)),(g3,39,tpv u),(g1,39,tpv s)]
include y in
theorem bd_out (H:OF w0 w (BB g1 g3 gB gO gN pad b1 s u) []) (hl:b1.length=n) (hc:c=n+pad.length) (hc2:c≤9223372036854775807):RetBd w0 n b1 (.returned (.slice (some ⟨gB,0,none⟩) n c)) w:=by
 have H1:Own w0 w [(gB,5,bv (b1++pad))]:=Own.head H.own
 exact ⟨_,c,rfl,hl,Or.inr ⟨gB,pad,rfl,⟨by omega,hc2⟩,H1⟩⟩
include hs hu hb y h8 hm
theorem bd_j1 {z:Bool} (H:OF w0 w (BB g1 g3 gB gO gN pad b1 s u) []) (hl:b1.length=n) (hc:c=n+pad.length) (hc2:c≤9223372036854775807):
  qq45.J1 (some ⟨gB,0,none⟩) n c z w (RetBd w0 n (if z=true then setw b1 2 65535 else b1)):=by
 unfold qq45.J1; intros
 rw [qq45.j1_eq]
 refine ifB (fun h2=>?_) (fun h2=>?_)
 ·
  rw [if_pos h2]
  refine call_of (put23_c H rfl hl (i:=2) rfl (by omega) (by omega) (by decide)) ?_
  rintro e w1 ⟨rfl,H1⟩
  exact ⟨rfl,bd_out y H1 (by rw [setw_len]; exact hl) hc hc2⟩
 ·
  rw [if_neg (by rw [h2]; decide)]
  exact bd_out y H hl hc hc2
def bd5 (b b1:List Int) (s u:Tp) (z:Bool):List Int:=if z=true then setw b1 16 (overV (wd b 16) (wsV s) (wsV u)) else b1
theorem bd_j5 {z:Bool} (hz:z=true→18≤n) (H:OF w0 w (BB g1 g3 gB gO gN pad b1 s u) []) (hl:b1.length=n) (hc:c=n+pad.length) (hc2:c≤9223372036854775807):
  qq45.J5 I n ic (some ⟨gB,0,none⟩) n c (some ⟨gO,0,none⟩) 6 6 (some ⟨gN,0,none⟩) 6 6 z w (RetBd w0 n (bd5 b b1 s u z)):=by
 unfold qq45.J5; intros
 rw [qq45.j5_eq]
 unfold bd5
 refine ifB (fun h2=>?_) (fun h2=>?_)
 ·
  have h18:=hz h2
  rw [if_pos h2]
  refine call_of (two23_c (y.bel H.own.bel) hb (i:=16) rfl (by omega) (by omega)) ?_
  rintro e w1 ⟨rfl,k1⟩
  refine ⟨_,rfl,?_⟩
  have H1:=H.call k1
  refine call_of (turned_c (ns_all (H1.own.bk 2 rfl)) (ns_all (H1.own.bk 1 rfl)) (wsV_wrds hs) (wsV_wrds hu) (by decide) (wd_range hb 16)) ?_
  rintro e w4 ⟨rfl,k4⟩
  refine ⟨_,rfl,?_⟩
  refine call_of (put23_c (H1.call k4) rfl hl (i:=16) rfl (by omega) (by omega) (overV_range (wd_range hb 16) (wsV_wrds hs) (wsV_wrds hu))) ?_
  rintro e w7 ⟨rfl,H7⟩
  exact ⟨rfl,bd_out y H7 (by rw [setw_len]; exact hl) hc hc2⟩
 ·
  rw [if_neg (by rw [h2]; decide)]
  exact bd_out y H hl hc hc2
theorem bd_j4 (H:OF w0 w (BB g1 g3 gB gO gN pad b1 s u) []) (hl:b1.length=n) (hc:c=n+pad.length) (hc2:c≤9223372036854775807):
  qq45.J4 I n ic g1 (some ⟨gB,0,none⟩) n c (some ⟨gO,0,none⟩) 6 6 (some ⟨gN,0,none⟩) 6 6 w (RetBd w0 n (bd5 b b1 s u (decide (s.proto=6∧18≤n)))):=by
 unfold qq45.J4; intros
 rw [qq45.j4_eq]
 refine ⟨s.proto,H.own.cell 4 2 rfl rfl,?_⟩
 refine ifE (fun h1=>?_) (fun h1=>?_)
 ·
  have k:=bd_j5 (ic:=ic) (c:=c) hs hu hb y h8 hm (z:=decide (s.proto=6∧18≤n)) (fun h=>(of_decide_eq_true h).2) H hl hc hc2
  have e:decide (s.proto=6∧18≤n)=decide ((n:Int) ≥ 18):=decide_eq_decide.2 ⟨fun h=>by omega,fun h=>⟨h1,by omega⟩⟩
  rw [e] at k ⊢
  exact ⟨by with_reducible apply k⟩
 ·
  have k:=bd_j5 (ic:=ic) (c:=c) hs hu hb y h8 hm (z:=decide (s.proto=6∧18≤n)) (fun h=>(of_decide_eq_true h).2) H hl hc hc2
  have e:decide (s.proto=6∧18≤n)=false:=decide_eq_false fun h=>h1 h.1
  rw [e] at k ⊢
  exact ⟨by with_reducible apply k⟩
theorem bd_j2 {z:Bool} (hz:z=true→s.proto=17) (H:OF w0 w (BB g1 g3 gB gO gN pad b1 s u) []) (hl:b1.length=n) (hc:c=n+pad.length) (hc2:c≤9223372036854775807):
  qq45.J2 I n ic g1 (some ⟨gB,0,none⟩) n c (some ⟨gO,0,none⟩) 6 6 (some ⟨gN,0,none⟩) 6 6 z w (RetBd w0 n (if z=true then setw b1 6 (if overV (wd b 6) (wsV s) (wsV u)=0 then 65535 else overV (wd b 6) (wsV s) (wsV u)) else bd5 b b1 s u (decide (s.proto=6∧18≤n)))):=by
 unfold qq45.J2; intros
 rw [qq45.j2_eq]
 refine ifB (fun h2=>?_) (fun h2=>?_)
 ·
  have h17:=hz h2
  rw [if_pos h2]
  have hr:=overV_range (wd_range hb 6) (wsV_wrds hs) (wsV_wrds hu)
  refine call_of (two23_c (y.bel H.own.bel) hb (i:=6) rfl (by omega) (by omega)) ?_
  rintro e w1 ⟨rfl,k1⟩
  refine ⟨_,rfl,?_⟩
  have H1:=H.call k1
  refine call_of (turned_c (ns_all (H1.own.bk 2 rfl)) (ns_all (H1.own.bk 1 rfl)) (wsV_wrds hs) (wsV_wrds hu) (by decide) (wd_range hb 6)) ?_
  rintro e w4 ⟨rfl,k4⟩
  refine ⟨_,rfl,?_⟩
  have H4:=H1.call k4
  have j3:∀ v:Int,(0≤v∧v≤65535)→qq45.J3 I n ic g1 (some ⟨gB,0,none⟩) n c (some ⟨gO,0,none⟩) 6 6 (some ⟨gN,0,none⟩) 6 6 v w4 (RetBd w0 n (setw b1 6 v)):=fun v hv=>by
   unfold qq45.J3; intros
   rw [qq45.j3_eq]
   refine call_of (put23_c H4 rfl hl (i:=6) rfl (by omega) (by omega) hv) ?_
   rintro e w5 ⟨rfl,H5⟩
   have k:=bd_j4 (ic:=ic) (c:=c) (b1:=setw b1 6 v) hs hu hb y h8 hm H5 (by rw [setw_len]; exact hl) hc hc2
   have e:bd5 b (setw b1 6 v) s u (decide (s.proto=6∧18≤n))=setw b1 6 v:=by unfold bd5; rw [if_neg (by rw [decide_eq_false (by omega)]; decide)]
   rw [e] at k
   exact ⟨rfl,⟨by with_reducible apply k⟩⟩
  refine ifE (fun h3=>?_) (fun h3=>?_)
  ·
   rw [if_pos h3]
   have k:=j3 65535 (by decide)
   exact ⟨by with_reducible apply k⟩
  ·
   rw [if_neg h3]
   have k:=j3 _ hr
   exact ⟨by with_reducible apply k⟩
 ·
  rw [if_neg (by rw [h2]; decide)]
  have k:=bd_j4 (ic:=ic) (c:=c) hs hu hb y h8 hm H hl hc hc2
  exact ⟨by with_reducible apply k⟩
end
theorem body_c {w:World} {I:Option Addr} {n ic:Nat} {b:List Int} {s u:Tp} (hs:s.Fine) (hu:u.Fine) (hb:Bytes b) (y:By w I n b) (h8:8≤n) (hm:n≤1000000) (hpr:s.proto=1∨s.proto=6∨s.proto=17) (z:Bool):
  Calls Tryz.prog 46 #[.slice I n ic,.agg (tpv s).toArray,.agg (tpv u).toArray,.bool z] w (RetBd w n (carV b s.proto s u z)):=by
 have ln:=y.len
 refine qq45.run ?_
 unfold qq45.s
 refine own_new (l:=tpv s) (Own.refl w) fun g1 w2 H=>?_
 refine own_new (l:=tpv u) H fun g3 w4 H=>?_
 refine call_of (clone23_c (y.bel H.bel) (by omega)) ?_
 rintro e w5 ⟨A7,c7,rfl,q⟩
 obtain ⟨gB,pad,rfl,⟨hcc,hc2⟩,HB⟩:∃ g pad,A7=some ⟨g,0,none⟩∧(c7=b.length+pad.length∧c7≤9223372036854775807)∧Own w4 w5 [(g,5,bv (b++pad))]:=by
  rcases q.2 with ⟨_,_,hb0,_⟩ | h
  ·
   rw [hb0] at ln; simp at ln; omega
  ·
   exact h
 refine ⟨_,_,_,rfl,?_⟩
 have H1:=Own.join H HB
 refine ⟨_,_,_,_,_,⟨rfl,(H1.bk 2 rfl).at⟩,?_⟩
 refine call_of (rwords_c w5 hs) ?_
 rintro e w13 ⟨gO,rfl,HO⟩
 refine ⟨_,_,_,rfl,?_⟩
 have H2:=Own.join H1 HO
 refine ⟨_,_,_,_,_,⟨rfl,(H2.bk 2 rfl).at⟩,?_⟩
 refine call_of (rwords_c w13 hu) ?_
 rintro e w21 ⟨gN,rfl,HN⟩
 refine ⟨_,_,_,rfl,?_⟩
 have H3:Own w w21 [(gN,3,ivs (wsV u)),(gO,3,ivs (wsV s)),(gB,5,bv (b++pad)),(g3,39,tpv u),(g1,39,tpv s)]:=Own.join H2 HN
 have H4:OF w w21 (BB g1 g3 gB gO gN pad b s u) []:=⟨H3.perm ((List.Perm.cons _ (List.Perm.swap _ _ _)).trans (List.Perm.swap _ _ _)),fun x hx=>by cases hx⟩
 refine ⟨s.proto,H4.own.cell 4 2 rfl rfl,?_⟩
 refine ifE (fun h1=>?_) (fun h1=>?_)
 ·
  refine ⟨u.sp,H4.own.cell 3 3 rfl rfl,?_⟩
  refine let_as u.sp (w64 (by have:=hu.sp; omega) (by have:=hu.sp; omega)) ?_
  refine call_of (put23_c H4 rfl ln (i:=4) rfl (by omega) (by omega) hu.sp) ?_
  rintro e w27 ⟨rfl,H5⟩
  refine ⟨rfl,?_⟩
  refine draws (fun w'=>True) True.intro fun w30 e30=>?_
  replace H5:=H5.call (Bel.refl w27).drew
  rw [← e30] at H5
  refine ⟨⟨by omega,by omega⟩,⟨by omega,by omega⟩,⟨by omega,by omega⟩,⟨by omega,by omega⟩,?_⟩
  refine call_of (two23_c (y.bel H5.own.bel) hb (i:=2) rfl (by omega) (by omega)) ?_
  rintro e w31 ⟨rfl,k31⟩
  refine ⟨_,rfl,True.intro,?_⟩
  have H6:=H5.call k31
  have w1:Wrds [s.sp]:=fun z hz=>by rw [List.mem_singleton.1 hz]; exact hs.sp
  have w2:Wrds [u.sp]:=fun z hz=>by rw [List.mem_singleton.1 hz]; exact hu.sp
  refine call_of (turned_c (ns_one (H6.own.bk 2 rfl)) (ns_one (H6.own.bk 1 rfl)) w1 w2 (by decide) (wd_range hb 2)) ?_
  rintro e w34 ⟨rfl,k34⟩
  refine ⟨_,rfl,True.intro,?_⟩
  have hr:=overV_range (wd_range hb 2) w1 w2
  refine call_of (put23_c (H6.call k34) rfl (by rw [setw_len]; exact ln) (i:=2) rfl (by omega) (by omega) hr) ?_
  rintro e w37 ⟨rfl,H7⟩
  refine ⟨rfl,?_⟩
  have e2:wd (setw b 4 u.sp) 2=wd b 2:=by
   obtain ⟨a0,a1,a2,a3,a4,a5,a6,a7,r,rfl,_⟩:=cut8 (by omega:8≤b.length) hb
   rfl
  obtain ⟨a0,a1,a2,a3,a4,a5,a6,a7,r,eb8,_⟩:=cut8 (by omega:8≤b.length) hb
  have e3:∀ v v':Int,setw (setw (setw b 4 u.sp) 2 v) 2 v'=setw (setw b 4 u.sp) 2 v':=fun v v'=>by rw [eb8]; rfl
  have e4:∀ v:Int,blankV 2 (setw (setw b 4 u.sp) 2 v) 0=blankV 2 (setw b 4 u.sp) 0:=fun v=>by
   rw [eb8]
   show blankV 2 (a0::a1::v / 256::v % 256::u.sp / 256::u.sp % 256::a6::a7::r) 0=blankV 2 (a0::a1::a2::a3::u.sp / 256::u.sp % 256::a6::a7::r) 0
   simp [blankV]
  have lb4:(setw b 4 u.sp).length=n:=by rw [setw_len]; exact ln
  have fin:∀ x:Bool,(x=true↔(z=true∧s.sp≠u.sp∧overV (wd b 2) [s.sp] [u.sp]=0∧blankV 2 (setw b 4 u.sp) 0=true))→∀ {wz:World},Bel w37 wz→qq45.J1 (some ⟨gB,0,none⟩) n c7 x wz (RetBd w n (carV b s.proto s u z)):=fun x hx wz kz=>by
   have k:=bd_j1 (c:=c7) hs hu hb y h8 hm (z:=x) (H7.call kz) (by rw [setw_len]; exact lb4) (by omega) hc2
   have e:(if x=true then setw (setw (setw b 4 u.sp) 2 (overV (wd b 2) [s.sp] [u.sp])) 2 65535 else setw (setw b 4 u.sp) 2 (overV (wd b 2) [s.sp] [u.sp]))=carV b s.proto s u z:=by
    unfold carV echoS
    rw [if_pos h1,e2]
    by_cases hc:z=true∧s.sp≠u.sp∧overV (wd b 2) [s.sp] [u.sp]=0∧blankV 2 (setw b 4 u.sp) 0=true
    ·
     rw [if_pos (hx.2 hc),if_pos hc,e3]
    ·
     rw [if_neg (fun h=>hc (hx.1 h)),if_neg hc]
   rw [e] at k
   exact k
  refine ifE (fun h2=>?_) (fun h2=>?_)
  ·
   refine ifB (fun h3=>?_) (fun h3=>?_)
   ·
    have yc:By w37 (some ⟨gB,0,none⟩) n (setw (setw b 4 u.sp) 2 (overV (wd b 2) [s.sp] [u.sp])):=by_part (pre:=[]) (post:=pad) (H7.own.bk 0 rfl) rfl (by rw [setw_len]; exact lb4)
    refine call_of (blank_c yc (by omega)) ?_
    rintro e w39 ⟨rfl,k39⟩
    refine ⟨_,rfl,?_⟩
    rw [e4]
    refine ifB (fun h4=>?_) (fun h4=>?_)
    ·
     have H8:=H7.call k39
     refine ⟨s.sp,H8.own.cell 4 3 rfl rfl,u.sp,H8.own.cell 3 3 rfl rfl,?_⟩
     have k:=fin (s.sp != u.sp) ⟨fun h=>⟨h3,by simpa using h,h2,h4⟩,fun h=>by simpa using h.2.1⟩ k39
     exact ⟨by with_reducible apply k⟩
    ·
     have k:=fin false ⟨(fun h=>by cases h),fun h=>by rw [h4] at h; exact absurd h.2.2.2 (by decide)⟩ k39
     exact ⟨by with_reducible apply k⟩
   ·
    have k:=fin false ⟨(fun h=>by cases h),fun h=>by rw [h3] at h; exact absurd h.1 (by decide)⟩ (Bel.refl w37)
    exact ⟨by with_reducible apply k⟩
  ·
   have k:=fin false ⟨(fun h=>by cases h),fun h=>absurd h.2.2.1 h2⟩ (Bel.refl w37)
   exact ⟨by with_reducible apply k⟩
 ·
  refine ⟨u.sp,H4.own.cell 3 3 rfl rfl,?_⟩
  refine let_as u.sp (w64 (by have:=hu.sp; omega) (by have:=hu.sp; omega)) ?_
  refine call_of (put23_c H4 rfl ln (i:=0) rfl (by omega) (by omega) hu.sp) ?_
  rintro e w46 ⟨rfl,H5⟩
  refine ⟨rfl,?_⟩
  refine ⟨u.dp,H5.own.cell 3 4 rfl rfl,?_⟩
  refine let_as u.dp (w64 (by have:=hu.dp; omega) (by have:=hu.dp; omega)) ?_
  refine call_of (put23_c H5 rfl (by rw [setw_len]; exact ln) (i:=2) rfl (by omega) (by omega) hu.dp) ?_
  rintro e w50 ⟨rfl,H6⟩
  refine ⟨rfl,?_⟩
  refine ⟨s.proto,H6.own.cell 4 2 rfl rfl,?_⟩
  have e6:wd (setw (setw b 0 u.sp) 2 u.dp) 6=wd b 6:=by
   obtain ⟨a0,a1,a2,a3,a4,a5,a6,a7,r,rfl,_⟩:=cut8 (by omega:8≤b.length) hb
   rfl
  have l2:(setw (setw b 0 u.sp) 2 u.dp).length=n:=by rw [setw_len,setw_len]; exact ln
  have fin:∀ x:Bool,(x=true↔(s.proto=17∧wd b 6≠0))→∀ {wz:World},OF w wz (BB g1 g3 gB gO gN pad (setw (setw b 0 u.sp) 2 u.dp) s u) []→qq45.J2 I n ic g1 (some ⟨gB,0,none⟩) n c7 (some ⟨gO,0,none⟩) 6 6 (some ⟨gN,0,none⟩) 6 6 x wz (RetBd w n (carV b s.proto s u z)):=fun x hx wz Hz=>by
   have k:=bd_j2 (ic:=ic) (c:=c7) hs hu hb y h8 hm (z:=x) (fun h=>(hx.1 h).1) Hz l2 (by omega) hc2
   have e:(if x=true then setw (setw (setw b 0 u.sp) 2 u.dp) 6 (if overV (wd b 6) (wsV s) (wsV u)=0 then 65535 else overV (wd b 6) (wsV s) (wsV u)) else bd5 b (setw (setw b 0 u.sp) 2 u.dp) s u (decide (s.proto=6∧18≤n)))=carV b s.proto s u z:=by
    unfold carV
    rw [if_neg h1]
    by_cases h17:s.proto=17
    ·
     rw [if_pos h17,e6]
     by_cases h6:wd b 6≠0
     ·
      rw [if_pos (hx.2 ⟨h17,h6⟩),if_pos h6]
      unfold udpS
      rw [e6]
     ·
      rw [if_neg (fun h=>h6 (hx.1 h).2),if_neg h6]
      unfold bd5
      rw [decide_eq_false (by omega),if_neg (by decide)]
    ·
     rw [if_neg h17,if_neg (fun h=>h17 (hx.1 h).1)]
     unfold bd5
     rw [ln]
     by_cases h18:18≤n
     ·
      rw [decide_eq_true (by omega),if_pos rfl,if_pos h18]
      have e16:wd (setw (setw b 0 u.sp) 2 u.dp) 16=wd b 16:=by
       obtain ⟨a0,a1,a2,a3,a4,a5,a6,a7,r,rfl,_⟩:=cut8 (by omega:8≤b.length) hb
       rfl
      rw [e16]
     ·
      rw [decide_eq_false (by omega),if_neg (by decide),if_neg h18]
   rw [e] at k
   exact k
  refine ifE (fun h2=>?_) (fun h2=>?_)
  ·
   refine call_of (two23_c (y.bel H6.own.bel) hb (i:=6) rfl (by omega) (by omega)) ?_
   rintro e w53 ⟨rfl,k53⟩
   refine ⟨_,rfl,?_⟩
   have k:=fin (wd b 6 != 0) ⟨fun h=>⟨h2,by simpa using h⟩,fun h=>by simpa using h.2⟩ (H6.call k53)
   exact ⟨by with_reducible apply k⟩
  ·
   have k:=fin false ⟨(fun h=>by cases h),fun h=>absurd h.1 h2⟩ H6
   exact ⟨by with_reducible apply k⟩
end Go.Proofs.YtphbdmafchjjeaaGreatDoorS
