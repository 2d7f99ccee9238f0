import Derived.Test.YtphbdmafchjjeaaGreatDoorTQBSRowBM
import Derived.Test.YtphbdmafchjjeaaGreatDoorTQBSDocGM
import Derived.LaidMore
import Derived.MakeChecks
import Derived.JoinedCond
import Derived.SizedLaws
namespace Go.Proofs.YtphbdmafchjjeaaGreatDoorS
open Go Go.RowKit Go.Proofs Go.Proofs.YtphbdmafchjjeaaGreatDoorX Go.Proofs.YtphbdmafchjjeaaGreatDoor
open Go.ChangeShapes
set_option maxRecDepth 100000
set_option linter.unusedVariables false
set_option linter.unusedSimpArgs false
section
variable {H:Type} {enc:TypeId×Value→H}
theorem cond_and {a:Assume} {C:Checked} {os:Os} {f:FuncId} {fn:Func} {s:OpenSpec} {k:(H:Type)→List (DataW H)→Bool} (hk:s.cond=some k) {F:Stop.Interp} {conds:List PathCond} {apart fresh handsOn again:Bool} {X:World→Prop}
  (hX:∀ w w':World,w.heap=w'.heap→X w→X w')
  (own:ownKnob C.prog.godebug=none) (started:os.Started) (noInit:C.prog.inits.idxOf? f=none) (hfn:C.prog.funcs[f]?=some fn)
  (witness:∃ (w:World) (tape:Tape) (i:Input),w.os=os∧(w.forCall tape i).Shaped C.prog∧i.vars=[]∧Input.okWide C.prog (w.forCall tape i) .any w.heap.size f i∧
   ((s.pre enc C.prog fn conds apart (w.forCall tape i).memory i.args∧X (w.forCall tape i).memory)∧sizedMet enc C.prog fn s apart (w.forCall tape i).memory i.args)∧a.holds C.prog (lone (Frame.enter C.prog f i.args .normal) [] (w.forCall tape i)))
  (contract:∀ (W:World) (base:Nat) (args:Array Value) (ds gs:List (DataW H)) (before:List MemPlace),
   (∀ (j:Nat) t v,fn.params[j]?=some t→args[j]?=some v→Value.okWide C.prog W .any base t v)→
   DataW.Whole enc C.prog fn.params.toList s.vars apart W args.toList ds gs before→
   conds.all (PathCond.test C.prog ⟨fn.params.toList,ds,s.bare.plain.varTypes C.prog,gs⟩)=true→k H (ds++gs)=true→
   (DataW.weightsEach C.prog (fn.params.toList++s.bare.plain.varTypes C.prog) (ds++gs)).all (·≤reachBytes)=true→X W→
   a.holds C.prog (lone (Frame.enter C.prog f args .normal) [] W)→
   Calls C.prog f args W fun e W'=>∃ v,e=.returned v∧(s.at F).post enc C.prog fn apart fresh handsOn again W args v W'):
  ReturnsInHanded a C os f .any (fun w args=>(s.pre enc C.prog fn conds apart w args∧X w)∧sizedMet enc C.prog fn s apart w args) ((s.at F).post enc C.prog fn apart fresh handsOn again):=by
 refine returnsInHanded_of_calls own started noInit witness ?_
 intro w tape i _ _ _ hok hpre hholds
 obtain ⟨_,_,_,fn',hfn',_,_,_,_,hval⟩:=hok
 have e:fn'=fn:=Option.some.inj (hfn'.symm.trans hfn)
 subst e
 obtain ⟨⟨hp,hx⟩,hz⟩:=hpre
 obtain ⟨ds,gs,before,hw,hc,hkk⟩:=(OpenSpec.pre_some hk conds apart _ _).1 hp
 have hw':=DataW.Whole.of_heap (w':=w.forCall tape i) (by rfl) hw
 refine (contract (w.forCall tape i) w.heap.size i.args ds gs before hval hw' hc hkk (hz.weights hw) (hX _ _ (by rfl) hx) hholds).mono fun e W' ⟨v,he,hp⟩=>?_
 subst he
 exact ChangeSpec.post_blind hp
theorem cond_wit {C:Checked} {os:Os} {f:FuncId} {fn:Func} {s:OpenSpec} {k:(H:Type)→List (DataW H)→Bool} (hk:s.cond=some k) {conds:List PathCond} {apart:Bool} {X:World→Prop} (w0:World) (args:Array Value) (fuel:Nat) (hos:w0.os=os)
  (hsh:(w0.forCall (fun _ _=>0) ⟨#[],args,[]⟩).Shaped C.prog)
  (hok:Input.okWideB C.prog (w0.forCall (fun _ _=>0) ⟨#[],args,[]⟩) f ⟨#[],args,[]⟩=true)
  {x:List (DataW H)×List (DataW H)×List MemPlace} (hx:DataW.whole enc C.prog (w0.forCall (fun _ _=>0) ⟨#[],args,[]⟩).memory fn.params.toList s.vars apart args.toList fuel=some x)
  (hconds:conds.all (PathCond.test C.prog ⟨fn.params.toList,x.1,s.bare.plain.varTypes C.prog,x.2.1⟩)=true) (hkk:k H (x.1++x.2.1)=true)
  (hsz:s.bare.sizedB enc C.prog fn apart (w0.forCall (fun _ _=>0) ⟨#[],args,[]⟩).memory args fuel=true)
  (hX:X (w0.forCall (fun _ _=>0) ⟨#[],args,[]⟩).memory):
  ∃ (w:World) (tape:Tape) (i:Input),w.os=os∧(w.forCall tape i).Shaped C.prog∧i.vars=[]∧Input.okWide C.prog (w.forCall tape i) .any w.heap.size f i∧
   ((s.pre enc C.prog fn conds apart (w.forCall tape i).memory i.args∧X (w.forCall tape i).memory)∧sizedMet enc C.prog fn s apart (w.forCall tape i).memory i.args)∧({ modest:=false }:Assume).holds C.prog (lone (Frame.enter C.prog f i.args .normal) [] (w.forCall tape i)):=
 ⟨w0,fun _ _=>0,⟨#[],args,[]⟩,hos,hsh,(Input.okWide_of_okWideB (base:=0) hok).1,(Input.okWide_of_okWideB hok).2,
  ⟨⟨(OpenSpec.pre_some hk conds apart _ _).2 ⟨x.1,x.2.1,x.2.2,DataW.Whole_of_whole hx,hconds,hkk⟩,hX⟩,sizedMet_of_sizedB hsz⟩,by
  simp only [Assume.holds]
  exact ⟨by simp,by simp,fun _=>Modest.zero,by simp,by simp⟩⟩
end
section
variable {P:Program} {t e:TypeId} {enc:TypeId×Value→Unit} {w:World} {base:Nat} {spare:Nat→Bool} {held:Bool} {fuel:Nat} {cs:List Value} {p:List MemPlace}
theorem arr_get {L:List (DataW Unit)} {n:Nat} {K:Value→DataW Unit→Prop} (ht:P.underlying t=some (.array n e)) (hc:P.cellsOf e=1)
  (he:∀ (fuel:Nat) (cs:List Value) (x:DataW Unit×List MemPlace),DataW.trod enc P w base spare held fuel e cs=some x→∃ v,cs=[v]∧K v x.1)
  (h:DataW.trod enc P w base spare held fuel t cs=some (.agg L,p)):∀ i,i < n→∃ v d,cs[i]?=some v∧L[i]?=some d∧K v d:=by
 obtain ⟨xs,m,_,hx,hlen,hn,hel⟩:=DataW.trod_array ht h
 simp only [Prod.mk.injEq,DataW.agg.injEq] at hx
 obtain ⟨rfl,rfl⟩:=hx
 intro i hi
 have h1:=hel i hi
 rw [hc,Nat.mul_one] at h1
 obtain ⟨x,hx⟩:∃ x,xs[i]?=some x:=⟨_,List.getElem?_eq_getElem (by omega)⟩
 rw [hx] at h1
 obtain ⟨v,hv,hk⟩:=he _ _ _ h1
 refine ⟨v,x.1,?_,by simp [hx],hk⟩
 have:((cs.drop i).take 1)[0]?=some v:=by rw [hv]; rfl
 simpa using this
end
def laidZ : List (String × DataW Unit) := [("math/bits.deBruijn64tab", Rows.laid_math_bits_deBruijn64tab), ("weft/icmp.faults", Rows.laid_weft_icmp_faults)]
theorem dbt_get:∀ j:Nat,j < 64→∀ d:DataW Unit,(match (Rows.laid_math_bits_deBruijn64tab (H:=Unit)) with | .agg L=>L | _=>[])[j]?=some d→d=.lit (.int .u8 (dbt.getD j 0)):=by
 have e:(match (Rows.laid_math_bits_deBruijn64tab (H:=Unit)) with | .agg L=>L | _=>[])=dbt.map fun x=>DataW.lit (.int .u8 x):=by unfold Rows.laid_math_bits_deBruijn64tab dbt; rfl
 intro j hj d hd
 rw [e,List.getElem?_map] at hd
 have hl:dbt.length=64:=rfl
 rw [List.getElem?_eq_getElem (by omega)] at hd
 rw [List.getD_eq_getElem?_getD,List.getElem?_eq_getElem (by omega)]
 exact (Option.some.inj hd).symm
theorem glz_tab {W:World} (h:laidMetH Tryz.prog laidZ W):Tab W:=by
 rw [MakeChecks.laidMetH_plain _ _ _ (by kernel_rfl)] at h
 obtain ⟨ps,⟨g1,t1,cs1,f1,p1,q1,hg1,ht1,hv1,hd1,_⟩,_,_⟩:=h
 obtain rfl := Option.some.inj ((show Tryz.prog.globalNamed "math/bits.deBruijn64tab" = some 0 by kernel_rfl).symm.trans hg1)
 obtain rfl:=Option.some.inj ((show (Tryz.prog.globals[0]?).map (·.type)=some 158 by kernel_rfl).symm.trans ht1)
 have hd2:DataW.trod _ Tryz.prog _ _ _ _ _ 158 cs1.toList=some (.agg (match (Rows.laid_math_bits_deBruijn64tab (H:=Unit)) with | .agg L=>L | _=>[]),_):=hd1
 have c0:=arr_get (K:=fun v d=>∃ n,v=.int .u8 n∧d=.lit (.int .u8 n)) Tryz.underlying158 (by kernel_rfl) (fun fuel cs x h=>by
  obtain ⟨n,h1,h2,_⟩:=DataW.trod_int (k:=.u8) (by kernel_rfl) h
  exact ⟨_,h1,n,rfl,by rw [h2]⟩) hd2
 intro i hi
 obtain ⟨v,d,e1,e2,n,rfl,rfl⟩:=c0 i hi
 have e3:mulS i 1=i:=by simp [mulS]
 rw [e3,add_blk,Nat.zero_add,World.var?_cell hg1 hv1 i]
 rw [show cs1[i]?=some (.int .u8 n) by simpa using e1]
 have h3:=dbt_get i hi _ e2
 injection h3 with h3
 injection h3 with _ h3
 rw [h3]
theorem glz_f {W:World} (h:laidMetH Tryz.prog laidZ W):GlF W:=by
 rw [MakeChecks.laidMetH_plain _ _ _ (by kernel_rfl)] at h
 obtain ⟨ps,⟨g9,t9,cs9,f9,p9,q9,hg9,ht9,hv9,hd9,⟨g2,t2,cs2,f2,p2,q2,hg2,ht2,hv2,hd2,_,_⟩,_⟩,_,_⟩:=h
 obtain rfl := Option.some.inj ((show Tryz.prog.globalNamed "weft/icmp.faults" = some 1 by kernel_rfl).symm.trans hg2)
 obtain rfl:=Option.some.inj ((show (Tryz.prog.globals[1]?).map (·.type)=some 161 by kernel_rfl).symm.trans ht2)
 have c2:=arr_get (K:=fun v d=>∃ b,v=.bool b∧d=.lit (.bool b)) Tryz.underlying161 (by kernel_rfl) (fun fuel cs x h=>by
  obtain ⟨b,h1,h2⟩:=trod_bool (by kernel_rfl) h
  exact ⟨_,h1,b,rfl,h2⟩) hd2
 intro i hi
 obtain ⟨v,d,e1,e2,n,rfl,rfl⟩:=c2 i hi
 rw [add_blk,Nat.zero_add,World.var?_cell hg2 hv2 i]
 rw [show cs2[i]?=some (.bool n) by simpa using e1]
 have:∀ j:Nat,j < 13→([DataW.lit (.bool false),.lit (.bool false),.lit (.bool false),.lit (.bool true),.lit (.bool true),.lit (.bool true),.lit (.bool false),.lit (.bool false),.lit (.bool false),.lit (.bool false),.lit (.bool false),.lit (.bool true),.lit (.bool true)]:List (DataW Unit))[j]?=some (.lit (.bool (faultT j))):=fun j hj=>by
  rcases (by omega:j=0∨j=1∨j=2∨j=3∨j=4∨j=5∨j=6∨j=7∨j=8∨j=9∨j=10∨j=11∨j=12) with rfl | rfl | rfl | rfl | rfl | rfl | rfl | rfl | rfl | rfl | rfl | rfl | rfl <;> rfl
 have h3:=e2.symm.trans (this i hi)
 injection h3 with h3
 injection h3 with h3
 injection h3 with h3
 rw [h3]
theorem glz {W:World} (h:laidMetH Tryz.prog laidZ W):Tab W∧GlF W:=⟨glz_tab h,glz_f h⟩
section
variable {H:Type}
abbrev KTp {H:Type}:Rdr H:=KAgg [(1,KInt .u32),(1,KInt .u32),(1,KInt .u8),(1,KInt .u16),(1,KInt .u16)]
theorem opn_tp:Opn (H:=H) Tryz.prog 39 KTp:=opn_struct (tot:=5) Tryz.underlying39 (by kernel_rfl)
 (opnF_cons rfl (by kernel_rfl) (by decide) (opn_int (by kernel_rfl)) (opnF_cons rfl (by kernel_rfl) (by decide) (opn_int (by kernel_rfl)) (opnF_cons rfl (by kernel_rfl) (by decide) (opn_int (by kernel_rfl)) (opnF_cons rfl (by kernel_rfl) (by decide) (opn_int (by kernel_rfl))
 (opnF_cons rfl (by kernel_rfl) (by decide) (opn_int (by kernel_rfl)) opnF_nil)))))
theorem tp_of {w:World} {cs:List Value} {d:DataW H} (h:KTp w cs d):∃ t:Tp,cs=tpv t∧t.Fine:=by
 obtain ⟨ds,rfl,h⟩:=h
 obtain ⟨_,_,_,_,rfl,rfl,_,⟨a0,rfl,_,f0⟩,_,_,_,_,rfl,rfl,_,⟨a1,rfl,_,f1⟩,_,_,_,_,rfl,rfl,_,⟨a2,rfl,_,f2⟩,_,_,_,_,rfl,rfl,_,⟨a3,rfl,_,f3⟩,_,_,_,_,rfl,rfl,_,⟨a4,rfl,_,f4⟩,rfl,_⟩:=h
 exact ⟨⟨a0,a1,a2,a3,a4⟩,rfl,⟨wf_u32 f0,wf_u32 f1,wf_u8 f2,wf_u16 f3,wf_u16 f4⟩⟩
abbrev KBk {H:Type}:Rdr H:=KAgg [(1,KInt .u32),(1,KInt .u16)]
theorem opn_back:Opn (H:=H) Tryz.prog 65 KBk:=opn_struct (tot:=2) Tryz.underlying65 (by kernel_rfl)
 (opnF_cons rfl (by kernel_rfl) (by decide) (opn_int (by kernel_rfl)) (opnF_cons rfl (by kernel_rfl) (by decide) (opn_int (by kernel_rfl)) opnF_nil))
theorem back_of {w:World} {cs:List Value} {d:DataW H} (h:KBk w cs d):∃ x:Int×Int,cs=bkd x∧((0≤x.1∧x.1≤4294967295)∧(0≤x.2∧x.2≤65535)):=by
 obtain ⟨ds,rfl,h⟩:=h
 obtain ⟨_,_,_,_,rfl,rfl,_,⟨a0,rfl,_,f0⟩,_,_,_,_,rfl,rfl,_,⟨a1,rfl,_,f1⟩,rfl,_⟩:=h
 exact ⟨(a0,a1),rfl,wf_u32 f0,wf_u16 f1⟩
theorem opn_backs:Opn (H:=H) Tryz.prog 40 (KSl 2 8 KBk):=opn_slice Tryz.underlying40 (by kernel_rfl) (by kernel_rfl) opn_back
theorem bulk_three:∀ (D:List (DataW H)),(∀ x∈D,3≤Rows.uptoBulk x)→3 * D.length≤Rows.uptoBulkAll D
 | [],_=>by simp
 | d::r,h=>by
  have h1:=h d List.mem_cons_self
  have h2:=bulk_three r fun x hx=>h x (List.mem_cons_of_mem _ hx)
  simp only [Rows.uptoBulkAll,List.length_cons]
  omega
theorem two_back {w:World} {cs:List Value} {d:DataW H} (h:KBk w cs d):3≤Rows.uptoBulk d:=by
 obtain ⟨ds,rfl,h⟩:=h
 obtain ⟨_,_,d1,_,rfl,rfl,_,_,_,_,d2,_,rfl,rfl,_,_,_,_⟩:=h
 have h1:=bulk_pos d1
 have h2:=bulk_pos d2
 simp only [Rows.uptoBulk,Rows.uptoBulkAll]
 omega
theorem backs_ofZ {w:World} {A:Option Addr} {n c:Nat} {d:DataW H} (h:KSl 2 8 KBk w [.slice A n c] d) (hb:Rows.uptoBulk d≤1048576):∃ l,Bks w A n l∧FineB l∧n≤500000:=by
 rcases h with ⟨e,rfl⟩ | ⟨a,len,cap,D,rest,e,rfl,hl,hD,hB,hel⟩
 ·
  obtain ⟨rfl,rfl,rfl⟩:=slice_one e
  exact ⟨[],⟨rfl,fun h=>by omega⟩,(fun x hx=>by cases hx),Nat.zero_le _⟩
 ·
  obtain ⟨rfl,rfl,rfl⟩:=slice_one e
  have hf:∀ i,∃ x:Int×Int,i < n→At w (a.add (i * 2)) (bkd x)∧((0≤x.1∧x.1≤4294967295)∧(0≤x.2∧x.2≤65535)):=fun i=>by
   by_cases hi:i < n
   ·
    obtain ⟨cs',x,hx0,hat,hx⟩:=hel i hi
    obtain ⟨y,rfl,hy⟩:=back_of hx
    exact ⟨y,fun _=>⟨hat,hy⟩⟩
   ·
    exact ⟨(0,0),fun h=>absurd h hi⟩
  have h2:∀ x∈D,3≤Rows.uptoBulk x:=fun x hx=>by
   obtain ⟨i,hi⟩:=List.mem_iff_getElem?.1 hx
   have hin:i < n:=by
    have:=(List.getElem?_eq_some_iff.1 hi).1
    omega
   obtain ⟨cs',y,hy,_,hk⟩:=hel i hin
   rw [hy] at hi
   obtain rfl:=Option.some.inj hi
   exact two_back hk
  have h3:=bulk_three D h2
  simp only [Rows.uptoBulk] at hb
  refine ⟨(List.range n).map fun i=>Classical.choose (hf i),⟨by simp,fun _=>⟨a,rfl,fun i hi=>?_⟩⟩,fun x hx=>?_,by omega⟩
  ·
   have e:((List.range n).map fun i=>Classical.choose (hf i)).getD i (0,0)=Classical.choose (hf i):=by
    rw [List.getD_eq_getElem?_getD,List.getElem?_map,List.getElem?_range hi]
    rfl
   rw [e]
   exact (Classical.choose_spec (hf i) hi).1
  ·
   obtain ⟨i,hi,rfl⟩:=List.mem_map.1 hx
   exact (Classical.choose_spec (hf i) (List.mem_range.1 hi)).2
abbrev KNOp {H:Type}:Rdr H:=KAgg [(1,KInt .i64),(1,KBool),(11,KPkt),(5,KTp),(1,KInt .u32),(1,KInt .u32),(1,KSl 2 8 KBk),(1,KInt .u8),(1,KInt .u16)]
theorem opn_nop:Opn (H:=H) Tryz.prog 42 KNOp:=opn_struct (tot:=23) Tryz.underlying42 (by kernel_rfl)
 (opnF_cons rfl (by kernel_rfl) (by decide) (opn_int (by kernel_rfl)) (opnF_cons rfl (by kernel_rfl) (by decide) (opn_bool (by kernel_rfl)) (opnF_cons rfl (by kernel_rfl) (by decide) opn_pkt (opnF_cons rfl (by kernel_rfl) (by decide) opn_tp
 (opnF_cons rfl (by kernel_rfl) (by decide) (opn_int (by kernel_rfl)) (opnF_cons rfl (by kernel_rfl) (by decide) (opn_int (by kernel_rfl)) (opnF_cons rfl (by kernel_rfl) (by decide) opn_backs (opnF_cons rfl (by kernel_rfl) (by decide) (opn_int (by kernel_rfl))
 (opnF_cons rfl (by kernel_rfl) (by decide) (opn_int (by kernel_rfl)) opnF_nil)))))))))
theorem sl_shape {w:World} {cs:List Value} {d:DataW H} (h:KSl 2 8 KBk w cs d):∃ A n c,cs=[.slice A n c]:=by
 rcases h with ⟨rfl,_⟩ | ⟨a,len,cap,D,rest,rfl,_⟩
 ·
  exact ⟨_,_,_,rfl⟩
 ·
  exact ⟨_,_,_,rfl⟩
theorem nop_of {w:World} {cs:List Value} {d:DataW H} (h:KNOp w cs d) (hb:Rows.uptoBulk d≤1048576):∃ (o:NOp) (l:List (Int×Int)),cs=nov o∧OpF w o l:=by
 obtain ⟨ds,rfl,h⟩:=h
 obtain ⟨_,_,_,_,rfl,rfl,_,⟨k,rfl,_,fk⟩,_,_,_,_,rfl,rfl,_,⟨on,rfl,_⟩,_,_,_,_,rfl,rfl,_,hp,_,_,_,_,rfl,rfl,_,ht,_,_,_,_,rfl,rfl,_,⟨s,rfl,_,fs⟩,_,_,_,_,rfl,rfl,_,⟨e,rfl,_,fe⟩,
  _,_,_,_,rfl,rfl,_,hl,_,_,_,_,rfl,rfl,_,⟨pr,rfl,_,fp⟩,_,_,_,_,rfl,rfl,_,⟨pt,rfl,_,ft⟩,rfl,_⟩:=h
 simp only [Rows.uptoBulk,Rows.uptoBulkAll] at hb
 obtain ⟨p,A,n,c,B,m,d,rfl,hF,hA,ho,hbo⟩:=pkt_of hp
 obtain ⟨t,rfl,hT⟩:=tp_of ht
 obtain ⟨L,ln,lc,rfl⟩:=sl_shape hl
 obtain ⟨l,h1,h2,h3⟩:=backs_ofZ hl (by omega)
 have hpt:=wf_u16 ft
 obtain ⟨pt,rfl⟩:=Int.eq_ofNat_of_zero_le hpt.1
 have hn:=hA.opts.len
 have hm:=hA.body.len
 exact ⟨⟨k,on,p,A,n,c,B,m,d,t,s,e,L,ln,lc,pr,pt⟩,l,rfl,hF,hA,hT,h1,h2,(by show pt≤65535; omega),(by show n≤2000000; omega),(by show m≤2000000; omega),h3⟩
theorem two_nop {w:World} {cs:List Value} {d:DataW H} (h:KNOp w cs d):3≤Rows.uptoBulk d:=by
 obtain ⟨ds,rfl,h⟩:=h
 obtain ⟨_,_,d1,_,rfl,rfl,_,_,_,_,d2,_,rfl,rfl,_,_,_⟩:=h
 have h1:=bulk_pos d1
 have h2:=bulk_pos d2
 simp only [Rows.uptoBulk,Rows.uptoBulkAll]
 omega
theorem opn_nops:Opn (H:=H) Tryz.prog 23 (KSl 23 152 KNOp):=opn_slice Tryz.underlying23 (by kernel_rfl) (by kernel_rfl) opn_nop
theorem nops_ofB {w:World} {A:Option Addr} {n c:Nat} {d:DataW H} (h:KSl 23 152 KNOp w [.slice A n c] d) (hb:Rows.uptoBulk d≤1048576):NScrF w A n∧n≤900000:=by
 rcases h with ⟨e,rfl⟩ | ⟨a,len,cap,D,rest,e,rfl,hl,hD,hB,hel⟩
 ·
  obtain ⟨rfl,rfl,rfl⟩:=slice_one e
  exact ⟨fun h=>by omega,by omega⟩
 ·
  obtain ⟨rfl,rfl,rfl⟩:=slice_one e
  have h2:∀ x∈D,3≤Rows.uptoBulk x:=fun x hx=>by
   obtain ⟨i,hi⟩:=List.mem_iff_getElem?.1 hx
   have hin:i < n:=by
    have:=(List.getElem?_eq_some_iff.1 hi).1
    omega
   obtain ⟨cs',y,hy,_,hk⟩:=hel i hin
   rw [hy] at hi
   obtain rfl:=Option.some.inj hi
   exact two_nop hk
  have h3:=bulk_three D h2
  simp only [Rows.uptoBulk] at hb
  refine ⟨fun _=>⟨a,rfl,fun i hi=>?_⟩,by omega⟩
  obtain ⟨cs',x,hx0,hat,hx⟩:=hel i hi
  have h4:=bulk_mem hx0
  obtain ⟨o,l,rfl,hf⟩:=nop_of hx (by omega)
  exact ⟨o,l,hat,hf⟩
end
end Go.Proofs.YtphbdmafchjjeaaGreatDoorS
