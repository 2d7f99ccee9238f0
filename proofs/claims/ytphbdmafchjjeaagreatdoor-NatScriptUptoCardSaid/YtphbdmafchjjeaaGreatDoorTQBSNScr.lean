import Derived.Test.YtphbdmafchjjeaaGreatDoorTQBSDocKM
import Derived.Test.YtphbdmafchjjeaaGreatDoorCards
import Derived.Test.YtphbdmafchjjeaaGreatDoorTie
import Derived.WalkKit
import Derived.ProofKit
import Derived.OpenShut
import Derived.ShutString
import Derived.ChangeOld
import Derived.Below
import Derived.SizedLaws
import Derived.JoinedCond
import Derived.Deep.CondSized
namespace Go.Proofs.YtphbdmafchjjeaaGreatDoorS
open Go Go.RowKit Go.Proofs Go.Proofs.YtphbdmafchjjeaaGreatDoorX Go.Proofs.YtphbdmafchjjeaaGreatDoor
open Go.ChangeShapes Go.WideShapes Go.ChangeAt
set_option linter.unusedVariables false
set_option maxRecDepth 100000 in
set_option maxHeartbeats 2000000 in
theorem natScript_lifted (os:Os) (started:os.Started) (H:Type) (enc:TypeId×Value→H) (F:Stop.Interp):
  ReturnsInHanded {} Tryz.checked os 4 .any (fun w args=>((Rows.OpenSpec.upto Rows.natScriptSpec).pre enc Tryz.prog Tryz.f4 [] false w args∧laidMetH Tryz.prog laidZ w)∧sizedMet enc Tryz.prog Tryz.f4 (Rows.OpenSpec.upto Rows.natScriptSpec) false w args) (((Rows.OpenSpec.upto Rows.natScriptSpec).at F).post enc Tryz.prog Tryz.f4 false true false false):=by
 refine cond_and (C:=Tryz.checked) (s:=(Rows.OpenSpec.upto Rows.natScriptSpec)) (k:=Rows.uptoSmall) (X:=fun w=>laidMetH Tryz.prog laidZ w) rfl (fun _ _ hh h=>h.of_heap hh) own_ started (by kernel_rfl) Tryz.func4
  (cond_wit (enc:=enc) (C:=Tryz.checked) (os:=os) (s:=(Rows.OpenSpec.upto Rows.natScriptSpec)) (k:=Rows.uptoSmall) (X:=fun w=>laidMetH Tryz.prog laidZ w) rfl (World.doorLaid Tryz.prog 400 os) #[.int .u16 0,.int .u16 0,.slice none 0 0,.slice none 0 0] 8 rfl (World.shaped_of_RefB (by kernel_rfl) (by kernel_rfl)) (by kernel_rfl) (x:=([.lit (.int .u16 0),.lit (.int .u16 0),.nil,.nil],[],[])) (by kernel_rfl) rfl (by kernel_rfl) (by kernel_rfl)
   (laidMetH_of_parts3 (fuel:=8) (laidMet_of_run' 8 (by kernel_rfl) (by kernel_rfl)) (by kernel_rfl) (by kernel_rfl))) ?_
 intro W base args ds gs before hval0 hW hcnd hk0 hsz0 hL _
 have hsz:(DataW.weightsEach Tryz.prog (Tryz.f4.params.toList++(Rows.OpenSpec.upto Rows.natScriptSpec).bare.plain.varTypes Tryz.prog) (ds++gs)).all (·≤reachBytes)=true:=hsz0
 have hval:∀ (j:Nat) t v,Tryz.f4.params[j]?=some t→args[j]?=some v→Value.okWide Tryz.prog W .any base t v:=hval0
 have hW':=hW
 obtain ⟨p,q,hA0,hV,rfl,hfz,hnd⟩:=hW
 have hA:DataW.TrodAll enc Tryz.prog W 0 (fun _=>true) true Tryz.f4.params.toList args.toList ds p:=hA0
 rw [Tryz.params4] at hA hval hsz
 obtain ⟨v0,vs0,d0,ds0,p0,q0,hargs,rfl,rfl,h0,r0⟩:=trodAll_cons hA
 obtain ⟨v1,vs1,d1,ds1,p1,q1,rfl,rfl,rfl,h1,r1⟩:=trodAll_cons r0
 obtain ⟨v2,vs2,d2,ds2,p2,q2,rfl,rfl,rfl,h2,r2⟩:=trodAll_cons r1
 obtain ⟨v3,vs3,d3,ds3,p3,q3,rfl,rfl,rfl,h3,r3⟩:=trodAll_cons r2
 obtain ⟨rfl,rfl,rfl⟩:=trodAll_nil r3
 obtain rfl:args=#[v0,v1,v2,v3]:=by cases args; simp_all
 obtain ⟨rfl,rfl⟩:=trodVars_none hV
 have hbulk:Rows.uptoBulkAll ([d0,d1,d2,d3]++[])≤1048576:=of_decide_eq_true hk0
 simp only [List.append_nil,Rows.uptoBulkAll] at hbulk
 obtain ⟨x0,rfl,rfl,rfl,hG0⟩:=open_int (k:=.u16) (by kernel_rfl) (hval 0 22 v0 rfl rfl) h0
 obtain ⟨x1,rfl,rfl,rfl,hG1⟩:=open_int (k:=.u16) (by kernel_rfl) (hval 1 22 v1 rfl rfl) h1
 have k2:=h2
 have lt2:∀ x∈p2,x.block < W.heap.size:=by obtain ⟨m,hm⟩:=k2; exact DataW.trod_lt m _ _ _ hm
 obtain ⟨A2,n2,c2,rfl⟩:=okWide_slice Tryz.underlying23 (hval 2 23 v2 rfl rfl)
 have hS2:=nops_ofB (opn_arg opn_nops h2 hsz (j:=2) (t:=23) rfl rfl) (by omega)
 have k3:=h3
 have lt3:∀ x∈p3,x.block < W.heap.size:=by obtain ⟨m,hm⟩:=k3; exact DataW.trod_lt m _ _ _ hm
 obtain ⟨A3,n3,c3,rfl⟩:=okWide_slice Tryz.underlying45 (hval 3 45 v3 rfl rfl)
 have hS3:=ints_ofB (opn_arg opn_ints h3 hsz (j:=3) (t:=45) rfl rfl) (by omega)
 clear hA0 hval0 hsz0 hsz
 refine (NatScript_t (glz hL) (wf_u16 hG0) (wf_u16 hG1) hS2 hS3).mono fun e W' hE=>?_
 obtain ⟨rfl,bel⟩:=hE
 exact ⟨_,rfl,_,_,_,[],_,[],hW',trodAll_mk1 (shut_bool Tryz.underlying4 _),(trodAll_cons_mk (shut_int (k:=.u16) (by kernel_rfl) hG0) (trodAll_cons_mk (shut_int (k:=.u16) (by kernel_rfl) hG1) (trodAll_cons_mk (Below.trod laidOut_ (by kernel_rfl) (of_decide_eq_true (by kernel_rfl)) k2 bel lt2) (trodAll_cons_mk (Below.trod laidOut_ (by kernel_rfl) (of_decide_eq_true (by kernel_rfl)) k3 bel lt3) trodAll_mk0)))),rfl,bel.frame _,fun h=>by cases h⟩
set_option maxRecDepth 100000 in
theorem natScript_said:Rows.NatScriptUptoSaid:=
 OpenClaim.holds_of_cond 4 Tryz.f4 rfl rfl rfl rfl rfl rfl rfl ⟨rfl,rfl,rfl,rfl,rfl⟩ rfl rfl rfl rfl rfl (by kernel_rfl) Tryz.func4 (by kernel_rfl)
  (of_decide_eq_true (by kernel_rfl)) (by unfold Func.isWrapper; first | (rw [if_pos (by decide +kernel)]; kernel_rfl) | (rw [if_neg (by decide +kernel)]; exact ⟨rfl,rfl⟩))
  (fun os started H enc _ F=>natScript_lifted os started H enc F)
end Go.Proofs.YtphbdmafchjjeaaGreatDoorS
namespace Go.Proofs.YtphbdmafchjjeaaGreatDoor
open Go Go.RowKit Go.Proofs Go.Proofs.YtphbdmafchjjeaaGreatDoorS
set_option maxRecDepth 100000 in
theorem natScriptCard_holds:Rows.NatScriptUptoCardSaid:=
 Claim7.holds_tied_plain_at .later [] [.data, .data] true (true, "982723fd182a43b2479d1bccacc912410729afe83d6cc75fa898336cf5eafb67") false
  natScript_said (fun _ h=>by cases h) (by kernel_rfl) (fun _ h=>by cases h) natScriptUpto_row_tie rfl ⟨rfl,rfl⟩ (by kernel_rfl) rfl
  (fun f fn hf hfn=>by
   obtain rfl : f = 4 := Option.some.inj ((show Tryz.prog.funcNamed "weft/weftlaw23.NatScript" = some 4 by kernel_rfl).symm.trans hf) |>.symm
   obtain rfl:fn=Tryz.f4:=(Option.some.inj (Tryz.func4.symm.trans hfn)).symm
   exact ⟨by kernel_rfl,fun j t ht=>by
    rw [Tryz.params4] at ht
    have hm:t∈[22,22,23,45]:=by simpa using Array.mem_of_getElem? ht
    have hall:([22,22,23,45].all fun u=>!Tryz.prog.wantsStandIn u)=true:=by kernel_rfl
    exact (show Tryz.prog.wantsStandIn t=false by simpa using List.all_eq_true.1 hall t hm)⟩)
  (by kernel_rfl)
end Go.Proofs.YtphbdmafchjjeaaGreatDoor
