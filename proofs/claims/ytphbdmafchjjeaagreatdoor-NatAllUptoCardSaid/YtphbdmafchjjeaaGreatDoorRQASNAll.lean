import Derived.Test.YtphbdmafchjjeaaGreatDoorRQASRowZ
import Derived.Test.YtphbdmafchjjeaaGreatDoorCards
import Derived.Test.YtphbdmafchjjeaaGreatDoorTie
import Derived.WalkKit
import Derived.ProofKit
import Derived.OpenShut
import Derived.ShutString
import Derived.ChangeOld
import Derived.Below
import Derived.SizedLaws
import Derived.JoinedCond
import Derived.Deep.CondSized
namespace Go.Proofs.YtphbdmafchjjeaaGreatDoorS
open Go Go.RowKit Go.Proofs Go.Proofs.YtphbdmafchjjeaaGreatDoorX Go.Proofs.YtphbdmafchjjeaaGreatDoor
open Go.ChangeShapes Go.WideShapes Go.ChangeAt
set_option linter.unusedVariables false
set_option maxRecDepth 100000 in
set_option maxHeartbeats 2000000 in
theorem natAll_lifted (os:Os) (started:os.Started) (H:Type) (enc:TypeId×Value→H) (F:Stop.Interp):
  ReturnsInHanded {} Tryz.checked os 3 .any (fun w args=>((Rows.OpenSpec.upto Rows.natAllSpec).pre enc Tryz.prog Tryz.f3 [] false w args∧laidMetH Tryz.prog laidZ w)∧sizedMet enc Tryz.prog Tryz.f3 (Rows.OpenSpec.upto Rows.natAllSpec) false w args) (((Rows.OpenSpec.upto Rows.natAllSpec).at F).post enc Tryz.prog Tryz.f3 false true false false):=by
 refine cond_and (C:=Tryz.checked) (s:=(Rows.OpenSpec.upto Rows.natAllSpec)) (k:=Rows.uptoSmall) (X:=fun w=>laidMetH Tryz.prog laidZ w) rfl (fun _ _ hh h=>h.of_heap hh) own_ started (by kernel_rfl) Tryz.func3
  (cond_wit (enc:=enc) (C:=Tryz.checked) (os:=os) (s:=(Rows.OpenSpec.upto Rows.natAllSpec)) (k:=Rows.uptoSmall) (X:=fun w=>laidMetH Tryz.prog laidZ w) rfl (World.doorLaid Tryz.prog 400 os) #[.int .u16 0,.int .u16 0,.int .u16 0,.int .u16 0,.slice none 0 0] 8 rfl (World.shaped_of_RefB (by kernel_rfl) (by kernel_rfl)) (by kernel_rfl) (x:=([.lit (.int .u16 0),.lit (.int .u16 0),.lit (.int .u16 0),.lit (.int .u16 0),.nil],[],[])) (by kernel_rfl) rfl (by kernel_rfl) (by kernel_rfl)
   (laidMetH_of_parts3 (fuel:=8) (laidMet_of_run' 8 (by kernel_rfl) (by kernel_rfl)) (by kernel_rfl) (by kernel_rfl))) ?_
 intro W base args ds gs before hval0 hW hcnd hk0 hsz0 hL _
 have hsz:(DataW.weightsEach Tryz.prog (Tryz.f3.params.toList++(Rows.OpenSpec.upto Rows.natAllSpec).bare.plain.varTypes Tryz.prog) (ds++gs)).all (·≤reachBytes)=true:=hsz0
 have hval:∀ (j:Nat) t v,Tryz.f3.params[j]?=some t→args[j]?=some v→Value.okWide Tryz.prog W .any base t v:=hval0
 have hW':=hW
 obtain ⟨p,q,hA0,hV,rfl,hfz,hnd⟩:=hW
 have hA:DataW.TrodAll enc Tryz.prog W 0 (fun _=>true) true Tryz.f3.params.toList args.toList ds p:=hA0
 rw [Tryz.params3] at hA hval hsz
 obtain ⟨v0,vs0,d0,ds0,p0,q0,hargs,rfl,rfl,h0,r0⟩:=trodAll_cons hA
 obtain ⟨v1,vs1,d1,ds1,p1,q1,rfl,rfl,rfl,h1,r1⟩:=trodAll_cons r0
 obtain ⟨v2,vs2,d2,ds2,p2,q2,rfl,rfl,rfl,h2,r2⟩:=trodAll_cons r1
 obtain ⟨v3,vs3,d3,ds3,p3,q3,rfl,rfl,rfl,h3,r3⟩:=trodAll_cons r2
 obtain ⟨v4,vs4,d4,ds4,p4,q4,rfl,rfl,rfl,h4,r4⟩:=trodAll_cons r3
 obtain ⟨rfl,rfl,rfl⟩:=trodAll_nil r4
 obtain rfl:args=#[v0,v1,v2,v3,v4]:=by cases args; simp_all
 obtain ⟨rfl,rfl⟩:=trodVars_none hV
 have hbulk:Rows.uptoBulkAll ([d0,d1,d2,d3,d4]++[])≤1048576:=of_decide_eq_true hk0
 simp only [List.append_nil,Rows.uptoBulkAll] at hbulk
 obtain ⟨x0,rfl,rfl,rfl,hG0⟩:=open_int (k:=.u16) (by kernel_rfl) (hval 0 22 v0 rfl rfl) h0
 obtain ⟨x1,rfl,rfl,rfl,hG1⟩:=open_int (k:=.u16) (by kernel_rfl) (hval 1 22 v1 rfl rfl) h1
 obtain ⟨x2,rfl,rfl,rfl,hG2⟩:=open_int (k:=.u16) (by kernel_rfl) (hval 2 22 v2 rfl rfl) h2
 obtain ⟨x3,rfl,rfl,rfl,hG3⟩:=open_int (k:=.u16) (by kernel_rfl) (hval 3 22 v3 rfl rfl) h3
 have k4:=h4
 have lt4:∀ x∈p4,x.block < W.heap.size:=by obtain ⟨m,hm⟩:=k4; exact DataW.trod_lt m _ _ _ hm
 obtain ⟨A4,n4,c4,rfl⟩:=okWide_slice Tryz.underlying23 (hval 4 23 v4 rfl rfl)
 have hS4:=nops_ofB (opn_arg opn_nops h4 hsz (j:=4) (t:=23) rfl rfl) (by omega)
 clear hA0 hval0 hsz0 hsz
 refine (NatAll_t (glz hL) (wf_u16 hG0) (wf_u16 hG1) (wf_u16 hG2) (wf_u16 hG3) hS4).mono fun e W' hE=>?_
 obtain ⟨rfl,bel⟩:=hE
 exact ⟨_,rfl,_,_,_,[],_,[],hW',trodAll_mk1 (shut_bool Tryz.underlying4 _),(trodAll_cons_mk (shut_int (k:=.u16) (by kernel_rfl) hG0) (trodAll_cons_mk (shut_int (k:=.u16) (by kernel_rfl) hG1) (trodAll_cons_mk (shut_int (k:=.u16) (by kernel_rfl) hG2) (trodAll_cons_mk (shut_int (k:=.u16) (by kernel_rfl) hG3) (trodAll_cons_mk (Below.trod laidOut_ (by kernel_rfl) (of_decide_eq_true (by kernel_rfl)) k4 bel lt4) trodAll_mk0))))),rfl,bel.frame _,fun h=>by cases h⟩
set_option maxRecDepth 100000 in
theorem natAll_said:Rows.NatAllUptoSaid:=
 OpenClaim.holds_of_cond 3 Tryz.f3 rfl rfl rfl rfl rfl rfl rfl ⟨rfl,rfl,rfl,rfl,rfl⟩ rfl rfl rfl rfl rfl (by kernel_rfl) Tryz.func3 (by kernel_rfl)
  (of_decide_eq_true (by kernel_rfl)) (by unfold Func.isWrapper; first | (rw [if_pos (by decide +kernel)]; kernel_rfl) | (rw [if_neg (by decide +kernel)]; exact ⟨rfl,rfl⟩))
  (fun os started H enc _ F=>natAll_lifted os started H enc F)
end Go.Proofs.YtphbdmafchjjeaaGreatDoorS
namespace Go.Proofs.YtphbdmafchjjeaaGreatDoor
open Go Go.RowKit Go.Proofs Go.Proofs.YtphbdmafchjjeaaGreatDoorS
set_option maxRecDepth 100000 in
theorem natAllCard_holds:Rows.NatAllUptoCardSaid:=
 Claim7.holds_tied_plain_at .later [] [.data, .data] true (true, "982723fd182a43b2479d1bccacc912410729afe83d6cc75fa898336cf5eafb67") false
  natAll_said (fun _ h=>by cases h) (by kernel_rfl) (fun _ h=>by cases h) natAllUpto_row_tie rfl ⟨rfl,rfl⟩ (by kernel_rfl) rfl
  (fun f fn hf hfn=>by
   obtain rfl : f = 3 := Option.some.inj ((show Tryz.prog.funcNamed "weft/weftlaw23.NatAll" = some 3 by kernel_rfl).symm.trans hf) |>.symm
   obtain rfl:fn=Tryz.f3:=(Option.some.inj (Tryz.func3.symm.trans hfn)).symm
   exact ⟨by kernel_rfl,fun j t ht=>by
    rw [Tryz.params3] at ht
    have hm:t∈[22,22,22,22,23]:=by simpa using Array.mem_of_getElem? ht
    have hall:([22,22,22,22,23].all fun u=>!Tryz.prog.wantsStandIn u)=true:=by kernel_rfl
    exact (show Tryz.prog.wantsStandIn t=false by simpa using List.all_eq_true.1 hall t hm)⟩)
  (by kernel_rfl)
end Go.Proofs.YtphbdmafchjjeaaGreatDoor
