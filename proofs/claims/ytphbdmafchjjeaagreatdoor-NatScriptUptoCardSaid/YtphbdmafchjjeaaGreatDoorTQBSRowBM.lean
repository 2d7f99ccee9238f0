import Derived.Test.YtphbdmafchjjeaaGreatDoorTQBSRow
import Derived.Test.YtphbdmafchjjeaaGreatDoorTQBSIp4BM
import Derived.Test.YtphbdmafchjjeaaGreatDoorRows
import Derived.ProofKit
import Derived.Test.YtphbdmafchjjeaaGreatDoorTQBSLib
namespace Go.Proofs.YtphbdmafchjjeaaGreatDoorS
open Go Go.RowKit Go.Proofs Go.Proofs.YtphbdmafchjjeaaGreatDoorX Go.Proofs.YtphbdmafchjjeaaGreatDoor
set_option maxRecDepth 100000
set_option linter.unusedVariables false
set_option linter.unusedSectionVars false
set_option linter.unusedSimpArgs false
theorem own_:ownKnob Tryz.prog.godebug=none:=by kernel_rfl
theorem laidOut_:laidOutB Tryz.prog=true:=by kernel_rfl
section
variable {H:Type}
theorem bulk_pos (d:DataW H):1≤Rows.uptoBulk d:=by
 cases d with
 | lit l=>cases l <;> simp [Rows.uptoBulk]
 | _=>simp [Rows.uptoBulk]
theorem bulk_mem:∀ {D:List (DataW H)} {i:Nat} {x:DataW H},D[i]?=some x→Rows.uptoBulk x≤Rows.uptoBulkAll D
 | [],i,x,h=>by simp at h
 | d::r,0,x,h=>by
  simp only [List.getElem?_cons_zero,Option.some.injEq] at h
  subst h
  simp only [Rows.uptoBulkAll]
  omega
 | d::r,i+1,x,h=>by
  simp only [List.getElem?_cons_succ] at h
  have:=bulk_mem h
  simp only [Rows.uptoBulkAll]
  omega
theorem bulk_len:∀ (D:List (DataW H)),D.length≤Rows.uptoBulkAll D
 | []=>by simp
 | d::r=>by
  have h1:=bulk_pos d
  have h2:=bulk_len r
  simp only [Rows.uptoBulkAll,List.length_cons]
  omega
abbrev KBytes {H:Type}:Rdr H:=KSl 1 1 (KInt .u8)
theorem opn_bytes:Opn (H:=H) Tryz.prog 33 KBytes:=opn_slice Tryz.underlying33 (by kernel_rfl) (by kernel_rfl) (opn_int (by kernel_rfl))
theorem bytes_bulk {w:World} {cs:List Value} {d:DataW H} (h:KBytes w cs d):∃ A n c l,cs=[.slice A n c]∧By w A n l∧Bytes l∧n≤c∧l.length≤140737488351232∧l.length≤Rows.uptoBulk d:=by
 have hb:∀ {A:Option Addr} {n c:Nat},cs=[.slice A n c]→n≤Rows.uptoBulk d:=by
  intro A n c e
  rcases h with ⟨e2,rfl⟩ | ⟨a,len,cap,D,rest,e2,rfl,hl,hD,hB,hel⟩
  ·
   rw [e2] at e
   injection e with e _
   injection e with _ e _
   omega
  ·
   rw [e2] at e
   injection e with e _
   injection e with _ e _
   have:=bulk_len D
   simp only [Rows.uptoBulk]
   omega
 obtain ⟨A,n,c,l,e,h1,h2,h3,h4⟩:=bytes_of h
 exact ⟨A,n,c,l,e,h1,h2,h3,h4,by rw [h1.len]; exact hb e⟩
theorem slice_one {A B:Option Addr} {n c m d:Nat} (h:[Value.slice A n c]=[Value.slice B m d]):A=B∧n=m∧c=d:=by
 injection h with h _
 injection h with h1 h2 h3
 exact ⟨h1,h2,h3⟩
abbrev KHead {H:Type}:Rdr H:=KAgg [(1,KInt .u8),(1,KInt .u16),(1,KBool),(1,KBool),(1,KInt .i64),(1,KInt .u8),(1,KInt .u8),(1,KInt .u32),(1,KInt .u32),(1,KBytes)]
abbrev KPkt {H:Type}:Rdr H:=KAgg [(10,KHead),(1,KBytes)]
theorem opn_head:Opn (H:=H) Tryz.prog 35 KHead:=opn_struct (tot:=10) Tryz.underlying35 (by kernel_rfl)
 (opnF_cons rfl (by kernel_rfl) (by decide) (opn_int (by kernel_rfl)) (opnF_cons rfl (by kernel_rfl) (by decide) (opn_int (by kernel_rfl)) (opnF_cons rfl (by kernel_rfl) (by decide) (opn_bool (by kernel_rfl)) (opnF_cons rfl (by kernel_rfl) (by decide) (opn_bool (by kernel_rfl))
 (opnF_cons rfl (by kernel_rfl) (by decide) (opn_int (by kernel_rfl)) (opnF_cons rfl (by kernel_rfl) (by decide) (opn_int (by kernel_rfl)) (opnF_cons rfl (by kernel_rfl) (by decide) (opn_int (by kernel_rfl)) (opnF_cons rfl (by kernel_rfl) (by decide) (opn_int (by kernel_rfl))
 (opnF_cons rfl (by kernel_rfl) (by decide) (opn_int (by kernel_rfl)) (opnF_cons rfl (by kernel_rfl) (by decide) opn_bytes opnF_nil))))))))))
theorem opn_pkt:Opn (H:=H) Tryz.prog 37 KPkt:=opn_struct (tot:=11) Tryz.underlying37 (by kernel_rfl) (opnF_cons rfl (by kernel_rfl) (by decide) opn_head (opnF_cons rfl (by kernel_rfl) (by decide) opn_bytes opnF_nil))
theorem head_of {w:World} {cs:List Value} {d:DataW H} (h:KHead w cs d):∃ (p:Pk) (A:Option Addr) (n c:Nat),cs=pv p A n c∧By w A n p.opts∧n≤c∧p.body=[]∧p.Fine∧p.opts.length≤Rows.uptoBulk d:=by
 obtain ⟨ds,rfl,h⟩:=h
 obtain ⟨_,_,_,_,rfl,rfl,_,⟨a0,rfl,_,f0⟩,_,_,_,_,rfl,rfl,_,⟨a1,rfl,_,f1⟩,_,_,_,_,rfl,rfl,_,⟨a2,rfl,_⟩,_,_,_,_,rfl,rfl,_,⟨a3,rfl,_⟩,_,_,_,_,rfl,rfl,_,⟨a4,rfl,_,f4⟩,
  _,_,_,_,rfl,rfl,_,⟨a5,rfl,_,f5⟩,_,_,_,_,rfl,rfl,_,⟨a6,rfl,_,f6⟩,_,_,_,_,rfl,rfl,_,⟨a7,rfl,_,f7⟩,_,_,_,_,rfl,rfl,_,⟨a8,rfl,_,f8⟩,_,_,_,_,rfl,rfl,_,hb,rfl,_⟩:=h
 obtain ⟨A,n,c,l,rfl,h1,h2,h3,h4,h5⟩:=bytes_bulk hb
 refine ⟨⟨a0,a1,a2,a3,a4,a5,a6,a7,a8,l,[]⟩,A,n,c,rfl,h1,h3,rfl,⟨wf_u8 f0,wf_u16 f1,wf_i64 f4,wf_u8 f5,wf_u8 f6,wf_u32 f7,wf_u32 f8,h2,Bytes.nil,h4,by simp⟩,?_⟩
 simp only [Rows.uptoBulk,Rows.uptoBulkAll]
 show l.length≤_
 omega
theorem pkt_of {w:World} {cs:List Value} {d:DataW H} (h:KPkt w cs d):∃ (p:Pk) (A:Option Addr) (n c:Nat) (B:Option Addr) (m e:Nat),cs=pb p A n c B m e∧p.Fine∧PkAt w p A n c B m e∧p.opts.length≤Rows.uptoBulk d∧p.body.length≤Rows.uptoBulk d:=by
 obtain ⟨ds,rfl,_,_,_,_,rfl,rfl,_,hh,_,_,_,_,rfl,rfl,_,hb,rfl,_⟩:=h
 obtain ⟨p,A,n,c,rfl,h1,h2,h3,h4,h5⟩:=head_of hh
 obtain ⟨B,m,e,l,rfl,k1,k2,k3,k4,k5⟩:=bytes_bulk hb
 refine ⟨⟨p.tos,p.id,p.df,p.mf,p.off,p.ttl,p.proto,p.src,p.dst,p.opts,l⟩,A,n,c,B,m,e,rfl,⟨h4.tos,h4.id,h4.off,h4.ttl,h4.proto,h4.src,h4.dst,h4.opts,k2,h4.lo,k4⟩,⟨h1,k1,h2,k3⟩,?_,?_⟩
 ·
  simp only [Rows.uptoBulk,Rows.uptoBulkAll]
  show p.opts.length≤_
  omega
 ·
  simp only [Rows.uptoBulk,Rows.uptoBulkAll]
  show l.length≤_
  omega
theorem opn_ints:Opn (H:=H) Tryz.prog 45 (KSl 1 8 (KInt .i64)):=opn_slice Tryz.underlying45 (by kernel_rfl) (by kernel_rfl) (opn_int (by kernel_rfl))
end
end Go.Proofs.YtphbdmafchjjeaaGreatDoorS
namespace Go.Proofs.YtphbdmafchjjeaaGreatDoorS
open Go Go.RowKit Go.Proofs.YtphbdmafchjjeaaGreatDoorX
set_option linter.unusedVariables false
set_option linter.unusedSimpArgs false
def Buf (w wa:World) (M:List (Nat×TypeId×List Value)) (A:Option Addr) (n c:Nat) (l:List Int):Prop:=
 l.length=n∧((A=none∧c=0∧l=[]∧Own w wa M)∨∃ g pad,A=some ⟨g,0,none⟩∧(c=l.length+pad.length∧c≤9223372036854775807)∧Own w wa ((g,5,bv (l++pad))::M))
section
variable {w wa:World} {M:List (Nat×TypeId×List Value)} {A:Option Addr} {n c:Nat} {l:List Int}
theorem Buf.nil (h:Own w wa M):Buf w wa M none 0 0 []:=⟨rfl,Or.inl ⟨rfl,rfl,rfl,h⟩⟩
theorem Buf.own (h:Buf w wa M A n c l):Own w wa M:=by
 rcases h.2 with ⟨_,_,_,h⟩ | ⟨g,pad,_,_,h⟩
 ·
  exact h
 ·
  exact h.tail
theorem Buf.len (h:Buf w wa M A n c l):l.length=n:=h.1
theorem Buf.le (h:Buf w wa M A n c l):n≤c:=by
 obtain ⟨h1,⟨_,h2,h3,_⟩ | ⟨g,pad,_,h2,_⟩⟩:=h
 ·
  rw [h3] at h1; simp at h1; omega
 ·
  omega
theorem Buf.call {wb:World} (h:Buf w wa M A n c l) (k:Bel wa wb):Buf w wb M A n c l:=by
 refine ⟨h.1,?_⟩
 rcases h.2 with ⟨h1,h2,h3,h4⟩ | ⟨g,pad,h1,h2,h3⟩
 ·
  exact Or.inl ⟨h1,h2,h3,h4.call k⟩
 ·
  exact Or.inr ⟨g,pad,h1,h2,h3.call k⟩
theorem Buf.by (h:Buf w wa M A n c l):By wa A n l:=by
 obtain ⟨h0,⟨h1,h2,h3,h4⟩ | ⟨g,pad,h1,h2,h3⟩⟩:=h
 ·
  subst h3; subst h0; exact By.nil _ _
 ·
  subst h1
  have:=(h3.bk 0 rfl).by.take (k:=n) (by simp; omega)
  rwa [List.take_left' h0] at this
theorem Buf.fre (h:Buf w wa M A n c l):Fre w A:=by
 rcases h.2 with ⟨h1,_,_,_⟩ | ⟨g,pad,h1,_,h3⟩
 ·
  rw [h1]; exact Fre.nil w
 ·
  rw [h1]; exact Fre.mk (h3.ge 0 rfl)
theorem putO_nil (w:World) (A:Option Addr):putO w A []=w:=by cases A <;> rfl
theorem buf_app (h:Buf w wa M A n c l) {B:Option Addr} {m:Nat} {b:List Int} (hb:By wa B m b) (hm:n+m≤100000000000000) {K:Option Addr→Nat→World→Prop}
  (hK:∀ A' c' wb,Buf w wb M A' (n+m) c' (l++b)→K A' c' wb):AppE wa 1 1 5 [.int .u8 0] A n c B m K:=by
 have lb:=hb.len
 have ln:=h.len
 have hle:=h.le
 have hby:=h.by
 refine ⟨bv b,by rw [bv_len]; omega,bv_one _,hb.at,fun hfit=>?_,fun hlt=>⟨bv l,by rw [bv_len]; omega,hby.at,⟨by omega,by omega⟩,fun cap h2 h3=>?_⟩⟩
 ·
  rcases h.2 with ⟨rfl,rfl,rfl,h4⟩ | ⟨g,pad,rfl,hc,h3⟩
  ·
   have hb0:b=[]:=List.eq_nil_of_length_eq_zero (by simp at ln; omega)
   subst hb0
   refine ⟨fun h=>by simp [bv] at h,?_⟩
   rw [show bv []=[] from rfl,putO_nil]
   exact hK _ _ _ ⟨by simp at ln lb ⊢; omega,Or.inl ⟨rfl,rfl,rfl,h4⟩⟩
  ·
   have e:((some (⟨g,0,none⟩:Addr)).map (·.add (n * 1)))=some ⟨g,n,none⟩:=by simp [add_blk]
   rw [e]
   have hlen:(bv (l++pad)).length=n+pad.length:=by simp [bv,ln]
   refine ⟨fun _=>⟨_,rfl,(h3.bk 0 rfl).mayN (by rw [bv_len]; omega)⟩,?_⟩
   have hp:=Bk.put (t:=5) (o:=n) (bv b) wa (bv (l++pad)) 0 (h3.bk 0 rfl) (by rw [bv_len]; omega)
   rw [Nat.add_zero,bv_splice,splice_at _ _ _ ln] at hp
   refine hK _ _ _ ⟨by rw [List.length_append]; omega,Or.inr ⟨g,pad.drop b.length,rfl,⟨by rw [List.length_append,List.length_drop]; omega,by omega⟩,?_⟩⟩
   have:=h3.over 0 rfl hp.2 hp.1
   rw [List.append_assoc]
   exact this
 ·
  have e:((bv l).toArray++(bv b).toArray++Builtin.zeroCells #[.int .u8 0] (cap-(n+m)))=(bv (l++b++List.replicate (cap-(n+m)) 0)).toArray:=by
   rw [zero_bytes]
   simp [bv]
  have e2:wa.drew.alloc (.cells ((bv l).toArray++(bv b).toArray++Builtin.zeroCells [Value.int .u8 0].toArray (cap-(n+m))) 5)=wa.drew.alloc (.cells (bv (l++b++List.replicate (cap-(n+m)) 0)).toArray 5):=congrArg (fun x=>wa.drew.alloc (.cells x 5)) e
  rw [e2]
  refine hK _ _ _ ⟨by rw [List.length_append]; omega,Or.inr ⟨_,List.replicate (cap-(n+m)) 0,rfl,⟨by rw [List.length_append,List.length_replicate]; omega,by omega⟩,?_⟩⟩
  exact h.own.drew.new 5 _
theorem buf_lit (h:Buf w wa M A n c l) {m:Nat} (b:List Int) (hb:b.length=m) (hm:n+m≤100000000000000) {K:Nat→Option Addr→Nat→World→Prop}
  (hK:∀ {g:Nat} A' c' wb,Buf w wb M A' (n+m) c' (l++b)→K g A' c' wb):Let wa.heap.size fun g=>Let (wa.alloc (.cells (bv b).toArray 5)) fun w4=>AppE w4 1 1 5 [.int .u8 0] A n c (some ⟨g,0,none⟩) m (K g):=by
 subst hb
 exact buf_app (h.call ((Bel.refl wa).alloc _)) (Bk.new wa 5 (bv b)).by hm hK
end
theorem Own.join {w a b:World} {L M:List (Nat×TypeId×List Value)} (h:Own w a M) (k:Own a b L):Own w b (L++M):=by
 refine ⟨h.bel.trans k.bel,fun i g t l hi=>?_,?_⟩
 ·
  by_cases hl:i < L.length
  ·
   rw [List.getElem?_append_left hl] at hi
   exact ⟨k.bk i hi,Nat.le_trans h.bel.size (k.ge i hi)⟩
  ·
   rw [List.getElem?_append_right (by omega)] at hi
   exact ⟨(h.bk _ hi).bel k.bel,h.ge _ hi⟩
 ·
  rw [List.map_append]
  refine List.nodup_append.2 ⟨k.one,h.one,fun x hx y hy e=>?_⟩
  obtain ⟨p,hp,rfl⟩:=List.mem_map.1 hx
  obtain ⟨q,hq,rfl⟩:=List.mem_map.1 hy
  obtain ⟨i,hi⟩:=List.mem_iff_getElem?.1 hp
  obtain ⟨j,hj⟩:=List.mem_iff_getElem?.1 hq
  have h1:=k.ge i (g:=p.1) (t:=p.2.1) (l:=p.2.2) hi
  have h2:=(h.bk j (g:=q.1) (t:=q.2.1) (l:=q.2.2) hj).lt
  omega
theorem Own.head {w a:World} {p:Nat×TypeId×List Value} {M:List (Nat×TypeId×List Value)} (h:Own w a (p::M)):Own w a [p]:=by
 refine ⟨h.bel,fun k g t l hk=>?_,by simp⟩
 cases k with
 | zero=>exact h.own 0 g t l (by simpa using hk)
 | succ k=>simp at hk
theorem Own.swap {w a:World} {p q:Nat×TypeId×List Value} {M:List (Nat×TypeId×List Value)} (h:Own w a (p::q::M)):Own w a (q::p::M):=by
 refine ⟨h.bel,fun k g t l hk=>?_,?_⟩
 ·
  match k,hk with
  | 0,hk=>exact h.own 1 g t l (by simpa using hk)
  | 1,hk=>exact h.own 0 g t l (by simpa using hk)
  | k+2,hk=>exact h.own (k+2) g t l (by simpa using hk)
 ·
  have:=h.one
  simp only [List.map_cons,List.nodup_cons,List.mem_cons,not_or] at this ⊢
  exact ⟨⟨fun e=>this.1.1 e.symm,this.2.1⟩,this.1.2,this.2.2⟩
section
variable {w wa wb:World} {M:List (Nat×TypeId×List Value)} {A:Option Addr} {n c:Nat} {l:List Int}
theorem Buf.join (h:Own w wa M) (k:Buf wa wb [] A n c l):Buf w wb M A n c l:=by
 refine ⟨k.1,?_⟩
 rcases k.2 with ⟨h1,h2,h3,h4⟩ | ⟨g,pad,h1,h2,h3⟩
 ·
  exact Or.inl ⟨h1,h2,h3,h.call h4.bel⟩
 ·
  exact Or.inr ⟨g,pad,h1,h2,h.join h3⟩
theorem Buf.alone (h:Buf w wa M A n c l):Buf w wa [] A n c l:=by
 refine ⟨h.1,?_⟩
 rcases h.2 with ⟨h1,h2,h3,h4⟩ | ⟨g,pad,h1,h2,h3⟩
 ·
  exact Or.inl ⟨h1,h2,h3,Own.less (L:=M) (by rwa [List.append_nil])⟩
 ·
  exact Or.inr ⟨g,pad,h1,h2,h3.head⟩
theorem Buf.full {g:Nat} (h:Own w wa ((g,5,bv l)::M)) (hn:l.length=n) (hm:n≤9223372036854775807:=by omega):Buf w wa M (some ⟨g,0,none⟩) n n l:=⟨hn,Or.inr ⟨g,[],rfl,⟨by simp [hn],hm⟩,by rwa [List.append_nil]⟩⟩
end
def RetBuf (w:World) (l:List Int) (e:Ending) (w':World):Prop:=∃ A c,e=.returned (.slice A l.length c)∧Buf w w' [] A l.length c l
theorem at_mid {w:World} {g o:Nat} {t:TypeId} (pre:List Value) {mid post:List Value} (h:Bk w g t (pre++(mid++post))) (ho:pre.length=o):At w ⟨g,o,none⟩ mid:=fun j u hu=>by
 have hj:j < mid.length:=(List.getElem?_eq_some_iff.1 hu).1
 rw [add_blk]
 refine h.cell (o+j) ?_
 rw [List.getElem?_append_right (by omega),show o+j-pre.length=j by omega,List.getElem?_append_left hj]
 exact hu
theorem own_mk {w a:World} {L:List (Nat×TypeId×List Value)} {t:TypeId} {n:Nat} (l:List Value) {vs:List Value} {K:Nat→World→Prop} (h:Own w a L) (hl:l.length=n) (hv:vs.length=n)
  (hk:∀ g w1,Own w w1 ((g,t,vs)::L)→Bel a w1→a.heap.size≤g→K g w1):
  Let a.heap.size fun g=>Let (a.alloc (.cells l.toArray t)) fun w0=>May w0 ⟨g,0,none⟩ n∧Let (putCells w0 ⟨g,0,none⟩ vs 0) (K g):=
 own_newC h fun g w0 H k0 hg=>own_putB 0 H rfl hv (by omega) fun w1 H u=>by
  rw [splice_all _ _ (by omega)] at H
  exact hk g w1 H (But.bel k0 hg u) hg
end Go.Proofs.YtphbdmafchjjeaaGreatDoorS
