import Derived.Test.YtphbdmafchjjeaaGreatDoorTQBSPureM
import Derived.Test.YtphbdmafchjjeaaGreatDoorTQBSRowBM
import Derived.Test.YtphbdmafchjjeaaGreatDoorTQBSFN3M
import Derived.Test.YtphbdmafchjjeaaGreatDoorTQBSIp4BM
namespace Go.Proofs.YtphbdmafchjjeaaGreatDoorS
open Go Go.RowKit Go.Proofs Go.Proofs.YtphbdmafchjjeaaGreatDoorX
set_option linter.unusedVariables false
set_option linter.unusedSimpArgs false
def be:Nat→Int→List Int
 | 0,_=>[]
 | k+1,v=>v / 256 ^ k % 256::be k v
theorem be_len:∀ (k:Nat) (v:Int),(be k v).length=k
 | 0,_=>rfl
 | k+1,v=>by rw [be,List.length_cons,be_len k v]
theorem be2 (v:Int):be 2 v=[v / 256 % 256,v % 256]:=by
 show [v / 256 ^ 1 % 256,v / 256 ^ 0 % 256]=_
 simp
theorem be4 (v:Int):be 4 v=[v / 16777216 % 256,v / 65536 % 256,v / 256 % 256,v % 256]:=by
 show [v / 256 ^ 3 % 256,v / 256 ^ 2 % 256,v / 256 ^ 1 % 256,v / 256 ^ 0 % 256]=_
 simp
theorem Bytes.be (k:Nat) (v:Int):Bytes (be k v):=by
 induction k with
 | zero=>exact Bytes.nil
 | succ k ih=>exact Bytes.cons (by omega) ih
def psd (src dst n:Int):List Int:=be 4 src++be 4 dst++[0,17]++be 2 n
def uBad (src dst:Int) (b:List Int):Int:=
 if b.length > 65535 then 2 else if b.length < 8 then 72 else if wd b 4 < 8 then 72 else if wd b 4 > b.length then 72
 else if wd b 6≠0∧S (tot true (psd src dst (wd b 4)++b.take (wd b 4).toNat))≠65535 then 73 else 0
theorem uBad_zero {src dst:Int} {b:List Int} (h:uBad src dst b=0):b.length≤65535∧8≤b.length∧8≤wd b 4∧wd b 4≤b.length∧(wd b 6=0∨S (tot true (psd src dst (wd b 4)++b.take (wd b 4).toNat))=65535):=by
 unfold uBad at h
 by_cases h1:b.length > 65535
 ·
  rw [if_pos h1] at h; omega
 rw [if_neg h1] at h
 by_cases h2:b.length < 8
 ·
  rw [if_pos h2] at h; omega
 rw [if_neg h2] at h
 by_cases h3:wd b 4 < 8
 ·
  rw [if_pos h3] at h; omega
 rw [if_neg h3] at h
 by_cases h4:wd b 4 > b.length
 ·
  rw [if_pos h4] at h; omega
 rw [if_neg h4] at h
 by_cases h5:wd b 6≠0∧S (tot true (psd src dst (wd b 4)++b.take (wd b 4).toNat))≠65535
 ·
  rw [if_pos h5] at h; omega
 exact ⟨by omega,by omega,by omega,by omega,by
  by_cases h6:wd b 6=0
  ·
   exact .inl h6
  ·
   exact .inr (Decidable.of_not_not fun h7=>h5 ⟨h6,h7⟩)⟩
def uBody (b:List Int):List Int:=(b.take (wd b 4).toNat).drop 8
def dv (sp dp:Int) (A:Option Addr) (n c:Nat):List Value:=[.int .u16 sp,.int .u16 dp,.slice A n c]
def typeF (t:Int):Int:=if t < 1536 then 70 else if t=33024 then 71 else if t=34984 then 71 else 0
structure Fr where
 d0:Int
 d1:Int
 d2:Int
 d3:Int
 d4:Int
 d5:Int
 s0:Int
 s1:Int
 s2:Int
 s3:Int
 s4:Int
 s5:Int
 typ:Int
 body:List Int
def Fr.macs (f:Fr):List Int:=[f.d0,f.d1,f.d2,f.d3,f.d4,f.d5,f.s0,f.s1,f.s2,f.s3,f.s4,f.s5]
structure Fr.Fine (f:Fr):Prop where
 macs:Bytes f.macs
 typ:0≤f.typ∧f.typ≤65535
 body:Bytes f.body
 lb:f.body.length≤140737488351232
def fv (f:Fr) (A:Option Addr) (n c:Nat):List Value:=[.int .u8 f.d0,.int .u8 f.d1,.int .u8 f.d2,.int .u8 f.d3,.int .u8 f.d4,.int .u8 f.d5,.int .u8 f.s0,.int .u8 f.s1,.int .u8 f.s2,.int .u8 f.s3,.int .u8 f.s4,.int .u8 f.s5,.int .u16 f.typ,.slice A n c]
def fz:Fr:=⟨0,0,0,0,0,0,0,0,0,0,0,0,0,[]⟩
def Fr.err (f:Fr):Int:=if f.body.length > 65485 then 2 else typeF f.typ
def Fr.bytes (f:Fr):List Int:=f.macs++(f.typ / 256 % 256::f.typ % 256::f.body)
theorem Fr.len (f:Fr):f.bytes.length=14+f.body.length:=by
 unfold Fr.bytes Fr.macs
 simp only [List.length_append,List.length_cons,List.length_nil]
 omega
theorem Fr.bytes_bytes {f:Fr} (h:f.Fine):Bytes f.bytes:=by
 unfold Fr.bytes
 exact h.macs.append (Bytes.cons (by omega) (Bytes.cons (by omega) h.body))
end Go.Proofs.YtphbdmafchjjeaaGreatDoorS
namespace Go.Proofs.YtphbdmafchjjeaaGreatDoorS
open Go Go.RowKit Go.Proofs Go.Proofs.YtphbdmafchjjeaaGreatDoorX
set_option maxRecDepth 100000
set_option linter.unusedVariables false
set_option linter.unusedSectionVars false
set_option linter.unusedSimpArgs false
def psh (src dst pr n:Int):List Int:=be 4 src++be 4 dst++[0,pr]++be 2 n
theorem psh_len (src dst pr n:Int):(psh src dst pr n).length=12:=by simp [psh,be_len]
def adS (src dst:Int):Int:=src / 65536+src % 65536+(dst / 65536+dst % 65536)
theorem adS_pos {src dst:Int} (h1:0≤src) (h2:0≤dst):0≤adS src dst:=by
 unfold adS
 omega
theorem wsum_ad (t:Tp):wsum t=adS t.src t.dst+t.sp+t.dp:=by
 unfold wsum adS
 omega
theorem w2 (v Z:Int):256 * (v / 256)+(v % 256+Z)=v+Z:=by omega
theorem q4 {v:Int} (h:0≤v∧v≤4294967295) (Z:Int):256 * (v / 16777216 % 256)+(v / 65536 % 256+(256 * (v / 256 % 256)+(v % 256+Z)))=v / 65536+v % 65536+Z:=by
 have e1:v / 16777216 % 256=v / 65536 / 256:=by omega
 have e2:v / 256 % 256=v % 65536 / 256:=by omega
 have e3:v % 256=v % 65536 % 256:=by omega
 rw [e1,e2,e3,w2]
 generalize v / 65536=A
 generalize v % 65536=B
 omega
theorem psh_tot {src dst pr n:Int} (h1:0≤src∧src≤4294967295) (h2:0≤dst∧dst≤4294967295) (h4:0≤n∧n≤65535):tot true (psh src dst pr n)=adS src dst+(pr+n):=by
 unfold psh
 rw [be4,be4,be2]
 simp only [tot,List.cons_append,List.nil_append]
 rw [q4 h1,q4 h2,show n / 256 % 256=n / 256 by omega,w2]
 unfold adS
 generalize src / 65536=A
 generalize src % 65536=B
 generalize dst / 65536=C
 generalize dst % 65536=D
 omega
theorem psd_psh (src dst n:Int):psd src dst n=psh src dst 17 n:=rfl
theorem uBad_mk {src dst:Int} {b:List Int} (h1:b.length≤65535) (h2:8≤b.length) (h3:8≤wd b 4) (h4:wd b 4≤b.length) (h5:wd b 6=0∨S (tot true (psd src dst (wd b 4)++b.take (wd b 4).toNat))=65535):uBad src dst b=0:=by
 unfold uBad
 rw [if_neg (by omega),if_neg (by omega),if_neg (by omega),if_neg (by omega),if_neg]
 rintro ⟨h6,h7⟩
 rcases h5 with h5 | h5
 ·
  exact h6 h5
 ·
  exact h7 h5
theorem sum_keep {T D:Int} (hT:0≤T) (hm:D % 65535=0) {T':Int} (hp:0 < T') {U:Int} (h:S U=65535) (e:U=T) (e':T'=T+D):S T'=65535:=by
 subst e
 have m:=S_mod hT
 rw [h] at m
 exact S_full hp (by omega)
theorem udp_right {b:List Int} (hb:Bytes b) {s u:Tp} (hs:s.Fine) (hu:u.Fine) (h1:s.sp=wd b 0) (h2:s.dp=wd b 2) (h:uBad s.src s.dst b=0):uBad u.src u.dst (carV b 17 s u true)=0:=by
 obtain ⟨l1,l2,l3,l4,l5⟩:=uBad_zero h
 have cl:=carV_len b 17 s u true
 obtain ⟨a0,a1,a2,a3,a4,a5,a6,a7,r,rfl,b0,b1,b2,b3,b4,b5,b6,b7,br⟩:=cut8 l2 hb
 have e1:s.sp=a0 * 256+a1:=h1
 have e2:s.dp=a2 * 256+a3:=h2
 have e4:wd (a0::a1::a2::a3::a4::a5::a6::a7::r) 4=a4 * 256+a5:=rfl
 have e6:wd (a0::a1::a2::a3::a4::a5::a6::a7::r) 6=a6 * 256+a7:=rfl
 rw [e4] at l3 l4 l5
 rw [e6] at l5
 by_cases hz:a6 * 256+a7=0
 ·
  rw [udp_no hz] at cl ⊢
  exact uBad_mk (by rw [cl]; exact l1) (by rw [cl]; exact l2) l3 (by rw [cl]; exact l4) (Or.inl hz)
 ·
  have hx:=udpX_mod (w:=a6 * 256+a7) (by omega) hs hu
  rw [udp_yes hz] at cl ⊢
  generalize udpX (a6 * 256+a7) s u=X at hx cl
  refine uBad_mk (by rw [cl]; exact l1) (by rw [cl]; exact l2) l3 (by rw [cl]; exact l4) (Or.inr ?_)
  have l6:=l5.resolve_left hz
  obtain ⟨k,hk⟩:∃ k,(a4 * 256+a5).toNat=k+8:=⟨(a4 * 256+a5).toNat-8,by omega⟩
  have e5:wd (u.sp / 256::u.sp % 256::u.dp / 256::u.dp % 256::a4::a5::X / 256::X % 256::r) 4=a4 * 256+a5:=rfl
  rw [e5]
  rw [psd_psh,tot_even _ _ (by rw [psh_len]),psh_tot hs.src hs.dst (by omega),hk] at l6
  rw [psd_psh,tot_even _ _ (by rw [psh_len]),psh_tot hu.src hu.dst (by omega),hk]
  have t1:tot true ((a0::a1::a2::a3::a4::a5::a6::a7::r).take (k+8))=256 * a0+(a1+(256 * a2+(a3+(256 * a4+(a5+(256 * a6+(a7+tot true (r.take k)))))))):=rfl
  have t2:tot true ((u.sp / 256::u.sp % 256::u.dp / 256::u.dp % 256::a4::a5::X / 256::X % 256::r).take (k+8))=256 * (u.sp / 256)+(u.sp % 256+(256 * (u.dp / 256)+(u.dp % 256+(256 * a4+(a5+(256 * (X / 256)+(X % 256+tot true (r.take k)))))))):=rfl
  have hR:=tot_nonneg (b:=true) (br.take k)
  rw [t1] at l6
  rw [t2,w2,w2,w2]
  generalize tot true (r.take k)=R at hR l6
  have f1:=adS_pos hs.src.1 hs.dst.1
  have f3:=adS_pos hu.src.1 hu.dst.1
  have f5:=hu.sp
  have f6:=hu.dp
  rw [wsum_ad,wsum_ad,e1,e2] at hx
  generalize adS s.src s.dst=A at f1 l6 hx
  generalize adS u.src u.dst=B at f3 hx
  clear l1 l2 l4 l5 h cl hk t1 t2 e4 e5 e6 hb br e1 e2 h1 h2
  exact sum_keep (T:=A+(17+(a4 * 256+a5))+(256 * a0+(a1+(256 * a2+(a3+(256 * a4+(a5+(256 * a6+(a7+R))))))))) (D:=X-(a6 * 256+a7+(A+(a0 * 256+a1)+(a2 * 256+a3))-(B+u.sp+u.dp)))
   (by omega) hx.1 (by omega) l6 rfl (by omega)
end Go.Proofs.YtphbdmafchjjeaaGreatDoorS
namespace Go.Proofs.YtphbdmafchjjeaaGreatDoorS
open Go Go.RowKit Go.Proofs Go.Proofs.YtphbdmafchjjeaaGreatDoorX
set_option maxRecDepth 100000
set_option linter.unusedVariables false
set_option linter.unusedSectionVars false
set_option linter.unusedSimpArgs false
theorem blank_zero (k:Nat):∀ (r:List Int) (i:Nat),(∀ x∈r,x=0)→blankV k r i=true
 | [],i,_=>rfl
 | x::r,i,h=>by
  unfold blankV
  rw [blank_zero k r (i+1) (fun y hy=>h y (List.mem_cons_of_mem _ hy)),h x List.mem_cons_self]
  simp
theorem echo_right {b:List Int} (hb:Bytes b) {s u:Tp} (hs:s.Fine) (hu:u.Fine) (h1:s.sp=wd b 4) (h:icBad b=0):icBad (carV b 1 s u true)=0:=by
 obtain ⟨l1,l2,l3⟩:=icBad_zero h
 have cl:=carV_len b 1 s u true
 obtain ⟨a0,a1,a2,a3,a4,a5,a6,a7,r,rfl,b0,b1,b2,b3,b4,b5,b6,b7,br⟩:=cut8 l1 hb
 have e1:s.sp=a4 * 256+a5:=h1
 have hx:=echoS_mod (a0:=a0) (a1:=a1) (a2:=a2) (a3:=a3) (r:=u.sp / 256::u.sp % 256::a6::a7::r) (by omega) hs hu
 have hR:=tot_nonneg (b:=true) br
 have f5:=hu.sp
 have t1:tot true (a0::a1::a2::a3::a4::a5::a6::a7::r)=256 * a0+(a1+(256 * a2+(a3+(256 * a4+(a5+(256 * a6+(a7+tot true r))))))):=rfl
 rw [t1] at l3
 have pos:0 < 256 * a0+(a1+(256 * a2+(a3+(256 * a4+(a5+(256 * a6+(a7+tot true r))))))):=by
  have:=S_eq_zero (t:=256 * a0+(a1+(256 * a2+(a3+(256 * a4+(a5+(256 * a6+(a7+tot true r)))))))) (by omega)
  omega
 have hbl:a0=0→a1=0→u.sp=0→a6=0→a7=0→tot true r=0→echoS (a0::a1::a2::a3::u.sp / 256::u.sp % 256::a6::a7::r) s u true≠0:=by
  intro z0 z1 z2 z3 z4 z5 hz
  have hr:=(tot_eq_zero (b:=true) br).1 z5
  have hbk:blankV 2 (a0::a1::a2::a3::u.sp / 256::u.sp % 256::a6::a7::r) 0=true:=by
   rw [z0,z1,z2,z3,z4]
   simp [blankV,blank_zero 2 r 8 hr]
  have e:wd (a0::a1::a2::a3::u.sp / 256::u.sp % 256::a6::a7::r) 2=a2 * 256+a3:=rfl
  unfold echoS at hz
  rw [e] at hz
  by_cases c1:s.sp=u.sp
  ·
   rw [if_neg (fun hc=>hc.2.1 c1)] at hz
   have e2:overV (a2 * 256+a3) [s.sp] [u.sp]=a2 * 256+a3:=by
    show (if s.sp≠u.sp then _ else _)=_
    rw [if_neg (fun hc=>hc c1)]
   omega
  ·
   by_cases c2:overV (a2 * 256+a3) [s.sp] [u.sp]=0
   ·
    rw [if_pos ⟨rfl,c1,c2,hbk⟩] at hz
    omega
   ·
    rw [if_neg (fun hc=>c2 hc.2.2.1)] at hz
    exact c2 hz
 rw [echo_car] at cl ⊢
 generalize echoS (a0::a1::a2::a3::u.sp / 256::u.sp % 256::a6::a7::r) s u true=X at hx hbl cl
 have t2:tot true (a0::a1::X / 256::X % 256::u.sp / 256::u.sp % 256::a6::a7::r)=256 * a0+(a1+(256 * (X / 256)+(X % 256+(256 * (u.sp / 256)+(u.sp % 256+(256 * a6+(a7+tot true r))))))):=rfl
 unfold icBad
 rw [if_neg (by omega),if_neg (by omega),if_neg]
 intro hc
 refine hc ?_
 rw [t2,w2,w2]
 have hp:0 < 256 * a0+(a1+(X+(u.sp+(256 * a6+(a7+tot true r))))):=by
  by_cases hX:X=0
  ·
   have:¬ (a0=0∧a1=0∧u.sp=0∧a6=0∧a7=0∧tot true r=0):=fun hh=>hbl hh.1 hh.2.1 hh.2.2.1 hh.2.2.2.1 hh.2.2.2.2.1 hh.2.2.2.2.2 hX
   omega
  ·
   omega
 rw [e1] at hx
 clear cl t1 t2 hbl hc l1 l2 h1 e1 hb br h hs hu
 generalize tot true r=R at *
 exact sum_keep (T:=256 * a0+(a1+(256 * a2+(a3+(256 * a4+(a5+(256 * a6+(a7+R)))))))) (D:=X-(a2 * 256+a3+(a4 * 256+a5)-u.sp)) (by omega) hx.1 hp l3 rfl (by omega)
theorem cut18 {b:List Int} (h:18≤b.length):∃ a0 a1 a2 a3 a4 a5 a6 a7 a8 a9 c0 c1 c2 c3 c4 c5 c6 c7 r,b=a0::a1::a2::a3::a4::a5::a6::a7::a8::a9::c0::c1::c2::c3::c4::c5::c6::c7::r:=by
 obtain ⟨a0,r0,rfl,h0⟩:=cut1 h
 obtain ⟨a1,r1,rfl,h1⟩:=cut1 h0
 obtain ⟨a2,r2,rfl,h2⟩:=cut1 h1
 obtain ⟨a3,r3,rfl,h3⟩:=cut1 h2
 obtain ⟨a4,r4,rfl,h4⟩:=cut1 h3
 obtain ⟨a5,r5,rfl,h5⟩:=cut1 h4
 obtain ⟨a6,r6,rfl,h6⟩:=cut1 h5
 obtain ⟨a7,r7,rfl,h7⟩:=cut1 h6
 obtain ⟨a8,r8,rfl,h8⟩:=cut1 h7
 obtain ⟨a9,r9,rfl,h9⟩:=cut1 h8
 obtain ⟨c0,q0,rfl,k0⟩:=cut1 h9
 obtain ⟨c1,q1,rfl,k1⟩:=cut1 k0
 obtain ⟨c2,q2,rfl,k2⟩:=cut1 k1
 obtain ⟨c3,q3,rfl,k3⟩:=cut1 k2
 obtain ⟨c4,q4,rfl,k4⟩:=cut1 k3
 obtain ⟨c5,q5,rfl,k5⟩:=cut1 k4
 obtain ⟨c6,q6,rfl,k6⟩:=cut1 k5
 obtain ⟨c7,q7,rfl,k7⟩:=cut1 k6
 exact ⟨a0,a1,a2,a3,a4,a5,a6,a7,a8,a9,c0,c1,c2,c3,c4,c5,c6,c7,q7,rfl⟩
section
variable {a0 a1 a2 a3 a4 a5 a6 a7 a8 a9 c0 c1 c2 c3 c4 c5 c6 c7:Int} {r:List Int} {s u:Tp}
theorem tcp_car:carV (a0::a1::a2::a3::a4::a5::a6::a7::a8::a9::c0::c1::c2::c3::c4::c5::c6::c7::r) 6 s u true =
  u.sp / 256::u.sp % 256::u.dp / 256::u.dp % 256::a4::a5::a6::a7::a8::a9::c0::c1::c2::c3::c4::c5::overV (c6 * 256+c7) (wsV s) (wsV u) / 256::overV (c6 * 256+c7) (wsV s) (wsV u) % 256::r:=by
 unfold carV
 rw [if_neg (by decide),if_neg (by decide),if_pos (by simp only [List.length_cons]; omega)]
 rfl
end
theorem tcp_right {b:List Int} (hb:Bytes b) (hl:18≤b.length) (hn:b.length≤65535) {s u:Tp} (hs:s.Fine) (hu:u.Fine) (h1:s.sp=wd b 0) (h2:s.dp=wd b 2) (h:S (tot true (psh s.src s.dst 6 (b.length:Int)++b))=65535):
  S (tot true (psh u.src u.dst 6 ((carV b 6 s u true).length:Int)++carV b 6 s u true))=65535:=by
 have cl:=carV_len b 6 s u true
 rw [cl]
 have nl:0≤(b.length:Int)∧(b.length:Int)≤65535:=by omega
 clear cl
 generalize (b.length:Int)=N at nl h
 obtain ⟨a0,a1,a2,a3,a4,a5,a6,a7,a8,a9,c0,c1,c2,c3,c4,c5,c6,c7,r,rfl⟩:=cut18 hl
 have e1:s.sp=a0 * 256+a1:=h1
 have e2:s.dp=a2 * 256+a3:=h2
 have d6:0≤c6∧c6≤255:=hb.getD 16
 have d7:0≤c7∧c7≤255:=hb.getD 17
 have hx:=over_ws (w:=c6 * 256+c7) (by omega) hs hu
 have hT:=tot_nonneg (b:=true) hb
 rw [tot_even _ _ (by rw [psh_len]),psh_tot hs.src hs.dst nl] at h
 rw [tcp_car,tot_even _ _ (by rw [psh_len]),psh_tot hu.src hu.dst nl]
 generalize overV (c6 * 256+c7) (wsV s) (wsV u)=X at hx
 have hr:Bytes (a4::a5::a6::a7::a8::a9::c0::c1::c2::c3::c4::c5::c6::c7::r):=hb.tail.tail.tail.tail
 have hr2:Bytes (a4::a5::a6::a7::a8::a9::c0::c1::c2::c3::c4::c5::r):=(hr.take 12).append (hr.drop 14)
 have hM:=tot_nonneg (b:=true) hr2
 have t3:tot true (a4::a5::a6::a7::a8::a9::c0::c1::c2::c3::c4::c5::r)=256 * a4+(a5+(256 * a6+(a7+(256 * a8+(a9+(256 * c0+(c1+(256 * c2+(c3+(256 * c4+(c5+tot true r))))))))))):=rfl
 have t1:tot true (a0::a1::a2::a3::a4::a5::a6::a7::a8::a9::c0::c1::c2::c3::c4::c5::c6::c7::r)=s.sp+(s.dp+(c6 * 256+c7+tot true (a4::a5::a6::a7::a8::a9::c0::c1::c2::c3::c4::c5::r))):=by
  rw [t3,e1,e2]
  show 256 * a0+(a1+(256 * a2+(a3+(256 * a4+(a5+(256 * a6+(a7+(256 * a8+(a9+(256 * c0+(c1+(256 * c2+(c3+(256 * c4+(c5+(256 * c6+(c7+tot true r)))))))))))))))))=_
  omega
 have t2:∀ x y z:Int,tot true (x / 256::x % 256::y / 256::y % 256::a4::a5::a6::a7::a8::a9::c0::c1::c2::c3::c4::c5::z / 256::z % 256::r)=x+(y+(z+tot true (a4::a5::a6::a7::a8::a9::c0::c1::c2::c3::c4::c5::r))):=by
  intro x y z
  rw [t3]
  show 256 * (x / 256)+(x % 256+(256 * (y / 256)+(y % 256+(256 * a4+(a5+(256 * a6+(a7+(256 * a8+(a9+(256 * c0+(c1+(256 * c2+(c3+(256 * c4+(c5+(256 * (z / 256)+(z % 256+tot true r)))))))))))))))))=_
  rw [w2,w2,w2]
  omega
 rw [t1] at h
 rw [t2]
 have f1:=adS_pos hs.src.1 hs.dst.1
 have f3:=adS_pos hu.src.1 hu.dst.1
 have f5:=hu.sp
 have f6:=hu.dp
 have f7:=hs.sp
 have f8:=hs.dp
 rw [wsum_ad,wsum_ad] at hx
 generalize tot true (a4::a5::a6::a7::a8::a9::c0::c1::c2::c3::c4::c5::r)=M at hM h
 generalize adS s.src s.dst=A at f1 h hx
 generalize adS u.src u.dst=B at f3 hx
 clear t1 t2 t3 hr hr2 hb hT e1 e2 h1 h2 hl hn
 exact sum_keep (T:=A+(6+N)+(s.sp+(s.dp+(c6 * 256+c7+M)))) (D:=X-(c6 * 256+c7+(A+s.sp+s.dp)-(B+u.sp+u.dp))) (by omega) hx.1 (by omega) h rfl (by omega)
end Go.Proofs.YtphbdmafchjjeaaGreatDoorS
namespace Go.Proofs.YtphbdmafchjjeaaGreatDoorS
open Go Go.RowKit Go.Proofs Go.Proofs.YtphbdmafchjjeaaGreatDoorX
set_option maxRecDepth 100000
set_option linter.unusedVariables false
set_option linter.unusedSimpArgs false
section
variable {w a:World} {L:List (Nat×TypeId×List Value)}
end
section
variable {w a:World} {L:List (Nat×TypeId×List Value)}
end
def RetDg (w:World) (src dst:Int) (b:List Int) (e:Ending) (w':World):Prop:=Bel w w'∧if uBad src dst b=0 then ∃ g,e=.returned (.tuple #[.agg (dv (wd b 0) (wd b 2) (some ⟨g,0,none⟩) ((wd b 4).toNat-8) ((wd b 4).toNat-8)).toArray,.int .i64 0])∧Own w w' [(g,5,bv (uBody b))]
 else e=.returned (.tuple #[.agg (dv 0 0 none 0 0).toArray,.int .i64 (uBad src dst b)])
theorem RetDg.no {w w':World} {src dst:Int} {b:List Int} {k:Int} (h:uBad src dst b=k) (hk:k≠0) (hb:Bel w w'):RetDg w src dst b (.returned (.tuple #[.agg (dv 0 0 none 0 0).toArray,.int .i64 k])) w':=by
 refine ⟨hb,?_⟩
 rw [if_neg (by rw [h]; exact hk),h]
end Go.Proofs.YtphbdmafchjjeaaGreatDoorS
