/- What Seal of packages tunnel and weftref7 answers.
   Conditions: bytes are 0 to 255; lists are no longer than memory lets. -/
import Derived.Test.YtphbdmafchjjeaaSTunF
import Derived.Test.YtphbdmafchjjeaaSPk
import Derived.Test.YtphbdmafchjjeaaSRef3F
namespace Go.Proofs.YtphbdmafchjjeaaS
open Go Go.RowKit Go.Proofs Go.Proofs.YtphbdmafchjjeaaX
set_option maxRecDepth 100000
set_option linter.unusedVariables false
set_option linter.unusedSectionVars false
set_option linter.unusedSimpArgs false

/-! ### in plain words -/
structure Ot where
  src : Int
  dst : Int
  sp : Int
  dp : Int
  ttl : Int
  vni : Int
def ouv (src dst sp dp ttl vni : Int) : List Value := [.int .u32 src, .int .u32 dst, .int .u16 sp, .int .u16 dp, .int .u8 ttl, .int .i64 vni]
abbrev ov (o : Ot) : List Value := ouv o.src o.dst o.sp o.dp o.ttl o.vni
structure Ot.Fine (o : Ot) : Prop where
  src : 0 ≤ o.src ∧ o.src ≤ 4294967295
  dst : 0 ≤ o.dst ∧ o.dst ≤ 4294967295
  sp : 0 ≤ o.sp ∧ o.sp ≤ 65535
  dp : 0 ≤ o.dp ∧ o.dp ≤ 65535
  ttl : 0 ≤ o.ttl ∧ o.ttl ≤ 255
  vni : -9223372036854775808 ≤ o.vni ∧ o.vni ≤ 9223372036854775807
def vxb (vni : Int) (fb : List Int) : List Int := (8 :: 0 :: 0 :: 0 :: be 4 (vni * 256)) ++ fb
theorem vxb_len (vni : Int) (fb : List Int) : (vxb vni fb).length = 8 + fb.length := by
  unfold vxb
  rw [List.length_append]
  simp [be_len]
theorem vxb_bytes {vni : Int} {fb : List Int} (h : Bytes fb) : Bytes (vxb vni fb) :=
  (Bytes.cons (by decide) (Bytes.cons (by decide) (Bytes.cons (by decide) (Bytes.cons (by decide) (Bytes.be 4 _))))).append h
theorem uBytes_off (src dst sp dp : Int) (body : List Int) : uBytes src dst sp dp body false = uRaw sp dp body 0 := by
  unfold uBytes uSum
  rw [if_neg (by decide)]
def sBody (o : Ot) (f : Fr) : List Int := uBytes o.src o.dst o.sp o.dp (vxb o.vni f.bytes) false
def sPk (o : Ot) (f : Fr) : Pk := ⟨0, 0, true, false, 0, o.ttl, 17, o.src, o.dst, [], sBody o f⟩
theorem sBody_len (o : Ot) (f : Fr) : (sBody o f).length = 30 + f.body.length := by
  unfold sBody
  rw [uBytes_off, uRaw_len, vxb_len, f.len]
  omega
def sErr (o : Ot) (f : Fr) : Int := if o.vni < 0 then 78 else if o.vni > 16777215 then 78 else f.err
def sOut (o : Ot) (f : Fr) : List Int := if sErr o f = 0 then (sPk o f).bytes (sPk o f).sum else []
theorem ferr_len {f : Fr} (h : f.err = 0) : f.body.length ≤ 65485 := by
  unfold Fr.err at h
  split at h
  · omega
  · omega
section
variable {o : Ot} {f : Fr} (ho : o.Fine) (hf : f.Fine)
include ho hf
theorem sPk_fine (h : f.err = 0) : (sPk o f).Fine :=
  have hl := ferr_len h
  have hs := sBody_len o f
  ⟨by show (0 : Int) ≤ 0 ∧ (0 : Int) ≤ 255; decide, by show (0 : Int) ≤ 0 ∧ (0 : Int) ≤ 65535; decide, by show (-9223372036854775808 : Int) ≤ 0 ∧ (0 : Int) ≤ 9223372036854775807; decide, ho.ttl, by show (0 : Int) ≤ 17 ∧ (17 : Int) ≤ 255; decide, ho.src, ho.dst, Bytes.nil, by
    show Bytes (sBody o f)
    unfold sBody
    rw [uBytes_off]
    exact uRaw_bytes _ _ (vxb_bytes (Fr.bytes_bytes hf)) 0, Nat.zero_le _, by show (sBody o f).length ≤ _; omega⟩
theorem sPk_err (h : f.err = 0) : (sPk o f).err = 0 := by
  have hl := ferr_len h
  have hs := sBody_len o f
  unfold Pk.err
  rw [if_pos (by show oOK [] = true; decide +kernel), if_pos, if_pos]
  · show 20 + 0 + (sBody o f).length ≤ 65535
    omega
  · show ordB 0 ((sBody o f).length : Int) false = true
    unfold ordB
    rw [Bool.and_eq_true]
    refine ⟨decide_eq_true ⟨by decide, by decide, by decide, by omega⟩, rfl⟩
end
theorem sErr_zero {o : Ot} {f : Fr} (h : sErr o f = 0) : 0 ≤ o.vni ∧ o.vni ≤ 16777215 ∧ f.err = 0 := by
  unfold sErr at h
  split at h
  · omega
  split at h
  · omega
  exact ⟨by omega, by omega, h⟩
def RetSe (w : World) (o : Ot) (f : Fr) (e : Ending) (w' : World) : Prop := Bel w w' ∧ ∃ A n c, e = .returned (.tuple #[.slice A n c, .int .i64 (sErr o f)]) ∧ By w' A n (sOut o f) ∧ n ≤ c ∧ Fre w A
theorem RetSe.no {w w' : World} {o : Ot} {f : Fr} {k : Int} (h : sErr o f = k) (hk : k ≠ 0) (hb : Bel w w') : RetSe w o f (.returned (.tuple #[.slice none 0 0, .int .i64 k])) w' := by
  refine ⟨hb, none, 0, 0, by rw [h], ?_, Nat.le_refl _, Fre.nil w⟩
  unfold sOut
  rw [if_neg (by rw [h]; exact hk)]
  exact By.nil _ _
theorem RetSe.yes {w w1 w' : World} {o : Ot} {f : Fr} {C : Option Addr} {i j : Nat} (h : sErr o f = 0) (hb : Bel w w') (k : Bel w w1) (y : By w' C i ((sPk o f).bytes (sPk o f).sum)) (hi : i ≤ j) (hf : Fre w1 C) : RetSe w o f (.returned (.tuple #[.slice C i j, .int .i64 0])) w' := by
  refine ⟨hb, C, i, j, by rw [h], ?_, hi, hf.le k⟩
  unfold sOut
  rw [if_pos h]
  exact y
/-- .. in a block of its own. -/
def RetSeO (w : World) (o : Ot) (f : Fr) (e : Ending) (w' : World) : Prop := RetSe w o f e w' ∧ (sErr o f = 0 → ∃ g, e = .returned (.tuple #[.slice (some ⟨g, 0, none⟩) (sOut o f).length (sOut o f).length, .int .i64 0]) ∧ Own w w' [(g, 5, bv (sOut o f))])
theorem RetSeO.no {w w' : World} {o : Ot} {f : Fr} {k : Int} (h : sErr o f = k) (hk : k ≠ 0) (hb : Bel w w') : RetSeO w o f (.returned (.tuple #[.slice none 0 0, .int .i64 k])) w' := ⟨RetSe.no h hk hb, fun h0 => absurd (h.symm.trans h0) hk⟩
theorem own_of {w w' : World} {g : Nat} {t : TypeId} {l : List Value} (k : Bel w w') (h : Bk w' g t l) (hg : w.heap.size ≤ g) : Own w w' [(g, t, l)] := by
  refine ⟨k, fun i g' t' l' hi => ?_, by simp⟩
  cases i with
  | zero =>
    simp only [List.getElem?_cons_zero, Option.some.injEq, Prod.mk.injEq] at hi
    obtain ⟨rfl, rfl, rfl⟩ := hi
    exact ⟨h, hg⟩
  | succ i => simp at hi
theorem ld_ou {w : World} {g : Nat} {t : TypeId} {o : Ot} (h : Bk w g t (ov o)) {K : Int → Int → Int → Int → Int → Int → Prop} (k : K o.src o.dst o.sp o.dp o.ttl o.vni) :
    ∃ x0 : Int, ∃ x1 : Int, ∃ x2 : Int, ∃ x3 : Int, ∃ x4 : Int, ∃ x5 : Int, (6 = 6 ∧ At w ⟨g, 0, none⟩ [.int .u32 x0, .int .u32 x1, .int .u16 x2, .int .u16 x3, .int .u8 x4, .int .i64 x5]) ∧ K x0 x1 x2 x3 x4 x5 :=
  ⟨_, _, _, _, _, _, ⟨rfl, h.at⟩, k⟩
theorem vx_set (v : Int) (n : Nat) : ((((((8 : Int) :: 0 :: 0 :: 0 :: 0 :: 0 :: 0 :: 0 :: List.replicate n 0).set 7 (v % 256)).set 6 (v / 256 % 256)).set 5 (v / 65536 % 256)).set 4 (v / 16777216 % 256)) = (8 :: 0 :: 0 :: 0 :: be 4 v) ++ List.replicate n 0 := by
  rw [be4]
  rfl
section
variable {w : World} {o : Ot} {f : Fr} (ho : o.Fine) (hf : f.Fine) {A : Option Addr} {n c : Nat} (h : By w A n f.body)
include ho hf h
theorem Seal_j1 (h0 : 0 ≤ o.vni) (h1 : o.vni ≤ 16777215) {wa : World} {g2 g3 : Nat} (H : Own w wa [(g3, 31, fv f A n c), (g2, 26, ov o)]) : tunnel_Seal.J1 g2 g3 wa (RetSeO w o f) := by
  unfold tunnel_Seal.J1; intros
  rw [tunnel_Seal.j1_eq]
  have es : sErr o f = f.err := by unfold sErr; rw [if_neg (by omega), if_neg (by omega)]
  refine ld_fr (H.bk 0 rfl) ?_
  refine call_of (BuildFrame_c hf (h.bel H.bel)) ?_
  rintro e w2 he
  by_cases h5 : f.err = 0
  · obtain ⟨g6, rfl, H6⟩ := he.2 h5
    have y := (H6.bk 0 rfl).by
    replace H := H.call H6.bel
    have hfl := f.len
    have hl5 := ferr_len h5
    refine ⟨_, _, _, _, rfl, ?_⟩
    refine ifN (fun h => absurd rfl h) (fun _ => ?_)
    refine let_as ((8 + f.bytes.length : Nat) : Int) (by rw [w64 (by omega) (by omega)]; omega) ?_
    rw [Int.toNat_natCast]
    refine ⟨⟨by omega, by omega, by omega, by omega⟩, ?_⟩
    refine own_newC H fun g20 w3 H k3 hg => ?_
    have zy := y.newer hg
    replace y := y.bel k3
    rw [bv_rep, rep8] at H
    refine ⟨_, rfl, ⟨by decide, by decide⟩, ?_⟩
    refine own_setB 0 H rfl (by rw [bv_len]; simp) fun w4 H u4 => ?_
    replace y := y.but1 u4 zy
    replace H : Own w w4 [(g20, 5, bv (8 :: 0 :: 0 :: 0 :: 0 :: 0 :: 0 :: 0 :: List.replicate f.bytes.length 0)), (g3, 31, fv f A n c), (g2, 26, ov o)] := H
    refine draws (fun w' => Own w w' [(g3, 31, fv f A n c), (g2, 26, ov o)]) H.tail.drew fun w5 e5 => ?_
    have k5 : Bel w4 w5 := by rw [e5]; exact (Bel.refl w4).drew
    replace H := H.call k5
    replace y := y.bel k5
    refine ⟨⟨by omega, by omega⟩, ⟨by decide, by decide⟩, _, fun w' h => h.cell 1 5 rfl rfl, ?_⟩
    refine let_as o.vni (w32 (by omega) (by omega)) ?_
    refine let_as (o.vni * 256) (w32 (by omega) (by omega)) ?_
    rw [cut0 g20 4 _ (by omega)]
    refine own_st32 0 H rfl (by simp) ⟨by omega, by omega⟩ fun w6 H u6 => ?_
    replace y := y.but1 u6 zy
    replace H : Own w w6 [(g20, 5, bv ((8 :: 0 :: 0 :: 0 :: be 4 (o.vni * 256)) ++ List.replicate f.bytes.length 0)), (g3, 31, fv f A n c), (g2, 26, ov o)] := by
      rw [← vx_set]
      exact H
    refine ⟨rfl, H.tail, ?_⟩
    refine draws (fun w' => Own w w' [(g3, 31, fv f A n c), (g2, 26, ov o)]) H.tail.drew fun w7 e7 => ?_
    have k7 : Bel w6 w7 := by rw [e7]; exact (Bel.refl w6).drew
    replace H := H.call k7
    replace y := y.bel k7
    refine ⟨_, fun w' h => h.cell 1 0 rfl rfl, _, fun w' h => h.cell 1 1 rfl rfl, _, fun w' h => h.cell 1 2 rfl rfl, _, fun w' h => h.cell 1 3 rfl rfl, ?_⟩
    have q : Buf w w7 [(g3, 31, fv f A n c), (g2, 26, ov o)] (some ⟨g20, 0, none⟩) 8 (8 + f.bytes.length) (8 :: 0 :: 0 :: 0 :: be 4 (o.vni * 256)) := ⟨by simp [be_len], Or.inr ⟨g20, List.replicate f.bytes.length 0, rfl, ⟨by simp [be_len], by omega⟩, H⟩⟩
    refine buf_app q y (by omega) fun A8 c8 w8' q8 => ?_
    refine ⟨q8.own, ?_⟩
    refine call_of (BuildUDP_c ho.src ho.dst ho.sp ho.dp (body := vxb o.vni f.bytes) q8.by (vxb_bytes (Fr.bytes_bytes hf)) false) ?_
    rintro e w9 he
    obtain ⟨g9, rfl, H9⟩ := he.2 (by rw [vxb_len]; omega)
    replace H := q8.own.call H9.bel
    refine ⟨_, _, _, _, rfl, H, ?_⟩
    refine ifN (fun h => absurd rfl h) (fun _ => ?_)
    refine ⟨_, H.cell 1 4 rfl rfl, _, H.cell 1 0 rfl rfl, _, H.cell 1 1 rfl rfl, ?_⟩
    refine call_of (Build_c (sPk_fine ho hf h5) (A := none) (n := 0) (c := 0) (By.nil _ _) (H9.bk 0 rfl).by (Nat.le_refl _)) ?_
    rintro e w10 ⟨k10, he⟩
    have e0 := sPk_err ho hf h5
    rw [if_pos e0] at he
    obtain ⟨g, rfl, hb, hg⟩ := he
    refine ⟨_, _, _, _, rfl, ?_⟩
    have ez : sErr o f = 0 := es.trans h5
    have eq : sOut o f = (sPk o f).bytes (sPk o f).sum := by unfold sOut; rw [if_pos ez]
    refine ⟨RetSe.yes ez (H.bel.trans k10) H.bel hb.by (Nat.le_refl _) (Fre.mk hg), fun _ => ⟨g, by rw [eq], ?_⟩⟩
    rw [eq]
    exact own_of (H.bel.trans k10) hb (Nat.le_trans H.bel.size hg)
  · obtain ⟨rfl, k6⟩ := he.1 h5
    replace H := H.call k6
    refine ⟨_, _, _, _, rfl, ?_⟩
    refine ifN (fun _ => ?_) (fun hx => absurd hx h5)
    exact RetSeO.no es h5 H.bel
theorem SealO_c : Calls Try.prog 7 #[.agg (ov o).toArray, .agg (fv f A n c).toArray] w (RetSeO w o f) := by
  refine tunnel_Seal.run ?_
  unfold tunnel_Seal.s
  refine own_new (l := ov o) (Own.refl w) fun g1 w2 H => ?_
  refine own_new (l := fv f A n c) H fun g3 w4 H => ?_
  refine ⟨_, H.cell 1 5 rfl rfl, ?_⟩
  refine ifD (fun h1 => ?_) (fun h1 => ?_)
  · exact RetSeO.no (by unfold sErr; rw [if_pos h1]) (by decide) H.bel
  refine ⟨_, H.cell 1 5 rfl rfl, ?_⟩
  refine ifD (fun h2 => ?_) (fun h2 => ?_)
  · exact RetSeO.no (by unfold sErr; rw [if_neg h1, if_pos h2]) (by decide) H.bel
  have k := Seal_j1 ho hf h (by omega) (by omega) H
  exact ⟨by with_reducible apply k⟩
theorem Seal_c : Calls Try.prog 7 #[.agg (ov o).toArray, .agg (fv f A n c).toArray] w (RetSe w o f) := call_of (SealO_c ho hf h) fun e w' k => k.1
end
end Go.Proofs.YtphbdmafchjjeaaS
