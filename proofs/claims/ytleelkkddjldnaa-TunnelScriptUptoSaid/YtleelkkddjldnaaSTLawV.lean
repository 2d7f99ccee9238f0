/- Package weftlaw7: TunnelReserved.
   Conditions: the arguments are as a row's arguments are. -/
import Derived.Test.YtleelkkddjldnaaSTLawT
import Derived.Test.YtleelkkddjldnaaSTunV
import Derived.Test.YtleelkkddjldnaaSFY
namespace Go.Proofs.YtleelkkddjldnaaS
open Go Go.RowKit Go.Proofs Go.Proofs.YtleelkkddjldnaaX
set_option maxRecDepth 100000
set_option linter.unusedVariables false
set_option linter.unusedSectionVars false
set_option linter.unusedSimpArgs false

/-- A byte of a block of one's own is written. -/
theorem own_byte {w a : World} {L : List (Nat × TypeId × List Value)} (k : Nat) {g i : Nat} {t : TypeId} {l : List Int} {v : Int} {K : World → Prop} (h : Own w a L) (hk : L[k]? = some (g, t, bv l)) (hi : i < l.length) (hn : ∀ w1, Own w w1 (L.set k (g, t, bv (l.set i v))) → K w1) :
    MayC a ⟨g, i, none⟩ ∧ Let (a.setCell ⟨g, i, none⟩ (.int .u8 v)) K := own_set k h hk (by rw [bv_len]; exact hi) fun w1 H => hn w1 (by
    have e : (bv l).set i (.int .u8 v) = bv (l.set i v) := by unfold bv; rw [List.map_set]
    rwa [e] at H)
theorem ret_open {w w' : World} {e : Ending} {b : List Int} {o : Ot} {f : Fr} (h0 : oBad b = 0) (h1 : rO (pkOf b) 0 = o) (h2 : rF (pkOf b) 0 = f) (k : RetOp w (pkOf b) (oBad b) e w') : Bel w w' ∧ ∃ A c, e = .returned (.tuple #[.agg (ov o).toArray, .agg (fv f A f.body.length c).toArray, .int .i64 0]) ∧ By w' A f.body.length f.body ∧ Fre w A := by
  rw [h0] at k
  obtain ⟨k1, A, c, e1, y, fr⟩ := k
  rw [h1, h2] at e1
  rw [h2] at y
  exact ⟨k1, A, c, e1, y, fr⟩
section
variable {w : World} {o : Ot} (ho : o.Fine) {f : Fr} {A : Option Addr} {n c : Nat} (hf : f.Fine) (hA : By w A n f.body) (hz : sErr o f = 0) {fl r0 r1 r2 r3 : Int} (hfl : 0 ≤ fl ∧ fl ≤ 255) (h0 : 0 ≤ r0 ∧ r0 ≤ 255) (h1 : 0 ≤ r1 ∧ r1 ≤ 255) (h2 : 0 ≤ r2 ∧ r2 ≤ 255) (h3 : 0 ≤ r3 ∧ r3 ≤ 255)
include ho hf hA hz hfl h0 h1 h2 h3
theorem Reserved_j2 {wa : World} {g N : Nat} {x : Int} (hN : N = 50 + f.body.length) {M : List (Nat × TypeId × List Value)}
    (H : Own w wa ((g, 5, bv (gH o ((50 + f.body.length : Nat) : Int) ((30 + f.body.length : Nat) : Int) (gPk o f 8 0 0 0 0).sum ++ (gV o x r0 r1 r2 r3 ++ f.bytes))) :: M)) : weftlaw7_TunnelReserved.J2 fl (some ⟨g, 0, none⟩) N N wa (Yes w) := by
  unfold weftlaw7_TunnelReserved.J2; intros
  rw [weftlaw7_TunnelReserved.j2_eq]
  have hx := not8 hfl
  have hlen : ∀ x, (gH o ((50 + f.body.length : Nat) : Int) ((30 + f.body.length : Nat) : Int) (gPk o f 8 0 0 0 0).sum ++ (gV o x r0 r1 r2 r3 ++ f.bytes)).length = N := fun x => by
    rw [List.length_append, gV_len]
    show 28 + _ = _
    omega
  generalize Go.bits .andNot .u8 fl 8 = x2 at *
  refine let_as x2 rfl ⟨_, rfl, ⟨by decide, by omega⟩, ?_⟩
  rw [add_blk, Nat.zero_add]
  refine own_byte 0 H rfl (by rw [hlen]; omega) fun w2 H => ?_
  rw [(gPk_set o _ _ _ f.bytes x r0 r1 r2 r3 x2).1] at H
  obtain ⟨q1, q2, q3, q4, q5⟩ := gOpen ho hf hz hx.1 h0 h1 h2 h3 rfl
  have y := (H.bk 0 rfl).by
  rw [hlen] at y
  have hl5 := ferr_len (sErr_zero hz).2.2
  refine call_of (Open_c y q4 (Nat.le_refl _) (by omega)) ?_
  rintro e w3 ⟨k3, D, q, rfl, _, _⟩
  rw [q1, if_pos hx.2]
  exact ⟨_, _, _, _, _, _, _, _, _, _, _, _, _, _, _, _, _, _, _, _, _, _, _, rfl, rfl, H.bel.trans k3⟩
theorem Reserved_j1 {wa : World} {g g3 g4 g5 N : Nat} {t : TypeId} (hN : N = 50 + f.body.length)
    (H : Own w wa [(g, 5, bv (sOut o f)), (g5, t, [.int .u8 r0, .int .u8 r1, .int .u8 r2, .int .u8 r3]), (g4, 46, fv f A n c), (g3, 50, ov o)]) : weftlaw7_TunnelReserved.J1 fl g3 g4 g5 (some ⟨g, 0, none⟩) N N wa (Yes w) := by
  unfold weftlaw7_TunnelReserved.J1; intros
  rw [weftlaw7_TunnelReserved.j1_eq]
  have hx := or8 hfl
  have hl5 := ferr_len (sErr_zero hz).2.2
  have hlen : ∀ x r0 r1 r2 r3, (gH o ((50 + f.body.length : Nat) : Int) ((30 + f.body.length : Nat) : Int) (gPk o f 8 0 0 0 0).sum ++ (gV o x r0 r1 r2 r3 ++ f.bytes)).length = N := fun x r0 r1 r2 r3 => by
    rw [List.length_append, gV_len]
    show 28 + _ = _
    omega
  rw [gPk_own' o f hz] at H
  generalize Go.bits .or .u8 fl 8 = x1 at *
  refine let_as x1 rfl ⟨_, rfl, ⟨by decide, by omega⟩, ?_⟩
  rw [add_blk, Nat.zero_add]
  refine own_byte 0 H rfl (by rw [hlen]; omega) fun w2 H => ?_
  rw [(gPk_set o _ _ _ f.bytes 8 0 0 0 0 x1).1] at H
  refine ⟨⟨by decide, by decide⟩, _, H.cell 1 0 rfl rfl, _, rfl, ⟨by decide, by omega⟩, ?_⟩
  rw [add_blk, Nat.zero_add]
  refine own_byte 0 H rfl (by rw [hlen]; omega) fun w3 H => ?_
  rw [(gPk_set o _ _ _ f.bytes x1 0 0 0 0 r0).2.1] at H
  refine ⟨⟨by decide, by decide⟩, _, H.cell 1 1 rfl rfl, _, rfl, ⟨by decide, by omega⟩, ?_⟩
  rw [add_blk, Nat.zero_add]
  refine own_byte 0 H rfl (by rw [hlen]; omega) fun w4 H => ?_
  rw [(gPk_set o _ _ _ f.bytes x1 r0 0 0 0 r1).2.2.1] at H
  refine ⟨⟨by decide, by decide⟩, _, H.cell 1 2 rfl rfl, _, rfl, ⟨by decide, by omega⟩, ?_⟩
  rw [add_blk, Nat.zero_add]
  refine own_byte 0 H rfl (by rw [hlen]; omega) fun w5 H => ?_
  rw [(gPk_set o _ _ _ f.bytes x1 r0 r1 0 0 r2).2.2.2.1] at H
  refine ⟨⟨by decide, by decide⟩, _, H.cell 1 3 rfl rfl, _, rfl, ⟨by decide, by omega⟩, ?_⟩
  rw [add_blk, Nat.zero_add]
  refine own_byte 0 H rfl (by rw [hlen]; omega) fun w6 H => ?_
  rw [(gPk_set o _ _ _ f.bytes x1 r0 r1 r2 0 r3).2.2.2.2] at H
  obtain ⟨q1, q2, q3, q4, q5⟩ := gOpen ho hf hz hx.1 h0 h1 h2 h3 rfl
  have y := (H.bk 0 rfl).by
  rw [hlen] at y
  refine call_of (Open_c y q4 (Nat.le_refl _) (by omega)) ?_
  rintro e w7 he
  obtain ⟨k7, D, j, rfl, yf, ff⟩ := ret_open (by rw [q1, if_neg hx.2]) q2 q3 he
  replace H := H.call k7
  refine ⟨_, _, _, _, _, _, _, _, _, _, _, _, _, _, _, _, _, _, _, _, _, _, _, rfl, ?_⟩
  refine own_newC (l := ov oz) H fun g1 w8' H k8 hg8 => ?_
  refine own_newC (l := fv fz none 0 0) H fun g2 w9 H k9 hg9 => ?_
  have zy := (yf.bel k8).newer hg9
  have zy1 := yf.newer hg8
  replace yf := (yf.bel k8).bel k9
  refine own_putB 1 H rfl rfl (by decide) fun w10 H u10 => ?_
  replace yf := yf.but1 u10 zy1
  refine own_putB 0 H rfl rfl (by decide) fun w11 H u11 => ?_
  replace yf := yf.but1 u11 zy
  refine ifN (fun h => absurd rfl h) (fun _ => ?_)
  refine ld_ou (o := o) (H.bk 1 rfl) ?_
  refine ld_ou (o := o) (H.bk 5 rfl) ?_
  refine ifNO ?_
  refine ld_fr (f := f) (H.bk 4 rfl) ?_
  refine ld_fr (f := f) (A := D) (n := f.body.length) (c := j) (H.bk 0 rfl) ?_
  refine call_of (sameFrame_t (hA.bel H.bel) yf (by rw [← hA.len]; omega)) ?_
  rintro e w12 ⟨rfl, k12⟩
  replace H := H.call k12
  refine ⟨_, rfl, ifNot (fun h => by cases h) (fun _ => ?_)⟩
  have k := Reserved_j2 ho hf hA hz hfl h0 h1 h2 h3 hN H.tail.tail
  exact ⟨by with_reducible apply k⟩
end
theorem TunnelReserved_t {w : World} {o : Ot} (ho : o.Fine) {f : Fr} {A : Option Addr} {n c : Nat} (h : f.Fine ∧ By w A n f.body ∧ n ≤ c ∧ f.body.length ≤ 1048576) {fl : Int} (hfl : 0 ≤ fl ∧ fl ≤ 255) {z : List Int} (hz4 : z.length = 4 ∧ Bytes z) :
    Calls Try.prog 10 #[.agg (ov o).toArray, .agg (fv f A n c).toArray, .int .u8 fl, .agg (bv z).toArray] w (Yes w) := by
  obtain ⟨hf, hA, _, hlb⟩ := h
  obtain ⟨z4, zb⟩ := hz4
  obtain ⟨r0, z, rfl⟩ := uncons (b := z) (by omega)
  simp only [List.length_cons] at z4
  obtain ⟨r1, z, rfl⟩ := uncons (b := z) (by omega)
  simp only [List.length_cons] at z4
  obtain ⟨r2, z, rfl⟩ := uncons (b := z) (by omega)
  simp only [List.length_cons] at z4
  obtain ⟨r3, z, rfl⟩ := uncons (b := z) (by omega)
  simp only [List.length_cons] at z4
  obtain rfl : z = [] := List.eq_nil_of_length_eq_zero (by omega)
  have h0 := zb.getD 0
  have h1 := zb.getD 1
  have h2 := zb.getD 2
  have h3 := zb.getD 3
  refine weftlaw7_TunnelReserved.run ?_
  unfold weftlaw7_TunnelReserved.s
  have hl := hA.len
  refine own_new (l := ov o) (Own.refl w) fun g1 w2 H => ?_
  refine own_new (l := fv f A n c) H fun g3 w4 H => ?_
  refine own_new (l := [.int .u8 r0, .int .u8 r1, .int .u8 r2, .int .u8 r3]) H fun g5 w5 H => ?_
  refine call_of (begun_t w5) ?_
  rintro e w6 ⟨rfl, k6⟩
  replace H := H.call k6
  refine ⟨_, rfl, ifNot (fun h => by cases h) (fun _ => ?_)⟩
  refine ld_ou (H.bk 2 rfl) ?_
  refine ld_fr (H.bk 1 rfl) ?_
  refine call_of (sealable_t hl) ?_
  rintro e w7 ⟨rfl, k7⟩
  replace H := H.call k7
  refine ⟨_, rfl, ifNot (fun h => ?_) (fun h => ?_)⟩
  · exact ⟨rfl, H.bel⟩
  · have hz : sErr o f = 0 := of_decide_eq_true h
    refine ld_ou (H.bk 2 rfl) ?_
    refine ld_fr (H.bk 1 rfl) ?_
    refine call_of (SealO_c ho hf (hA.bel H.bel)) ?_
    rintro e w8' ⟨_, he⟩
    obtain ⟨g, rfl, Hg⟩ := he hz
    replace H := Own.join H Hg
    have hq := sOut_n ho hf hz
    refine ⟨_, _, _, _, rfl, ?_⟩
    refine ifN (fun h => absurd rfl h) (fun _ => ?_)
    refine ifD (fun h => by omega) (fun _ => ?_)
    have k := Reserved_j1 ho hf hA hz hfl h0 h1 h2 h3 hq H
    exact ⟨by with_reducible apply k⟩
end Go.Proofs.YtleelkkddjldnaaS
