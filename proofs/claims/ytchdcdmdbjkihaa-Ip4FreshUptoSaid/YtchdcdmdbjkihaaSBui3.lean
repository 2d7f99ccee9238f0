/- Package weftlaw3: built.
   Conditions: the step is as a row's argument holds it. -/
import Derived.Test.YtchdcdmdbjkihaaSHand3
namespace Go.Proofs.YtchdcdmdbjkihaaS
open Go Go.RowKit Go.Proofs Go.Proofs.YtchdcdmdbjkihaaX
set_option maxRecDepth 100000
set_option linter.unusedVariables false
set_option linter.unusedSectionVars false
set_option linter.unusedSimpArgs false
section
variable {w0 w : World} {g : Nat} {R : List Blk} {Zb : Int} {o : Op3} {Z : Option Addr} {zn zc : Nat} {Y : Option Addr} {yn yc : Nat} {A : Option Addr} {n c : Nat} {B : Option Addr} {m d : Nat} {P : Option Addr} {pn pc : Nat} {g1 g22 g18 gb go : Nat}
def RetB3 (w0 : World) (g : Nat) (R : List Blk) (Zb : Int) (P : Option Addr) (pn pc : Nat) (e : Ending) (w' : World) : Prop := e = .returned (.tuple #[.slice P pn pc, .bool true]) ∧ Hold w0 w' g R Zb P pc none 0
def RetB4 (w0 : World) (g : Nat) (R : List Blk) (Zb : Int) (e : Ending) (w' : World) : Prop := ∃ (P : Option Addr) (pn pc : Nat), RetB3 w0 g R Zb P pn pc e w' ∧ pn ≤ pc ∧ pn ≤ 1000000000
abbrev bst (o : Op3) (Z : Option Addr) (zn zc : Nat) (Y : Option Addr) (yn yc n m g22 g18 gb go : Nat) (p1 : Blk) (bb oo : List Int) (R : List Blk) : List Blk :=
  (g18, 39, opv o Z zn zc Y yn yc (some ⟨go, 0, none⟩) n (n + 64) (some ⟨gb, 0, none⟩) m (m + 64)) :: (g22, 37, pb o.p (some ⟨go, 0, none⟩) n (n + 64) (some ⟨gb, 0, none⟩) m (m + 64)) :: (gb, 5, bv (bb ++ rm)) :: (go, 5, bv (oo ++ rm)) :: p1 :: R
set_option maxHeartbeats 1000000 in
theorem built_l1 (ho : o.Fine) (hx : OpAt w0 o Z zn zc Y yn yc A n c B m d) (sn : n ≤ 1000000000) (sm : m ≤ 1000000000) (hp : pn ≤ pc) (hp9 : pn ≤ 1000000000) {p1 : Blk} : ∀ (q i : Nat) (w : World) (bb oo : List Int), 2 - i < q → i ≤ 2 → bb.length = m → oo.length = n → Bytes bb → Bytes oo →
    Hold w0 w g (bst o Z zn zc Y yn yc n m g22 g18 gb go p1 bb oo R) Zb P pc none 0 → weftlaw3_built.L1 q g22 P pn pc true g18 (i : Int) w (RetB4 w0 g R Zb) := by
  intro q
  induction q with
  | zero => intro i w bb oo h; omega
  | succ q ih =>
    intro i w bb oo hq hi hbl hol hbb hoo H
    unfold weftlaw3_built.L1; intros
    rw [weftlaw3_built.l1_eq]
    refine ifD (fun h1 => ?_) (fun h1 => ⟨P, pn, pc, ⟨rfl, H.tail.tail.tail.tail.tail⟩, hp, hp9⟩)
    refine ifB (fun _ => ?_) (fun h => by cases h)
    refine ⟨?_⟩
    rw [weftlaw3_built.j2_eq]
    refine ⟨_, _, _, H.own.cell 1 10 rfl rfl, ?_⟩
    refine ifE (fun h2 => ?_) (fun h2 => ?_)
    · refine ⟨_, _, _, H.own.cell 1 9 rfl rfl, ?_⟩
      refine ⟨?_⟩
      rw [weftlaw3_built.j3_eq]
      refine ifD (fun h3 => ?_) (fun h3 => ?_)
      · have hk : n - 1 < (oo).length := by omega
        refine let_as ((n - 1 : Nat) : Int) (by rw [w64 (by omega) (by omega)]; omega) ?_
        refine let_as ((n - 1 : Nat) : Int) (by rw [w64 (by omega) (by omega)]; omega) ?_
        refine ⟨_, rfl, ⟨by omega, by omega⟩, (oo).getD (n - 1) 0, ?_, ?_⟩
        · rw [Int.toNat_natCast, add_blk, Nat.zero_add]
          have := (H.own.bk 3 rfl).cell (n - 1) (bv_get (oo ++ rm) (n - 1) (by rw [List.length_append]; omega))
          rw [getD_room hk] at this
          exact this
        refine let_id ?_
        refine ⟨_, rfl, ⟨by omega, by omega⟩, ?_⟩
        rw [Int.toNat_natCast, add_blk, Nat.zero_add]
        refine hold_set 3 H rfl (by rw [bv_len, List.length_append]; omega) fun w1 H1 => ?_
        rw [bv_set, set_room hk] at H1
        have hr := xor8 (hoo.getD (n - 1)) (show (0 : Int) ≤ 1 ∧ (1 : Int) ≤ 255 by decide)
        generalize Go.bits .xor .u8 ((oo).getD (n - 1) 0) 1 = y at H1 hr ⊢
        have hb' := bset hoo (n - 1) hr
        have hl' : ((oo).set (n - 1) y).length = n := by rw [List.length_set]; exact hol
        generalize (oo).set (n - 1) y = l' at H1 hb' hl'
        replace H1 : Hold w0 w1 g (bst o Z zn zc Y yn yc n m g22 g18 gb go p1 bb l' R) Zb P pc none 0 := H1
        refine ⟨_, _, _, _, _, _, _, _, _, _, _, _, _, _, _, _, _, _, _, _, _, _, _, _, _, ⟨rfl, (H1.own.bk 0 rfl).at⟩, ?_⟩
        have hpl : Calls Try.prog 33 #[.agg (opv o Z zn zc Y yn yc (some ⟨go, 0, none⟩) n (n + 64) (some ⟨gb, 0, none⟩) m (m + 64)).toArray] w1 (Yes w1) :=
          plays_t (o := { o with p := { o.p with opts := l', body := bb } }) ⟨ho.b, ho.lb, ho.ps, ho.lp, ho.ln, ho.x, ho.y, ho.z, ⟨ho.p.tos, ho.p.id, ho.p.off, ho.p.ttl, ho.p.proto, ho.p.src, ho.p.dst, hb', hbb, by show (l').length ≤ _; omega, by show (bb).length ≤ _; omega⟩⟩
            ⟨hx.b.bel H1.own.bel, hx.cb, hx.ps.bel H1.own.bel, ⟨(room_by H1.own 3 rfl hl').1, (room_by H1.own 2 rfl hbl).1, Nat.le_add_right _ _, Nat.le_add_right _ _⟩⟩
        refine call_of hpl ?_
        rintro e w2 ⟨rfl, k2⟩
        refine ⟨_, rfl, ?_⟩
        refine let_as ((i + 1 : Nat) : Int) (by rw [w64 (by omega) (by omega)]; omega) ?_
        have kk := ih (i + 1) w2 bb l' (by omega) (by omega) hbl hl' hbb hb' (H1.call k2)
        with_reducible apply kk
      · refine let_as ((i + 1 : Nat) : Int) (by rw [w64 (by omega) (by omega)]; omega) ?_
        have kk := ih (i + 1) w bb oo (by omega) (by omega) hbl hol hbb hoo H
        with_reducible apply kk
    · refine ⟨?_⟩
      rw [weftlaw3_built.j3_eq]
      refine ifD (fun h3 => ?_) (fun h3 => ?_)
      · have hk : m - 1 < (bb).length := by omega
        refine let_as ((m - 1 : Nat) : Int) (by rw [w64 (by omega) (by omega)]; omega) ?_
        refine let_as ((m - 1 : Nat) : Int) (by rw [w64 (by omega) (by omega)]; omega) ?_
        refine ⟨_, rfl, ⟨by omega, by omega⟩, (bb).getD (m - 1) 0, ?_, ?_⟩
        · rw [Int.toNat_natCast, add_blk, Nat.zero_add]
          have := (H.own.bk 2 rfl).cell (m - 1) (bv_get (bb ++ rm) (m - 1) (by rw [List.length_append]; omega))
          rw [getD_room hk] at this
          exact this
        refine let_id ?_
        refine ⟨_, rfl, ⟨by omega, by omega⟩, ?_⟩
        rw [Int.toNat_natCast, add_blk, Nat.zero_add]
        refine hold_set 2 H rfl (by rw [bv_len, List.length_append]; omega) fun w1 H1 => ?_
        rw [bv_set, set_room hk] at H1
        have hr := xor8 (hbb.getD (m - 1)) (show (0 : Int) ≤ 1 ∧ (1 : Int) ≤ 255 by decide)
        generalize Go.bits .xor .u8 ((bb).getD (m - 1) 0) 1 = y at H1 hr ⊢
        have hb' := bset hbb (m - 1) hr
        have hl' : ((bb).set (m - 1) y).length = m := by rw [List.length_set]; exact hbl
        generalize (bb).set (m - 1) y = l' at H1 hb' hl'
        replace H1 : Hold w0 w1 g (bst o Z zn zc Y yn yc n m g22 g18 gb go p1 l' oo R) Zb P pc none 0 := H1
        refine ⟨_, _, _, _, _, _, _, _, _, _, _, _, _, _, _, _, _, _, _, _, _, _, _, _, _, ⟨rfl, (H1.own.bk 0 rfl).at⟩, ?_⟩
        have hpl : Calls Try.prog 33 #[.agg (opv o Z zn zc Y yn yc (some ⟨go, 0, none⟩) n (n + 64) (some ⟨gb, 0, none⟩) m (m + 64)).toArray] w1 (Yes w1) :=
          plays_t (o := { o with p := { o.p with opts := oo, body := l' } }) ⟨ho.b, ho.lb, ho.ps, ho.lp, ho.ln, ho.x, ho.y, ho.z, ⟨ho.p.tos, ho.p.id, ho.p.off, ho.p.ttl, ho.p.proto, ho.p.src, ho.p.dst, hoo, hb', by show (oo).length ≤ _; omega, by show (l').length ≤ _; omega⟩⟩
            ⟨hx.b.bel H1.own.bel, hx.cb, hx.ps.bel H1.own.bel, ⟨(room_by H1.own 3 rfl hol).1, (room_by H1.own 2 rfl hl').1, Nat.le_add_right _ _, Nat.le_add_right _ _⟩⟩
        refine call_of hpl ?_
        rintro e w2 ⟨rfl, k2⟩
        refine ⟨_, rfl, ?_⟩
        refine let_as ((i + 1 : Nat) : Int) (by rw [w64 (by omega) (by omega)]; omega) ?_
        have kk := ih (i + 1) w2 l' oo (by omega) (by omega) hl' hol hb' hoo (H1.call k2)
        with_reducible apply kk
      · refine let_as ((i + 1 : Nat) : Int) (by rw [w64 (by omega) (by omega)]; omega) ?_
        have kk := ih (i + 1) w bb oo (by omega) (by omega) hbl hol hbb hoo H
        with_reducible apply kk
theorem built_t (ho : o.Fine) (hx : OpAt w0 o Z zn zc Y yn yc A n c B m d) (sn : n ≤ 1000000000) (sm : m ≤ 1000000000) (H : BkAt w0 w g R Zb) :
    Calls Try.prog 9 #[.agg (opv o Z zn zc Y yn yc A n c B m d).toArray] w (RetB4 w0 g R Zb) := by
  have l1 := hx.p.opts.len
  have l2 := hx.p.body.len
  refine weftlaw3_built.run ?_
  unfold weftlaw3_built.s
  refine pend_new (l := opv o Z zn zc Y yn yc A n c B m d) H fun g1 w1 H _ => ?_
  refine ⟨_, _, _, H.own.cell 0 15 rfl rfl, ?_⟩
  refine call_of (roomy_c (hx.p.opts.bel H.own.bel) (by omega)) ?_
  rintro e w2 ⟨go, rfl, k2⟩
  rw [l1]
  replace H : BkAt w0 w2 g ((go, 5, bv (o.p.opts ++ rm)) :: (g1, 39, opv o Z zn zc Y yn yc A n c B m d) :: R) Zb := H.join k2
  refine ⟨_, _, _, rfl, ?_⟩
  refine ⟨_, _, _, H.own.cell 1 16 rfl rfl, ?_⟩
  refine call_of (roomy_c (hx.p.body.bel H.own.bel) (by omega)) ?_
  rintro e w3 ⟨gb, rfl, k3⟩
  rw [l2]
  replace H : BkAt w0 w3 g ((gb, 5, bv (o.p.body ++ rm)) :: (go, 5, bv (o.p.opts ++ rm)) :: (g1, 39, opv o Z zn zc Y yn yc A n c B m d) :: R) Zb := H.join k3
  refine ⟨_, _, _, rfl, ?_⟩
  refine ld_pktA (opv_pkt (H.own.bk 2 rfl)) ?_
  refine pend_mk (pb pz none 0 0 none 0 0) H rfl rfl fun g22 w4 H _ => ?_
  refine ⟨_, _, _, H.own.cell 3 15 rfl rfl, ⟨by omega, by omega⟩, ?_⟩
  refine pend_set 0 H rfl (Nat.lt_of_lt_of_le (by decide : 9 < 11) (Nat.le_refl 11)) fun w5 H => ?_
  refine ⟨_, _, _, H.own.cell 3 16 rfl rfl, ⟨by omega, by omega⟩, ?_⟩
  refine pend_set 0 H rfl (Nat.lt_of_lt_of_le (by decide : 10 < 11) (Nat.le_refl 11)) fun w6 H => ?_
  replace H : BkAt w0 w6 g ((g22, 37, pb o.p (some ⟨go, 0, none⟩) n (n + 64) (some ⟨gb, 0, none⟩) m (m + 64)) :: (gb, 5, bv (o.p.body ++ rm)) :: (go, 5, bv (o.p.opts ++ rm)) :: (g1, 39, opv o Z zn zc Y yn yc A n c B m d) :: R) Zb := H
  have yo := (room_by H.own 2 rfl l1).1
  have yb := (room_by H.own 1 rfl l2).1
  refine ld_pkt (H.own.bk 0 rfl) ?_
  refine call_of (BuildB_c ho.p yo yb (Nat.le_add_right _ _)) ?_
  intro e w7 he
  have hbl := bldL_len (p := o.p)
  obtain ⟨k7, P, pc, rfl, y, t⟩ := he.two (by omega)
  have H2 := hold_of H k7 t.r t.a t.b
  replace yo := yo.bel k7
  replace yb := yb.bel k7
  refine ⟨_, _, _, _, rfl, ?_⟩
  refine ld_pktA (opv_pkt (H2.own.bk 3 rfl)) ?_
  refine call_of (Build3B_c ho.p (hx.p.bel H2.own.bel)) ?_
  rintro e w8 ⟨k8, P2, pc2, rfl, y2, _, _⟩
  replace y := y.bel k8
  replace yo := yo.bel k8
  replace yb := yb.bel k8
  replace H2 := H2.call k8
  refine ⟨_, _, _, _, rfl, ?_⟩
  refine ⟨_, _, _, H2.own.cell 0 9 rfl rfl, _, _, _, H2.own.cell 0 10 rfl rfl, ?_⟩
  refine hold_newB (l := [.slice (some ⟨go, 0, none⟩) n (n + 64), .slice (some ⟨gb, 0, none⟩) m (m + 64)]) H2 fun g61 w9 H3 b9 => ?_
  refine call_of (sum2_c (H3.own.bk 0 rfl) (yo.bel b9) (yb.bel b9) ho.p.opts ho.p.body (by omega) 2) ?_
  rintro e w10 ⟨rfl, k10⟩
  replace H3 := H3.call k10
  replace y := (y.bel b9).bel k10
  replace y2 := (y2.bel b9).bel k10
  refine ⟨_, rfl, ?_⟩
  refine ⟨_, _, _, H3.own.cell 4 15 rfl rfl, _, _, _, H3.own.cell 4 16 rfl rfl, ?_⟩
  refine hold_newB (l := [.slice A n c, .slice B m d]) H3 fun g68 w11 H4 b11 => ?_
  have s3 : Calls Try.prog 38 #[.slice (some ⟨g68, 0, none⟩) 2 2] w11 (Ret (.int .u16 (65535 - S (tot true (o.p.opts ++ o.p.body)))) w11) := by
    have := sum3_c (c := 2) (Bys.two (H4.own.bk 0 rfl) (hx.p.opts.bel H4.own.bel) (hx.p.body.bel H4.own.bel)) (fun p hp => by
      rcases List.mem_cons.1 hp with rfl | hp
      · exact ho.p.opts
      · rw [List.mem_singleton.1 hp]; exact ho.p.body) (by simp; omega) (by omega)
    simpa using this
  refine call_of s3 ?_
  rintro e w12 ⟨rfl, k12⟩
  replace H4 := H4.call k12
  replace y := (y.bel b11).bel k12
  replace y2 := (y2.bel b11).bel k12
  refine ⟨_, rfl, ifE (fun _ => ?_) (fun h => absurd rfl h)⟩
  refine call_of (same_t y y2 (by omega)) ?_
  rintro e w13 ⟨rfl, k13⟩
  replace H4 := H4.call k13
  refine ⟨_, rfl, ifB (fun _ => ?_) (fun h => by cases h)⟩
  refine ⟨_, _, _, H4.own.cell 5 15 rfl rfl, ?_⟩
  refine call_of (kept_c (room_by H4.own 4 rfl l1).2 (hx.p.opts.bel H4.own.bel) (by omega)) ?_
  rintro e w14 ⟨rfl, k14⟩
  replace H4 := H4.call k14
  refine ⟨_, rfl, ifB (fun _ => ?_) (fun h => by cases h)⟩
  refine ⟨_, _, _, H4.own.cell 5 16 rfl rfl, ?_⟩
  refine call_of (kept_c (room_by H4.own 3 rfl l2).2 (hx.p.body.bel H4.own.bel) (by omega)) ?_
  rintro e w15 ⟨rfl, k15⟩
  replace H4 := H4.call k15
  refine ⟨_, rfl, ?_⟩
  refine ⟨?_⟩
  rw [weftlaw3_built.j1_eq]
  refine ⟨_, _, _, _, _, _, _, _, _, _, _, _, _, _, _, _, _, _, _, _, _, _, _, _, _, ⟨rfl, (H4.own.bk 5 rfl).at⟩, ?_⟩
  refine hold_mk (opv zop none 0 0 none 0 0 none 0 0 none 0 0) H4 rfl rfl fun g18 w16 H5 => ?_
  refine ld_pkt (H5.own.bk 3 rfl) ?_
  refine hold_put 0 H5 rfl rfl (Nat.le_refl 17) fun w17 H6 => ?_
  replace H6 : Hold w0 w17 g ((g18, 39, opv o Z zn zc Y yn yc (some ⟨go, 0, none⟩) n (n + 64) (some ⟨gb, 0, none⟩) m (m + 64)) :: (g68, 30, [.slice A n c, .slice B m d]) :: (g61, 30, [.slice (some ⟨go, 0, none⟩) n (n + 64), .slice (some ⟨gb, 0, none⟩) m (m + 64)]) :: (g22, 37, pb o.p (some ⟨go, 0, none⟩) n (n + 64) (some ⟨gb, 0, none⟩) m (m + 64)) :: (gb, 5, bv (o.p.body ++ rm)) :: (go, 5, bv (o.p.opts ++ rm)) :: (g1, 39, opv o Z zn zc Y yn yc A n c B m d) :: R) Zb P pc none 0 := H6
  have H7 : Hold w0 w17 g (bst o Z zn zc Y yn yc n m g22 g18 gb go (g1, 39, opv o Z zn zc Y yn yc A n c B m d) o.p.body o.p.opts R) Zb P pc none 0 := ((H6.perm (List.Perm.swap _ _ _)).tail.perm (List.Perm.swap _ _ _)).tail
  obtain ⟨q, hq⟩ : ∃ q : Nat, q = 3 := ⟨3, rfl⟩
  refine ⟨q, ?_⟩
  have kk : weftlaw3_built.L1 q g22 P (bldL o.p).length pc true g18 0 w17 (RetB4 w0 g R Zb) := built_l1 ho hx sn sm t.nc (by omega) q 0 w17 o.p.body o.p.opts (by omega) (by omega) l2 l1 ho.p.body ho.p.opts H7
  with_reducible apply kk
end
end Go.Proofs.YtchdcdmdbjkihaaS
