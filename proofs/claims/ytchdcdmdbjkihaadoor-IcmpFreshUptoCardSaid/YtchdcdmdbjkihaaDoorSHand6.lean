/- Package weftlaw6: handed.
   Conditions: the step is as a row's argument holds it; the package variables are as they were laid. -/
import Derived.Test.YtchdcdmdbjkihaaDoorSKeepD
import Derived.Test.YtchdcdmdbjkihaaDoorSAns6
namespace Go.Proofs.YtchdcdmdbjkihaaDoorS
open Go Go.RowKit Go.Proofs Go.Proofs.YtchdcdmdbjkihaaDoorX
set_option maxRecDepth 100000
set_option linter.unusedVariables false
set_option linter.unusedSectionVars false
set_option linter.unusedSimpArgs false

theorem room_by {w0 w : World} {L : List Blk} (h : Own w0 w L) (k : Nat) {gx : Nat} {l : List Int} (hk : L[k]? = some (gx, 5, bv (l ++ rm))) {n : Nat} (hl : l.length = n) : By w (some ⟨gx, 0, none⟩) n l ∧ By w (some ⟨gx, 0, none⟩) (n + 64) (l ++ rm) := by
  have hw := (h.bk k hk).by
  rw [List.length_append, rm_len, hl] at hw
  refine ⟨?_, hw⟩
  have := hw.take (k := n) (by omega)
  rwa [List.take_left' hl] at this
def RetH (w0 : World) (g : Nat) (R : List Blk) (Zb : Int) (e : Ending) (w' : World) : Prop := e = .returned (.bool true) ∧ BkAt w0 w' g R Zb
section
variable {w0 w : World} (hg : Gl w0) {g : Nat} {R M : List Blk} {Zb : Int} {o : Op6} {zn cn n m : Nat} {gi gt go gb g40 ga : Nat}
/-- The step's lists with room behind them. -/
abbrev rms (o : Op6) (gi gt go gb g40 zn cn n m : Nat) (R : List Blk) : List Blk :=
  (g40, 41, ov o (some ⟨gi, 0, none⟩) zn (zn + 64) (some ⟨gt, 0, none⟩) cn (cn + 64) (some ⟨go, 0, none⟩) n (n + 64) (some ⟨gb, 0, none⟩) m (m + 64)) :: (gt, 5, bv (o.q.body ++ rm)) :: (gb, 5, bv (o.p.body ++ rm)) :: (go, 5, bv (o.p.opts ++ rm)) :: (gi, 5, bv (o.b ++ rm)) :: R
structure Lns (o : Op6) (zn cn n m : Nat) : Prop where
  b : o.b.length = zn
  q : o.q.body.length = cn
  p : o.p.opts.length = n
  l : o.p.body.length = m
theorem rms_at {L : List Blk} {j : Nat} (h : Own w0 w L) (h1 : L[j]? = some (gt, 5, bv (o.q.body ++ rm))) (h2 : L[j + 1]? = some (gb, 5, bv (o.p.body ++ rm))) (h3 : L[j + 2]? = some (go, 5, bv (o.p.opts ++ rm))) (h4 : L[j + 3]? = some (gi, 5, bv (o.b ++ rm))) (hl : Lns o zn cn n m) :
    OpAt w o (some ⟨gi, 0, none⟩) zn (zn + 64) (some ⟨gt, 0, none⟩) cn (cn + 64) (some ⟨go, 0, none⟩) n (n + 64) (some ⟨gb, 0, none⟩) m (m + 64) :=
  ⟨(room_by h _ h4 hl.b).1, Nat.le_add_right _ _, (room_by h _ h1 hl.q).1, ⟨(room_by h _ h3 hl.p).1, (room_by h _ h2 hl.l).1, Nat.le_add_right _ _, Nat.le_add_right _ _⟩⟩
theorem set_room {l : List Int} {k : Nat} {y : Int} (h : k < l.length) : (l ++ rm).set k y = l.set k y ++ rm := by rw [List.set_append_left _ _ h]
theorem getD_room {l : List Int} {k : Nat} (h : k < l.length) : (l ++ rm).getD k 0 = l.getD k 0 := by rw [List.getD_eq_getElem?_getD, List.getD_eq_getElem?_getD, List.getElem?_append_left h]
include hg
set_option maxHeartbeats 4000000 in
theorem hand_l1 : ∀ (q i : Nat) (w : World) (o : Op6), 4 - i < q → i ≤ 4 → o.Fine → Lns o zn cn n m → zn ≤ 1000000000 → cn ≤ 1000000000 → n ≤ 1000000000 → m ≤ 1000000000 →
    BkAt w0 w g ((ga, 30, [.slice (some ⟨gi, 0, none⟩) zn (zn + 64), .slice (some ⟨gb, 0, none⟩) m (m + 64), .slice (some ⟨go, 0, none⟩) n (n + 64), .slice (some ⟨gt, 0, none⟩) cn (cn + 64)]) :: rms o gi gt go gb g40 zn cn n m (M ++ R)) Zb →
    weftlaw6_handed.L1 q g40 (some ⟨ga, 0, none⟩) 4 4 (i : Int) w (RetH w0 g R Zb) := by
  intro q
  induction q with
  | zero => intro i w o h; omega
  | succ q ih =>
    intro i w o hq hi ho hl s1 s2 s3 s4 H
    unfold weftlaw6_handed.L1; intros
    rw [weftlaw6_handed.l1_eq]
    refine ifD (fun h1 => ?_) (fun h1 => ⟨rfl, Pend.less (Pend.less (L := [_, _, _, _, _, _]) H)⟩)
    refine ⟨_, rfl, ⟨by omega, by omega⟩, ?_⟩
    rw [Int.toNat_natCast]
    match i, hi, h1 with
    | 0, hi, h1 =>
      refine ⟨_, _, _, H.own.cell 0 0 rfl rfl, ?_⟩
      refine ifD (fun h2 => ?_) (fun h2 => ?_)
      · refine draws (fun w' => BkAt w0 w' g ((ga, 30, [.slice (some ⟨gi, 0, none⟩) zn (zn + 64), .slice (some ⟨gb, 0, none⟩) m (m + 64), .slice (some ⟨go, 0, none⟩) n (n + 64), .slice (some ⟨gt, 0, none⟩) cn (cn + 64)]) :: rms o gi gt go gb g40 zn cn n m (M ++ R)) Zb) (H.call (Bel.refl w).drew) fun w2 e2 => ?_
        replace H := H.call (Bel.refl w).drew
        rw [← e2] at H
        have hlen := hl.b
        have hnn : zn - 1 < (o.b).length := by omega
        refine ⟨_, rfl, ⟨by omega, by omega⟩, _, _, _, fun w' h => h.own.cell 0 0 rfl rfl, ?_⟩
        refine let_as ((zn - 1 : Nat) : Int) (by rw [w64 (by omega) (by omega)]; omega) ?_
        refine ⟨_, rfl, ⟨by omega, by omega⟩, _, _, _, fun w' h => h.own.cell 0 0 rfl rfl, ?_⟩
        refine let_as ((zn - 1 : Nat) : Int) (by rw [w64 (by omega) (by omega)]; omega) ?_
        refine ⟨_, rfl, ⟨by omega, by omega⟩, (o.b).getD (zn - 1) 0, fun w' h => ?_, ?_⟩
        · rw [Int.toNat_natCast, add_blk, Nat.zero_add]
          have := (h.own.bk 5 rfl).cell (zn - 1) (bv_get (o.b ++ rm) (zn - 1) (by rw [List.length_append]; omega))
          rw [getD_room hnn] at this
          exact this
        refine let_id ?_
        refine ⟨_, rfl, ⟨by omega, by omega⟩, ?_⟩
        rw [Int.toNat_natCast, add_blk, Nat.zero_add]
        refine pend_set 5 H rfl (by rw [bv_len, List.length_append]; omega) fun w3 H3 => ?_
        rw [bv_set, set_room hnn] at H3
        have hr := xor8 (ho.b.getD (zn - 1)) (show (0 : Int) ≤ 1 ∧ (1 : Int) ≤ 255 by decide)
        generalize Go.bits .xor .u8 ((o.b).getD (zn - 1) 0) 1 = y at H3 hr ⊢
        have H4 : BkAt w0 w3 g ((ga, 30, [.slice (some ⟨gi, 0, none⟩) zn (zn + 64), .slice (some ⟨gb, 0, none⟩) m (m + 64), .slice (some ⟨go, 0, none⟩) n (n + 64), .slice (some ⟨gt, 0, none⟩) cn (cn + 64)]) :: rms (upd o 0 ((o.b).set (zn - 1) y)) gi gt go gb g40 zn cn n m (M ++ R)) Zb := H3
        have hs := bset ho.b (zn - 1) hr
        have lset : ((o.b).set (zn - 1) y).length = (o.b).length := List.length_set ..
        have ho' : (upd o 0 ((o.b).set (zn - 1) y)).Fine := ⟨hs, ho.q, ho.p, ho.t, ho.cd, ho.src⟩
        have hl' : Lns (upd o 0 ((o.b).set (zn - 1) y)) zn cn n m := ⟨lset.trans hl.b, hl.q, hl.p, hl.l⟩
        generalize upd o 0 ((o.b).set (zn - 1) y) = o' at H4 ho' hl'
        refine ⟨_, _, _, _, _, _, _, _, _, _, _, _, _, _, _, _, _, _, _, _, _, _, _, _, _, _, _, _, _, ⟨rfl, (H4.own.bk 1 rfl).at⟩, ?_⟩
        refine call_of (plays_t (hg.bel H4.own.bel) ho' (rms_at (j := 2) H4.own rfl rfl rfl rfl hl')) ?_
        rintro e w4 ⟨rfl, k4⟩
        refine ⟨_, rfl, ifNot (fun h => by cases h) (fun _ => ?_)⟩
        refine let_as ((0 + 1 : Nat) : Int) (by rw [w64 (by omega) (by omega)]; rfl) ?_
        have kk := ih (0 + 1) w4 o' (by omega) (by omega) ho' hl' s1 s2 s3 s4 (H4.call k4)
        with_reducible apply kk
      · refine let_as ((0 + 1 : Nat) : Int) (by rw [w64 (by omega) (by omega)]; rfl) ?_
        have kk := ih (0 + 1) w o (by omega) (by omega) ho hl s1 s2 s3 s4 H
        with_reducible apply kk
    | 1, hi, h1 =>
      refine ⟨_, _, _, H.own.cell 0 1 rfl rfl, ?_⟩
      refine ifD (fun h2 => ?_) (fun h2 => ?_)
      · refine draws (fun w' => BkAt w0 w' g ((ga, 30, [.slice (some ⟨gi, 0, none⟩) zn (zn + 64), .slice (some ⟨gb, 0, none⟩) m (m + 64), .slice (some ⟨go, 0, none⟩) n (n + 64), .slice (some ⟨gt, 0, none⟩) cn (cn + 64)]) :: rms o gi gt go gb g40 zn cn n m (M ++ R)) Zb) (H.call (Bel.refl w).drew) fun w2 e2 => ?_
        replace H := H.call (Bel.refl w).drew
        rw [← e2] at H
        have hlen := hl.l
        have hnn : m - 1 < (o.p.body).length := by omega
        refine ⟨_, rfl, ⟨by omega, by omega⟩, _, _, _, fun w' h => h.own.cell 0 1 rfl rfl, ?_⟩
        refine let_as ((m - 1 : Nat) : Int) (by rw [w64 (by omega) (by omega)]; omega) ?_
        refine ⟨_, rfl, ⟨by omega, by omega⟩, _, _, _, fun w' h => h.own.cell 0 1 rfl rfl, ?_⟩
        refine let_as ((m - 1 : Nat) : Int) (by rw [w64 (by omega) (by omega)]; omega) ?_
        refine ⟨_, rfl, ⟨by omega, by omega⟩, (o.p.body).getD (m - 1) 0, fun w' h => ?_, ?_⟩
        · rw [Int.toNat_natCast, add_blk, Nat.zero_add]
          have := (h.own.bk 3 rfl).cell (m - 1) (bv_get (o.p.body ++ rm) (m - 1) (by rw [List.length_append]; omega))
          rw [getD_room hnn] at this
          exact this
        refine let_id ?_
        refine ⟨_, rfl, ⟨by omega, by omega⟩, ?_⟩
        rw [Int.toNat_natCast, add_blk, Nat.zero_add]
        refine pend_set 3 H rfl (by rw [bv_len, List.length_append]; omega) fun w3 H3 => ?_
        rw [bv_set, set_room hnn] at H3
        have hr := xor8 (ho.p.body.getD (m - 1)) (show (0 : Int) ≤ 1 ∧ (1 : Int) ≤ 255 by decide)
        generalize Go.bits .xor .u8 ((o.p.body).getD (m - 1) 0) 1 = y at H3 hr ⊢
        have H4 : BkAt w0 w3 g ((ga, 30, [.slice (some ⟨gi, 0, none⟩) zn (zn + 64), .slice (some ⟨gb, 0, none⟩) m (m + 64), .slice (some ⟨go, 0, none⟩) n (n + 64), .slice (some ⟨gt, 0, none⟩) cn (cn + 64)]) :: rms (upd o 2 ((o.p.body).set (m - 1) y)) gi gt go gb g40 zn cn n m (M ++ R)) Zb := H3
        have hs := bset ho.p.body (m - 1) hr
        have lset : ((o.p.body).set (m - 1) y).length = (o.p.body).length := List.length_set ..
        have ho' : (upd o 2 ((o.p.body).set (m - 1) y)).Fine := ⟨ho.b, ho.q, ⟨ho.p.tos, ho.p.id, ho.p.off, ho.p.ttl, ho.p.proto, ho.p.src, ho.p.dst, ho.p.opts, hs, ho.p.lo, Nat.le_trans (Nat.le_of_eq lset) ho.p.lb⟩, ho.t, ho.cd, ho.src⟩
        have hl' : Lns (upd o 2 ((o.p.body).set (m - 1) y)) zn cn n m := ⟨hl.b, hl.q, hl.p, lset.trans hl.l⟩
        generalize upd o 2 ((o.p.body).set (m - 1) y) = o' at H4 ho' hl'
        refine ⟨_, _, _, _, _, _, _, _, _, _, _, _, _, _, _, _, _, _, _, _, _, _, _, _, _, _, _, _, _, ⟨rfl, (H4.own.bk 1 rfl).at⟩, ?_⟩
        refine call_of (plays_t (hg.bel H4.own.bel) ho' (rms_at (j := 2) H4.own rfl rfl rfl rfl hl')) ?_
        rintro e w4 ⟨rfl, k4⟩
        refine ⟨_, rfl, ifNot (fun h => by cases h) (fun _ => ?_)⟩
        refine let_as ((1 + 1 : Nat) : Int) (by rw [w64 (by omega) (by omega)]; rfl) ?_
        have kk := ih (1 + 1) w4 o' (by omega) (by omega) ho' hl' s1 s2 s3 s4 (H4.call k4)
        with_reducible apply kk
      · refine let_as ((1 + 1 : Nat) : Int) (by rw [w64 (by omega) (by omega)]; rfl) ?_
        have kk := ih (1 + 1) w o (by omega) (by omega) ho hl s1 s2 s3 s4 H
        with_reducible apply kk
    | 2, hi, h1 =>
      refine ⟨_, _, _, H.own.cell 0 2 rfl rfl, ?_⟩
      refine ifD (fun h2 => ?_) (fun h2 => ?_)
      · refine draws (fun w' => BkAt w0 w' g ((ga, 30, [.slice (some ⟨gi, 0, none⟩) zn (zn + 64), .slice (some ⟨gb, 0, none⟩) m (m + 64), .slice (some ⟨go, 0, none⟩) n (n + 64), .slice (some ⟨gt, 0, none⟩) cn (cn + 64)]) :: rms o gi gt go gb g40 zn cn n m (M ++ R)) Zb) (H.call (Bel.refl w).drew) fun w2 e2 => ?_
        replace H := H.call (Bel.refl w).drew
        rw [← e2] at H
        have hlen := hl.p
        have hnn : n - 1 < (o.p.opts).length := by omega
        refine ⟨_, rfl, ⟨by omega, by omega⟩, _, _, _, fun w' h => h.own.cell 0 2 rfl rfl, ?_⟩
        refine let_as ((n - 1 : Nat) : Int) (by rw [w64 (by omega) (by omega)]; omega) ?_
        refine ⟨_, rfl, ⟨by omega, by omega⟩, _, _, _, fun w' h => h.own.cell 0 2 rfl rfl, ?_⟩
        refine let_as ((n - 1 : Nat) : Int) (by rw [w64 (by omega) (by omega)]; omega) ?_
        refine ⟨_, rfl, ⟨by omega, by omega⟩, (o.p.opts).getD (n - 1) 0, fun w' h => ?_, ?_⟩
        · rw [Int.toNat_natCast, add_blk, Nat.zero_add]
          have := (h.own.bk 4 rfl).cell (n - 1) (bv_get (o.p.opts ++ rm) (n - 1) (by rw [List.length_append]; omega))
          rw [getD_room hnn] at this
          exact this
        refine let_id ?_
        refine ⟨_, rfl, ⟨by omega, by omega⟩, ?_⟩
        rw [Int.toNat_natCast, add_blk, Nat.zero_add]
        refine pend_set 4 H rfl (by rw [bv_len, List.length_append]; omega) fun w3 H3 => ?_
        rw [bv_set, set_room hnn] at H3
        have hr := xor8 (ho.p.opts.getD (n - 1)) (show (0 : Int) ≤ 1 ∧ (1 : Int) ≤ 255 by decide)
        generalize Go.bits .xor .u8 ((o.p.opts).getD (n - 1) 0) 1 = y at H3 hr ⊢
        have H4 : BkAt w0 w3 g ((ga, 30, [.slice (some ⟨gi, 0, none⟩) zn (zn + 64), .slice (some ⟨gb, 0, none⟩) m (m + 64), .slice (some ⟨go, 0, none⟩) n (n + 64), .slice (some ⟨gt, 0, none⟩) cn (cn + 64)]) :: rms (upd o 3 ((o.p.opts).set (n - 1) y)) gi gt go gb g40 zn cn n m (M ++ R)) Zb := H3
        have hs := bset ho.p.opts (n - 1) hr
        have lset : ((o.p.opts).set (n - 1) y).length = (o.p.opts).length := List.length_set ..
        have ho' : (upd o 3 ((o.p.opts).set (n - 1) y)).Fine := ⟨ho.b, ho.q, ⟨ho.p.tos, ho.p.id, ho.p.off, ho.p.ttl, ho.p.proto, ho.p.src, ho.p.dst, hs, ho.p.body, Nat.le_trans (Nat.le_of_eq lset) ho.p.lo, ho.p.lb⟩, ho.t, ho.cd, ho.src⟩
        have hl' : Lns (upd o 3 ((o.p.opts).set (n - 1) y)) zn cn n m := ⟨hl.b, hl.q, lset.trans hl.p, hl.l⟩
        generalize upd o 3 ((o.p.opts).set (n - 1) y) = o' at H4 ho' hl'
        refine ⟨_, _, _, _, _, _, _, _, _, _, _, _, _, _, _, _, _, _, _, _, _, _, _, _, _, _, _, _, _, ⟨rfl, (H4.own.bk 1 rfl).at⟩, ?_⟩
        refine call_of (plays_t (hg.bel H4.own.bel) ho' (rms_at (j := 2) H4.own rfl rfl rfl rfl hl')) ?_
        rintro e w4 ⟨rfl, k4⟩
        refine ⟨_, rfl, ifNot (fun h => by cases h) (fun _ => ?_)⟩
        refine let_as ((2 + 1 : Nat) : Int) (by rw [w64 (by omega) (by omega)]; rfl) ?_
        have kk := ih (2 + 1) w4 o' (by omega) (by omega) ho' hl' s1 s2 s3 s4 (H4.call k4)
        with_reducible apply kk
      · refine let_as ((2 + 1 : Nat) : Int) (by rw [w64 (by omega) (by omega)]; rfl) ?_
        have kk := ih (2 + 1) w o (by omega) (by omega) ho hl s1 s2 s3 s4 H
        with_reducible apply kk
    | 3, hi, h1 =>
      refine ⟨_, _, _, H.own.cell 0 3 rfl rfl, ?_⟩
      refine ifD (fun h2 => ?_) (fun h2 => ?_)
      · refine draws (fun w' => BkAt w0 w' g ((ga, 30, [.slice (some ⟨gi, 0, none⟩) zn (zn + 64), .slice (some ⟨gb, 0, none⟩) m (m + 64), .slice (some ⟨go, 0, none⟩) n (n + 64), .slice (some ⟨gt, 0, none⟩) cn (cn + 64)]) :: rms o gi gt go gb g40 zn cn n m (M ++ R)) Zb) (H.call (Bel.refl w).drew) fun w2 e2 => ?_
        replace H := H.call (Bel.refl w).drew
        rw [← e2] at H
        have hlen := hl.q
        have hnn : cn - 1 < (o.q.body).length := by omega
        refine ⟨_, rfl, ⟨by omega, by omega⟩, _, _, _, fun w' h => h.own.cell 0 3 rfl rfl, ?_⟩
        refine let_as ((cn - 1 : Nat) : Int) (by rw [w64 (by omega) (by omega)]; omega) ?_
        refine ⟨_, rfl, ⟨by omega, by omega⟩, _, _, _, fun w' h => h.own.cell 0 3 rfl rfl, ?_⟩
        refine let_as ((cn - 1 : Nat) : Int) (by rw [w64 (by omega) (by omega)]; omega) ?_
        refine ⟨_, rfl, ⟨by omega, by omega⟩, (o.q.body).getD (cn - 1) 0, fun w' h => ?_, ?_⟩
        · rw [Int.toNat_natCast, add_blk, Nat.zero_add]
          have := (h.own.bk 2 rfl).cell (cn - 1) (bv_get (o.q.body ++ rm) (cn - 1) (by rw [List.length_append]; omega))
          rw [getD_room hnn] at this
          exact this
        refine let_id ?_
        refine ⟨_, rfl, ⟨by omega, by omega⟩, ?_⟩
        rw [Int.toNat_natCast, add_blk, Nat.zero_add]
        refine pend_set 2 H rfl (by rw [bv_len, List.length_append]; omega) fun w3 H3 => ?_
        rw [bv_set, set_room hnn] at H3
        have hr := xor8 (ho.q.body.getD (cn - 1)) (show (0 : Int) ≤ 1 ∧ (1 : Int) ≤ 255 by decide)
        generalize Go.bits .xor .u8 ((o.q.body).getD (cn - 1) 0) 1 = y at H3 hr ⊢
        have H4 : BkAt w0 w3 g ((ga, 30, [.slice (some ⟨gi, 0, none⟩) zn (zn + 64), .slice (some ⟨gb, 0, none⟩) m (m + 64), .slice (some ⟨go, 0, none⟩) n (n + 64), .slice (some ⟨gt, 0, none⟩) cn (cn + 64)]) :: rms (upd o 1 ((o.q.body).set (cn - 1) y)) gi gt go gb g40 zn cn n m (M ++ R)) Zb := H3
        have hs := bset ho.q.body (cn - 1) hr
        have lset : ((o.q.body).set (cn - 1) y).length = (o.q.body).length := List.length_set ..
        have ho' : (upd o 1 ((o.q.body).set (cn - 1) y)).Fine := ⟨ho.b, ⟨ho.q.typ, ho.q.code, ho.q.rest, hs, Nat.le_trans (Nat.le_of_eq lset) ho.q.lb⟩, ho.p, ho.t, ho.cd, ho.src⟩
        have hl' : Lns (upd o 1 ((o.q.body).set (cn - 1) y)) zn cn n m := ⟨hl.b, lset.trans hl.q, hl.p, hl.l⟩
        generalize upd o 1 ((o.q.body).set (cn - 1) y) = o' at H4 ho' hl'
        refine ⟨_, _, _, _, _, _, _, _, _, _, _, _, _, _, _, _, _, _, _, _, _, _, _, _, _, _, _, _, _, ⟨rfl, (H4.own.bk 1 rfl).at⟩, ?_⟩
        refine call_of (plays_t (hg.bel H4.own.bel) ho' (rms_at (j := 2) H4.own rfl rfl rfl rfl hl')) ?_
        rintro e w4 ⟨rfl, k4⟩
        refine ⟨_, rfl, ifNot (fun h => by cases h) (fun _ => ?_)⟩
        refine let_as ((3 + 1 : Nat) : Int) (by rw [w64 (by omega) (by omega)]; rfl) ?_
        have kk := ih (3 + 1) w4 o' (by omega) (by omega) ho' hl' s1 s2 s3 s4 (H4.call k4)
        with_reducible apply kk
      · refine let_as ((3 + 1 : Nat) : Int) (by rw [w64 (by omega) (by omega)]; rfl) ?_
        have kk := ih (3 + 1) w o (by omega) (by omega) ho hl s1 s2 s3 s4 H
        with_reducible apply kk
    | i + 4, hi, h1 => omega
theorem hand_j2 {w : World} {o : Op6} (ho : o.Fine) (hl : Lns o zn cn n m) (s1 : zn ≤ 1000000000) (s2 : cn ≤ 1000000000) (s3 : n ≤ 1000000000) (s4 : m ≤ 1000000000) (H : BkAt w0 w g (rms o gi gt go gb g40 zn cn n m (M ++ R)) Zb) : weftlaw6_handed.J2 g40 w (RetH w0 g R Zb) := by
  unfold weftlaw6_handed.J2; intros
  rw [weftlaw6_handed.j2_eq]
  refine ⟨_, _, _, H.own.cell 0 1 rfl rfl, _, _, _, H.own.cell 0 16 rfl rfl, _, _, _, H.own.cell 0 15 rfl rfl, _, _, _, H.own.cell 0 5 rfl rfl, ?_⟩
  refine pend_new (l := [.slice (some ⟨gi, 0, none⟩) zn (zn + 64), .slice (some ⟨gb, 0, none⟩) m (m + 64), .slice (some ⟨go, 0, none⟩) n (n + 64), .slice (some ⟨gt, 0, none⟩) cn (cn + 64)]) H fun ga w1 H1 _ => ?_
  obtain ⟨q, hq⟩ : ∃ q : Nat, q = 5 := ⟨5, rfl⟩
  refine ⟨q, ?_⟩
  have kk : weftlaw6_handed.L1 q g40 (some ⟨ga, 0, none⟩) 4 4 0 w1 (RetH w0 g R Zb) := hand_l1 hg q 0 w1 o (by omega) (by omega) ho hl s1 s2 s3 s4 H1
  with_reducible apply kk
theorem hand_j1 {w : World} {o : Op6} {Z : Option Addr} {zc : Nat} {C : Option Addr} {cc : Nat} {A : Option Addr} {c : Nat} {B : Option Addr} {d : Nat} {g1 : Nat} (ho : o.Fine) (hx : OpAt w0 o Z zn zc C cn cc A n c B m d) (hl : Lns o zn cn n m) (s1 : zn ≤ 1000000000) (s2 : cn ≤ 1000000000) (s3 : n ≤ 1000000000) (s4 : m ≤ 1000000000)
    (H : BkAt w0 w g (rms o gi gt go gb g40 zn cn n m ((g1, 41, ov o Z zn zc C cn cc A n c B m d) :: R)) Zb) : weftlaw6_handed.J1 g1 (some ⟨gi, 0, none⟩) (zn + 64) (zn + 64) (some ⟨go, 0, none⟩) (n + 64) (n + 64) (some ⟨gb, 0, none⟩) (m + 64) (m + 64) (some ⟨gt, 0, none⟩) (cn + 64) (cn + 64) g40 w (RetH w0 g R Zb) := by
  unfold weftlaw6_handed.J1; intros
  rw [weftlaw6_handed.j1_eq]
  refine ⟨_, _, _, H.own.cell 5 1 rfl rfl, ?_⟩
  refine call_of (roomy_c (hx.b.bel H.own.bel) (by omega)) ?_
  rintro e w1 ⟨gn, rfl, k1⟩
  replace H := H.call k1.bel
  have y := (room_by k1 0 rfl rfl).2
  refine ⟨_, _, _, rfl, ?_⟩
  refine call_of (same_t (room_by H.own 4 rfl hl.b).2 y (by omega)) ?_
  rintro e w2 ⟨rfl, k2⟩
  replace H := H.call k2
  refine ⟨_, rfl, ifNot (fun h => by cases h) (fun _ => ?_)⟩
  refine ⟨_, _, _, H.own.cell 5 15 rfl rfl, ?_⟩
  refine call_of (roomy_c (hx.p.opts.bel H.own.bel) (by omega)) ?_
  rintro e w3 ⟨gn3, rfl, k3⟩
  replace H := H.call k3.bel
  have y := (room_by k3 0 rfl rfl).2
  refine ⟨_, _, _, rfl, ?_⟩
  refine call_of (same_t (room_by H.own 3 rfl hl.p).2 y (by omega)) ?_
  rintro e w4 ⟨rfl, k4⟩
  replace H := H.call k4
  refine ⟨_, rfl, ifNot (fun h => by cases h) (fun _ => ?_)⟩
  refine ⟨_, _, _, H.own.cell 5 16 rfl rfl, ?_⟩
  refine call_of (roomy_c (hx.p.body.bel H.own.bel) (by omega)) ?_
  rintro e w5 ⟨gn5, rfl, k5⟩
  replace H := H.call k5.bel
  have y := (room_by k5 0 rfl rfl).2
  refine ⟨_, _, _, rfl, ?_⟩
  refine call_of (same_t (room_by H.own 2 rfl hl.l).2 y (by omega)) ?_
  rintro e w6 ⟨rfl, k6⟩
  replace H := H.call k6
  refine ⟨_, rfl, ifNot (fun h => by cases h) (fun _ => ?_)⟩
  refine ⟨_, _, _, H.own.cell 5 5 rfl rfl, ?_⟩
  refine call_of (roomy_c (hx.q.bel H.own.bel) (by omega)) ?_
  rintro e w7 ⟨gn7, rfl, k7⟩
  replace H := H.call k7.bel
  have y := (room_by k7 0 rfl rfl).2
  refine ⟨_, _, _, rfl, ?_⟩
  refine call_of (same_t (room_by H.own 1 rfl hl.q).2 y (by omega)) ?_
  rintro e w8 ⟨rfl, k8⟩
  replace H := H.call k8
  refine ⟨_, rfl, ifNot (fun h => by cases h) (fun _ => ?_)⟩
  have kk := hand_j2 hg (M := [(g1, 41, ov o Z zn zc C cn cc A n c B m d)]) (R := R) ho hl s1 s2 s3 s4 H
  exact ⟨by with_reducible apply kk⟩
theorem handed_t {w : World} {o : Op6} {Z : Option Addr} {zc : Nat} {C : Option Addr} {cc : Nat} {A : Option Addr} {c : Nat} {B : Option Addr} {d : Nat} (ho : o.Fine) (hx : OpAt w0 o Z zn zc C cn cc A n c B m d) (hs : o.Sm) (H : BkAt w0 w g R Zb) (hZ0 : Zb ≤ 100000000000000000) :
    Calls Tryd.prog 10 #[.pointer (some ⟨g, 0, none⟩), .agg (ov o Z zn zc C cn cc A n c B m d).toArray] w (RetH w0 g R (Zb + 4000000000)) := by
  have hl : Lns o zn cn n m := ⟨hx.b.len, hx.q.len, hx.p.opts.len, hx.p.body.len⟩
  have l1 := hl.b
  have l2 := hl.q
  have l3 := hl.p
  have l4 := hl.l
  have s1 := hs.b
  have s2 := hs.q
  have s3 := hs.lo
  have s4 := hs.lb
  refine weftlaw6_handed.run ?_
  unfold weftlaw6_handed.s
  refine pend_new (l := ov o Z zn zc C cn cc A n c B m d) H fun g1 w1 H _ => ?_
  refine ⟨_, _, _, H.own.cell 0 1 rfl rfl, ?_⟩
  refine call_of (roomy_c (hx.b.bel H.own.bel) (by omega)) ?_
  rintro e w2 ⟨gi, rfl, k2⟩
  rw [l1]
  replace H : BkAt w0 w2 g ((gi, 5, bv (o.b ++ rm)) :: (g1, 41, ov o Z zn zc C cn cc A n c B m d) :: R) Zb := H.join k2
  refine ⟨_, _, _, rfl, ?_⟩
  refine ⟨_, _, _, H.own.cell 1 15 rfl rfl, ?_⟩
  refine call_of (roomy_c (hx.p.opts.bel H.own.bel) (by omega)) ?_
  rintro e w3 ⟨go, rfl, k3⟩
  rw [l3]
  replace H : BkAt w0 w3 g ((go, 5, bv (o.p.opts ++ rm)) :: (gi, 5, bv (o.b ++ rm)) :: (g1, 41, ov o Z zn zc C cn cc A n c B m d) :: R) Zb := H.join k3
  refine ⟨_, _, _, rfl, ?_⟩
  refine ⟨_, _, _, H.own.cell 2 16 rfl rfl, ?_⟩
  refine call_of (roomy_c (hx.p.body.bel H.own.bel) (by omega)) ?_
  rintro e w4 ⟨gb, rfl, k4⟩
  rw [l4]
  replace H : BkAt w0 w4 g ((gb, 5, bv (o.p.body ++ rm)) :: (go, 5, bv (o.p.opts ++ rm)) :: (gi, 5, bv (o.b ++ rm)) :: (g1, 41, ov o Z zn zc C cn cc A n c B m d) :: R) Zb := H.join k4
  refine ⟨_, _, _, rfl, ?_⟩
  refine ⟨_, _, _, H.own.cell 3 5 rfl rfl, ?_⟩
  refine call_of (roomy_c (hx.q.bel H.own.bel) (by omega)) ?_
  rintro e w5 ⟨gt, rfl, k5⟩
  rw [l2]
  replace H : BkAt w0 w5 g ((gt, 5, bv (o.q.body ++ rm)) :: (gb, 5, bv (o.p.body ++ rm)) :: (go, 5, bv (o.p.opts ++ rm)) :: (gi, 5, bv (o.b ++ rm)) :: (g1, 41, ov o Z zn zc C cn cc A n c B m d) :: R) Zb := H.join k5
  refine ⟨_, _, _, rfl, ?_⟩
  refine ⟨_, _, _, _, _, _, _, _, _, _, _, _, _, _, _, _, _, _, _, _, _, _, _, _, _, _, _, _, _, ⟨rfl, (H.own.bk 4 rfl).at⟩, ?_⟩
  refine pend_mk (ov zop none 0 0 none 0 0 none 0 0 none 0 0) H rfl rfl fun g40 w6 H _ => ?_
  refine ⟨_, _, _, H.own.cell 5 1 rfl rfl, ⟨by omega, by omega⟩, ?_⟩
  refine pend_set 0 H rfl (Nat.lt_of_lt_of_le (by decide : 1 < 21) (Nat.le_refl 21)) fun w7 H => ?_
  refine ⟨_, _, _, H.own.cell 5 15 rfl rfl, ⟨by omega, by omega⟩, ?_⟩
  refine pend_set 0 H rfl (Nat.lt_of_lt_of_le (by decide : 15 < 21) (Nat.le_refl 21)) fun w8 H => ?_
  refine ⟨_, _, _, H.own.cell 5 16 rfl rfl, ⟨by omega, by omega⟩, ?_⟩
  refine pend_set 0 H rfl (Nat.lt_of_lt_of_le (by decide : 16 < 21) (Nat.le_refl 21)) fun w9 H => ?_
  refine ⟨_, _, _, H.own.cell 5 5 rfl rfl, ⟨by omega, by omega⟩, ?_⟩
  refine pend_set 0 H rfl (Nat.lt_of_lt_of_le (by decide : 5 < 21) (Nat.le_refl 21)) fun w10 H => ?_
  replace H : BkAt w0 w10 g (rms o gi gt go gb g40 zn cn n m ((g1, 41, ov o Z zn zc C cn cc A n c B m d) :: R)) Zb := H
  refine ⟨_, _, _, _, _, _, _, _, _, _, _, _, _, _, _, _, _, _, _, _, _, _, _, _, _, _, _, _, _, ⟨rfl, (H.own.bk 0 rfl).at⟩, ?_⟩
  refine call_of (plays_t (hg.bel H.own.bel) ho (rms_at (j := 1) H.own rfl rfl rfl rfl hl)) ?_
  rintro e w11 ⟨rfl, k11⟩
  replace H := H.call k11
  refine ⟨_, rfl, ifNot (fun h => by cases h) (fun _ => ?_)⟩
  have fin : ∀ w, BkAt w0 w g (rms o gi gt go gb g40 zn cn n m ((g1, 41, ov o Z zn zc C cn cc A n c B m d) :: R)) (Zb + 4000000000) → weftlaw6_handed.J1 g1 (some ⟨gi, 0, none⟩) (zn + 64) (zn + 64) (some ⟨go, 0, none⟩) (n + 64) (n + 64) (some ⟨gb, 0, none⟩) (m + 64) (m + 64) (some ⟨gt, 0, none⟩) (cn + 64) (cn + 64) g40 w (RetH w0 g R (Zb + 4000000000)) := fun w H => hand_j1 hg ho hx hl (by omega) (by omega) (by omega) (by omega) H
  have hop := rms_at (j := 1) H.own rfl rfl rfl rfl hl
  refine ⟨_, H.own.cell 0 0 rfl rfl, ?_⟩
  refine ifE (fun _ => ?_) (fun _ => ?_)
  · refine ⟨_, _, _, H.own.cell 0 1 rfl rfl, ?_⟩
    refine call_of (parse_a hop.b ho.b hop.cb (by omega)) ?_
    rintro e w12 ⟨k12, x0, x1, x2, A', n', c', k, rfl, t⟩
    have H2 := hold_of H k12 t.r t.a t.b
    refine ⟨_, _, _, _, _, _, _, rfl, ?_⟩
    refine hold_mk (mv 0 0 0 none 0 0) H2 rfl rfl fun g84 w13 H3 => ?_
    refine ⟨_, _, _, H3.own.cell 0 3 rfl rfl, ?_⟩
    refine call_of (keep_one H3 t.nc t.n9 (by omega)) ?_
    rintro e w14 ⟨rfl, H4⟩
    have kk := fin w14 (Pend.mono (Pend.tail H4) (by omega))
    exact ⟨rfl, ⟨by with_reducible apply kk⟩⟩
  refine ifE (fun _ => ?_) (fun _ => ?_)
  · refine ld_msgA (ov_msg (H.own.bk 0 rfl)) ?_
    refine call_of (build_a ho.q hop.q) ?_
    rintro e w12 ⟨k12, A', n', c', k, rfl, t⟩
    have H2 := hold_of H k12 t.r t.a t.b
    refine ⟨_, _, _, _, rfl, ?_⟩
    refine call_of (keep_one H2 t.nc t.n9 (by omega)) ?_
    rintro e w14 ⟨rfl, H4⟩
    have kk := fin w14 (Pend.mono H4 (by omega))
    exact ⟨rfl, ⟨by with_reducible apply kk⟩⟩
  refine ifE (fun _ => ?_) (fun _ => ?_)
  · refine ld_pktA (ov_pkt (H.own.bk 0 rfl)) ?_
    refine ⟨_, H.own.cell 0 17 rfl rfl, _, H.own.cell 0 18 rfl rfl, _, H.own.cell 0 19 rfl rfl, _, H.own.cell 0 20 rfl rfl, ?_⟩
    refine call_of (fault_a6 (hg.bel H.own.bel) ho.p hop.p ho.t ho.cd ho.src) ?_
    rintro e w12 ⟨k12, q, A', n', c', B', m', d', k, rfl, t⟩
    have H2 := hold_of H k12 t.r t.a t.b
    refine ⟨_, _, _, _, _, _, _, _, _, _, _, _, _, _, _, _, rfl, ?_⟩
    refine hold_mk (pb pz none 0 0 none 0 0) H2 rfl rfl fun g84 w13 H3 => ?_
    refine ⟨_, _, _, H3.own.cell 0 10 rfl rfl, ?_⟩
    refine call_of (keep_firstH H3.symm t.md t.m9 (by omega)) ?_
    rintro e w14 ⟨rfl, H4⟩
    refine ⟨rfl, _, _, _, H4.own.cell 0 9 rfl rfl, ?_⟩
    refine call_of (keep_second H4 t.nc t.r.a.le t.n9 (by omega)) ?_
    rintro e w15 ⟨rfl, H5⟩
    have kk := fin w15 (Pend.mono (Pend.tail H5) (by omega))
    exact ⟨rfl, ⟨by with_reducible apply kk⟩⟩
  refine ifE (fun _ => ?_) (fun _ => ?_)
  · refine ld_pktA (ov_pkt (H.own.bk 0 rfl)) ?_
    refine call_of (echo_a6 (hg.bel H.own.bel) ho.p hop.p) ?_
    rintro e w12 ⟨k12, q, A', n', c', B', m', d', k, rfl, t⟩
    have H2 := hold_of H k12 t.r t.a t.b
    refine ⟨_, _, _, _, _, _, _, _, _, _, _, _, _, _, _, _, rfl, ?_⟩
    refine hold_mk (pb pz none 0 0 none 0 0) H2 rfl rfl fun g84 w13 H3 => ?_
    refine ⟨_, _, _, H3.own.cell 0 10 rfl rfl, ?_⟩
    refine call_of (keep_firstH H3.symm t.md t.m9 (by omega)) ?_
    rintro e w14 ⟨rfl, H4⟩
    refine ⟨rfl, _, _, _, H4.own.cell 0 9 rfl rfl, ?_⟩
    refine call_of (keep_second H4 t.nc t.r.a.le t.n9 (by omega)) ?_
    rintro e w15 ⟨rfl, H5⟩
    have kk := fin w15 (Pend.mono (Pend.tail H5) (by omega))
    exact ⟨rfl, ⟨by with_reducible apply kk⟩⟩
  refine ifE (fun _ => ?_) (fun _ => ?_)
  · refine ld_pktA (ov_pkt (H.own.bk 0 rfl)) ?_
    refine call_of (about_a6 (hg.bel H.own.bel) ho.p hop.p) ?_
    rintro e w12 ⟨k12, q, A', n', c', B', m', d', k, rfl, t⟩
    have H2 := hold_of H k12 t.r t.a t.b
    refine ⟨_, _, _, _, _, _, _, _, _, _, _, _, _, _, _, _, rfl, ?_⟩
    refine hold_mk hz H2 rfl rfl fun g84 w13 H3 => ?_
    refine ⟨_, _, _, H3.own.cell 0 9 rfl rfl, ?_⟩
    refine call_of (keep_firstH H3 t.nc t.n9 (by omega)) ?_
    rintro e w14 ⟨rfl, H4⟩
    refine ⟨rfl, ?_⟩
    refine call_of (keep_second H4 t.md t.r.b.le t.m9 (by omega)) ?_
    rintro e w15 ⟨rfl, H5⟩
    have kk := fin w15 (Pend.mono (Pend.tail H5) (by omega))
    exact ⟨rfl, ⟨by with_reducible apply kk⟩⟩
  have kk := fin w11 (Pend.mono H (by omega))
  exact ⟨by with_reducible apply kk⟩
end
end Go.Proofs.YtchdcdmdbjkihaaDoorS
