/- Package weftlaw7: asks.
   Conditions: the bytes that are asked of are of one's own. -/
import Derived.Test.YtleelkkddjldnaaSTScrA
namespace Go.Proofs.YtleelkkddjldnaaS
open Go Go.RowKit Go.Proofs Go.Proofs.YtleelkkddjldnaaX
set_option maxRecDepth 100000
set_option linter.unusedVariables false
set_option linter.unusedSectionVars false
set_option linter.unusedSimpArgs false

/-- A pair of records is made and filled. -/
theorem own_ofr {w a : World} {L : List (Nat × TypeId × List Value)} (H : Own w a L) {O : Ot} {F : Fr} {D : Option Addr} {n c : Nat} {K : Nat → Nat → World → Prop}
    (hk : ∀ g1 g2 wb, Own w wb ((g2, 46, fv F D n c) :: (g1, 50, ov O) :: L) → Bel a wb → a.heap.size ≤ g1 → a.heap.size ≤ g2 → K g1 g2 wb) :
    Let a.heap.size fun g1 => Let (a.alloc (.cells (ov oz).toArray 50)) fun w1 => Let w1.heap.size fun g2 => Let (w1.alloc (.cells (fv fz none 0 0).toArray 46)) fun w2 =>
      May w2 ⟨g1, 0, none⟩ 6 ∧ Let (putCells w2 ⟨g1, 0, none⟩ (ov O) 0) fun w3 => May w3 ⟨g2, 0, none⟩ 14 ∧ Let (putCells w3 ⟨g2, 0, none⟩ (fv F D n c) 0) (K g1 g2) := by
  refine own_newC (l := ov oz) (Own.refl a) fun g1 w7 J k7 hg7 => ?_
  refine own_newC (l := fv fz none 0 0) J fun g2 w8' J k8 hg8 => ?_
  refine own_putB 1 J rfl rfl (by decide) fun w9 J u9 => ?_
  refine own_putB 0 J rfl rfl (by decide) fun w10 J u10 => ?_
  replace J : Own a w10 [(g2, 46, fv F D n c), (g1, 50, ov O)] := J
  exact hk g1 g2 w10 (H.join J) J.bel (J.ge 1 rfl) (J.ge 0 rfl)
section
variable {w0 w : World} {g : Nat} {Q R : List (Nat × TypeId × List Value)} {fz : List Lst} {Al : Option Addr} {nl cl : Nat} {As : Option Addr} {ns cs : Nat} {f : Fr} {Af : Option Addr} {nf cf : Nat} {o : Ot}
theorem Gd.call {w' : World} (h : Gd w0 w g R fz Al nl cl As ns cs f Af nf cf o) (k : Bel w w') : Gd w0 w' g R fz Al nl cl As ns cs f Af nf cf o := by
  obtain ⟨oL, oW, AL, n, cL, AW, cW, vL, vW, total, H, sL, sW, kp⟩ := h
  exact ⟨oL, oW, AL, n, cL, AW, cW, vL, vW, total, H.call k, sL, sW, kp⟩
theorem Gd.drop (h : Gd w0 w g (Q ++ R) fz Al nl cl As ns cs f Af nf cf o) : Gd w0 w g R fz Al nl cl As ns cs f Af nf cf o := by
  obtain ⟨oL, oW, AL, n, cL, AW, cW, vL, vW, total, H, sL, sW, kp⟩ := h
  have p1 : (oL.toList ++ (oW.toList ++ (Q ++ R))).Perm (Q ++ (oL.toList ++ (oW.toList ++ R))) := ((List.perm_append_comm_assoc oW.toList Q R).append_left oL.toList).trans (List.perm_append_comm_assoc oL.toList Q _)
  exact ⟨oL, oW, AL, n, cL, AW, cW, vL, vW, total, OF.less (L := Q) (H.perm ((p1.cons _).trans List.perm_middle.symm)), sL, sW, kp⟩
theorem Gd.join {w' : World} (h : Gd w0 w g R fz Al nl cl As ns cs f Af nf cf o) (k : Own w w' Q) : Gd w0 w' g (Q ++ R) fz Al nl cl As ns cs f Af nf cf o := by
  obtain ⟨oL, oW, AL, n, cL, AW, cW, vL, vW, total, H, sL, sW, kp⟩ := h
  have p1 : (oL.toList ++ (oW.toList ++ (Q ++ R))).Perm (Q ++ (oL.toList ++ (oW.toList ++ R))) := ((List.perm_append_comm_assoc oW.toList Q R).append_left oL.toList).trans (List.perm_append_comm_assoc oL.toList Q _)
  exact ⟨oL, oW, AL, n, cL, AW, cW, vL, vW, total, (H.join k).perm (List.perm_middle.trans (p1.symm.cons _)), sL, sW, kp⟩
/-- .. and lists that came since are seen from now on. -/
theorem Gd.joins {w' : World} (h : Gd w0 w g R fz Al nl cl As ns cs f Af nf cf o) (k : Own w w' Q) (xs : List Lst) (hx : ∀ x ∈ xs, By w' x.1 x.2.1 x.2.2 ∧ Fre w x.1 ∧ (0 < x.2.1 → ∀ c, x.1 = some c → ∀ p ∈ Q, c.block ≠ p.1)) : Gd w0 w' g (Q ++ R) (xs ++ fz) Al nl cl As ns cs f Af nf cf o := by
  obtain ⟨oL, oW, AL, n, cL, AW, cW, vL, vW, total, H, sL, sW, kp⟩ := h
  have p1 : (oL.toList ++ (oW.toList ++ (Q ++ R))).Perm (Q ++ (oL.toList ++ (oW.toList ++ R))) := ((List.perm_append_comm_assoc oW.toList Q R).append_left oL.toList).trans (List.perm_append_comm_assoc oL.toList Q _)
  have J := H.join k
  refine ⟨oL, oW, AL, n, cL, AW, cW, vL, vW, total, OF.perm (L := Q ++ _) ⟨J.own, fun u hu => ?_⟩ (List.perm_middle.trans (p1.symm.cons _)), sL, sW, kp.mono (List.subset_append_right _ _)⟩
  rcases List.mem_append.1 hu with hu | hu
  · obtain ⟨y, hf, hq⟩ := hx u hu
    refine ⟨y, fun hn c e q hqm => ?_⟩
    rcases List.mem_append.1 hqm with h1 | h1
    · exact hq hn c e q h1
    · exact H.new_ne hf c e q h1
  · exact J.fz u hu
theorem Gd.cell (h : Gd w0 w g R fz Al nl cl As ns cs f Af nf cf o) (i : Nat) {v : Value} (hi : i < 22) (hv : (stc Al nl cl As ns cs f Af nf cf o none 0 0 none 0 0 0)[i]? = some v) : w.cell? ⟨g, i, none⟩ = some v := by
  obtain ⟨oL, oW, AL, n, cL, AW, cW, vL, vW, total, H, sL, sW, kp⟩ := h
  refine H.own.cell 0 i rfl ?_
  rw [← hv]
  rcases (by omega : i = 0 ∨ i = 1 ∨ i = 2 ∨ i = 3 ∨ i = 4 ∨ i = 5 ∨ i = 6 ∨ i = 7 ∨ i = 8 ∨ i = 9 ∨ i = 10 ∨ i = 11 ∨ i = 12 ∨ i = 13 ∨ i = 14 ∨ i = 15 ∨ i = 16 ∨ i = 17 ∨ i = 18 ∨ i = 19 ∨ i = 20 ∨ i = 21) with rfl | rfl | rfl | rfl | rfl | rfl | rfl | rfl | rfl | rfl | rfl | rfl | rfl | rfl | rfl | rfl | rfl | rfl | rfl | rfl | rfl | rfl <;> rfl
theorem Gd.loc (h : Gd w0 w g (Q ++ R) fz Al nl cl As ns cs f Af nf cf o) (k i : Nat) {b : Nat} {t : TypeId} {l : List Value} {v : Value} (hk : Q[k]? = some (b, t, l)) (hv : l[i]? = some v) : w.cell? ⟨b, i, none⟩ = some v := by
  obtain ⟨oL, oW, AL, n, cL, AW, cW, vL, vW, total, H, sL, sW, kp⟩ := h
  have hm := List.mem_of_getElem? hk
  have hm2 : (b, t, l) ∈ ((g, 73, stc Al nl cl As ns cs f Af nf cf o AL n cL AW n cW total) :: (oL.toList ++ (oW.toList ++ (Q ++ R)))) := List.mem_cons_of_mem _ (List.mem_append.2 (Or.inr (List.mem_append.2 (Or.inr (List.mem_append.2 (Or.inl hm))))))
  obtain ⟨j, hj⟩ := List.mem_iff_getElem?.1 hm2
  exact H.own.cell j i hj hv
theorem asks_j1 {x1 x2 x3 : Lst} {g1 g2 g3 : Nat} {u1 u2 : Fr} {c1 c2 c3 : Nat} {s1 s2 : Int} (h : Gd w0 w g ([(g1, 46, fv u1 x1.1 x1.2.1 c1), (g2, 46, fv u2 x2.1 x2.2.1 c2), (g3, 30, dv s1 s2 x3.1 x3.2.1 c3)] ++ R) fz Al nl cl As ns cs f Af nf cf o)
    {fz0 : List Lst} (h0 : fz0 ⊆ fz) (h1 : x1 ∈ fz) (h2 : x2 ∈ fz) (h3 : x3 ∈ fz) (m1 : x1.2.1 ≤ 300000) (m2 : x2.2.1 ≤ 300000) (m3 : x3.2.1 ≤ 300000) :
    weftlaw7_steps_asks.J1 (some ⟨g, 0, none⟩) g1 g2 g3 w (fun e w' => e = .returned (.bool true) ∧ ∃ fz', fz0 ⊆ fz' ∧ Gd w0 w' g R fz' Al nl cl As ns cs f Af nf cf o) := by
  unfold weftlaw7_steps_asks.J1; intros
  rw [weftlaw7_steps_asks.j1_eq]
  refine ⟨_, _, _, h.loc 0 13 rfl rfl, ?_⟩
  refine call_of (answers_t h h1 m1) ?_
  rintro e w1 ⟨rfl, fz1, k1, h⟩
  refine ⟨rfl, _, _, _, h.loc 1 13 rfl rfl, ?_⟩
  refine call_of (answers_t h (k1 h2) m2) ?_
  rintro e w2 ⟨rfl, fz2, k2, h⟩
  refine ⟨rfl, _, _, _, h.loc 2 2 rfl rfl, ?_⟩
  refine call_of (answers_t h (k2 (k1 h3)) m3) ?_
  rintro e w3 ⟨rfl, fz3, k3, h⟩
  exact ⟨rfl, rfl, fz3, fun x hx => k3 (k2 (k1 (h0 hx))), h.drop⟩
theorem Own.pick {w a : World} {L M : List (Nat × TypeId × List Value)} (h : Own w a L) (hs : ∀ p ∈ M, p ∈ L) (nd : (M.map Prod.fst).Nodup) : Own w a M :=
  ⟨h.bel, fun k g t l hk => by
    obtain ⟨j, hj⟩ := List.mem_iff_getElem?.1 (hs _ (List.mem_of_getElem? hk))
    exact h.own j g t l hj, nd⟩
theorem frOut_le (b : List Int) : (frOut b).body.length ≤ 300000 := by
  have := frOut_len b
  omega
theorem rF_le {b : List Int} : (rF (pkOf b) (oBad b)).body.length ≤ 300000 := by
  unfold rF
  split
  · rename_i h0
    have h1 : bad true b = 0 := by
      unfold oBad at h0
      by_cases h2 : bad true b = 0
      · exact h2
      · rw [if_pos h2] at h0; exact h0
    rw [show oBad b = oB2 (pkOf b) by unfold oBad; rw [if_neg (fun h => h h1)]] at h0
    have h3 : uBad (pkOf b).src (pkOf b).dst (pkOf b).body = 0 := by
      unfold oB2 at h0
      split at h0
      · omega
      split at h0
      · omega
      unfold oB3 at h0
      by_cases h2 : uBad (pkOf b).src (pkOf b).dst (pkOf b).body = 0
      · exact h2
      · rw [if_pos h2] at h0; exact h0
    have h4 := uBad_zero h3
    unfold ofF uBody
    simp only [List.length_drop, List.length_take]
    omega
  · exact Nat.zero_le _
theorem asks_t (h : Gd w0 w g R fz Al nl cl As ns cs f Af nf cf o) {last : List Int} (hA : By w Al nl last) (hb : Bytes last) (hc : nl ≤ cl) (hn : nl ≤ 1000000000) {src dst : Int} (hs : 0 ≤ src ∧ src ≤ 4294967295) (hd : 0 ≤ dst ∧ dst ≤ 4294967295) :
    Calls Try.prog 59 #[.pointer (some ⟨g, 0, none⟩), .int .u32 src, .int .u32 dst] w (fun e w' => e = .returned (.bool true) ∧ ∃ fz', fz ⊆ fz' ∧ Gd w0 w' g R fz' Al nl cl As ns cs f Af nf cf o) := by
  refine weftlaw7_steps_asks.run ?_
  unfold weftlaw7_steps_asks.s
  have hl := hA.len
  have c0 : ∀ {wa : World} {L : List (Nat × TypeId × List Value)}, Own w wa L → wa.cell? ⟨g, 0, none⟩ = some (.slice Al nl cl) := fun k => (h.call k.bel).cell 0 (by decide) rfl
  refine ⟨_, rfl, _, _, _, c0 (Own.refl w), ?_⟩
  refine buf_app (Buf.nil (Own.refl w)) hA (by omega) fun A3 c4 w5 q => ?_
  have y := q.by
  have yc := q.le
  have H := q.own
  rw [List.nil_append, Nat.zero_add] at y
  rw [Nat.zero_add] at yc ⊢
  refine ⟨_, rfl, _, _, _, c0 H, ?_⟩
  refine call_of (ParseFrame_c (hA.bel H.bel) hb hc) ?_
  rintro e w6 he
  obtain ⟨k6, D1, d1, rfl, y1, f1⟩ := fr_out he
  replace f1 := f1.le H.bel
  replace H := H.call k6
  replace y := y.bel k6
  refine ⟨_, _, _, _, _, _, _, _, _, _, _, _, _, _, _, _, _, rfl, ?_⟩
  refine own_mk (fv Go.Proofs.YtleelkkddjldnaaS.fz none 0 0) H rfl rfl fun g1 w7 H k7 hg1 => ?_
  have n11 := y1.newer hg1
  replace y1 := y1.bel k7
  replace y := y.bel k7
  refine call_of (ParseFrame7_c y hb) ?_
  rintro e w8' he
  obtain ⟨k8, D1', d1', rfl, y1'⟩ := fr_out7 he
  replace H := H.call k8
  replace y1 := y1.bel k8
  replace y := y.bel k8
  refine ⟨_, _, _, _, _, _, _, _, _, _, _, _, _, _, _, _, _, rfl, ?_⟩
  refine own_mk (fv Go.Proofs.YtleelkkddjldnaaS.fz none 0 0) H rfl rfl fun g1' w9 H k9 _ => ?_
  replace y1 := y1.bel k9
  replace y1' := y1'.bel k9
  replace y := y.bel k9
  refine ⟨_, rfl, _, _, _, c0 H, ?_⟩
  refine call_of (Open_c (hA.bel H.bel) hb hc (by omega)) ?_
  rintro e w10 ⟨k10, D2, d2, rfl, y2, f2⟩
  have o21 := H.old 1 rfl f2
  replace f2 := f2.le H.bel
  replace H := H.call k10
  replace y1 := y1.bel k10
  replace y1' := y1'.bel k10
  replace y := y.bel k10
  refine ⟨_, _, _, _, _, _, _, _, _, _, _, _, _, _, _, _, _, _, _, _, _, _, _, rfl, ?_⟩
  refine own_ofr (O := rO (pkOf last) (oBad last)) (F := rF (pkOf last) (oBad last)) H fun g3 g4 w11 H k11 hg3 hg4 => ?_
  have n14 := y1.newer hg4
  have n24 := y2.newer hg4
  replace y1 := y1.bel k11
  replace y1' := y1'.bel k11
  replace y := y.bel k11
  replace y2 := y2.bel k11
  refine call_of (Open7_c y hb yc (by omega)) ?_
  rintro e w12 ⟨k12, D2', d2', rfl, y2', _⟩
  replace H := H.call k12
  replace y1 := y1.bel k12
  replace y1' := y1'.bel k12
  replace y := y.bel k12
  replace y2 := y2.bel k12
  refine ⟨_, _, _, _, _, _, _, _, _, _, _, _, _, _, _, _, _, _, _, _, _, _, _, rfl, ?_⟩
  refine own_ofr (O := rO (pkOf last) (oBad last)) (F := rF (pkOf last) (oBad last)) H fun g5 g6 w13 H k13 _ _ => ?_
  replace y1 := y1.bel k13
  replace y1' := y1'.bel k13
  replace y := y.bel k13
  replace y2 := y2.bel k13
  replace y2' := y2'.bel k13
  refine ⟨_, rfl, _, _, _, c0 H, ?_⟩
  refine call_of (ParseUDP_c hs hd (hA.bel H.bel) hb hc) ?_
  rintro e w14 he
  obtain ⟨k14, D3, d3, rfl, y3, f3⟩ := dg_out he
  have o34 := H.old 2 rfl f3
  have o31 := H.old 5 rfl f3
  replace f3 := f3.le H.bel
  replace H := H.call k14
  replace y1 := y1.bel k14
  replace y1' := y1'.bel k14
  replace y := y.bel k14
  replace y2 := y2.bel k14
  replace y2' := y2'.bel k14
  refine ⟨_, _, _, _, _, _, rfl, ?_⟩
  refine own_mk (dv 0 0 none 0 0) H rfl rfl fun g7 w15 H k15 hg7 => ?_
  have n17 := y1.newer hg7
  have n27 := y2.newer hg7
  have n37 := y3.newer hg7
  replace y1 := y1.bel k15
  replace y1' := y1'.bel k15
  replace y := y.bel k15
  replace y2 := y2.bel k15
  replace y2' := y2'.bel k15
  replace y3 := y3.bel k15
  refine call_of (ParseUDP7_c hs hd y hb) ?_
  rintro e w16 he
  obtain ⟨k16, D3', d3', rfl, y3'⟩ := dg_out7 he
  replace H := H.call k16
  replace y1 := y1.bel k16
  replace y1' := y1'.bel k16
  replace y := y.bel k16
  replace y2 := y2.bel k16
  replace y2' := y2'.bel k16
  replace y3 := y3.bel k16
  refine ⟨_, _, _, _, _, _, rfl, ?_⟩
  refine own_mk (dv 0 0 none 0 0) H rfl rfl fun g8 w17 H k17 _ => ?_
  replace y1 := y1.bel k17
  replace y1' := y1'.bel k17
  replace y := y.bel k17
  replace y2 := y2.bel k17
  replace y2' := y2'.bel k17
  replace y3 := y3.bel k17
  replace y3' := y3'.bel k17
  refine ifN (fun h => absurd rfl h) (fun _ => ?_)
  refine ifN (fun h => absurd rfl h) (fun _ => ?_)
  refine ifN (fun h => absurd rfl h) (fun _ => ?_)
  refine ld_ou (H.bk 5 rfl) ?_
  refine ld_ou (H.bk 3 rfl) ?_
  refine ifNO ?_
  refine ld_fr (f := frOut last) (H.bk 7 rfl) ?_
  refine ld_fr (f := frOut last) (H.bk 6 rfl) ?_
  have b1 := frOut_le last
  have b2 := rF_le (b := last)
  have b3 := dgOut_len src dst last
  refine call_of (sameFrame_t y1 y1' (by omega)) ?_
  rintro e w18 ⟨rfl, k18⟩
  replace H := H.call k18
  replace y1 := y1.bel k18
  replace y := y.bel k18
  replace y2 := y2.bel k18
  replace y2' := y2'.bel k18
  replace y3 := y3.bel k18
  replace y3' := y3'.bel k18
  refine ⟨_, rfl, ifNot (fun h => by cases h) (fun _ => ?_)⟩
  refine ld_fr (f := rF (pkOf last) (oBad last)) (H.bk 4 rfl) ?_
  refine ld_fr (f := rF (pkOf last) (oBad last)) (H.bk 2 rfl) ?_
  refine call_of (sameFrame_t y2 y2' (by omega)) ?_
  rintro e w19 ⟨rfl, k19⟩
  replace H := H.call k19
  replace y1 := y1.bel k19
  replace y := y.bel k19
  replace y2 := y2.bel k19
  replace y3 := y3.bel k19
  replace y3' := y3'.bel k19
  refine ⟨_, rfl, ifNot (fun h => by cases h) (fun _ => ?_)⟩
  refine ⟨_, H.cell 1 0 rfl rfl, _, H.cell 0 0 rfl rfl, ?_⟩
  refine ifN (fun h => absurd rfl h) (fun _ => ?_)
  refine ⟨_, H.cell 1 1 rfl rfl, _, H.cell 0 1 rfl rfl, ?_⟩
  refine ifN (fun h => absurd rfl h) (fun _ => ?_)
  refine ⟨_, _, _, H.cell 1 2 rfl rfl, _, _, _, H.cell 0 2 rfl rfl, ?_⟩
  refine call_of (same_t y3 y3' (by omega)) ?_
  rintro e w20 ⟨rfl, k20⟩
  replace H := H.call k20
  replace y1 := y1.bel k20
  replace y := y.bel k20
  replace y2 := y2.bel k20
  replace y3 := y3.bel k20
  refine ⟨_, rfl, ifNot (fun h => by cases h) (fun _ => ?_)⟩
  refine ⟨_, rfl, _, _, _, c0 H, ?_⟩
  refine call_of (same_t (hA.bel H.bel) y (by omega)) ?_
  rintro e w21 ⟨rfl, k21⟩
  replace H := H.call k21
  replace y1 := y1.bel k21
  replace y2 := y2.bel k21
  replace y3 := y3.bel k21
  refine ⟨_, rfl, ifNot (fun h => by cases h) (fun _ => ?_)⟩
  have e1 := H.ne (i := 7) (j := 4) rfl rfl (by decide)
  have e2 := H.ne (i := 7) (j := 1) rfl rfl (by decide)
  have e3 := H.ne (i := 4) (j := 1) rfl rfl (by decide)
  have J := H.pick (M := [(g1, 46, fv (frOut last) D1 (frOut last).body.length d1), (g4, 46, fv (rF (pkOf last) (oBad last)) D2 (rF (pkOf last) (oBad last)).body.length d2), (g7, 30, dv (dgOut src dst last).1 (dgOut src dst last).2.1 D3 (dgOut src dst last).2.2.length d3)]) (fun p hp => by
    rcases List.mem_cons.1 hp with rfl | hp
    · exact List.mem_of_getElem? (i := 7) rfl
    rcases List.mem_cons.1 hp with rfl | hp
    · exact List.mem_of_getElem? (i := 4) rfl
    rcases List.mem_cons.1 hp with rfl | hp
    · exact List.mem_of_getElem? (i := 1) rfl
    · cases hp) (by
    simp only [List.map_cons, List.map_nil, List.nodup_cons, List.mem_cons, List.not_mem_nil, or_false, not_false_eq_true, List.nodup_nil, and_true, not_or]
    exact ⟨⟨e1, e2⟩, e3⟩)
  have G := h.joins J [(D1, (frOut last).body.length, (frOut last).body), (D2, (rF (pkOf last) (oBad last)).body.length, (rF (pkOf last) (oBad last)).body), (D3, (dgOut src dst last).2.2.length, (dgOut src dst last).2.2)] (fun x hx => by
    rcases List.mem_cons.1 hx with rfl | hx
    · refine ⟨y1, f1, fun hn c ec p hp => ?_⟩
      rcases List.mem_cons.1 hp with rfl | hp
      · exact n11 hn c ec
      rcases List.mem_cons.1 hp with rfl | hp
      · exact n14 hn c ec
      rcases List.mem_cons.1 hp with rfl | hp
      · exact n17 hn c ec
      · cases hp
    rcases List.mem_cons.1 hx with rfl | hx
    · refine ⟨y2, f2, fun hn c ec p hp => ?_⟩
      rcases List.mem_cons.1 hp with rfl | hp
      · exact o21 c ec
      rcases List.mem_cons.1 hp with rfl | hp
      · exact n24 hn c ec
      rcases List.mem_cons.1 hp with rfl | hp
      · exact n27 hn c ec
      · cases hp
    rcases List.mem_cons.1 hx with rfl | hx
    · refine ⟨y3, f3, fun hn c ec p hp => ?_⟩
      rcases List.mem_cons.1 hp with rfl | hp
      · exact o31 c ec
      rcases List.mem_cons.1 hp with rfl | hp
      · exact o34 c ec
      rcases List.mem_cons.1 hp with rfl | hp
      · exact n37 hn c ec
      · cases hp
    · cases hx)
  have k := asks_j1 (x1 := (D1, (frOut last).body.length, (frOut last).body)) (x2 := (D2, (rF (pkOf last) (oBad last)).body.length, (rF (pkOf last) (oBad last)).body)) (x3 := (D3, (dgOut src dst last).2.2.length, (dgOut src dst last).2.2)) G (List.subset_append_right _ _)
    (List.mem_of_getElem? (i := 0) rfl) (List.mem_of_getElem? (i := 1) rfl) (List.mem_of_getElem? (i := 2) rfl) b1 b2 (by show (dgOut src dst last).2.2.length ≤ _; omega)
  exact ⟨by with_reducible apply k⟩
end
end Go.Proofs.YtleelkkddjldnaaS
