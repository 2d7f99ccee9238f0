/- Package nat: TurnFault: the walk of its last part.
   Conditions: bytes are 0 to 255; a packet's and a tuple's fields are of their kinds. -/
import Derived.Test.YtphbdmafchjjeaaDoorHSNtF
import Derived.Test.YtphbdmafchjjeaaDoorHSNatY
namespace Go.Proofs.YtphbdmafchjjeaaDoorS
open Go Go.RowKit Go.Proofs Go.Proofs.YtphbdmafchjjeaaDoorX
set_option maxRecDepth 100000
set_option linter.unusedVariables false
set_option linter.unusedSectionVars false
set_option linter.unusedSimpArgs false

section
variable {w0 : World} {p : Pk} {u : Tp} (t : Tf p u) {src dst : Int} {A : Option Addr} {n c : Nat} {B : Option Addr} {m d : Nat} (hp : PkAt w0 p A n c B m d)
  {gC o C g55 g88 g32 g5 g3 g1 : Nat} {A1 : Option Addr} {c1 : Nat} {Y : Option Addr} {yc : Nat} {pre post : List Int} (ho : pre.length = o) (hC : (tfB p).length ≤ C) (hC2 : C ≤ 9223372036854775807) (hn : n ≤ 1000000000000)
include t hp ho hC hC2 hn
theorem tf_j1 {w : World} (H : OF w0 w [(gC, 5, bv (pre ++ (tfB p ++ post))), (g55, 115, mv (p.body.getD 0 0) (p.body.getD 1 0) (lg p.body 4) (some ⟨gC, o, none⟩) (tfB p).length C), (g88, 32, tpv (tfS p)),
    (g32, 43, hb (tfB p) A1 (hlen (tfB p) - 20) c1), (g5, 45, pb pz none 0 0 none 0 0), (g3, 32, tpv u), (g1, 45, pb p A n c B m d)] []) :
    nat_TurnFault.J1 src dst g1 g3 g5 g32 Y (tfQ p).length yc g55 g88 w (RetTF w0 p u src dst) := by
  have l1 := t.l1
  have l2 := t.l2
  have l3 := t.l3
  have l4 := t.l4
  have u1 := t.hu.src
  have u2 := t.hu.dst
  have t2 := tf2_len p u
  have t3 := tf3_len p u
  have b2 := tf2_bytes t.bb t.hu
  have b3 := tf3_bytes t.bb t.hu
  unfold nat_TurnFault.J1; intros
  rw [nat_TurnFault.j1_eq]
  refine ⟨_, _, _, H.own.cell 1 3 rfl rfl, ?_⟩
  refine ⟨_, _, _, H.own.cell 3 9 rfl rfl, ?_⟩
  refine let_as ((hlen (tfB p) : Nat) : Int) (by rw [w64 (by omega) (by omega)]; omega) ?_
  refine ⟨_, H.own.cell 5 0 rfl rfl, ?_⟩
  refine call_of (puta_c H ho rfl (i := 12) rfl (by omega) (by omega) u1) ?_
  rintro e w5 ⟨rfl, H5⟩
  refine ⟨rfl, ?_⟩
  refine ⟨_, H5.own.cell 5 1 rfl rfl, ?_⟩
  refine call_of (puta_c H5 ho (by rw [setw_len, setw_len]) (i := 16) rfl (by omega) (by omega) u2) ?_
  rintro e w8 ⟨rfl, H8⟩
  refine ⟨rfl, ?_⟩
  refine draws (fun _ => True) True.intro fun w11 e11 => ?_
  replace H8 : OF w0 w8.drew ((gC, 5, bv (pre ++ (tf2 p u ++ post))) :: _) [] := H8.call (Bel.refl w8).drew
  rw [← e11] at H8
  rw [Int.toNat_natCast]
  refine ⟨⟨by omega, by omega⟩, ⟨by omega, by omega⟩, ⟨by omega, by omega⟩, ?_⟩
  rw [cut_in (by omega)]
  refine of_newN (l := [.slice (some ⟨gC, o, none⟩) 10 C, .slice (some ⟨gC, o + 12, none⟩) (hlen (tfB p) - 12) (C - 12)]) H8 fun g12 w13 H13 => ?_
  refine ⟨True.intro, ?_⟩
  have hX : (pre ++ (tf2 p u ++ post)).length = o + (tfB p).length + post.length := by rw [List.length_append, List.length_append, ho, t2]; omega
  have y1 : By w13 (some ⟨gC, o, none⟩) 10 ((tf2 p u).take 10) := by
    have := By.part (o := o + 0) (n := 10) (H13.own.bk 1 rfl) (by rw [hX]; omega)
    rw [part_eq ho (by omega), List.drop_zero] at this
    exact this
  have y2 : By w13 (some ⟨gC, o + 12, none⟩) (hlen (tfB p) - 12) (((tf2 p u).take (hlen (tfB p))).drop 12) := by
    have := By.part (o := o + 12) (n := hlen (tfB p) - 12) (H13.own.bk 1 rfl) (by rw [hX]; omega)
    rw [part_eq ho (by omega), show 12 + (hlen (tfB p) - 12) = hlen (tfB p) by omega] at this
    exact this
  refine call_of (sum2_c (H13.own.bk 0 rfl) y1 y2 (b2.take 10) ((b2.take _).drop 12) (by rw [y1.len, y2.len]; omega) 2) ?_
  rintro e w14 ⟨rfl, k14⟩
  refine ⟨_, rfl, True.intro, ?_⟩
  have hS := S_range (tot_nonneg (b := true) ((b2.take 10).append ((b2.take (hlen (tfB p))).drop 12)))
  refine call_of (putw_c (H13.call k14).tail ho t2 (i := 10) rfl (by omega) (by omega) (by omega)) ?_
  rintro e w17 ⟨rfl, H17⟩
  refine ⟨rfl, True.intro, ?_⟩
  replace H17 : OF w0 w17 ((gC, 5, bv (pre ++ (tf3 p u ++ post))) :: _) [] := H17
  refine draws (fun w' => Bk w' g88 32 (tpv (tfS p)) ∧ Bk w' g3 32 (tpv u)) ⟨(H17.call (Bel.refl w17).drew).own.bk 2 rfl, (H17.call (Bel.refl w17).drew).own.bk 5 rfl⟩ fun w20 e20 => ?_
  replace H17 := H17.call (Bel.refl w17).drew
  rw [← e20] at H17
  refine let_as ((hlen (tfB p) + (tfQ p).length : Nat) : Int) (by rw [w64 (by omega) (by omega)]; omega) ?_
  rw [Int.toNat_natCast]
  refine ⟨⟨by omega, by omega⟩, ⟨by omega, by omega⟩, ?_⟩
  refine ⟨_, fun w' h => h.1.cell 2 rfl, ?_⟩
  refine ⟨_, _, _, _, _, ⟨rfl, fun w' h => h.1.at⟩, _, _, _, _, _, ⟨rfl, fun w' h => h.2.at⟩, ?_⟩
  rw [cut_in (by omega), Nat.add_sub_cancel_left]
  have e3 : pre ++ (tf3 p u ++ post) = (pre ++ (tf3 p u).take (hlen (tfB p))) ++ (((tf3 p u).drop (hlen (tfB p))).take (tfQ p).length ++ ((tf3 p u).drop (hlen (tfB p) + (tfQ p).length) ++ post)) := by
    have h1 := List.take_append_drop (tfQ p).length ((tf3 p u).drop (hlen (tfB p)))
    rw [List.drop_drop] at h1
    have h2 := List.take_append_drop (hlen (tfB p)) (tf3 p u)
    rw [← h1] at h2
    rw [List.append_assoc pre, ← List.append_assoc (((tf3 p u).drop (hlen (tfB p))).take (tfQ p).length), ← List.append_assoc ((tf3 p u).take (hlen (tfB p))), h2]
  rw [e3] at H17
  refine call_of (carried_c H17 (by rw [List.length_append, List.length_take, ho, t3]; omega) (by rw [List.length_take, List.length_drop, t3]; omega) ((b3.drop _).take _) t.sf t.hu (by omega) (by omega)) ?_
  rintro e w33 ⟨rfl, H33⟩
  refine ⟨rfl, ⟨H33.own.bk 2 rfl, H33.own.bk 5 rfl⟩, ?_⟩
  have e4 : (pre ++ (tf3 p u).take (hlen (tfB p))) ++ (carV (((tf3 p u).drop (hlen (tfB p))).take (tfQ p).length) (tfS p).proto (tfS p) u false ++ ((tf3 p u).drop (hlen (tfB p) + (tfQ p).length) ++ post)) = pre ++ (tf4 p u ++ post) := by
    unfold tf4
    simp only [List.append_assoc]
  rw [e4] at H33
  have hl4 := t.len4
  have b4 := t.bytes4 (carV_bytes ((b3.drop _).take _) _ t.sf t.hu false)
  have hI : (tfI p u).Fine := ⟨t.h.body.getD 0, t.h.body.getD 1, lg_range t.h.body 4, b4, by show (tf4 p u).length ≤ _; omega⟩
  have y4 : By w33 (some ⟨gC, o, none⟩) (tfB p).length (tf4 p u) := by_part (H33.own.bk 0 rfl) ho hl4
  refine ld_msg (H33.own.bk 1 rfl) ?_
  refine call_of (BuildI_c (q := tfI p u) hI y4) ?_
  rintro e w39 ⟨k39, hM⟩
  rw [if_pos (show (tfI p u).body.length ≤ 65507 by show (tf4 p u).length ≤ 65507; omega)] at hM
  obtain ⟨A41, cap, rfl, yB, fB, lB⟩ := MadeC.by hM
  refine ⟨_, _, _, _, rfl, ?_⟩
  refine ifN (fun h => absurd rfl h) (fun _ => ?_)
  have ne := H33.new_ne fB
  have fB0 : Fre w0 A41 := fB.le H33.own.bel
  have H39 := (H33.call k39).add (x := (A41, ((tfI p u).bytes (tfI p u).sum).length, (tfI p u).bytes (tfI p u).sum)) yB (fun _ => ne)
  have lo : p.opts.length = n := hp.opts.len
  refine ld_head10 (H39.own.bk 6 rfl) ?_
  refine of_mk (pb pz none 0 0 none 0 0) (vs := pb p A n c A41 ((tfI p u).bytes (tfI p u).sum).length cap) H39 rfl rfl fun g65 w67 H67 => ?_
  refine ⟨A, n, c, H67.own.cell 7 9 rfl rfl, ?_⟩
  refine call_of (cloned_c (hp.opts.bel H67.own.bel) hn) ?_
  rintro e w69 ⟨A71, c71, rfl, qb⟩
  refine ⟨_, _, _, rfl, ?_⟩
  have ne2 := H67.new_ne qb.fre
  have fA0 : Fre w0 A71 := qb.fre.le H67.own.bel
  have H69 := (H67.call qb.own.bel).add (x := (A71, 0 + n, p.opts)) qb.by (fun _ => ne2)
  refine of_set 0 H69 rfl (Nat.lt_of_lt_of_le (by decide : 9 < 11) (Nat.le_refl 11)) fun w72 H72 => ?_
  refine of_set 0 H72 rfl (Nat.lt_of_lt_of_le (by decide : 7 < 11) (Nat.le_refl 11)) fun w73 H73 => ?_
  refine of_set 0 H73 rfl (Nat.lt_of_lt_of_le (by decide : 8 < 11) (Nat.le_refl 11)) fun w74 H74 => ?_
  replace H74 : OF w0 w74 ((g65, 45, pb (tfP p u src dst) A71 (0 + n) c71 A41 ((tfI p u).bytes (tfI p u).sum).length cap) :: _) _ := H74
  refine ld_pkt (H74.own.bk 0 rfl) ?_
  refine of_put 5 H74 rfl rfl (Nat.le_refl 11) fun w86 H86 => ?_
  refine ld_pkt (a0 := (tfP p u src dst).tos) (H86.own.bk 5 rfl) ?_
  have e5 : tfO p u src dst = tfP p u src dst := by unfold tfO; rw [if_pos t.he]
  refine ⟨H86.own.bel, ?_⟩
  rw [e5, t.he]
  exact ⟨A71, 0 + n, c71, A41, _, cap, rfl, ⟨(H86.fz _ List.mem_cons_self).1, (H86.fz _ (List.mem_cons_of_mem _ List.mem_cons_self)).1, qb.le, lB⟩, fA0, fB0⟩
end
/-! ### its head -/
theorem ret_tf_no {w0 w : World} {p : Pk} {u : Tp} {src dst k : Int} (hb : Bel w0 w) (h : tfE p u = k) (hk : k ≠ 0) : RetTF w0 p u src dst (.returned (.tuple #[.agg (pb pz none 0 0 none 0 0).toArray, .int .i64 k])) w := by
  have e : tfO p u src dst = pz := by unfold tfO; rw [if_neg (by omega)]
  unfold RetTF
  rw [e, h]
  exact ⟨hb, ret_pz w0 w k⟩
theorem aboutE_zero {p : Pk} (h : aboutE p = 0) : msgE p = 0 ∧ faultT (p.body.getD 0 0) = true ∧ bad false (p.body.drop 8) = 0 := by
  unfold aboutE at h
  by_cases h1 : msgE p ≠ 0
  · rw [if_pos h1] at h; exact absurd h h1
  rw [if_neg h1] at h
  by_cases h2 : faultT (p.body.getD 0 0) = false
  · rw [if_pos h2] at h; cases h
  rw [if_neg h2] at h
  exact ⟨Decidable.of_not_not h1, by simpa using h2, h⟩
theorem tfE_zero {p : Pk} {u : Tp} (h : tfE p u = 0) : aboutE p = 0 ∧ mayT (p.body.getD 0 0) = true ∧ quB (tfH p) (tfQ p) = true ∧ u.proto = (tfS p).proto ∧ ¬ ((tfS p).proto = 1 ∧ u.sp ≠ u.dp) := by
  unfold tfE at h
  by_cases h1 : aboutE p ≠ 0
  · rw [if_pos h1] at h; exact absurd h h1
  rw [if_neg h1] at h
  by_cases h2 : mayT (p.body.getD 0 0) = false ∨ quB (tfH p) (tfQ p) = false ∨ u.proto ≠ (tfS p).proto ∨ ((tfS p).proto = 1 ∧ u.sp ≠ u.dp)
  · rw [if_pos h2] at h; cases h
  refine ⟨Decidable.of_not_not h1, ?_, ?_, ?_, ?_⟩
  · by_cases h3 : mayT (p.body.getD 0 0) = true
    · exact h3
    · exact absurd (Or.inl (by simpa using h3)) h2
  · by_cases h3 : quB (tfH p) (tfQ p) = true
    · exact h3
    · exact absurd (Or.inr (Or.inl (by simpa using h3))) h2
  · exact Decidable.of_not_not fun h3 => h2 (Or.inr (Or.inr (Or.inl h3)))
  · exact fun h3 => h2 (Or.inr (Or.inr (Or.inr h3)))
theorem tfB_ok {p : Pk} (ha : aboutE p = 0) : 20 ≤ (tfB p).length ∧ (tfB p).length ≤ 65507 ∧ 20 ≤ hlen (tfB p) ∧ hlen (tfB p) ≤ (tfB p).length ∧ (tfB p).length = p.body.length - 8 ∧ (tfQ p).length = there (tfB p) - hlen (tfB p) ∧ there (tfB p) ≤ (tfB p).length := by
  obtain ⟨h1, h2, h3⟩ := aboutE_zero ha
  have hz := icBad_zero (msgE_zero h1).2.2.2.2
  obtain ⟨a1, a2, a3, a4, a5, a6⟩ := badLen_zero (bad_zero h3).1
  have e : (tfB p).length = p.body.length - 8 := by unfold tfB; rw [List.length_drop]
  have e2 : there (tfB p) ≤ (tfB p).length := Nat.min_le_right _ _
  refine ⟨a1, by omega, a3, a4, e, ?_, e2⟩
  unfold tfQ
  rw [List.length_drop, List.length_take]
  omega
theorem tfS_fine {p : Pk} (h : p.Fine) : (tfS p).Fine := by
  have bb : Bytes (tfB p) := h.body.drop 8
  have bq : Bytes (tfQ p) := (bb.take _).drop _
  have s1 : 0 ≤ (tfH p).src ∧ (tfH p).src ≤ 4294967295 := lg_range bb 12
  have s2 : 0 ≤ (tfH p).dst ∧ (tfH p).dst ≤ 4294967295 := lg_range bb 16
  have s3 : 0 ≤ (tfH p).proto ∧ (tfH p).proto ≤ 255 := bb.getD 9
  unfold tfS quT
  split
  · unfold quT1
    split
    · exact ⟨s1, s2, s3, wd_range bq 4, wd_range bq 4⟩
    · exact ⟨s1, s2, s3, wd_range bq 0, wd_range bq 2⟩
  · refine ⟨?_, ?_, ?_, ?_, ?_⟩ <;> decide
theorem Tf.of {p : Pk} (h : p.Fine) {u : Tp} (hu : u.Fine) (he : tfE p u = 0) : Tf p u := by
  obtain ⟨h1, h2, h3, h4, h5⟩ := tfE_zero he
  obtain ⟨a1, a2, a3, a4, a5, a6, a7⟩ := tfB_ok h1
  have h8 : 8 ≤ (tfQ p).length := (of_decide_eq_true h3).2.1
  exact ⟨h, hu, he, a3, h8, by omega, a2, h.body.drop 8, tfS_fine h⟩
theorem own_one {w w' : World} {g : Nat} {t : TypeId} {l : List Value} (k : Bel w w') (b : Bk w' g t l) (h : w.heap.size ≤ g) : Own w w' [(g, t, l)] :=
  ⟨k, fun i g' t' l' hi => by
    cases i with
    | zero =>
      simp only [List.getElem?_cons_zero, Option.some.injEq, Prod.mk.injEq] at hi
      obtain ⟨rfl, rfl, rfl⟩ := hi
      exact ⟨b, h⟩
    | succ i => simp at hi, by simp⟩
theorem perm3 {α : Type} {a b c : α} {M : List α} : (a :: b :: c :: M).Perm (c :: b :: a :: M) := by
  classical
  rw [List.perm_iff_count]
  intro x
  simp only [List.count_cons]
  omega
theorem TurnFault_c {w : World} (hg : GlF w) {p : Pk} (h : p.Fine) {u : Tp} (hu : u.Fine) (src dst : Int) {A : Option Addr} {n c : Nat} {B : Option Addr} {m d : Nat} (hp : PkAt w p A n c B m d) :
    Calls Tryd.prog 35 #[.agg (pb p A n c B m d).toArray, .int .u32 src, .int .u32 dst, .agg (tpv u).toArray] w (RetTF w p u src dst) := by
  refine nat_TurnFault.run ?_
  unfold nat_TurnFault.s
  have lb := hp.body.len
  have lo := hp.opts.len
  refine own_new (l := pb p A n c B m d) (Own.refl w) fun g1 w2 H => ?_
  refine own_new (l := tpv u) H fun g3 w4 H => ?_
  refine own_new (l := pb pz none 0 0 none 0 0) H fun g5 w6 H => ?_
  refine ld_pkt (H.bk 2 rfl) ?_
  refine call_of (About_r (hg.bel H.bel) h (hp.bel H.bel)) ?_
  rintro e w18 ⟨k18, he⟩
  unfold RetAbR at he
  by_cases ea : aboutE p = 0
  rotate_left
  · rw [if_neg ea] at he
    subst he
    refine ⟨_, _, _, _, _, _, _, _, _, _, _, _, _, _, _, _, rfl, ?_⟩
    refine own_mk hz (vs := hz) (H.call k18) rfl rfl fun g32 w34 H k34 _ => ?_
    refine ifN (fun _ => ?_) (fun h => absurd h ea)
    refine put_pkt 1 H rfl rfl fun w7 H _ => ?_
    exact ret_tf_no H.bel (by unfold tfE; rw [if_pos ea]) ea
  rw [if_pos ea, show p.body.drop 8 = tfB p from rfl] at he
  obtain ⟨A1, c1, A2, c2, rfl, y1, y2, l1, l2, f1, f2, r2⟩ := he
  obtain ⟨a1, a2, a3, a4, a5, a6, a7⟩ := tfB_ok ea
  obtain ⟨z1, z2, z3⟩ := aboutE_zero ea
  have zB := (msgE_zero z1).2.2.2.2
  have bb : Bytes (tfB p) := h.body.drop 8
  have bq : Bytes (tfQ p) := (bb.take _).drop _
  refine ⟨_, _, _, _, _, _, _, _, _, _, _, _, _, _, _, _, rfl, ?_⟩
  refine own_mk hz (vs := hb (tfB p) A1 (hlen (tfB p) - 20) c1) (H.call k18) rfl rfl fun g32 w34 H k34 _ => ?_
  refine ifN (fun h => absurd rfl h) (fun _ => ?_)
  refine ⟨B, m, d, H.cell 3 10 rfl rfl, ?_⟩
  refine call_of (IParse_r (hp.body.bel H.bel) h.body hp.cb) ?_
  rintro e w48 ⟨k48, he⟩
  rw [if_pos zB, show p.body.drop 8 = tfB p from rfl] at he
  obtain ⟨C0, cc, rfl, yC, lC, fC, rC⟩ := he
  have em : m - 8 = (tfB p).length := by omega
  rw [em] at yC lC ⊢
  have hcc := rC.le
  obtain ⟨gC, o, pre, post, rfl, ho, hbk⟩ := rm_part rC yC (by omega) lC
  have H2 := Own.join H (own_one k48 hbk (fC _ rfl))
  refine ⟨_, _, _, _, _, _, _, rfl, ?_⟩
  refine own_mk (mv 0 0 0 none 0 0) (vs := mv (p.body.getD 0 0) (p.body.getD 1 0) (lg p.body 4) (some ⟨gC, o, none⟩) (tfB p).length cc) H2 rfl rfl fun g55 w57 H3 k57 _ => ?_
  refine ifN (fun h => absurd rfl h) (fun _ => ?_)
  refine ld_head (H3.bk 2 rfl) ?_
  have yq : By w57 A2 (there (tfB p) - hlen (tfB p)) (tfQ p) := y2.bel (Bel.trans k34 (Bel.trans k48 k57))
  refine call_of (quoted_c (p := tfH p) (A := A1) (n := hlen (tfB p) - 20) (c := c1) yq bq (by omega)) ?_
  rintro e w80 ⟨rfl, k80⟩
  refine ⟨_, _, _, _, _, _, rfl, ?_⟩
  refine own_mk (tpv tpz) (vs := tpv (tfS p)) (H3.call k80) rfl rfl fun g88 w90 H4 k90 _ => ?_
  refine ⟨p.body.getD 0 0, H4.cell 1 0 rfl rfl, ?_⟩
  refine call_of (nmay_c w90 _) ?_
  rintro e w92 ⟨rfl, k92⟩
  replace H4 := H4.call k92
  refine ⟨_, rfl, ?_⟩
  have t230 : (mayT (p.body.getD 0 0) = false ∨ quB (tfH p) (tfQ p) = false ∨ u.proto ≠ (tfS p).proto ∨ ((tfS p).proto = 1 ∧ u.sp ≠ u.dp)) → tfE p u = 230 := fun hx => by unfold tfE; rw [if_neg (fun hx => hx ea), if_pos hx]
  refine ifNot (fun h1 => ?_) (fun h1 => ?_)
  · refine put_pkt 4 H4 rfl rfl fun w7 H _ => ?_
    exact ret_tf_no H.bel (t230 (Or.inl h1)) (by decide)
  refine ifNot (fun h2 => ?_) (fun h2 => ?_)
  · refine put_pkt 4 H4 rfl rfl fun w7 H _ => ?_
    exact ret_tf_no H.bel (t230 (Or.inr (Or.inl h2))) (by decide)
  refine ⟨u.proto, H4.cell 5 2 rfl rfl, (tfS p).proto, H4.cell 0 2 rfl rfl, ?_⟩
  refine ifN (fun h3 => ?_) (fun h3 => ?_)
  · refine put_pkt 4 H4 rfl rfl fun w7 H _ => ?_
    exact ret_tf_no H.bel (t230 (Or.inr (Or.inr (Or.inl h3)))) (by decide)
  refine ⟨(tfS p).proto, H4.cell 0 2 rfl rfl, ?_⟩
  have fin : ¬ ((tfS p).proto = 1 ∧ u.sp ≠ u.dp) → nat_TurnFault.J1 src dst g1 g3 g5 g32 A2 (there (tfB p) - hlen (tfB p)) c2 g55 g88 w92 (RetTF w p u src dst) := fun hx => by
    have he : tfE p u = 0 := by
      unfold tfE
      rw [if_neg (fun hx => hx ea), if_neg]
      rintro (h | h | h | h)
      · rw [h1] at h; cases h
      · rw [h2] at h; cases h
      · exact h h3
      · exact hx h
    have t := Tf.of h hu he
    have H5 : OF w w92 [(gC, 5, bv (pre ++ (tfB p ++ post))), (g55, 115, mv (p.body.getD 0 0) (p.body.getD 1 0) (lg p.body 4) (some ⟨gC, o, none⟩) (tfB p).length cc), (g88, 32, tpv (tfS p)),
      (g32, 43, hb (tfB p) A1 (hlen (tfB p) - 20) c1), (g5, 45, pb pz none 0 0 none 0 0), (g3, 32, tpv u), (g1, 45, pb p A n c B m d)] [] :=
      ⟨H4.perm perm3, fun x hx => by cases hx⟩
    have ez := (Pk.err_zero (msgE_zero z1).1).2.2
    have k := tf_j1 t (src := src) (dst := dst) hp ho lC hcc (by omega) (Y := A2) (yc := c2) H5
    rw [a6] at k
    exact k
  refine ifE (fun h4 => ?_) (fun h4 => ?_)
  · refine ⟨u.sp, H4.cell 5 3 rfl rfl, u.dp, H4.cell 5 4 rfl rfl, ?_⟩
    refine ifN (fun h5 => ?_) (fun h5 => ?_)
    · refine put_pkt 4 H4 rfl rfl fun w7 H _ => ?_
      exact ret_tf_no H.bel (t230 (Or.inr (Or.inr (Or.inr ⟨h4, h5⟩)))) (by decide)
    · have k := fin (fun hx => hx.2 h5)
      exact ⟨by with_reducible apply k⟩
  · have k := fin (fun hx => h4 hx.1)
    exact ⟨by with_reducible apply k⟩
end Go.Proofs.YtphbdmafchjjeaaDoorS
