/- Ip4CopiedOnce: what is carried on is an area of options to be copied, no longer than what it is made of, and is carried on whole; Build takes it.
   Conditions: none; every list of options is spoken of. -/
import Derived.Test.YtbacmhegalncjaaQFXCopied
import Derived.Test.YtbacmhegalncjaaQFXBuild
import Derived.Test.YtbacmhegalncjaaQFXBx7
import Derived.Test.YtbacmhegalncjaaQFXRowIp4CopiedOnce
namespace Go.Proofs.YtbacmhegalncjaaX
open Go.RowKit Go.Proofs.Ytbacmhegalncjaa.XB Go.Proofs.YtbacmhegalncjaaW.PrintWords Go.Proofs.YtbacmhegalncjaaW.PrintLast Go.Proofs.YtbacmhegalncjaaW.PrintMore
set_option linter.unusedVariables false
set_option linter.unusedSimpArgs false

theorem gap_w {n i : Nat} (h : i ≤ n) (hn : n ≤ 100000) : wrap64 ((n : Int) - (i : Int)) = ((n - i : Nat) : Int) := by
  have h3 : wrap64 ((n : Int) - i) = (n : Int) - i := w64 (by omega) (by omega)
  rw [h3]
  omega
theorem each_zeros (b : List Int) (hl : b.length ≤ 40) (h4 : b.length % 4 = 0) (d : Nat) : ∀ j : Nat, j + d = b.length → b.drop j = List.replicate d 0 → Ev (fun k => weftlaw3_each.l1 k b (j : Int)) true := by
  induction d with
  | zero =>
    intro j hj _
    refine Ev.step (fun k => by rw [weftlaw3_each.l1, if_neg (by omega)]) ?_
    have : (((b.length : Int) % 4) == 0) = true := beq_iff_eq.2 (by omega)
    rw [this]
    exact Ev.now _
  | succ d ih =>
    intro j hj hd
    have hlt : j < b.length := by omega
    rw [List.drop_eq_getElem_cons hlt, List.replicate_succ] at hd
    have hx : b.getD j 0 = 0 := by simp [List.getD_eq_getElem?_getD, hlt, (List.cons.inj hd).1]
    refine Ev.step (fun k => by rw [weftlaw3_each.l1, if_pos (by omega), if_pos (by omega), rd_nat, if_pos hx, step_one (by omega)]) ?_
    exact ih (j + 1) (by omega) (List.cons.inj hd).2
theorem each_end (b : List Int) (hl : b.length ≤ 40) (h4 : b.length % 4 = 0) {m : Nat} (hm : m ≤ 3) (i : Nat) (hi : i ≤ b.length) (hd : b.drop i = List.replicate m 0) : Ev (fun k => weftlaw3_each.l0 k b (i : Int)) true := by
  have hlen : b.length - i = m := by have := congrArg List.length hd; rw [List.length_drop, List.length_replicate] at this; exact this
  have hj : Ev (fun k => weftlaw3_each.j1 k b (i : Int) false) true := by
    refine Ev.step (fun k => by rw [weftlaw3_each.j1, if_neg (by decide), if_neg (by omega), gap_w hi (by omega), hlen, decide_eq_false (by omega)]) ?_
    refine Ev.step (fun k => by rw [weftlaw3_each.j2, if_neg (by decide)]) ?_
    exact each_zeros b hl h4 m i (by omega) hd
  by_cases hlt : i < b.length
  · have hx : b.getD i 0 = 0 := by
      obtain ⟨m', rfl⟩ : ∃ m', m = m' + 1 := ⟨m - 1, by omega⟩
      rw [List.drop_eq_getElem_cons hlt, List.replicate_succ] at hd
      simp [List.getD_eq_getElem?_getD, hlt, (List.cons.inj hd).1]
    exact Ev.step (fun k => by rw [weftlaw3_each.l0, if_pos (by omega), if_pos (by omega), rd_nat, hx, show ((0 : Int) != 0) = false from rfl]) hj
  · exact Ev.step (fun k => by rw [weftlaw3_each.l0, if_neg (by omega)]) hj
theorem each_step (b : List Int) (x n : Int) (i : Nat) {r : Bool} (hb : Bytes b) (hi9 : i ≤ 100000) (e0 : x ≠ 0) (h8 : ¬ x < 128) (h2 : 2 ≤ n) (hlt : i < b.length) (hlt2 : i + 1 < b.length) (hx0 : b.getD i 0 = x) (hn0 : b.getD (i + 1) 0 = n)
    (hk : Ev (fun k => weftlaw3_each.l0 k b ((i + n.toNat : Nat) : Int)) r) : Ev (fun k => weftlaw3_each.l0 k b (i : Int)) r := by
  have hnb := hb.getD (i + 1)
  rw [hn0] at hnb
  have hne : (x != 0) = true := bne_iff_ne.mpr e0
  have hn2 : ¬ n < 2 := by omega
  have hge : ¬ (((i + 1 : Nat) : Int) ≥ (b.length : Int)) := by omega
  have hw : wrap64 ((i : Int) + 1) = ((i + 1 : Nat) : Int) := step_one hi9
  have hwn : wrap64 ((i : Int) + wrap64 n) = ((i + n.toNat : Nat) : Int) := step_n hi9 hnb.1 hnb.2
  refine Ev.step (fun k => by rw [weftlaw3_each.l0, if_pos (Int.ofNat_lt.2 hlt), if_pos (Int.natCast_nonneg i), rd_nat, hx0, hne]) ?_
  refine Ev.step (fun k => by rw [weftlaw3_each.j1, if_pos rfl, if_pos (Int.natCast_nonneg i), if_pos (Int.ofNat_lt.2 hlt), rd_nat, hx0, if_neg h8, hw, if_neg hge, if_pos (Int.natCast_nonneg _), if_pos (Int.ofNat_lt.2 hlt2), rd_nat, hn0, if_neg hn2, hwn]) ?_
  exact hk
theorem each_loop (b : List Int) (hb : Bytes b) (hl : b.length ≤ 40) (h4 : b.length % 4 = 0) {m : Nat} (hm : m ≤ 3) {t : List Int} (h : area t = true) : ∀ i : Nat, i ≤ b.length → b.drop i = cop t ++ List.replicate m 0 → Ev (fun k => weftlaw3_each.l0 k b (i : Int)) true := by
  refine area_ind (P := fun t => ∀ i : Nat, i ≤ b.length → b.drop i = cop t ++ List.replicate m 0 → Ev (fun k => weftlaw3_each.l0 k b (i : Int)) true) ?_ ?_ ?_ ?_ ?_ t.length t (Nat.le_refl _) h
  · intro i hi hd
    exact each_end b hl h4 hm i hi (by simpa [cop] using hd)
  · intro x hx i hi hd
    exact each_end b hl h4 hm i hi (by simpa [cop] using hd)
  · intro n l hz i hi hd
    exact each_end b hl h4 hm i hi (by simpa [cop] using hd)
  · intro n l ha ih i hi hd
    rw [cop, if_neg (by decide), if_pos rfl] at hd
    exact ih i hi hd
  · intro x n l e0 e1 h2 hll ha ih i hi hd
    rw [cop, if_neg e0, if_neg e1] at hd
    by_cases h8 : x < 128
    · rw [if_pos h8] at hd
      exact ih i hi hd
    · rw [if_neg h8, List.cons_append, List.cons_append, List.append_assoc] at hd
      have hD : (l.take (n.toNat - 2)).length = n.toNat - 2 := by rw [List.length_take]; omega
      have htl : b.length - i = n.toNat + (cop (l.drop (n.toNat - 2)) ++ List.replicate m 0).length := by
        have := congrArg List.length hd
        rw [List.length_drop] at this
        simp only [List.length_cons, List.length_append, hD] at this ⊢
        omega
      have hlt : i < b.length := by omega
      have hlt2 : i + 1 < b.length := by omega
      have hd0 := hd
      rw [List.drop_eq_getElem_cons hlt] at hd
      have hx0 : b.getD i 0 = x := by simp [List.getD_eq_getElem?_getD, hlt, (List.cons.inj hd).1]
      have hd2 := (List.cons.inj hd).2
      rw [List.drop_eq_getElem_cons hlt2] at hd2
      have hn0 : b.getD (i + 1) 0 = n := by simp [List.getD_eq_getElem?_getD, hlt2, (List.cons.inj hd2).1]
      have hd3 := (List.cons.inj hd2).2
      have hB : i + 1 + 1 + (n.toNat - 2) = i + n.toNat := by omega
      refine each_step b x n i hb (by omega) e0 h8 h2 hlt hlt2 hx0 hn0 (ih (i + n.toNat) (by omega) ?_)
      have := congrArg (List.drop (n.toNat - 2)) hd3
      rw [List.drop_drop, hB, List.drop_left' hD] at this
      exact this
theorem each_f {o : List Int} (hb : Bytes o) (h : oOK o = true) : Ev (fun k => weftlaw3_each.f k (pad (cop o))) true := by
  have h1 := (oOK_len h).1
  have ha : area o = true := by
    simp [oOK] at h
    exact h.2.2
  have h3 := cop_len ha
  have h4 := pad_len (cop o)
  have hpb : Bytes (pad (cop o)) := (cop_bytes ha hb).append (padZ_bytes _)
  exact each_loop (pad (cop o)) hpb (by have := copied_ok h; omega) h4.1 (m := (4 - (cop o).length % 4) % 4) (by omega) ha 0 (by omega) (by rw [List.drop_zero]; rfl)
/-- A packet of nothing but options. -/
def optP (o : List Int) : Pk := ⟨0, 0, false, false, 0, 0, 0, 0, 0, o, []⟩
theorem optP_fine {o : List Int} (hb : Bytes o) (hl : o.length ≤ 140737488351232) : (optP o).Fine := by
  refine ⟨?_, ?_, ?_, ?_, ?_, ?_, ?_, hb, Bytes.nil, hl, ?_⟩ <;> simp [optP]
theorem optP_err (o : List Int) : (optP o).err = if oOK o = true then 0 else 34 := by
  show (if oOK o = true then if ordB 0 (([] : List Int).length : Int) false = true then if 20 + o.length + ([] : List Int).length ≤ 65535 then 0 else 37 else 36 else 34 : Int) = _
  by_cases h : oOK o = true
  · have := (oOK_len h).1
    rw [if_pos h, if_pos h, if_pos (by simp [ordB]), if_pos (by simp; omega)]
  · rw [if_neg h, if_neg h]
theorem optB_f {o : List Int} (hb : Bytes o) (hl : o.length ≤ 140737488351232) : ∃ x : List Int, Ev (fun k => ip4_Build.f k 0 0 false false 0 0 0 0 0 o []) (x, if oOK o = true then 0 else 34) := by
  have h := build_f (optP o) (optP_fine hb hl)
  rw [optP_err] at h
  by_cases e : oOK o = true
  · rw [if_pos e] at h ⊢
    rw [if_pos rfl] at h
    exact ⟨_, h⟩
  · rw [if_neg e] at h ⊢
    rw [if_neg (by decide)] at h
    exact ⟨_, h⟩
theorem pureCopiedOnce : Go.Proofs.Ytbacmhegalncjaa.Xip4CopiedOnce.Pure := by
  intro o hx
  have hb : Bytes o := fun y hy => wf8 (hx.2 y hy)
  have hl : o.length ≤ 140737488351232 := by have := hx.1; omega
  refine Ev.rounds (g := fun k => weftlaw3_Ip4CopiedOnce.f k o) ?_
  have hs : Bytes [131, 3, 4, 1, 7, 3, 4, 130, 4, 9, 9, 0] := by simp [Bytes]
  have hsOK : oOK [131, 3, 4, 1, 7, 3, 4, 130, 4, 9, 9, 0] = true := by simp [oOK, area]
  have hsc : pad (cop [131, 3, 4, 1, 7, 3, 4, 130, 4, 9, 9, 0]) = [131, 3, 4, 130, 4, 9, 9, 0] := by simp [cop, pad, padZ]
  have h1 := copied_f hs (by simp)
  rw [if_pos hsOK, hsc] at h1
  refine Ev.bind h1 ?_
  simp only [if_true]
  refine Ev.bind (same_f _ _ (by simp)) ?_
  simp only [decide_true, Bool.not_true]
  refine Ev.step (fun k => by rw [weftlaw3_Ip4CopiedOnce.j0, if_neg (by decide)]) ?_
  refine Ev.bind (copied_f hb (by omega)) ?_
  obtain ⟨x, hB⟩ := optB_f hb hl
  refine Ev.bind hB ?_
  by_cases h : oOK o = true
  · simp only [if_pos h, if_true]
    obtain ⟨g1, g2, g3⟩ := copied_ok h
    have ha : area o = true := by
      simp [oOK] at h
      exact h.2.2
    have hol := (oOK_len h).1
    have hpb : Bytes (pad (cop o)) := (cop_bytes ha hb).append (padZ_bytes _)
    have h2 := copied_f hpb (by omega)
    rw [if_pos g1, g2] at h2
    refine Ev.bind h2 ?_
    obtain ⟨y, hB2⟩ := optB_f hpb (by omega)
    rw [if_pos g1] at hB2
    refine Ev.bind hB2 ?_
    simp only [if_true]
    refine Ev.bind (same_f _ _ (by omega)) ?_
    simp only [decide_true, if_true]
    refine Ev.congr (fun k => by rw [if_pos (by omega)]) ?_
    refine Ev.bind (each_f hb h) ?_
    exact Ev.now _
  · simp only [if_neg h, if_true]
    exact Ev.now _
theorem ip4CopiedOnce_row : Go.Proofs.Ytbacmhegalncjaa.Rows.Ip4CopiedOnceSaid := Go.Proofs.Ytbacmhegalncjaa.Xip4CopiedOnce.over pureCopiedOnce
end Go.Proofs.YtbacmhegalncjaaX
namespace Go.Proofs.Ytbacmhegalncjaa
/-- The row, under a short name, for the claim. -/
theorem ip4CopiedOnce_holds : Rows.Ip4CopiedOnceSaid := Go.Proofs.YtbacmhegalncjaaX.ip4CopiedOnce_row
end Go.Proofs.Ytbacmhegalncjaa
