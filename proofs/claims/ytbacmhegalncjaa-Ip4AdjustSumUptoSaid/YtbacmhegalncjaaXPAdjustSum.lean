/- Ip4AdjustSum: one word of a list changes; ip4.Adjust tells the new sum without the other words, but where all words are 0.
   Conditions: what is read is of bulk at most 1048576 (the statement's own bound). -/
import Derived.Test.YtbacmhegalncjaaXSum
import Derived.Test.YtbacmhegalncjaaXRowIp4AdjustSum
namespace Go.Proofs.YtbacmhegalncjaaX
open Go.RowKit Go.Proofs.Ytbacmhegalncjaa.XB Go.Proofs.YtbacmhegalncjaaW.PrintWords Go.Proofs.YtbacmhegalncjaaW.PrintLast Go.Proofs.YtbacmhegalncjaaW.PrintMore
set_option linter.unusedVariables false
set_option linter.unusedSimpArgs false

/-- A list with an even place of two: its sum, that of the others and the word. -/
theorem tot_split (l : List Int) (n : Nat) (h : 2 * n + 1 < l.length) : tot true l = tot true (l.take (2 * n)) + (256 * l.getD (2 * n) 0 + l.getD (2 * n + 1) 0) + tot true (l.drop (2 * n + 2)) := by
  have h1 : 2 * n < l.length := by omega
  have e : l = l.take (2 * n) ++ ([l.getD (2 * n) 0, l.getD (2 * n + 1) 0] ++ l.drop (2 * n + 2)) := by
    have e1 : l.drop (2 * n) = l.getD (2 * n) 0 :: l.getD (2 * n + 1) 0 :: l.drop (2 * n + 2) := by
      rw [List.drop_eq_getElem_cons h1, List.drop_eq_getElem_cons h]
      simp [List.getD_eq_getElem?_getD, List.getElem?_eq_getElem h1, List.getElem?_eq_getElem h]
    have := (List.take_append_drop (2 * n) l).symm
    rw [e1] at this
    exact this
  have e2 := congrArg (tot true) e
  rw [tot_even _ _ (by rw [List.length_take]; omega), tot_even _ _ (by simp)] at e2
  simp only [tot] at e2
  omega
theorem tot_split_set (l : List Int) (n : Nat) (h : 2 * n + 1 < l.length) (a b : Int) : tot true ((l.set (2 * n) a).set (2 * n + 1) b) = tot true (l.take (2 * n)) + (256 * a + b) + tot true (l.drop (2 * n + 2)) := by
  have hs := tot_split ((l.set (2 * n) a).set (2 * n + 1) b) n (by simpa using h)
  have e1 : ((l.set (2 * n) a).set (2 * n + 1) b).take (2 * n) = l.take (2 * n) := by
    rw [List.take_set_of_le (by omega), List.take_set_of_le (by omega)]
  have e2 : ((l.set (2 * n) a).set (2 * n + 1) b).drop (2 * n + 2) = l.drop (2 * n + 2) := by
    rw [List.drop_set_of_lt (by omega), List.drop_set_of_lt (by omega)]
  have e3 : ((l.set (2 * n) a).set (2 * n + 1) b).getD (2 * n) 0 = a := by
    rw [List.getD_eq_getElem?_getD, List.getElem?_set_ne (by omega), List.getElem?_set_self (by omega)]
    rfl
  have e4 : ((l.set (2 * n) a).set (2 * n + 1) b).getD (2 * n + 1) 0 = b := by
    rw [List.getD_eq_getElem?_getD, List.getElem?_set_self (by rw [List.length_set]; omega)]
    rfl
  rw [e1, e2, e3, e4] at hs
  exact hs
theorem zl_ev (c : List Int) (hc : Bytes c) (hlen : c.length ≤ 2000000) (t : Int) (ht : (tot true c = 0 → t = 0) ∧ (tot true c ≠ 0 → t = 65535 - S (tot true c))) (d : Nat) : ∀ (j : Nat) (z : Bool), j + d = c.length → (z = true ↔ ∀ x ∈ c.take j, x = 0) →
    Ev (fun k => weftlaw3_Ip4AdjustSum.l0 k c t z (j : Int)) true := by
  induction d with
  | zero =>
    intro j z hj hz
    have : j = c.length := by omega
    subst this
    rw [List.take_length, ← tot_eq_zero (b := true) hc] at hz
    have hsum := sum_one hc (by omega)
    cases z with
    | true =>
      have h0 := hz.1 rfl
      rw [h0, S_zero] at hsum
      refine Ev.step (fun k => by rw [weftlaw3_Ip4AdjustSum.l0, if_neg (by omega), if_pos rfl, if_pos (ht.1 h0)]) ?_
      refine Ev.bind hsum ?_
      exact Ev.now _
    | false =>
      have h0 : tot true c ≠ 0 := fun h => by have := hz.2 h; cases this
      refine Ev.step (fun k => by rw [weftlaw3_Ip4AdjustSum.l0, if_neg (by omega), if_neg (by decide)]) ?_
      refine Ev.bind hsum ?_
      rw [ht.2 h0, beq_self_eq_true]
      exact Ev.now _
  | succ d ih =>
    intro j z hj hz
    have hlt : j < c.length := by omega
    have hw : wrap64 ((j : Int) + 1) = ((j + 1 : Nat) : Int) := by rw [w64 (by omega) (by omega)]; omega
    have hr : rd c (j : Int) = c[j] := rd_lt c j hlt
    by_cases h0 : c[j] = 0
    · refine Ev.step (fun k => by rw [weftlaw3_Ip4AdjustSum.l0, if_pos (by omega), if_pos (by omega), hr, if_pos h0, hw]) ?_
      refine ih (j + 1) z (by omega) ?_
      rw [hz, ← List.take_append_getElem hlt]
      constructor
      · intro h x hx
        rcases List.mem_append.1 hx with hx | hx
        · exact h x hx
        · rw [List.mem_singleton.1 hx]; exact h0
      · intro h x hx
        exact h x (List.mem_append_left _ hx)
    · refine Ev.step (fun k => by rw [weftlaw3_Ip4AdjustSum.l0, if_pos (by omega), if_pos (by omega), hr, if_neg h0, hw]) ?_
      refine ih (j + 1) false (by omega) ?_
      rw [← List.take_append_getElem hlt]
      constructor
      · intro h
        cases h
      · intro h
        exact absurd (h c[j] (List.mem_append_right _ (List.mem_singleton.2 rfl))) h0
theorem j1a_ev (at_ : Int) (w : Int) (c : List Int) (hc : Bytes c) (hlen : c.length ≤ 2000000) (he : c.length % 2 = 0) (hn : c ≠ []) (hat : 0 ≤ at_ ∧ at_ ≤ 9223372036854775807) (hw : 0 ≤ w ∧ w ≤ 65535) :
    Ev (fun k => weftlaw3_Ip4AdjustSum.j1 k at_ w c) true := by
  have hl : 0 < c.length := List.length_pos_iff.2 hn
  obtain ⟨n, hn2, hlt⟩ : ∃ n : Nat, wrap64 ((Int.tmod at_ (c.length : Int)) - (Int.tmod (Int.tmod at_ (c.length : Int)) 2)) = ((2 * n : Nat) : Int) ∧ 2 * n + 1 < c.length := by
    refine ⟨((at_ % (c.length : Int)) / 2).toNat, ?_, ?_⟩
    · rw [Int.tmod_eq_emod_of_nonneg hat.1, Int.tmod_eq_emod_of_nonneg (Int.emod_nonneg _ (by omega))]
      have h1 := Int.emod_nonneg at_ (show (c.length : Int) ≠ 0 by omega)
      have h2 := Int.emod_lt_of_pos at_ (show (0 : Int) < c.length by omega)
      rw [w64 (by omega) (by omega)]
      omega
    · have h1 := Int.emod_nonneg at_ (show (c.length : Int) ≠ 0 by omega)
      have h2 := Int.emod_lt_of_pos at_ (show (0 : Int) < c.length by omega)
      omega
  have hw1 : wrap64 (((2 * n : Nat) : Int) + 1) = ((2 * n + 1 : Nat) : Int) := by rw [w64 (by omega) (by omega)]; omega
  have g0 := hc.getD (2 * n)
  have g1 := hc.getD (2 * n + 1)
  have hword : weftlaw3_word.f c ((2 * n : Nat) : Int) = some (256 * c.getD (2 * n) 0 + c.getD (2 * n + 1) 0) := by
    rw [weftlaw3_word.f, hw1, if_pos (by omega), if_pos (by omega), if_pos (by omega), if_pos (by omega), rd_nat, rd_nat]
    congr 1
    simp only [wrap64]
    omega
  have ht := tot_nonneg (b := true) hc
  have hS := S_range ht
  have hsp := tot_split c n hlt
  have hsp2 := tot_split_set c n hlt (w / 256 % 256) (w % 256)
  have hc2 : Bytes ((c.set (2 * n) (w / 256 % 256)).set (2 * n + 1) (w % 256)) := (hc.set _ (by omega)).set _ (by omega)
  have ht2 := tot_nonneg (b := true) hc2
  have p1 := tot_nonneg (b := true) (hc.take (2 * n))
  have p2 := tot_nonneg (b := true) (hc.drop (2 * n + 2))
  obtain ⟨ow, how⟩ : ∃ ow, ow = 256 * c.getD (2 * n) 0 + c.getD (2 * n + 1) 0 := ⟨_, rfl⟩
  rw [← how] at hword hsp
  refine Ev.step (fun k => by rw [weftlaw3_Ip4AdjustSum.j1, if_neg (by omega), hn2, hword, Option.bind_some]) ?_
  refine Ev.bind (sum_one hc (by omega)) ?_
  simp only [hw1]
  rw [u16_small (by omega) (by omega)]
  refine Ev.congr (fun k => by rw [if_pos (by omega), if_pos (by omega), if_pos (by omega), if_pos (by omega)]) ?_
  refine Ev.bind (adjust_f (by omega) (by omega) hw) ?_
  have e0 : ((2 * n : Nat) : Int).toNat = 2 * n := by omega
  have e1 : ((2 * n + 1 : Nat) : Int).toNat = 2 * n + 1 := by omega
  rw [e0, e1]
  have hww : 256 * (w / 256 % 256) + w % 256 = w := by omega
  rw [hww] at hsp2
  have hm := S_mod ht
  have hzz := S_eq_zero ht
  refine zl_ev _ hc2 (by simpa using hlen) _ ⟨fun h => ?_, fun h => ?_⟩ _ 0 true (by rw [Nat.zero_add]) (by simp)
  all_goals
    rw [hsp2] at h
    try rw [hsp2]
    generalize tot true (c.take (2 * n)) = A at *
    generalize tot true (c.drop (2 * n + 2)) = B at *
    generalize tot true c = T at *
    generalize S T = s at *
  · rw [S_full] <;> omega
  · congr 1
    refine S_congr (by omega) (by omega) (by omega)
theorem j0a_ev (at_ w : Int) (c : List Int) (hc : Bytes c) (hlen : c.length ≤ 2000000) (he : c.length % 2 = 0) (hat : -9223372036854775808 ≤ at_ ∧ at_ ≤ 9223372036854775807) (hw : 0 ≤ w ∧ w ≤ 65535) : Ev (fun k => weftlaw3_Ip4AdjustSum.j0 k at_ w c) true := by
  by_cases hz : c.length = 0
  · exact Ev.step (fun k => by rw [weftlaw3_Ip4AdjustSum.j0, if_pos (by omega)]) (Ev.now _)
  · have hn : c ≠ [] := fun h => hz (by rw [h]; rfl)
    by_cases h : at_ < 0
    · have e : wrap64 (-(wrap64 (at_ + 1))) = -at_ - 1 := by rw [w64 (i := at_ + 1) (by omega) (by omega), w64 (by omega) (by omega)]; omega
      refine Ev.step (fun k => by rw [weftlaw3_Ip4AdjustSum.j0, if_neg (by omega), if_pos h, e]) ?_
      exact j1a_ev _ w c hc hlen he hn (by omega) hw
    · refine Ev.step (fun k => by rw [weftlaw3_Ip4AdjustSum.j0, if_neg (by omega), if_neg h]) ?_
      exact j1a_ev _ w c hc hlen he hn (by omega) hw
theorem pureAdjustSum : Go.Proofs.Ytbacmhegalncjaa.Xip4AdjustSum.PureUpto := by
  intro b at_ w hb hat hw hbulk
  have hw := wf16 hw
  have hat := wfi64 hat
  have hbb : Bytes b := fun x hx => wf8 (hb.2 x hx)
  rw [sumOf_one] at hbulk
  refine Ev.rounds (g := fun k => weftlaw3_Ip4AdjustSum.f k b at_ w) ?_
  have h0 : Ev (fun k => ip4_Adjust.f k 4660 16390 16134) 4916 := by
    have := adjust_f (s := 4660) (o := 16390) (w := 16134) (by omega) (by omega) (by omega)
    exact this
  refine Ev.bind (f := fun k t => _) h0 ?_
  simp only [if_true]
  refine Ev.bind (clone_f (l := b) (by omega)) ?_
  by_cases ho : ((b.length : Int) % 2) = 1
  · simp only [if_pos ho]
    refine Ev.congr (fun k => by rw [if_pos (by omega)]) ?_
    exact j0a_ev at_ w (b ++ [0]) (hbb.append (Bytes.cons (by omega) Bytes.nil)) (by simp; omega) (by simp; omega) hat hw
  · simp only [if_neg ho]
    exact j0a_ev at_ w b hbb (by omega) (by omega) hat hw
theorem ip4AdjustSum_row : Go.Proofs.Ytbacmhegalncjaa.Rows.Ip4AdjustSumUptoSaid := Go.Proofs.Ytbacmhegalncjaa.Xip4AdjustSum.overUpto pureAdjustSum
end Go.Proofs.YtbacmhegalncjaaX
namespace Go.Proofs.Ytbacmhegalncjaa
/-- The row, under a short name, for the claim. -/
theorem ip4AdjustSum_holds : Rows.Ip4AdjustSumUptoSaid := Go.Proofs.YtbacmhegalncjaaX.ip4AdjustSum_row
end Go.Proofs.Ytbacmhegalncjaa
