/- Ip4SumJoins: how bytes are cut into parts is not seen by ip4.Sum; words may change places; with its own sum behind it the sum is 0; another word more is another sum.
   Conditions: what is read is of bulk at most 1048576 (the statement's own bound). -/
import Derived.Test.YtbacmhegalncjaaXSum
import Derived.Test.YtbacmhegalncjaaXRowIp4SumJoins
namespace Go.Proofs.YtbacmhegalncjaaX
open Go.RowKit Go.Proofs.Ytbacmhegalncjaa.XB Go.Proofs.YtbacmhegalncjaaW.PrintWords Go.Proofs.YtbacmhegalncjaaW.PrintLast Go.Proofs.YtbacmhegalncjaaW.PrintMore
set_option linter.unusedVariables false
set_option linter.unusedSimpArgs false

/-- The words, the last one first, down from place i. -/
def turn (l : List Int) : Nat → List Int
  | 0 => []
  | n + 1 => turn l n ++ [l.getD (2 * n) 0, l.getD (2 * n + 1) 0]
theorem sumOf_parts (l : List (List Int)) : l.length + l.flatten.length ≤ sumOf (fun a => (1 + sumOf (fun a => 1) a)) l := by
  induction l with
  | nil => simp [sumOf]
  | cons x l ih => simp only [sumOf, sumOf_one, List.flatten_cons, List.length_append, List.length_cons] at *; omega
theorem j3_ev (w s : Int) (l : List Int) (hl : Bytes l) (hlen : l.length ≤ 2000000) (he : l.length % 2 = 0) (hs : s = 65535 - S (tot true l)) (hw : 0 ≤ w ∧ w ≤ 65535) :
    Ev (fun k => weftlaw3_Ip4SumJoins.j3 k w l s false) true := by
  have ht := tot_nonneg (b := true) hl
  have hS := S_range ht
  have hwb : Bytes [w / 256 % 256, w % 256] := Bytes.cons (by omega) (Bytes.cons (by omega) Bytes.nil)
  have e : tot true (l ++ [w / 256 % 256, w % 256]) = tot true l + w := by rw [tot_even _ _ he, tot_word w hw.1 hw.2]
  refine Ev.step (fun k => by rw [weftlaw3_Ip4SumJoins.j3, if_neg (by decide)]) ?_
  have h2 := sum_two (a := l) (b := [w / 256 % 256, w % 256]) hl hwb (by rw [List.length_append]; simp; omega)
  rw [e] at h2
  refine Ev.bind h2 ?_
  by_cases h0 : w = 0
  · simp only [if_pos h0]
    rw [h0, Int.add_zero, ← hs, beq_self_eq_true]
    exact Ev.now _
  · simp only [if_neg h0]
    by_cases h5 : w = 65535
    · simp only [if_pos h5]
      by_cases hz : tot true l = 0
      · rw [h5, hz, hs, hz]
        exact Ev.now _
      · have : 65535 - S (tot true l + w) = s := by rw [h5, S_add65535 (by omega), hs]
        simp only [if_pos this]
        exact Ev.now _
    · simp only [if_neg h5]
      have : (65535 - S (tot true l + w) != s) = true := by
        rw [bne_iff_ne, hs]
        have := S_ne (a := tot true l + w) (b := tot true l) (by omega) (by omega) ht
        omega
      rw [this]
      exact Ev.now _
theorem l0_ev (w s : Int) (l : List Int) (hl : Bytes l) (hlen : l.length ≤ 2000000) (he : l.length % 2 = 0) (hs : s = 65535 - S (tot true l)) (hw : 0 ≤ w ∧ w ≤ 65535) (n : Nat) : ∀ (acc : List Int), Bytes acc → acc.length % 2 = 0 → acc.length + 2 * n = l.length →
    tot true acc + tot true (l.take (2 * n)) = tot true l → Ev (fun k => weftlaw3_Ip4SumJoins.l0 k w l s acc (2 * (n : Int) - 2)) true := by
  have ht := tot_nonneg (b := true) hl
  have hS := S_range ht
  induction n with
  | zero =>
    intro acc ha hae hal hat
    have e1 : tot true acc = tot true l := by simpa [tot] using hat
    have hsb : Bytes [s / 256 % 256, s % 256] := Bytes.cons (by omega) (Bytes.cons (by omega) Bytes.nil)
    refine Ev.step (fun k => by rw [weftlaw3_Ip4SumJoins.l0, if_neg (by omega)]) ?_
    refine Ev.bind (sum_one hl (by omega)) ?_
    simp only [if_pos hs.symm]
    refine Ev.bind (sum_one ha (by omega)) ?_
    rw [e1]
    simp only [if_pos hs.symm]
    have h2 := sum_two (a := l) (b := [s / 256 % 256, s % 256]) hl hsb (by rw [List.length_append]; simp; omega)
    rw [tot_even _ _ he, tot_word s (by omega) (by omega)] at h2
    refine Ev.bind h2 ?_
    have hz : 65535 - S (tot true l + s) = 0 := by
      have hm := S_mod ht
      rw [S_full (t := tot true l + s)]
      · omega
      · by_cases h : tot true l = 0
        · rw [hs, h, S_zero]; omega
        · omega
      · rw [hs]; omega
    rw [hz]
    exact j3_ev w s l hl hlen he hs hw
  | succ n ih =>
    intro acc ha hae hal hat
    have g0 := hl.getD (2 * n)
    have g1 := hl.getD (2 * n + 1)
    have hi0 : (2 * ((n + 1 : Nat) : Int) - 2) = ((2 * n : Nat) : Int) := by omega
    have hw1 : wrap64 (((2 * n : Nat) : Int) + 1) = ((2 * n + 1 : Nat) : Int) := by rw [w64 (by omega) (by omega)]; omega
    have hw2 : wrap64 (((2 * n : Nat) : Int) - 2) = 2 * (n : Int) - 2 := by rw [w64 (by omega) (by omega)]; omega
    rw [hi0]
    refine Ev.step (fun k => by rw [weftlaw3_Ip4SumJoins.l0, if_pos (by omega), if_pos (by omega), if_pos (by omega), hw1, if_pos (by omega), if_pos (by omega), Option.bind_some, if_pos (by simp; omega), hw2, rd_nat, rd_nat]) ?_
    refine ih _ (ha.append (Bytes.cons g0 (Bytes.cons g1 Bytes.nil))) (by simp; omega) (by simp; omega) ?_
    have e2 : l.take (2 * (n + 1)) = l.take (2 * n) ++ [l.getD (2 * n) 0, l.getD (2 * n + 1) 0] := by
      have h1 : 2 * n < l.length := by omega
      have h2 : 2 * n + 1 < l.length := by omega
      rw [show 2 * (n + 1) = 2 * n + 1 + 1 by omega, ← List.take_append_getElem h2, ← List.take_append_getElem h1, List.append_assoc]
      simp [List.getD_eq_getElem?_getD, List.getElem?_eq_getElem h1, List.getElem?_eq_getElem h2]
    rw [e2, tot_even (l.take (2 * n)) _ (by rw [List.length_take]; omega)] at hat
    rw [tot_even _ _ hae]
    omega
theorem j1_ev (w s : Int) (l : List Int) (hl : Bytes l) (hlen : l.length ≤ 2000000) (he : l.length % 2 = 0) (hs : s = 65535 - S (tot true l)) (hw : 0 ≤ w ∧ w ≤ 65535) : Ev (fun k => weftlaw3_Ip4SumJoins.j1 k w l s []) true := by
  have hw2 : wrap64 ((l.length : Int) - 2) = 2 * ((l.length / 2 : Nat) : Int) - 2 := by rw [w64 (by omega) (by omega)]; omega
  refine Ev.step (fun k => by rw [weftlaw3_Ip4SumJoins.j1, hw2]) ?_
  refine l0_ev w s l hl hlen he hs hw (l.length / 2) [] Bytes.nil rfl (by simp; omega) ?_
  rw [show 2 * (l.length / 2) = l.length by omega, List.take_length]
  simp [tot]
theorem j0_ev (w s : Int) (l : List Int) (hl : Bytes l) (hlen : l.length ≤ 1500000) (hs : s = 65535 - S (tot true l)) (hw : 0 ≤ w ∧ w ≤ 65535) : Ev (fun k => weftlaw3_Ip4SumJoins.j0 k w l s false) true := by
  by_cases ho : ((l.length : Int) % 2) = 1
  · refine Ev.step (fun k => by rw [weftlaw3_Ip4SumJoins.j0, if_neg (by decide), if_pos ho, if_pos (by omega)]) ?_
    exact j1_ev w s (l ++ [0]) (hl.append (Bytes.cons (by omega) Bytes.nil)) (by simp; omega) (by simp; omega) (by rw [tot_zero_behind]; exact hs) hw
  · refine Ev.step (fun k => by rw [weftlaw3_Ip4SumJoins.j0, if_neg (by decide), if_neg ho]) ?_
    exact j1_ev w s l hl (by omega) (by omega) hs hw
theorem pureSumJoins : Go.Proofs.Ytbacmhegalncjaa.Xip4SumJoins.PureUpto := by
  intro parts w hp hw hb
  have hw := wf16 hw
  have hparts : ∀ p ∈ parts, Bytes p := fun p h x hx => wf8 ((hp.2 p h).2 x hx)
  have hl := sumOf_parts parts
  have hn : parts.length ≤ 1048576 := by omega
  have hf : parts.flatten.length ≤ 1048576 := by omega
  have hfb : Bytes parts.flatten := fun x hx => by
    obtain ⟨p, h1, h2⟩ := List.mem_flatten.1 hx
    exact hparts p h1 x h2
  refine Ev.rounds (g := fun k => weftlaw3_Ip4SumJoins.f k parts w) ?_
  refine Ev.bind (f := fun k t110 => _) (join_f (by omega) (by omega)) ?_
  refine Ev.bind (f := fun k t113 => _) (sum_f hparts (by omega) (by omega)) ?_
  refine Ev.bind (f := fun k t118 => _) (sum_one hfb (by omega)) ?_
  simp only [if_true]
  have h0 : Ev (fun k => ip4_Sum.f k []) 65535 := by
    have := sum_f (parts := []) (by simp) (by simp) (by simp)
    simpa [tot, S] using this
  refine Ev.bind h0 ?_
  simp only [if_true]
  have h1 : Ev (fun k => ip4_Sum.f k [[1], [2, 3]]) 64509 := by
    have := sum_two (a := [1]) (b := [2, 3]) (Bytes.cons (by omega) Bytes.nil) (Bytes.cons (by omega) (Bytes.cons (by omega) Bytes.nil)) (by simp)
    simpa [tot, S] using this
  refine Ev.bind h1 ?_
  exact j0_ev w _ _ hfb (by omega) rfl hw
theorem ip4SumJoins_row : Go.Proofs.Ytbacmhegalncjaa.Rows.Ip4SumJoinsUptoSaid := Go.Proofs.Ytbacmhegalncjaa.Xip4SumJoins.overUpto pureSumJoins
end Go.Proofs.YtbacmhegalncjaaX
namespace Go.Proofs.Ytbacmhegalncjaa
/-- The row, under a short name, for the claim. -/
theorem ip4SumJoins_holds : Rows.Ip4SumJoinsUptoSaid := Go.Proofs.YtbacmhegalncjaaX.ip4SumJoins_row
end Go.Proofs.Ytbacmhegalncjaa
