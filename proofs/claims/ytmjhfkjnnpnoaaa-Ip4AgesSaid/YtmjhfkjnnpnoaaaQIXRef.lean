/- What the document's own answer (weftref3) makes of sums, areas of options, pieces and words, as plain functions.
   Conditions: bytes are 0 to 255, the lists short enough for 64 bits. -/
import Derived.Test.YtmjhfkjnnpnoaaaQIXArea
import Derived.Test.YtmjhfkjnnpnoaaaQIXAx7
import Derived.Test.YtmjhfkjnnpnoaaaQIXAx6
import Derived.Test.YtmjhfkjnnpnoaaaQIXAx5
namespace Go.Proofs.YtmjhfkjnnpnoaaaX
open Go.RowKit Go.Proofs.Ytmjhfkjnnpnoaaa.XA Go.Proofs.YtmjhfkjnnpnoaaaW.PrintWords Go.Proofs.YtmjhfkjnnpnoaaaW.PrintLast Go.Proofs.YtmjhfkjnnpnoaaaW.PrintMore
set_option linter.unusedVariables false
set_option linter.unusedSimpArgs false

theorem one_up {i : Nat} (h : i ≤ 1000000000000000000) : wrap64 ((i : Int) + 1) = ((i + 1 : Nat) : Int) := by
  have h3 : wrap64 ((i : Int) + 1) = (i : Int) + 1 := w64 (by omega) (by omega)
  rw [h3]
  omega
theorem acc_hi {a x : Int} (h0 : 0 ≤ a) (h1 : a ≤ 9223372036854000000) (x0 : 0 ≤ x) (x1 : x ≤ 255) : wrap64 (a + wrap64 (256 * wrap64 x)) = a + 256 * x := by
  have e1 : wrap64 x = x := w64 (by omega) (by omega)
  have e2 : wrap64 (256 * x) = 256 * x := w64 (by omega) (by omega)
  rw [e1, e2]
  exact w64 (by omega) (by omega)
theorem acc_lo {a x : Int} (h0 : 0 ≤ a) (h1 : a ≤ 9223372036854000000) (x0 : 0 ≤ x) (x1 : x ≤ 255) : wrap64 (a + wrap64 x) = a + x := by
  have e1 : wrap64 x = x := w64 (by omega) (by omega)
  rw [e1]
  exact w64 (by omega) (by omega)
theorem total_loop (b : List Int) (hb : Bytes b) (hl : b.length ≤ 140737488355328) (d : Nat) : ∀ (j : Nat) (a : Int), j + d = b.length → 0 ≤ a → a + 65280 * d ≤ 9223372036854000000 →
    Ev (fun k => weftref3_total.l0 k b a (j : Int)) (a + tot (decide (j % 2 = 0)) (b.drop j)) := by
  induction d with
  | zero =>
    intro j a hj h0 h1
    rw [List.drop_eq_nil_of_le (by omega)]
    refine Ev.step (fun k => by rw [weftref3_total.l0, if_neg (by omega)]) ?_
    rw [show a + tot (decide (j % 2 = 0)) [] = a by cases decide (j % 2 = 0) <;> simp [tot]]
    exact Ev.now _
  | succ d ih =>
    intro j a hj h0 h1
    have hlt : j < b.length := by omega
    have hx := hb b[j] (List.getElem_mem hlt)
    have hw : wrap64 ((j : Int) + 1) = ((j + 1 : Nat) : Int) := one_up (by omega)
    have et : Int.tmod (j : Int) 2 = (j : Int) % 2 := Int.tmod_eq_emod_of_nonneg (by omega)
    rw [List.drop_eq_getElem_cons hlt]
    by_cases h2 : j % 2 = 0
    · have hn := ih (j + 1) (a + 256 * b[j]) (by omega) (by omega) (by omega)
      refine Ev.step (fun k => by rw [weftref3_total.l0, if_pos (by omega), et, if_pos (by omega), if_pos (by omega), rd_lt _ _ hlt, acc_hi h0 (by omega) hx.1 hx.2, hw]) ?_
      rw [decide_eq_false (by omega : ¬ (j + 1) % 2 = 0)] at hn
      rw [decide_eq_true h2, tot]
      rw [← Int.add_assoc]
      exact hn
    · have hn := ih (j + 1) (a + b[j]) (by omega) (by omega) (by omega)
      refine Ev.step (fun k => by rw [weftref3_total.l0, if_pos (by omega), et, if_neg (by omega), if_pos (by omega), rd_lt _ _ hlt, acc_lo h0 (by omega) hx.1 hx.2, hw]) ?_
      rw [decide_eq_true (by omega : (j + 1) % 2 = 0)] at hn
      rw [decide_eq_false h2, tot]
      rw [← Int.add_assoc]
      exact hn
theorem total_r {b : List Int} (hb : Bytes b) (hl : b.length ≤ 140737488355328) : Ev (fun k => weftref3_total.f k b) (tot true b) := by
  have := total_loop b hb hl b.length 0 0 (by omega) (by omega) (by omega)
  simpa [weftref3_total.f] using this
theorem fold_r {t : Int} (h0 : 0 ≤ t) (h1 : t ≤ 9223372036854775807) : weftref3_fold.f t = some (S t) := by
  unfold weftref3_fold.f S
  by_cases h : t = 0
  · rw [if_pos h, if_pos h]
  · rw [if_neg h, if_neg h]
    have e1 : wrap64 (t - 1) = t - 1 := w64 (by omega) (by omega)
    have e2 : Int.tmod (t - 1) 65535 = (t - 1) % 65535 := Int.tmod_eq_emod_of_nonneg (by omega)
    rw [e1, e2]
    congr 1
    exact w64 (by omega) (by omega)
theorem turn_r {s : Int} (h0 : 0 ≤ s) (h1 : s ≤ 65535) : IntKind.u16.wrap (wrap64 (65535 - s)) = 65535 - s := by
  have e1 : wrap64 (65535 - s) = 65535 - s := w64 (by omega) (by omega)
  rw [e1]
  exact u16_small (by omega) (by omega)
theorem rd_L1_lt (l : List (List Int)) (i : Nat) (h : i < l.length) : rd_L1 l (i : Int) = l[i] := by simp [rd_L1, List.getD_eq_getElem?_getD, h]
theorem sumr_loop (parts : List (List Int)) (hp : Bytes parts.flatten) (hl : parts.length ≤ 140737488355328) (hb : parts.flatten.length < 140737488355328) (d : Nat) : ∀ (j : Nat) (a : List Int), j + d = parts.length → a ++ (parts.drop j).flatten = parts.flatten →
    Ev (fun k => weftref3_Sum.l0 k parts a (j : Int)) (65535 - S (tot true parts.flatten)) := by
  induction d with
  | zero =>
    intro j a hj ha
    rw [List.drop_eq_nil_of_le (by omega), List.flatten_nil, List.append_nil] at ha
    subst ha
    have hs := S_range (tot_nonneg (b := true) hp)
    have hle := tot_le (b := true) hp
    refine Ev.step (fun k => by rw [weftref3_Sum.l0, if_neg (by omega)]) ?_
    refine Ev.bind (total_r hp (by omega)) ?_
    refine Ev.congr (fun k => by rw [fold_r (tot_nonneg hp) (by omega), Option.bind_some, turn_r hs.1 hs.2]) ?_
    exact Ev.now _
  | succ d ih =>
    intro j a hj ha
    have hlt : j < parts.length := by omega
    have hw : wrap64 ((j : Int) + 1) = ((j + 1 : Nat) : Int) := one_up (by omega)
    rw [List.drop_eq_getElem_cons hlt, List.flatten_cons, ← List.append_assoc] at ha
    have hla : a.length + parts[j].length < 140737488355328 := by
      have := congrArg List.length ha
      simp only [List.length_append] at this
      omega
    refine Ev.step (fun k => by rw [weftref3_Sum.l0, if_pos (by omega), if_pos (by omega), rd_L1_lt _ _ hlt, if_pos hla, hw]) ?_
    exact ih (j + 1) _ (by omega) ha
theorem sum_r {parts : List (List Int)} (hp : Bytes parts.flatten) (hl : parts.length ≤ 140737488355328) (hb : parts.flatten.length < 140737488355328) : Ev (fun k => weftref3_Sum.f k parts) (65535 - S (tot true parts.flatten)) := by
  have := sumr_loop parts hp hl hb parts.length 0 [] (by omega) (by simp)
  simpa [weftref3_Sum.f] using this
theorem sum_r1 {b : List Int} (hp : Bytes b) (hb : b.length < 140737488355328) : Ev (fun k => weftref3_Sum.f k [b]) (65535 - S (tot true b)) := by
  have := sum_r (parts := [b]) (by simpa using hp) (by simp) (by simpa using hb)
  simpa using this
/-! ### areas -/
theorem behind_zeros (o : List Int) (hl : o.length ≤ 140737488355328) (d : Nat) : ∀ j : Nat, j + d = o.length → Ev (fun k => weftref3_behind.l0 k o (j : Int)) (if (o.drop j).all (· == 0) = true then (o.length : Int) else -1) := by
  induction d with
  | zero =>
    intro j hj
    rw [List.drop_eq_nil_of_le (by omega), List.all_nil, if_pos rfl]
    exact Ev.step (fun k => by rw [weftref3_behind.l0, if_neg (by omega)]) (Ev.now _)
  | succ d ih =>
    intro j hj
    have hlt : j < o.length := by omega
    rw [List.drop_eq_getElem_cons hlt, List.all_cons]
    by_cases h0 : o[j] = 0
    · refine Ev.step (fun k => by rw [weftref3_behind.l0, if_pos (by omega), if_pos (by omega), rd_lt _ _ hlt, if_pos h0, one_up (by omega)]) ?_
      rw [h0]
      simpa using ih (j + 1) (by omega)
    · have : (o[j] == 0) = false := beq_eq_false_iff_ne.mpr h0
      rw [this, Bool.false_and, if_neg (by decide)]
      exact Ev.step (fun k => by rw [weftref3_behind.l0, if_pos (by omega), if_pos (by omega), rd_lt _ _ hlt, if_neg h0]) (Ev.now _)
/-- The place behind the option at a place; -1: none may stand there. -/
def bhd (o : List Int) (i : Nat) : Int :=
  if o.getD i 0 = 1 then ((i + 1 : Nat) : Int) else if o.getD i 0 = 0 then (if (o.drop i).all (· == 0) = true then (o.length : Int) else -1)
  else if o.length ≤ i + 1 then -1 else if o.getD (i + 1) 0 < 2 then -1 else if o.length < i + (o.getD (i + 1) 0).toNat then -1 else ((i + (o.getD (i + 1) 0).toNat : Nat) : Int)
theorem behind_r {o : List Int} (hb : Bytes o) (hl : o.length ≤ 1000000) {i : Nat} (hi : i < o.length) : Ev (fun k => weftref3_behind.f k o (i : Int)) (bhd o i) := by
  unfold bhd
  have hw : wrap64 ((i : Int) + 1) = ((i + 1 : Nat) : Int) := one_up (by omega)
  refine Ev.congr (fun k => by rw [weftref3_behind.f, if_pos (by omega), if_pos (by omega), rd_nat, hw]) ?_
  by_cases h1 : o.getD i 0 = 1
  · rw [if_pos h1]
    exact Ev.congr (fun k => by rw [if_pos h1]) (Ev.now _)
  rw [if_neg h1]
  by_cases h0 : o.getD i 0 = 0
  · rw [if_pos h0]
    exact Ev.congr (fun k => by rw [if_neg h1, if_pos h0]) (behind_zeros o (by omega) (o.length - i) i (by omega))
  rw [if_neg h0]
  by_cases h2 : o.length ≤ i + 1
  · rw [if_pos h2]
    exact Ev.congr (fun k => by rw [if_neg h1, if_neg h0, if_pos (by omega)]) (Ev.now _)
  rw [if_neg h2]
  have hn := hb.getD (i + 1)
  have hwn : wrap64 ((i : Int) + wrap64 (o.getD (i + 1) 0)) = ((i + (o.getD (i + 1) 0).toNat : Nat) : Int) := by
    have e1 : wrap64 (o.getD (i + 1) 0) = o.getD (i + 1) 0 := w64 (by omega) (by omega)
    have e2 : wrap64 ((i : Int) + o.getD (i + 1) 0) = (i : Int) + o.getD (i + 1) 0 := w64 (by omega) (by omega)
    rw [e1, e2]
    omega
  by_cases h3 : o.getD (i + 1) 0 < 2
  · rw [if_pos h3]
    exact Ev.congr (fun k => by rw [if_neg h1, if_neg h0, if_neg (by omega), if_pos (by omega), if_pos (by omega), rd_nat, if_pos h3]) (Ev.now _)
  rw [if_neg h3]
  by_cases h4 : o.length < i + (o.getD (i + 1) 0).toNat
  · rw [if_pos h4]
    exact Ev.congr (fun k => by rw [if_neg h1, if_neg h0, if_neg (by omega), if_pos (by omega), if_pos (by omega), rd_nat, if_neg h3, hwn, if_pos (by omega)]) (Ev.now _)
  rw [if_neg h4]
  exact Ev.congr (fun k => by rw [if_neg h1, if_neg h0, if_neg (by omega), if_pos (by omega), if_pos (by omega), rd_nat, if_neg h3, hwn, if_neg (by omega)]) (Ev.now _)
/-- What the next place says of the area. -/
theorem area_next {o : List Int} {i : Nat} (hi : i < o.length) : (bhd o i = -1 ∧ area (o.drop i) = false) ∨ (∃ j : Nat, bhd o i = (j : Int) ∧ i < j ∧ j ≤ o.length ∧ area (o.drop i) = area (o.drop j)) := by
  have e0 : o.getD i 0 = o[i] := by simp [List.getD_eq_getElem?_getD, hi]
  unfold bhd
  rw [e0]
  by_cases h1 : o[i] = 1
  · rw [if_pos h1]
    refine .inr ⟨i + 1, rfl, by omega, by omega, ?_⟩
    rw [List.drop_eq_getElem_cons hi, h1]
    rcases hr : o.drop (i + 1) with _ | ⟨n, m⟩
    · simp [area]
    · rw [area, if_neg (by decide), if_pos rfl]
  rw [if_neg h1]
  by_cases h0 : o[i] = 0
  · rw [if_pos h0]
    by_cases hz : (o.drop i).all (· == 0) = true
    · rw [if_pos hz]
      refine .inr ⟨o.length, rfl, hi, Nat.le_refl _, ?_⟩
      rw [List.drop_eq_nil_of_le (Nat.le_refl _), area]
      rw [List.drop_eq_getElem_cons hi, h0] at hz ⊢
      rcases hr : o.drop (i + 1) with _ | ⟨n, m⟩
      · simp [area]
      · rw [hr] at hz
        rw [area, if_pos rfl]
        simpa using hz
    · rw [if_neg hz]
      refine .inl ⟨rfl, ?_⟩
      rw [List.drop_eq_getElem_cons hi, h0] at hz ⊢
      rcases hr : o.drop (i + 1) with _ | ⟨n, m⟩
      · rw [hr] at hz
        simp at hz
      · rw [hr] at hz
        rw [area, if_pos rfl]
        simpa using hz
  rw [if_neg h0]
  by_cases h2 : o.length ≤ i + 1
  · rw [if_pos h2]
    refine .inl ⟨rfl, ?_⟩
    rw [List.drop_eq_getElem_cons hi, List.drop_eq_nil_of_le h2, area]
    simp [h0, h1]
  rw [if_neg h2]
  have hlt2 : i + 1 < o.length := by omega
  have e1 : o.getD (i + 1) 0 = o[i + 1] := by simp [List.getD_eq_getElem?_getD, hlt2]
  rw [e1]
  have ea : area (o.drop i) = if o[i + 1] < 2 ∨ o[i + 1].toNat - 2 > (o.drop (i + 1 + 1)).length then false else area ((o.drop (i + 1 + 1)).drop (o[i + 1].toNat - 2)) := by
    rw [List.drop_eq_getElem_cons hi, List.drop_eq_getElem_cons hlt2, area, if_neg h0, if_neg h1]
  by_cases h3 : o[i + 1] < 2
  · rw [if_pos h3]
    exact .inl ⟨rfl, by rw [ea, if_pos (.inl h3)]⟩
  rw [if_neg h3]
  by_cases h4 : o.length < i + o[i + 1].toNat
  · rw [if_pos h4]
    refine .inl ⟨rfl, ?_⟩
    rw [ea, if_pos]
    refine .inr ?_
    rw [List.length_drop]
    omega
  rw [if_neg h4]
  refine .inr ⟨i + o[i + 1].toNat, rfl, by omega, by omega, ?_⟩
  rw [ea, if_neg, List.drop_drop, show i + 1 + 1 + (o[i + 1].toNat - 2) = i + o[i + 1].toNat by omega]
  intro h
  rcases h with h | h
  · exact h3 h
  · rw [List.length_drop] at h
    omega
theorem arear_loop {o : List Int} (hb : Bytes o) (hl : o.length ≤ 1000000) (d : Nat) : ∀ i : Nat, o.length - i ≤ d → i ≤ o.length → Ev (fun k => weftref3_Area.l0 k o (i : Int)) (area (o.drop i)) := by
  have hend : ∀ i : Nat, ¬ i < o.length → Ev (fun k => weftref3_Area.l0 k o (i : Int)) (area (o.drop i)) := by
    intro i hi
    rw [List.drop_eq_nil_of_le (by omega), area]
    exact Ev.step (fun k => by rw [weftref3_Area.l0, if_pos (by omega), if_neg (by omega), decide_eq_true (by omega)]) (Ev.now _)
  induction d with
  | zero => intro i h1 h2; exact hend i (by omega)
  | succ d ih =>
    intro i h1 h2
    by_cases hi : i < o.length
    · refine Ev.step (fun k => by rw [weftref3_Area.l0, if_pos (by omega), if_pos (by omega)]) ?_
      refine Ev.bind (behind_r hb hl hi) ?_
      rcases area_next hi with ⟨e, ha⟩ | ⟨j, e, hij, hjl, ha⟩
      · rw [e, ha]
        exact Ev.step (fun k => by rw [weftref3_Area.l0, if_neg (by decide), decide_eq_false (by decide)]) (Ev.now _)
      · rw [e, ha]
        exact ih j (by omega) hjl
    · exact hend i hi
theorem area_r {o : List Int} (hb : Bytes o) (hl : o.length ≤ 140737488355328) : Ev (fun k => weftref3_Area.f k o) (oOK o) := by
  by_cases h : (o.length : Int) > 40
  · have : oOK o = false := by simp [oOK]; omega
    rw [this]
    exact Ev.congr (fun k => by rw [weftref3_Area.f, if_pos h]) (Ev.step (fun k => by rw [weftref3_Area.j0, if_pos rfl]) (Ev.now _))
  · refine Ev.congr (fun k => by rw [weftref3_Area.f, if_neg h]) ?_
    by_cases h4 : o.length % 4 = 0
    · have e : (((o.length : Int) % 4) != 0) = false := by rw [bne_eq_false_iff_eq]; omega
      have : oOK o = area o := by simp [oOK, h4]; omega
      rw [this]
      refine Ev.step (fun k => by rw [e, weftref3_Area.j0, if_neg (by decide)]) ?_
      have := arear_loop hb (by omega) o.length 0 (by omega) (by omega)
      simpa using this
    · have e : (((o.length : Int) % 4) != 0) = true := by rw [bne_iff_ne]; omega
      have : oOK o = false := by simp [oOK, h4]
      rw [this]
      exact Ev.step (fun k => by rw [e, weftref3_Area.j0, if_pos rfl]) (Ev.now _)
theorem piece_r {off body : Int} {mf : Bool} (h0 : 0 ≤ body) (h1 : body ≤ 140737488355328) : weftref3_Piece.f off body mf = some (ordB off body mf) := by
  unfold weftref3_Piece.f ordB
  by_cases a1 : off < 0
  · rw [if_pos a1, decide_eq_false (by omega), Bool.false_and]
  rw [if_neg a1]
  by_cases a2 : off > 65528
  · rw [if_pos a2, decide_eq_false (by omega), Bool.false_and]
  rw [if_neg a2]
  have e : Int.tmod off 8 = off % 8 := by rw [Int.tmod_eq_emod_of_nonneg (by omega)]
  have e2 : Int.tmod body 8 = body % 8 := by rw [Int.tmod_eq_emod_of_nonneg (by omega)]
  rw [e, e2]
  by_cases a3 : off % 8 = 0
  · rw [if_pos a3, w64 (by omega) (by omega)]
    by_cases a4 : off + body > 65535
    · rw [if_pos a4, decide_eq_false (by omega), Bool.false_and]
    · rw [if_neg a4, decide_eq_true (by omega), Bool.true_and]
      cases mf with
      | false => rfl
      | true =>
        rw [if_pos rfl]
        by_cases a5 : body > 0
        · rw [if_pos a5]
          by_cases a6 : body % 8 = 0
          · rw [decide_eq_true (by omega), a6]; rfl
          · rw [decide_eq_false (by omega), beq_eq_false_iff_ne.mpr a6]; rfl
        · rw [if_neg a5, decide_eq_false (by omega)]; rfl
  · rw [if_neg a3, decide_eq_false (by omega), Bool.false_and]
end Go.Proofs.YtmjhfkjnnpnoaaaX
