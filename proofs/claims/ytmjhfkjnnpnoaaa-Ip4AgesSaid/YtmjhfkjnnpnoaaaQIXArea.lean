/- An area of options, as a list is read from its front; what optionsOK and orderly of the printed program answer.
   Conditions: bytes are 0 to 255, lists short enough for 64 bits. -/
import Derived.Test.YtmjhfkjnnpnoaaaQIXBit
import Derived.Test.YtmjhfkjnnpnoaaaQIXAx8
import Derived.Test.YtmjhfkjnnpnoaaaQIXAx12
namespace Go.Proofs.YtmjhfkjnnpnoaaaX
open Go.RowKit Go.Proofs.Ytmjhfkjnnpnoaaa.XA Go.Proofs.YtmjhfkjnnpnoaaaW.PrintWords Go.Proofs.YtmjhfkjnnpnoaaaW.PrintLast Go.Proofs.YtmjhfkjnnpnoaaaW.PrintMore
set_option linter.unusedVariables false
set_option linter.unusedSimpArgs false

/-- May these be an area's options, from here on? -/
def area : List Int → Bool
  | [] => true
  | [x] => decide (x = 0 ∨ x = 1)
  | x :: n :: l => if x = 0 then (n :: l).all (· == 0) else if x = 1 then area (n :: l) else if n < 2 ∨ n.toNat - 2 > l.length then false else area (l.drop (n.toNat - 2))
termination_by l => l.length
decreasing_by all_goals simp only [List.length_cons, List.length_drop]; omega
/-- May this be an area of options? -/
def oOK (o : List Int) : Bool := decide (o.length ≤ 40) && (decide (o.length % 4 = 0) && area o)
theorem zeros_ev (l : List Int) (hl : l.length ≤ 140737488355328) (d : Nat) : ∀ j : Nat, j + d = l.length → Ev (fun k => ip4_optionsOK.l1 k l (l.length : Int) (j : Int)) ((l.drop j).all (· == 0)) := by
  induction d with
  | zero =>
    intro j hj
    refine Ev.step (fun k => by rw [ip4_optionsOK.l1, if_neg (by omega)]) ?_
    rw [List.drop_eq_nil_of_le (by omega)]
    exact Ev.now _
  | succ d ih =>
    intro j hj
    have hlt : j < l.length := by omega
    have hw : wrap64 ((j : Int) + 1) = ((j + 1 : Nat) : Int) := by rw [w64 (by omega) (by omega)]; omega
    rw [List.drop_eq_getElem_cons hlt, List.all_cons]
    by_cases h0 : l[j] = 0
    · refine Ev.step (fun k => by rw [ip4_optionsOK.l1, if_pos (by omega), if_pos (by omega), if_pos (by omega), rd_lt _ _ hlt, if_pos h0, hw]) ?_
      rw [h0]
      simpa using ih (j + 1) (by omega)
    · refine Ev.step (fun k => by rw [ip4_optionsOK.l1, if_pos (by omega), if_pos (by omega), if_pos (by omega), rd_lt _ _ hlt, if_neg h0]) ?_
      have : (l[j] == 0) = false := beq_eq_false_iff_ne.mpr h0
      rw [this, Bool.false_and]
      exact Ev.now _
theorem area_ev (l : List Int) (hb : Bytes l) (hl : l.length ≤ 140737488355328) (d : Nat) : ∀ j : Nat, l.length - j ≤ d → j ≤ l.length → Ev (fun k => ip4_optionsOK.l0 k l (j : Int)) (area (l.drop j)) := by
  induction d with
  | zero =>
    intro j hj hjl
    refine Ev.step (fun k => by rw [ip4_optionsOK.l0, if_neg (by omega)]) ?_
    rw [List.drop_eq_nil_of_le (by omega), area]
    exact Ev.now _
  | succ d ih =>
    intro j hj hjl
    rcases Nat.lt_or_ge j l.length with hlt | hge
    · have hw : wrap64 ((j : Int) + 1) = ((j + 1 : Nat) : Int) := by rw [w64 (by omega) (by omega)]; omega
      have hx := hb l[j] (List.getElem_mem hlt)
      rw [List.drop_eq_getElem_cons hlt]
      by_cases h0 : l[j] = 0
      · have hz := zeros_ev (l.drop j) (by rw [List.length_drop]; omega) (l.drop j).length 0 (by omega)
        rw [List.drop_zero, List.drop_eq_getElem_cons hlt, h0, List.all_cons] at hz
        simp only [beq_self_eq_true, Bool.true_and] at hz
        refine Ev.step (fun k => by rw [ip4_optionsOK.l0, if_pos (by omega), if_pos (by omega), rd_lt _ _ hlt, if_pos h0, if_pos (by omega), Int.toNat_natCast, List.drop_eq_getElem_cons hlt, h0]) ?_
        rw [h0]
        rcases hr : l.drop (j + 1) with _ | ⟨n, m⟩
        · rw [hr] at hz
          simpa [area] using hz
        · rw [hr] at hz
          rw [area, if_pos rfl]
          exact hz
      · by_cases h1 : l[j] = 1
        · refine Ev.step (fun k => by rw [ip4_optionsOK.l0, if_pos (by omega), if_pos (by omega), rd_lt _ _ hlt, if_neg h0, if_pos h1, hw]) ?_
          have := ih (j + 1) (by omega) (by omega)
          rw [h1]
          rcases hr : l.drop (j + 1) with _ | ⟨n, m⟩
          · rw [hr] at this
            simpa [area] using this
          · rw [hr] at this
            rw [area, if_neg (by decide), if_pos rfl]
            exact this
        · rcases Nat.lt_or_ge (j + 1) l.length with hlt2 | hge2
          · have hn := hb l[j + 1] (List.getElem_mem hlt2)
            have hwn : wrap64 ((j : Int) + wrap64 l[j + 1]) = ((j + l[j + 1].toNat : Nat) : Int) := by rw [w64 (i := l[j + 1]) (by omega) (by omega), w64 (by omega) (by omega)]; omega
            rw [List.drop_eq_getElem_cons hlt2, area, if_neg h0, if_neg h1]
            by_cases hs : l[j + 1] < 2
            · rw [if_pos (by omega)]
              exact Ev.step (fun k => by rw [ip4_optionsOK.l0, if_pos (by omega), if_pos (by omega), rd_lt _ _ hlt, if_neg h0, if_neg h1, hw, if_neg (by omega), if_pos (by omega), if_pos (by omega), rd_lt _ _ hlt2, if_pos hs]) (Ev.now _)
            · by_cases hg : j + l[j + 1].toNat > l.length
              · rw [if_pos (by rw [List.length_drop]; omega)]
                exact Ev.step (fun k => by rw [ip4_optionsOK.l0, if_pos (by omega), if_pos (by omega), rd_lt _ _ hlt, if_neg h0, if_neg h1, hw, if_neg (by omega), if_pos (by omega), if_pos (by omega), rd_lt _ _ hlt2, if_neg hs, hwn, if_pos (by omega)]) (Ev.now _)
              · rw [if_neg (by rw [List.length_drop]; omega), List.drop_drop, show j + 1 + 1 + (l[j + 1].toNat - 2) = j + l[j + 1].toNat by omega]
                exact Ev.step (fun k => by rw [ip4_optionsOK.l0, if_pos (by omega), if_pos (by omega), rd_lt _ _ hlt, if_neg h0, if_neg h1, hw, if_neg (by omega), if_pos (by omega), if_pos (by omega), rd_lt _ _ hlt2, if_neg hs, hwn, if_neg (by omega)]) (ih _ (by omega) (by omega))
          · rw [List.drop_eq_nil_of_le hge2, area]
            have : decide (l[j] = 0 ∨ l[j] = 1) = false := by simp [h0, h1]
            rw [this]
            exact Ev.step (fun k => by rw [ip4_optionsOK.l0, if_pos (by omega), if_pos (by omega), rd_lt _ _ hlt, if_neg h0, if_neg h1, hw, if_pos (by omega)]) (Ev.now _)
    · refine Ev.step (fun k => by rw [ip4_optionsOK.l0, if_neg (by omega)]) ?_
      rw [List.drop_eq_nil_of_le (by omega), area]
      exact Ev.now _
theorem options_f {o : List Int} (hb : Bytes o) (hl : o.length ≤ 140737488355328) : Ev (fun k => ip4_optionsOK.f k o) (oOK o) := by
  by_cases h : (o.length : Int) > 40
  · refine Ev.congr (fun k => by rw [ip4_optionsOK.f, if_pos h]) ?_
    have : oOK o = false := by simp [oOK]; omega
    rw [this]
    exact Ev.step (fun k => by rw [ip4_optionsOK.j0, if_pos rfl]) (Ev.now _)
  · refine Ev.congr (fun k => by rw [ip4_optionsOK.f, if_neg h]) ?_
    by_cases h4 : o.length % 4 = 0
    · have e : (((o.length : Int) % 4) != 0) = false := by rw [bne_eq_false_iff_eq]; omega
      have : oOK o = area o := by simp [oOK, h4]; omega
      rw [this]
      refine Ev.step (fun k => by rw [e, ip4_optionsOK.j0, if_neg (by decide)]) ?_
      have := area_ev o hb hl o.length 0 (by omega) (by omega)
      simpa using this
    · have e : (((o.length : Int) % 4) != 0) = true := by rw [bne_iff_ne]; omega
      have : oOK o = false := by simp [oOK, h4]
      rw [this]
      exact Ev.step (fun k => by rw [e, ip4_optionsOK.j0, if_pos rfl]) (Ev.now _)
theorem oOK_len {o : List Int} (h : oOK o = true) : o.length ≤ 40 ∧ o.length % 4 = 0 := by
  simp [oOK] at h
  exact ⟨h.1, h.2.1⟩

/-- May a piece of that offset and body be? -/
def ordB (off body : Int) (mf : Bool) : Bool := decide (0 ≤ off ∧ off ≤ 65528 ∧ off % 8 = 0 ∧ off + body ≤ 65535) && (!mf || decide (0 < body ∧ body % 8 = 0))
theorem orderly_f {off body : Int} {mf : Bool} (h0 : 0 ≤ body) (h1 : body ≤ 140737488355328) : ip4_orderly.f off body mf = some (ordB off body mf) := by
  unfold ip4_orderly.f ordB
  by_cases a1 : off < 0
  · rw [if_pos a1, decide_eq_false (by omega), Bool.false_and]
  rw [if_neg a1]
  by_cases a2 : off > 65528
  · rw [if_pos a2, decide_eq_false (by omega), Bool.false_and]
  rw [if_neg a2]
  have e : Int.tmod off 8 = off % 8 := by rw [Int.tmod_eq_emod_of_nonneg (by omega)]
  have e2 : Int.tmod body 8 = body % 8 := by rw [Int.tmod_eq_emod_of_nonneg (by omega)]
  rw [e, e2]
  by_cases a3 : off % 8 = 0
  · rw [if_pos a3, w64 (by omega) (by omega)]
    by_cases a4 : off + body > 65535
    · rw [if_pos a4, decide_eq_false (by omega), Bool.false_and]
    · rw [if_neg a4, decide_eq_true (by omega), Bool.true_and]
      cases mf with
      | false => rfl
      | true =>
        rw [if_pos rfl]
        by_cases a5 : body > 0
        · rw [if_pos a5]
          by_cases a6 : body % 8 = 0
          · rw [decide_eq_true (by omega), a6]; rfl
          · rw [decide_eq_false (by omega), beq_eq_false_iff_ne.mpr a6]; rfl
        · rw [if_neg a5, decide_eq_false (by omega)]; rfl
  · rw [if_neg a3, decide_eq_false (by omega), Bool.false_and]
theorem ordB_true {off body : Int} {mf : Bool} (h : ordB off body mf = true) : (0 ≤ off ∧ off ≤ 65528 ∧ off % 8 = 0 ∧ off + body ≤ 65535) ∧ (mf = true → 0 < body ∧ body % 8 = 0) := by
  simp [ordB] at h
  refine ⟨h.1, fun hm => ?_⟩
  rcases h.2 with h2 | h2
  · rw [hm] at h2; cases h2
  · exact h2

theorem same_loop (a b : List Int) (hl : a.length ≤ 140737488355328) (e : a.length = b.length) (d : Nat) : ∀ j : Nat, j + d = a.length → Ev (fun k => weftlaw3_same.l0 k a b (j : Int)) (decide (a.drop j = b.drop j)) := by
  induction d with
  | zero =>
    intro j hj
    rw [List.drop_eq_nil_of_le (by omega), List.drop_eq_nil_of_le (by omega), decide_eq_true rfl]
    exact Ev.step (fun k => by rw [weftlaw3_same.l0, if_neg (by omega)]) (Ev.now _)
  | succ d ih =>
    intro j hj
    have hlt : j < a.length := by omega
    have hlt2 : j < b.length := by omega
    have hw : wrap64 ((j : Int) + 1) = ((j + 1 : Nat) : Int) := by rw [w64 (by omega) (by omega)]; omega
    rw [List.drop_eq_getElem_cons hlt, List.drop_eq_getElem_cons hlt2]
    by_cases h : a[j] = b[j]
    · refine Ev.step (fun k => by rw [weftlaw3_same.l0, if_pos (by omega), if_pos (by omega), if_pos (by omega), rd_lt _ _ hlt, rd_lt _ _ hlt2, if_pos h, hw]) ?_
      rw [h, decide_eq_decide.mpr (⟨fun e => (List.cons.inj e).2, fun e => by rw [e]⟩ : (b[j] :: a.drop (j + 1) = b[j] :: b.drop (j + 1)) ↔ (a.drop (j + 1) = b.drop (j + 1)))]
      exact ih (j + 1) (by omega)
    · rw [decide_eq_false (fun e => h (List.cons.inj e).1)]
      exact Ev.step (fun k => by rw [weftlaw3_same.l0, if_pos (by omega), if_pos (by omega), if_pos (by omega), rd_lt _ _ hlt, rd_lt _ _ hlt2, if_neg h]) (Ev.now _)
theorem same_f (a b : List Int) (hl : a.length ≤ 140737488355328) : Ev (fun k => weftlaw3_same.f k a b) (decide (a = b)) := by
  by_cases e : a.length = b.length
  · refine Ev.congr (fun k => by rw [weftlaw3_same.f, if_pos (by omega)]) ?_
    simpa using same_loop a b hl e a.length 0 (by omega)
  · rw [decide_eq_false (fun h => e (by rw [h]))]
    exact Ev.congr (fun k => by rw [weftlaw3_same.f, if_neg (by omega)]) (Ev.now _)
end Go.Proofs.YtmjhfkjnnpnoaaaX
