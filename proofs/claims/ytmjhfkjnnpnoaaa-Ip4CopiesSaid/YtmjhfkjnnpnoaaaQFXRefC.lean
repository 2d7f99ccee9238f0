/- What the document's own answer (weftref3) makes of the options that are carried on: the same plain function.
   Conditions: bytes are 0 to 255, the list short enough for 64 bits. -/
import Derived.Test.YtmjhfkjnnpnoaaaQFXRefB
import Derived.Test.YtmjhfkjnnpnoaaaQFXCopied
import Derived.Test.YtmjhfkjnnpnoaaaQFXAx16
namespace Go.Proofs.YtmjhfkjnnpnoaaaX
open Go.RowKit Go.Proofs.Ytmjhfkjnnpnoaaa.XA Go.Proofs.YtmjhfkjnnpnoaaaW.PrintWords Go.Proofs.YtmjhfkjnnpnoaaaW.PrintLast Go.Proofs.YtmjhfkjnnpnoaaaW.PrintMore
set_option linter.unusedVariables false
set_option linter.unusedSimpArgs false

theorem padr_ev (d : Nat) : ∀ a : List Int, a.length ≤ 1000000 → (4 - a.length % 4) % 4 = d → Ev (fun k => weftref3_Copied.l2 k a) (pad a, 0) := by
  induction d with
  | zero =>
    intro a hl hd
    have e : pad a = a := by unfold pad padZ; rw [hd]; simp
    rw [e]
    exact Ev.step (fun k => by rw [weftref3_Copied.l2, if_pos (by omega)]) (Ev.now _)
  | succ d ih =>
    intro a hl hd
    have hd2 : (4 - (a ++ [0]).length % 4) % 4 = d := by rw [List.length_append, List.length_singleton]; omega
    have := ih (a ++ [0]) (by rw [List.length_append, List.length_singleton]; omega) hd2
    have e : pad (a ++ [0]) = pad a := by
      unfold pad padZ
      rw [hd2, hd, List.append_assoc, List.replicate_succ]
      rfl
    rw [e] at this
    exact Ev.step (fun k => by rw [weftref3_Copied.l2, if_neg (by omega), if_pos (by omega)]) this
/-- An option's bytes, one by one. -/
theorem take_loop (o : List Int) (ho : o.length ≤ 1000000) {r : List Int × Int} (j : Nat) (hj : j ≤ o.length) (d : Nat) : ∀ (i : Nat) (a : List Int), i + d = j → a.length ≤ 1000000 + i →
    Ev (fun k => weftref3_Copied.l0 k o (a ++ (o.take j).drop i) (j : Int)) r → Ev (fun k => weftref3_Copied.l1 k o a (j : Int) (i : Int)) r := by
  induction d with
  | zero =>
    intro i a hi ha hk
    rw [List.drop_eq_nil_of_le (by rw [List.length_take]; omega), List.append_nil] at hk
    exact Ev.step (fun k => by rw [weftref3_Copied.l1, if_neg (by omega)]) hk
  | succ d ih =>
    intro i a hi ha hk
    have hlt : i < o.length := by omega
    have hlt2 : i < (o.take j).length := by rw [List.length_take]; omega
    have hw : wrap64 ((i : Int) + 1) = ((i + 1 : Nat) : Int) := one_up (by omega)
    refine Ev.step (fun k => by rw [weftref3_Copied.l1, if_pos (by omega), if_pos (by omega), if_pos (by omega), rd_lt _ _ hlt, if_pos (by omega), hw]) ?_
    refine ih (i + 1) (a ++ [o[i]]) (by omega) (by rw [List.length_append, List.length_singleton]; omega) ?_
    rw [List.drop_eq_getElem_cons hlt2, List.getElem_take] at hk
    rw [List.append_assoc, List.singleton_append]
    exact hk
/-- What is carried on from a place. -/
theorem cop_next {o : List Int} {i j : Nat} (hi : i < o.length) (hb : Bytes o) (hbh : bhd o i = (j : Int)) : cop (o.drop i) = (if o.getD i 0 < 128 then [] else (o.take j).drop i) ++ cop (o.drop j) := by
  have e0 : o.getD i 0 = o[i] := by simp [List.getD_eq_getElem?_getD, hi]
  unfold bhd at hbh
  rw [e0] at hbh ⊢
  by_cases h1 : o[i] = 1
  · rw [if_pos h1] at hbh
    have hj : j = i + 1 := by omega
    subst hj
    rw [h1, if_pos (by decide), List.nil_append, List.drop_eq_getElem_cons hi, h1]
    rcases hr : o.drop (i + 1) with _ | ⟨n, m⟩
    · simp [cop]
    · rw [cop, if_neg (by decide), if_pos rfl]
  rw [if_neg h1] at hbh
  by_cases h0 : o[i] = 0
  · rw [if_pos h0] at hbh
    by_cases hz : (o.drop i).all (· == 0) = true
    · rw [if_pos hz] at hbh
      have hj : j = o.length := by omega
      subst hj
      rw [h0, if_pos (by decide), List.nil_append, List.drop_eq_nil_of_le (Nat.le_refl _), List.drop_eq_getElem_cons hi, h0]
      rcases hr : o.drop (i + 1) with _ | ⟨n, m⟩
      · simp [cop]
      · simp [cop]
    · rw [if_neg hz] at hbh
      omega
  rw [if_neg h0] at hbh
  by_cases h2 : o.length ≤ i + 1
  · rw [if_pos h2] at hbh; omega
  rw [if_neg h2] at hbh
  have hlt2 : i + 1 < o.length := by omega
  have e1 : o.getD (i + 1) 0 = o[i + 1] := by simp [List.getD_eq_getElem?_getD, hlt2]
  rw [e1] at hbh
  by_cases h3 : o[i + 1] < 2
  · rw [if_pos h3] at hbh; omega
  rw [if_neg h3] at hbh
  by_cases h4 : o.length < i + o[i + 1].toNat
  · rw [if_pos h4] at hbh; omega
  rw [if_neg h4] at hbh
  have hj : j = i + o[i + 1].toNat := by omega
  have ed : o.drop i = o[i] :: o[i + 1] :: o.drop (i + 1 + 1) := by rw [List.drop_eq_getElem_cons hi, List.drop_eq_getElem_cons hlt2]
  have e2 : (o.drop (i + 1 + 1)).drop (o[i + 1].toNat - 2) = o.drop j := by rw [List.drop_drop, show i + 1 + 1 + (o[i + 1].toNat - 2) = j by omega]
  rw [ed, cop, if_neg h0, if_neg h1, e2]
  by_cases h8 : o[i] < 128
  · rw [if_pos h8, if_pos h8, List.nil_append]
  · rw [if_neg h8, if_neg h8, List.drop_take, ed]
    obtain ⟨m, hm⟩ : ∃ m, o[i + 1].toNat = m + 2 := ⟨o[i + 1].toNat - 2, by omega⟩
    rw [show j - i = m + 2 by omega, hm, List.take_succ_cons, List.take_succ_cons]
    rfl
theorem copr_loop {o : List Int} (hb : Bytes o) (hl : o.length ≤ 1000) {r : List Int × Int} (d : Nat) : ∀ (i : Nat) (a : List Int), o.length - i ≤ d → i ≤ o.length → area (o.drop i) = true → a.length ≤ i →
    Ev (fun k => weftref3_Copied.l2 k (a ++ cop (o.drop i))) r → Ev (fun k => weftref3_Copied.l0 k o a (i : Int)) r := by
  have hend : ∀ (i : Nat) (a : List Int), ¬ i < o.length → Ev (fun k => weftref3_Copied.l2 k (a ++ cop (o.drop i))) r → Ev (fun k => weftref3_Copied.l0 k o a (i : Int)) r := by
    intro i a hi hk
    rw [List.drop_eq_nil_of_le (by omega), cop, List.append_nil] at hk
    exact Ev.step (fun k => by rw [weftref3_Copied.l0, if_neg (by omega)]) hk
  induction d with
  | zero => intro i a h1 h2 ha hal hk; exact hend i a (by omega) hk
  | succ d ih =>
    intro i a h1 h2 ha hal hk
    by_cases hi : i < o.length
    · refine Ev.step (fun k => by rw [weftref3_Copied.l0, if_pos (by omega)]) ?_
      refine Ev.bind (behind_r hb (by omega) hi) ?_
      rcases area_next hi with ⟨e, hf⟩ | ⟨j, e, hij, hjl, hf⟩
      · rw [hf] at ha; cases ha
      · rw [e]
        rw [cop_next hi hb e, ← List.append_assoc] at hk
        rw [hf] at ha
        refine Ev.congr (fun k => by rw [if_pos (Int.natCast_nonneg i), rd_nat]) ?_
        by_cases h8 : o.getD i 0 < 128
        · rw [if_pos h8, List.append_nil] at hk
          exact Ev.congr (fun k => by rw [if_neg (by omega)]) (ih j a (by omega) hjl ha (by omega) hk)
        · rw [if_neg h8] at hk
          refine Ev.congr (fun k => by rw [if_pos (by omega)]) ?_
          refine take_loop o (by omega) j hjl (j - i) i a (by omega) (by omega) ?_
          exact ih j _ (by omega) hjl ha (by rw [List.length_append, List.length_drop, List.length_take]; omega) hk
    · exact hend i a hi hk
theorem copied_r {o : List Int} (hb : Bytes o) (hl : o.length ≤ 140737488351232) : Ev (fun k => weftref3_Copied.f k o) (if oOK o = true then (pad (cop o), 0) else ([], 34)) := by
  refine Ev.bind (area_r hb (by omega)) ?_
  by_cases h : oOK o = true
  · rw [if_pos h]
    have h1 := (oOK_len h).1
    have ha : area o = true := by
      simp [oOK] at h
      exact h.2.2
    have h3 := cop_len ha
    refine Ev.congr (fun k => by rw [if_pos h]) ?_
    refine copr_loop hb (by omega) o.length 0 [] (by omega) (by omega) (by simpa using ha) (by simp) ?_
    rw [List.nil_append, List.drop_zero]
    exact padr_ev _ (cop o) (by omega) rfl
  · rw [if_neg h]
    exact Ev.congr (fun k => by rw [if_neg h]) (Ev.now _)
end Go.Proofs.YtmjhfkjnnpnoaaaX
