/- What Copied of the printed program answers: the options to be carried on, and zeros behind them; that it is an area again, and carries itself on.
   Conditions: bytes are 0 to 255, the list short enough for 64 bits. -/
import Derived.Test.YtmjhfkjnnpnoaaaQFXArea
import Derived.Test.YtmjhfkjnnpnoaaaQFXAx16
namespace Go.Proofs.YtmjhfkjnnpnoaaaX
open Go.RowKit Go.Proofs.Ytmjhfkjnnpnoaaa.XA Go.Proofs.YtmjhfkjnnpnoaaaW.PrintWords Go.Proofs.YtmjhfkjnnpnoaaaW.PrintLast Go.Proofs.YtmjhfkjnnpnoaaaW.PrintMore
set_option linter.unusedVariables false
set_option linter.unusedSimpArgs false

/-- Over an area's options, one after another. -/
theorem area_ind {P : List Int → Prop} (hnil : P []) (h1 : ∀ x, x = 0 ∨ x = 1 → P [x]) (h0 : ∀ n l, (n :: l).all (· == 0) = true → P (0 :: n :: l)) (hn : ∀ n l, area (n :: l) = true → P (n :: l) → P (1 :: n :: l))
    (ho : ∀ x n l, x ≠ 0 → x ≠ 1 → 2 ≤ n → n.toNat - 2 ≤ l.length → area (l.drop (n.toNat - 2)) = true → P (l.drop (n.toNat - 2)) → P (x :: n :: l)) (d : Nat) : ∀ o : List Int, o.length ≤ d → area o = true → P o := by
  induction d with
  | zero =>
    intro o hl ha
    have : o = [] := List.eq_nil_of_length_eq_zero (by omega)
    subst this
    exact hnil
  | succ d ih =>
    intro o hl ha
    match o, hl, ha with
    | [], _, _ => exact hnil
    | [x], _, ha =>
      rw [area] at ha
      exact h1 x (of_decide_eq_true ha)
    | x :: n :: l, hl, ha =>
      simp only [List.length_cons] at hl
      rw [area] at ha
      by_cases e0 : x = 0
      · rw [if_pos e0] at ha
        subst e0
        exact h0 n l ha
      · rw [if_neg e0] at ha
        by_cases e1 : x = 1
        · rw [if_pos e1] at ha
          subst e1
          exact hn n l ha (ih _ (by simp only [List.length_cons]; omega) ha)
        · rw [if_neg e1] at ha
          by_cases e2 : n < 2 ∨ n.toNat - 2 > l.length
          · rw [if_pos e2] at ha; cases ha
          · rw [if_neg e2] at ha
            exact ho x n l e0 e1 (by omega) (by omega) ha (ih _ (by rw [List.length_drop]; omega) ha)
/-- The options that are carried on. -/
def cop : List Int → List Int
  | [] => []
  | [_] => []
  | x :: n :: l => if x = 0 then [] else if x = 1 then cop (n :: l) else if x < 128 then cop (l.drop (n.toNat - 2)) else x :: n :: (l.take (n.toNat - 2) ++ cop (l.drop (n.toNat - 2)))
termination_by l => l.length
decreasing_by all_goals simp only [List.length_cons, List.length_drop]; omega
/-- With zeros behind. -/
def padZ (n : Nat) : List Int := List.replicate ((4 - n % 4) % 4) 0
def pad (l : List Int) : List Int := l ++ padZ l.length
theorem cop_len {o : List Int} (h : area o = true) : (cop o).length ≤ o.length := by
  refine area_ind (P := fun o => (cop o).length ≤ o.length) ?_ ?_ ?_ ?_ ?_ o.length o (Nat.le_refl _) h
  · simp [cop]
  · intro x hx; simp [cop]
  · intro n l hz; simp [cop]
  · intro n l ha ih
    rw [cop, if_neg (by decide), if_pos rfl]
    simp only [List.length_cons] at *
    omega
  · intro x n l e0 e1 h2 hl ha ih
    rw [cop, if_neg e0, if_neg e1]
    rw [List.length_drop] at ih
    split
    · simp only [List.length_cons]; omega
    · simp only [List.length_cons, List.length_append, List.length_take]; omega
theorem zeros_area (m : Nat) : area (List.replicate m 0) = true := by
  match m with
  | 0 => simp [area]
  | 1 => simp [area]
  | m + 2 =>
    rw [List.replicate_succ, List.replicate_succ, area, if_pos rfl, List.all_cons, List.all_replicate]
    simp
theorem zeros_cop (m : Nat) : cop (List.replicate m 0) = [] := by
  match m with
  | 0 => simp [cop]
  | 1 => simp [cop]
  | m + 2 => rw [List.replicate_succ, List.replicate_succ, cop, if_pos rfl]
theorem opt_area {x n : Int} {t r : List Int} (e0 : x ≠ 0) (e1 : x ≠ 1) (h2 : 2 ≤ n) (ht : t.length = n.toNat - 2) : area (x :: n :: (t ++ r)) = area r := by
  rw [area, if_neg e0, if_neg e1, if_neg (by rw [List.length_append]; omega), ← ht, List.drop_left' rfl]
theorem opt_cop {x n : Int} {t r : List Int} (e0 : x ≠ 0) (e1 : x ≠ 1) (h2 : 2 ≤ n) (ht : t.length = n.toNat - 2) (h8 : ¬ x < 128) : cop (x :: n :: (t ++ r)) = x :: n :: (t ++ cop r) := by
  rw [cop, if_neg e0, if_neg e1, if_neg h8, ← ht, List.drop_left' rfl, List.take_left' rfl]
theorem cop_area {o : List Int} (h : area o = true) (m : Nat) : area (cop o ++ List.replicate m 0) = true := by
  refine area_ind (P := fun o => area (cop o ++ List.replicate m 0) = true) ?_ ?_ ?_ ?_ ?_ o.length o (Nat.le_refl _) h
  · simpa [cop] using zeros_area m
  · intro x hx; simpa [cop] using zeros_area m
  · intro n l hz; simpa [cop] using zeros_area m
  · intro n l ha ih
    rw [cop, if_neg (by decide), if_pos rfl]
    exact ih
  · intro x n l e0 e1 h2 hl ha ih
    rw [cop, if_neg e0, if_neg e1]
    split
    · exact ih
    · rw [List.cons_append, List.cons_append, List.append_assoc, opt_area e0 e1 h2 (by rw [List.length_take]; omega)]
      exact ih
theorem cop_cop {o : List Int} (h : area o = true) (m : Nat) : cop (cop o ++ List.replicate m 0) = cop o := by
  refine area_ind (P := fun o => cop (cop o ++ List.replicate m 0) = cop o) ?_ ?_ ?_ ?_ ?_ o.length o (Nat.le_refl _) h
  · simpa [cop] using zeros_cop m
  · intro x hx; simpa [cop] using zeros_cop m
  · intro n l hz; simpa [cop] using zeros_cop m
  · intro n l ha ih
    rw [cop, if_neg (by decide), if_pos rfl]
    exact ih
  · intro x n l e0 e1 h2 hl ha ih
    rw [cop, if_neg e0, if_neg e1]
    split
    · exact ih
    · rename_i h8
      rw [List.cons_append, List.cons_append, List.append_assoc, opt_cop e0 e1 h2 (by rw [List.length_take]; omega) h8, ih]
theorem pad_len (l : List Int) : (pad l).length % 4 = 0 ∧ (pad l).length ≤ l.length + 3 ∧ l.length ≤ (pad l).length := by
  unfold pad padZ
  rw [List.length_append, List.length_replicate]
  omega
theorem copied_ok {o : List Int} (h : oOK o = true) : oOK (pad (cop o)) = true ∧ pad (cop (pad (cop o))) = pad (cop o) ∧ (pad (cop o)).length ≤ o.length := by
  obtain ⟨h1, h2⟩ := oOK_len h
  have ha : area o = true := by
    simp [oOK] at h
    exact h.2.2
  have h3 := cop_len ha
  have h4 := pad_len (cop o)
  have h5 : (pad (cop o)).length ≤ o.length := by omega
  refine ⟨?_, ?_, h5⟩
  · unfold oOK
    rw [decide_eq_true (by omega), decide_eq_true h4.1]
    exact cop_area ha _
  · have : cop (pad (cop o)) = cop o := cop_cop ha _
    rw [this]
theorem pad_ev (d : Nat) : ∀ a : List Int, a.length ≤ 1000000 → (4 - a.length % 4) % 4 = d → Ev (fun k => ip4_Copied.l1 k a) (pad a, 0) := by
  induction d with
  | zero =>
    intro a hl hd
    have e : pad a = a := by unfold pad padZ; rw [hd]; simp
    rw [e]
    exact Ev.step (fun k => by rw [ip4_Copied.l1, if_pos (by omega)]) (Ev.now _)
  | succ d ih =>
    intro a hl hd
    have hd2 : (4 - (a ++ [0]).length % 4) % 4 = d := by rw [List.length_append, List.length_singleton]; omega
    have := ih (a ++ [0]) (by rw [List.length_append, List.length_singleton]; omega) hd2
    have e : pad (a ++ [0]) = pad a := by
      unfold pad padZ
      rw [hd2, hd, List.append_assoc, List.replicate_succ]
      rfl
    rw [e] at this
    exact Ev.step (fun k => by rw [ip4_Copied.l1, if_neg (by omega), if_pos (by omega)]) this
theorem step_n {i : Nat} {n : Int} (hi : i ≤ 100000) (h0 : 0 ≤ n) (h1 : n ≤ 255) : wrap64 ((i : Int) + wrap64 n) = ((i + n.toNat : Nat) : Int) := by
  have h2 : wrap64 n = n := w64 (by omega) (by omega)
  have h3 : wrap64 ((i : Int) + n) = (i : Int) + n := w64 (by omega) (by omega)
  rw [h2, h3]
  omega
theorem step_one {i : Nat} (hi : i ≤ 100000) : wrap64 ((i : Int) + 1) = ((i + 1 : Nat) : Int) := by
  have h3 : wrap64 ((i : Int) + 1) = (i : Int) + 1 := w64 (by omega) (by omega)
  rw [h3]
  omega
theorem cons_app (acc t c : List Int) (x n : Int) : acc ++ (x :: n :: (t ++ c)) = (acc ++ x :: n :: t) ++ c := by simp
theorem copied_step (o : List Int) (x n : Int) (l : List Int) (i : Nat) (acc : List Int) {r : List Int × Int} (hb : Bytes o) (e0 : x ≠ 0) (e1 : x ≠ 1) (hA : i + n.toNat ≤ o.length) (hi9 : i ≤ 100000) (hlt : i < o.length) (hlt2 : i + 1 < o.length)
    (hF : acc.length + (x :: n :: l.take (n.toNat - 2)).length < 140737488355328) (hx0 : o.getD i 0 = x) (hn0 : o.getD (i + 1) 0 = n) (hcut : (o.take (i + n.toNat)).drop i = x :: n :: l.take (n.toNat - 2))
    (ih : ∀ acc' : List Int, acc'.length ≤ i + n.toNat → Ev (fun k => ip4_Copied.l1 k (acc' ++ cop (l.drop (n.toNat - 2)))) r → Ev (fun k => ip4_Copied.l0 k o acc' ((i + n.toNat : Nat) : Int)) r)
    (hE : (acc ++ x :: n :: l.take (n.toNat - 2)).length ≤ i + n.toNat) (hE0 : acc.length ≤ i + n.toNat) (hk : Ev (fun k => ip4_Copied.l1 k (acc ++ cop (x :: n :: l))) r) : Ev (fun k => ip4_Copied.l0 k o acc (i : Int)) r := by
  have hxb := hb.getD i
  have hnb := hb.getD (i + 1)
  rw [hx0] at hxb
  rw [hn0] at hnb
  have hne : (x != 0) = true := bne_iff_ne.mpr e0
  have h8x := and_128 hxb.1 hxb.2
  have hw : wrap64 ((i : Int) + 1) = ((i + 1 : Nat) : Int) := step_one hi9
  have hwn : wrap64 ((i : Int) + wrap64 n) = ((i + n.toNat : Nat) : Int) := step_n hi9 hnb.1 hnb.2
  rw [cop, if_neg e0, if_neg e1] at hk
  refine Ev.step (fun k => by rw [ip4_Copied.l0, if_pos (Int.ofNat_lt.2 hlt), if_pos (Int.natCast_nonneg i), rd_nat, hx0, hne]) ?_
  by_cases h8 : x < 128
  · rw [if_pos h8] at hk
    refine Ev.step (fun k => by rw [ip4_Copied.j1, if_pos rfl, if_pos (Int.natCast_nonneg i), if_pos (Int.ofNat_lt.2 hlt), rd_nat, hx0, if_neg e1, hw, if_pos (Int.natCast_nonneg _), if_pos (Int.ofNat_lt.2 hlt2), rd_nat, hn0, if_pos (h8x.2 h8), hwn]) ?_
    exact ih acc hE0 hk
  · rw [if_neg h8] at hk
    refine Ev.step (fun k => by rw [ip4_Copied.j1, if_pos rfl, if_pos (Int.natCast_nonneg i), if_pos (Int.ofNat_lt.2 hlt), rd_nat, hx0, if_neg e1, hw, if_pos (Int.natCast_nonneg _), if_pos (Int.ofNat_lt.2 hlt2), rd_nat, hn0, if_neg (fun h => h8 (h8x.1 h)), hwn, if_pos (Int.ofNat_le.2 (Nat.le_add_right _ _)), if_pos (Int.ofNat_le.2 hA), Int.toNat_natCast, Int.toNat_natCast, hcut, if_pos hF]) ?_
    refine ih _ hE ?_
    rw [cons_app] at hk
    exact hk
theorem copied_loop (o : List Int) (hb : Bytes o) (hl : o.length ≤ 40) {r : List Int × Int} {t : List Int} (h : area t = true) : ∀ (i : Nat) (acc : List Int), i ≤ o.length → o.drop i = t → acc.length ≤ i →
    Ev (fun k => ip4_Copied.l1 k (acc ++ cop t)) r → Ev (fun k => ip4_Copied.l0 k o acc (i : Int)) r := by
  have hstop : ∀ (i : Nat) (acc : List Int), (i < o.length → o.getD i 0 = 0) → i ≤ o.length → Ev (fun k => ip4_Copied.l1 k acc) r → Ev (fun k => ip4_Copied.l0 k o acc (i : Int)) r := by
    intro i acc hz hi hk
    have hj : Ev (fun k => ip4_Copied.j1 k o acc (i : Int) false) r := Ev.step (fun k => by rw [ip4_Copied.j1, if_neg (by decide)]) hk
    by_cases hlt : i < o.length
    · exact Ev.step (fun k => by rw [ip4_Copied.l0, if_pos (by omega), if_pos (by omega), rd_nat, hz hlt, show ((0 : Int) != 0) = false from rfl]) hj
    · exact Ev.step (fun k => by rw [ip4_Copied.l0, if_neg (by omega)]) hj
  refine area_ind (P := fun t => ∀ (i : Nat) (acc : List Int), i ≤ o.length → o.drop i = t → acc.length ≤ i → Ev (fun k => ip4_Copied.l1 k (acc ++ cop t)) r → Ev (fun k => ip4_Copied.l0 k o acc (i : Int)) r) ?_ ?_ ?_ ?_ ?_ t.length t (Nat.le_refl _) h
  · intro i acc hi ht ha hk
    have hlen : o.length ≤ i := List.drop_eq_nil_iff.1 ht
    refine hstop i acc (fun h => by omega) hi ?_
    simpa [cop] using hk
  · intro x hx i acc hi ht ha hk
    have hlt : i < o.length := by rcases Nat.lt_or_ge i o.length with h | h; exact h; rw [List.drop_eq_nil_of_le h] at ht; cases ht
    have hlen : o.length = i + 1 := by have := congrArg List.length ht; rw [List.length_drop] at this; simp at this; omega
    have hx0 : o.getD i 0 = x := by
      rw [List.drop_eq_getElem_cons hlt] at ht
      simp [List.getD_eq_getElem?_getD, hlt, (List.cons.inj ht).1]
    rcases hx with hx | hx
    · refine hstop i acc (fun _ => by rw [hx0, hx]) hi ?_
      simpa [cop] using hk
    · have hw : wrap64 ((i : Int) + 1) = ((i + 1 : Nat) : Int) := by rw [w64 (by omega) (by omega)]; omega
      refine Ev.step (fun k => by rw [ip4_Copied.l0, if_pos (by omega), if_pos (by omega), rd_nat, hx0, hx, show ((1 : Int) != 0) = true from rfl]) ?_
      refine Ev.step (fun k => by rw [ip4_Copied.j1, if_pos rfl, if_pos (by omega), if_pos (by omega), rd_nat, hx0, if_pos hx, hx, if_pos (by rw [and_128] <;> decide), hw]) ?_
      refine hstop (i + 1) acc (fun h => by omega) (by omega) ?_
      simpa [cop] using hk
  · intro n l hz i acc hi ht ha hk
    have hlt : i < o.length := by rcases Nat.lt_or_ge i o.length with h | h; exact h; rw [List.drop_eq_nil_of_le h] at ht; cases ht
    have hx0 : o.getD i 0 = 0 := by
      rw [List.drop_eq_getElem_cons hlt] at ht
      simp [List.getD_eq_getElem?_getD, hlt, (List.cons.inj ht).1]
    refine hstop i acc (fun _ => hx0) hi ?_
    simpa [cop] using hk
  · intro n l ha2 ih i acc hi ht ha hk
    have hlt : i < o.length := by rcases Nat.lt_or_ge i o.length with h | h; exact h; rw [List.drop_eq_nil_of_le h] at ht; cases ht
    rw [List.drop_eq_getElem_cons hlt] at ht
    have hx0 : o.getD i 0 = 1 := by simp [List.getD_eq_getElem?_getD, hlt, (List.cons.inj ht).1]
    have hw : wrap64 ((i : Int) + 1) = ((i + 1 : Nat) : Int) := by rw [w64 (by omega) (by omega)]; omega
    refine Ev.step (fun k => by rw [ip4_Copied.l0, if_pos (by omega), if_pos (by omega), rd_nat, hx0, show ((1 : Int) != 0) = true from rfl]) ?_
    refine Ev.step (fun k => by rw [ip4_Copied.j1, if_pos rfl, if_pos (by omega), if_pos (by omega), rd_nat, hx0, if_pos rfl, if_pos (by rw [and_128] <;> decide), hw]) ?_
    refine ih (i + 1) acc (by omega) (List.cons.inj ht).2 (by omega) ?_
    rw [cop, if_neg (by decide), if_pos rfl] at hk
    exact hk
  · intro x n l e0 e1 h2 hll ha2 ih i acc hi ht ha hk
    have hlt : i < o.length := by rcases Nat.lt_or_ge i o.length with h | h; exact h; rw [List.drop_eq_nil_of_le h] at ht; cases ht
    have htl : o.length - i = l.length + 2 := by have := congrArg List.length ht; rw [List.length_drop] at this; simpa using this
    have hA : i + n.toNat ≤ o.length := by omega
    have hB : i + 1 + 1 + (n.toNat - 2) = i + n.toNat := by omega
    have hC : 2 ≤ n.toNat := by omega
    have hi9 : i ≤ 100000 := by omega
    have hlt2 : i + 1 < o.length := by omega
    have hD : (l.take (n.toNat - 2)).length = n.toNat - 2 := by rw [List.length_take]; omega
    have hE : (acc ++ x :: n :: l.take (n.toNat - 2)).length ≤ i + n.toNat := by simp only [List.length_append, List.length_cons, hD]; omega
    have hF : acc.length + (x :: n :: l.take (n.toNat - 2)).length < 140737488355328 := by simp only [List.length_cons, hD]; omega
    have ht0 := ht
    rw [List.drop_eq_getElem_cons hlt] at ht
    have hx0 : o.getD i 0 = x := by simp [List.getD_eq_getElem?_getD, hlt, (List.cons.inj ht).1]
    have ht2 := (List.cons.inj ht).2
    rw [List.drop_eq_getElem_cons hlt2] at ht2
    have hn0 : o.getD (i + 1) 0 = n := by simp [List.getD_eq_getElem?_getD, hlt2, (List.cons.inj ht2).1]
    have ht3 := (List.cons.inj ht2).2
    have hdr : o.drop (i + n.toNat) = l.drop (n.toNat - 2) := by rw [← ht3, List.drop_drop, hB]
    have hcut : (o.take (i + n.toNat)).drop i = x :: n :: l.take (n.toNat - 2) := by
      rw [List.drop_take, ht0, Nat.add_sub_cancel_left]
      obtain ⟨m, hm⟩ : ∃ m, n.toNat = m + 2 := ⟨n.toNat - 2, (Nat.sub_add_cancel hC).symm⟩
      rw [hm]
      rfl
    exact copied_step o x n l i acc hb e0 e1 hA hi9 hlt hlt2 hF hx0 hn0 hcut (fun acc' ha' hk' => ih (i + n.toNat) acc' hA hdr ha' hk') hE (Nat.le_trans ha (Nat.le_add_right _ _)) hk
theorem copied_f {o : List Int} (hb : Bytes o) (hl : o.length ≤ 140737488355328) : Ev (fun k => ip4_Copied.f k o) (if oOK o = true then (pad (cop o), 0) else ([], 34)) := by
  refine Ev.bind (options_f hb hl) ?_
  by_cases h : oOK o = true
  · rw [if_pos h]
    have h1 := (oOK_len h).1
    have ha : area o = true := by
      simp [oOK] at h
      exact h.2.2
    have h3 := cop_len ha
    refine Ev.congr (fun k => by rw [if_pos h]) ?_
    refine copied_loop o hb h1 ha 0 [] (by omega) (by simp) (by simp) ?_
    rw [List.nil_append]
    exact pad_ev _ (cop o) (by omega) rfl
  · rw [if_neg h]
    exact Ev.congr (fun k => by rw [if_neg h]) (Ev.now _)
end Go.Proofs.YtmjhfkjnnpnoaaaX
