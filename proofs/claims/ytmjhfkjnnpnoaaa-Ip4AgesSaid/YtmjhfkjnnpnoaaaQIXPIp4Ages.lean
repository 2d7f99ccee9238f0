/- Ip4Ages: every step of that kind, in every script, is answered as the document says.
   Conditions: none; every script is spoken of. -/
import Derived.Test.YtmjhfkjnnpnoaaaQIXRefA
import Derived.Test.YtmjhfkjnnpnoaaaQIXV6x1
import Derived.Test.YtmjhfkjnnpnoaaaQIXRowIp4Ages
namespace Go.Proofs.YtmjhfkjnnpnoaaaX
open Go.RowKit Go.Proofs.Ytmjhfkjnnpnoaaa.XA Go.Proofs.Ytmjhfkjnnpnoaaa.XV6 Go.Proofs.YtmjhfkjnnpnoaaaW.PrintWords Go.Proofs.YtmjhfkjnnpnoaaaW.PrintLast Go.Proofs.YtmjhfkjnnpnoaaaW.PrintMore
set_option linter.unusedVariables false
set_option linter.unusedSimpArgs false

theorem plays6 {b : List Int} (hb : Bytes b) (hl : b.length ≤ 140737488351232) (ps : List (List Int)) (x y z t i : Int) (df mf : Bool) (off ttl proto src dst : Int) (op bo : List Int) :
    Ev (fun k => weftlaw3_plays.f k 6 b ps x y z t i df mf off ttl proto src dst op bo) true := by
  refine Ev.congr (fun k => by rw [weftlaw3_plays.f, if_neg (by decide)]) ?_
  refine Ev.step (fun k => by rw [weftlaw3_plays.j0, show ((6 : Int) == 2) = false from rfl, if_neg (by decide), if_neg (by decide), if_neg (by decide), if_neg (by decide), if_pos rfl]) ?_
  refine Ev.bind (age_f hb hl) ?_
  refine Ev.bind (age_r hb hl) ?_
  have key : ∀ l : List Int, l.length ≤ 140737488355328 → ∀ e : Int, Ev (fun k => if (l, e).2 = (l, e).2 then (weftlaw3_same.f k (l, e).1 (l, e).1).bind fun t => some t else some false) true := by
    intro l hl e
    refine Ev.congr (fun k => by rw [if_pos rfl]) ?_
    refine Ev.bind (same_f l l hl) ?_
    simp only [decide_true]
    exact Ev.now _
  by_cases h : bad true b = 0
  · rw [if_pos h]
    by_cases ht : b.getD 8 0 ≤ 1
    · rw [if_pos ht]
      exact key [] (by simp) 35
    · rw [if_neg ht]
      have H := holds hb hl h
      have htl := tl_le H.err
      have hol : ((older (ofB b)).bytes (older (ofB b)).sum).length = (ofB b).tl := Pk.bytes_len _ _
      exact key _ (by omega) 0
  · rw [if_neg h]
    exact key [] (by simp) _
theorem head6 : Ev (fun k => weftlaw3_head.f k 6) true := by
  have hf := small3_fine
  have hb := build_r (p := ⟨0, 7216, true, false, 0, 64, 6, 167838211, 167904004, [], [1, 2, 3]⟩) hf
  have he : (⟨0, 7216, true, false, 0, 64, 6, 167838211, 167904004, [], [1, 2, 3]⟩ : Pk).err = 0 := small3_err
  rw [if_pos he] at hb
  refine Ev.congr (fun k => by rw [weftlaw3_head.f]) ?_
  refine Ev.bind hb ?_
  refine Ev.congr (fun k => by rw [if_neg (by decide), if_neg (by decide), if_neg (by decide), if_neg (by decide)]) ?_
  exact Ev.bind (plays6 (Pk.bytes_bytes hf he _) (by rw [Pk.bytes_len]; have := tl_le he; omega) _ _ _ _ _ _ _ _ _ _ _ _ _ _ _) (Ev.now _)
theorem op6 {o : S50} (g : Go.Proofs.Ytmjhfkjnnpnoaaa.Xip4Ages.G50 o) (h : o.f0 = 6) : Ev (fun k => weftlaw3_plays.f k o.f0 o.f1 o.f2 o.f3 o.f4 o.f5 o.f6.f0.f0 o.f6.f0.f1 o.f6.f0.f2 o.f6.f0.f3 o.f6.f0.f4 o.f6.f0.f5 o.f6.f0.f6 o.f6.f0.f7 o.f6.f0.f8 o.f6.f0.f9 o.f6.f1) true := by
  rw [h]
  have gb := g.2.1
  exact plays6 (fun y hy => wf8 (gb.2 y hy)) (by have := gb.1; omega) _ _ _ _ _ _ _ _ _ _ _ _ _ _ _

theorem rd_T50_lt6 (l : List S50) (i : Nat) (h : i < l.length) : rd_T50 l (i : Int) = l[i] := by simp [rd_T50, List.getD_eq_getElem?_getD, h]
theorem script6 (l : List S50) (hl : l.length ≤ 140737488355328)
    (hp : ∀ o ∈ l, o.f0 = 6 → Ev (fun k => weftlaw3_plays.f k o.f0 o.f1 o.f2 o.f3 o.f4 o.f5 o.f6.f0.f0 o.f6.f0.f1 o.f6.f0.f2 o.f6.f0.f3 o.f6.f0.f4 o.f6.f0.f5 o.f6.f0.f6 o.f6.f0.f7 o.f6.f0.f8 o.f6.f0.f9 o.f6.f1) true) (d : Nat) :
    ∀ j : Nat, j + d = l.length → Ev (fun k => weftlaw3_upTo.l1 k l 6 6 (j : Int)) true := by
  induction d with
  | zero => intro j hj; exact Ev.step (fun k => by rw [weftlaw3_upTo.l1, if_neg (by omega)]) (Ev.now _)
  | succ d ih =>
    intro j hj
    have hlt : j < l.length := by omega
    have hw : wrap64 ((j : Int) + 1) = ((j + 1 : Nat) : Int) := by
      have h3 : wrap64 ((j : Int) + 1) = (j : Int) + 1 := w64 (by omega) (by omega)
      rw [h3]
      omega
    have hn := ih (j + 1) (by omega)
    have hj0 : (j : Int) < (l.length : Int) := Int.ofNat_lt.2 hlt
    by_cases h1 : l[j].f0 ≥ 6
    · by_cases h2 : l[j].f0 ≤ 6
      · refine Ev.step (fun k => by rw [weftlaw3_upTo.l1, if_pos hj0, if_pos (Int.natCast_nonneg j), rd_T50_lt6 l j hlt, if_pos h1, if_pos h2, hw]) ?_
        refine Ev.bind (hp l[j] (List.getElem_mem hlt) (by omega)) ?_
        exact Ev.congr (fun k => by rw [if_pos rfl]) hn
      · exact Ev.step (fun k => by rw [weftlaw3_upTo.l1, if_pos hj0, if_pos (Int.natCast_nonneg j), rd_T50_lt6 l j hlt, if_pos h1, if_neg h2, hw]) hn
    · exact Ev.step (fun k => by rw [weftlaw3_upTo.l1, if_pos hj0, if_pos (Int.natCast_nonneg j), rd_T50_lt6 l j hlt, if_neg h1, hw]) hn
theorem upTo6 (l : List S50) (hl : l.length ≤ 140737488355328)
    (hp : ∀ o ∈ l, o.f0 = 6 → Ev (fun k => weftlaw3_plays.f k o.f0 o.f1 o.f2 o.f3 o.f4 o.f5 o.f6.f0.f0 o.f6.f0.f1 o.f6.f0.f2 o.f6.f0.f3 o.f6.f0.f4 o.f6.f0.f5 o.f6.f0.f6 o.f6.f0.f7 o.f6.f0.f8 o.f6.f0.f9 o.f6.f1) true) :
    Ev (fun k => weftlaw3_upTo.f k l 6 6) true := by
  have e : wrap64 ((6 : Int) + 1) = 6 + 1 := w64 (by omega) (by omega)
  refine Ev.congr (fun k => by rw [weftlaw3_upTo.f]) ?_
  refine Ev.step (fun k => by rw [weftlaw3_upTo.l0, if_pos (by decide), e]) ?_
  refine Ev.bind head6 ?_
  refine Ev.congr (fun k => by rw [if_pos rfl]) ?_
  exact Ev.step (fun k => by rw [weftlaw3_upTo.l0, if_neg (by decide)]; rfl) (script6 l hl hp l.length 0 (by omega))
theorem pureIp4Ages : Go.Proofs.Ytmjhfkjnnpnoaaa.Xip4Ages.Pure := by
  intro l hx
  refine Ev.rounds (g := fun k => weftlaw3_Ip4Ages.f k l) ?_
  refine Ev.bind (upTo6 l (by have := hx.1; omega) fun o ho h => ?_) (Ev.now _)
  have g := hx.2 o ho
  exact op6 g h
theorem ip4Ages_row : Go.Proofs.Ytmjhfkjnnpnoaaa.Rows.Ip4AgesSaid := Go.Proofs.Ytmjhfkjnnpnoaaa.Xip4Ages.over pureIp4Ages

end Go.Proofs.YtmjhfkjnnpnoaaaX
namespace Go.Proofs.Ytmjhfkjnnpnoaaa
/-- The row, under a short name, for the claim. -/
theorem ip4Ages_holds : Rows.Ip4AgesSaid := Go.Proofs.YtmjhfkjnnpnoaaaX.ip4Ages_row
end Go.Proofs.Ytmjhfkjnnpnoaaa
