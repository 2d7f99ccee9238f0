/- Ip4Adjusts: every step of that kind, in every script, is answered as the document says.
   Conditions: none; every script is spoken of. -/
import Derived.Test.YtmjhfkjnnpnoaaaQCXRefB
import Derived.Test.YtmjhfkjnnpnoaaaQCXV2x1
import Derived.Test.YtmjhfkjnnpnoaaaQCXRowIp4Adjusts
namespace Go.Proofs.YtmjhfkjnnpnoaaaX
open Go.RowKit Go.Proofs.Ytmjhfkjnnpnoaaa.XA Go.Proofs.Ytmjhfkjnnpnoaaa.XV2 Go.Proofs.YtmjhfkjnnpnoaaaW.PrintWords Go.Proofs.YtmjhfkjnnpnoaaaW.PrintLast Go.Proofs.YtmjhfkjnnpnoaaaW.PrintMore
set_option linter.unusedVariables false
set_option linter.unusedSimpArgs false

theorem plays2 {x y z : Int} (hx : 0 ≤ x ∧ x ≤ 65535) (hy : 0 ≤ y ∧ y ≤ 65535) (hz : 0 ≤ z ∧ z ≤ 65535) (b : List Int) (ps : List (List Int)) (t i : Int) (df mf : Bool) (off ttl proto src dst : Int) (op bo : List Int) :
    Ev (fun k => weftlaw3_plays.f k 2 b ps x y z t i df mf off ttl proto src dst op bo) true := by
  refine Ev.congr (fun k => by rw [weftlaw3_plays.f, if_neg (by decide)]) ?_
  refine Ev.step (fun k => by rw [weftlaw3_plays.j0, show ((2 : Int) == 2) = true from rfl, if_pos rfl]) ?_
  have : Ev (fun k => Go.Proofs.Ytmjhfkjnnpnoaaa.XV2.weftlaw3_numbers.f k 2 b ps x y z t i df mf off ttl proto src dst op bo) true := by
    refine Ev.congr (fun k => by rw [Go.Proofs.Ytmjhfkjnnpnoaaa.XV2.weftlaw3_numbers.f, if_neg (by decide)]) ?_
    refine Ev.bind (adjust_f hx hy hz) ?_
    refine Ev.congr (fun k => by rw [adjust_r hx hy hz, Option.bind_some, beq_self_eq_true]) (Ev.now _)
  exact Ev.bind this (Ev.now _)
theorem head2 : Ev (fun k => weftlaw3_head.f k 2) true := by
  have hb := build_r (p := ⟨0, 7216, true, false, 0, 64, 6, 167838211, 167904004, [], [1, 2, 3]⟩) small3_fine
  refine Ev.congr (fun k => by rw [weftlaw3_head.f]) ?_
  refine Ev.bind hb ?_
  refine Ev.congr (fun k => by rw [if_neg (by decide), if_pos rfl]) ?_
  exact Ev.bind (plays2 (by omega) (by omega) (by omega) _ _ _ _ _ _ _ _ _ _ _ _ _) (Ev.now _)
theorem op2 {o : S50} (g : Go.Proofs.Ytmjhfkjnnpnoaaa.Xip4Adjusts.G50 o) (h : o.f0 = 2) : Ev (fun k => weftlaw3_plays.f k o.f0 o.f1 o.f2 o.f3 o.f4 o.f5 o.f6.f0.f0 o.f6.f0.f1 o.f6.f0.f2 o.f6.f0.f3 o.f6.f0.f4 o.f6.f0.f5 o.f6.f0.f6 o.f6.f0.f7 o.f6.f0.f8 o.f6.f0.f9 o.f6.f1) true := by
  rw [h]
  exact plays2 (wf16 g.2.2.2.1) (wf16 g.2.2.2.2.1) (wf16 g.2.2.2.2.2.1) _ _ _ _ _ _ _ _ _ _ _ _ _

theorem rd_T50_lt2 (l : List S50) (i : Nat) (h : i < l.length) : rd_T50 l (i : Int) = l[i] := by simp [rd_T50, List.getD_eq_getElem?_getD, h]
theorem script2 (l : List S50) (hl : l.length ≤ 140737488355328)
    (hp : ∀ o ∈ l, o.f0 = 2 → Ev (fun k => weftlaw3_plays.f k o.f0 o.f1 o.f2 o.f3 o.f4 o.f5 o.f6.f0.f0 o.f6.f0.f1 o.f6.f0.f2 o.f6.f0.f3 o.f6.f0.f4 o.f6.f0.f5 o.f6.f0.f6 o.f6.f0.f7 o.f6.f0.f8 o.f6.f0.f9 o.f6.f1) true) (d : Nat) :
    ∀ j : Nat, j + d = l.length → Ev (fun k => weftlaw3_upTo.l1 k l 2 2 (j : Int)) true := by
  induction d with
  | zero => intro j hj; exact Ev.step (fun k => by rw [weftlaw3_upTo.l1, if_neg (by omega)]) (Ev.now _)
  | succ d ih =>
    intro j hj
    have hlt : j < l.length := by omega
    have hw : wrap64 ((j : Int) + 1) = ((j + 1 : Nat) : Int) := by
      have h3 : wrap64 ((j : Int) + 1) = (j : Int) + 1 := w64 (by omega) (by omega)
      rw [h3]
      omega
    have hn := ih (j + 1) (by omega)
    have hj0 : (j : Int) < (l.length : Int) := Int.ofNat_lt.2 hlt
    by_cases h1 : l[j].f0 ≥ 2
    · by_cases h2 : l[j].f0 ≤ 2
      · refine Ev.step (fun k => by rw [weftlaw3_upTo.l1, if_pos hj0, if_pos (Int.natCast_nonneg j), rd_T50_lt2 l j hlt, if_pos h1, if_pos h2, hw]) ?_
        refine Ev.bind (hp l[j] (List.getElem_mem hlt) (by omega)) ?_
        exact Ev.congr (fun k => by rw [if_pos rfl]) hn
      · exact Ev.step (fun k => by rw [weftlaw3_upTo.l1, if_pos hj0, if_pos (Int.natCast_nonneg j), rd_T50_lt2 l j hlt, if_pos h1, if_neg h2, hw]) hn
    · exact Ev.step (fun k => by rw [weftlaw3_upTo.l1, if_pos hj0, if_pos (Int.natCast_nonneg j), rd_T50_lt2 l j hlt, if_neg h1, hw]) hn
theorem upTo2 (l : List S50) (hl : l.length ≤ 140737488355328)
    (hp : ∀ o ∈ l, o.f0 = 2 → Ev (fun k => weftlaw3_plays.f k o.f0 o.f1 o.f2 o.f3 o.f4 o.f5 o.f6.f0.f0 o.f6.f0.f1 o.f6.f0.f2 o.f6.f0.f3 o.f6.f0.f4 o.f6.f0.f5 o.f6.f0.f6 o.f6.f0.f7 o.f6.f0.f8 o.f6.f0.f9 o.f6.f1) true) :
    Ev (fun k => weftlaw3_upTo.f k l 2 2) true := by
  have e : wrap64 ((2 : Int) + 1) = 2 + 1 := w64 (by omega) (by omega)
  refine Ev.congr (fun k => by rw [weftlaw3_upTo.f]) ?_
  refine Ev.step (fun k => by rw [weftlaw3_upTo.l0, if_pos (by decide), e]) ?_
  refine Ev.bind head2 ?_
  refine Ev.congr (fun k => by rw [if_pos rfl]) ?_
  exact Ev.step (fun k => by rw [weftlaw3_upTo.l0, if_neg (by decide)]; rfl) (script2 l hl hp l.length 0 (by omega))
theorem pureIp4Adjusts : Go.Proofs.Ytmjhfkjnnpnoaaa.Xip4Adjusts.Pure := by
  intro l hx
  refine Ev.rounds (g := fun k => weftlaw3_Ip4Adjusts.f k l) ?_
  refine Ev.bind (upTo2 l (by have := hx.1; omega) fun o ho h => ?_) (Ev.now _)
  have g := hx.2 o ho
  exact op2 g h
theorem ip4Adjusts_row : Go.Proofs.Ytmjhfkjnnpnoaaa.Rows.Ip4AdjustsSaid := Go.Proofs.Ytmjhfkjnnpnoaaa.Xip4Adjusts.over pureIp4Adjusts

end Go.Proofs.YtmjhfkjnnpnoaaaX
namespace Go.Proofs.Ytmjhfkjnnpnoaaa
/-- The row, under a short name, for the claim. -/
theorem ip4Adjusts_holds : Rows.Ip4AdjustsSaid := Go.Proofs.YtmjhfkjnnpnoaaaX.ip4Adjusts_row
end Go.Proofs.Ytmjhfkjnnpnoaaa
