/- Ip4Builds: every step of that kind, in every script, is answered as the document says.
   Conditions: none; every script is spoken of. -/
import Derived.Test.YtmjhfkjnnpnoaaaQEXRefB
import Derived.Test.YtmjhfkjnnpnoaaaQEXV5x1
import Derived.Test.YtmjhfkjnnpnoaaaQEXRowIp4Builds
namespace Go.Proofs.YtmjhfkjnnpnoaaaX
open Go.RowKit Go.Proofs.Ytmjhfkjnnpnoaaa.XA Go.Proofs.Ytmjhfkjnnpnoaaa.XV5 Go.Proofs.YtmjhfkjnnpnoaaaW.PrintWords Go.Proofs.YtmjhfkjnnpnoaaaW.PrintLast Go.Proofs.YtmjhfkjnnpnoaaaW.PrintMore
set_option linter.unusedVariables false
set_option linter.unusedSimpArgs false

theorem plays5 {p : Pk} (h : p.Fine) (b : List Int) (ps : List (List Int)) (x y z : Int) :
    Ev (fun k => weftlaw3_plays.f k 5 b ps x y z p.tos p.id p.df p.mf p.off p.ttl p.proto p.src p.dst p.opts p.body) true := by
  have h1 := build_f p h
  have h2 := build_r h
  refine Ev.congr (fun k => by rw [weftlaw3_plays.f, if_neg (by decide)]) ?_
  refine Ev.step (fun k => by rw [weftlaw3_plays.j0, show ((5 : Int) == 2) = false from rfl, if_neg (by decide), if_neg (by decide), if_neg (by decide), if_pos rfl]) ?_
  refine Ev.bind h1 ?_
  refine Ev.bind h2 ?_
  by_cases he : p.err = 0
  · have htl := tl_le he
    simp only [if_pos he]
    refine Ev.congr (fun k => by rw [if_pos True.intro]) ?_
    refine Ev.bind (same_f _ _ (by rw [Pk.bytes_len]; omega)) ?_
    simp only [decide_true]
    exact Ev.now _
  · simp only [if_neg he]
    refine Ev.congr (fun k => by rw [if_pos True.intro]) ?_
    refine Ev.bind (same_f _ _ (by simp)) ?_
    simp only [decide_true]
    exact Ev.now _
theorem head5 : Ev (fun k => weftlaw3_head.f k 5) true := by
  have hb := build_r (p := ⟨0, 7216, true, false, 0, 64, 6, 167838211, 167904004, [], [1, 2, 3]⟩) small3_fine
  refine Ev.congr (fun k => by rw [weftlaw3_head.f, Option.bind_some]) ?_
  refine Ev.bind hb ?_
  refine Ev.congr (fun k => by rw [if_neg (by decide), if_neg (by decide), if_pos rfl]) ?_
  exact Ev.bind (plays5 (p := ⟨0, 7216, true, false, 0, 64, 6, 167838211, 167904004, [], [1, 2, 3]⟩) small3_fine _ _ _ _ _) (Ev.now _)
theorem op5 {o : S50} (g : Go.Proofs.Ytmjhfkjnnpnoaaa.Xip4Builds.G50 o) (h : o.f0 = 5) : Ev (fun k => weftlaw3_plays.f k o.f0 o.f1 o.f2 o.f3 o.f4 o.f5 o.f6.f0.f0 o.f6.f0.f1 o.f6.f0.f2 o.f6.f0.f3 o.f6.f0.f4 o.f6.f0.f5 o.f6.f0.f6 o.f6.f0.f7 o.f6.f0.f8 o.f6.f0.f9 o.f6.f1) true := by
  rw [h]
  obtain ⟨⟨g0, g1, _, _, g4, g5, g6, g7, g8, g9⟩, g10⟩ := g.2.2.2.2.2.2
  exact plays5 (p := ⟨o.f6.f0.f0, o.f6.f0.f1, o.f6.f0.f2, o.f6.f0.f3, o.f6.f0.f4, o.f6.f0.f5, o.f6.f0.f6, o.f6.f0.f7, o.f6.f0.f8, o.f6.f0.f9, o.f6.f1⟩)
    ⟨wf8 g0, wf16 g1, wfi64 g4, wf8 g5, wf8 g6, wf32 g7, wf32 g8, fun y hy => wf8 (g9.2 y hy), fun y hy => wf8 (g10.2 y hy), by have := g9.1; show o.f6.f0.f9.length ≤ _; omega, by have := g10.1; show o.f6.f1.length ≤ _; omega⟩ _ _ _ _ _

theorem rd_T50_lt5 (l : List S50) (i : Nat) (h : i < l.length) : rd_T50 l (i : Int) = l[i] := by simp [rd_T50, List.getD_eq_getElem?_getD, h]
theorem script5 (l : List S50) (hl : l.length ≤ 140737488355328)
    (hp : ∀ o ∈ l, o.f0 = 5 → Ev (fun k => weftlaw3_plays.f k o.f0 o.f1 o.f2 o.f3 o.f4 o.f5 o.f6.f0.f0 o.f6.f0.f1 o.f6.f0.f2 o.f6.f0.f3 o.f6.f0.f4 o.f6.f0.f5 o.f6.f0.f6 o.f6.f0.f7 o.f6.f0.f8 o.f6.f0.f9 o.f6.f1) true) (d : Nat) :
    ∀ j : Nat, j + d = l.length → Ev (fun k => weftlaw3_upTo.l1 k l 5 5 (j : Int)) true := by
  induction d with
  | zero => intro j hj; exact Ev.step (fun k => by rw [weftlaw3_upTo.l1, if_neg (by omega)]) (Ev.now _)
  | succ d ih =>
    intro j hj
    have hlt : j < l.length := by omega
    have hw : wrap64 ((j : Int) + 1) = ((j + 1 : Nat) : Int) := by
      have h3 : wrap64 ((j : Int) + 1) = (j : Int) + 1 := w64 (by omega) (by omega)
      rw [h3]
      omega
    have hn := ih (j + 1) (by omega)
    have hj0 : (j : Int) < (l.length : Int) := Int.ofNat_lt.2 hlt
    by_cases h1 : l[j].f0 ≥ 5
    · by_cases h2 : l[j].f0 ≤ 5
      · refine Ev.step (fun k => by rw [weftlaw3_upTo.l1, if_pos hj0, if_pos (Int.natCast_nonneg j), rd_T50_lt5 l j hlt, if_pos h1, if_pos h2, hw]) ?_
        refine Ev.bind (hp l[j] (List.getElem_mem hlt) (by omega)) ?_
        exact Ev.congr (fun k => by rw [if_pos rfl]) hn
      · exact Ev.step (fun k => by rw [weftlaw3_upTo.l1, if_pos hj0, if_pos (Int.natCast_nonneg j), rd_T50_lt5 l j hlt, if_pos h1, if_neg h2, hw]) hn
    · exact Ev.step (fun k => by rw [weftlaw3_upTo.l1, if_pos hj0, if_pos (Int.natCast_nonneg j), rd_T50_lt5 l j hlt, if_neg h1, hw]) hn
theorem upTo5 (l : List S50) (hl : l.length ≤ 140737488355328)
    (hp : ∀ o ∈ l, o.f0 = 5 → Ev (fun k => weftlaw3_plays.f k o.f0 o.f1 o.f2 o.f3 o.f4 o.f5 o.f6.f0.f0 o.f6.f0.f1 o.f6.f0.f2 o.f6.f0.f3 o.f6.f0.f4 o.f6.f0.f5 o.f6.f0.f6 o.f6.f0.f7 o.f6.f0.f8 o.f6.f0.f9 o.f6.f1) true) :
    Ev (fun k => weftlaw3_upTo.f k l 5 5) true := by
  have e : wrap64 ((5 : Int) + 1) = 5 + 1 := w64 (by omega) (by omega)
  refine Ev.congr (fun k => by rw [weftlaw3_upTo.f]) ?_
  refine Ev.step (fun k => by rw [weftlaw3_upTo.l0, if_pos (by decide), e]) ?_
  refine Ev.bind head5 ?_
  refine Ev.congr (fun k => by rw [if_pos rfl]) ?_
  exact Ev.step (fun k => by rw [weftlaw3_upTo.l0, if_neg (by decide)]; rfl) (script5 l hl hp l.length 0 (by omega))
theorem pureIp4Builds : Go.Proofs.Ytmjhfkjnnpnoaaa.Xip4Builds.Pure := by
  intro l hx
  refine Ev.rounds (g := fun k => weftlaw3_Ip4Builds.f k l) ?_
  refine Ev.bind (upTo5 l (by have := hx.1; omega) fun o ho h => ?_) (Ev.now _)
  have g := hx.2 o ho
  exact op5 g h
theorem ip4Builds_row : Go.Proofs.Ytmjhfkjnnpnoaaa.Rows.Ip4BuildsSaid := Go.Proofs.Ytmjhfkjnnpnoaaa.Xip4Builds.over pureIp4Builds

end Go.Proofs.YtmjhfkjnnpnoaaaX
namespace Go.Proofs.Ytmjhfkjnnpnoaaa
/-- The row, under a short name, for the claim. -/
theorem ip4Builds_holds : Rows.Ip4BuildsSaid := Go.Proofs.YtmjhfkjnnpnoaaaX.ip4Builds_row
end Go.Proofs.Ytmjhfkjnnpnoaaa
