/- Ip4BuildsBack: what Build makes of a packet, Parse and Peek read as that packet, whatever lies behind.
   Conditions: what is read is of bulk at most 1048576 (the statement's own bound). -/
import Derived.Test.YtbacmhegalncjaaQCXSmall
import Derived.Test.YtbacmhegalncjaaQCXRowIp4BuildsBack
namespace Go.Proofs.YtbacmhegalncjaaX
open Go.RowKit Go.Proofs.Ytbacmhegalncjaa.XB Go.Proofs.YtbacmhegalncjaaW.PrintWords Go.Proofs.YtbacmhegalncjaaW.PrintLast Go.Proofs.YtbacmhegalncjaaW.PrintMore
set_option linter.unusedVariables false
set_option linter.unusedSimpArgs false

theorem back_f {p : Pk} (h : p.Fine) {tail : List Int} (ht : Bytes tail) (hl : tail.length ≤ 2000000) (refused : Bool) (hr : p.err = 0 ∨ refused = true) :
    Ev (fun k => weftlaw3_back.f k p.tos p.id p.df p.mf p.off p.ttl p.proto p.src p.dst p.opts p.body tail refused) true := by
  refine Ev.bind (build_f p h) ?_
  by_cases he : ¬ (p.err = 0)
  · have hr : refused = true := by
      rcases hr with hr | hr
      · exact absurd hr he
      · exact hr
    simp only [if_neg he]
    exact Ev.congr (fun k => by rw [if_pos hr]; rfl) (Ev.now _)
  replace he : p.err = 0 := Decidable.of_not_not he
  have htl := tl_le he
  have gtl : p.tl = 20 + p.opts.length + p.body.length := rfl
  have hlen : (p.bytes p.sum).length = p.tl := Pk.bytes_len _ _
  have hb := Pk.bytes_bytes h he p.sum
  have e1 : wrap64 (20 + (p.opts.length : Int)) = ((20 + p.opts.length : Nat) : Int) := by rw [w64 (by omega) (by omega)]; omega
  have e2 : wrap64 (((20 + p.opts.length : Nat) : Int) + (p.body.length : Int)) = (p.tl : Int) := by rw [w64 (by omega) (by omega)]; omega
  have wtl := lword_f hb (i := 2) (j := 2) rfl (by omega) (by omega)
  have wt2 := wd_tl p htl.2 p.sum []
  rw [List.append_nil] at wt2
  simp only [if_pos he, if_true]
  refine Ev.congr (fun k => by rw [if_pos (by rw [hlen, e1, e2]), wtl, Option.bind_some, wt2, hlen, show ((p.tl : Int) != (p.tl : Int)) = false from by simp]) ?_
  refine Ev.step (fun k => by rw [weftlaw3_back.j0, if_neg (by decide)]) ?_
  refine Ev.bind (clone_f (by omega)) ?_
  have hbt := hb.append ht
  have hll : (p.bytes p.sum ++ tail).length ≤ 100000000 := by rw [List.length_append]; omega
  have hR := reads_own h he tail
  refine Ev.congr (fun k => by rw [if_pos (by omega)]) ?_
  refine Ev.bind (parse_ok hbt (by omega) hR) ?_
  simp only [if_true]
  refine Ev.bind (packets_own h) ?_
  refine Ev.step (fun k => by rw [Bool.not_true, weftlaw3_back.j1, if_neg (by decide)]) ?_
  refine Ev.bind (clone_f (by omega)) ?_
  refine Ev.congr (fun k => by rw [if_pos (by omega)]) ?_
  refine Ev.bind (peek_ok hbt (by omega) hR) ?_
  simp only [if_true]
  have h1 := h.lo
  have h2 := h.lb
  refine Ev.bind (heads_f 0 _ _ _ _ _ _ _ _ _ _ (by omega) _) ?_
  simp only [decide_true, if_true]
  refine Ev.bind (same_f _ _ (by omega)) ?_
  simp only [decide_true]
  exact Ev.now _
theorem pureBuildsBack : Go.Proofs.Ytbacmhegalncjaa.Xip4BuildsBack.PureUpto := by
  intro x tail hx ht hb
  obtain ⟨⟨g0, g1, _, _, g4, g5, g6, g7, g8, g9⟩, g10⟩ := hx
  have htb : Bytes tail := fun y hy => wf8 (ht.2 y hy)
  refine Ev.rounds (g := fun k => weftlaw3_Ip4BuildsBack.f k x.f0.f0 x.f0.f1 x.f0.f2 x.f0.f3 x.f0.f4 x.f0.f5 x.f0.f6 x.f0.f7 x.f0.f8 x.f0.f9 x.f1 tail) ?_
  have hl : tail.length ≤ 1048576 := by rw [sumOf_one] at hb; omega
  have hs := small_f
  refine Ev.congr (fun k => by rw [weftlaw3_Ip4BuildsBack.f, hs, Option.bind_some]) ?_
  refine Ev.bind (back_f small_fine htb (by omega) false (Or.inl small_err)) ?_
  simp only [if_true]
  have hf : (Pk.mk x.f0.f0 x.f0.f1 x.f0.f2 x.f0.f3 x.f0.f4 x.f0.f5 x.f0.f6 x.f0.f7 x.f0.f8 x.f0.f9 x.f1).Fine :=
    ⟨wf8 g0, wf16 g1, wfi64 g4, wf8 g5, wf8 g6, wf32 g7, wf32 g8, fun y hy => wf8 (g9.2 y hy), fun y hy => wf8 (g10.2 y hy), by have := g9.1; show x.f0.f9.length ≤ _; omega, by have := g10.1; show x.f1.length ≤ _; omega⟩
  refine Ev.bind (back_f hf htb (by omega) true (Or.inr rfl)) ?_
  exact Ev.now _
theorem ip4BuildsBack_row : Go.Proofs.Ytbacmhegalncjaa.Rows.Ip4BuildsBackUptoSaid := Go.Proofs.Ytbacmhegalncjaa.Xip4BuildsBack.overUpto pureBuildsBack
end Go.Proofs.YtbacmhegalncjaaX
namespace Go.Proofs.Ytbacmhegalncjaa
/-- The row, under a short name, for the claim. -/
theorem ip4BuildsBack_holds : Rows.Ip4BuildsBackUptoSaid := Go.Proofs.YtbacmhegalncjaaX.ip4BuildsBack_row
end Go.Proofs.Ytbacmhegalncjaa
