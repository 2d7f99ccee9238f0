/- Ip4ParsesBack: Build of Parse is the bytes again, but for a sum's field of 65535 for 0.
   Conditions: none; every list of bytes is spoken of. -/
import Derived.Test.YtbacmhegalncjaaQAXSmall
import Derived.Test.YtbacmhegalncjaaQAXRowIp4ParsesBack
namespace Go.Proofs.YtbacmhegalncjaaX
open Go.RowKit Go.Proofs.Ytbacmhegalncjaa.XB Go.Proofs.YtbacmhegalncjaaW.PrintWords Go.Proofs.YtbacmhegalncjaaW.PrintLast Go.Proofs.YtbacmhegalncjaaW.PrintMore
set_option linter.unusedVariables false
set_option linter.unusedSimpArgs false

theorem again_end {b c : List Int} (hb : Bytes b) (hc : Bytes c) (h1 : 20 ≤ c.length) (h2 : c.length ≤ b.length) (hw : wd c 10 = wd b 10 ∨ (wd b 10 = 65535 ∧ wd c 10 = 0)) (hl : b.length ≤ 140737488355328)
    (he : ∀ i, i < c.length → i ≠ 10 → i ≠ 11 → c.getD i 0 = b.getD i 0) (d : Nat) : ∀ j : Nat, j + d = c.length → Ev (fun k => weftlaw3_again.l0 k b c (j : Int)) true := by
  have wc := lword_f hc (i := 10) (j := 10) rfl (by omega) (by omega)
  have wb := lword_f hb (i := 10) (j := 10) rfl (by omega) (by omega)
  induction d with
  | zero =>
    intro j hj
    refine Ev.step (fun k => by rw [weftlaw3_again.l0, if_neg (by omega), wc, Option.bind_some, wb, Option.bind_some]) ?_
    by_cases e : wd c 10 = wd b 10
    · exact Ev.congr (fun k => by rw [if_pos e]) (Ev.now _)
    · rcases hw with hw | ⟨hw1, hw2⟩
      · exact absurd hw e
      · refine Ev.congr (fun k => by rw [if_neg e, Option.bind_some, if_pos hw1, Option.bind_some, hw2]; rfl) (Ev.now _)
  | succ d ih =>
    intro j hj
    have hw : wrap64 ((j : Int) + 1) = ((j + 1 : Nat) : Int) := by rw [w64 (by omega) (by omega)]; omega
    have := ih (j + 1) (by omega)
    by_cases e : c.getD j 0 = b.getD j 0
    · exact Ev.step (fun k => by rw [weftlaw3_again.l0, if_pos (by omega), if_pos (by omega), if_pos (by omega), rd_nat, rd_nat, if_pos e, hw]) this
    · have hj2 : j = 10 ∨ j = 11 := by
        by_cases h10 : j = 10
        · exact Or.inl h10
        · by_cases h11 : j = 11
          · exact Or.inr h11
          · exact absurd (he j (by omega) h10 h11) e
      exact Ev.step (fun k => by rw [weftlaw3_again.l0, if_pos (by omega), if_pos (by omega), if_pos (by omega), rd_nat, rd_nat, if_neg e, if_neg (by omega), if_neg (by omega), hw]) this
theorem again_f {b : List Int} (hb : Bytes b) (hl : b.length ≤ 140737488351232) (refused : Bool) (hr : bad true b = 0 ∨ refused = true) : Ev (fun k => weftlaw3_again.f k b refused) true := by
  refine Ev.bind (parse_f hb (by omega)) ?_
  by_cases h : ¬ (bad true b = 0)
  · have hr : refused = true := by
      rcases hr with hr | hr
      · exact absurd hr h
      · exact hr
    simp only [if_neg h, hd0]
    refine Ev.congr (fun k => by rw [if_pos hr]) ?_
    refine Ev.bind (packets_f 0 0 false false 0 0 0 0 0 [] [] (by simp) (by simp)) ?_
    exact Ev.now _
  replace h : bad true b = 0 := Decidable.of_not_not h
  have H := holds hb hl h
  have h7 := (badLen_zero (bad_zero h).1).2.2.2.2.2 rfl
  have hsr := Pk.sum_range H.fine H.err
  have htl := tl_le H.err
  have hTL := H.tl
  have hw10 := wd_range hb 10
  simp only [if_pos h, hdF, if_true]
  refine Ev.bind (build_ok H.fine H.err) ?_
  have hlen : ((ofB b).bytes (ofB b).sum).length = (ofB b).tl := Pk.bytes_len _ _
  have wtl := lword_f hb (i := 2) (j := 2) rfl (by omega) (by omega)
  refine Ev.congr (fun k => by rw [if_pos rfl, if_neg (by rw [hlen]; omega), if_neg (by rw [hlen]; omega), wtl, Option.bind_some, hlen, hTL, show (wd b 2 != wd b 2) = false from by simp]) ?_
  refine Ev.step (fun k => by rw [weftlaw3_again.j0, if_neg (by decide)]) ?_
  have hcb := Pk.bytes_bytes H.fine H.err (ofB b).sum
  refine again_end hb hcb (by omega) (by omega) ?_ (by omega) ?_ ((ofB b).bytes (ofB b).sum).length 0 (by omega)
  · have e := wd_sum (ofB b) hsr.1 (by omega) []
    rw [List.append_nil] at e
    rw [e]
    rcases right_sum H.fine H.err hw10.1 hw10.2 H.sum with h1 | h1
    · exact Or.inl h1.symm
    · exact Or.inr h1
  · intro i hi h10 h11
    have e : b.getD i 0 = ((ofB b).bytes (wd b 10) ++ b.drop (wd b 2).toNat).getD i 0 := by rw [← H.bytes]
    rw [e, bytes_getD (ofB b) (ofB b).sum (wd b 10) i h10 h11]
    simp only [List.getD_eq_getElem?_getD]
    rw [List.getElem?_append_left (by rw [Pk.bytes_len]; omega)]
theorem pureParsesBack : Go.Proofs.Ytbacmhegalncjaa.Xip4ParsesBack.Pure := by
  intro b hb
  have hbb : Bytes b := fun x hx => wf8 (hb.2 x hx)
  have hl := hb.1
  refine Ev.rounds (g := fun k => weftlaw3_Ip4ParsesBack.f k b) ?_
  have hs := small_f
  refine Ev.congr (fun k => by rw [weftlaw3_Ip4ParsesBack.f, hs, Option.bind_some]) ?_
  refine Ev.bind (build_ok small_fine small_err) ?_
  simp only [if_true]
  have hr := reads_own' small_fine small_err
  refine Ev.bind (again_f (Pk.bytes_bytes small_fine small_err _) (by rw [Pk.bytes_len]; have := tl_le small_err; omega) false (Or.inl hr.whole)) ?_
  simp only [if_true]
  refine Ev.bind (again_f hbb (by omega) true (Or.inr rfl)) ?_
  exact Ev.now _
theorem ip4ParsesBack_row : Go.Proofs.Ytbacmhegalncjaa.Rows.Ip4ParsesBackSaid := Go.Proofs.Ytbacmhegalncjaa.Xip4ParsesBack.over pureParsesBack
end Go.Proofs.YtbacmhegalncjaaX
namespace Go.Proofs.Ytbacmhegalncjaa
/-- The row, under a short name, for the claim. -/
theorem ip4ParsesBack_holds : Rows.Ip4ParsesBackSaid := Go.Proofs.YtbacmhegalncjaaX.ip4ParsesBack_row
end Go.Proofs.Ytbacmhegalncjaa
