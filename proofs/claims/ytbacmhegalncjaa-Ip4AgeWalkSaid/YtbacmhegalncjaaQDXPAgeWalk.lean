/- Ip4AgeWalk: a packet's way through as many routers as its time to live lets: only the time to live and the sum change, and the sum is the one built anew.
   Conditions: none; every packet and every number is spoken of. -/
import Derived.Test.YtbacmhegalncjaaQDXSmall
import Derived.Test.YtbacmhegalncjaaQDXRowIp4AgeWalk
namespace Go.Proofs.YtbacmhegalncjaaX
open Go.RowKit Go.Proofs.Ytbacmhegalncjaa.XB Go.Proofs.YtbacmhegalncjaaW.PrintWords Go.Proofs.YtbacmhegalncjaaW.PrintLast Go.Proofs.YtbacmhegalncjaaW.PrintMore
set_option linter.unusedVariables false
set_option linter.unusedSimpArgs false

theorem walk_loop (n : Int) (hn : 0 ≤ n ∧ n ≤ 300) (d : Nat) : ∀ (p : Pk), p.Fine → p.err = 0 → ∀ i : Int, 0 ≤ i → i + d = n →
    Ev (fun k => weftlaw3_walk.l0 k n (p.bytes p.sum) i p.tos p.id p.df p.mf p.off p.ttl p.proto p.src p.dst p.opts p.body) true := by
  induction d with
  | zero =>
    intro p h he i hi hd
    exact Ev.step (fun k => by rw [weftlaw3_walk.l0, if_neg (by omega)]) (Ev.now _)
  | succ d ih =>
    intro p h he i hi hd
    have htl := tl_le he
    have hlen : (p.bytes p.sum).length = p.tl := Pk.bytes_len _ _
    have hb := Pk.bytes_bytes h he p.sum
    have hbt : Bytes (p.bytes p.sum ++ [i % 256]) := hb.append (Bytes.cons (by omega) Bytes.nil)
    have hR := reads_own h he [i % 256]
    refine Ev.step (fun k => by rw [weftlaw3_walk.l0, if_pos (by omega)]) ?_
    refine Ev.bind (clone_f (by omega)) ?_
    refine Ev.congr (fun k => by rw [if_pos (by omega)]) ?_
    refine Ev.bind (age_ok hbt (by rw [List.length_append, List.length_singleton]; omega) hR) ?_
    by_cases ht : p.ttl ≤ 1
    · simp only [if_pos ht]
      exact Ev.congr (fun k => by rw [if_pos (by omega), if_pos True.intro]; rfl) (Ev.now _)
    simp only [if_neg ht]
    have htt := h.ttl
    have ho : (older p).Fine := older_fine h (by omega)
    have hoe : (older p).err = 0 := he
    have e : (p.ttl - 1) % 256 = (older p).ttl := by
      show (p.ttl - 1) % 256 = p.ttl - 1
      omega
    refine Ev.congr (fun k => by rw [if_neg (by omega), e]) ?_
    refine Ev.bind (build_ok ho hoe) ?_
    have hob := Pk.bytes_bytes ho hoe (older p).sum
    have holen : ((older p).bytes (older p).sum).length = p.tl := Pk.bytes_len _ _
    refine Ev.bind (parse_ok hob (by omega) (reads_own' ho hoe)) ?_
    simp only [if_true]
    refine Ev.bind (same_f _ _ (by omega)) ?_
    simp only [decide_true, if_true]
    refine Ev.bind (packets_own ho) ?_
    simp only [if_true]
    have hw : wrap64 (i + 1) = i + 1 := w64 (by omega) (by omega)
    rw [hw]
    exact ih (older p) ho hoe (i + 1) (by omega) (by omega)
theorem walk_f {p : Pk} (h : p.Fine) {n : Int} (hn : 0 ≤ n ∧ n ≤ 300) : Ev (fun k => weftlaw3_walk.f k p.tos p.id p.df p.mf p.off p.ttl p.proto p.src p.dst p.opts p.body n) true := by
  refine Ev.bind (build_f p h) ?_
  by_cases he : ¬ (p.err = 0)
  · simp only [if_neg he]
    exact Ev.now _
  replace he : p.err = 0 := Decidable.of_not_not he
  simp only [if_pos he, if_true]
  exact walk_loop n hn n.toNat p h he 0 (by omega) (by omega)
theorem walk_end {p : Pk} (h : p.Fine) {n : Int} (hn : 0 ≤ n ∧ n ≤ 300) : Ev (fun k => weftlaw3_Ip4AgeWalk.j1 k n p.tos p.id p.df p.mf p.off p.ttl p.proto p.src p.dst p.opts p.body) true := by
  have hs := small_f
  refine Ev.step (fun k => by rw [weftlaw3_Ip4AgeWalk.j1, hs, Option.bind_some]) ?_
  refine Ev.bind (build_ok small_fine small_err) ?_
  refine Ev.congr (fun k => by rw [if_pos rfl, Option.bind_some]) ?_
  refine Ev.bind (walk_f small_fine (by omega)) ?_
  simp only [if_true]
  refine Ev.bind (walk_f h hn) ?_
  exact Ev.now _
theorem pureAgeWalk : Go.Proofs.Ytbacmhegalncjaa.Xip4AgeWalk.Pure := by
  intro x n hx hn
  obtain ⟨⟨g0, g1, _, _, g4, g5, g6, g7, g8, g9⟩, g10⟩ := hx
  refine Ev.rounds (g := fun k => weftlaw3_Ip4AgeWalk.f k x.f0.f0 x.f0.f1 x.f0.f2 x.f0.f3 x.f0.f4 x.f0.f5 x.f0.f6 x.f0.f7 x.f0.f8 x.f0.f9 x.f1 n) ?_
  have hf : (Pk.mk x.f0.f0 x.f0.f1 x.f0.f2 x.f0.f3 x.f0.f4 x.f0.f5 x.f0.f6 x.f0.f7 x.f0.f8 x.f0.f9 x.f1).Fine :=
    ⟨wf8 g0, wf16 g1, wfi64 g4, wf8 g5, wf8 g6, wf32 g7, wf32 g8, fun y hy => wf8 (g9.2 y hy), fun y hy => wf8 (g10.2 y hy), by have := g9.1; show x.f0.f9.length ≤ _; omega, by have := g10.1; show x.f1.length ≤ _; omega⟩
  by_cases h : n < 0
  · exact Ev.congr (fun k => by rw [weftlaw3_Ip4AgeWalk.f, if_pos h]) (Ev.step (fun k => by rw [weftlaw3_Ip4AgeWalk.j0, if_pos rfl]) (walk_end hf (by omega)))
  · by_cases h2 : n > 300
    · exact Ev.congr (fun k => by rw [weftlaw3_Ip4AgeWalk.f, if_neg h]) (Ev.step (fun k => by rw [weftlaw3_Ip4AgeWalk.j0, if_pos (decide_eq_true h2)]) (walk_end hf (by omega)))
    · exact Ev.congr (fun k => by rw [weftlaw3_Ip4AgeWalk.f, if_neg h]) (Ev.step (fun k => by rw [weftlaw3_Ip4AgeWalk.j0, if_neg (by simp; omega)]) (walk_end hf (by omega)))
theorem ip4AgeWalk_row : Go.Proofs.Ytbacmhegalncjaa.Rows.Ip4AgeWalkSaid := Go.Proofs.Ytbacmhegalncjaa.Xip4AgeWalk.over pureAgeWalk
end Go.Proofs.YtbacmhegalncjaaX
namespace Go.Proofs.Ytbacmhegalncjaa
/-- The row, under a short name, for the claim. -/
theorem ip4AgeWalk_holds : Rows.Ip4AgeWalkSaid := Go.Proofs.YtbacmhegalncjaaX.ip4AgeWalk_row
end Go.Proofs.Ytbacmhegalncjaa
