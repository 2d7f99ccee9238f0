/- Ip4Apart: a packet that was read is not changed by what becomes of the bytes, nor the bytes by what becomes of it.
   Conditions: none; every packet is spoken of. -/
import Derived.Test.YtbacmhegalncjaaQIXRefB
import Derived.Test.YtbacmhegalncjaaQIXSmall
import Derived.Test.YtbacmhegalncjaaQIXPx2
import Derived.Test.YtbacmhegalncjaaQIXRowIp4Apart
namespace Go.Proofs.YtbacmhegalncjaaX
open Go.RowKit Go.Proofs.Ytbacmhegalncjaa.XB Go.Proofs.Ytbacmhegalncjaa.XP Go.Proofs.YtbacmhegalncjaaW.PrintWords Go.Proofs.YtbacmhegalncjaaW.PrintLast Go.Proofs.YtbacmhegalncjaaW.PrintMore
set_option linter.unusedVariables false
set_option linter.unusedSimpArgs false

theorem plays3 {b : List Int} (hb : Bytes b) (hl : b.length ≤ 140737488351232) (ps : List (List Int)) (x y z t i : Int) (df mf : Bool) (off ttl proto src dst : Int) (op bo : List Int) :
    Ev (fun k => weftlaw3_plays.f k 3 b ps x y z t i df mf off ttl proto src dst op bo) true := by
  have h1 := parse_f hb (by omega)
  have h2 := parse_r hb (by omega)
  refine Ev.congr (fun k => by rw [weftlaw3_plays.f, if_neg (by decide)]) ?_
  refine Ev.step (fun k => by rw [weftlaw3_plays.j0, show ((3 : Int) == 2) = false from rfl, if_neg (by decide), if_pos rfl]) ?_
  refine Ev.bind h1 ?_
  refine Ev.bind h2 ?_
  by_cases h : bad true b = 0
  · simp only [if_pos h, hdF]
    have l1 : (optsOf b).length ≤ 140737488355328 := by unfold optsOf; rw [List.length_drop, List.length_take]; omega
    have l2 : (bodyOf b).length ≤ 140737488355328 := by unfold bodyOf; rw [List.length_drop, List.length_take]; omega
    refine Ev.congr (fun k => by rw [if_pos True.intro]) ?_
    exact Ev.bind (packets_f _ _ _ _ _ _ _ _ _ _ _ l1 l2) (Ev.now _)
  · simp only [if_neg h, hd0]
    refine Ev.congr (fun k => by rw [if_pos True.intro]) ?_
    exact Ev.bind (packets_f _ _ _ _ _ _ _ _ _ _ _ (by simp) (by simp)) (Ev.now _)
theorem head3 : Ev (fun k => weftlaw3_head.f k 3) true := by
  have hf := small3_fine
  have hb := build_r (p := ⟨0, 7216, true, false, 0, 64, 6, 167838211, 167904004, [], [1, 2, 3]⟩) hf
  have he : (⟨0, 7216, true, false, 0, 64, 6, 167838211, 167904004, [], [1, 2, 3]⟩ : Pk).err = 0 := small3_err
  rw [if_pos he] at hb
  refine Ev.congr (fun k => by rw [weftlaw3_head.f, Option.bind_some]) ?_
  refine Ev.bind hb ?_
  refine Ev.congr (fun k => by rw [if_neg (by decide), if_neg (by decide), if_neg (by decide), if_neg (by decide)]) ?_
  exact Ev.bind (plays3 (Pk.bytes_bytes hf he _) (by rw [Pk.bytes_len]; have := tl_le he; omega) _ _ _ _ _ _ _ _ _ _ _ _ _ _ _) (Ev.now _)
theorem plays5 {p : Pk} (h : p.Fine) (b : List Int) (ps : List (List Int)) (x y z : Int) :
    Ev (fun k => weftlaw3_plays.f k 5 b ps x y z p.tos p.id p.df p.mf p.off p.ttl p.proto p.src p.dst p.opts p.body) true := by
  have h1 := build_f p h
  have h2 := build_r h
  refine Ev.congr (fun k => by rw [weftlaw3_plays.f, if_neg (by decide)]) ?_
  refine Ev.step (fun k => by rw [weftlaw3_plays.j0, show ((5 : Int) == 2) = false from rfl, if_neg (by decide), if_neg (by decide), if_neg (by decide), if_pos rfl]) ?_
  refine Ev.bind h1 ?_
  refine Ev.bind h2 ?_
  by_cases he : p.err = 0
  · have htl := tl_le he
    simp only [if_pos he]
    refine Ev.congr (fun k => by rw [if_pos True.intro]) ?_
    refine Ev.bind (same_f _ _ (by rw [Pk.bytes_len]; omega)) ?_
    simp only [decide_true]
    exact Ev.now _
  · simp only [if_neg he]
    refine Ev.congr (fun k => by rw [if_pos True.intro]) ?_
    refine Ev.bind (same_f _ _ (by simp)) ?_
    simp only [decide_true]
    exact Ev.now _
theorem head5 : Ev (fun k => weftlaw3_head.f k 5) true := by
  have hb := build_r (p := ⟨0, 7216, true, false, 0, 64, 6, 167838211, 167904004, [], [1, 2, 3]⟩) small3_fine
  refine Ev.congr (fun k => by rw [weftlaw3_head.f, Option.bind_some]) ?_
  refine Ev.bind hb ?_
  refine Ev.congr (fun k => by rw [if_neg (by decide), if_neg (by decide), if_pos rfl]) ?_
  exact Ev.bind (plays5 (p := ⟨0, 7216, true, false, 0, 64, 6, 167838211, 167904004, [], [1, 2, 3]⟩) small3_fine _ _ _ _ _) (Ev.now _)
theorem up1 {i : Nat} (h : i ≤ 1000000000000000000) : wrap64 ((i : Int) + 1) = ((i + 1 : Nat) : Int) := one_up h
theorem wipe0 {p : Pk} (x3 x6 : List Int) (x8 : Int) {r : Bool} (hk : Ev (fun k => if x8 = 0 then (weftlaw3_packets.f k p.tos p.id p.df p.mf p.off p.ttl p.proto p.src p.dst p.opts p.body p.tos p.id p.df p.mf p.off p.ttl p.proto p.src p.dst p.opts p.body).bind fun t => weftlaw3_Ip4Apart.j2 k x3 x6 (!t) p.tos p.id p.df p.mf p.off p.ttl p.proto p.src p.dst p.opts p.body p.tos p.id p.df p.mf p.off p.ttl p.proto p.src p.dst p.opts p.body else weftlaw3_Ip4Apart.j2 k x3 x6 true p.tos p.id p.df p.mf p.off p.ttl p.proto p.src p.dst p.opts p.body p.tos p.id p.df p.mf p.off p.ttl p.proto p.src p.dst p.opts p.body) r) (d : Nat) :
    ∀ (i : Nat) (c : List Int), i + d = c.length → c.length ≤ 1000000 → Ev (fun k => weftlaw3_Ip4Apart.l0 k x3 c x6 x8 (i : Int) p.tos p.id p.df p.mf p.off p.ttl p.proto p.src p.dst p.opts p.body p.tos p.id p.df p.mf p.off p.ttl p.proto p.src p.dst p.opts p.body) r := by
  induction d with
  | zero => intro i c hi hc; exact Ev.step (fun k => by rw [weftlaw3_Ip4Apart.l0, if_neg (by omega)]) hk
  | succ d ih =>
    intro i c hi hc
    refine Ev.step (fun k => by rw [weftlaw3_Ip4Apart.l0, if_pos (by omega), if_pos (by omega), up1 (by omega)]) ?_
    exact ih (i + 1) _ (by rw [List.length_set]; omega) (by rw [List.length_set]; exact hc)
theorem wipe1 {p : Pk} (x3 x6 : List Int) (x11 : Int) {r : Bool} (hk : Ev (fun k => if x11 = 0 then (weftlaw3_packets.f k p.tos p.id p.df p.mf p.off p.ttl p.proto p.src p.dst p.opts p.body p.tos p.id p.df p.mf p.off p.ttl p.proto p.src p.dst p.opts p.body).bind fun t => if t = true then (weftlaw3_same.f k x3 x6).bind fun t => some t else some false else some false) r) (d : Nat) :
    ∀ (i : Nat) (c : List Int), i + d = c.length → c.length ≤ 1000000 → Ev (fun k => weftlaw3_Ip4Apart.l1 k x3 x6 c x11 (i : Int) p.tos p.id p.df p.mf p.off p.ttl p.proto p.src p.dst p.opts p.body p.tos p.id p.df p.mf p.off p.ttl p.proto p.src p.dst p.opts p.body) r := by
  induction d with
  | zero => intro i c hi hc; exact Ev.step (fun k => by rw [weftlaw3_Ip4Apart.l1, if_neg (by omega)]) hk
  | succ d ih =>
    intro i c hi hc
    refine Ev.step (fun k => by rw [weftlaw3_Ip4Apart.l1, if_pos (by omega), if_pos (by omega), up1 (by omega)]) ?_
    exact ih (i + 1) _ (by rw [List.length_set]; omega) (by rw [List.length_set]; exact hc)
theorem apart_law {p : Pk} (h : p.Fine) : Ev (fun k => weftlaw3_Ip4Apart.j0 k false p.tos p.id p.df p.mf p.off p.ttl p.proto p.src p.dst p.opts p.body) true := by
  refine Ev.step (fun k => by rw [weftlaw3_Ip4Apart.j0, if_neg (by decide)]) ?_
  refine Ev.bind (build_f p h) ?_
  by_cases he : ¬ (p.err = 0)
  · simp only [if_neg he]
    exact Ev.now _
  replace he : p.err = 0 := Decidable.of_not_not he
  have htl := tl_le he
  have hlen : (p.bytes p.sum).length = p.tl := Pk.bytes_len _ _
  have hb := Pk.bytes_bytes h he p.sum
  simp only [if_pos he, if_true]
  refine Ev.bind (clone_f (by omega)) ?_
  refine Ev.bind (clone_f (by omega)) ?_
  refine Ev.bind (parse_ok hb (by omega) (reads_own' h he)) ?_
  have hend : Ev (fun k => weftlaw3_Ip4Apart.j2 k (p.bytes p.sum) (p.bytes p.sum) false p.tos p.id p.df p.mf p.off p.ttl p.proto p.src p.dst p.opts p.body p.tos p.id p.df p.mf p.off p.ttl p.proto p.src p.dst p.opts p.body) true := by
    refine Ev.step (fun k => by rw [weftlaw3_Ip4Apart.j2, if_neg (by decide)]) ?_
    refine Ev.bind (build_ok h he) ?_
    refine wipe1 (p.bytes p.sum) (p.bytes p.sum) 0 ?_ (p.bytes p.sum).length 0 (p.bytes p.sum) (Nat.zero_add _) (by omega)
    refine Ev.congr (fun k => by rw [if_pos rfl]) ?_
    refine Ev.bind (packets_own h) ?_
    simp only [if_true]
    refine Ev.bind (same_f _ _ (by omega)) ?_
    simp only [decide_true]
    exact Ev.now _
  refine wipe0 (p.bytes p.sum) (p.bytes p.sum) 0 ?_ (p.bytes p.sum).length 0 (p.bytes p.sum) (Nat.zero_add _) (by omega)
  refine Ev.congr (fun k => by rw [if_pos rfl]) ?_
  refine Ev.bind (packets_own h) ?_
  simp only [Bool.not_true]
  exact hend
theorem pureApart : Go.Proofs.Ytbacmhegalncjaa.Xip4Apart.Pure := by
  intro x hx
  obtain ⟨⟨g0, g1, _, _, g4, g5, g6, g7, g8, g9⟩, g10⟩ := hx
  refine Ev.rounds (g := fun k => weftlaw3_Ip4Apart.f k x.f0.f0 x.f0.f1 x.f0.f2 x.f0.f3 x.f0.f4 x.f0.f5 x.f0.f6 x.f0.f7 x.f0.f8 x.f0.f9 x.f1) ?_
  have hf : (Pk.mk x.f0.f0 x.f0.f1 x.f0.f2 x.f0.f3 x.f0.f4 x.f0.f5 x.f0.f6 x.f0.f7 x.f0.f8 x.f0.f9 x.f1).Fine :=
    ⟨wf8 g0, wf16 g1, wfi64 g4, wf8 g5, wf8 g6, wf32 g7, wf32 g8, fun y hy => wf8 (g9.2 y hy), fun y hy => wf8 (g10.2 y hy), by have := g9.1; show x.f0.f9.length ≤ _; omega, by have := g10.1; show x.f1.length ≤ _; omega⟩
  refine Ev.bind head5 ?_
  simp only [if_true]
  refine Ev.bind head3 ?_
  simp only [Bool.not_true]
  exact apart_law hf
theorem ip4Apart_row : Go.Proofs.Ytbacmhegalncjaa.Rows.Ip4ApartSaid := Go.Proofs.Ytbacmhegalncjaa.Xip4Apart.over pureApart
end Go.Proofs.YtbacmhegalncjaaX
namespace Go.Proofs.Ytbacmhegalncjaa
/-- The row, under a short name, for the claim. -/
theorem ip4Apart_holds : Rows.Ip4ApartSaid := Go.Proofs.YtbacmhegalncjaaX.ip4Apart_row
end Go.Proofs.Ytbacmhegalncjaa
