/- Ip4Sums: every step of that kind, in every script, is answered as the document says.
   Conditions: none but that the script is no larger than the statement's bulk; every script is spoken of. -/
import Derived.Test.YtmjhfkjnnpnoaaaQDXRefB
import Derived.Test.YtmjhfkjnnpnoaaaQDXV1x1
import Derived.Test.YtmjhfkjnnpnoaaaQDXRowIp4Sums
namespace Go.Proofs.YtmjhfkjnnpnoaaaX
open Go.RowKit Go.Proofs.Ytmjhfkjnnpnoaaa.XA Go.Proofs.Ytmjhfkjnnpnoaaa.XV1 Go.Proofs.YtmjhfkjnnpnoaaaW.PrintWords Go.Proofs.YtmjhfkjnnpnoaaaW.PrintLast Go.Proofs.YtmjhfkjnnpnoaaaW.PrintMore
set_option linter.unusedVariables false
set_option linter.unusedSimpArgs false

theorem plays1 {ps : List (List Int)} (hp : ∀ p ∈ ps, Bytes p) (hl : ps.length ≤ 140737488351232) (hf : ps.flatten.length ≤ 2000000) (b : List Int) (x y z t i : Int) (df mf : Bool) (off ttl proto src dst : Int) (op bo : List Int) :
    Ev (fun k => weftlaw3_plays.f k 1 b ps x y z t i df mf off ttl proto src dst op bo) true := by
  have hb : Bytes ps.flatten := fun y hy => by
    obtain ⟨p, h1, h2⟩ := List.mem_flatten.1 hy
    exact hp p h1 y h2
  refine Ev.congr (fun k => by rw [weftlaw3_plays.f, if_pos rfl]) ?_
  refine Ev.step (fun k => by rw [weftlaw3_plays.j0, show ((1 : Int) == 1) = true from rfl, if_pos rfl]) ?_
  have : Ev (fun k => Go.Proofs.Ytmjhfkjnnpnoaaa.XV1.weftlaw3_numbers.f k 1 b ps x y z t i df mf off ttl proto src dst op bo) true := by
    refine Ev.congr (fun k => by rw [Go.Proofs.Ytmjhfkjnnpnoaaa.XV1.weftlaw3_numbers.f, if_pos rfl]) ?_
    refine Ev.bind (sum_f hp (by omega) (by omega)) ?_
    refine Ev.bind (join_f (by omega) (by omega)) ?_
    refine Ev.bind (sum_r1 hb (by omega)) ?_
    exact Ev.congr (fun k => by rw [beq_self_eq_true]) (Ev.now _)
  exact Ev.bind this (Ev.now _)
theorem head1 : Ev (fun k => weftlaw3_head.f k 1) true := by
  have hb := build_r (p := ⟨0, 7216, true, false, 0, 64, 6, 167838211, 167904004, [], [1, 2, 3]⟩) small3_fine
  refine Ev.congr (fun k => by rw [weftlaw3_head.f]) ?_
  refine Ev.bind hb ?_
  refine Ev.congr (fun k => by rw [if_pos rfl]) ?_
  exact Ev.bind (plays1 (by simp [Bytes]) (by simp) (by simp) _ _ _ _ _ _ _ _ _ _ _ _ _ _ _) (Ev.now _)
theorem op1 {o : S50} (g : Go.Proofs.Ytmjhfkjnnpnoaaa.Xip4Sums.G50 o) (h : o.f0 = 1) (hf : o.f2.flatten.length ≤ 2000000) : Ev (fun k => weftlaw3_plays.f k o.f0 o.f1 o.f2 o.f3 o.f4 o.f5 o.f6.f0.f0 o.f6.f0.f1 o.f6.f0.f2 o.f6.f0.f3 o.f6.f0.f4 o.f6.f0.f5 o.f6.f0.f6 o.f6.f0.f7 o.f6.f0.f8 o.f6.f0.f9 o.f6.f1) true := by
  rw [h]
  have gp := g.2.2.1
  exact plays1 (fun p hp y hy => wf8 ((gp.2 p hp).2 y hy)) (by have := gp.1; omega) hf _ _ _ _ _ _ _ _ _ _ _ _ _ _ _
theorem sumOf_mem {α : Type} (f : α → Nat) : ∀ (l : List α) (a : α), a ∈ l → f a ≤ sumOf f l
  | [], _, h => by cases h
  | b :: l, a, h => by
    rcases List.mem_cons.1 h with rfl | h
    · show f a ≤ f a + sumOf f l
      omega
    · have := sumOf_mem f l a h
      show f a ≤ f b + sumOf f l
      omega
theorem flat_sum : ∀ ps : List (List Int), ps.flatten.length ≤ sumOf (fun a => (1 + sumOf (fun _ => 1) a)) ps
  | [] => by simp [sumOf]
  | p :: ps => by
    have := flat_sum ps
    have e := sumOf_one p
    rw [List.flatten_cons, List.length_append]
    show p.length + ps.flatten.length ≤ (1 + sumOf (fun _ => 1) p) + sumOf (fun a => (1 + sumOf (fun _ => 1) a)) ps
    omega
theorem flat_bulk {l : List S50} (h : 1 + sumOf (fun a => Go.Proofs.Ytmjhfkjnnpnoaaa.Xip4Sums.m50 a) l ≤ 1048576) {o : S50} (ho : o ∈ l) : o.f2.flatten.length ≤ 2000000 := by
  have h1 := sumOf_mem (fun a => Go.Proofs.Ytmjhfkjnnpnoaaa.Xip4Sums.m50 a) l o ho
  have h2 := flat_sum o.f2
  have h3 : Go.Proofs.Ytmjhfkjnnpnoaaa.Xip4Sums.m50 o = (1 + ((1 + sumOf (fun a => 1) o.f1) + ((1 + sumOf (fun a => (1 + sumOf (fun a => 1) a)) o.f2) + (1 + (1 + (1 + (Go.Proofs.Ytmjhfkjnnpnoaaa.Xip4Sums.m33 o.f6))))))) + 1 := rfl
  omega

theorem rd_T50_lt1 (l : List S50) (i : Nat) (h : i < l.length) : rd_T50 l (i : Int) = l[i] := by simp [rd_T50, List.getD_eq_getElem?_getD, h]
theorem script1 (l : List S50) (hl : l.length ≤ 140737488355328)
    (hp : ∀ o ∈ l, o.f0 = 1 → Ev (fun k => weftlaw3_plays.f k o.f0 o.f1 o.f2 o.f3 o.f4 o.f5 o.f6.f0.f0 o.f6.f0.f1 o.f6.f0.f2 o.f6.f0.f3 o.f6.f0.f4 o.f6.f0.f5 o.f6.f0.f6 o.f6.f0.f7 o.f6.f0.f8 o.f6.f0.f9 o.f6.f1) true) (d : Nat) :
    ∀ j : Nat, j + d = l.length → Ev (fun k => weftlaw3_upTo.l1 k l 1 1 (j : Int)) true := by
  induction d with
  | zero => intro j hj; exact Ev.step (fun k => by rw [weftlaw3_upTo.l1, if_neg (by omega)]) (Ev.now _)
  | succ d ih =>
    intro j hj
    have hlt : j < l.length := by omega
    have hw : wrap64 ((j : Int) + 1) = ((j + 1 : Nat) : Int) := by
      have h3 : wrap64 ((j : Int) + 1) = (j : Int) + 1 := w64 (by omega) (by omega)
      rw [h3]
      omega
    have hn := ih (j + 1) (by omega)
    have hj0 : (j : Int) < (l.length : Int) := Int.ofNat_lt.2 hlt
    by_cases h1 : l[j].f0 ≥ 1
    · by_cases h2 : l[j].f0 ≤ 1
      · refine Ev.step (fun k => by rw [weftlaw3_upTo.l1, if_pos hj0, if_pos (Int.natCast_nonneg j), rd_T50_lt1 l j hlt, if_pos h1, if_pos h2, hw]) ?_
        refine Ev.bind (hp l[j] (List.getElem_mem hlt) (by omega)) ?_
        exact Ev.congr (fun k => by rw [if_pos rfl]) hn
      · exact Ev.step (fun k => by rw [weftlaw3_upTo.l1, if_pos hj0, if_pos (Int.natCast_nonneg j), rd_T50_lt1 l j hlt, if_pos h1, if_neg h2, hw]) hn
    · exact Ev.step (fun k => by rw [weftlaw3_upTo.l1, if_pos hj0, if_pos (Int.natCast_nonneg j), rd_T50_lt1 l j hlt, if_neg h1, hw]) hn
theorem upTo1 (l : List S50) (hl : l.length ≤ 140737488355328)
    (hp : ∀ o ∈ l, o.f0 = 1 → Ev (fun k => weftlaw3_plays.f k o.f0 o.f1 o.f2 o.f3 o.f4 o.f5 o.f6.f0.f0 o.f6.f0.f1 o.f6.f0.f2 o.f6.f0.f3 o.f6.f0.f4 o.f6.f0.f5 o.f6.f0.f6 o.f6.f0.f7 o.f6.f0.f8 o.f6.f0.f9 o.f6.f1) true) :
    Ev (fun k => weftlaw3_upTo.f k l 1 1) true := by
  have e : wrap64 ((1 : Int) + 1) = 1 + 1 := w64 (by omega) (by omega)
  refine Ev.congr (fun k => by rw [weftlaw3_upTo.f]) ?_
  refine Ev.step (fun k => by rw [weftlaw3_upTo.l0, if_pos (by decide), e]) ?_
  refine Ev.bind head1 ?_
  refine Ev.congr (fun k => by rw [if_pos rfl]) ?_
  exact Ev.step (fun k => by rw [weftlaw3_upTo.l0, if_neg (by decide)]; rfl) (script1 l hl hp l.length 0 (by omega))
theorem pureIp4Sums : Go.Proofs.Ytmjhfkjnnpnoaaa.Xip4Sums.PureUpto := by
  intro l hx hbulk
  refine Ev.rounds (g := fun k => weftlaw3_Ip4Sums.f k l) ?_
  refine Ev.bind (upTo1 l (by have := hx.1; omega) fun o ho h => ?_) (Ev.now _)
  have g := hx.2 o ho
  exact op1 g h (flat_bulk hbulk ho)
theorem ip4Sums_row : Go.Proofs.Ytmjhfkjnnpnoaaa.Rows.Ip4SumsUptoSaid := Go.Proofs.Ytmjhfkjnnpnoaaa.Xip4Sums.overUpto pureIp4Sums

end Go.Proofs.YtmjhfkjnnpnoaaaX
namespace Go.Proofs.Ytmjhfkjnnpnoaaa
/-- The row, under a short name, for the claim. -/
theorem ip4Sums_holds : Rows.Ip4SumsUptoSaid := Go.Proofs.YtmjhfkjnnpnoaaaX.ip4Sums_row
end Go.Proofs.Ytmjhfkjnnpnoaaa
