/- What Adjust and Age of packages ip4 and weftref3 answer.
   Conditions: bytes are 0 to 255; lists are no longer than memory lets. -/
import Derived.Test.YtphbdmafchjjeaaDoorSParse
namespace Go.Proofs.YtphbdmafchjjeaaDoorS
open Go Go.RowKit Go.Proofs Go.Proofs.YtphbdmafchjjeaaDoorX
set_option maxRecDepth 100000
set_option linter.unusedVariables false
set_option linter.unusedSectionVars false
set_option linter.unusedSimpArgs false

/-! ### Adjust -/
def adjS (s o n : Int) : Int := 65535 - S ((65535 - s) + (65535 - o) + n)
theorem adjS_range {s o n : Int} (h1 : 0 ≤ s ∧ s ≤ 65535) (h2 : 0 ≤ o ∧ o ≤ 65535) (h3 : 0 ≤ n ∧ n ≤ 65535) : 0 ≤ adjS s o n ∧ adjS s o n ≤ 65535 := by
  have := S_range (t := (65535 - s) + (65535 - o) + n) (by omega)
  unfold adjS
  omega
theorem Adjust_c (w : World) {s o n : Int} (h1 : 0 ≤ s ∧ s ≤ 65535) (h2 : 0 ≤ o ∧ o ≤ 65535) (h3 : 0 ≤ n ∧ n ≤ 65535) : Calls Tryd.prog 79 #[.int .u16 s, .int .u16 o, .int .u16 n] w (Ret (.int .u16 (adjS s o n)) w) := by
  refine ip4_Adjust.run ?_
  unfold ip4_Adjust.s
  refine let_as _ (not_u16 h1.1 h1.2) ?_
  refine let_as _ (wu64 (by omega) (by omega)) ?_
  refine let_as _ (not_u16 h2.1 h2.2) ?_
  refine let_as _ (wu64 (by omega) (by omega)) ?_
  refine let_as _ (wu64 (by omega) (by omega)) ?_
  refine let_as _ (wu64 (by omega) (by omega)) ?_
  refine let_as _ (wu64 (by omega) (by omega)) ?_
  have hS := S_range (t := (65535 - s) + (65535 - o) + n) (by omega)
  refine call_of (folded_c w (by omega) (by omega)) ?_
  rintro e w1 ⟨rfl, k1⟩
  refine ⟨_, rfl, ?_⟩
  refine let_as _ (not_u16 hS.1 hS.2) ?_
  exact ⟨rfl, k1⟩

/-! ### a list and an error -/
/-- A list of one's own and an error are answered. -/
def RetLB (w : World) (l : List Int) (k : Int) (e : Ending) (w' : World) : Prop := ∃ A c, e = .returned (.tuple #[.slice A l.length c, .int .i64 k]) ∧ Buf w w' [] A l.length c l
theorem RetLB.no {w w' : World} (h : Bel w w') (k : Int) : RetLB w [] k (.returned (.tuple #[.slice none 0 0, .int .i64 k])) w' := ⟨none, 0, rfl, Buf.nil ((Own.refl w).call h)⟩
/-- A list, an error. -/
def RetLE (w : World) (l : List Int) (k : Int) (e : Ending) (w' : World) : Prop := Bel w w' ∧ ∃ A c, e = .returned (.tuple #[.slice A l.length c, .int .i64 k]) ∧ By w' A l.length l ∧ l.length ≤ c ∧ (0 < l.length → Fre w A)
theorem RetLB.le {w w' : World} {l : List Int} {k : Int} {e : Ending} (h : RetLB w l k e w') : RetLE w l k e w' := by
  obtain ⟨A, c, rfl, hb⟩ := h
  exact ⟨hb.own.bel, A, c, rfl, hb.by, hb.le, fun _ => hb.fre⟩
theorem RetLE.no {w w' : World} (h : Bel w w') (k : Int) : RetLE w [] k (.returned (.tuple #[.slice none 0 0, .int .i64 k])) w' := (RetLB.no h k).le
/-- Build's answer. -/
def bldL (p : Pk) : List Int := if p.err = 0 then p.bytes p.sum else []
theorem BuildB_c {w : World} {p : Pk} (h : p.Fine) {A B : Option Addr} {n c m d : Nat} (ha : By w A n p.opts) (hb : By w B m p.body) (hc : n ≤ c) : Calls Tryd.prog 29 #[.agg (pb p A n c B m d).toArray] w (RetLB w (bldL p) p.err) := by
  refine call_of (Build_c h ha hb hc) ?_
  rintro e w1 ⟨k1, he⟩
  unfold bldL
  by_cases h0 : p.err = 0
  · rw [if_pos h0] at he ⊢
    obtain ⟨g, rfl, hk, hg⟩ := he
    rw [h0]
    refine ⟨_, _, rfl, Buf.full (M := []) ?_ rfl (by have h65 := (Pk.err_zero h0).2.2; have e : p.tl = 20 + p.opts.length + p.body.length := rfl; rw [Pk.bytes_len]; omega)⟩
    refine ⟨k1, fun i g' t' l' hi => ?_, by simp⟩
    match i, hi with
    | 0, hi =>
      simp only [List.getElem?_cons_zero, Option.some.injEq, Prod.mk.injEq] at hi
      obtain ⟨rfl, rfl, rfl⟩ := hi
      exact ⟨hk, hg⟩
  · rw [if_neg h0] at he ⊢
    subst he
    exact RetLB.no k1 _
/-! ### Age -/
def ageE (b : List Int) : Int := if bad true b = 0 then if b.getD 8 0 ≤ 1 then 35 else 0 else bad true b
def ageL (b : List Int) : List Int := if bad true b = 0 then if b.getD 8 0 ≤ 1 then [] else (older (ofB b)).bytes (older (ofB b)).sum else []
theorem pkOf_ofB {b : List Int} (h : bad true b = 0) : pkOf b = ofB b := by
  unfold pkOf ofB optsOf Go.Proofs.YtphbdmafchjjeaaDoorX.bodyOf
  rw [there_whole h]
end Go.Proofs.YtphbdmafchjjeaaDoorS
