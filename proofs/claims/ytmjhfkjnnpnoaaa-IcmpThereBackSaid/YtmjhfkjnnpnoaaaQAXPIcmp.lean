/- IcmpThereBack, IcmpFlipTold: what Build makes of a control message Parse reads, what Parse reads Build makes again (but for a sum of 65535 for 0), and one turned bit is told.
   Conditions: none; every message, every list of bytes and every bit is spoken of. -/
import Derived.Test.YtmjhfkjnnpnoaaaQAXIcmp
import Derived.Test.YtmjhfkjnnpnoaaaQAXAx3
import Derived.Test.YtmjhfkjnnpnoaaaQAXAx0
import Derived.Test.YtmjhfkjnnpnoaaaQAXAx1
import Derived.Test.YtmjhfkjnnpnoaaaQAXAx2
namespace Go.Proofs.YtmjhfkjnnpnoaaaX
open Go.RowKit Go.Proofs.Ytmjhfkjnnpnoaaa.XA Go.Proofs.YtmjhfkjnnpnoaaaW.PrintWords Go.Proofs.YtmjhfkjnnpnoaaaW.PrintLast Go.Proofs.YtmjhfkjnnpnoaaaW.PrintMore
set_option linter.unusedVariables false
set_option linter.unusedSimpArgs false

/-- The message that bytes hold. -/
def icOf (b : List Int) : Ic := ⟨b.getD 0 0, b.getD 1 0, lg b 4, b.drop 8⟩
theorem eight {b : List Int} (h : 8 ≤ b.length) : ∃ x0 x1 x2 x3 x4 x5 x6 x7 r, b = x0 :: x1 :: x2 :: x3 :: x4 :: x5 :: x6 :: x7 :: r := by
  match b, h with
  | x0 :: x1 :: x2 :: x3 :: x4 :: x5 :: x6 :: x7 :: r, _ => exact ⟨x0, x1, x2, x3, x4, x5, x6, x7, r, rfl⟩
  | [], h => simp at h
  | [_], h => simp at h
  | [_, _], h => simp at h
  | [_, _, _], h => simp at h
  | [_, _, _, _], h => simp at h
  | [_, _, _, _, _], h => simp at h
  | [_, _, _, _, _, _], h => simp at h
  | [_, _, _, _, _, _, _], h => simp at h
theorem ic_fine {b : List Int} (hb : Bytes b) (hl : b.length ≤ 140737488351232) : (icOf b).Fine := by
  refine ⟨hb.getD 0, hb.getD 1, lg_range hb 4, hb.drop 8, ?_⟩
  show (b.drop 8).length ≤ _
  rw [List.length_drop]
  omega
theorem ic_holds {b : List Int} (hb : Bytes b) (h : 8 ≤ b.length) : b = (icOf b).bytes (wd b 2) := by
  obtain ⟨x0, x1, x2, x3, x4, x5, x6, x7, r, rfl⟩ := eight h
  have q := fun i => hb.getD i
  have q2 := q 2
  have q3 := q 3
  have q4 := q 4
  have q5 := q 5
  have q6 := q 6
  have q7 := q 7
  have e : (icOf (x0 :: x1 :: x2 :: x3 :: x4 :: x5 :: x6 :: x7 :: r)).bytes (wd (x0 :: x1 :: x2 :: x3 :: x4 :: x5 :: x6 :: x7 :: r) 2) =
    x0 :: x1 :: (x2 * 256 + x3) / 256 % 256 :: (x2 * 256 + x3) % 256 :: ((x4 * 256 + x5) * 65536 + (x6 * 256 + x7)) / 16777216 % 256 :: ((x4 * 256 + x5) * 65536 + (x6 * 256 + x7)) / 65536 % 256 :: ((x4 * 256 + x5) * 65536 + (x6 * 256 + x7)) / 256 % 256 :: ((x4 * 256 + x5) * 65536 + (x6 * 256 + x7)) % 256 :: r := rfl
  rw [e]
  simp only [List.getD_cons_succ, List.getD_cons_zero] at q2 q3 q4 q5 q6 q7
  simp only [List.cons.injEq, and_true, true_and]
  refine ⟨?_, ?_, ?_, ?_, ?_, ?_⟩ <;> omega
theorem ic_getD (c : Ic) (s t : Int) (i : Nat) (h : i < 2 ∨ 3 < i) : (c.bytes s).getD i 0 = (c.bytes t).getD i 0 := by
  match i, h with
  | 0, _ => rfl
  | 1, _ => rfl
  | 2, h => omega
  | 3, h => omega
  | i + 4, _ => rfl
theorem back_loop (c : Ic) (h : c.Fine) (hl : ¬ c.body.length > 65507) {s t : Int} (hs0 : 0 ≤ s) (hs1 : s ≤ 65535) (ht0 : 0 ≤ t) (ht1 : t ≤ 65535) (hst : s = t ∨ (s = 65535 ∧ t = 0)) (d : Nat) :
    ∀ i : Nat, i + d = 8 + c.body.length → Ev (fun k => weftlaw6_back.l0 k (c.bytes s) (c.bytes t) (i : Int)) true := by
  have l1 := Ic.len c s
  have l2 := Ic.len c t
  have b1 := Ic.bytes_bytes h s
  have b2 := Ic.bytes_bytes h t
  induction d with
  | zero =>
    intro i hi
    have r2 : rd (c.bytes s) 2 = s / 256 % 256 := rfl
    have r3 : rd (c.bytes s) 3 = s % 256 := rfl
    have u2 : rd (c.bytes t) 2 = t / 256 % 256 := rfl
    have u3 : rd (c.bytes t) 3 = t % 256 := rfl
    have es : wrap64 ((wrap64 ((wrap64 (s / 256 % 256)) * 256)) + (wrap64 (s % 256))) = s := by
      have a1 : wrap64 (s / 256 % 256) = s / 256 % 256 := w64 (by omega) (by omega)
      have a2 : wrap64 (s % 256) = s % 256 := w64 (by omega) (by omega)
      have a3 : wrap64 (s / 256 % 256 * 256) = s / 256 % 256 * 256 := w64 (by omega) (by omega)
      rw [a1, a2, a3, w64 (by omega) (by omega)]
      omega
    have et : wrap64 ((wrap64 ((wrap64 (t / 256 % 256)) * 256)) + (wrap64 (t % 256))) = t := by
      have a1 : wrap64 (t / 256 % 256) = t / 256 % 256 := w64 (by omega) (by omega)
      have a2 : wrap64 (t % 256) = t % 256 := w64 (by omega) (by omega)
      have a3 : wrap64 (t / 256 % 256 * 256) = t / 256 % 256 * 256 := w64 (by omega) (by omega)
      rw [a1, a2, a3, w64 (by omega) (by omega)]
      omega
    by_cases e : s = t
    · exact Ev.step (fun k => by rw [weftlaw6_back.l0, if_neg (by omega), if_pos (by omega), if_pos (by omega), if_pos (by omega), if_pos (by omega), r2, r3, u2, u3, es, et, if_pos e]) (Ev.now _)
    · have e2 : s = 65535 ∧ t = 0 := by rcases hst with h | h; exact absurd h e; exact h
      exact Ev.step (fun k => by rw [weftlaw6_back.l0, if_neg (by omega), if_pos (by omega), if_pos (by omega), if_pos (by omega), if_pos (by omega), r2, r3, u2, u3, es, et, if_neg e, if_pos e2.1, e2.2, show ((0 : Int) == 0) = true from rfl]) (Ev.now _)
  | succ d ih =>
    intro i hi
    have hw : wrap64 ((i : Int) + 1) = ((i + 1 : Nat) : Int) := by rw [w64 (by omega) (by omega)]; omega
    have hn := ih (i + 1) (by omega)
    by_cases e : (c.bytes s).getD i 0 = (c.bytes t).getD i 0
    · exact Ev.step (fun k => by rw [weftlaw6_back.l0, if_pos (by omega), if_pos (by omega), if_pos (by omega), rd_nat, rd_nat, if_pos e, hw]) hn
    · have h23 : ¬ (i < 2 ∨ 3 < i) := fun h => e (ic_getD c s t i h)
      exact Ev.step (fun k => by rw [weftlaw6_back.l0, if_pos (by omega), if_pos (by omega), if_pos (by omega), rd_nat, rd_nat, if_neg e, if_neg (by omega), if_neg (by omega), hw]) hn
theorem sum_two_ways {c : Ic} (h : c.Fine) {s : Int} (h0 : 0 ≤ s) (h1 : s ≤ 65535) (hs : S (c.T + s) = 65535) : s = c.sum ∨ (s = 65535 ∧ c.sum = 0) := by
  have hT := Ic.T_nonneg h
  have m1 := S_mod (t := c.T + s) (by omega)
  have m2 := S_mod (t := c.T) (by omega)
  have m3 := S_range (t := c.T) (by omega)
  have m4 := S_eq_zero (t := c.T) (by omega)
  have m5 := S_eq_zero (t := c.T + s) (by omega)
  rw [hs] at m1 m5
  unfold Ic.sum
  generalize S c.T = q at *
  omega
theorem back_f {b : List Int} (hb : Bytes b) (hl : b.length ≤ 140737488351232) : Ev (fun k => weftlaw6_back.f k b) true := by
  refine Ev.bind (parse_ic hb hl) ?_
  by_cases h : ¬ (icBad b = 0)
  · simp only [if_neg h]
    exact Ev.bind (controls_own 0 0 0 [] (by simp)) (Ev.now _)
  replace h : icBad b = 0 := Decidable.of_not_not h
  obtain ⟨h1, h2, h3⟩ := icBad_zero h
  have hf := ic_fine hb hl
  have hw := wd_range hb 2
  have hh := ic_holds hb h1
  have hbl : (icOf b).body.length = b.length - 8 := List.length_drop
  have hs := Ic.sum_range hf
  have h4 : S ((icOf b).T + wd b 2) = 65535 := by
    rw [← Ic.tot_bytes (icOf b) hw.1 hw.2, ← hh]
    exact h3
  simp only [if_pos h, if_true]
  have hB := build_ic hf
  rw [if_neg (show ¬ (icOf b).body.length > 65507 by omega)] at hB
  refine Ev.bind hB ?_
  have hlen := Ic.len (icOf b) (icOf b).sum
  refine Ev.congr (fun k => by rw [if_pos rfl, show ((((icOf b).bytes (icOf b).sum).length : Int) != (b.length : Int)) = false from by rw [hlen, hbl]; simp; omega]) ?_
  refine Ev.step (fun k => by rw [weftlaw6_back.j0, if_neg (by decide)]) ?_
  have := back_loop (icOf b) hf (by omega) hw.1 hw.2 hs.1 hs.2 (sum_two_ways hf hw.1 hw.2 h4) (8 + (icOf b).body.length) 0 (by omega)
  rw [← hh] at this
  exact this
end Go.Proofs.YtmjhfkjnnpnoaaaX
