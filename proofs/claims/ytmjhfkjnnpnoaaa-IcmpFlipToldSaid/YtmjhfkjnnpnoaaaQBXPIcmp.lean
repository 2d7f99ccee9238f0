/- IcmpThereBack, IcmpFlipTold: what Build makes of a control message Parse reads, what Parse reads Build makes again (but for a sum of 65535 for 0), and one turned bit is told.
   Conditions: none; every message, every list of bytes and every bit is spoken of. -/
import Derived.Test.YtmjhfkjnnpnoaaaQBXIcmp
import Derived.Test.YtmjhfkjnnpnoaaaQBXAx3
import Derived.Test.YtmjhfkjnnpnoaaaQBXAx4
namespace Go.Proofs.YtmjhfkjnnpnoaaaX
open Go.RowKit Go.Proofs.Ytmjhfkjnnpnoaaa.XA Go.Proofs.YtmjhfkjnnpnoaaaW.PrintWords Go.Proofs.YtmjhfkjnnpnoaaaW.PrintLast Go.Proofs.YtmjhfkjnnpnoaaaW.PrintMore
set_option linter.unusedVariables false
set_option linter.unusedSimpArgs false

theorem flip_f {c : Ic} (h : c.Fine) {bit : Int} (h0 : 0 ≤ bit) (h1 : bit ≤ 9223372036854775807) : Ev (fun k => weftlaw6_flip.f k c.typ c.code c.rest c.body bit) true := by
  refine Ev.bind (build_ic h) ?_
  by_cases hl : c.body.length > 65507
  · simp only [if_pos hl]
    exact Ev.congr (fun k => by rw [if_neg (by decide)]) (Ev.step (fun k => by rw [weftlaw6_flip.j0, if_pos rfl, show ((37 : Int) == 37) = true from rfl]) (Ev.now _))
  simp only [if_neg hl, if_true]
  have hs := Ic.sum_range h
  have hlen := Ic.len c c.sum
  have hb := Ic.bytes_bytes h c.sum
  generalize hB : c.bytes c.sum = b at *
  have hsum : S (tot true b) = 65535 := by
    rw [← hB, Ic.tot_bytes c hs.1 hs.2]
    exact Ic.sum_full h
  have hlb : 8 ≤ b.length ∧ b.length ≤ 65515 := by omega
  have hnl8 : ¬ (decide ((b.length : Int) < 8) = true) := by simp; omega
  have z8 : ¬ (((8 * b.length : Nat) : Int) = 0) := by omega
  have e8 : wrap64 (8 * (b.length : Int)) = ((8 * b.length : Nat) : Int) := by rw [w64 (by omega) (by omega)]; omega
  obtain ⟨n, hn, hnl⟩ : ∃ n : Nat, Int.tmod bit ((8 * b.length : Nat) : Int) = (n : Int) ∧ n < 8 * b.length := by
    have n1 := Int.emod_nonneg bit (b := ((8 * b.length : Nat) : Int)) (by omega)
    have n2 := Int.emod_lt_of_pos bit (b := ((8 * b.length : Nat) : Int)) (by omega)
    refine ⟨(bit % ((8 * b.length : Nat) : Int)).toNat, ?_, ?_⟩
    · rw [Int.tmod_eq_emod_of_nonneg h0, Int.toNat_of_nonneg n1]
    · generalize bit % ((8 * b.length : Nat) : Int) = c at *
      omega
  have hj : n % 8 < 8 := Nat.mod_lt _ (by omega)
  have hq : n / 8 < b.length := by omega
  have t1 : Int.tmod (n : Int) 8 = ((n % 8 : Nat) : Int) := by rw [Int.tmod_eq_emod_of_nonneg (by omega)]; omega
  have t2 : wrap64 (Int.tdiv (n : Int) 8) = ((n / 8 : Nat) : Int) := by
    rw [Int.tdiv_eq_ediv_of_nonneg (by omega), w64 (by omega) (by omega)]
    omega
  have hv := flip_ok (hb.getD (n / 8)).1 (hb.getD (n / 8)).2 hj
  have hcb : Bytes (b.set (n / 8) (flip8 (b.getD (n / 8) 0) (n % 8))) := hb.set _ ⟨hv.2.1, hv.2.2⟩
  have hfl := flip_sum hb hq hj hsum
  refine Ev.step (fun k => by rw [weftlaw6_flip.j0, if_neg hnl8, e8, hn, t1, t2, shl_one hj, if_neg z8, if_pos (Int.natCast_nonneg _), if_pos (Int.ofNat_lt.2 hq), if_pos (Int.natCast_nonneg _), Int.toNat_natCast, rd_nat, hv.1]) ?_
  have hp := parse_ic hcb (by rw [List.length_set]; omega)
  have e : icBad (b.set (n / 8) (flip8 (b.getD (n / 8) 0) (n % 8))) = 33 := by
    unfold icBad
    rw [List.length_set, if_neg (by omega), if_neg (by omega), if_pos hfl]
  rw [if_neg (by omega), e] at hp
  refine Ev.bind hp ?_
  refine Ev.congr (fun k => by rw [if_pos rfl]) ?_
  exact Ev.bind (controls_own 0 0 0 [] (by simp)) (Ev.now _)
end Go.Proofs.YtmjhfkjnnpnoaaaX
