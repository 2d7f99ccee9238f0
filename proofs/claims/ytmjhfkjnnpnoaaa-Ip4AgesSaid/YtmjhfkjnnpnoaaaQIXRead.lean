/- What measure, read, apart, Parse, Peek and Age of the printed program answer, as plain functions of the bytes.
   Conditions: bytes are 0 to 255, the list short enough for 64 bits. -/
import Derived.Test.YtmjhfkjnnpnoaaaQIXBuild
import Derived.Test.YtmjhfkjnnpnoaaaQIXAx8
import Derived.Test.YtmjhfkjnnpnoaaaQIXAx9
import Derived.Test.YtmjhfkjnnpnoaaaQIXAx10
import Derived.Test.YtmjhfkjnnpnoaaaQIXAx12
namespace Go.Proofs.YtmjhfkjnnpnoaaaX
open Go.RowKit Go.Proofs.Ytmjhfkjnnpnoaaa.XA Go.Proofs.YtmjhfkjnnpnoaaaW.PrintWords Go.Proofs.YtmjhfkjnnpnoaaaW.PrintLast Go.Proofs.YtmjhfkjnnpnoaaaW.PrintMore
set_option linter.unusedVariables false
set_option linter.unusedSimpArgs false

/-- The header's length as its first byte tells it. -/
def hlen (b : List Int) : Nat := (b.getD 0 0 % 16 * 4).toNat
/-- Why the head's lengths are refused; 0: they are not. -/
def badLen (whole : Bool) (b : List Int) : Int :=
  if b.length < 20 then 30 else if b.getD 0 0 / 16 ≠ 4 then 31 else if hlen b < 20 then 32 else if b.length < hlen b then 30 else if wd b 2 < hlen b then 32 else if whole = true ∧ (b.length : Int) < wd b 2 then 30 else 0
/-- Why a packet's bytes are refused; 0: they are not. -/
def bad (whole : Bool) (b : List Int) : Int :=
  if badLen whole b ≠ 0 then badLen whole b else if 65535 - S (tot true (b.take (hlen b))) ≠ 0 then 33 else if 32768 ≤ wd b 6 then 32 else if ¬ oOK ((b.take (hlen b)).drop 20) = true then 34
  else if ¬ ordB (wd b 6 % 8192 * 8) (wd b 2 - hlen b) (decide (wd b 6 / 8192 % 2 = 1)) = true then 36 else 0
/-- The head's fields, with something behind them; a head of zeros. -/
def hdF {β : Type} (b : List Int) (z : β) : Int × Int × Bool × Bool × Int × Int × Int × Int × Int × β :=
  (b.getD 1 0, wd b 4, decide (wd b 6 / 16384 % 2 = 1), decide (wd b 6 / 8192 % 2 = 1), wd b 6 % 8192 * 8, b.getD 8 0, b.getD 9 0, lg b 12, lg b 16, z)
def hd0 {β : Type} (z : β) : Int × Int × Bool × Bool × Int × Int × Int × Int × Int × β := (0, 0, false, false, 0, 0, 0, 0, 0, z)

theorem badLen_zero {whole : Bool} {b : List Int} (h : badLen whole b = 0) : 20 ≤ b.length ∧ b.getD 0 0 / 16 = 4 ∧ 20 ≤ hlen b ∧ hlen b ≤ b.length ∧ (hlen b : Int) ≤ wd b 2 ∧ (whole = true → wd b 2 ≤ b.length) := by
  unfold badLen at h
  by_cases h1 : b.length < 20
  · rw [if_pos h1] at h; omega
  rw [if_neg h1] at h
  by_cases h2 : b.getD 0 0 / 16 ≠ 4
  · rw [if_pos h2] at h; omega
  rw [if_neg h2] at h
  by_cases h3 : hlen b < 20
  · rw [if_pos h3] at h; omega
  rw [if_neg h3] at h
  by_cases h4 : b.length < hlen b
  · rw [if_pos h4] at h; omega
  rw [if_neg h4] at h
  by_cases h5 : wd b 2 < hlen b
  · rw [if_pos h5] at h; omega
  rw [if_neg h5] at h
  by_cases h6 : whole = true ∧ (b.length : Int) < wd b 2
  · rw [if_pos h6] at h; omega
  exact ⟨by omega, Decidable.of_not_not h2, by omega, by omega, by omega, fun hw => by rcases Int.lt_or_le (b.length : Int) (wd b 2) with h | h; exact absurd ⟨hw, h⟩ h6; exact h⟩
theorem bad_zero {whole : Bool} {b : List Int} (h : bad whole b = 0) : badLen whole b = 0 ∧ S (tot true (b.take (hlen b))) = 65535 ∧ wd b 6 < 32768 ∧ oOK ((b.take (hlen b)).drop 20) = true ∧
    ordB (wd b 6 % 8192 * 8) (wd b 2 - hlen b) (decide (wd b 6 / 8192 % 2 = 1)) = true := by
  unfold bad at h
  by_cases h1 : badLen whole b ≠ 0
  · rw [if_pos h1] at h; exact absurd h h1
  rw [if_neg h1] at h
  by_cases h2 : 65535 - S (tot true (b.take (hlen b))) ≠ 0
  · rw [if_pos h2] at h; omega
  rw [if_neg h2] at h
  by_cases h3 : 32768 ≤ wd b 6
  · rw [if_pos h3] at h; omega
  rw [if_neg h3] at h
  by_cases h4 : ¬ oOK ((b.take (hlen b)).drop 20) = true
  · rw [if_pos h4] at h; omega
  rw [if_neg h4] at h
  by_cases h5 : ¬ ordB (wd b 6 % 8192 * 8) (wd b 2 - hlen b) (decide (wd b 6 / 8192 % 2 = 1)) = true
  · rw [if_pos h5] at h; omega
  exact ⟨Decidable.of_not_not h1, by omega, by omega, Decidable.of_not_not h4, Decidable.of_not_not h5⟩
theorem measure_f {b : List Int} (hb : Bytes b) (hl : b.length ≤ 140737488355328) (whole : Bool) : ip4_measure.f b whole = some (if badLen whole b = 0 then ((hlen b : Int), wd b 2, 0) else (0, 0, badLen whole b)) := by
  unfold ip4_measure.f badLen
  by_cases h1 : b.length < 20
  · simp only [if_pos h1]
    rw [if_pos (by omega), if_neg (by decide)]
  simp only [if_neg h1]
  have g0 := hb.getD 0
  have er : rd b 0 = b.getD 0 0 := rfl
  have eh : wrap64 ((wrap64 (Go.bits .and .u8 (rd b 0) 15)) * 4) = (hlen b : Int) := by
    rw [er, and_15 g0.1 g0.2, w64 (i := b.getD 0 0 % 16) (by omega) (by omega), w64 (by omega) (by omega)]
    unfold hlen
    omega
  have hw := wd_range hb 2
  rw [if_neg (by omega), if_pos (by omega), eh, er]
  by_cases h2 : ¬ (b.getD 0 0 / 16 = 4)
  · simp only [if_pos h2]
    rw [if_neg h2, if_neg (by decide)]
  replace h2 : b.getD 0 0 / 16 = 4 := Decidable.of_not_not h2
  simp only [if_neg (not_not_intro h2)]
  rw [if_pos h2]
  by_cases h3 : hlen b < 20
  · simp only [if_pos h3]
    rw [if_pos (by omega), if_neg (by decide)]
  simp only [if_neg h3]
  rw [if_neg (by omega)]
  by_cases h4 : b.length < hlen b
  · simp only [if_pos h4]
    rw [if_pos (by omega), if_neg (by decide)]
  simp only [if_neg h4]
  rw [if_neg (by omega), word_f hb (i := 2) (j := 2) rfl (by omega) (by omega), Option.bind_some, w64 (i := wd b 2) (by omega) (by omega)]
  by_cases h5 : wd b 2 < hlen b
  · simp only [if_pos h5]
    rw [if_neg (by decide)]
  simp only [if_neg h5]
  by_cases h6 : whole = true ∧ (b.length : Int) < wd b 2
  · rw [if_pos h6, if_pos h6.1, if_pos h6.2, if_neg (by decide)]
  · rw [if_neg h6]
    by_cases hq : whole = true
    · rw [if_pos hq, if_neg (fun h => h6 ⟨hq, h⟩), if_pos rfl]
    · rw [if_neg hq, if_pos rfl]
theorem read_f {b : List Int} (hb : Bytes b) (hl : b.length ≤ 140737488355328) (whole : Bool) : Ev (fun k => ip4_read.f k b whole) (if bad whole b = 0 then hdF b ([], (hlen b : Int), wd b 2, 0) else hd0 ([], 0, 0, bad whole b)) := by
  unfold hdF hd0
  refine Ev.congr (fun k => by rw [ip4_read.f, measure_f hb hl whole, Option.bind_some]) ?_
  by_cases h1 : ¬ (badLen whole b = 0)
  · have e : bad whole b = badLen whole b := by unfold bad; rw [if_pos h1]
    rw [if_neg (show ¬ bad whole b = 0 by rw [e]; exact h1), e]
    exact Ev.congr (fun k => by rw [if_neg h1, if_neg h1]) (Ev.now _)
  replace h1 : badLen whole b = 0 := Decidable.of_not_not h1
  obtain ⟨a1, a2, a3, a4, a5, a6⟩ := badLen_zero h1
  have hw6 := wd_range hb 6
  have hw2 := wd_range hb 2
  have g0 := hb.getD 0
  have hh : hlen b ≤ 60 := by unfold hlen; omega
  refine Ev.congr (fun k => by rw [if_pos h1, if_pos rfl, if_pos (show (0 : Int) ≤ (hlen b : Int) by omega), if_pos (show (hlen b : Int) ≤ (b.length : Int) by omega)]) ?_
  simp only [Int.toNat_natCast]
  refine Ev.bind (sum_one (hb.take _) (by rw [List.length_take]; omega)) ?_
  by_cases h2 : 65535 - S (tot true (b.take (hlen b))) ≠ 0
  · have e : bad whole b = 33 := by unfold bad; rw [if_neg (by omega), if_pos h2]
    rw [if_neg (show ¬ bad whole b = 0 by rw [e]; decide), e]
    exact Ev.congr (fun k => by rw [if_neg h2]) (Ev.now _)
  refine Ev.congr (fun k => by rw [if_pos (by omega), word_f hb (i := 6) (j := 6) rfl (by omega) (by omega), Option.bind_some]) ?_
  by_cases h3 : 32768 ≤ wd b 6
  · have e : bad whole b = 32 := by unfold bad; rw [if_neg (by omega), if_neg h2, if_pos h3]
    rw [if_neg (show ¬ bad whole b = 0 by rw [e]; decide), e]
    exact Ev.congr (fun k => by rw [if_neg (by rw [and_top hw6.1 hw6.2]; omega)]) (Ev.now _)
  refine Ev.congr (fun k => by rw [if_pos (by rw [and_top hw6.1 hw6.2]; omega), if_pos (show (20 : Int) ≤ (hlen b : Int) by omega)]) ?_
  refine Ev.bind (options_f ((hb.take _).drop _) (by rw [List.length_drop, List.length_take]; omega)) ?_
  by_cases h4 : ¬ oOK ((b.take (hlen b)).drop 20) = true
  · have e : bad whole b = 34 := by unfold bad; rw [if_neg (by omega), if_neg h2, if_neg h3, if_pos h4]
    rw [if_neg (show ¬ bad whole b = 0 by rw [e]; decide), e]
    exact Ev.congr (fun k => by rw [if_neg h4]) (Ev.now _)
  have eo : wrap64 ((wrap64 (Go.bits .and .u16 (wd b 6) 8191)) * 8) = wd b 6 % 8192 * 8 := by rw [and_off hw6.1 hw6.2, w64 (i := wd b 6 % 8192) (by omega) (by omega), w64 (by omega) (by omega)]
  refine Ev.congr (fun k => by rw [if_pos (Decidable.of_not_not h4), eo, and_mf hw6.1 hw6.2, and_df hw6.1 hw6.2, w64 (i := wd b 2 - hlen b) (by omega) (by omega), orderly_f (by omega) (by omega), Option.bind_some]) ?_
  by_cases h5 : ¬ ordB (wd b 6 % 8192 * 8) (wd b 2 - hlen b) (decide (wd b 6 / 8192 % 2 = 1)) = true
  · have e : bad whole b = 36 := by unfold bad; rw [if_neg (by omega), if_neg h2, if_neg h3, if_neg h4, if_pos h5]
    rw [if_neg (show ¬ bad whole b = 0 by rw [e]; decide), e]
    exact Ev.congr (fun k => by rw [if_neg h5]) (Ev.now _)
  have e : bad whole b = 0 := by unfold bad; rw [if_neg (by omega), if_neg h2, if_neg h3, if_neg h4, if_neg h5]
  rw [if_pos e]
  refine Ev.congr (fun k => by rw [if_pos (Decidable.of_not_not h5), if_pos (by omega), word_f hb (i := 4) (j := 4) rfl (by omega) (by omega), Option.bind_some, if_pos (by omega), if_pos (by omega), long_f hb (i := 12) (j := 12) rfl (by omega) (by omega), Option.bind_some, long_f hb (i := 16) (j := 16) rfl (by omega) (by omega), Option.bind_some]) ?_
  exact Ev.now _

/-- The options and the body that a packet's bytes hold. -/
def optsOf (b : List Int) : List Int := (b.take (hlen b)).drop 20
def bodyOf (b : List Int) : List Int := (b.take (wd b 2).toNat).drop (hlen b)
theorem hlen_le {b : List Int} (hb : Bytes b) : hlen b ≤ 60 := by
  have g0 := hb.getD 0
  unfold hlen
  omega
/-- How many bytes of the packet are there. -/
def there (b : List Int) : Nat := min (wd b 2).toNat b.length
end Go.Proofs.YtmjhfkjnnpnoaaaX
