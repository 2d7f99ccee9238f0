/- What measure, read, apart, Parse, Peek and Age of the printed program answer, as plain functions of the bytes.
   Conditions: bytes are 0 to 255, the list short enough for 64 bits. -/
import Derived.Test.YtbacmhegalncjaaQIXBuild
import Derived.Test.YtbacmhegalncjaaQIXBx8
import Derived.Test.YtbacmhegalncjaaQIXBx9
import Derived.Test.YtbacmhegalncjaaQIXBx0
import Derived.Test.YtbacmhegalncjaaQIXBx6
import Derived.Test.YtbacmhegalncjaaQIXBx7
import Derived.Test.YtbacmhegalncjaaQIXBx3
import Derived.Test.YtbacmhegalncjaaQIXBx5
namespace Go.Proofs.YtbacmhegalncjaaX
open Go.RowKit Go.Proofs.Ytbacmhegalncjaa.XB Go.Proofs.YtbacmhegalncjaaW.PrintWords Go.Proofs.YtbacmhegalncjaaW.PrintLast Go.Proofs.YtbacmhegalncjaaW.PrintMore
set_option linter.unusedVariables false
set_option linter.unusedSimpArgs false

/-- The header's length as its first byte tells it. -/
def hlen (b : List Int) : Nat := (b.getD 0 0 % 16 * 4).toNat
/-- Why the head's lengths are refused; 0: they are not. -/
def badLen (whole : Bool) (b : List Int) : Int :=
  if b.length < 20 then 30 else if b.getD 0 0 / 16 ≠ 4 then 31 else if hlen b < 20 then 32 else if b.length < hlen b then 30 else if wd b 2 < hlen b then 32 else if whole = true ∧ (b.length : Int) < wd b 2 then 30 else 0
/-- Why a packet's bytes are refused; 0: they are not. -/
def bad (whole : Bool) (b : List Int) : Int :=
  if badLen whole b ≠ 0 then badLen whole b else if 65535 - S (tot true (b.take (hlen b))) ≠ 0 then 33 else if 32768 ≤ wd b 6 then 32 else if ¬ oOK ((b.take (hlen b)).drop 20) = true then 34
  else if ¬ ordB (wd b 6 % 8192 * 8) (wd b 2 - hlen b) (decide (wd b 6 / 8192 % 2 = 1)) = true then 36 else 0
/-- The head's fields, with something behind them; a head of zeros. -/
def hdF {β : Type} (b : List Int) (z : β) : Int × Int × Bool × Bool × Int × Int × Int × Int × Int × β :=
  (b.getD 1 0, wd b 4, decide (wd b 6 / 16384 % 2 = 1), decide (wd b 6 / 8192 % 2 = 1), wd b 6 % 8192 * 8, b.getD 8 0, b.getD 9 0, lg b 12, lg b 16, z)
def hd0 {β : Type} (z : β) : Int × Int × Bool × Bool × Int × Int × Int × Int × Int × β := (0, 0, false, false, 0, 0, 0, 0, 0, z)

theorem badLen_zero {whole : Bool} {b : List Int} (h : badLen whole b = 0) : 20 ≤ b.length ∧ b.getD 0 0 / 16 = 4 ∧ 20 ≤ hlen b ∧ hlen b ≤ b.length ∧ (hlen b : Int) ≤ wd b 2 ∧ (whole = true → wd b 2 ≤ b.length) := by
  unfold badLen at h
  by_cases h1 : b.length < 20
  · rw [if_pos h1] at h; omega
  rw [if_neg h1] at h
  by_cases h2 : b.getD 0 0 / 16 ≠ 4
  · rw [if_pos h2] at h; omega
  rw [if_neg h2] at h
  by_cases h3 : hlen b < 20
  · rw [if_pos h3] at h; omega
  rw [if_neg h3] at h
  by_cases h4 : b.length < hlen b
  · rw [if_pos h4] at h; omega
  rw [if_neg h4] at h
  by_cases h5 : wd b 2 < hlen b
  · rw [if_pos h5] at h; omega
  rw [if_neg h5] at h
  by_cases h6 : whole = true ∧ (b.length : Int) < wd b 2
  · rw [if_pos h6] at h; omega
  exact ⟨by omega, Decidable.of_not_not h2, by omega, by omega, by omega, fun hw => by rcases Int.lt_or_le (b.length : Int) (wd b 2) with h | h; exact absurd ⟨hw, h⟩ h6; exact h⟩
theorem bad_zero {whole : Bool} {b : List Int} (h : bad whole b = 0) : badLen whole b = 0 ∧ S (tot true (b.take (hlen b))) = 65535 ∧ wd b 6 < 32768 ∧ oOK ((b.take (hlen b)).drop 20) = true ∧
    ordB (wd b 6 % 8192 * 8) (wd b 2 - hlen b) (decide (wd b 6 / 8192 % 2 = 1)) = true := by
  unfold bad at h
  by_cases h1 : badLen whole b ≠ 0
  · rw [if_pos h1] at h; exact absurd h h1
  rw [if_neg h1] at h
  by_cases h2 : 65535 - S (tot true (b.take (hlen b))) ≠ 0
  · rw [if_pos h2] at h; omega
  rw [if_neg h2] at h
  by_cases h3 : 32768 ≤ wd b 6
  · rw [if_pos h3] at h; omega
  rw [if_neg h3] at h
  by_cases h4 : ¬ oOK ((b.take (hlen b)).drop 20) = true
  · rw [if_pos h4] at h; omega
  rw [if_neg h4] at h
  by_cases h5 : ¬ ordB (wd b 6 % 8192 * 8) (wd b 2 - hlen b) (decide (wd b 6 / 8192 % 2 = 1)) = true
  · rw [if_pos h5] at h; omega
  exact ⟨Decidable.of_not_not h1, by omega, by omega, Decidable.of_not_not h4, Decidable.of_not_not h5⟩
theorem bad_of {whole : Bool} {b : List Int} (h1 : badLen whole b = 0) (h2 : S (tot true (b.take (hlen b))) = 65535) (h3 : wd b 6 < 32768) (h4 : oOK ((b.take (hlen b)).drop 20) = true)
    (h5 : ordB (wd b 6 % 8192 * 8) (wd b 2 - hlen b) (decide (wd b 6 / 8192 % 2 = 1)) = true) : bad whole b = 0 := by
  unfold bad
  rw [if_neg (by omega), if_neg (by omega), if_neg (by omega), if_neg (by simp [h4]), if_neg (by simp [h5])]
theorem badLen_of {whole : Bool} {b : List Int} (h1 : 20 ≤ b.length) (h2 : b.getD 0 0 / 16 = 4) (h3 : 20 ≤ hlen b) (h4 : hlen b ≤ b.length) (h5 : (hlen b : Int) ≤ wd b 2) (h6 : whole = true → wd b 2 ≤ b.length) : badLen whole b = 0 := by
  unfold badLen
  rw [if_neg (by omega), if_neg (by omega), if_neg (by omega), if_neg (by omega), if_neg (by omega), if_neg (fun h => by have := h6 h.1; omega)]

theorem measure_f {b : List Int} (hb : Bytes b) (hl : b.length ≤ 140737488355328) (whole : Bool) : ip4_measure.f b whole = some (if badLen whole b = 0 then ((hlen b : Int), wd b 2, 0) else (0, 0, badLen whole b)) := by
  unfold ip4_measure.f badLen
  by_cases h1 : b.length < 20
  · simp only [if_pos h1]
    rw [if_pos (by omega), if_neg (by decide)]
  simp only [if_neg h1]
  have g0 := hb.getD 0
  have er : rd b 0 = b.getD 0 0 := rfl
  have eh : wrap64 ((wrap64 (Go.bits .and .u8 (rd b 0) 15)) * 4) = (hlen b : Int) := by
    rw [er, and_15 g0.1 g0.2, w64 (i := b.getD 0 0 % 16) (by omega) (by omega), w64 (by omega) (by omega)]
    unfold hlen
    omega
  have hw := wd_range hb 2
  rw [if_neg (by omega), if_pos (by omega), eh, er]
  by_cases h2 : ¬ (b.getD 0 0 / 16 = 4)
  · simp only [if_pos h2]
    rw [if_neg h2, if_neg (by decide)]
  replace h2 : b.getD 0 0 / 16 = 4 := Decidable.of_not_not h2
  simp only [if_neg (not_not_intro h2)]
  rw [if_pos h2]
  by_cases h3 : hlen b < 20
  · simp only [if_pos h3]
    rw [if_pos (by omega), if_neg (by decide)]
  simp only [if_neg h3]
  rw [if_neg (by omega)]
  by_cases h4 : b.length < hlen b
  · simp only [if_pos h4]
    rw [if_pos (by omega), if_neg (by decide)]
  simp only [if_neg h4]
  rw [if_neg (by omega), word_f hb (i := 2) (j := 2) rfl (by omega) (by omega), Option.bind_some, w64 (i := wd b 2) (by omega) (by omega)]
  by_cases h5 : wd b 2 < hlen b
  · simp only [if_pos h5]
    rw [if_neg (by decide)]
  simp only [if_neg h5]
  by_cases h6 : whole = true ∧ (b.length : Int) < wd b 2
  · rw [if_pos h6, if_pos h6.1, if_pos h6.2, if_neg (by decide)]
  · rw [if_neg h6]
    by_cases hq : whole = true
    · rw [if_pos hq, if_neg (fun h => h6 ⟨hq, h⟩), if_pos rfl]
    · rw [if_neg hq, if_pos rfl]
theorem read_f {b : List Int} (hb : Bytes b) (hl : b.length ≤ 140737488355328) (whole : Bool) : Ev (fun k => ip4_read.f k b whole) (if bad whole b = 0 then hdF b ([], (hlen b : Int), wd b 2, 0) else hd0 ([], 0, 0, bad whole b)) := by
  unfold hdF hd0
  refine Ev.congr (fun k => by rw [ip4_read.f, measure_f hb hl whole, Option.bind_some]) ?_
  by_cases h1 : ¬ (badLen whole b = 0)
  · have e : bad whole b = badLen whole b := by unfold bad; rw [if_pos h1]
    rw [if_neg (show ¬ bad whole b = 0 by rw [e]; exact h1), e]
    exact Ev.congr (fun k => by rw [if_neg h1, if_neg h1]) (Ev.now _)
  replace h1 : badLen whole b = 0 := Decidable.of_not_not h1
  obtain ⟨a1, a2, a3, a4, a5, a6⟩ := badLen_zero h1
  have hw6 := wd_range hb 6
  have hw2 := wd_range hb 2
  have g0 := hb.getD 0
  have hh : hlen b ≤ 60 := by unfold hlen; omega
  refine Ev.congr (fun k => by rw [if_pos h1, if_pos rfl, if_pos (show (0 : Int) ≤ (hlen b : Int) by omega), if_pos (show (hlen b : Int) ≤ (b.length : Int) by omega)]) ?_
  simp only [Int.toNat_natCast]
  refine Ev.bind (sum_one (hb.take _) (by rw [List.length_take]; omega)) ?_
  by_cases h2 : 65535 - S (tot true (b.take (hlen b))) ≠ 0
  · have e : bad whole b = 33 := by unfold bad; rw [if_neg (by omega), if_pos h2]
    rw [if_neg (show ¬ bad whole b = 0 by rw [e]; decide), e]
    exact Ev.congr (fun k => by rw [if_neg h2]) (Ev.now _)
  refine Ev.congr (fun k => by rw [if_pos (by omega), word_f hb (i := 6) (j := 6) rfl (by omega) (by omega), Option.bind_some]) ?_
  by_cases h3 : 32768 ≤ wd b 6
  · have e : bad whole b = 32 := by unfold bad; rw [if_neg (by omega), if_neg h2, if_pos h3]
    rw [if_neg (show ¬ bad whole b = 0 by rw [e]; decide), e]
    exact Ev.congr (fun k => by rw [if_neg (by rw [and_top hw6.1 hw6.2]; omega)]) (Ev.now _)
  refine Ev.congr (fun k => by rw [if_pos (by rw [and_top hw6.1 hw6.2]; omega), if_pos (show (20 : Int) ≤ (hlen b : Int) by omega)]) ?_
  refine Ev.bind (options_f ((hb.take _).drop _) (by rw [List.length_drop, List.length_take]; omega)) ?_
  by_cases h4 : ¬ oOK ((b.take (hlen b)).drop 20) = true
  · have e : bad whole b = 34 := by unfold bad; rw [if_neg (by omega), if_neg h2, if_neg h3, if_pos h4]
    rw [if_neg (show ¬ bad whole b = 0 by rw [e]; decide), e]
    exact Ev.congr (fun k => by rw [if_neg h4]) (Ev.now _)
  have eo : wrap64 ((wrap64 (Go.bits .and .u16 (wd b 6) 8191)) * 8) = wd b 6 % 8192 * 8 := by rw [and_off hw6.1 hw6.2, w64 (i := wd b 6 % 8192) (by omega) (by omega), w64 (by omega) (by omega)]
  refine Ev.congr (fun k => by rw [if_pos (Decidable.of_not_not h4), eo, and_mf hw6.1 hw6.2, and_df hw6.1 hw6.2, w64 (i := wd b 2 - hlen b) (by omega) (by omega), orderly_f (by omega) (by omega), Option.bind_some]) ?_
  by_cases h5 : ¬ ordB (wd b 6 % 8192 * 8) (wd b 2 - hlen b) (decide (wd b 6 / 8192 % 2 = 1)) = true
  · have e : bad whole b = 36 := by unfold bad; rw [if_neg (by omega), if_neg h2, if_neg h3, if_neg h4, if_pos h5]
    rw [if_neg (show ¬ bad whole b = 0 by rw [e]; decide), e]
    exact Ev.congr (fun k => by rw [if_neg h5]) (Ev.now _)
  have e : bad whole b = 0 := by unfold bad; rw [if_neg (by omega), if_neg h2, if_neg h3, if_neg h4, if_neg h5]
  rw [if_pos e]
  refine Ev.congr (fun k => by rw [if_pos (Decidable.of_not_not h5), if_pos (by omega), word_f hb (i := 4) (j := 4) rfl (by omega) (by omega), Option.bind_some, if_pos (by omega), if_pos (by omega), long_f hb (i := 12) (j := 12) rfl (by omega) (by omega), Option.bind_some, long_f hb (i := 16) (j := 16) rfl (by omega) (by omega), Option.bind_some]) ?_
  exact Ev.now _

theorem apart_f {x y : List Int} (hx : x.length ≤ 1000000) (hy : y.length ≤ 100000000000000) : ip4_apart.f x y = some (x, y) := by
  unfold ip4_apart.f
  by_cases h : (x.length : Int) = 0
  · obtain rfl : x = [] := List.eq_nil_of_length_eq_zero (by omega)
    rw [if_pos h, if_pos (by simp; omega), List.nil_append]
  · have e : wrap64 ((x.length : Int) + (y.length : Int)) = ((x.length + y.length : Nat) : Int) := by rw [w64 (by omega) (by omega)]; omega
    have c1 : cpy (List.replicate (x.length + y.length) 0) 0 x = x ++ List.replicate y.length 0 := by
      have := cpy_at [] (List.replicate (x.length + y.length) 0) x 0 rfl (by rw [List.length_replicate]; omega)
      rw [List.nil_append, List.nil_append, List.drop_replicate, Nat.add_sub_cancel_left] at this
      exact this
    have c2 : cpy (x ++ List.replicate y.length 0) x.length y = x ++ y := by
      rw [cpy_at _ _ _ _ rfl (by rw [List.length_replicate]; omega), List.drop_eq_nil_of_le (by rw [List.length_replicate]; omega), List.append_nil]
    rw [if_neg h, e, if_pos (by omega), Int.toNat_natCast, if_pos (by omega), Option.bind_some, if_pos (by omega), if_pos (by rw [List.length_replicate]; omega), Int.toNat_natCast, c1, c2, Option.bind_some, List.length_replicate, Int.toNat_natCast]
    congr 1
    rw [List.take_left' rfl, List.take_of_length_le (by rw [List.length_append]; omega), List.drop_left' rfl]
/-- The options and the body that a packet's bytes hold. -/
def optsOf (b : List Int) : List Int := (b.take (hlen b)).drop 20
def bodyOf (b : List Int) : List Int := (b.take (wd b 2).toNat).drop (hlen b)
theorem hlen_le {b : List Int} (hb : Bytes b) : hlen b ≤ 60 := by
  have g0 := hb.getD 0
  unfold hlen
  omega
theorem parse_f {b : List Int} (hb : Bytes b) (hl : b.length ≤ 140737488355328) : Ev (fun k => ip4_Parse.f k b) (if bad true b = 0 then hdF b (optsOf b, bodyOf b, 0) else hd0 ([], [], bad true b)) := by
  refine Ev.bind (read_f hb hl true) ?_
  by_cases h : ¬ (bad true b = 0)
  · simp only [if_neg h, hd0]
    exact Ev.now _
  replace h : bad true b = 0 := Decidable.of_not_not h
  obtain ⟨a1, a2, a3, a4, a5, a6⟩ := badLen_zero (bad_zero h).1
  have a7 := a6 rfl
  have hw2 := wd_range hb 2
  have hh := hlen_le hb
  simp only [if_pos h, hdF]
  refine Ev.congr (fun k => by rw [if_pos True.intro, if_pos (by omega), if_pos (by omega), if_pos (by omega), if_pos a5, if_pos a7, Int.toNat_natCast, apart_f (by rw [List.length_drop, List.length_take]; omega) (by rw [List.length_drop, List.length_take]; omega), Option.bind_some]) ?_
  exact Ev.now _
/-- How many bytes of the packet are there. -/
def there (b : List Int) : Nat := min (wd b 2).toNat b.length
theorem heads_f (k : Nat) (a0 a1 : Int) (a2 a3 : Bool) (a4 a5 a6 a7 a8 : Int) (a9 : List Int) (h : a9.length ≤ 140737488355328) (b9 : List Int) : Ev (fun k => weftlaw3_heads.f k a0 a1 a2 a3 a4 a5 a6 a7 a8 a9 a0 a1 a2 a3 a4 a5 a6 a7 a8 b9) (decide (a9 = b9)) := by
  refine Ev.congr (f := fun k => (weftlaw3_same.f k a9 b9).bind fun t => some t) (fun k => by
    unfold weftlaw3_heads.f
    rw [if_pos rfl, if_pos rfl, if_neg (by simp), if_neg (by simp), if_pos rfl, if_pos rfl, if_pos rfl, if_pos rfl, if_pos rfl]) ?_
  exact Ev.bind (same_f a9 b9 h) (Ev.now _)
theorem packets_f (a0 a1 : Int) (a2 a3 : Bool) (a4 a5 a6 a7 a8 : Int) (a9 a10 : List Int) (h : a9.length ≤ 140737488355328) (h2 : a10.length ≤ 140737488355328) :
    Ev (fun k => weftlaw3_packets.f k a0 a1 a2 a3 a4 a5 a6 a7 a8 a9 a10 a0 a1 a2 a3 a4 a5 a6 a7 a8 a9 a10) true := by
  refine Ev.bind (heads_f 0 a0 a1 a2 a3 a4 a5 a6 a7 a8 a9 h a9) ?_
  simp only [decide_true, if_true]
  refine Ev.bind (same_f a10 a10 h2) ?_
  simp only [decide_true]
  exact Ev.now _
end Go.Proofs.YtbacmhegalncjaaX
