/- Plain definitions and theorems about numbers, lists and packets; no program in sight.
   Conditions: as told in each. -/
import Derived.Test.YtphbdmafchjjeaaDoorHXMath
import Derived.Test.YtphbdmafchjjeaaDoorHSPure
namespace Go.Proofs.YtphbdmafchjjeaaDoorX
open Go
set_option linter.unusedVariables false
set_option linter.unusedSimpArgs false
theorem take_getD {l : List Int} {n i : Nat} (h : i < n) : (l.take n).getD i 0 = l.getD i 0 := by
  simp only [List.getD_eq_getElem?_getD]
  rw [List.getElem?_take_of_lt h]
theorem take_wd {l : List Int} {n i : Nat} (h : i + 1 < n) : wd (l.take n) i = wd l i := by
  unfold wd
  rw [take_getD (by omega), take_getD (by omega)]
theorem take_lg {l : List Int} {n i : Nat} (h : i + 3 < n) : lg (l.take n) i = lg l i := by
  unfold lg
  rw [take_wd (by omega), take_wd (by omega)]
theorem take_hlen {l : List Int} {n : Nat} (h : 0 < n) : hlen (l.take n) = hlen l := by
  unfold hlen
  rw [take_getD h]
theorem take_hdF {β : Type} {l : List Int} {n : Nat} (h : 20 ≤ n) (z : β) : hdF (l.take n) z = hdF l z := by
  unfold hdF
  rw [take_getD (by omega), take_getD (by omega), take_getD (by omega), take_wd (by omega), take_wd (by omega), take_lg (by omega), take_lg (by omega)]
theorem own_hlen (p : Pk) (h : p.opts.length ≤ 40 ∧ p.opts.length % 4 = 0) (s : Int) : hlen (p.bytes s) = 20 + p.opts.length := by
  have g0 : (p.bytes s).getD 0 0 = p.h0 := rfl
  unfold hlen
  rw [g0]
  unfold Pk.h0 Pk.hl
  omega
theorem cut_short {p : Pk} (h : p.Fine) (he : p.err = 0) {n : Nat} (hn : n < 20 + p.opts.length) (w : Bool) : bad w ((p.bytes p.sum).take n) = 30 := by
  have ho := oOK_len (Pk.err_zero he).1
  have hlen : ((p.bytes p.sum).take n).length = n := by
    have : (p.bytes p.sum).length = p.tl := Pk.bytes_len _ _
    rw [List.length_take, this]
    unfold Pk.tl
    omega
  have hb : badLen w ((p.bytes p.sum).take n) = 30 := by
    unfold badLen
    rw [hlen]
    by_cases h20 : n < 20
    · rw [if_pos h20]
    · have g0 : (p.bytes p.sum).getD 0 0 = p.h0 := rfl
      have e4 : ((p.bytes p.sum).take n).getD 0 0 / 16 = 4 := by
        rw [take_getD (by omega), g0]
        unfold Pk.h0 Pk.hl
        omega
      rw [if_neg h20, if_neg (by omega), take_hlen (by omega), own_hlen p ho, if_neg (by omega), if_pos hn]
  unfold bad
  rw [if_pos (by omega), hb]
structure Cut (p : Pk) (n : Nat) : Prop where
  front : bad false ((p.bytes p.sum).take n) = 0
  head : ∀ {β : Type} (z : β), hdF ((p.bytes p.sum).take n) z = (p.tos, p.id, p.df, p.mf, p.off, p.ttl, p.proto, p.src, p.dst, z)
  opts : optsOf ((p.bytes p.sum).take n) = p.opts
  rest : (((p.bytes p.sum).take n).take (there ((p.bytes p.sum).take n))).drop (hlen ((p.bytes p.sum).take n)) = ((p.bytes p.sum).take n).drop (20 + p.opts.length)
  short : n < p.tl → bad true ((p.bytes p.sum).take n) = 30
theorem cut_ok {p : Pk} (h : p.Fine) (he : p.err = 0) {n : Nat} (h1 : 20 + p.opts.length ≤ n) (h2 : n ≤ p.tl) : Cut p n := by
  have ho := oOK_len (Pk.err_zero he).1
  have htl := tl_le he
  have hB : (p.bytes p.sum).length = p.tl := Pk.bytes_len _ _
  have hc : ((p.bytes p.sum).take n).length = n := by rw [List.length_take, hB]; omega
  have R := reads_own' h he
  have ehl := own_hlen p ho p.sum
  have w2 : wd (p.bytes p.sum) 2 = (p.tl : Int) := by
    have := wd_tl p htl.2 p.sum []
    rwa [List.append_nil] at this
  obtain ⟨b1, b2, b3, b4, b5⟩ := bad_zero R.whole
  obtain ⟨a1, a2, a3, a4, a5, a6⟩ := badLen_zero b1
  have cw2 : wd ((p.bytes p.sum).take n) 2 = (p.tl : Int) := by rw [take_wd (by omega), w2]
  have chl : hlen ((p.bytes p.sum).take n) = 20 + p.opts.length := by rw [take_hlen (by omega), ehl]
  have cth : ((p.bytes p.sum).take n).take (20 + p.opts.length) = (p.bytes p.sum).take (20 + p.opts.length) := by rw [List.take_take, Nat.min_eq_left h1]
  have c4 : ((p.bytes p.sum).take n).getD 0 0 / 16 = 4 := by rw [take_getD (by omega)]; exact a2
  rw [ehl] at b2 b4 b5
  have hfront : bad false ((p.bytes p.sum).take n) = 0 := by
    refine bad_of (badLen_of (by omega) c4 (by omega) (by omega) (by omega) (fun h => by cases h)) ?_ ?_ ?_ ?_
    · rw [chl, cth]; exact b2
    · rw [take_wd (by omega)]; exact b3
    · rw [chl, cth]; exact b4
    · rw [take_wd (by omega), take_wd (by omega), chl]; exact b5
  refine ⟨hfront, fun z => ?_, ?_, ?_, fun hlt => ?_⟩
  · rw [take_hdF (by omega)]
    exact R.head z
  · have := R.opts
    unfold optsOf at this ⊢
    rw [chl, cth]
    rw [ehl] at this
    exact this
  · rw [chl]
    have : there ((p.bytes p.sum).take n) = n := by
      unfold there
      rw [cw2, hc]
      omega
    rw [this, List.take_of_length_le (by omega)]
  · have hb : badLen true ((p.bytes p.sum).take n) = 30 := by
      unfold badLen
      rw [hc, if_neg (by omega), if_neg (by omega), chl, if_neg (by omega), if_neg (by omega), cw2, if_neg (by omega), if_pos ⟨rfl, by omega⟩]
    unfold bad
    rw [if_pos (by omega), hb]
end Go.Proofs.YtphbdmafchjjeaaDoorX
