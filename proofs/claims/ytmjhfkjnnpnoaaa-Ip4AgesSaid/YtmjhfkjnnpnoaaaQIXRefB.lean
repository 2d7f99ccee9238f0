/- What the document's own answer (weftref3) makes of reading, building and ageing: the same plain functions.
   Conditions: bytes are 0 to 255, the lists short enough for 64 bits. -/
import Derived.Test.YtmjhfkjnnpnoaaaQIXRef
import Derived.Test.YtmjhfkjnnpnoaaaQIXRead
import Derived.Test.YtmjhfkjnnpnoaaaQIXAx5
import Derived.Test.YtmjhfkjnnpnoaaaQIXAx6
import Derived.Test.YtmjhfkjnnpnoaaaQIXAx7
import Derived.Test.YtmjhfkjnnpnoaaaQIXAx10
import Derived.Test.YtmjhfkjnnpnoaaaQIXAx11
namespace Go.Proofs.YtmjhfkjnnpnoaaaX
open Go.RowKit Go.Proofs.Ytmjhfkjnnpnoaaa.XA Go.Proofs.YtmjhfkjnnpnoaaaW.PrintWords Go.Proofs.YtmjhfkjnnpnoaaaW.PrintLast Go.Proofs.YtmjhfkjnnpnoaaaW.PrintMore
set_option linter.unusedVariables false
set_option linter.unusedSimpArgs false

/-! ### Build -/
theorem small3_fine : (⟨0, 7216, true, false, 0, 64, 6, 167838211, 167904004, [], [1, 2, 3]⟩ : Pk).Fine := by
  refine ⟨?_, ?_, ?_, ?_, ?_, ?_, ?_, ?_, ?_, ?_, ?_⟩ <;> simp [Bytes]
theorem small3_err : (⟨0, 7216, true, false, 0, 64, 6, 167838211, 167904004, [], [1, 2, 3]⟩ : Pk).err = 0 := by
  refine Pk.err_of ?_ ?_ ?_
  · simp [oOK, area]
  · simp [ordB]
  · simp
theorem put2_r {l : List Int} {n : Int} (h0 : 0 ≤ n) (h1 : n ≤ 9223372036854775807) (hl : l.length < 140737488355000) : weftref3_put2.f l n = some (l ++ [n / 256 % 256, n % 256]) := by
  have e1 : Int.tdiv n 256 = n / 256 := Int.tdiv_eq_ediv_of_nonneg h0
  have e2 : Int.tmod n 256 = n % 256 := Int.tmod_eq_emod_of_nonneg h0
  have e3 : wrap64 (n / 256) = n / 256 := w64 (by omega) (by omega)
  have e4 : n % 256 % 256 = n % 256 := by omega
  rw [weftref3_put2.f, e1, e2, e3, e4, Option.bind_some, if_pos (by simp; omega)]
theorem put2_r2 {l : List Int} {n : Int} (h : 0 ≤ n ∧ n ≤ 4611686018427387904) (hl : l.length < 140737488355000) : weftref3_put2.f l n = some (l ++ [n / 256 % 256, n % 256]) := put2_r h.1 (by omega) hl
theorem ww {x : Int} (h : 0 ≤ x ∧ x ≤ 4611686018427387904) : wrap64 x = x := w64 (by omega) (by omega)
theorem tdiv_pos {x : Int} (h : 0 ≤ x / 8) : 0 ≤ x := by omega
theorem headr_loop (a0 a1 : Int) (a2 a3 : Bool) (a4 a5 a6 a7 a8 : Int) (o : List Int) (ho : o.length ≤ 1000000) (d : Nat) : ∀ (j : Nat) (l : List Int), j + d = o.length → l.length ≤ 1000000 + j →
    Ev (fun k => weftref3_header.l0 k l (j : Int) a0 a1 a2 a3 a4 a5 a6 a7 a8 o) (l ++ o.drop j) := by
  induction d with
  | zero =>
    intro j l hj hl
    rw [List.drop_eq_nil_of_le (by omega), List.append_nil]
    exact Ev.step (fun k => by rw [weftref3_header.l0, if_neg (by omega)]) (Ev.now _)
  | succ d ih =>
    intro j l hj hl
    have hlt : j < o.length := by omega
    refine Ev.step (fun k => by rw [weftref3_header.l0, if_pos (by omega), if_pos (by omega), rd_lt _ _ hlt, if_pos (by omega), one_up (by omega)]) ?_
    have := ih (j + 1) (l ++ [o[j]]) (by omega) (by rw [List.length_append, List.length_singleton]; omega)
    rw [List.append_assoc, List.singleton_append, ← List.drop_eq_getElem_cons hlt] at this
    exact this
theorem header_r {p : Pk} (h : p.Fine) (he : p.err = 0) {s : Int} (h0 : 0 ≤ s) (h1 : s ≤ 65535) :
    Ev (fun k => weftref3_header.f k p.tos p.id p.df p.mf p.off p.ttl p.proto p.src p.dst p.opts (p.tl : Int) s) (p.head s) := by
  obtain ⟨q1, q2, q3⟩ := Pk.err_zero he
  have ho := oOK_len q1
  have hod := (ordB_true q2).1
  have hid := h.id
  have hsrc := h.src
  have hdst := h.dst
  have htl := tl_le he
  have hfl : 0 ≤ p.fl ∧ p.fl ≤ 32767 := Pk.fl_range q2
  have R1 : 0 ≤ (p.opts.length : Int) / 4 ∧ (p.opts.length : Int) / 4 ≤ 4611686018427387904 := by omega
  have R2 : 0 ≤ 69 + (p.opts.length : Int) / 4 ∧ 69 + (p.opts.length : Int) / 4 ≤ 4611686018427387904 := by omega
  have R4 : 0 ≤ p.id ∧ p.id ≤ 4611686018427387904 := by omega
  have R6 : 0 ≤ p.off / 8 ∧ p.off / 8 ≤ 4611686018427387904 := by omega
  have R7 : 0 ≤ p.off / 8 + 16384 ∧ p.off / 8 + 16384 ≤ 4611686018427387904 := by omega
  have R8 : 0 ≤ p.off / 8 + 16384 + 8192 ∧ p.off / 8 + 16384 + 8192 ≤ 4611686018427387904 := by omega
  have R9 : 0 ≤ p.off / 8 + 8192 ∧ p.off / 8 + 8192 ≤ 4611686018427387904 := by omega
  have Rs : 0 ≤ s ∧ s ≤ 4611686018427387904 := by omega
  have Ra : 0 ≤ p.src ∧ p.src ≤ 4611686018427387904 := by omega
  have Rb : 0 ≤ p.dst ∧ p.dst ≤ 4611686018427387904 := by omega
  have Rc : 0 ≤ p.src / 65536 ∧ p.src / 65536 ≤ 4611686018427387904 := by omega
  have Rd : 0 ≤ p.dst / 65536 ∧ p.dst / 65536 ≤ 4611686018427387904 := by omega
  have Re : 0 ≤ p.src % 65536 ∧ p.src % 65536 ≤ 4611686018427387904 := by omega
  have Rf : 0 ≤ p.dst % 65536 ∧ p.dst % 65536 ≤ 4611686018427387904 := by omega
  have Rt : 0 ≤ (p.tl : Int) ∧ (p.tl : Int) ≤ 4611686018427387904 := by omega
  have Rl : 0 ≤ p.fl ∧ p.fl ≤ 4611686018427387904 := by omega
  have hol : p.opts.length ≤ 1000000 := by omega
  have e3 : (69 + (p.opts.length : Int) / 4) % 256 = p.h0 := by unfold Pk.h0 Pk.hl; omega
  have E : (p.fr ++ [s / 256 % 256, s % 256] ++ [p.src / 65536 / 256 % 256, p.src / 65536 % 256, p.src % 65536 / 256 % 256, p.src % 65536 % 256, p.dst / 65536 / 256 % 256, p.dst / 65536 % 256, p.dst % 65536 / 256 % 256, p.dst % 65536 % 256]) ++ p.opts.drop 0 = p.head s := by
    rw [List.drop_zero, show p.src / 65536 / 256 % 256 = p.src / 16777216 by omega, show p.src % 65536 / 256 % 256 = p.src / 256 % 256 by omega, show p.src % 65536 % 256 = p.src % 256 by omega, show p.dst / 65536 / 256 % 256 = p.dst / 16777216 by omega, show p.dst % 65536 / 256 % 256 = p.dst / 256 % 256 by omega, show p.dst % 65536 % 256 = p.dst % 256 by omega]
    simp [Pk.head, Pk.bk]
  clear hod hid hsrc hdst htl
  have e1 := ww R1
  have e2 := ww R2
  have e4 := ww R4
  have e5 : Int.tdiv p.off 8 = p.off / 8 := Int.tdiv_eq_ediv_of_nonneg (tdiv_pos R6.1)
  have e6 := ww R6
  have e7 := ww R7
  have e8 := ww R8
  have e9 := ww R9
  have f1 := ww Rs
  have f2 := ww Ra
  have f3 := ww Rb
  have f4 : Int.tdiv p.src 65536 = p.src / 65536 := Int.tdiv_eq_ediv_of_nonneg Ra.1
  have f5 : Int.tdiv p.dst 65536 = p.dst / 65536 := Int.tdiv_eq_ediv_of_nonneg Rb.1
  have f6 : Int.tmod p.src 65536 = p.src % 65536 := Int.tmod_eq_emod_of_nonneg Ra.1
  have f7 : Int.tmod p.dst 65536 = p.dst % 65536 := Int.tmod_eq_emod_of_nonneg Rb.1
  have f8 := ww Rc
  have f9 := ww Rd
  have hend : Ev (fun k => weftref3_header.j1 k s [p.h0, p.tos, (p.tl : Int) / 256 % 256, (p.tl : Int) % 256, p.id / 256 % 256, p.id % 256] p.fl p.tos p.id p.df p.mf p.off p.ttl p.proto p.src p.dst p.opts) (p.head s) := by
    refine Ev.step (fun k => by rw [weftref3_header.j1, put2_r2 Rl (by simp), Option.bind_some, Option.bind_some, if_pos (by simp), f1, f2, f3, f4, f5, f6, f7, f8, f9, put2_r2 Rs (by simp), Option.bind_some, put2_r2 Rc (by simp), Option.bind_some, put2_r2 Re (by simp), Option.bind_some, put2_r2 Rd (by simp), Option.bind_some, put2_r2 Rf (by simp), Option.bind_some]) ?_
    have := headr_loop p.tos p.id p.df p.mf p.off p.ttl p.proto p.src p.dst p.opts hol p.opts.length 0 (p.fr ++ [s / 256 % 256, s % 256] ++ [p.src / 65536 / 256 % 256, p.src / 65536 % 256, p.src % 65536 / 256 % 256, p.src % 65536 % 256, p.dst / 65536 / 256 % 256, p.dst / 65536 % 256, p.dst % 65536 / 256 % 256, p.dst % 65536 % 256]) (Nat.zero_add _) (by simp [Pk.fr])
    rw [E] at this
    exact this
  refine Ev.congr (fun k => by rw [weftref3_header.f, e1, e2, e3, Option.bind_some, if_pos (by simp), List.nil_append, put2_r2 Rt (by simp), Option.bind_some, e4, put2_r2 R4 (by simp), Option.bind_some, e5, e6, e7]) ?_
  cases hd : p.df <;> cases hm : p.mf
  · have e : p.fl = p.off / 8 := by unfold Pk.fl; rw [hd, hm]; simp
    rw [hd, hm, e] at hend
    exact Ev.congr (fun k => by rw [if_neg (by decide)]) (Ev.step (fun k => by rw [weftref3_header.j0, if_neg (by decide)]; rfl) hend)
  · have e : p.fl = p.off / 8 + 8192 := by unfold Pk.fl; rw [hd, hm]; simp
    rw [hd, hm, e] at hend
    exact Ev.congr (fun k => by rw [if_neg (by decide)]) (Ev.step (fun k => by rw [weftref3_header.j0, if_pos rfl, e9]; rfl) hend)
  · have e : p.fl = p.off / 8 + 16384 := by unfold Pk.fl; rw [hd, hm]; simp
    rw [hd, hm, e] at hend
    exact Ev.congr (fun k => by rw [if_pos rfl]) (Ev.step (fun k => by rw [weftref3_header.j0, if_neg (by decide)]; rfl) hend)
  · have e : p.fl = p.off / 8 + 16384 + 8192 := by unfold Pk.fl; rw [hd, hm]; simp
    rw [hd, hm, e] at hend
    exact Ev.congr (fun k => by rw [if_pos rfl]) (Ev.step (fun k => by rw [weftref3_header.j0, if_pos rfl, e8]; rfl) hend)
theorem len3 {a b : Nat} (ha : a ≤ 140737488351232) (hb : b ≤ 140737488351232) : wrap64 (wrap64 (20 + (a : Int)) + (b : Int)) = ((20 + a + b : Nat) : Int) := by
  have e1 : wrap64 (20 + (a : Int)) = 20 + (a : Int) := w64 (by omega) (by omega)
  have e2 : wrap64 (20 + (a : Int) + (b : Int)) = 20 + (a : Int) + (b : Int) := w64 (by omega) (by omega)
  rw [e1, e2]
  omega
theorem refused_r {p : Pk} (h : p.Fine) : Ev (fun k => weftref3_Refused.f k p.tos p.id p.df p.mf p.off p.ttl p.proto p.src p.dst p.opts p.body) p.err := by
  have hlo := h.lo
  have hlb := h.lb
  refine Ev.bind (area_r h.opts (by omega)) ?_
  unfold Pk.err
  by_cases h1 : oOK p.opts = true
  · refine Ev.congr (fun k => by rw [if_pos h1, piece_r (by omega) (by omega), Option.bind_some]) ?_
    rw [if_pos h1]
    by_cases h2 : ordB p.off (p.body.length : Int) p.mf = true
    · rw [if_pos h2]
      by_cases h3 : 20 + p.opts.length + p.body.length ≤ 65535
      · rw [if_pos h3]
        exact Ev.congr (fun k => by rw [if_pos h2, len3 hlo hlb, if_neg (by omega)]) (Ev.now _)
      · rw [if_neg h3]
        exact Ev.congr (fun k => by rw [if_pos h2, len3 hlo hlb, if_pos (by omega)]) (Ev.now _)
    · rw [if_neg h2]
      exact Ev.congr (fun k => by rw [if_neg h2]) (Ev.now _)
  · rw [if_neg h1]
    exact Ev.congr (fun k => by rw [if_neg h1]) (Ev.now _)
theorem buildr_loop (a0 a1 : Int) (a2 a3 : Bool) (a4 a5 a6 a7 a8 : Int) (o b : List Int) (hb : b.length ≤ 1000000) (d : Nat) : ∀ (j : Nat) (l : List Int), j + d = b.length → l.length ≤ 1000000 + j →
    Ev (fun k => weftref3_Build.l0 k l (j : Int) a0 a1 a2 a3 a4 a5 a6 a7 a8 o b) (l ++ b.drop j, 0) := by
  induction d with
  | zero =>
    intro j l hj hl
    rw [List.drop_eq_nil_of_le (by omega), List.append_nil]
    exact Ev.step (fun k => by rw [weftref3_Build.l0, if_neg (by omega)]) (Ev.now _)
  | succ d ih =>
    intro j l hj hl
    have hlt : j < b.length := by omega
    refine Ev.step (fun k => by rw [weftref3_Build.l0, if_pos (by omega), if_pos (by omega), rd_lt _ _ hlt, if_pos (by omega), one_up (by omega)]) ?_
    have := ih (j + 1) (l ++ [b[j]]) (by omega) (by rw [List.length_append, List.length_singleton]; omega)
    rw [List.append_assoc, List.singleton_append, ← List.drop_eq_getElem_cons hlt] at this
    exact this
theorem build_r {p : Pk} (h : p.Fine) : Ev (fun k => weftref3_Build.f k p.tos p.id p.df p.mf p.off p.ttl p.proto p.src p.dst p.opts p.body) (if p.err = 0 then (p.bytes p.sum, 0) else ([], p.err)) := by
  have hlo := h.lo
  have hlb := h.lb
  refine Ev.bind (refused_r h) ?_
  by_cases he : ¬ (p.err = 0)
  · rw [if_neg he]
    exact Ev.congr (fun k => by rw [if_neg he]) (Ev.now _)
  replace he : p.err = 0 := Decidable.of_not_not he
  rw [if_pos he]
  have htl : ((20 + p.opts.length + p.body.length : Nat) : Int) = (p.tl : Int) := rfl
  have hs := Pk.sum_range h he
  have hb3 := (Pk.err_zero he).2.2
  refine Ev.congr (fun k => by rw [if_pos he, len3 hlo hlb, htl]) ?_
  refine Ev.bind (header_r h he (s := 0) (by omega) (by omega)) ?_
  refine Ev.bind (sum_r1 (Pk.head_bytes h he 0) (by rw [Pk.head_len]; omega)) ?_
  have e : 65535 - S (tot true (p.head 0)) = p.sum := by
    rw [Pk.head_tot (by omega) (by omega), Int.add_zero]
    rfl
  rw [e]
  refine Ev.bind (header_r h he hs.1 (by omega)) ?_
  have := buildr_loop p.tos p.id p.df p.mf p.off p.ttl p.proto p.src p.dst p.opts p.body (by omega) p.body.length 0 (p.head p.sum) (by omega) (by rw [Pk.head_len]; omega)
  rw [List.drop_zero] at this
  exact this

/-! ### reading -/
theorem two_r {b : List Int} (h : Bytes b) {i : Nat} {j : Int} (hj : j = i) (hl : i + 1 < b.length) (hm : i ≤ 1000000) : weftref3_two.f b j = some (wd b i) := by
  subst hj
  have h0 := h.getD i
  have h1 := h.getD (i + 1)
  have hw : wrap64 ((i : Int) + 1) = ((i + 1 : Nat) : Int) := one_up (by omega)
  have e1 : wrap64 (b.getD i 0) = b.getD i 0 := w64 (by omega) (by omega)
  have e2 : wrap64 (256 * b.getD i 0) = 256 * b.getD i 0 := w64 (by omega) (by omega)
  have e3 : wrap64 (b.getD (i + 1) 0) = b.getD (i + 1) 0 := w64 (by omega) (by omega)
  have e4 : wrap64 (256 * b.getD i 0 + b.getD (i + 1) 0) = 256 * b.getD i 0 + b.getD (i + 1) 0 := w64 (by omega) (by omega)
  rw [weftref3_two.f, if_pos (by omega), if_pos (by omega), hw, if_pos (by omega), if_pos (by omega), rd_nat, rd_nat, e1, e2, e3, e4]
  unfold wd
  rw [Int.mul_comm]
theorem four_r {b : List Int} (h : Bytes b) {i : Nat} {j : Int} (hj : j = i) (hl : i + 3 < b.length) (hm : i ≤ 999000) : weftref3_four.f b j = some (lg b i) := by
  have h0 := wd_range h i
  have h1 := wd_range h (i + 2)
  have hw : wrap64 (j + 2) = ((i + 2 : Nat) : Int) := by
    have : wrap64 (j + 2) = j + 2 := w64 (by omega) (by omega)
    rw [this]
    omega
  have e1 : wrap64 (65536 * wd b i) = 65536 * wd b i := w64 (by omega) (by omega)
  have e2 : wrap64 (65536 * wd b i + wd b (i + 2)) = 65536 * wd b i + wd b (i + 2) := w64 (by omega) (by omega)
  rw [weftref3_four.f, two_r h hj (by omega) (by omega), hw, Option.bind_some, two_r h rfl (by omega) (by omega), Option.bind_some, e1, e2]
  unfold lg
  rw [Int.mul_comm]
theorem cloner_loop (l : List Int) (hl : l.length ≤ 140737488355327) (d : Nat) : ∀ (j : Nat), j + d = l.length → Ev (fun k => weftref3_clone.l0 k l (l.take j) (j : Int)) l := by
  induction d with
  | zero =>
    intro j hj
    have : j = l.length := by omega
    subst this
    rw [List.take_length]
    exact Ev.step (fun k => by rw [weftref3_clone.l0, if_neg (by omega)]) (Ev.now _)
  | succ d ih =>
    intro j hj
    have hlt : j < l.length := by omega
    refine Ev.step (fun k => by rw [weftref3_clone.l0, if_pos (by omega), if_pos (by omega), if_pos (by rw [List.length_take]; omega), rd_lt _ _ hlt, one_up (by omega)]) ?_
    have := ih (j + 1) (by omega)
    rw [← List.take_append_getElem hlt] at this
    exact this
theorem clone_r {l : List Int} (hl : l.length ≤ 140737488355327) : Ev (fun k => weftref3_clone.f k l) l := by
  have := cloner_loop l hl l.length 0 (by omega)
  simpa [weftref3_clone.f] using this
theorem front_r {b : List Int} (hb : Bytes b) (hl : b.length ≤ 140737488355328) (whole : Bool) : weftref3_front.f b whole = some (if badLen whole b = 0 then ((hlen b : Int), wd b 2, 0) else (0, 0, badLen whole b)) := by
  unfold weftref3_front.f badLen
  by_cases h1 : b.length < 20
  · simp only [if_pos h1]
    rw [if_pos (by omega), if_neg (by decide)]
  simp only [if_neg h1]
  have g0 := hb.getD 0
  have er : rd b 0 = b.getD 0 0 := rfl
  have e1 : Int.tmod (b.getD 0 0) 16 = b.getD 0 0 % 16 := Int.tmod_eq_emod_of_nonneg g0.1
  have e2 : Int.tdiv (b.getD 0 0) 16 = b.getD 0 0 / 16 := Int.tdiv_eq_ediv_of_nonneg g0.1
  have e3 : wrap64 (b.getD 0 0 % 16) = b.getD 0 0 % 16 := w64 (by omega) (by omega)
  have e4 : wrap64 (4 * (b.getD 0 0 % 16)) = 4 * (b.getD 0 0 % 16) := w64 (by omega) (by omega)
  have eh : 4 * (b.getD 0 0 % 16) = (hlen b : Int) := by unfold hlen; omega
  have ev : b.getD 0 0 / 16 % 256 = b.getD 0 0 / 16 := by omega
  have hw := wd_range hb 2
  rw [if_neg (by omega), if_pos (by omega), er, e1, e2, e3, e4, eh, ev]
  by_cases h2 : ¬ (b.getD 0 0 / 16 = 4)
  · simp only [if_pos h2]
    rw [if_neg h2, if_neg (by decide)]
  replace h2 : b.getD 0 0 / 16 = 4 := Decidable.of_not_not h2
  simp only [if_neg (not_not_intro h2)]
  rw [if_pos h2]
  by_cases h3 : hlen b < 20
  · simp only [if_pos h3]
    rw [if_pos (by omega), if_neg (by decide)]
  simp only [if_neg h3]
  rw [if_neg (by omega)]
  by_cases h4 : b.length < hlen b
  · simp only [if_pos h4]
    rw [if_pos (by omega), if_neg (by decide)]
  simp only [if_neg h4]
  rw [if_neg (by omega), two_r hb (i := 2) (j := 2) rfl (by omega) (by omega), Option.bind_some]
  by_cases h5 : wd b 2 < hlen b
  · simp only [if_pos h5]
    rw [if_neg (by decide)]
  simp only [if_neg h5]
  by_cases h6 : whole = true ∧ (b.length : Int) < wd b 2
  · rw [if_pos h6, if_pos h6.1, if_pos h6.2, if_neg (by decide)]
  · rw [if_neg h6]
    by_cases hq : whole = true
    · rw [if_pos hq, if_neg (fun h => h6 ⟨hq, h⟩), if_pos rfl]
    · rw [if_neg hq, if_pos rfl]
theorem flag_top {b : List Int} (hb : Bytes b) : (32768 ≤ wd b 6 ↔ b.getD 6 0 / 32 ≥ 4) ∧ (wd b 6 / 16384 % 2 = b.getD 6 0 / 32 / 2 % 2) ∧ (wd b 6 / 8192 % 2 = b.getD 6 0 / 32 % 2) := by
  have h0 := hb.getD 6
  have h1 := hb.getD 7
  have e : wd b 6 = b.getD 6 0 * 256 + b.getD 7 0 := rfl
  rw [e]
  refine ⟨?_, ?_, ?_⟩ <;> omega
theorem read_r {b : List Int} (hb : Bytes b) (hl : b.length ≤ 140737488351232) (whole : Bool) : Ev (fun k => weftref3_read.f k b whole) (if bad whole b = 0 then hdF b (optsOf b, (b.take (there b)).drop (hlen b), 0) else hd0 ([], [], bad whole b)) := by
  unfold hdF hd0
  refine Ev.congr (fun k => by rw [weftref3_read.f, front_r hb (by omega) whole, Option.bind_some]) ?_
  by_cases h1 : ¬ (badLen whole b = 0)
  · have e : bad whole b = badLen whole b := by unfold bad; rw [if_pos h1]
    rw [if_neg (show ¬ bad whole b = 0 by rw [e]; exact h1), e]
    exact Ev.congr (fun k => by rw [if_neg h1, if_neg h1]) (Ev.now _)
  replace h1 : badLen whole b = 0 := Decidable.of_not_not h1
  obtain ⟨a1, a2, a3, a4, a5, a6⟩ := badLen_zero h1
  have hw6 := wd_range hb 6
  have hw2 := wd_range hb 2
  have hh := hlen_le hb
  have g6 := hb.getD 6
  have hft := flag_top hb
  have er : rd b 6 = b.getD 6 0 := rfl
  have e1 : wrap64 (b.getD 6 0) = b.getD 6 0 := w64 (by omega) (by omega)
  have e2 : Int.tdiv (b.getD 6 0) 32 = b.getD 6 0 / 32 := Int.tdiv_eq_ediv_of_nonneg g6.1
  have e3 : wrap64 (b.getD 6 0 / 32) = b.getD 6 0 / 32 := w64 (by omega) (by omega)
  have e4 : Int.tmod (b.getD 6 0 / 32) 2 = b.getD 6 0 / 32 % 2 := Int.tmod_eq_emod_of_nonneg (by omega)
  refine Ev.congr (fun k => by rw [if_pos h1, if_pos rfl, if_pos (show (0 : Int) ≤ (hlen b : Int) by omega), if_pos (show (hlen b : Int) ≤ (b.length : Int) by omega), er, e1, e2, e3, e4]) ?_
  simp only [Int.toNat_natCast]
  refine Ev.bind (sum_r1 (hb.take _) (by rw [List.length_take]; omega)) ?_
  by_cases h2 : 65535 - S (tot true (b.take (hlen b))) ≠ 0
  · have e : bad whole b = 33 := by unfold bad; rw [if_neg (by omega), if_pos h2]
    rw [if_neg (show ¬ bad whole b = 0 by rw [e]; decide), e]
    exact Ev.congr (fun k => by rw [if_neg h2]) (Ev.now _)
  refine Ev.congr (fun k => by rw [if_pos (by omega), if_pos (by omega)]) ?_
  by_cases h3 : 32768 ≤ wd b 6
  · have e : bad whole b = 32 := by unfold bad; rw [if_neg (by omega), if_neg h2, if_pos h3]
    rw [if_neg (show ¬ bad whole b = 0 by rw [e]; decide), e]
    exact Ev.congr (fun k => by rw [if_pos (hft.1.1 h3)]) (Ev.now _)
  refine Ev.congr (fun k => by rw [if_neg (fun h => h3 (hft.1.2 h)), if_pos (show (20 : Int) ≤ (hlen b : Int) by omega)]) ?_
  refine Ev.bind (area_r ((hb.take _).drop _) (by rw [List.length_drop, List.length_take]; omega)) ?_
  by_cases h4 : ¬ oOK ((b.take (hlen b)).drop 20) = true
  · have e : bad whole b = 34 := by unfold bad; rw [if_neg (by omega), if_neg h2, if_neg h3, if_pos h4]
    rw [if_neg (show ¬ bad whole b = 0 by rw [e]; decide), e]
    exact Ev.congr (fun k => by rw [if_neg h4]) (Ev.now _)
  have o1 : Int.tmod (wd b 6) 8192 = wd b 6 % 8192 := Int.tmod_eq_emod_of_nonneg hw6.1
  have o2 : wrap64 (8 * (wd b 6 % 8192)) = wd b 6 % 8192 * 8 := by
    have : wrap64 (8 * (wd b 6 % 8192)) = 8 * (wd b 6 % 8192) := w64 (by omega) (by omega)
    rw [this]
    omega
  have o3 : wrap64 (wd b 2 - hlen b) = wd b 2 - hlen b := w64 (by omega) (by omega)
  have o4 : (b.getD 6 0 / 32 % 2 == 1) = decide (wd b 6 / 8192 % 2 = 1) := by
    rw [← hft.2.2]
    rfl
  refine Ev.congr (fun k => by rw [if_pos (Decidable.of_not_not h4), two_r hb (i := 6) (j := 6) rfl (by omega) (by omega), Option.bind_some, o1, o2, o3, o4, piece_r (by omega) (by omega), Option.bind_some]) ?_
  by_cases h5 : ¬ ordB (wd b 6 % 8192 * 8) (wd b 2 - hlen b) (decide (wd b 6 / 8192 % 2 = 1)) = true
  · have e : bad whole b = 36 := by unfold bad; rw [if_neg (by omega), if_neg h2, if_neg h3, if_neg h4, if_pos h5]
    rw [if_neg (show ¬ bad whole b = 0 by rw [e]; decide), e]
    exact Ev.congr (fun k => by rw [if_neg h5]) (Ev.now _)
  have e : bad whole b = 0 := by unfold bad; rw [if_neg (by omega), if_neg h2, if_neg h3, if_neg h4, if_neg h5]
  rw [if_pos e]
  have hend : ∀ m : Nat, hlen b ≤ m → m ≤ b.length → m = there b → Ev (fun k => weftref3_read.j0 k b (hlen b : Int) (m : Int) (b.getD 6 0 / 32) (wd b 6 % 8192 * 8)) (b.getD 1 0, wd b 4, decide (wd b 6 / 16384 % 2 = 1), decide (wd b 6 / 8192 % 2 = 1), wd b 6 % 8192 * 8, b.getD 8 0, b.getD 9 0, lg b 12, lg b 16, optsOf b, (b.take (there b)).drop (hlen b), 0) := by
    intro m hm1 hm2 hm3
    have l12 := lg_range hb 12
    have l16 := lg_range hb 16
    have w4 := wd_range hb 4
    have d1 : Int.tdiv (b.getD 6 0 / 32) 2 = b.getD 6 0 / 32 / 2 := Int.tdiv_eq_ediv_of_nonneg (by omega)
    have d2 : wrap64 (b.getD 6 0 / 32 / 2) = b.getD 6 0 / 32 / 2 := w64 (by omega) (by omega)
    have d3 : Int.tmod (b.getD 6 0 / 32) 2 = b.getD 6 0 / 32 % 2 := Int.tmod_eq_emod_of_nonneg (by omega)
    have d4 : (b.getD 6 0 / 32 / 2 == 1) = decide (wd b 6 / 16384 % 2 = 1) := by
      rw [hft.2.1]
      have : ¬ b.getD 6 0 / 32 ≥ 4 := fun h => h3 (hft.1.2 h)
      by_cases hq : b.getD 6 0 / 32 / 2 = 1
      · rw [decide_eq_true (by omega), hq]; rfl
      · rw [decide_eq_false (by omega), beq_eq_false_iff_ne.mpr hq]
    have d5 : lg b 12 % 4294967296 = lg b 12 := by omega
    have d6 : lg b 16 % 4294967296 = lg b 16 := by omega
    refine Ev.step (fun k => by rw [weftref3_read.j0, if_pos (by omega), two_r hb (i := 4) (j := 4) rfl (by omega) (by omega), Option.bind_some, if_pos (by omega), if_pos (by omega), four_r hb (i := 12) (j := 12) rfl (by omega) (by omega), Option.bind_some, four_r hb (i := 16) (j := 16) rfl (by omega) (by omega), Option.bind_some, if_pos (by omega), if_pos (by omega), Int.toNat_natCast, Int.toNat_natCast, d1, d2, d3, d4, o4, d5, d6, u16_small w4.1 w4.2]) ?_
    refine Ev.bind (clone_r (by rw [List.length_drop, List.length_take]; omega)) ?_
    refine Ev.congr (fun k => by rw [if_pos (by omega), if_pos (by omega), if_pos (by omega)]) ?_
    refine Ev.bind (clone_r (by rw [List.length_drop, List.length_take]; omega)) ?_
    subst hm3
    exact Ev.now _
  by_cases h6 : wd b 2 > (b.length : Int)
  · refine Ev.congr (fun k => by rw [if_pos (Decidable.of_not_not h5), if_pos h6]) ?_
    exact hend b.length a4 (Nat.le_refl _) (by unfold there; omega)
  · refine Ev.congr (fun k => by rw [if_pos (Decidable.of_not_not h5), if_neg h6]) ?_
    have := hend (wd b 2).toNat (by omega) (by omega) (by unfold there; omega)
    rw [Int.toNat_of_nonneg hw2.1] at this
    exact this
theorem there_whole {b : List Int} (h : bad true b = 0) : there b = (wd b 2).toNat := by
  obtain ⟨a1, a2, a3, a4, a5, a6⟩ := badLen_zero (bad_zero h).1
  have := a6 rfl
  unfold there
  omega
theorem parse_r {b : List Int} (hb : Bytes b) (hl : b.length ≤ 140737488351232) : Ev (fun k => weftref3_Parse.f k b) (if bad true b = 0 then hdF b (optsOf b, bodyOf b, 0) else hd0 ([], [], bad true b)) := by
  refine Ev.bind (read_r hb hl true) ?_
  by_cases h : bad true b = 0
  · rw [if_pos h, if_pos h, there_whole h]
    exact Ev.now _
  · rw [if_neg h, if_neg h]
    exact Ev.now _
end Go.Proofs.YtmjhfkjnnpnoaaaX
