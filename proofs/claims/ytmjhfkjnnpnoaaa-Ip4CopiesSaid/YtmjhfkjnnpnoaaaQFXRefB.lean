/- What the document's own answer (weftref3) makes of reading, building and ageing: the same plain functions.
   Conditions: bytes are 0 to 255, the lists short enough for 64 bits. -/
import Derived.Test.YtmjhfkjnnpnoaaaQFXRef
import Derived.Test.YtmjhfkjnnpnoaaaQFXRead
import Derived.Test.YtmjhfkjnnpnoaaaQFXAx5
import Derived.Test.YtmjhfkjnnpnoaaaQFXAx6
import Derived.Test.YtmjhfkjnnpnoaaaQFXAx7
import Derived.Test.YtmjhfkjnnpnoaaaQFXAx0
import Derived.Test.YtmjhfkjnnpnoaaaQFXAx8
namespace Go.Proofs.YtmjhfkjnnpnoaaaX
open Go.RowKit Go.Proofs.Ytmjhfkjnnpnoaaa.XA Go.Proofs.YtmjhfkjnnpnoaaaW.PrintWords Go.Proofs.YtmjhfkjnnpnoaaaW.PrintLast Go.Proofs.YtmjhfkjnnpnoaaaW.PrintMore
set_option linter.unusedVariables false
set_option linter.unusedSimpArgs false

/-! ### Build -/
theorem small3_fine : (⟨0, 7216, true, false, 0, 64, 6, 167838211, 167904004, [], [1, 2, 3]⟩ : Pk).Fine := by
  refine ⟨?_, ?_, ?_, ?_, ?_, ?_, ?_, ?_, ?_, ?_, ?_⟩ <;> simp [Bytes]
theorem put2_r {l : List Int} {n : Int} (h0 : 0 ≤ n) (h1 : n ≤ 9223372036854775807) (hl : l.length < 140737488355000) : weftref3_put2.f l n = some (l ++ [n / 256 % 256, n % 256]) := by
  have e1 : Int.tdiv n 256 = n / 256 := Int.tdiv_eq_ediv_of_nonneg h0
  have e2 : Int.tmod n 256 = n % 256 := Int.tmod_eq_emod_of_nonneg h0
  have e3 : wrap64 (n / 256) = n / 256 := w64 (by omega) (by omega)
  have e4 : n % 256 % 256 = n % 256 := by omega
  rw [weftref3_put2.f, e1, e2, e3, e4, Option.bind_some, if_pos (by simp; omega)]
theorem put2_r2 {l : List Int} {n : Int} (h : 0 ≤ n ∧ n ≤ 4611686018427387904) (hl : l.length < 140737488355000) : weftref3_put2.f l n = some (l ++ [n / 256 % 256, n % 256]) := put2_r h.1 (by omega) hl
theorem ww {x : Int} (h : 0 ≤ x ∧ x ≤ 4611686018427387904) : wrap64 x = x := w64 (by omega) (by omega)
theorem tdiv_pos {x : Int} (h : 0 ≤ x / 8) : 0 ≤ x := by omega
theorem headr_loop (a0 a1 : Int) (a2 a3 : Bool) (a4 a5 a6 a7 a8 : Int) (o : List Int) (ho : o.length ≤ 1000000) (d : Nat) : ∀ (j : Nat) (l : List Int), j + d = o.length → l.length ≤ 1000000 + j →
    Ev (fun k => weftref3_header.l0 k l (j : Int) a0 a1 a2 a3 a4 a5 a6 a7 a8 o) (l ++ o.drop j) := by
  induction d with
  | zero =>
    intro j l hj hl
    rw [List.drop_eq_nil_of_le (by omega), List.append_nil]
    exact Ev.step (fun k => by rw [weftref3_header.l0, if_neg (by omega)]) (Ev.now _)
  | succ d ih =>
    intro j l hj hl
    have hlt : j < o.length := by omega
    refine Ev.step (fun k => by rw [weftref3_header.l0, if_pos (by omega), if_pos (by omega), rd_lt _ _ hlt, if_pos (by omega), one_up (by omega)]) ?_
    have := ih (j + 1) (l ++ [o[j]]) (by omega) (by rw [List.length_append, List.length_singleton]; omega)
    rw [List.append_assoc, List.singleton_append, ← List.drop_eq_getElem_cons hlt] at this
    exact this
theorem header_r {p : Pk} (h : p.Fine) (he : p.err = 0) {s : Int} (h0 : 0 ≤ s) (h1 : s ≤ 65535) :
    Ev (fun k => weftref3_header.f k p.tos p.id p.df p.mf p.off p.ttl p.proto p.src p.dst p.opts (p.tl : Int) s) (p.head s) := by
  obtain ⟨q1, q2, q3⟩ := Pk.err_zero he
  have ho := oOK_len q1
  have hod := (ordB_true q2).1
  have hid := h.id
  have hsrc := h.src
  have hdst := h.dst
  have htl := tl_le he
  have hfl : 0 ≤ p.fl ∧ p.fl ≤ 32767 := Pk.fl_range q2
  have R1 : 0 ≤ (p.opts.length : Int) / 4 ∧ (p.opts.length : Int) / 4 ≤ 4611686018427387904 := by omega
  have R2 : 0 ≤ 69 + (p.opts.length : Int) / 4 ∧ 69 + (p.opts.length : Int) / 4 ≤ 4611686018427387904 := by omega
  have R4 : 0 ≤ p.id ∧ p.id ≤ 4611686018427387904 := by omega
  have R6 : 0 ≤ p.off / 8 ∧ p.off / 8 ≤ 4611686018427387904 := by omega
  have R7 : 0 ≤ p.off / 8 + 16384 ∧ p.off / 8 + 16384 ≤ 4611686018427387904 := by omega
  have R8 : 0 ≤ p.off / 8 + 16384 + 8192 ∧ p.off / 8 + 16384 + 8192 ≤ 4611686018427387904 := by omega
  have R9 : 0 ≤ p.off / 8 + 8192 ∧ p.off / 8 + 8192 ≤ 4611686018427387904 := by omega
  have Rs : 0 ≤ s ∧ s ≤ 4611686018427387904 := by omega
  have Ra : 0 ≤ p.src ∧ p.src ≤ 4611686018427387904 := by omega
  have Rb : 0 ≤ p.dst ∧ p.dst ≤ 4611686018427387904 := by omega
  have Rc : 0 ≤ p.src / 65536 ∧ p.src / 65536 ≤ 4611686018427387904 := by omega
  have Rd : 0 ≤ p.dst / 65536 ∧ p.dst / 65536 ≤ 4611686018427387904 := by omega
  have Re : 0 ≤ p.src % 65536 ∧ p.src % 65536 ≤ 4611686018427387904 := by omega
  have Rf : 0 ≤ p.dst % 65536 ∧ p.dst % 65536 ≤ 4611686018427387904 := by omega
  have Rt : 0 ≤ (p.tl : Int) ∧ (p.tl : Int) ≤ 4611686018427387904 := by omega
  have Rl : 0 ≤ p.fl ∧ p.fl ≤ 4611686018427387904 := by omega
  have hol : p.opts.length ≤ 1000000 := by omega
  have e3 : (69 + (p.opts.length : Int) / 4) % 256 = p.h0 := by unfold Pk.h0 Pk.hl; omega
  have E : (p.fr ++ [s / 256 % 256, s % 256] ++ [p.src / 65536 / 256 % 256, p.src / 65536 % 256, p.src % 65536 / 256 % 256, p.src % 65536 % 256, p.dst / 65536 / 256 % 256, p.dst / 65536 % 256, p.dst % 65536 / 256 % 256, p.dst % 65536 % 256]) ++ p.opts.drop 0 = p.head s := by
    rw [List.drop_zero, show p.src / 65536 / 256 % 256 = p.src / 16777216 by omega, show p.src % 65536 / 256 % 256 = p.src / 256 % 256 by omega, show p.src % 65536 % 256 = p.src % 256 by omega, show p.dst / 65536 / 256 % 256 = p.dst / 16777216 by omega, show p.dst % 65536 / 256 % 256 = p.dst / 256 % 256 by omega, show p.dst % 65536 % 256 = p.dst % 256 by omega]
    simp [Pk.head, Pk.bk]
  clear hod hid hsrc hdst htl
  have e1 := ww R1
  have e2 := ww R2
  have e4 := ww R4
  have e5 : Int.tdiv p.off 8 = p.off / 8 := Int.tdiv_eq_ediv_of_nonneg (tdiv_pos R6.1)
  have e6 := ww R6
  have e7 := ww R7
  have e8 := ww R8
  have e9 := ww R9
  have f1 := ww Rs
  have f2 := ww Ra
  have f3 := ww Rb
  have f4 : Int.tdiv p.src 65536 = p.src / 65536 := Int.tdiv_eq_ediv_of_nonneg Ra.1
  have f5 : Int.tdiv p.dst 65536 = p.dst / 65536 := Int.tdiv_eq_ediv_of_nonneg Rb.1
  have f6 : Int.tmod p.src 65536 = p.src % 65536 := Int.tmod_eq_emod_of_nonneg Ra.1
  have f7 : Int.tmod p.dst 65536 = p.dst % 65536 := Int.tmod_eq_emod_of_nonneg Rb.1
  have f8 := ww Rc
  have f9 := ww Rd
  have hend : Ev (fun k => weftref3_header.j1 k s [p.h0, p.tos, (p.tl : Int) / 256 % 256, (p.tl : Int) % 256, p.id / 256 % 256, p.id % 256] p.fl p.tos p.id p.df p.mf p.off p.ttl p.proto p.src p.dst p.opts) (p.head s) := by
    refine Ev.step (fun k => by rw [weftref3_header.j1, put2_r2 Rl (by simp), Option.bind_some, Option.bind_some, if_pos (by simp), f1, f2, f3, f4, f5, f6, f7, f8, f9, put2_r2 Rs (by simp), Option.bind_some, put2_r2 Rc (by simp), Option.bind_some, put2_r2 Re (by simp), Option.bind_some, put2_r2 Rd (by simp), Option.bind_some, put2_r2 Rf (by simp), Option.bind_some]) ?_
    have := headr_loop p.tos p.id p.df p.mf p.off p.ttl p.proto p.src p.dst p.opts hol p.opts.length 0 (p.fr ++ [s / 256 % 256, s % 256] ++ [p.src / 65536 / 256 % 256, p.src / 65536 % 256, p.src % 65536 / 256 % 256, p.src % 65536 % 256, p.dst / 65536 / 256 % 256, p.dst / 65536 % 256, p.dst % 65536 / 256 % 256, p.dst % 65536 % 256]) (Nat.zero_add _) (by simp [Pk.fr])
    rw [E] at this
    exact this
  refine Ev.congr (fun k => by rw [weftref3_header.f, e1, e2, e3, Option.bind_some, if_pos (by simp), List.nil_append, put2_r2 Rt (by simp), Option.bind_some, e4, put2_r2 R4 (by simp), Option.bind_some, e5, e6, e7]) ?_
  cases hd : p.df <;> cases hm : p.mf
  · have e : p.fl = p.off / 8 := by unfold Pk.fl; rw [hd, hm]; simp
    rw [hd, hm, e] at hend
    exact Ev.congr (fun k => by rw [if_neg (by decide)]) (Ev.step (fun k => by rw [weftref3_header.j0, if_neg (by decide)]; rfl) hend)
  · have e : p.fl = p.off / 8 + 8192 := by unfold Pk.fl; rw [hd, hm]; simp
    rw [hd, hm, e] at hend
    exact Ev.congr (fun k => by rw [if_neg (by decide)]) (Ev.step (fun k => by rw [weftref3_header.j0, if_pos rfl, e9]; rfl) hend)
  · have e : p.fl = p.off / 8 + 16384 := by unfold Pk.fl; rw [hd, hm]; simp
    rw [hd, hm, e] at hend
    exact Ev.congr (fun k => by rw [if_pos rfl]) (Ev.step (fun k => by rw [weftref3_header.j0, if_neg (by decide)]; rfl) hend)
  · have e : p.fl = p.off / 8 + 16384 + 8192 := by unfold Pk.fl; rw [hd, hm]; simp
    rw [hd, hm, e] at hend
    exact Ev.congr (fun k => by rw [if_pos rfl]) (Ev.step (fun k => by rw [weftref3_header.j0, if_pos rfl, e8]; rfl) hend)
theorem len3 {a b : Nat} (ha : a ≤ 140737488351232) (hb : b ≤ 140737488351232) : wrap64 (wrap64 (20 + (a : Int)) + (b : Int)) = ((20 + a + b : Nat) : Int) := by
  have e1 : wrap64 (20 + (a : Int)) = 20 + (a : Int) := w64 (by omega) (by omega)
  have e2 : wrap64 (20 + (a : Int) + (b : Int)) = 20 + (a : Int) + (b : Int) := w64 (by omega) (by omega)
  rw [e1, e2]
  omega
theorem refused_r {p : Pk} (h : p.Fine) : Ev (fun k => weftref3_Refused.f k p.tos p.id p.df p.mf p.off p.ttl p.proto p.src p.dst p.opts p.body) p.err := by
  have hlo := h.lo
  have hlb := h.lb
  refine Ev.bind (area_r h.opts (by omega)) ?_
  unfold Pk.err
  by_cases h1 : oOK p.opts = true
  · refine Ev.congr (fun k => by rw [if_pos h1, piece_r (by omega) (by omega), Option.bind_some]) ?_
    rw [if_pos h1]
    by_cases h2 : ordB p.off (p.body.length : Int) p.mf = true
    · rw [if_pos h2]
      by_cases h3 : 20 + p.opts.length + p.body.length ≤ 65535
      · rw [if_pos h3]
        exact Ev.congr (fun k => by rw [if_pos h2, len3 hlo hlb, if_neg (by omega)]) (Ev.now _)
      · rw [if_neg h3]
        exact Ev.congr (fun k => by rw [if_pos h2, len3 hlo hlb, if_pos (by omega)]) (Ev.now _)
    · rw [if_neg h2]
      exact Ev.congr (fun k => by rw [if_neg h2]) (Ev.now _)
  · rw [if_neg h1]
    exact Ev.congr (fun k => by rw [if_neg h1]) (Ev.now _)
theorem buildr_loop (a0 a1 : Int) (a2 a3 : Bool) (a4 a5 a6 a7 a8 : Int) (o b : List Int) (hb : b.length ≤ 1000000) (d : Nat) : ∀ (j : Nat) (l : List Int), j + d = b.length → l.length ≤ 1000000 + j →
    Ev (fun k => weftref3_Build.l0 k l (j : Int) a0 a1 a2 a3 a4 a5 a6 a7 a8 o b) (l ++ b.drop j, 0) := by
  induction d with
  | zero =>
    intro j l hj hl
    rw [List.drop_eq_nil_of_le (by omega), List.append_nil]
    exact Ev.step (fun k => by rw [weftref3_Build.l0, if_neg (by omega)]) (Ev.now _)
  | succ d ih =>
    intro j l hj hl
    have hlt : j < b.length := by omega
    refine Ev.step (fun k => by rw [weftref3_Build.l0, if_pos (by omega), if_pos (by omega), rd_lt _ _ hlt, if_pos (by omega), one_up (by omega)]) ?_
    have := ih (j + 1) (l ++ [b[j]]) (by omega) (by rw [List.length_append, List.length_singleton]; omega)
    rw [List.append_assoc, List.singleton_append, ← List.drop_eq_getElem_cons hlt] at this
    exact this
theorem build_r {p : Pk} (h : p.Fine) : Ev (fun k => weftref3_Build.f k p.tos p.id p.df p.mf p.off p.ttl p.proto p.src p.dst p.opts p.body) (if p.err = 0 then (p.bytes p.sum, 0) else ([], p.err)) := by
  have hlo := h.lo
  have hlb := h.lb
  refine Ev.bind (refused_r h) ?_
  by_cases he : ¬ (p.err = 0)
  · rw [if_neg he]
    exact Ev.congr (fun k => by rw [if_neg he]) (Ev.now _)
  replace he : p.err = 0 := Decidable.of_not_not he
  rw [if_pos he]
  have htl : ((20 + p.opts.length + p.body.length : Nat) : Int) = (p.tl : Int) := rfl
  have hs := Pk.sum_range h he
  have hb3 := (Pk.err_zero he).2.2
  refine Ev.congr (fun k => by rw [if_pos he, len3 hlo hlb, htl]) ?_
  refine Ev.bind (header_r h he (s := 0) (by omega) (by omega)) ?_
  refine Ev.bind (sum_r1 (Pk.head_bytes h he 0) (by rw [Pk.head_len]; omega)) ?_
  have e : 65535 - S (tot true (p.head 0)) = p.sum := by
    rw [Pk.head_tot (by omega) (by omega), Int.add_zero]
    rfl
  rw [e]
  refine Ev.bind (header_r h he hs.1 (by omega)) ?_
  have := buildr_loop p.tos p.id p.df p.mf p.off p.ttl p.proto p.src p.dst p.opts p.body (by omega) p.body.length 0 (p.head p.sum) (by omega) (by rw [Pk.head_len]; omega)
  rw [List.drop_zero] at this
  exact this

/-! ### reading -/
end Go.Proofs.YtmjhfkjnnpnoaaaX
