/- Ip4FlipTold: of a packet's bytes one bit turned over is told by Parse where it stands in the header (but for the four bits of its length), and read where it stands in the body.
   Conditions: none; every packet and every bit is spoken of. -/
import Derived.Test.YtbacmhegalncjaaQGXFlip
import Derived.Test.YtbacmhegalncjaaQGXBx11
import Derived.Test.YtbacmhegalncjaaQGXRowIp4FlipTold
namespace Go.Proofs.YtbacmhegalncjaaX
open Go.RowKit Go.Proofs.Ytbacmhegalncjaa.XB Go.Proofs.YtbacmhegalncjaaW.PrintWords Go.Proofs.YtbacmhegalncjaaW.PrintLast Go.Proofs.YtbacmhegalncjaaW.PrintMore
set_option linter.unusedVariables false
set_option linter.unusedSimpArgs false

theorem flip_bad {p : Pk} (h : p.Fine) (he : p.err = 0) {q j : Nat} (hj : j < 8) (hq : q < 20 + p.opts.length) (h0 : ¬ (q = 0 ∧ bw j < 16)) : bad true ((p.bytes p.sum).set q (flip8 ((p.bytes p.sum).getD q 0) j)) ≠ 0 := by
  intro hz
  have ho := oOK_len (Pk.err_zero he).1
  have hs := Pk.sum_range h he
  have hbb := Pk.bytes_bytes h he p.sum
  have hble : (p.bytes p.sum).length = p.tl := Pk.bytes_len _ _
  have htl : p.tl = 20 + p.opts.length + p.body.length := rfl
  have g0 : (p.bytes p.sum).getD 0 0 = p.h0 := rfl
  obtain ⟨hbl, hsum, _, _, _⟩ := bad_zero hz
  obtain ⟨_, a2, _, _, _, _⟩ := badLen_zero hbl
  by_cases hq0 : q = 0
  · subst hq0
    have e : ((p.bytes p.sum).set 0 (flip8 ((p.bytes p.sum).getD 0 0) j)).getD 0 0 = flip8 ((p.bytes p.sum).getD 0 0) j := rfl
    rw [e, g0] at a2
    refine flip_version ?_ hj (fun h16 => h0 ⟨rfl, h16⟩) a2
    unfold Pk.h0 Pk.hl
    omega
  · have e : ∀ v : Int, ((p.bytes p.sum).set q v).getD 0 0 = p.h0 := by
      intro v
      obtain ⟨q', rfl⟩ : ∃ q', q = q' + 1 := ⟨q - 1, by omega⟩
      rfl
    have ehl : ∀ v : Int, hlen ((p.bytes p.sum).set q v) = 20 + p.opts.length := by
      intro v
      unfold hlen
      rw [e v]
      unfold Pk.h0 Pk.hl
      omega
    have eg : (p.bytes p.sum).getD q 0 = (p.head p.sum).getD q 0 := by
      unfold Pk.bytes
      simp only [List.getD_eq_getElem?_getD]
      rw [List.getElem?_append_left (by rw [Pk.head_len]; exact hq)]
    rw [ehl, List.take_set, eg] at hsum
    have et : (p.bytes p.sum).take (20 + p.opts.length) = p.head p.sum := by
      unfold Pk.bytes
      rw [List.take_left' (Pk.head_len p p.sum)]
    rw [et] at hsum
    refine flip_sum (Pk.head_bytes h he p.sum) (by rw [Pk.head_len]; exact hq) hj ?_ hsum
    rw [Pk.head_tot hs.1 (by omega), sum_full h he]
/-- A packet with another body. -/
def withBody (p : Pk) (l : List Int) : Pk := { p with body := l }
theorem flip_body {p : Pk} (h : p.Fine) (he : p.err = 0) {q j : Nat} (hj : j < 8) (hq : 20 + p.opts.length ≤ q) (hq2 : q < p.tl) :
    (withBody p (p.body.set (q - (20 + p.opts.length)) (flip8 (p.body.getD (q - (20 + p.opts.length)) 0) j))).Fine ∧
    Reads (withBody p (p.body.set (q - (20 + p.opts.length)) (flip8 (p.body.getD (q - (20 + p.opts.length)) 0) j))) ((p.bytes p.sum).set q (flip8 ((p.bytes p.sum).getD q 0) j)) := by
  have hv := flip_ok (h.body.getD (q - (20 + p.opts.length))).1 (h.body.getD (q - (20 + p.opts.length))).2 hj
  have eg : (p.bytes p.sum).getD q 0 = p.body.getD (q - (20 + p.opts.length)) 0 := by
    unfold Pk.bytes
    simp only [List.getD_eq_getElem?_getD]
    rw [List.getElem?_append_right (by rw [Pk.head_len]; exact hq), Pk.head_len]
  rw [eg]
  generalize hw : flip8 (p.body.getD (q - (20 + p.opts.length)) 0) j = v at *
  generalize hP : withBody p (p.body.set (q - (20 + p.opts.length)) v) = p'
  have hlb : p'.body.length = p.body.length := by rw [← hP]; exact List.length_set
  have hop : p'.opts = p.opts := by rw [← hP]; rfl
  have htl : p'.tl = p.tl := by unfold Pk.tl; rw [hlb, hop]
  have hf : p'.Fine := by
    rw [← hP]
    exact ⟨h.tos, h.id, h.off, h.ttl, h.proto, h.src, h.dst, h.opts, h.body.set _ ⟨hv.2.1, hv.2.2⟩, h.lo, by have := h.lb; show (p.body.set _ _).length ≤ _; rw [List.length_set]; exact this⟩
  have herr : p'.err = 0 := by
    have e : p'.err = p.err := by
      unfold Pk.err
      rw [hlb, hop]
      subst hP
      rfl
    rw [e, he]
  have hh : ∀ s, p'.head s = p.head s := by
    intro s
    have e : p'.fr = p.fr := by
      unfold Pk.fr
      rw [htl]
      subst hP
      rfl
    unfold Pk.head
    rw [e]
    subst hP
    rfl
  have hT : p'.T = p.T := by
    have e : p'.fr = p.fr := by
      unfold Pk.fr
      rw [htl]
      subst hP
      rfl
    unfold Pk.T
    rw [e]
    subst hP
    rfl
  have hs := Pk.sum_range h he
  have hb : (p.bytes p.sum).set q v = p'.bytes p.sum := by
    unfold Pk.bytes
    rw [hh, List.set_append, if_neg (by rw [Pk.head_len]; omega), Pk.head_len]
    subst hP
    rfl
  refine ⟨hf, ?_⟩
  rw [hb]
  have := reads_bytes hf herr hs.1 (by omega) (by rw [hT]; exact sum_full h he) []
  rwa [List.append_nil] at this
theorem told_end {p : Pk} (h : p.Fine) (he : p.err = 0) {q j : Nat} (hj : j < 8) (hq : q < p.tl) : Ev (fun k => weftlaw3_told.j1 k (p.bytes p.sum) (q : Int) (bw j) (decide (q = 0 ∧ bw j < 16)) p.tos p.id p.df p.mf p.off p.ttl p.proto p.src p.dst p.opts p.body) true := by
  by_cases h0 : q = 0 ∧ bw j < 16
  · exact Ev.step (fun k => by rw [weftlaw3_told.j1, decide_eq_true h0, if_pos rfl]) (Ev.now _)
  have htl := tl_le he
  have htl2 : p.tl = 20 + p.opts.length + p.body.length := rfl
  have hlen : (p.bytes p.sum).length = p.tl := Pk.bytes_len _ _
  have hb := Pk.bytes_bytes h he p.sum
  have hv := flip_ok (hb.getD q).1 (hb.getD q).2 hj
  have ho := oOK_len (Pk.err_zero he).1
  refine Ev.step (fun k => by rw [weftlaw3_told.j1, decide_eq_false h0, if_neg (by decide)]) ?_
  refine Ev.bind (clone_f (by omega)) ?_
  have e20 : wrap64 (20 + (p.opts.length : Int)) = ((20 + p.opts.length : Nat) : Int) := by rw [w64 (by omega) (by omega)]; omega
  have hcb : Bytes ((p.bytes p.sum).set q (flip8 ((p.bytes p.sum).getD q 0) j)) := hb.set q ⟨hv.2.1, hv.2.2⟩
  refine Ev.congr (fun k => by rw [if_pos (Int.natCast_nonneg q), if_pos (by omega), Int.toNat_natCast, rd_nat, hv.1, e20]) ?_
  by_cases hq2 : q < 20 + p.opts.length
  · have hbad := flip_bad h he hj hq2 h0
    have hp := parse_f hcb (by rw [List.length_set]; omega)
    rw [if_neg hbad] at hp
    simp only [hd0] at hp
    refine Ev.bind hp ?_
    refine Ev.congr (fun k => by rw [if_pos (by omega), if_neg hbad]) ?_
    refine Ev.bind (packets_f 0 0 false false 0 0 0 0 0 [] [] (by simp) (by simp)) ?_
    exact Ev.now _
  · obtain ⟨hf2, hR⟩ := flip_body h he hj (by omega) hq
    refine Ev.bind (parse_ok hcb (by rw [List.length_set]; omega) hR) ?_
    have hlb : p.body.length ≤ 65535 := by omega
    refine Ev.congr (fun k => by rw [if_neg (by omega)]) ?_
    refine Ev.bind (clone_f (by omega)) ?_
    have ei : wrap64 ((q : Int) - ((20 + p.opts.length : Nat) : Int)) = ((q - (20 + p.opts.length) : Nat) : Int) := by rw [w64 (by omega) (by omega)]; omega
    have hv2 := flip_ok (h.body.getD (q - (20 + p.opts.length))).1 (h.body.getD (q - (20 + p.opts.length))).2 hj
    refine Ev.congr (fun k => by rw [ei, if_neg (by omega), if_pos (Int.natCast_nonneg _), if_pos (by omega), if_pos rfl, Int.toNat_natCast, rd_nat, hv2.1]) ?_
    refine Ev.bind (heads_f 0 p.tos p.id p.df p.mf p.off p.ttl p.proto p.src p.dst p.opts (by omega) p.opts) ?_
    simp only [decide_true, if_true]
    refine Ev.bind (same_f _ _ (by show (p.body.set _ _).length ≤ _; rw [List.length_set]; omega)) ?_
    refine Ev.congr (fun k => by rw [show (withBody p (p.body.set (q - (20 + p.opts.length)) (flip8 (p.body.getD (q - (20 + p.opts.length)) 0) j))).body = p.body.set (q - (20 + p.opts.length)) (flip8 (p.body.getD (q - (20 + p.opts.length)) 0) j) from rfl, decide_eq_true rfl]) (Ev.now _)
theorem told_f {p : Pk} (h : p.Fine) {bit : Int} (h0 : 0 ≤ bit) (h1 : bit ≤ 9223372036854775807) : Ev (fun k => weftlaw3_told.f k p.tos p.id p.df p.mf p.off p.ttl p.proto p.src p.dst p.opts p.body bit) true := by
  refine Ev.bind (build_f p h) ?_
  by_cases he : ¬ (p.err = 0)
  · simp only [if_neg he]
    exact Ev.step (fun k => by rw [weftlaw3_told.j0, if_pos rfl, if_neg he]; rfl) (Ev.now _)
  replace he : p.err = 0 := Decidable.of_not_not he
  simp only [if_pos he, if_true]
  have htl := tl_le he
  have hlen : (p.bytes p.sum).length = p.tl := Pk.bytes_len _ _
  have e8 : wrap64 (8 * (p.tl : Int)) = ((8 * p.tl : Nat) : Int) := by rw [w64 (by omega) (by omega)]; omega
  obtain ⟨n, hn, hnl⟩ : ∃ n : Nat, Int.tmod bit ((8 * p.tl : Nat) : Int) = (n : Int) ∧ n < 8 * p.tl := by
    have n1 := Int.emod_nonneg bit (b := ((8 * p.tl : Nat) : Int)) (by omega)
    have n2 := Int.emod_lt_of_pos bit (b := ((8 * p.tl : Nat) : Int)) (by omega)
    refine ⟨(bit % ((8 * p.tl : Nat) : Int)).toNat, ?_, ?_⟩
    · rw [Int.tmod_eq_emod_of_nonneg h0, Int.toNat_of_nonneg n1]
    · generalize bit % ((8 * p.tl : Nat) : Int) = c at *
      omega
  have hj : n % 8 < 8 := Nat.mod_lt _ (by omega)
  have t1 : Int.tmod (n : Int) 8 = ((n % 8 : Nat) : Int) := by rw [Int.tmod_eq_emod_of_nonneg (by omega)]; omega
  have t2 : wrap64 (Int.tdiv (n : Int) 8) = ((n / 8 : Nat) : Int) := by
    rw [Int.tdiv_eq_ediv_of_nonneg (by omega), w64 (by omega) (by omega)]
    omega
  have hend := told_end h he hj (q := n / 8) (by omega)
  refine Ev.step (fun k => by rw [weftlaw3_told.j0, if_neg (by rw [hlen]; simp; omega), hlen, e8, hn, t1, t2, shl_one hj, if_neg (by omega), if_pos (Int.natCast_nonneg _)]) ?_
  by_cases hz : n / 8 = 0
  · refine Ev.congr (fun k => by rw [if_pos (by omega)]) ?_
    rw [show decide (n / 8 = 0 ∧ bw (n % 8) < 16) = decide (bw (n % 8) < 16) from by simp [hz]] at hend
    exact hend
  · refine Ev.congr (fun k => by rw [if_neg (by omega)]) ?_
    rw [show decide (n / 8 = 0 ∧ bw (n % 8) < 16) = false from by simp [hz]] at hend
    exact hend
theorem flipEnd {p : Pk} (h : p.Fine) {bit : Int} (h0 : 0 ≤ bit) (h1 : bit ≤ 9223372036854775807) : Ev (fun k => weftlaw3_Ip4FlipTold.j0 k bit p.tos p.id p.df p.mf p.off p.ttl p.proto p.src p.dst p.opts p.body) true := by
  have hs := small_f
  refine Ev.step (fun k => by rw [weftlaw3_Ip4FlipTold.j0, hs, Option.bind_some]) ?_
  refine Ev.bind (build_ok small_fine small_err) ?_
  refine Ev.congr (fun k => by rw [if_pos rfl, Option.bind_some]) ?_
  refine Ev.bind (told_f small_fine h0 h1) ?_
  simp only [if_true]
  refine Ev.bind (told_f h h0 h1) ?_
  exact Ev.now _
theorem pureFlipTold : Go.Proofs.Ytbacmhegalncjaa.Xip4FlipTold.Pure := by
  intro x n hx hn
  obtain ⟨⟨g0, g1, _, _, g4, g5, g6, g7, g8, g9⟩, g10⟩ := hx
  have hnr := wfi64 hn
  refine Ev.rounds (g := fun k => weftlaw3_Ip4FlipTold.f k x.f0.f0 x.f0.f1 x.f0.f2 x.f0.f3 x.f0.f4 x.f0.f5 x.f0.f6 x.f0.f7 x.f0.f8 x.f0.f9 x.f1 n) ?_
  have hf : (Pk.mk x.f0.f0 x.f0.f1 x.f0.f2 x.f0.f3 x.f0.f4 x.f0.f5 x.f0.f6 x.f0.f7 x.f0.f8 x.f0.f9 x.f1).Fine :=
    ⟨wf8 g0, wf16 g1, wfi64 g4, wf8 g5, wf8 g6, wf32 g7, wf32 g8, fun y hy => wf8 (g9.2 y hy), fun y hy => wf8 (g10.2 y hy), by have := g9.1; show x.f0.f9.length ≤ _; omega, by have := g10.1; show x.f1.length ≤ _; omega⟩
  by_cases h : n < 0
  · have e1 : wrap64 (n + 1) = n + 1 := w64 (by omega) (by omega)
    have e2 : wrap64 (-(n + 1)) = -(n + 1) := w64 (by omega) (by omega)
    exact Ev.congr (fun k => by rw [weftlaw3_Ip4FlipTold.f, if_pos h, e1, e2]) (flipEnd hf (by omega) (by omega))
  · exact Ev.congr (fun k => by rw [weftlaw3_Ip4FlipTold.f, if_neg h]) (flipEnd hf (by omega) (by omega))
theorem ip4FlipTold_row : Go.Proofs.Ytbacmhegalncjaa.Rows.Ip4FlipToldSaid := Go.Proofs.Ytbacmhegalncjaa.Xip4FlipTold.over pureFlipTold
end Go.Proofs.YtbacmhegalncjaaX
namespace Go.Proofs.Ytbacmhegalncjaa
/-- The row, under a short name, for the claim. -/
theorem ip4FlipTold_holds : Rows.Ip4FlipToldSaid := Go.Proofs.YtbacmhegalncjaaX.ip4FlipTold_row
end Go.Proofs.Ytbacmhegalncjaa
