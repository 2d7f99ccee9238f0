/- Ip4PeeksFront: of a packet's bytes, cut off anywhere, Parse says that they are too short, and Peek reads what is there.
   Conditions: none; every packet and every cut is spoken of. -/
import Derived.Test.YtbacmhegalncjaaQHXSmall
import Derived.Test.YtbacmhegalncjaaQHXBx14
import Derived.Test.YtbacmhegalncjaaQHXRowIp4PeeksFront
namespace Go.Proofs.YtbacmhegalncjaaX
open Go.RowKit Go.Proofs.Ytbacmhegalncjaa.XB Go.Proofs.YtbacmhegalncjaaW.PrintWords Go.Proofs.YtbacmhegalncjaaW.PrintLast Go.Proofs.YtbacmhegalncjaaW.PrintMore
set_option linter.unusedVariables false
set_option linter.unusedSimpArgs false

theorem take_getD {l : List Int} {n i : Nat} (h : i < n) : (l.take n).getD i 0 = l.getD i 0 := by
  simp only [List.getD_eq_getElem?_getD]
  rw [List.getElem?_take_of_lt h]
theorem take_wd {l : List Int} {n i : Nat} (h : i + 1 < n) : wd (l.take n) i = wd l i := by
  unfold wd
  rw [take_getD (by omega), take_getD (by omega)]
theorem take_lg {l : List Int} {n i : Nat} (h : i + 3 < n) : lg (l.take n) i = lg l i := by
  unfold lg
  rw [take_wd (by omega), take_wd (by omega)]
theorem take_hlen {l : List Int} {n : Nat} (h : 0 < n) : hlen (l.take n) = hlen l := by
  unfold hlen
  rw [take_getD h]
theorem take_hdF {β : Type} {l : List Int} {n : Nat} (h : 20 ≤ n) (z : β) : hdF (l.take n) z = hdF l z := by
  unfold hdF
  rw [take_getD (by omega), take_getD (by omega), take_getD (by omega), take_wd (by omega), take_wd (by omega), take_lg (by omega), take_lg (by omega)]
theorem own_hlen (p : Pk) (h : p.opts.length ≤ 40 ∧ p.opts.length % 4 = 0) (s : Int) : hlen (p.bytes s) = 20 + p.opts.length := by
  have g0 : (p.bytes s).getD 0 0 = p.h0 := rfl
  unfold hlen
  rw [g0]
  unfold Pk.h0 Pk.hl
  omega
theorem cut_short {p : Pk} (h : p.Fine) (he : p.err = 0) {n : Nat} (hn : n < 20 + p.opts.length) (w : Bool) : bad w ((p.bytes p.sum).take n) = 30 := by
  have ho := oOK_len (Pk.err_zero he).1
  have hlen : ((p.bytes p.sum).take n).length = n := by
    have : (p.bytes p.sum).length = p.tl := Pk.bytes_len _ _
    rw [List.length_take, this]
    unfold Pk.tl
    omega
  have hb : badLen w ((p.bytes p.sum).take n) = 30 := by
    unfold badLen
    rw [hlen]
    by_cases h20 : n < 20
    · rw [if_pos h20]
    · have g0 : (p.bytes p.sum).getD 0 0 = p.h0 := rfl
      have e4 : ((p.bytes p.sum).take n).getD 0 0 / 16 = 4 := by
        rw [take_getD (by omega), g0]
        unfold Pk.h0 Pk.hl
        omega
      rw [if_neg h20, if_neg (by omega), take_hlen (by omega), own_hlen p ho, if_neg (by omega), if_pos hn]
  unfold bad
  rw [if_pos (by omega), hb]
structure Cut (p : Pk) (n : Nat) : Prop where
  front : bad false ((p.bytes p.sum).take n) = 0
  head : ∀ {β : Type} (z : β), hdF ((p.bytes p.sum).take n) z = (p.tos, p.id, p.df, p.mf, p.off, p.ttl, p.proto, p.src, p.dst, z)
  opts : optsOf ((p.bytes p.sum).take n) = p.opts
  rest : (((p.bytes p.sum).take n).take (there ((p.bytes p.sum).take n))).drop (hlen ((p.bytes p.sum).take n)) = ((p.bytes p.sum).take n).drop (20 + p.opts.length)
  short : n < p.tl → bad true ((p.bytes p.sum).take n) = 30
theorem cut_ok {p : Pk} (h : p.Fine) (he : p.err = 0) {n : Nat} (h1 : 20 + p.opts.length ≤ n) (h2 : n ≤ p.tl) : Cut p n := by
  have ho := oOK_len (Pk.err_zero he).1
  have htl := tl_le he
  have hB : (p.bytes p.sum).length = p.tl := Pk.bytes_len _ _
  have hc : ((p.bytes p.sum).take n).length = n := by rw [List.length_take, hB]; omega
  have R := reads_own' h he
  have ehl := own_hlen p ho p.sum
  have w2 : wd (p.bytes p.sum) 2 = (p.tl : Int) := by
    have := wd_tl p htl.2 p.sum []
    rwa [List.append_nil] at this
  obtain ⟨b1, b2, b3, b4, b5⟩ := bad_zero R.whole
  obtain ⟨a1, a2, a3, a4, a5, a6⟩ := badLen_zero b1
  have cw2 : wd ((p.bytes p.sum).take n) 2 = (p.tl : Int) := by rw [take_wd (by omega), w2]
  have chl : hlen ((p.bytes p.sum).take n) = 20 + p.opts.length := by rw [take_hlen (by omega), ehl]
  have cth : ((p.bytes p.sum).take n).take (20 + p.opts.length) = (p.bytes p.sum).take (20 + p.opts.length) := by rw [List.take_take, Nat.min_eq_left h1]
  have c4 : ((p.bytes p.sum).take n).getD 0 0 / 16 = 4 := by rw [take_getD (by omega)]; exact a2
  rw [ehl] at b2 b4 b5
  have hfront : bad false ((p.bytes p.sum).take n) = 0 := by
    refine bad_of (badLen_of (by omega) c4 (by omega) (by omega) (by omega) (fun h => by cases h)) ?_ ?_ ?_ ?_
    · rw [chl, cth]; exact b2
    · rw [take_wd (by omega)]; exact b3
    · rw [chl, cth]; exact b4
    · rw [take_wd (by omega), take_wd (by omega), chl]; exact b5
  refine ⟨hfront, fun z => ?_, ?_, ?_, fun hlt => ?_⟩
  · rw [take_hdF (by omega)]
    exact R.head z
  · have := R.opts
    unfold optsOf at this ⊢
    rw [chl, cth]
    rw [ehl] at this
    exact this
  · rw [chl]
    have : there ((p.bytes p.sum).take n) = n := by
      unfold there
      rw [cw2, hc]
      omega
    rw [this, List.take_of_length_le (by omega)]
  · have hb : badLen true ((p.bytes p.sum).take n) = 30 := by
      unfold badLen
      rw [hc, if_neg (by omega), if_neg (by omega), chl, if_neg (by omega), if_neg (by omega), cw2, if_neg (by omega), if_pos ⟨rfl, by omega⟩]
    unfold bad
    rw [if_pos (by omega), hb]
theorem cutoff_end {p : Pk} (h : p.Fine) (he : p.err = 0) {n : Nat} (hn : n ≤ p.tl) : Ev (fun k => weftlaw3_cutoff.j0 k (n : Int) (p.bytes p.sum) p.tos p.id p.df p.mf p.off p.ttl p.proto p.src p.dst p.opts p.body) true := by
  have htl := tl_le he
  have htl2 : p.tl = 20 + p.opts.length + p.body.length := rfl
  have hlen : (p.bytes p.sum).length = p.tl := Pk.bytes_len _ _
  have hb := Pk.bytes_bytes h he p.sum
  have ho := oOK_len (Pk.err_zero he).1
  have e20 : wrap64 (20 + (p.opts.length : Int)) = ((20 + p.opts.length : Nat) : Int) := by rw [w64 (by omega) (by omega)]; omega
  have hcl : ((p.bytes p.sum).take n).length = n := by rw [List.length_take, hlen]; omega
  have hcb : Bytes ((p.bytes p.sum).take n) := hb.take n
  refine Ev.step (fun k => by rw [weftlaw3_cutoff.j0, if_pos (Int.natCast_nonneg n), if_pos (by omega), Int.toNat_natCast, e20]) ?_
  refine Ev.bind (clone_f (by omega)) ?_
  by_cases h1 : n < 20 + p.opts.length
  · have p1 := peek_f hcb (by omega)
    have p2 := parse_f hcb (by omega)
    rw [if_neg (by rw [cut_short h he h1]; decide), cut_short h he h1] at p1 p2
    simp only [hd0] at p1 p2
    refine Ev.bind p1 ?_
    refine Ev.bind (clone_f (by omega)) ?_
    refine Ev.bind p2 ?_
    exact Ev.congr (fun k => by rw [if_pos (by omega), if_pos rfl, if_pos rfl]; rfl) (Ev.now _)
  · have C := cut_ok h he (n := n) (by omega) hn
    have p1 := peek_f hcb (by omega)
    rw [if_pos C.front, C.head, C.opts, C.rest] at p1
    refine Ev.bind p1 ?_
    refine Ev.bind (clone_f (by omega)) ?_
    have hheads := heads_f 0 p.tos p.id p.df p.mf p.off p.ttl p.proto p.src p.dst p.opts (by omega) p.opts
    have hsame := same_f (((p.bytes p.sum).take n).drop (20 + p.opts.length)) (((p.bytes p.sum).take n).drop (20 + p.opts.length)) (by rw [List.length_drop]; omega)
    by_cases h2 : n < p.tl
    · have p2 := parse_f hcb (by omega)
      rw [if_neg (by rw [C.short h2]; decide), C.short h2] at p2
      simp only [hd0] at p2
      refine Ev.bind p2 ?_
      refine Ev.congr (fun k => by rw [if_neg (by omega), if_pos rfl]) ?_
      refine Ev.bind hheads ?_
      simp only [decide_true, if_true]
      refine Ev.congr (fun k => by rw [if_pos (Int.natCast_nonneg _), if_pos (by omega), Int.toNat_natCast]) ?_
      refine Ev.bind hsame ?_
      simp only [decide_true, Bool.not_true]
      refine Ev.step (fun k => by rw [weftlaw3_cutoff.j1, if_neg (by decide), if_pos (by omega), if_pos rfl]) ?_
      refine Ev.bind (packets_f 0 0 false false 0 0 0 0 0 [] [] (by simp) (by simp)) ?_
      exact Ev.now _
    · obtain rfl : n = p.tl := by omega
      have eB : (p.bytes p.sum).take p.tl = p.bytes p.sum := List.take_of_length_le (by omega)
      have p2 := parse_ok hb (by omega) (reads_own' h he)
      rw [← eB] at p2
      refine Ev.bind p2 ?_
      refine Ev.congr (fun k => by rw [if_neg (by omega), if_pos rfl]) ?_
      refine Ev.bind hheads ?_
      simp only [decide_true, if_true]
      refine Ev.congr (fun k => by rw [if_pos (Int.natCast_nonneg _), if_pos (by omega), Int.toNat_natCast]) ?_
      refine Ev.bind hsame ?_
      simp only [decide_true, Bool.not_true]
      refine Ev.step (fun k => by rw [weftlaw3_cutoff.j1, if_neg (by decide), if_neg (by omega), if_pos rfl]) ?_
      refine Ev.bind (packets_own h) ?_
      exact Ev.now _
theorem cutoff_f {p : Pk} (h : p.Fine) {n : Int} (h0 : 0 ≤ n) : Ev (fun k => weftlaw3_cutoff.f k p.tos p.id p.df p.mf p.off p.ttl p.proto p.src p.dst p.opts p.body n) true := by
  refine Ev.bind (build_f p h) ?_
  by_cases he : ¬ (p.err = 0)
  · simp only [if_neg he]
    exact Ev.now _
  replace he : p.err = 0 := Decidable.of_not_not he
  simp only [if_pos he, if_true]
  have hlen : (p.bytes p.sum).length = p.tl := Pk.bytes_len _ _
  by_cases hn : n > ((p.bytes p.sum).length : Int)
  · refine Ev.congr (fun k => by rw [if_pos hn, hlen]) ?_
    exact cutoff_end h he (Nat.le_refl _)
  · refine Ev.congr (fun k => by rw [if_neg hn]) ?_
    have := cutoff_end h he (n := n.toNat) (by omega)
    rw [Int.toNat_of_nonneg h0] at this
    exact this
theorem frontEnd {p : Pk} (h : p.Fine) {n : Int} (h0 : 0 ≤ n) : Ev (fun k => weftlaw3_Ip4PeeksFront.j0 k n p.tos p.id p.df p.mf p.off p.ttl p.proto p.src p.dst p.opts p.body) true := by
  have hs := small_f
  refine Ev.step (fun k => by rw [weftlaw3_Ip4PeeksFront.j0, hs, Option.bind_some]) ?_
  refine Ev.bind (build_ok small_fine small_err) ?_
  refine Ev.congr (fun k => by rw [if_pos rfl, Option.bind_some]) ?_
  refine Ev.bind (cutoff_f small_fine h0) ?_
  simp only [if_true]
  refine Ev.congr (fun k => by rw [Option.bind_some]) ?_
  refine Ev.bind (cutoff_f small_fine (n := 24) (by omega)) ?_
  simp only [if_true]
  refine Ev.bind (cutoff_f h h0) ?_
  exact Ev.now _
theorem purePeeksFront : Go.Proofs.Ytbacmhegalncjaa.Xip4PeeksFront.Pure := by
  intro x n hx hn
  obtain ⟨⟨g0, g1, _, _, g4, g5, g6, g7, g8, g9⟩, g10⟩ := hx
  refine Ev.rounds (g := fun k => weftlaw3_Ip4PeeksFront.f k x.f0.f0 x.f0.f1 x.f0.f2 x.f0.f3 x.f0.f4 x.f0.f5 x.f0.f6 x.f0.f7 x.f0.f8 x.f0.f9 x.f1 n) ?_
  have hf : (Pk.mk x.f0.f0 x.f0.f1 x.f0.f2 x.f0.f3 x.f0.f4 x.f0.f5 x.f0.f6 x.f0.f7 x.f0.f8 x.f0.f9 x.f1).Fine :=
    ⟨wf8 g0, wf16 g1, wfi64 g4, wf8 g5, wf8 g6, wf32 g7, wf32 g8, fun y hy => wf8 (g9.2 y hy), fun y hy => wf8 (g10.2 y hy), by have := g9.1; show x.f0.f9.length ≤ _; omega, by have := g10.1; show x.f1.length ≤ _; omega⟩
  by_cases h : n < 0
  · exact Ev.congr (fun k => by rw [weftlaw3_Ip4PeeksFront.f, if_pos h]) (frontEnd hf (by omega))
  · exact Ev.congr (fun k => by rw [weftlaw3_Ip4PeeksFront.f, if_neg h]) (frontEnd hf (by omega))
theorem ip4PeeksFront_row : Go.Proofs.Ytbacmhegalncjaa.Rows.Ip4PeeksFrontSaid := Go.Proofs.Ytbacmhegalncjaa.Xip4PeeksFront.over purePeeksFront
end Go.Proofs.YtbacmhegalncjaaX
namespace Go.Proofs.Ytbacmhegalncjaa
/-- The row, under a short name, for the claim. -/
theorem ip4PeeksFront_holds : Rows.Ip4PeeksFrontSaid := Go.Proofs.YtbacmhegalncjaaX.ip4PeeksFront_row
end Go.Proofs.Ytbacmhegalncjaa
