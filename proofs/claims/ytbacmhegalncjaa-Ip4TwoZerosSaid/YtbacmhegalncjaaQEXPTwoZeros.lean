/- Ip4TwoZeros: of a packet whose sum is 0, 65535 in the sum's field is read as well, and ages to the same bytes.
   Conditions: none; every packet is spoken of. -/
import Derived.Test.YtbacmhegalncjaaQEXSmall
import Derived.Test.YtbacmhegalncjaaQEXRowIp4TwoZeros
namespace Go.Proofs.YtbacmhegalncjaaX
open Go.RowKit Go.Proofs.Ytbacmhegalncjaa.XB Go.Proofs.YtbacmhegalncjaaW.PrintWords Go.Proofs.YtbacmhegalncjaaW.PrintLast Go.Proofs.YtbacmhegalncjaaW.PrintMore
set_option linter.unusedVariables false
set_option linter.unusedSimpArgs false

/-- The packet with another ID. -/
def withId (p : Pk) (v : Int) : Pk := { p with id := v }
theorem withId_fine {p : Pk} (h : p.Fine) {v : Int} (hv : 0 ≤ v ∧ v ≤ 65535) : (withId p v).Fine := ⟨h.tos, hv, h.off, h.ttl, h.proto, h.src, h.dst, h.opts, h.body, h.lo, h.lb⟩
theorem withId_T (p : Pk) {v : Int} (h0 : 0 ≤ v) (h1 : v ≤ 65535) : (withId p v).T = (withId p 0).T + v := by
  have e : ∀ u : Int, (withId p u).fr ++ ((withId p u).bk ++ (withId p u).opts) = [p.h0, p.tos, (p.tl : Int) / 256 % 256, (p.tl : Int) % 256] ++ (u / 256 % 256 :: u % 256 :: ([p.fl / 256 % 256, p.fl % 256, p.ttl, p.proto] ++ (p.bk ++ p.opts))) := fun u => rfl
  have a := tot_pair [p.h0, p.tos, (p.tl : Int) / 256 % 256, (p.tl : Int) % 256] (by simp) v h0 h1 ([p.fl / 256 % 256, p.fl % 256, p.ttl, p.proto] ++ (p.bk ++ p.opts))
  have b := tot_pair [p.h0, p.tos, (p.tl : Int) / 256 % 256, (p.tl : Int) % 256] (by simp) 0 (by omega) (by omega) ([p.fl / 256 % 256, p.fl % 256, p.ttl, p.proto] ++ (p.bk ++ p.opts))
  unfold Pk.T
  rw [e v, e 0, a, b]
  omega
theorem zeros_f {q : Pk} (h : q.Fine) : Ev (fun k => weftlaw3_zeros.f k q.tos q.id q.df q.mf q.off q.ttl q.proto q.src q.dst q.opts q.body) true := by
  have h0 : (withId q 0).Fine := withId_fine h (by omega)
  refine Ev.bind (build_f (withId q 0) h0) ?_
  by_cases he : ¬ ((withId q 0).err = 0)
  · simp only [if_neg he]
    exact Ev.now _
  replace he : (withId q 0).err = 0 := Decidable.of_not_not he
  have htl := tl_le he
  have hs := Pk.sum_range h0 he
  have hlen : ((withId q 0).bytes (withId q 0).sum).length = (withId q 0).tl := Pk.bytes_len _ _
  have hb := Pk.bytes_bytes h0 he (withId q 0).sum
  have w10 := lword_f hb (i := 10) (j := 10) rfl (by omega) (by omega)
  have ws := wd_sum (withId q 0) hs.1 (by omega) []
  rw [List.append_nil] at ws
  simp only [if_pos he, if_true]
  refine Ev.congr (fun k => by rw [if_neg (by rw [hlen]; omega), w10, ws, Option.bind_some, u16_small hs.1 (by omega)]) ?_
  have hv : 0 ≤ (withId q 0).sum ∧ (withId q 0).sum ≤ 65535 := by omega
  generalize hP : withId q (withId q 0).sum = p
  have hp : p.Fine := hP ▸ withId_fine h hv
  have hpe : p.err = 0 := hP ▸ he
  have hT : p.T = (withId q 0).T + (withId q 0).sum := hP ▸ withId_T q hv.1 hv.2
  have hT0 := Pk.T_pos h0 he
  have hfull := sum_full h0 he
  have hsum : p.sum = 0 := by
    unfold Pk.sum
    rw [hT, hfull]
    omega
  have hptl : p.tl = (withId q 0).tl := hP ▸ rfl
  have hB := build_ok hp hpe
  have hzero : ∀ x : List Int, x = p.bytes p.sum → Ev (fun k => weftlaw3_zeros.j0 k x false p.tos p.id p.df p.mf p.off p.ttl p.proto p.src p.dst p.opts p.body) true := by
    intro x hx
    have hxl : x.length = p.tl := by rw [hx, Pk.bytes_len]
    have hxb : Bytes x := hx ▸ Pk.bytes_bytes hp hpe p.sum
    refine Ev.step (fun k => by rw [weftlaw3_zeros.j0, if_neg (by decide)]) ?_
    refine Ev.bind (clone_f (by omega)) ?_
    have e1 : (x.set (10 : Int).toNat 255).set (11 : Int).toNat 255 = p.bytes 65535 := by rw [hx]; rfl
    refine Ev.congr (fun k => by rw [if_pos (by omega), if_pos (by omega), Option.bind_some, e1]) ?_
    have hd : Bytes (p.bytes 65535) := Pk.bytes_bytes hp hpe 65535
    have hdl : (p.bytes 65535).length = p.tl := Pk.bytes_len _ _
    have hTp := Pk.T_pos hp hpe
    have hRd : Reads p (p.bytes 65535) := by
      have := reads_bytes hp hpe (s := 65535) (by omega) (by omega) (by rw [S_add65535 hTp]; have := S_mod (t := p.T) (by omega); unfold Pk.sum at hsum; omega) []
      rwa [List.append_nil] at this
    have hRc : Reads p x := hx ▸ reads_own' hp hpe
    refine Ev.bind (parse_ok hd (by omega) hRd) ?_
    refine Ev.bind (age_ok hxb (by omega) hRc) ?_
    refine Ev.bind (age_ok hd (by omega) hRd) ?_
    have hfin : ∀ (y : List Int) (e : Int), y.length ≤ 65535 → Ev (fun k => weftlaw3_zeros.j1 k 0 y e y e false p.tos p.id p.df p.mf p.off p.ttl p.proto p.src p.dst p.opts p.body p.tos p.id p.df p.mf p.off p.ttl p.proto p.src p.dst p.opts p.body) true := by
      intro y e hy
      refine Ev.step (fun k => by rw [weftlaw3_zeros.j1, if_neg (by decide), if_pos rfl]) ?_
      refine Ev.bind (packets_own hp) ?_
      simp only [if_true]
      refine Ev.bind (same_f y y (by omega)) ?_
      simp only [decide_true]
      exact Ev.now _
    by_cases ht : p.ttl ≤ 1
    · simp only [if_pos ht]
      refine Ev.congr (fun k => by rw [if_neg (by omega)]) ?_
      exact hfin [] 35 (by simp)
    · simp only [if_neg ht]
      have hol : ((older p).bytes (older p).sum).length = p.tl := Pk.bytes_len _ _
      refine Ev.congr (fun k => by rw [if_pos (by omega), if_pos True.intro, show ((((older p).bytes (older p).sum).length : Int) != (x.length : Int)) = false from by rw [hol, hxl]; simp]) ?_
      exact hfin _ 0 (by omega)
  subst hP
  refine Ev.bind hB ?_
  have hlen2 : ((withId q (withId q 0).sum).bytes (withId q (withId q 0).sum).sum).length = (withId q 0).tl := Pk.bytes_len _ _
  have hb2 := Pk.bytes_bytes hp hpe (withId q (withId q 0).sum).sum
  have w2 := lword_f hb2 (i := 10) (j := 10) rfl (by omega) (by omega)
  have ws2 := wd_sum (withId q (withId q 0).sum) (s := (withId q (withId q 0).sum).sum) (by omega) (by omega) []
  rw [List.append_nil] at ws2
  refine Ev.congr (fun k => by rw [if_pos rfl, if_neg (by rw [hlen2]; omega), w2, ws2, Option.bind_some, hsum, show ((0 : Int) != 0) = false from rfl]) ?_
  exact hzero _ (by rw [hsum])
theorem pureTwoZeros : Go.Proofs.Ytbacmhegalncjaa.Xip4TwoZeros.Pure := by
  intro x hx
  obtain ⟨⟨g0, g1, _, _, g4, g5, g6, g7, g8, g9⟩, g10⟩ := hx
  refine Ev.rounds (g := fun k => weftlaw3_Ip4TwoZeros.f k x.f0.f0 x.f0.f1 x.f0.f2 x.f0.f3 x.f0.f4 x.f0.f5 x.f0.f6 x.f0.f7 x.f0.f8 x.f0.f9 x.f1) ?_
  have hf : (Pk.mk x.f0.f0 x.f0.f1 x.f0.f2 x.f0.f3 x.f0.f4 x.f0.f5 x.f0.f6 x.f0.f7 x.f0.f8 x.f0.f9 x.f1).Fine :=
    ⟨wf8 g0, wf16 g1, wfi64 g4, wf8 g5, wf8 g6, wf32 g7, wf32 g8, fun y hy => wf8 (g9.2 y hy), fun y hy => wf8 (g10.2 y hy), by have := g9.1; show x.f0.f9.length ≤ _; omega, by have := g10.1; show x.f1.length ≤ _; omega⟩
  have hs := small_f
  refine Ev.congr (fun k => by rw [weftlaw3_Ip4TwoZeros.f, hs, Option.bind_some]) ?_
  refine Ev.bind (build_ok small_fine small_err) ?_
  refine Ev.congr (fun k => by rw [if_pos rfl, Option.bind_some]) ?_
  refine Ev.bind (zeros_f small_fine) ?_
  simp only [if_true]
  refine Ev.bind (zeros_f hf) ?_
  exact Ev.now _
theorem ip4TwoZeros_row : Go.Proofs.Ytbacmhegalncjaa.Rows.Ip4TwoZerosSaid := Go.Proofs.Ytbacmhegalncjaa.Xip4TwoZeros.over pureTwoZeros
end Go.Proofs.YtbacmhegalncjaaX
namespace Go.Proofs.Ytbacmhegalncjaa
/-- The row, under a short name, for the claim. -/
theorem ip4TwoZeros_holds : Rows.Ip4TwoZerosSaid := Go.Proofs.YtbacmhegalncjaaX.ip4TwoZeros_row
end Go.Proofs.Ytbacmhegalncjaa
