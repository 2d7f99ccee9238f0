/- The small packet of the laws; a packet's bytes with another sum in them; what a right sum's field may be.
   Conditions: none; every statement is proved here. -/
import Derived.Test.YtbacmhegalncjaaQIXBack
import Derived.Test.YtbacmhegalncjaaQIXBx7
namespace Go.Proofs.YtbacmhegalncjaaX
open Go.RowKit Go.Proofs.Ytbacmhegalncjaa.XB Go.Proofs.YtbacmhegalncjaaW.PrintWords Go.Proofs.YtbacmhegalncjaaW.PrintLast Go.Proofs.YtbacmhegalncjaaW.PrintMore
set_option linter.unusedVariables false
set_option linter.unusedSimpArgs false

theorem Reads.ofB {p : Pk} {b : List Int} (h : Reads p b) : ofB b = p := by
  have hd := h.head ()
  have h1 := h.opts
  have h2 := h.body
  cases p
  simp only [hdF, Prod.mk.injEq] at hd
  obtain ⟨e1, e2, e3, e4, e5, e6, e7, e8, e9, _⟩ := hd
  unfold Go.Proofs.YtbacmhegalncjaaX.ofB
  rw [e1, e2, e3, e4, e5, e6, e7, e8, e9, h1, h2]
theorem reads_own {p : Pk} (h : p.Fine) (he : p.err = 0) (tail : List Int) : Reads p (p.bytes p.sum ++ tail) := by
  have := Pk.sum_range h he
  exact reads_bytes h he this.1 (by omega) (sum_full h he) tail
theorem reads_own' {p : Pk} (h : p.Fine) (he : p.err = 0) : Reads p (p.bytes p.sum) := by
  have := reads_own h he []
  rwa [List.append_nil] at this
/-- Build, where nothing is refused. -/
theorem build_ok {p : Pk} (h : p.Fine) (he : p.err = 0) : Ev (fun k => ip4_Build.f k p.tos p.id p.df p.mf p.off p.ttl p.proto p.src p.dst p.opts p.body) (p.bytes p.sum, 0) := by
  have := build_f p h
  rwa [if_pos he] at this
/-- Parse, where nothing is refused. -/
theorem parse_ok {p : Pk} {b : List Int} (hb : Bytes b) (hl : b.length ≤ 140737488355328) (h : Reads p b) : Ev (fun k => ip4_Parse.f k b) (p.tos, p.id, p.df, p.mf, p.off, p.ttl, p.proto, p.src, p.dst, p.opts, p.body, 0) := by
  have := parse_f hb hl
  rw [if_pos h.whole, h.head, h.opts, h.body] at this
  exact this
theorem packets_own {p : Pk} (h : p.Fine) : Ev (fun k => weftlaw3_packets.f k p.tos p.id p.df p.mf p.off p.ttl p.proto p.src p.dst p.opts p.body p.tos p.id p.df p.mf p.off p.ttl p.proto p.src p.dst p.opts p.body) true := by
  have h1 := h.lo
  have h2 := h.lb
  exact packets_f _ _ _ _ _ _ _ _ _ _ _ (by omega) (by omega)
end Go.Proofs.YtbacmhegalncjaaX
