/- Parse of Build, Build of Parse, and Age, as plain laws of packets and bytes.
   Conditions: bytes are 0 to 255. -/
import Derived.Test.YtbacmhegalncjaaQIXRead
import Derived.Test.YtbacmhegalncjaaQIXBx0
import Derived.Test.YtbacmhegalncjaaQIXBx1
import Derived.Test.YtbacmhegalncjaaQIXBx5
import Derived.Test.YtbacmhegalncjaaQIXBx6
import Derived.Test.YtbacmhegalncjaaQIXBx7
import Derived.Test.YtbacmhegalncjaaQIXBx8
import Derived.Test.YtbacmhegalncjaaQIXBx3
import Derived.Test.YtbacmhegalncjaaQIXBx9
namespace Go.Proofs.YtbacmhegalncjaaX
open Go.RowKit Go.Proofs.Ytbacmhegalncjaa.XB Go.Proofs.YtbacmhegalncjaaW.PrintWords Go.Proofs.YtbacmhegalncjaaW.PrintLast Go.Proofs.YtbacmhegalncjaaW.PrintMore
set_option linter.unusedVariables false
set_option linter.unusedSimpArgs false

/-- What follows from a packet's bytes with a right sum in them, whatever lies behind. -/
structure Reads (p : Pk) (b : List Int) : Prop where
  whole : bad true b = 0
  front : bad false b = 0
  head : ∀ {β : Type} (z : β), hdF b z = (p.tos, p.id, p.df, p.mf, p.off, p.ttl, p.proto, p.src, p.dst, z)
  opts : optsOf b = p.opts
  body : bodyOf b = p.body
  rest : (b.take (there b)).drop (hlen b) = p.body
theorem tdiv_bits (p : Pk) (h : ordB p.off (p.body.length : Int) p.mf = true) : p.fl % 8192 = p.off / 8 ∧ decide (p.fl / 16384 % 2 = 1) = p.df ∧ decide (p.fl / 8192 % 2 = 1) = p.mf := by
  have := (ordB_true h).1
  have h0 : 0 ≤ p.off / 8 := by omega
  have h1 : p.off / 8 < 8192 := by omega
  unfold Pk.fl
  cases hd : p.df <;> cases hm : p.mf <;> simp <;> omega
theorem reads_bytes {p : Pk} (h : p.Fine) (he : p.err = 0) {s : Int} (h0 : 0 ≤ s) (h1 : s ≤ 65535) (hs : S (p.T + s) = 65535) (tail : List Int) : Reads p (p.bytes s ++ tail) := by
  obtain ⟨e1, e2, e3⟩ := Pk.err_zero he
  have ho := oOK_len e1
  have hod := (ordB_true e2).1
  have hfl := Pk.fl_range e2
  obtain ⟨hf1, hf2, hf3⟩ := tdiv_bits p e2
  have hid := h.id
  have hsrc := h.src
  have hdst := h.dst
  have g0 : (p.bytes s ++ tail).getD 0 0 = p.h0 := rfl
  have g1 : (p.bytes s ++ tail).getD 1 0 = p.tos := rfl
  have g8 : (p.bytes s ++ tail).getD 8 0 = p.ttl := rfl
  have g9 : (p.bytes s ++ tail).getD 9 0 = p.proto := rfl
  have g2 : wd (p.bytes s ++ tail) 2 = (p.tl : Int) := by
    show (p.tl : Int) / 256 % 256 * 256 + (p.tl : Int) % 256 = (p.tl : Int)
    unfold Pk.tl
    omega
  have g4 : wd (p.bytes s ++ tail) 4 = p.id := by
    show p.id / 256 % 256 * 256 + p.id % 256 = p.id
    omega
  have g6 : wd (p.bytes s ++ tail) 6 = p.fl := by
    show p.fl / 256 % 256 * 256 + p.fl % 256 = p.fl
    omega
  have g12 : lg (p.bytes s ++ tail) 12 = p.src := by
    show (p.src / 16777216 * 256 + p.src / 65536 % 256) * 65536 + (p.src / 256 % 256 * 256 + p.src % 256) = p.src
    omega
  have g16 : lg (p.bytes s ++ tail) 16 = p.dst := by
    show (p.dst / 16777216 * 256 + p.dst / 65536 % 256) * 65536 + (p.dst / 256 % 256 * 256 + p.dst % 256) = p.dst
    omega
  have ghl : hlen (p.bytes s ++ tail) = 20 + p.opts.length := by
    unfold hlen
    rw [g0]
    unfold Pk.h0 Pk.hl
    omega
  have glen : (p.bytes s ++ tail).length = p.tl + tail.length := by rw [List.length_append, Pk.bytes_len]
  have gtl : p.tl = 20 + p.opts.length + p.body.length := rfl
  have gtake : (p.bytes s ++ tail).take (hlen (p.bytes s ++ tail)) = p.head s := by
    rw [ghl]
    unfold Pk.bytes
    rw [List.append_assoc, List.take_left' (Pk.head_len p s)]
  have gopts : optsOf (p.bytes s ++ tail) = p.opts := by
    unfold optsOf
    rw [gtake]
    rfl
  have gall : (p.bytes s ++ tail).take p.tl = p.bytes s := List.take_left' (Pk.bytes_len p s)
  have gbody : bodyOf (p.bytes s ++ tail) = p.body := by
    unfold bodyOf
    rw [g2, Int.toNat_natCast, gall, ghl]
    unfold Pk.bytes
    rw [List.drop_left' (Pk.head_len p s)]
  have gthere : there (p.bytes s ++ tail) = p.tl := by
    unfold there
    rw [g2, Int.toNat_natCast, glen]
    omega
  have hbl : ∀ w, badLen w (p.bytes s ++ tail) = 0 := fun w => badLen_of (by omega) (by rw [g0]; unfold Pk.h0 Pk.hl; omega) (by omega) (by omega) (by omega) (fun _ => by omega)
  have hb : ∀ w, bad w (p.bytes s ++ tail) = 0 := fun w => by
    refine bad_of (hbl w) ?_ (by omega) ?_ ?_
    · rw [gtake, Pk.head_tot h0 h1, hs]
    · show oOK (optsOf (p.bytes s ++ tail)) = true
      rw [gopts]
      exact e1
    · rw [g2, g6, ghl, hf1, hf3]
      have : (p.tl : Int) - ((20 + p.opts.length : Nat) : Int) = (p.body.length : Int) := by omega
      rw [this, show p.off / 8 * 8 = p.off by omega]
      exact e2
  refine ⟨hb true, hb false, fun z => ?_, gopts, gbody, ?_⟩
  · unfold hdF
    rw [g1, g4, g6, g8, g9, g12, g16, hf1, hf2, hf3, show p.off / 8 * 8 = p.off by omega]
  · rw [gthere, gall, ghl]
    unfold Pk.bytes
    rw [List.drop_left' (Pk.head_len p s)]
theorem sum_full {p : Pk} (h : p.Fine) (he : p.err = 0) : S (p.T + p.sum) = 65535 := by
  have h1 := Pk.T_pos h he
  have h2 := Pk.sum_range h he
  have h3 := S_mod (t := p.T) (by omega)
  refine S_full (by omega) ?_
  unfold Pk.sum
  omega

/-- The packet that its bytes hold. -/
def ofB (b : List Int) : Pk where
  tos := b.getD 1 0
  id := wd b 4
  df := decide (wd b 6 / 16384 % 2 = 1)
  mf := decide (wd b 6 / 8192 % 2 = 1)
  off := wd b 6 % 8192 * 8
  ttl := b.getD 8 0
  proto := b.getD 9 0
  src := lg b 12
  dst := lg b 16
  opts := optsOf b
  body := bodyOf b
structure Holds (b : List Int) : Prop where
  fine : (ofB b).Fine
  err : (ofB b).err = 0
  bytes : b = (ofB b).bytes (wd b 10) ++ b.drop (wd b 2).toNat
  tl : ((ofB b).tl : Int) = wd b 2
  hl : (ofB b).hl = hlen b
  sum : S ((ofB b).T + wd b 10) = 65535
end Go.Proofs.YtbacmhegalncjaaX
