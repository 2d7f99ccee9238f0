/- A packet as plain data, its bytes, and what Build of the printed program answers.
   Conditions: the fields are of their kinds, the lists short enough for 64 bits. -/
import Derived.Test.YtbacmhegalncjaaQIXArea
import Derived.Test.YtbacmhegalncjaaQIXBx6
namespace Go.Proofs.YtbacmhegalncjaaX
open Go.RowKit Go.Proofs.Ytbacmhegalncjaa.XB Go.Proofs.YtbacmhegalncjaaW.PrintWords Go.Proofs.YtbacmhegalncjaaW.PrintLast Go.Proofs.YtbacmhegalncjaaW.PrintMore
set_option linter.unusedVariables false
set_option linter.unusedSimpArgs false

/-- A packet. -/
structure Pk where
  tos : Int
  id : Int
  df : Bool
  mf : Bool
  off : Int
  ttl : Int
  proto : Int
  src : Int
  dst : Int
  opts : List Int
  body : List Int
/-- Its fields are of their kinds. -/
structure Pk.Fine (p : Pk) : Prop where
  tos : 0 ≤ p.tos ∧ p.tos ≤ 255
  id : 0 ≤ p.id ∧ p.id ≤ 65535
  off : -9223372036854775808 ≤ p.off ∧ p.off ≤ 9223372036854775807
  ttl : 0 ≤ p.ttl ∧ p.ttl ≤ 255
  proto : 0 ≤ p.proto ∧ p.proto ≤ 255
  src : 0 ≤ p.src ∧ p.src ≤ 4294967295
  dst : 0 ≤ p.dst ∧ p.dst ≤ 4294967295
  opts : Bytes p.opts
  body : Bytes p.body
  lo : p.opts.length ≤ 140737488351232
  lb : p.body.length ≤ 140737488351232
/-- Why it is refused; 0: it is not. -/
def Pk.err (p : Pk) : Int := if oOK p.opts = true then if ordB p.off (p.body.length : Int) p.mf = true then if 20 + p.opts.length + p.body.length ≤ 65535 then 0 else 37 else 36 else 34
def Pk.hl (p : Pk) : Nat := 20 + p.opts.length
def Pk.tl (p : Pk) : Nat := 20 + p.opts.length + p.body.length
def Pk.fl (p : Pk) : Int := p.off / 8 + (if p.df = true then 16384 else 0) + (if p.mf = true then 8192 else 0)
def Pk.h0 (p : Pk) : Int := 64 + (p.hl : Int) / 4
/-- What stands ahead of the sum; what stands behind it, up to the options. -/
def Pk.fr (p : Pk) : List Int := [p.h0, p.tos, (p.tl : Int) / 256 % 256, (p.tl : Int) % 256, p.id / 256 % 256, p.id % 256, p.fl / 256 % 256, p.fl % 256, p.ttl, p.proto]
def Pk.bk (p : Pk) : List Int := [p.src / 16777216, p.src / 65536 % 256, p.src / 256 % 256, p.src % 256, p.dst / 16777216, p.dst / 65536 % 256, p.dst / 256 % 256, p.dst % 256]
/-- The header's sum without its own field; the field. -/
def Pk.T (p : Pk) : Int := tot true (p.fr ++ (p.bk ++ p.opts))
def Pk.sum (p : Pk) : Int := 65535 - S p.T
/-- The header with a sum's field; all bytes. -/
def Pk.head (p : Pk) (s : Int) : List Int := p.fr ++ (s / 256 % 256 :: s % 256 :: (p.bk ++ p.opts))
def Pk.bytes (p : Pk) (s : Int) : List Int := p.head s ++ p.body
theorem Pk.err_zero {p : Pk} (h : p.err = 0) : oOK p.opts = true ∧ ordB p.off (p.body.length : Int) p.mf = true ∧ 20 + p.opts.length + p.body.length ≤ 65535 := by
  unfold Pk.err at h
  by_cases h1 : oOK p.opts = true
  · by_cases h2 : ordB p.off (p.body.length : Int) p.mf = true
    · by_cases h3 : 20 + p.opts.length + p.body.length ≤ 65535
      · exact ⟨h1, h2, h3⟩
      · rw [if_pos h1, if_pos h2, if_neg h3] at h; omega
    · rw [if_pos h1, if_neg h2] at h; omega
  · rw [if_neg h1] at h; omega
theorem Pk.err_of {p : Pk} (h1 : oOK p.opts = true) (h2 : ordB p.off (p.body.length : Int) p.mf = true) (h3 : 20 + p.opts.length + p.body.length ≤ 65535) : p.err = 0 := by
  unfold Pk.err
  rw [if_pos h1, if_pos h2, if_pos h3]
theorem tl_le {p : Pk} (he : p.err = 0) : 20 ≤ p.tl ∧ p.tl ≤ 65535 := by
  have := (Pk.err_zero he).2.2
  unfold Pk.tl
  omega
theorem Pk.fl_range {p : Pk} (h : ordB p.off (p.body.length : Int) p.mf = true) : 0 ≤ p.fl ∧ p.fl ≤ 32767 := by
  have := (ordB_true h).1
  unfold Pk.fl
  split <;> split <;> omega
theorem Pk.fr_bytes {p : Pk} (h : p.Fine) (he : p.err = 0) : Bytes p.fr := by
  obtain ⟨h1, h2, h3⟩ := Pk.err_zero he
  have ho := oOK_len h1
  have hf := Pk.fl_range h2
  unfold Pk.fr Pk.h0 Pk.hl Pk.tl
  exact Bytes.cons (by omega) (Bytes.cons h.tos (Bytes.cons (by omega) (Bytes.cons (by omega) (Bytes.cons (by omega) (Bytes.cons (by omega) (Bytes.cons (by omega) (Bytes.cons (by omega) (Bytes.cons h.ttl (Bytes.cons h.proto Bytes.nil)))))))))
theorem Pk.bk_bytes {p : Pk} (h : p.Fine) : Bytes (p.bk ++ p.opts) := by
  have h1 := h.src
  have h2 := h.dst
  unfold Pk.bk
  exact Bytes.append (Bytes.cons (by omega) (Bytes.cons (by omega) (Bytes.cons (by omega) (Bytes.cons (by omega) (Bytes.cons (by omega) (Bytes.cons (by omega) (Bytes.cons (by omega) (Bytes.cons (by omega) Bytes.nil)))))))) h.opts
theorem Pk.T_pos {p : Pk} (h : p.Fine) (he : p.err = 0) : 0 < p.T := by
  have h1 := Pk.fr_bytes h he
  have h2 := Pk.bk_bytes h
  have ho := oOK_len (Pk.err_zero he).1
  have h3 : Bytes (p.fr ++ (p.bk ++ p.opts)) := h1.append h2
  have h4 := tot_nonneg (b := false) h3.tail
  have h5 : p.T = 256 * p.h0 + tot false ((p.fr ++ (p.bk ++ p.opts)).tail) := rfl
  have h6 : 0 ≤ tot false ((p.fr ++ (p.bk ++ p.opts)).tail) := h4
  rw [h5]
  unfold Pk.h0 Pk.hl
  omega
theorem Pk.sum_range {p : Pk} (h : p.Fine) (he : p.err = 0) : 0 ≤ p.sum ∧ p.sum ≤ 65534 := by
  have h1 := Pk.T_pos h he
  have h2 := S_range (t := p.T) (by omega)
  have h3 := S_eq_zero (t := p.T) (by omega)
  unfold Pk.sum
  omega
theorem Pk.head_len (p : Pk) (s : Int) : (p.head s).length = 20 + p.opts.length := by simp [Pk.head, Pk.fr, Pk.bk]; omega
theorem Pk.bytes_len (p : Pk) (s : Int) : (p.bytes s).length = p.tl := by
  unfold Pk.bytes Pk.tl
  rw [List.length_append, Pk.head_len]
theorem Pk.head_bytes {p : Pk} (h : p.Fine) (he : p.err = 0) (s : Int) : Bytes (p.head s) := by
  unfold Pk.head
  exact (Pk.fr_bytes h he).append (Bytes.cons (by omega) (Bytes.cons (by omega) (Pk.bk_bytes h)))
theorem Pk.bytes_bytes {p : Pk} (h : p.Fine) (he : p.err = 0) (s : Int) : Bytes (p.bytes s) := (Pk.head_bytes h he s).append h.body
theorem tot_pair (A : List Int) (hA : A.length % 2 = 0) (s : Int) (h0 : 0 ≤ s) (h1 : s ≤ 65535) (B : List Int) : tot true (A ++ (s / 256 % 256 :: s % 256 :: B)) = tot true (A ++ B) + s := by
  rw [tot_even _ _ hA, tot_even _ _ hA]
  simp only [tot]
  omega
theorem Pk.head_tot {p : Pk} {s : Int} (h0 : 0 ≤ s) (h1 : s ≤ 65535) : tot true (p.head s) = p.T + s := tot_pair p.fr (by simp [Pk.fr]) s h0 h1 _

theorem cpy_at (A B S : List Int) (n : Nat) (hn : n = A.length) (h : S.length ≤ B.length) : cpy (A ++ B) n S = A ++ (S ++ B.drop S.length) := by
  subst hn
  have e1 : (A ++ B).take A.length = A := by simp
  have e2 : (A ++ B).drop (A.length + S.length) = B.drop S.length := by rw [List.drop_append, List.drop_eq_nil_of_le (by omega), List.nil_append]; congr 1; omega
  have e3 : (A ++ B).length - A.length = B.length := by rw [List.length_append]; omega
  unfold cpy
  rw [e1, e2, e3, List.take_of_length_le h]

/-- Build's last part, from the flags on. -/
theorem build_end (p : Pk) (h : p.Fine) (he : p.err = 0) (z6 z7 z8 z9 : Int) (R : List Int) (hR : R.length = p.opts.length + p.body.length) :
    Ev (fun k => ip4_Build.j1 k ((20 + p.opts.length : Nat) : Int) (p.h0 :: p.tos :: (p.tl : Int) / 256 % 256 :: (p.tl : Int) % 256 :: p.id / 256 % 256 :: p.id % 256 :: z6 :: z7 :: z8 :: z9 :: 0 :: 0 :: 0 :: 0 :: 0 :: 0 :: 0 :: 0 :: 0 :: 0 :: R) p.fl
      p.tos p.id p.df p.mf p.off p.ttl p.proto p.src p.dst p.opts p.body p.tos p.id p.df p.mf p.off p.ttl p.proto p.src p.dst p.opts) (p.bytes p.sum, 0) := by
  obtain ⟨h1, h2, h3⟩ := Pk.err_zero he
  have hlen : ∀ (x : List Int), x = R → (20 + x.length : Nat) = p.tl := fun x hx => by subst hx; unfold Pk.tl; omega
  have hsum := Pk.sum_range h he
  have hc1 : cpy (p.fr ++ (0 :: 0 :: p.bk) ++ R) 20 p.opts = p.fr ++ (0 :: 0 :: p.bk) ++ (p.opts ++ R.drop p.opts.length) := cpy_at _ _ _ _ rfl (by omega)
  have hc2 : cpy (p.fr ++ (0 :: 0 :: p.bk) ++ (p.opts ++ R.drop p.opts.length)) (20 + p.opts.length) p.body = p.fr ++ (0 :: 0 :: p.bk) ++ p.opts ++ p.body := by
    rw [← List.append_assoc, cpy_at _ _ _ _ (by simp [Pk.fr, Pk.bk]; omega) (by rw [List.length_drop]; omega), List.drop_drop, List.drop_eq_nil_of_le (by omega), List.append_nil]
  have hs2 := sum_two (a := p.fr) (b := p.bk ++ p.opts) (Pk.fr_bytes h he) (Pk.bk_bytes h) (by have := oOK_len h1; simp [Pk.fr, Pk.bk]; omega)
  have hs3 : Ev (fun k => ip4_Sum.f k [(p.fr ++ (0 :: 0 :: p.bk) ++ p.opts ++ p.body).take 10, ((p.fr ++ (0 :: 0 :: p.bk) ++ p.opts ++ p.body).take (20 + p.opts.length)).drop 12]) p.sum := by
    have e1 : (p.fr ++ (0 :: 0 :: p.bk) ++ p.opts ++ p.body).take 10 = p.fr := rfl
    have e2 : ((p.fr ++ (0 :: 0 :: p.bk) ++ p.opts ++ p.body).take (20 + p.opts.length)).drop 12 = p.bk ++ p.opts := by
      rw [List.take_left' (by simp [Pk.fr, Pk.bk]; omega)]
      rfl
    rw [e1, e2]
    exact hs2
  refine Ev.step (fun k => by
    rw [ip4_Build.j1, putWord_f (i := 6) (j := 6) rfl (by simp) (by omega), Option.bind_some, if_pos (by simp; omega), if_pos (by simp; omega),
      putLong_f (i := 12) (j := 12) rfl (by simp) (by omega) h.src.1 h.src.2, Option.bind_some, putLong_f (i := 16) (j := 16) rfl (by simp) (by omega) h.dst.1 h.dst.2, Option.bind_some, if_pos (by simp; omega), if_pos (by omega), if_pos (by simp; omega)]) ?_
  have e0 : ((((((((((((p.h0 :: p.tos :: (p.tl : Int) / 256 % 256 :: (p.tl : Int) % 256 :: p.id / 256 % 256 :: p.id % 256 :: z6 :: z7 :: z8 :: z9 :: 0 :: 0 :: 0 :: 0 :: 0 :: 0 :: 0 :: 0 :: 0 :: 0 :: R).set 6 (p.fl / 256 % 256)).set 7 (p.fl % 256)).set 8 p.ttl).set 9 p.proto).set 12 (p.src / 16777216)).set 13 (p.src / 65536 % 256)).set 14 (p.src / 256 % 256)).set 15 (p.src % 256)).set 16 (p.dst / 16777216)).set 17 (p.dst / 65536 % 256)).set 18 (p.dst / 256 % 256)).set 19 (p.dst % 256) = p.fr ++ (0 :: 0 :: p.bk) ++ R := rfl
  refine Ev.congr (f := fun k => (ip4_Sum.f k [(p.fr ++ (0 :: 0 :: p.bk) ++ p.opts ++ p.body).take 10, ((p.fr ++ (0 :: 0 :: p.bk) ++ p.opts ++ p.body).take (20 + p.opts.length)).drop 12]).bind fun t => (ip4_putWord.f (p.fr ++ (0 :: 0 :: p.bk) ++ p.opts ++ p.body) 10 t).bind fun t270 => some (t270, 0)) (fun k => by
    rw [show ((6 + 1 : Nat)) = 7 from rfl, show ((12 + 1 : Nat)) = 13 from rfl, show ((12 + 2 : Nat)) = 14 from rfl, show ((12 + 3 : Nat)) = 15 from rfl, show ((16 + 1 : Nat)) = 17 from rfl, show ((16 + 2 : Nat)) = 18 from rfl, show ((16 + 3 : Nat)) = 19 from rfl,
      show (8 : Int).toNat = 8 from rfl, show (9 : Int).toNat = 9 from rfl, e0, hc1, Int.toNat_natCast, hc2, Option.bind_some, if_pos (by simp; omega), if_pos (by omega)]) ?_
  refine Ev.bind hs3 ?_
  refine Ev.congr (fun k => by rw [putWord_f (i := 10) (j := 10) rfl (by simp [Pk.fr]) (by omega), Option.bind_some]) ?_
  have e9 : ((p.fr ++ (0 :: 0 :: p.bk) ++ p.opts ++ p.body).set 10 (p.sum / 256 % 256)).set (10 + 1) (p.sum % 256) = p.bytes p.sum := by
    unfold Pk.bytes Pk.head
    simp [Pk.fr, Pk.bk]
  rw [e9]
  exact Ev.now _
theorem build_f (p : Pk) (h : p.Fine) : Ev (fun k => ip4_Build.f k p.tos p.id p.df p.mf p.off p.ttl p.proto p.src p.dst p.opts p.body) (if p.err = 0 then (p.bytes p.sum, 0) else ([], p.err)) := by
  have hlo := h.lo
  have hlb := h.lb
  refine Ev.bind (options_f h.opts (by omega)) ?_
  by_cases h1 : ¬ (oOK p.opts = true)
  · have e : p.err = 34 := by unfold Pk.err; rw [if_neg h1]
    rw [e, if_neg (by omega)]
    exact Ev.congr (fun k => by rw [if_neg h1]) (Ev.now _)
  replace h1 : oOK p.opts = true := Decidable.of_not_not h1
  refine Ev.congr (fun k => by rw [if_pos h1, orderly_f (by omega) (by omega), Option.bind_some]) ?_
  by_cases h2 : ¬ (ordB p.off (p.body.length : Int) p.mf = true)
  · have e : p.err = 36 := by unfold Pk.err; rw [if_pos h1, if_neg h2]
    rw [e, if_neg (by omega)]
    exact Ev.congr (fun k => by rw [if_neg h2]) (Ev.now _)
  replace h2 : ordB p.off (p.body.length : Int) p.mf = true := Decidable.of_not_not h2
  have e1 : wrap64 (20 + (p.opts.length : Int)) = ((20 + p.opts.length : Nat) : Int) := by rw [w64 (by omega) (by omega)]; omega
  have e2 : wrap64 (((20 + p.opts.length : Nat) : Int) + (p.body.length : Int)) = ((20 + p.opts.length + p.body.length : Nat) : Int) := by rw [w64 (by omega) (by omega)]; omega
  refine Ev.congr (fun k => by rw [if_pos h2, e1, e2]) ?_
  by_cases h3 : ¬ (20 + p.opts.length + p.body.length ≤ 65535)
  · have e : p.err = 37 := by unfold Pk.err; rw [if_pos h1, if_pos h2, if_neg h3]
    rw [e, if_neg (by omega)]
    exact Ev.congr (fun k => by rw [if_pos (by omega)]) (Ev.now _)
  replace h3 : 20 + p.opts.length + p.body.length ≤ 65535 := Decidable.of_not_not h3
  have he := Pk.err_of h1 h2 h3
  rw [if_pos he]
  have ho := oOK_len h1
  have hod := (ordB_true h2).1
  have hrep : List.replicate (20 + p.opts.length + p.body.length) (0 : Int) = 0 :: 0 :: 0 :: 0 :: 0 :: 0 :: 0 :: 0 :: 0 :: 0 :: 0 :: 0 :: 0 :: 0 :: 0 :: 0 :: 0 :: 0 :: 0 :: 0 :: List.replicate (p.opts.length + p.body.length) 0 := by
    rw [show 20 + p.opts.length + p.body.length = p.opts.length + p.body.length + 20 by omega]
    rfl
  have e3 : (Go.bits .or .i64 64 (wrap64 (Int.tdiv ((20 + p.opts.length : Nat) : Int) 4))) % 256 = p.h0 := by
    rw [Int.tdiv_eq_ediv_of_nonneg (by omega), w64 (by omega) (by omega), or64 (by omega) (by omega)]
    unfold Pk.h0 Pk.hl
    omega
  have e4 : IntKind.u16.wrap (wrap64 (Int.tdiv p.off 8)) = p.off / 8 := by
    rw [Int.tdiv_eq_ediv_of_nonneg (by omega), w64 (by omega) (by omega), u16_small (by omega) (by omega)]
  have e5 : IntKind.u16.wrap ((List.replicate (20 + p.opts.length + p.body.length) (0 : Int)).length : Int) = (p.tl : Int) := by
    rw [List.length_replicate, u16_small (by omega) (by omega)]
    rfl
  refine Ev.congr (fun k => by
    rw [if_neg (by omega), if_pos (by omega), Int.toNat_natCast, if_pos (by omega), Option.bind_some, if_pos (by rw [List.length_replicate]; omega), if_pos (by rw [List.length_replicate]; omega), e3, e4, e5, hrep,
      putWord_f (i := 2) (j := 2) rfl (by simp) (by omega), Option.bind_some, putWord_f (i := 4) (j := 4) rfl (by simp) (by omega), Option.bind_some]) ?_
  have hend := build_end p h he 0 0 0 0 (List.replicate (p.opts.length + p.body.length) 0) (by rw [List.length_replicate])
  have hf0 : 0 ≤ p.off / 8 := by omega
  have hf1 : p.off / 8 < 8192 := by omega
  have e6 : (((((0 :: 0 :: 0 :: 0 :: 0 :: 0 :: 0 :: 0 :: 0 :: 0 :: 0 :: 0 :: 0 :: 0 :: 0 :: 0 :: 0 :: 0 :: 0 :: 0 :: List.replicate (p.opts.length + p.body.length) (0 : Int)).set (0 : Int).toNat p.h0).set (1 : Int).toNat p.tos).set 2 ((p.tl : Int) / 256 % 256)).set (2 + 1) ((p.tl : Int) % 256)) =
      p.h0 :: p.tos :: (p.tl : Int) / 256 % 256 :: (p.tl : Int) % 256 :: 0 :: 0 :: 0 :: 0 :: 0 :: 0 :: 0 :: 0 :: 0 :: 0 :: 0 :: 0 :: 0 :: 0 :: 0 :: 0 :: List.replicate (p.opts.length + p.body.length) (0 : Int) := rfl
  have e7 : ((p.h0 :: p.tos :: (p.tl : Int) / 256 % 256 :: (p.tl : Int) % 256 :: 0 :: 0 :: 0 :: 0 :: 0 :: 0 :: 0 :: 0 :: 0 :: 0 :: 0 :: 0 :: 0 :: 0 :: 0 :: 0 :: List.replicate (p.opts.length + p.body.length) (0 : Int)).set 4 (p.id / 256 % 256)).set (4 + 1) (p.id % 256) =
      p.h0 :: p.tos :: (p.tl : Int) / 256 % 256 :: (p.tl : Int) % 256 :: p.id / 256 % 256 :: p.id % 256 :: 0 :: 0 :: 0 :: 0 :: 0 :: 0 :: 0 :: 0 :: 0 :: 0 :: 0 :: 0 :: 0 :: 0 :: List.replicate (p.opts.length + p.body.length) (0 : Int) := rfl
  by_cases hd : p.df = true
  · by_cases hm : p.mf = true
    · have ef : p.fl = p.off / 8 + 24576 := by unfold Pk.fl; rw [if_pos hd, if_pos hm]; omega
      rw [ef] at hend
      exact Ev.congr (fun k => by rw [if_pos hd, or_df hf0 hf1, e6, e7]) (Ev.step (fun k => by rw [ip4_Build.j0, if_pos hm, or_both hf0 hf1]) hend)
    · have ef : p.fl = p.off / 8 + 16384 := by unfold Pk.fl; rw [if_pos hd, if_neg hm]; omega
      rw [ef] at hend
      exact Ev.congr (fun k => by rw [if_pos hd, or_df hf0 hf1, e6, e7]) (Ev.step (fun k => by rw [ip4_Build.j0, if_neg hm]) hend)
  · by_cases hm : p.mf = true
    · have ef : p.fl = p.off / 8 + 8192 := by unfold Pk.fl; rw [if_neg hd, if_pos hm]; omega
      rw [ef] at hend
      exact Ev.congr (fun k => by rw [if_neg hd, e6, e7]) (Ev.step (fun k => by rw [ip4_Build.j0, if_pos hm, or_mf hf0 hf1]) hend)
    · have ef : p.fl = p.off / 8 := by unfold Pk.fl; rw [if_neg hd, if_neg hm]; omega
      rw [ef] at hend
      exact Ev.congr (fun k => by rw [if_neg hd, e6, e7]) (Ev.step (fun k => by rw [ip4_Build.j0, if_neg hm]) hend)
end Go.Proofs.YtbacmhegalncjaaX
