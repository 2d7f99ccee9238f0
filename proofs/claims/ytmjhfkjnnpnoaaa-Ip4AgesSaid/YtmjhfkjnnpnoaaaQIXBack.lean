/- Parse of Build, Build of Parse, and Age, as plain laws of packets and bytes.
   Conditions: bytes are 0 to 255. -/
import Derived.Test.YtmjhfkjnnpnoaaaQIXRead
import Derived.Test.YtmjhfkjnnpnoaaaQIXAx15
namespace Go.Proofs.YtmjhfkjnnpnoaaaX
open Go.RowKit Go.Proofs.Ytmjhfkjnnpnoaaa.XA Go.Proofs.YtmjhfkjnnpnoaaaW.PrintWords Go.Proofs.YtmjhfkjnnpnoaaaW.PrintLast Go.Proofs.YtmjhfkjnnpnoaaaW.PrintMore
set_option linter.unusedVariables false
set_option linter.unusedSimpArgs false

/-- What follows from a packet's bytes with a right sum in them, whatever lies behind. -/
structure Reads (p : Pk) (b : List Int) : Prop where
  whole : bad true b = 0
  front : bad false b = 0
  head : ∀ {β : Type} (z : β), hdF b z = (p.tos, p.id, p.df, p.mf, p.off, p.ttl, p.proto, p.src, p.dst, z)
  opts : optsOf b = p.opts
  body : bodyOf b = p.body
  rest : (b.take (there b)).drop (hlen b) = p.body
/-- The packet that its bytes hold. -/
def ofB (b : List Int) : Pk where
  tos := b.getD 1 0
  id := wd b 4
  df := decide (wd b 6 / 16384 % 2 = 1)
  mf := decide (wd b 6 / 8192 % 2 = 1)
  off := wd b 6 % 8192 * 8
  ttl := b.getD 8 0
  proto := b.getD 9 0
  src := lg b 12
  dst := lg b 16
  opts := optsOf b
  body := bodyOf b
theorem one_more {b : List Int} {n : Nat} (h : n + 1 ≤ b.length) : ∃ x r, b = x :: r ∧ n ≤ r.length := by
  cases b with
  | nil => simp at h
  | cons x r => exact ⟨x, r, rfl, by simpa using h⟩
theorem twenty {b : List Int} (h : 20 ≤ b.length) : ∃ x0 x1 x2 x3 x4 x5 x6 x7 x8 x9 x10 x11 x12 x13 x14 x15 x16 x17 x18 x19 r, b = x0 :: x1 :: x2 :: x3 :: x4 :: x5 :: x6 :: x7 :: x8 :: x9 :: x10 :: x11 :: x12 :: x13 :: x14 :: x15 :: x16 :: x17 :: x18 :: x19 :: r := by
  obtain ⟨x0, r0, e0, h0⟩ := one_more (n := 19) (b := b) h
  obtain ⟨x1, r1, e1, h1⟩ := one_more (n := 18) (b := r0) h0
  obtain ⟨x2, r2, e2, h2⟩ := one_more (n := 17) (b := r1) h1
  obtain ⟨x3, r3, e3, h3⟩ := one_more (n := 16) (b := r2) h2
  obtain ⟨x4, r4, e4, h4⟩ := one_more (n := 15) (b := r3) h3
  obtain ⟨x5, r5, e5, h5⟩ := one_more (n := 14) (b := r4) h4
  obtain ⟨x6, r6, e6, h6⟩ := one_more (n := 13) (b := r5) h5
  obtain ⟨x7, r7, e7, h7⟩ := one_more (n := 12) (b := r6) h6
  obtain ⟨x8, r8, e8, h8⟩ := one_more (n := 11) (b := r7) h7
  obtain ⟨x9, r9, e9, h9⟩ := one_more (n := 10) (b := r8) h8
  obtain ⟨x10, r10, e10, h10⟩ := one_more (n := 9) (b := r9) h9
  obtain ⟨x11, r11, e11, h11⟩ := one_more (n := 8) (b := r10) h10
  obtain ⟨x12, r12, e12, h12⟩ := one_more (n := 7) (b := r11) h11
  obtain ⟨x13, r13, e13, h13⟩ := one_more (n := 6) (b := r12) h12
  obtain ⟨x14, r14, e14, h14⟩ := one_more (n := 5) (b := r13) h13
  obtain ⟨x15, r15, e15, h15⟩ := one_more (n := 4) (b := r14) h14
  obtain ⟨x16, r16, e16, h16⟩ := one_more (n := 3) (b := r15) h15
  obtain ⟨x17, r17, e17, h17⟩ := one_more (n := 2) (b := r16) h16
  obtain ⟨x18, r18, e18, h18⟩ := one_more (n := 1) (b := r17) h17
  obtain ⟨x19, r19, e19, h19⟩ := one_more (n := 0) (b := r18) h18
  exact ⟨x0, x1, x2, x3, x4, x5, x6, x7, x8, x9, x10, x11, x12, x13, x14, x15, x16, x17, x18, x19, r19, by rw [e0, e1, e2, e3, e4, e5, e6, e7, e8, e9, e10, e11, e12, e13, e14, e15, e16, e17, e18, e19]⟩
structure Holds (b : List Int) : Prop where
  fine : (ofB b).Fine
  err : (ofB b).err = 0
  bytes : b = (ofB b).bytes (wd b 10) ++ b.drop (wd b 2).toNat
  tl : ((ofB b).tl : Int) = wd b 2
  hl : (ofB b).hl = hlen b
  sum : S ((ofB b).T + wd b 10) = 65535
theorem holds {b : List Int} (hb : Bytes b) (hl : b.length ≤ 140737488351232) (h : bad true b = 0) : Holds b := by
  obtain ⟨h1, h2, h3, h4, h5⟩ := bad_zero h
  obtain ⟨a1, a2, a3, a4, a5, a6⟩ := badLen_zero h1
  have a7 := a6 rfl
  have hh := hlen_le hb
  have w2 := wd_range hb 2
  have w4 := wd_range hb 4
  have w6 := wd_range hb 6
  have w10 := wd_range hb 10
  have l12 := lg_range hb 12
  have l16 := lg_range hb 16
  have lo : (optsOf b).length = hlen b - 20 := by unfold optsOf; rw [List.length_drop, List.length_take]; omega
  have lb : ((bodyOf b).length : Int) = wd b 2 - hlen b := by unfold bodyOf; rw [List.length_drop, List.length_take]; omega
  have htl : ((ofB b).tl : Int) = wd b 2 := by
    show ((20 + (optsOf b).length + (bodyOf b).length : Nat) : Int) = wd b 2
    omega
  have hhl : (ofB b).hl = hlen b := by
    show 20 + (optsOf b).length = hlen b
    omega
  have fine : (ofB b).Fine := ⟨hb.getD 1, w4, by show -9223372036854775808 ≤ wd b 6 % 8192 * 8 ∧ wd b 6 % 8192 * 8 ≤ 9223372036854775807; omega, hb.getD 8, hb.getD 9, l12, l16, (hb.take _).drop _, (hb.take _).drop _, by show (optsOf b).length ≤ _; omega, by show (bodyOf b).length ≤ _; omega⟩
  have herr : (ofB b).err = 0 := by
    refine Pk.err_of h4 ?_ ?_
    · show ordB (wd b 6 % 8192 * 8) ((bodyOf b).length : Int) (decide (wd b 6 / 8192 % 2 = 1)) = true
      rw [lb]
      exact h5
    · show 20 + (optsOf b).length + (bodyOf b).length ≤ 65535
      omega
  have hfl : (ofB b).fl = wd b 6 := by
    show wd b 6 % 8192 * 8 / 8 + (if decide (wd b 6 / 16384 % 2 = 1) = true then 16384 else 0) + (if decide (wd b 6 / 8192 % 2 = 1) = true then 8192 else 0) = wd b 6
    simp only [decide_eq_true_eq]
    split <;> split <;> omega
  have hhead : (ofB b).head (wd b 10) = b.take (hlen b) := by
    have hopts : ∀ x0 x1 x2 x3 x4 x5 x6 x7 x8 x9 x10 x11 x12 x13 x14 x15 x16 x17 x18 x19 (r : List Int), b = x0 :: x1 :: x2 :: x3 :: x4 :: x5 :: x6 :: x7 :: x8 :: x9 :: x10 :: x11 :: x12 :: x13 :: x14 :: x15 :: x16 :: x17 :: x18 :: x19 :: r →
        b.take (hlen b) = [x0, x1, x2, x3, x4, x5, x6, x7, x8, x9, x10, x11, x12, x13, x14, x15, x16, x17, x18, x19] ++ optsOf b := by
      intro x0 x1 x2 x3 x4 x5 x6 x7 x8 x9 x10 x11 x12 x13 x14 x15 x16 x17 x18 x19 r hbe
      unfold optsOf
      obtain ⟨m, hm⟩ : ∃ m, hlen b = m + 20 := ⟨hlen b - 20, by omega⟩
      rw [hm, hbe]
      rfl
    have hgo : (ofB b).head (wd b 10) = [(ofB b).h0, b.getD 1 0, ((ofB b).tl : Int) / 256 % 256, ((ofB b).tl : Int) % 256, wd b 4 / 256 % 256, wd b 4 % 256, (ofB b).fl / 256 % 256, (ofB b).fl % 256, b.getD 8 0, b.getD 9 0, wd b 10 / 256 % 256, wd b 10 % 256,
        lg b 12 / 16777216, lg b 12 / 65536 % 256, lg b 12 / 256 % 256, lg b 12 % 256, lg b 16 / 16777216, lg b 16 / 65536 % 256, lg b 16 / 256 % 256, lg b 16 % 256] ++ optsOf b := rfl
    rw [hgo, htl, hfl]
    have hz : (ofB b).h0 = b.getD 0 0 := by
      have g0 := hb.getD 0
      have hx : hlen b = (b.getD 0 0 % 16 * 4).toNat := rfl
      unfold Pk.h0
      rw [hhl]
      omega
    rw [hz]
    obtain ⟨x0, x1, x2, x3, x4, x5, x6, x7, x8, x9, x10, x11, x12, x13, x14, x15, x16, x17, x18, x19, r, hbe⟩ := twenty a1
    rw [hopts x0 x1 x2 x3 x4 x5 x6 x7 x8 x9 x10 x11 x12 x13 x14 x15 x16 x17 x18 x19 r hbe]
    have hbb := hb
    rw [hbe] at hbb
    have q := fun i => hbb.getD i
    have q2 := q 2
    have q3 := q 3
    have q4 := q 4
    have q5 := q 5
    have q6 := q 6
    have q7 := q 7
    have q10 := q 10
    have q11 := q 11
    have q12 := q 12
    have q13 := q 13
    have q14 := q 14
    have q15 := q 15
    have q16 := q 16
    have q17 := q 17
    have q18 := q 18
    have q19 := q 19
    congr 1
    rw [hbe]
    simp only [wd, lg, List.getD_cons_succ, List.getD_cons_zero] at *
    simp only [List.cons.injEq, and_true, true_and]
    refine ⟨?_, ?_, ?_, ?_, ?_, ?_, ?_, ?_, ?_, ?_, ?_, ?_, ?_, ?_, ?_, ?_⟩ <;> omega
  refine ⟨fine, herr, ?_, htl, hhl, ?_⟩
  · unfold Pk.bytes
    rw [hhead]
    show b = b.take (hlen b) ++ (b.take (wd b 2).toNat).drop (hlen b) ++ b.drop (wd b 2).toNat
    have e1 : b.take (hlen b) ++ (b.take (wd b 2).toNat).drop (hlen b) = b.take (wd b 2).toNat := by
      have := List.take_append_drop (hlen b) (b.take (wd b 2).toNat)
      rw [List.take_take, Nat.min_eq_left (by omega)] at this
      exact this
    rw [e1, List.take_append_drop]
  · rw [← Pk.head_tot w10.1 w10.2, hhead]
    exact h2

/-- A packet that is one router on. -/
def older (p : Pk) : Pk := { p with ttl := p.ttl - 1 }
theorem older_fine {p : Pk} (h : p.Fine) (ht : 0 < p.ttl) : (older p).Fine := ⟨h.tos, h.id, h.off, by have := h.ttl; show 0 ≤ p.ttl - 1 ∧ p.ttl - 1 ≤ 255; omega, h.proto, h.src, h.dst, h.opts, h.body, h.lo, h.lb⟩
theorem age_f {b : List Int} (hb : Bytes b) (hl : b.length ≤ 140737488351232) : Ev (fun k => ip4_Age.f k b) (if bad true b = 0 then if b.getD 8 0 ≤ 1 then ([], 35) else ((older (ofB b)).bytes (older (ofB b)).sum, 0) else ([], bad true b)) := by
  refine Ev.bind (read_f hb (by omega) true) ?_
  by_cases h : ¬ (bad true b = 0)
  · simp only [if_neg h, hd0]
    exact Ev.now _
  replace h : bad true b = 0 := Decidable.of_not_not h
  have H := holds hb hl h
  obtain ⟨a1, a2, a3, a4, a5, a6⟩ := badLen_zero (bad_zero h).1
  have a7 := a6 rfl
  have hw2 := wd_range hb 2
  have hh := hlen_le hb
  simp only [if_pos h, hdF]
  by_cases ht : b.getD 8 0 ≤ 1
  · simp only [if_pos ht, if_true]
    exact Ev.now _
  simp only [if_neg ht, if_true]
  have g8 := hb.getD 8
  have ho : (older (ofB b)).Fine := older_fine H.fine (by show 0 < b.getD 8 0; omega)
  have hoe : (older (ofB b)).err = 0 := H.err
  have hn : ((wd b 2).toNat : Int) = wd b 2 := by omega
  have htl : (wd b 2).toNat = (ofB b).tl := by have := H.tl; omega
  have hc : cpy (List.replicate (wd b 2).toNat 0) 0 b = (ofB b).bytes (wd b 10) := by
    unfold cpy
    rw [List.take_zero, List.nil_append, Nat.sub_zero, List.length_replicate, List.drop_eq_nil_of_le (by rw [List.length_replicate]; omega), List.append_nil]
    have : b.take (wd b 2).toNat = ((ofB b).bytes (wd b 10) ++ b.drop (wd b 2).toNat).take (wd b 2).toNat := by rw [← H.bytes]
    rw [this, List.take_left' (by rw [Pk.bytes_len, htl])]
  have hs8 : ((ofB b).bytes (wd b 10)).set 8 ((rd ((ofB b).bytes (wd b 10)) 8 - 1) % 256) = (older (ofB b)).bytes (wd b 10) := by
    have e : rd ((ofB b).bytes (wd b 10)) 8 = b.getD 8 0 := rfl
    rw [e, show (b.getD 8 0 - 1) % 256 = b.getD 8 0 - 1 by omega]
    rfl
  have hst : Ev (fun k => ip4_Sum.f k [((older (ofB b)).bytes (wd b 10)).take 10, (((older (ofB b)).bytes (wd b 10)).take (hlen b)).drop 12]) (older (ofB b)).sum := by
    have e1 : ((older (ofB b)).bytes (wd b 10)).take 10 = (older (ofB b)).fr := rfl
    have e2 : (((older (ofB b)).bytes (wd b 10)).take (hlen b)).drop 12 = (older (ofB b)).bk ++ (older (ofB b)).opts := by
      unfold Pk.bytes
      rw [List.take_left' (by rw [Pk.head_len]; exact H.hl)]
      rfl
    rw [e1, e2]
    have hlo : (optsOf b).length ≤ 40 := (oOK_len (Pk.err_zero H.err).1).1
    exact sum_two (a := (older (ofB b)).fr) (b := (older (ofB b)).bk ++ (older (ofB b)).opts) (Pk.fr_bytes ho hoe) (Pk.bk_bytes ho) (by show (((older (ofB b)).fr ++ ((older (ofB b)).bk ++ optsOf b)).length : Int) ≤ _; simp [Pk.fr, Pk.bk]; omega)
  refine Ev.congr (fun k => by rw [if_pos (by omega), if_pos (by omega), Option.bind_some, hc, Option.bind_some, if_pos (by rw [List.length_replicate]; omega), show (8 : Int).toNat = 8 from rfl, hs8, Option.bind_some, if_pos (by rw [List.length_replicate]; omega), if_pos (by omega), if_pos (by rw [List.length_replicate]; omega), Int.toNat_natCast]) ?_
  refine Ev.bind hst ?_
  have hblen : ((older (ofB b)).bytes (wd b 10)).length = (ofB b).tl := Pk.bytes_len _ _
  refine Ev.congr (fun k => by rw [putWord_f (i := 10) (j := 10) rfl (by rw [hblen]; omega) (by omega), Option.bind_some]) ?_
  have e9 : (((older (ofB b)).bytes (wd b 10)).set 10 ((older (ofB b)).sum / 256 % 256)).set (10 + 1) ((older (ofB b)).sum % 256) = (older (ofB b)).bytes (older (ofB b)).sum := rfl
  rw [e9]
  exact Ev.now _
end Go.Proofs.YtmjhfkjnnpnoaaaX
