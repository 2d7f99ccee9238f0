/- What Parse of packages ip4 and weftref3 answers.
   Conditions: bytes are 0 to 255; lists are no longer than memory lets. -/
import Derived.Test.YtphbdmafchjjeaaSRef3D
namespace Go.Proofs.YtphbdmafchjjeaaS
open Go Go.RowKit Go.Proofs Go.Proofs.YtphbdmafchjjeaaX
set_option maxRecDepth 100000
set_option linter.unusedVariables false
set_option linter.unusedSectionVars false
set_option linter.unusedSimpArgs false

/-- The packet that was read; none: all zero. -/
def pkOf (b : List Int) : Pk := ⟨b.getD 1 0, wd b 4, decide (wd b 6 / 16384 % 2 = 1), decide (wd b 6 / 8192 % 2 = 1), wd b 6 % 8192 * 8, b.getD 8 0, b.getD 9 0, lg b 12, lg b 16, (b.take (hlen b)).drop 20, (b.take (there b)).drop (hlen b)⟩
def pkOut (b : List Int) : Pk := if bad true b = 0 then pkOf b else pz
theorem rd_out {w w' : World} {b : List Int} {e : Ending} (h : RetRd w true b e w') : Bel w w' ∧ RetPk w (pkOut b) (bad true b) e w' := by
  obtain ⟨k, h⟩ := h
  refine ⟨k, ?_⟩
  unfold pkOut
  by_cases h0 : bad true b = 0
  · rw [if_pos h0] at h
    obtain ⟨A1, c1, A2, c2, rfl, y1, y2, l1, l2, f1, f2⟩ := h
    rw [if_pos h0, h0]
    exact ⟨_, _, _, _, _, _, rfl, ⟨y1, y2, l1, l2⟩, f1, f2⟩
  · rw [if_neg h0] at h
    subst h
    rw [if_neg h0]
    exact ret_pz w w' _
theorem Parse4_r {w : World} {A : Option Addr} {n c : Nat} {b : List Int} (h : By w A n b) (hb_ : Bytes b) (hc : n ≤ c) (hn : n ≤ 100000000000000) :
    Calls Try.prog 20 #[.slice A n c] w (fun e w' => RetRd w true b e w' ∧ RetPkR w (pkOut b) (bad true b) e w') := by
  refine ip4_Parse.run ?_
  unfold ip4_Parse.s
  have hl := h.len
  refine own_new (l := pb pz none 0 0 none 0 0) (Own.refl w) fun g1 w2 H => ?_
  refine call_of (read_c (h.bel H.bel) hb_ hc hn true) ?_
  rintro e w3 ⟨rfl, k1⟩
  replace H := H.call k1
  by_cases h1 : bad true b = 0
  · obtain ⟨q1, q2, q3, q4, q5⟩ := bad_zero h1
    obtain ⟨g1_, g2_, g3, g4, g5, g6⟩ := badLen_zero q1
    have hw2 := wd_range hb_ 2
    have ht := there_whole h1
    have e0 : wd b 2 = ((there b : Nat) : Int) := by omega
    have t1 : hlen b ≤ there b := by omega
    have t2 : there b ≤ n := by have := g6 rfl; omega
    rw [if_pos h1, e0]
    refine ⟨_, _, _, _, _, _, _, _, _, _, _, _, _, _, _, rfl, ?_⟩
    refine own_mk hz H rfl rfl fun g2 w4 H k4 _ => ?_
    refine ifN (fun hx => absurd rfl hx) (fun _ => ?_)
    refine ld_head (H.bk 0 rfl) ?_
    refine own_mk (pb pz none 0 0 none 0 0) H rfl rfl fun g3 w5 H k5 _ => ?_
    refine draws (fun w' => ∃ l M, Own w w' ((g3, 60, l) :: M)) ⟨_, _, H.drew⟩ fun w6 e6 => ?_
    replace H := H.drew
    rw [← e6] at H
    rw [Int.toNat_natCast, Int.toNat_natCast]
    refine ⟨⟨by omega, by omega⟩, ⟨by omega, by omega⟩, ⟨by omega, by omega⟩, ⟨by omega, by omega⟩, ?_⟩
    have k20 := ((h.bel H.bel).mid (k := 20) (j := hlen b) (m := c) (by omega) (by omega) hc)
    have kb := ((h.bel H.bel).mid (k := hlen b) (j := there b) (m := c) (by omega) (by omega) hc)
    refine call_of (apart_r k20 kb (by omega)) ?_
    rintro e w7 ⟨A1, c1, A2, c2, rfl, k2, b1, b2, l1, l2, f1, f2, r2⟩
    have o1 := H.old 0 rfl f1
    have o2 := H.old 0 rfl f2
    have o3 := H.old 2 rfl f1
    have o4 := H.old 2 rfl f2
    have kw := H.bel
    replace H := H.call k2
    refine ⟨_, _, _, _, _, _, rfl, ⟨_, _, H⟩, ?_⟩
    refine own_setB 0 H rfl (Nat.lt_of_lt_of_le (by decide : 9 < 11) (Nat.le_refl 11)) fun w8 H u1 => ?_
    refine ⟨⟨_, _, H⟩, ?_⟩
    refine own_setB 0 H rfl (Nat.lt_of_lt_of_le (by decide : 10 < 11) (Nat.le_refl 11)) fun w9 H u2 => ?_
    refine ⟨⟨_, _, H⟩, ?_⟩
    replace H : Own w w9 [(g3, 60, pb (pkOf b) A1 (hlen b - 20) c1 A2 (there b - hlen b) c2), (g2, 58, hb b none 0 0), (g1, 60, pb pz none 0 0 none 0 0)] := H
    refine ld_pkt (H.bk 0 rfl) ?_
    refine put_pkt 2 H rfl rfl fun w10 H u3 => ?_
    refine ⟨⟨H.bel, ?_⟩, ?_⟩
    · rw [if_pos h1]
      exact ⟨A1, c1, A2, c2, rfl, ((b1.but u1 o1).but u2 o1).but u3 o3, ((b2.but u1 o2).but u2 o2).but u3 o4, l1, l2, f1.le kw, f2.le kw⟩
    · unfold pkOut
      rw [if_pos h1, h1]
      exact ⟨_, _, _, _, _, _, rfl, ⟨((b1.but u1 o1).but u2 o1).but u3 o3, ((b2.but u1 o2).but u2 o2).but u3 o4, l1, l2⟩, f1.le kw, f2.le kw, ((r2.but u1 o1 o2).but u2 o1 o2).but u3 o3 o4⟩
  · rw [if_neg h1]
    refine ⟨_, _, _, _, _, _, _, _, _, _, _, _, _, _, _, rfl, ?_⟩
    refine own_mk hz H rfl rfl fun g2 w4 H k4 _ => ?_
    refine ifN (fun _ => ?_) (fun hx => absurd hx h1)
    refine put_pkt 1 H rfl rfl fun w5 H _ => ?_
    refine ⟨⟨H.bel, by rw [if_neg h1]; rfl⟩, ?_⟩
    unfold pkOut
    rw [if_neg h1]
    exact ret_pzR _ _ _
theorem Parse4_c {w : World} {A : Option Addr} {n c : Nat} {b : List Int} (h : By w A n b) (hb_ : Bytes b) (hc : n ≤ c) (hn : n ≤ 100000000000000) :
    Calls Try.prog 20 #[.slice A n c] w (RetRd w true b) := (Parse4_r h hb_ hc hn).mono fun e w' k => k.1
end Go.Proofs.YtphbdmafchjjeaaS
