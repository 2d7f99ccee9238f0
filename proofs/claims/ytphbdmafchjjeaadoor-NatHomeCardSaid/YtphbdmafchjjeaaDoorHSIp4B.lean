/- What read, apart, Peek and Build of package ip4 answer.
   Conditions: bytes are 0 to 255, lists are no longer than memory lets. -/
import Derived.Test.YtphbdmafchjjeaaDoorHSIp4
namespace Go.Proofs.YtphbdmafchjjeaaDoorS
open Go Go.RowKit Go.Proofs Go.Proofs.YtphbdmafchjjeaaDoorX
set_option maxRecDepth 100000
set_option linter.unusedVariables false
set_option linter.unusedSimpArgs false

/-- The header's record of these bytes. -/
def hb (b : List Int) (A : Option Addr) (n c : Nat) : List Value :=
  hv (b.getD 1 0) (wd b 4) (decide (wd b 6 / 16384 % 2 = 1)) (decide (wd b 6 / 8192 % 2 = 1)) (wd b 6 % 8192 * 8) (b.getD 8 0) (b.getD 9 0) (lg b 12) (lg b 16) A n c
theorem read_c {w : World} {A : Option Addr} {n c : Nat} {b : List Int} (h : By w A n b) (hb_ : Bytes b) (hc : n ≤ c) (hn : n ≤ 100000000000000) (whole : Bool) :
    Calls Tryd.prog 77 #[.slice A n c, .bool whole] w (Ret (if bad whole b = 0 then .tuple #[.agg (hb b none 0 0).toArray, .int .i64 (hlen b : Int), .int .i64 (wd b 2), .int .i64 0] else .tuple #[.agg hz.toArray, .int .i64 0, .int .i64 0, .int .i64 (bad whole b)]) w) := by
  refine ip4_read.run ?_
  unfold ip4_read.s
  have hl := h.len
  refine own_new (l := hz) (Own.refl w) fun g1 w2 H => ?_
  refine call_of (measure_c (h.bel H.bel) hb_ (by omega) whole) ?_
  rintro e w3 ⟨rfl, k1⟩
  replace H := H.call k1
  by_cases h1 : badLen whole b ≠ 0
  · have eb : bad whole b = badLen whole b := by unfold bad; rw [if_pos h1]
    rw [if_neg h1, eb, if_neg h1]
    refine ⟨_, _, _, rfl, ?_⟩
    refine ifN (fun _ => ?_) (fun h => absurd h h1)
    refine ld_head (H.bk 0 rfl) ?_
    refine own_put 0 H rfl rfl (by decide) fun w4 H => ?_
    refine ld_head (H.bk 0 rfl) ?_
    exact ⟨rfl, H.bel⟩
  replace h1 : badLen whole b = 0 := Decidable.of_not_not h1
  obtain ⟨g1_, g2, g3, g4, g5⟩ := badLen_zero h1
  have hw2 := wd_range hb_ 2
  have hw6 := wd_range hb_ 6
  rw [if_pos h1]
  refine ⟨_, _, _, rfl, ?_⟩
  refine ifN (fun h => absurd rfl h) (fun _ => ?_)
  refine ⟨⟨by omega, by omega⟩, ?_⟩
  rw [Int.toNat_natCast]
  refine own_new (l := [.slice A (hlen b) c]) H fun g29 w30 H => ?_
  refine call_of (sum1_c (H.bk 0 rfl) ((h.bel H.bel).take (by omega)) (hb_.take _) (by rw [List.length_take]; omega) 1) ?_
  rintro e w31 ⟨rfl, k2⟩
  replace H := (H.call k2).tail
  refine ⟨_, rfl, ?_⟩
  refine ifN (fun h2 => ?_) (fun h2 => ?_)
  · have eb : bad whole b = 33 := by unfold bad; rw [if_neg (not_not_intro h1), if_pos h2]
    rw [eb, if_neg (by decide)]
    refine ld_head (H.bk 0 rfl) ?_
    refine own_put 0 H rfl rfl (by decide) fun w4 H => ?_
    refine ld_head (H.bk 0 rfl) ?_
    exact ⟨rfl, H.bel⟩
  refine call_of (word_c (h.bel H.bel) hb_ (i := 6) rfl (by omega) (by omega)) ?_
  rintro e w55 ⟨rfl, k3⟩
  replace H := H.call k3
  refine ⟨_, rfl, ?_⟩
  refine let_id ?_
  have htop := and_top hw6.1 hw6.2
  refine ifN (fun h3 => ?_) (fun h3 => ?_)
  · have eb : bad whole b = 32 := by unfold bad; rw [if_neg (not_not_intro h1), if_neg (not_not_intro h2), if_pos (by omega)]
    rw [eb, if_neg (by decide)]
    refine ld_head (H.bk 0 rfl) ?_
    refine own_put 0 H rfl rfl (by decide) fun w4 H => ?_
    refine ld_head (H.bk 0 rfl) ?_
    exact ⟨rfl, H.bel⟩
  have h3' := htop.1 h3
  refine ⟨⟨by omega, by omega⟩, ⟨by omega, by omega⟩, ?_⟩
  refine call_of (options_c ((h.bel H.bel).mid (k := 20) (j := hlen b) (m := c) (by omega) (by omega) hc) ((hb_.take _).drop _) (by omega) (by omega)) ?_
  rintro e w80 ⟨rfl, k4⟩
  replace H := H.call k4
  refine ⟨_, rfl, ?_⟩
  refine ifNot (fun h4 => ?_) (fun h4 => ?_)
  · have eb : bad whole b = 34 := by unfold bad; rw [if_neg (not_not_intro h1), if_neg (not_not_intro h2), if_neg (by omega), if_pos (by rw [h4]; decide)]
    rw [eb, if_neg (by decide)]
    refine ld_head (H.bk 0 rfl) ?_
    refine own_put 0 H rfl rfl (by decide) fun w4 H => ?_
    refine ld_head (H.bk 0 rfl) ?_
    exact ⟨rfl, H.bel⟩
  refine let_as _ (and_off hw6.1 hw6.2) ?_
  refine let_as _ (w64 (by omega) (by omega)) ?_
  refine let_as _ (w64 (by omega) (by omega)) ?_
  refine let_id ?_
  rw [and_mf hw6.1 hw6.2]
  refine let_as _ (w64 (by omega) (by omega)) ?_
  refine call_of (orderly_c w80 (off := wd b 6 % 8192 * 8) (body := wd b 2 - hlen b) (mf := decide (wd b 6 / 8192 % 2 = 1)) (by omega) (by omega)) ?_
  rintro e w109 ⟨rfl, k5⟩
  replace H := H.call k5
  refine ⟨_, rfl, ?_⟩
  refine ifNot (fun h5 => ?_) (fun h5 => ?_)
  · have eb : bad whole b = 36 := by unfold bad; rw [if_neg (not_not_intro h1), if_neg (not_not_intro h2), if_neg (by omega), if_neg (by rw [h4]; decide), if_pos (by rw [h5]; decide)]
    rw [eb, if_neg (by decide)]
    refine ld_head (H.bk 0 rfl) ?_
    refine own_put 0 H rfl rfl (by decide) fun w4 H => ?_
    refine ld_head (H.bk 0 rfl) ?_
    exact ⟨rfl, H.bel⟩
  have eb : bad whole b = 0 := by unfold bad; rw [if_neg (not_not_intro h1), if_neg (not_not_intro h2), if_neg (by omega), if_neg (by rw [h4]; decide), if_neg (by rw [h5]; decide)]
  rw [eb, if_pos rfl]
  have hS : ∀ w', (∃ l, Own w w' [(g1, 43, l)]) → Bel w w' := fun w' ⟨l, h⟩ => h.bel
  refine draws (fun w' => ∃ l, Own w w' [(g1, 43, l)]) ⟨_, H.drew⟩ fun w134 e134 => ?_
  replace H := H.drew
  rw [← e134] at H
  refine h.rdkS hS 1 rfl (by omega) fun _ => ?_
  refine let_id ?_
  rw [and_df hw6.1 hw6.2]
  refine h.rdkS hS 8 rfl (by omega) fun _ => ?_
  refine h.rdkS hS 9 rfl (by omega) fun _ => ?_
  refine call_of (word_c (h.bel H.bel) hb_ (i := 4) rfl (by omega) (by omega)) ?_
  rintro e w142 ⟨rfl, k6⟩
  replace H := H.call k6
  refine ⟨_, rfl, ⟨_, H⟩, ?_⟩
  refine call_of (long_c (h.bel H.bel) hb_ (i := 12) rfl (by omega) (by omega)) ?_
  rintro e w145 ⟨rfl, k7⟩
  replace H := H.call k7
  refine ⟨_, rfl, ⟨_, H⟩, ?_⟩
  refine call_of (long_c (h.bel H.bel) hb_ (i := 16) rfl (by omega) (by omega)) ?_
  rintro e w148 ⟨rfl, k8⟩
  replace H := H.call k8
  refine ⟨_, rfl, ⟨_, H⟩, ?_⟩
  refine own_put 0 H rfl rfl (by decide) fun w151 H => ?_
  refine ⟨⟨_, H⟩, ?_⟩
  refine ld_head (H.bk 0 rfl) ?_
  refine own_put 0 H rfl rfl (Nat.le_refl 10) fun w162 H => ?_
  refine ld_head (H.bk 0 rfl) ?_
  exact ⟨rfl, H.bel⟩

/-- apart: both lists, in memory of its own. -/
theorem apart_r {w : World} {A B : Option Addr} {n c m d : Nat} {x y : List Int} (hx : By w A n x) (hy : By w B m y) (h : n + m ≤ 100000000000000) :
    Calls Tryd.prog 78 #[.slice A n c, .slice B m d] w (fun e w' => ∃ A' c' B' d', e = .returned (.tuple #[.slice A' n c', .slice B' m d']) ∧ Bel w w' ∧ By w' A' n x ∧ By w' B' m y ∧ n ≤ c' ∧ m ≤ d' ∧ Fre w A' ∧ Fre w B' ∧ Rm2 w' A' c' B' d') := by
  refine ip4_apart.run ?_
  unfold ip4_apart.s
  have lx := hx.len
  have ly := hy.len
  refine ifE (fun h0 => ?_) (fun h0 => ?_)
  · have hn : n = 0 := by omega
    subst hn
    have ex : x = [] := List.eq_nil_of_length_eq_zero lx
    subst ex
    refine app_byR (Own.refl w) (By.nil w none) rfl hy (by omega) fun A' cap a' h2 H _ hb hf => ?_
    rw [Nat.zero_add, List.nil_append] at hb
    exact ⟨none, 0, A', cap, by rw [Nat.zero_add], H.bel, By.nil _ _, hb, Nat.le_refl _, by omega, Fre.nil w, by rcases hf with ⟨rfl, _⟩ | hf; exact Fre.nil w; exact hf.1, Rm2.none (by rcases hf with ⟨rfl, rfl⟩ | hf; exact Rm.nil _; exact hf.2)⟩
  refine let_as ((n + m : Nat) : Int) (by rw [w64 (by omega) (by omega)]; omega) ?_
  refine ⟨⟨by omega, by omega, by omega, by omega⟩, ?_⟩
  rw [Int.toNat_natCast]
  refine own_new (Own.refl w) fun g w1 H => ?_
  rw [bv_rep] at H
  refine own_copy 0 H rfl (hx.bel H.bel) (by simp [bv]) fun w2 H => ?_
  rw [bv_splice] at H
  refine ⟨⟨by omega, by omega⟩, ?_⟩
  have e1 : splice (List.replicate (n + m) 0) 0 (List.take (min n (n + m)) x) = x ++ List.replicate m 0 := by
    rw [Nat.min_eq_left (by omega), List.take_of_length_le (by omega)]
    simp [splice, lx]
  rw [e1] at H
  have key : ∀ (K : World → Prop), (∀ w3, Own w w3 [(g, 5, bv (x ++ y))] → K w3) → CopyE w2 (cutA (some ⟨g, 0, none⟩) n (n + m) 1) (n + m - n) B m K := by
    intro K hK
    by_cases hm : m = 0
    · subst hm
      have ey : y = [] := List.eq_nil_of_length_eq_zero ly
      subst ey
      exact copy_nil (Or.inl rfl) (hK w2 (by simpa using H))
    · rw [cut0 _ _ _ (by omega)]
      refine own_copy 0 H rfl (hy.bel H.bel) (by simp [bv]; omega) fun w3 H => hK _ ?_
      rw [bv_splice] at H
      have e2 : splice (x ++ List.replicate m 0) n (List.take (min m (n + m - n)) y) = x ++ y := by
        rw [Nat.min_eq_left (by omega), List.take_of_length_le (by omega)]
        simp [splice, lx, ly]
      rwa [e2] at H
  refine key _ fun w3 H => ?_
  refine drawsR fun w4 k4 => ?_
  replace H := H.call k4
  refine ⟨⟨by omega, by omega⟩, ⟨by omega, by omega⟩, ⟨by omega, by omega⟩, ⟨by omega, by omega⟩, ⟨by omega, by omega⟩, ?_⟩
  have hw := (H.bk 0 rfl).by
  have hl : (x ++ y).length = n + m := by simp; omega
  rw [hl] at hw
  refine ⟨_, _, _, _, by rw [Nat.add_sub_cancel_left], H.bel, ?_, ?_, Nat.le_refl _, Nat.le_refl _, Fre.mk (H.ge 0 rfl), ?_, Or.inr ⟨_, _, _, rfl, H.bk 0 rfl, by omega, by omega⟩, ?_, fun x y e1 e2 _ => ?_⟩
  · have := hw.take (k := n) (by omega)
    rwa [List.take_left' lx] at this
  · have := hw.cut (k := n) (m := n + m) (by omega) (Nat.le_refl _)
    rwa [List.drop_left' lx, Nat.add_sub_cancel_left] at this
  · by_cases hm : n + m = n
    · rw [hm]
      unfold cutA
      rw [if_pos rfl]
      exact Fre.mk (H.ge 0 rfl)
    · rw [cut0 _ _ _ (by omega)]
      exact Fre.mk (H.ge 0 rfl)
  · by_cases hm : n + m = n
    · rw [hm]
      unfold cutA
      rw [if_pos rfl]
      exact Or.inr ⟨_, _, _, rfl, H.bk 0 rfl, by omega, by omega⟩
    · rw [cut0 _ _ _ (by omega)]
      exact Or.inr ⟨_, _, _, rfl, H.bk 0 rfl, by omega, by omega⟩
  · by_cases hm : m = 0
    · exact Or.inr hm
    · rw [cut0 _ _ _ (by omega)] at e2
      injection e1 with e1
      injection e2 with e2
      subst e1 e2
      exact Or.inl (by show 0 + n ≤ n; omega)
theorem apart_c {w : World} {A B : Option Addr} {n c m d : Nat} {x y : List Int} (hx : By w A n x) (hy : By w B m y) (h : n + m ≤ 100000000000000) :
    Calls Tryd.prog 78 #[.slice A n c, .slice B m d] w (fun e w' => ∃ A' c' B' d', e = .returned (.tuple #[.slice A' n c', .slice B' m d']) ∧ Bel w w' ∧ By w' A' n x ∧ By w' B' m y ∧ n ≤ c' ∧ m ≤ d' ∧ Fre w A' ∧ Fre w B') :=
  (apart_r hx hy h).mono fun e w' ⟨A', c', B', d', h1, h2, h3, h4, h5, h6, h7, h8, _⟩ => ⟨A', c', B', d', h1, h2, h3, h4, h5, h6, h7, h8⟩

/-- Peek: the head, and what is there of the body. -/
theorem Peek_r {w : World} {A : Option Addr} {n c : Nat} {b : List Int} (h : By w A n b) (hb_ : Bytes b) (hc : n ≤ c) (hn : n ≤ 100000000000000) :
    Calls Tryd.prog 65 #[.slice A n c] w (fun e w' => Bel w w' ∧ if bad false b = 0 then ∃ A1 c1 A2 c2, e = .returned (.tuple #[.agg (hb b A1 (hlen b - 20) c1).toArray, .slice A2 (there b - hlen b) c2, .int .i64 0]) ∧
      By w' A1 (hlen b - 20) ((b.take (hlen b)).drop 20) ∧ By w' A2 (there b - hlen b) ((b.take (there b)).drop (hlen b)) ∧ hlen b - 20 ≤ c1 ∧ there b - hlen b ≤ c2 ∧ Fre w A1 ∧ Fre w A2 ∧ Rm2 w' A1 c1 A2 c2
      else e = .returned (.tuple #[.agg hz.toArray, .slice none 0 0, .int .i64 (bad false b)])) := by
  refine ip4_Peek.run ?_
  unfold ip4_Peek.s
  have hl := h.len
  refine own_new (l := hz) (Own.refl w) fun g1 w2 H => ?_
  refine call_of (read_c (h.bel H.bel) hb_ hc hn false) ?_
  rintro e w3 ⟨rfl, k1⟩
  replace H := H.call k1
  by_cases h1 : bad false b = 0
  · rw [if_pos h1]
    refine ⟨_, _, _, _, _, _, _, _, _, _, _, _, _, _, _, rfl, ?_⟩
    refine own_new (l := hz) H fun g2 w4 H => ?_
    refine own_put 0 H rfl rfl (Nat.le_refl 10) fun w5 H => ?_
    refine ifN (fun hx => absurd rfl hx) (fun _ => ?_)
    obtain ⟨q1, q2, q3, q4, q5⟩ := bad_zero h1
    obtain ⟨g1_, g2_, g3, g4, g5⟩ := badLen_zero q1
    have hw2 := wd_range hb_ 2
    have e0 : (if (n : Int) < wd b 2 then (n : Int) else wd b 2) = ((there b : Nat) : Int) := by
      unfold there
      split <;> omega
    have t1 : hlen b ≤ there b := by unfold there; omega
    have t2 : there b ≤ n := by unfold there; omega
    refine let_as _ e0 ?_
    refine draws (fun w' => ∃ l, Own w w' [(g2, 43, l), (g1, 43, hz)]) ⟨_, H.drew⟩ fun w6 e6 => ?_
    replace H := H.drew
    rw [← e6] at H
    refine ⟨⟨by omega, by omega⟩, ⟨by omega, by omega⟩, ⟨by omega, by omega⟩, ⟨by omega, by omega⟩, ?_⟩
    have k20 := ((h.bel H.bel).mid (k := 20) (j := hlen b) (m := c) (by omega) (by omega) hc)
    have kb := ((h.bel H.bel).mid (k := hlen b) (j := there b) (m := c) (by omega) (by omega) hc)
    refine call_of (apart_r k20 kb (by omega)) ?_
    rintro e w7 ⟨A1, c1, A2, c2, rfl, k2, b1, b2, l1, l2, f1, f2, r2⟩
    have o1 := H.old 0 rfl f1
    have o2 := H.old 0 rfl f2
    have o3 := H.old 1 rfl f1
    have o4 := H.old 1 rfl f2
    have kw := H.bel
    replace H := H.call k2
    refine ⟨_, _, _, _, _, _, rfl, ⟨_, H⟩, ?_⟩
    refine own_setB 0 H rfl (Nat.lt_of_lt_of_le (by decide : 9 < 10) (Nat.le_refl 10)) fun w8 H u1 => ?_
    refine ⟨⟨_, H⟩, ?_⟩
    refine ld_head (H.bk 0 rfl) ?_
    refine own_putB 1 H rfl rfl (Nat.le_refl 10) fun w9 H u2 => ?_
    refine ld_head (H.bk 1 rfl) ?_
    refine ⟨H.bel, ?_⟩
    rw [if_pos h1]
    exact ⟨A1, c1, A2, c2, rfl, (b1.but u1 o1).but u2 o3, (b2.but u1 o2).but u2 o4, l1, l2, f1.le kw, f2.le kw, (r2.but u1 o1 o2).but u2 o3 o4⟩
  · rw [if_neg h1]
    refine ⟨_, _, _, _, _, _, _, _, _, _, _, _, _, _, _, rfl, ?_⟩
    refine own_new (l := hz) H fun g2 w4 H => ?_
    refine own_put 0 H rfl rfl (Nat.le_refl 10) fun w5 H => ?_
    refine ifN (fun _ => ?_) (fun hx => absurd hx h1)
    refine own_put 1 H rfl rfl (Nat.le_refl 10) fun w5 H => ?_
    refine ld_head (H.bk 1 rfl) ?_
    exact ⟨H.bel, by rw [if_neg h1]; rfl⟩
theorem Peek_c {w : World} {A : Option Addr} {n c : Nat} {b : List Int} (h : By w A n b) (hb_ : Bytes b) (hc : n ≤ c) (hn : n ≤ 100000000000000) :
    Calls Tryd.prog 65 #[.slice A n c] w (fun e w' => Bel w w' ∧ if bad false b = 0 then ∃ A1 c1 A2 c2, e = .returned (.tuple #[.agg (hb b A1 (hlen b - 20) c1).toArray, .slice A2 (there b - hlen b) c2, .int .i64 0]) ∧
      By w' A1 (hlen b - 20) ((b.take (hlen b)).drop 20) ∧ By w' A2 (there b - hlen b) ((b.take (there b)).drop (hlen b)) ∧ hlen b - 20 ≤ c1 ∧ there b - hlen b ≤ c2 ∧ Fre w A1 ∧ Fre w A2
      else e = .returned (.tuple #[.agg hz.toArray, .slice none 0 0, .int .i64 (bad false b)])) := by
  refine (Peek_r h hb_ hc hn).mono fun e w' hk => ⟨hk.1, ?_⟩
  by_cases h0 : bad false b = 0
  · have k := hk.2
    rw [if_pos h0] at k ⊢
    obtain ⟨A1, c1, A2, c2, h1, h2, h3, h4, h5, h6, h7, _⟩ := k
    exact ⟨A1, c1, A2, c2, h1, h2, h3, h4, h5, h6, h7⟩
  · have k := hk.2
    rw [if_neg h0] at k ⊢
    exact k

/-! ### Build -/
section
variable {w a : World} {L : List (Nat × TypeId × List Value)}
theorem own_word (k : Nat) {g n c : Nat} {t : TypeId} {l : List Int} {R : Ending → World → Prop} (H : Own w a L) (hk : L[k]? = some (g, t, bv l)) (hn : l.length = n) (i : Nat) {j v : Int} (hj : j = i) (hi : i + 1 < n) (hm : n ≤ 1000000000000000) (hv : 0 ≤ v ∧ v ≤ 65535)
    (hR : ∀ w1, Own w w1 (L.set k (g, t, bv ((l.set i (v / 256 % 256)).set (i + 1) (v % 256)))) → R (.returned (.tuple #[])) w1) :
    Calls Tryd.prog 48 #[.slice (some ⟨g, 0, none⟩) n c, .int .i64 j, .int .u16 v] a R := by
  refine call_of (putWord_c (H.bk k hk) hn hj hi hm hv) ?_
  rintro e w1 ⟨rfl, hb, hbut⟩
  refine hR w1 ?_
  rw [show v / 256 % 256 = v / 256 by omega]
  exact H.over k hk hbut hb
theorem own_long (k : Nat) {g n c : Nat} {t : TypeId} {l : List Int} {R : Ending → World → Prop} (H : Own w a L) (hk : L[k]? = some (g, t, bv l)) (hn : l.length = n) (i : Nat) {j v : Int} (hj : j = i) (hi : i + 3 < n) (hm : n ≤ 1000000000000000) (hv : 0 ≤ v ∧ v ≤ 4294967295)
    (hR : ∀ w1, Own w w1 (L.set k (g, t, bv ((((l.set i (v / 16777216)).set (i + 1) (v / 65536 % 256)).set (i + 2) (v / 256 % 256)).set (i + 3) (v % 256)))) → R (.returned (.tuple #[])) w1) :
    Calls Tryd.prog 49 #[.slice (some ⟨g, 0, none⟩) n c, .int .i64 j, .int .u32 v] a R := by
  refine call_of (putLong_c (H.bk k hk) hn hj hi hm hv) ?_
  rintro e w1 ⟨rfl, hb, hbut⟩
  exact hR w1 (H.over k hk hbut hb)
end
/-- What a packet's bytes, built, are: a block of their own. -/
def Made (w : World) (e : Ending) (w' : World) (l : List Int) : Prop := ∃ g, e = .returned (.tuple #[.slice (some ⟨g, 0, none⟩) l.length l.length, .int .i64 0]) ∧ Bk w' g 5 (bv l) ∧ w.heap.size ≤ g
/-- The arguments' record. -/
def pv (p : Pk) (A : Option Addr) (n c : Nat) : List Value := hv p.tos p.id p.df p.mf p.off p.ttl p.proto p.src p.dst A n c
def pb (p : Pk) (A : Option Addr) (n c : Nat) (B : Option Addr) (m d : Nat) : List Value := pv p A n c ++ [.slice B m d]
theorem build_j2 (p : Pk) (h : p.Fine) (he : p.err = 0) {w wa : World} {Q : Ending → World → Prop} (hQ : ∀ e w', Bel w w' → Made w e w' (p.bytes p.sum) → Q e w') {A B : Option Addr} {n c m d : Nat} (ha : By w A n p.opts) (hb : By w B m p.body) {g g4 g1 : Nat} {z6 z7 z8 z9 : Int} {R : List Int} (hR : R.length = p.opts.length + p.body.length) {N : Nat} (hN : N = p.tl)
    (H : Own w wa [(g, 5, bv (p.h0 :: p.tos :: (p.tl : Int) / 256 % 256 :: (p.tl : Int) % 256 :: p.id / 256 % 256 :: p.id % 256 :: z6 :: z7 :: z8 :: z9 :: 0 :: 0 :: 0 :: 0 :: 0 :: 0 :: 0 :: 0 :: 0 :: 0 :: R)), (g4, 43, pv p A n c), (g1, 45, pb p A n c B m d)]) :
    ip4_Build.J2 g1 g4 ((20 + p.opts.length : Nat) : Int) (some ⟨g, 0, none⟩) N N p.fl wa Q := by
  unfold ip4_Build.J2; intros
  rw [ip4_Build.j2_eq]
  obtain ⟨h1, h2, h3⟩ := Pk.err_zero he
  have ho := oOK_len h1
  have hfl := Pk.fl_range h2
  have la := ha.len
  have lb := hb.len
  have hNl : N = 20 + p.opts.length + p.body.length := hN
  refine own_word 0 H rfl (by simp; omega) 6 rfl (by omega) (by omega) (by omega) fun w1 H => ?_
  refine ⟨rfl, ?_⟩
  refine draws (fun w' => ∃ l, Own w w' [(g, 5, l), (g4, 43, pv p A n c), (g1, 45, pb p A n c B m d)]) ⟨_, H.drew⟩ fun w2 e2 => ?_
  replace H := H.drew
  rw [← e2] at H
  refine ⟨p.ttl, fun w' ⟨l, h⟩ => h.cell 1 5 rfl rfl, p.proto, fun w' ⟨l, h⟩ => h.cell 1 6 rfl rfl, ?_⟩
  refine ⟨_, rfl, ⟨by omega, by omega⟩, ?_⟩
  rw [add_blk]
  refine own_set 0 H rfl (by simp [bv]) fun w3 H => ?_
  refine ⟨⟨_, H⟩, ?_⟩
  refine ⟨_, rfl, ⟨by omega, by omega⟩, ?_⟩
  rw [add_blk]
  refine own_set 0 H rfl (by simp [bv]) fun w4 H => ?_
  refine ⟨⟨_, H⟩, ?_⟩
  refine ⟨p.src, H.cell 1 7 rfl rfl, ?_⟩
  replace H : Own w w4 [(g, 5, bv (p.h0 :: p.tos :: (p.tl : Int) / 256 % 256 :: (p.tl : Int) % 256 :: p.id / 256 % 256 :: p.id % 256 :: p.fl / 256 % 256 :: p.fl % 256 :: p.ttl :: p.proto :: 0 :: 0 :: 0 :: 0 :: 0 :: 0 :: 0 :: 0 :: 0 :: 0 :: R)), (g4, 43, pv p A n c), (g1, 45, pb p A n c B m d)] := H
  refine own_long 0 H rfl (by simp; omega) 12 rfl (by omega) (by omega) h.src fun w5 H => ?_
  refine ⟨rfl, p.dst, H.cell 1 8 rfl rfl, ?_⟩
  refine own_long 0 H rfl (by simp; omega) 16 rfl (by omega) (by omega) h.dst fun w6 H => ?_
  refine ⟨rfl, ?_⟩
  replace H : Own w w6 [(g, 5, bv (p.fr ++ (0 :: 0 :: p.bk) ++ R)), (g4, 43, pv p A n c), (g1, 45, pb p A n c B m d)] := H
  refine draws (fun w' => ∃ l, Own w w' [(g, 5, l), (g4, 43, pv p A n c), (g1, 45, pb p A n c B m d)]) ⟨_, H.drew⟩ fun w7 e7 => ?_
  replace H := H.drew
  rw [← e7] at H
  refine ⟨⟨by omega, by omega⟩, A, n, c, fun w' ⟨l, h⟩ => h.cell 1 9 rfl rfl, ?_⟩
  have f20 : (p.fr ++ (0 :: 0 :: p.bk)).length = 20 := rfl
  have key1 : ∀ (K : World → Prop), (∀ w8, Own w w8 [(g, 5, bv (p.fr ++ (0 :: 0 :: p.bk) ++ (p.opts ++ R.drop p.opts.length))), (g4, 43, pv p A n c), (g1, 45, pb p A n c B m d)] → K w8) → CopyE w7 (cutA (some ⟨g, 0, none⟩) 20 N 1) (N - 20) A n K := by
    intro K hK
    by_cases hz : n = 0
    · have e : p.opts = [] := List.eq_nil_of_length_eq_zero (by omega)
      refine copy_nil (Or.inl hz) (hK _ ?_)
      rw [e]
      exact H
    · rw [cut0 _ _ _ (by omega)]
      refine own_copy 0 H rfl (ha.bel H.bel) (by simp [bv, Pk.fr, Pk.bk]; omega) fun w8 H => hK _ ?_
      rw [bv_splice] at H
      have e : splice (p.fr ++ (0 :: 0 :: p.bk) ++ R) 20 (List.take (min n (N - 20)) p.opts) = p.fr ++ (0 :: 0 :: p.bk) ++ (p.opts ++ R.drop p.opts.length) := by
        rw [Nat.min_eq_left (by omega), List.take_of_length_le (by omega)]
        exact splice_at _ _ _ f20
      rwa [e] at H
  refine key1 _ fun w8 H => ?_
  refine ⟨⟨_, H⟩, ?_⟩
  refine draws (fun w' => ∃ l, Own w w' [(g, 5, l), (g4, 43, pv p A n c), (g1, 45, pb p A n c B m d)]) ⟨_, H.drew⟩ fun w9 e9 => ?_
  replace H := H.drew
  rw [← e9] at H
  refine ⟨⟨by omega, by omega⟩, B, m, d, fun w' ⟨l, h⟩ => h.cell 2 10 rfl rfl, ?_⟩
  have f20o : (p.fr ++ (0 :: 0 :: p.bk) ++ p.opts).length = 20 + p.opts.length := by rw [List.length_append, f20]
  have key2 : ∀ (K : World → Prop), (∀ w8, Own w w8 [(g, 5, bv (p.fr ++ (0 :: 0 :: p.bk) ++ p.opts ++ p.body)), (g4, 43, pv p A n c), (g1, 45, pb p A n c B m d)] → K w8) → CopyE w9 (cutA (some ⟨g, 0, none⟩) (20 + p.opts.length) N 1) (N - (20 + p.opts.length)) B m K := by
    intro K hK
    rw [← List.append_assoc] at H
    by_cases hz : m = 0
    · have e : p.body = [] := List.eq_nil_of_length_eq_zero (by omega)
      refine copy_nil (Or.inl hz) (hK _ ?_)
      rw [e, List.append_nil]
      rwa [List.drop_eq_nil_of_le (by omega), List.append_nil] at H
    · rw [cut0 _ _ _ (by omega)]
      refine own_copy 0 H rfl (hb.bel H.bel) (by simp [bv, Pk.fr, Pk.bk]; omega) fun w8 H => hK _ ?_
      rw [bv_splice] at H
      have e : splice (p.fr ++ (0 :: 0 :: p.bk) ++ p.opts ++ R.drop p.opts.length) (20 + p.opts.length) (List.take (min m (N - (20 + p.opts.length))) p.body) = p.fr ++ (0 :: 0 :: p.bk) ++ p.opts ++ p.body := by
        rw [Nat.min_eq_left (by omega), List.take_of_length_le (by omega), splice_at _ _ _ f20o, List.drop_drop, List.drop_eq_nil_of_le (by omega), List.append_nil]
      rwa [e] at H
  refine key2 _ fun w10 H => ?_
  refine ⟨⟨_, H⟩, ?_⟩
  refine draws (fun w' => ∃ l, Own w w' [(g, 5, l), (g4, 43, pv p A n c), (g1, 45, pb p A n c B m d)]) ⟨_, H.drew⟩ fun w11 e11 => ?_
  replace H := H.drew
  rw [← e11] at H
  refine ⟨⟨by omega, by omega⟩, ⟨by omega, by omega⟩, ⟨by omega, by omega⟩, ?_⟩
  have hfull : (p.fr ++ (0 :: 0 :: p.bk) ++ p.opts ++ p.body).length = N := by rw [List.length_append, f20o]; omega
  have hw := (H.bk 0 rfl).by
  rw [hfull] at hw
  have x1 : By w11 (some ⟨g, 0, none⟩) 10 p.fr := hw.take (k := 10) (by omega)
  have x2 := hw.mid (k := 12) (j := 20 + p.opts.length) (m := N) (by omega) (by omega) (Nat.le_refl _)
  rw [List.take_left' f20o] at x2
  replace x2 : By w11 (cutA (some ⟨g, 0, none⟩) 12 N 1) (20 + p.opts.length - 12) (p.bk ++ p.opts) := x2
  refine own_newB (l := [.slice (some ⟨g, 0, none⟩) 10 N, .slice (cutA (some ⟨g, 0, none⟩) 12 N 1) (20 + p.opts.length - 12) (N - 12)]) H fun g27 w12 H2 k12 => ?_
  refine ⟨⟨_, H2.tail⟩, ?_⟩
  refine call_of (sum2_c (H2.bk 0 rfl) (x1.bel k12) (x2.bel k12) (Pk.fr_bytes h he) (Pk.bk_bytes h) (by simp [Pk.fr, Pk.bk]; omega) 2) ?_
  rintro e w13 ⟨rfl, k13⟩
  replace H := (H2.call k13).tail
  refine ⟨_, rfl, ⟨_, H⟩, ?_⟩
  have hs := Pk.sum_range h he
  refine own_word 0 H rfl hfull 10 rfl (by omega) (by omega) (v := p.sum) (by omega) fun w14 H => ?_
  refine ⟨rfl, ⟨_, H⟩, hQ _ _ H.bel ⟨g, ?_, ?_, H.ge 0 rfl⟩⟩
  · rw [Pk.bytes_len, hN]
  · have e9 : ((p.fr ++ (0 :: 0 :: p.bk) ++ p.opts ++ p.body).set 10 (p.sum / 256 % 256)).set (10 + 1) (p.sum % 256) = p.bytes p.sum := by
      unfold Pk.bytes Pk.head
      simp [Pk.fr, Pk.bk]
    have := H.bk 0 rfl
    rwa [e9] at this
theorem build_j1 (p : Pk) (h : p.Fine) (he : p.err = 0) {w wa : World} {Q : Ending → World → Prop} (hQ : ∀ e w', Bel w w' → Made w e w' (p.bytes p.sum) → Q e w') {A B : Option Addr} {n c m d : Nat} (ha : By w A n p.opts) (hb : By w B m p.body) {g g4 g1 : Nat} {z6 z7 z8 z9 : Int} {R : List Int} (hR : R.length = p.opts.length + p.body.length) {N : Nat} (hN : N = p.tl)
    (H : Own w wa [(g, 5, bv (p.h0 :: p.tos :: (p.tl : Int) / 256 % 256 :: (p.tl : Int) % 256 :: p.id / 256 % 256 :: p.id % 256 :: z6 :: z7 :: z8 :: z9 :: 0 :: 0 :: 0 :: 0 :: 0 :: 0 :: 0 :: 0 :: 0 :: 0 :: R)), (g4, 43, pv p A n c), (g1, 45, pb p A n c B m d)]) {x : Int} (hx : x = p.off / 8 + (if p.df = true then 16384 else 0)) :
    ip4_Build.J1 g1 g4 ((20 + p.opts.length : Nat) : Int) (some ⟨g, 0, none⟩) N N x wa Q := by
  unfold ip4_Build.J1; intros
  rw [ip4_Build.j1_eq]
  have hod := (ordB_true (Pk.err_zero he).2.1).1
  have e2 := build_j2 p h he hQ ha hb hR hN H
  refine ⟨_, H.cell 1 3 rfl rfl, ?_⟩
  refine ifB (fun hm => ?_) (fun hm => ?_)
  · refine let_as p.fl ?_ ⟨?_⟩; rotate_left; · apply e2
    have ef : p.fl = p.off / 8 + (if p.df = true then 16384 else 0) + 8192 := by unfold Pk.fl; rw [if_pos hm]
    rw [ef, hx]
    by_cases hd : p.df = true
    · rw [if_pos hd, or_both (x := p.off / 8) (by omega) (by omega)]; omega
    · rw [if_neg hd, Int.add_zero]; exact or_mf (by omega) (by omega)
  · have ef : x = p.fl := by
      unfold Pk.fl
      rw [hx, if_neg (c := p.mf = true) (by rw [hm]; decide), Int.add_zero]
    rw [ef]
    refine ⟨?_⟩
    apply e2
theorem build_q {w : World} {p : Pk} {Q : Ending → World → Prop} (hQ : p.err = 0 → ∀ e w', Bel w w' → Made w e w' (p.bytes p.sum) → Q e w') (hN : p.err ≠ 0 → ∀ w', Bel w w' → Q (.returned (.tuple #[.slice none 0 0, .int .i64 p.err])) w') (h : p.Fine) {A B : Option Addr} {n c m d : Nat} (ha : By w A n p.opts) (hb : By w B m p.body) (hc : n ≤ c) :
    Calls Tryd.prog 29 #[.agg (pb p A n c B m d).toArray] w Q := by
  refine ip4_Build.run ?_
  unfold ip4_Build.s
  have hlo := h.lo
  have hlb := h.lb
  have la := ha.len
  have lb := hb.len
  refine own_new (l := pb p A n c B m d) (Own.refl w) fun g1 w1 H => ?_
  refine ⟨p.tos, p.id, p.df, p.mf, p.off, p.ttl, p.proto, p.src, p.dst, A, n, c, ⟨rfl, ?_⟩, ?_⟩
  · intro j u hu
    rw [add_blk, Nat.zero_add]
    refine H.cell 0 j rfl ?_
    have hj : j < 10 := (List.getElem?_eq_some_iff.1 hu).1
    rw [show pb p A n c B m d = pv p A n c ++ [.slice B m d] from rfl, List.getElem?_append_left hj]
    exact hu
  refine own_new (l := hz) H fun g4 w2 H => ?_
  refine own_put 0 H rfl rfl (Nat.le_refl 10) fun w3 H => ?_
  refine ⟨A, n, c, H.cell 0 9 rfl rfl, ?_⟩
  refine call_of (options_c (ha.bel H.bel) h.opts hc (by omega)) ?_
  rintro e w4 ⟨rfl, k1⟩
  replace H := H.call k1
  refine ⟨_, rfl, ?_⟩
  refine ifNot (fun h1 => ?_) (fun h1 => ?_)
  · have e : p.err = 34 := by unfold Pk.err; rw [if_neg (by rw [h1]; decide)]
    have := hN (by omega) _ H.bel
    rwa [e] at this
  refine ⟨_, H.cell 0 4 rfl rfl, B, m, d, H.cell 1 10 rfl rfl, _, H.cell 0 3 rfl rfl, ?_⟩
  refine call_of (orderly_c w4 (by omega) (by omega)) ?_
  rintro e w5 ⟨rfl, k2⟩
  replace H := H.call k2
  refine ⟨_, rfl, ?_⟩
  rw [← lb]
  refine ifNot (fun h2 => ?_) (fun h2 => ?_)
  · have e : p.err = 36 := by unfold Pk.err; rw [if_pos h1, if_neg (by rw [h2]; decide)]
    have := hN (by omega) _ H.bel
    rwa [e] at this
  rw [lb] at h2 ⊢
  refine ⟨A, n, c, H.cell 0 9 rfl rfl, ?_⟩
  refine let_as ((20 + p.opts.length : Nat) : Int) (by rw [w64 (by omega) (by omega)]; omega) ?_
  refine ⟨B, m, d, H.cell 1 10 rfl rfl, ?_⟩
  refine let_as ((20 + p.opts.length + p.body.length : Nat) : Int) (by rw [w64 (by omega) (by omega)]; omega) ?_
  refine ifD (fun h3 => ?_) (fun h3 => ?_)
  · have e : p.err = 37 := by unfold Pk.err; rw [if_pos h1, lb, if_pos h2, if_neg (by omega)]
    have := hN (by omega) _ H.bel
    rwa [e] at this
  rw [← lb] at h2
  have he : p.err = 0 := Pk.err_of h1 h2 (by omega)
  have ho := oOK_len h1
  have hod := (ordB_true h2).1
  have hid := h.id
  refine ⟨B, m, d, H.cell 1 10 rfl rfl, ?_⟩
  refine let_as ((p.tl : Nat) : Int) (by rw [w64 (by omega) (by omega)]; unfold Pk.tl; omega) ?_
  have htl := tl_le he
  have etl : p.tl = 20 + p.opts.length + p.body.length := rfl
  refine ⟨⟨by omega, by omega, by omega, by omega⟩, ?_⟩
  rw [Int.toNat_natCast]
  refine own_new H fun g w6 H => ?_
  have hrep : List.replicate p.tl (Value.int .u8 0) = bv (0 :: 0 :: 0 :: 0 :: 0 :: 0 :: 0 :: 0 :: 0 :: 0 :: 0 :: 0 :: 0 :: 0 :: 0 :: 0 :: 0 :: 0 :: 0 :: 0 :: List.replicate (p.opts.length + p.body.length) 0) := by
    rw [bv_rep, etl, show 20 + p.opts.length + p.body.length = p.opts.length + p.body.length + 20 by omega]
    rfl
  rw [hrep] at H
  refine draws (fun w' => ∃ l, Own w w' [(g, 5, l), (g4, 43, pv p A n c), (g1, 45, pb p A n c B m d)]) ⟨_, H.drew⟩ fun w7 e7 => ?_
  replace H := H.drew
  rw [← e7] at H
  refine let_as (5 + (p.opts.length : Int) / 4) (by rw [td (by omega), w64 (by omega) (by omega)]; omega) ?_
  refine let_as _ (or64 (by omega) (by omega)) ?_
  refine let_as p.h0 (by unfold Pk.h0 Pk.hl; rw [w8 (by omega) (by omega)]; omega) ?_
  refine ⟨p.tos, fun w' ⟨l, h⟩ => h.cell 1 0 rfl rfl, ?_⟩
  refine ⟨_, rfl, ⟨by omega, by omega⟩, ?_⟩
  refine own_set 0 H rfl (by simp [bv]) fun w8 H => ?_
  refine ⟨⟨_, H⟩, ?_⟩
  refine ⟨_, rfl, ⟨by omega, by omega⟩, ?_⟩
  rw [add_blk]
  refine own_set 0 H rfl (by simp [bv]) fun w9 H => ?_
  refine ⟨⟨_, H⟩, ?_⟩
  refine let_as (p.tl : Int) (w16 (by omega) (by omega)) ?_
  replace H : Own w w9 [(g, 5, bv (p.h0 :: p.tos :: 0 :: 0 :: 0 :: 0 :: 0 :: 0 :: 0 :: 0 :: 0 :: 0 :: 0 :: 0 :: 0 :: 0 :: 0 :: 0 :: 0 :: 0 :: List.replicate (p.opts.length + p.body.length) 0)), (g4, 43, pv p A n c), (g1, 45, pb p A n c B m d)] := H
  refine own_word 0 H rfl (by simp; omega) 2 rfl (by omega) (by omega) (by omega) fun w10 H => ?_
  refine ⟨rfl, p.id, H.cell 1 1 rfl rfl, ?_⟩
  refine own_word 0 H rfl (by simp; omega) 4 rfl (by omega) (by omega) (by omega) fun w11 H => ?_
  refine ⟨rfl, p.off, H.cell 1 4 rfl rfl, ?_⟩
  refine let_as (p.off / 8) (by rw [td (by omega), w64 (by omega) (by omega)]) ?_
  refine let_as _ (w16 (by omega) (by omega)) ?_
  refine ⟨p.df, H.cell 1 2 rfl rfl, ?_⟩
  refine ifB (fun hd => ?_) (fun hd => ?_)
  · refine let_as _ (or_df (by omega) (by omega)) ?_
    refine ⟨?_⟩
    apply build_j1 p h he (hQ he) ha hb (by simp) rfl H (by rw [if_pos hd])
  · refine ⟨?_⟩
    apply build_j1 p h he (hQ he) ha hb (by simp) rfl H (by rw [if_neg (by rw [hd]; decide), Int.add_zero])
theorem Build_c {w : World} {p : Pk} (h : p.Fine) {A B : Option Addr} {n c m d : Nat} (ha : By w A n p.opts) (hb : By w B m p.body) (hc : n ≤ c) :
    Calls Tryd.prog 29 #[.agg (pb p A n c B m d).toArray] w (fun e w' => Bel w w' ∧ if p.err = 0 then Made w e w' (p.bytes p.sum) else e = .returned (.tuple #[.slice none 0 0, .int .i64 p.err])) :=
  build_q (fun he e w' h1 h2 => ⟨h1, by rw [if_pos he]; exact h2⟩) (fun hn w' h1 => ⟨h1, by rw [if_neg hn]⟩) h ha hb hc
end Go.Proofs.YtphbdmafchjjeaaDoorS
