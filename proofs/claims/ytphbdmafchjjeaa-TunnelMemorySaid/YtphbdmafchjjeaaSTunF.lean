/- What ParseFrame and BuildFrame of packages tunnel and weftref7 answer.
   Conditions: bytes are 0 to 255; lists are no longer than memory lets. -/
import Derived.Test.YtphbdmafchjjeaaSTun
import Derived.Test.YtphbdmafchjjeaaSRef7
namespace Go.Proofs.YtphbdmafchjjeaaS
open Go Go.RowKit Go.Proofs Go.Proofs.YtphbdmafchjjeaaX
set_option maxRecDepth 100000
set_option linter.unusedVariables false
set_option linter.unusedSectionVars false
set_option linter.unusedSimpArgs false

/-! ### a frame's record -/
theorem ld_fr {w : World} {g : Nat} {t : TypeId} {f : Fr} {A : Option Addr} {n c : Nat} (h : Bk w g t (fv f A n c)) {K : Int → Int → Int → Int → Int → Int → Int → Int → Int → Int → Int → Int → Int → Option Addr → Nat → Nat → Prop}
    (k : K f.d0 f.d1 f.d2 f.d3 f.d4 f.d5 f.s0 f.s1 f.s2 f.s3 f.s4 f.s5 f.typ A n c) :
    ∃ x0 : Int, ∃ x1 : Int, ∃ x2 : Int, ∃ x3 : Int, ∃ x4 : Int, ∃ x5 : Int, ∃ x6 : Int, ∃ x7 : Int, ∃ x8 : Int, ∃ x9 : Int, ∃ x10 : Int, ∃ x11 : Int, ∃ x12 : Int, ∃ (C : Option Addr) (i j : Nat),
      (14 = 14 ∧ At w ⟨g, 0, none⟩ [.int .u8 x0, .int .u8 x1, .int .u8 x2, .int .u8 x3, .int .u8 x4, .int .u8 x5, .int .u8 x6, .int .u8 x7, .int .u8 x8, .int .u8 x9, .int .u8 x10, .int .u8 x11, .int .u16 x12, .slice C i j]) ∧ K x0 x1 x2 x3 x4 x5 x6 x7 x8 x9 x10 x11 x12 C i j :=
  ⟨_, _, _, _, _, _, _, _, _, _, _, _, _, _, _, _, ⟨rfl, h.at⟩, k⟩
section
variable {w a : World} {L : List (Nat × TypeId × List Value)}
/-- .. is written over and read back. -/
theorem put_fr (k : Nat) {g : Nat} {t : TypeId} {l : List Value} (f : Fr) (h : Own w a L) (hk : L[k]? = some (g, t, l)) (hl : l.length = 14) {A : Option Addr} {n c : Nat} {K : World → Int → Int → Int → Int → Int → Int → Int → Int → Int → Int → Int → Int → Int → Option Addr → Nat → Nat → Prop}
    (hK : ∀ w1, Own w w1 (L.set k (g, t, fv f A n c)) → But g a w1 → K w1 f.d0 f.d1 f.d2 f.d3 f.d4 f.d5 f.s0 f.s1 f.s2 f.s3 f.s4 f.s5 f.typ A n c) :
    May a ⟨g, 0, none⟩ 14 ∧ Let (putCells a ⟨g, 0, none⟩ [.int .u8 f.d0, .int .u8 f.d1, .int .u8 f.d2, .int .u8 f.d3, .int .u8 f.d4, .int .u8 f.d5, .int .u8 f.s0, .int .u8 f.s1, .int .u8 f.s2, .int .u8 f.s3, .int .u8 f.s4, .int .u8 f.s5, .int .u16 f.typ, .slice A n c] 0) fun w1 =>
      ∃ x0 : Int, ∃ x1 : Int, ∃ x2 : Int, ∃ x3 : Int, ∃ x4 : Int, ∃ x5 : Int, ∃ x6 : Int, ∃ x7 : Int, ∃ x8 : Int, ∃ x9 : Int, ∃ x10 : Int, ∃ x11 : Int, ∃ x12 : Int, ∃ (C : Option Addr) (i j : Nat),
      (14 = 14 ∧ At w1 ⟨g, 0, none⟩ [.int .u8 x0, .int .u8 x1, .int .u8 x2, .int .u8 x3, .int .u8 x4, .int .u8 x5, .int .u8 x6, .int .u8 x7, .int .u8 x8, .int .u8 x9, .int .u8 x10, .int .u8 x11, .int .u16 x12, .slice C i j]) ∧ K w1 x0 x1 x2 x3 x4 x5 x6 x7 x8 x9 x10 x11 x12 C i j := by
  refine own_putB k h hk rfl (by omega) fun w1 H hb => ?_
  rw [splice_all _ _ (by rw [hl]; rfl)] at H
  have hkl := (List.getElem?_eq_some_iff.1 hk).1
  exact ld_fr (f := f) (H.bk k (List.getElem?_set_self hkl)) (hK w1 H hb)
end
theorem By.of_at {w : World} {g o : Nat} {l : List Int} (h : At w ⟨g, o, none⟩ (bv l)) : By w (some ⟨g, o, none⟩) l.length l := ⟨rfl, fun _ => ⟨_, rfl, fun i hi => h i _ (bv_get l i hi)⟩⟩
theorem fv_get (f : Fr) (A : Option Addr) (n c : Nat) {i : Nat} (h : i < 12) : (fv f A n c)[i]? = some (.int .u8 (f.macs.getD i 0)) := by
  rcases (by omega : i = 0 ∨ i = 1 ∨ i = 2 ∨ i = 3 ∨ i = 4 ∨ i = 5 ∨ i = 6 ∨ i = 7 ∨ i = 8 ∨ i = 9 ∨ i = 10 ∨ i = 11) with rfl | rfl | rfl | rfl | rfl | rfl | rfl | rfl | rfl | rfl | rfl | rfl <;> rfl

/-! ### tunnel -/
/-- A frame that was read, in memory of its own; or why not. -/
def RetFr (w : World) (b : List Int) (e : Ending) (w' : World) : Prop := Bel w w' ∧ if fBad b = 0 then ∃ g, e = .returned (.tuple #[.agg (fv (ofF b) (some ⟨g, 0, none⟩) (b.length - 14) (b.length - 14)).toArray, .int .i64 0]) ∧ Own w w' [(g, 5, bv (b.drop 14))]
  else e = .returned (.tuple #[.agg (fv fz none 0 0).toArray, .int .i64 (fBad b)])
theorem RetFr.no {w w' : World} {b : List Int} {k : Int} (h : fBad b = k) (hk : k ≠ 0) (hb : Bel w w') : RetFr w b (.returned (.tuple #[.agg (fv fz none 0 0).toArray, .int .i64 k])) w' := by
  refine ⟨hb, ?_⟩
  rw [if_neg (by rw [h]; exact hk), h]
theorem ParseFrame_c {w : World} {A : Option Addr} {n c : Nat} {b : List Int} (h : By w A n b) (hb : Bytes b) (hc : n ≤ c) :
    Calls Try.prog 10 #[.slice A n c] w (RetFr w b) := by
  refine tunnel_ParseFrame.run ?_
  unfold tunnel_ParseFrame.s
  have hl := h.len
  refine own_new (l := fv fz none 0 0) (Own.refl w) fun g1 w2 H => ?_
  refine ifD (fun h1 => ?_) (fun h1 => ?_)
  · exact put_fr 0 fz H rfl rfl fun w3 H3 _ => RetFr.no (w := w) (by unfold fBad; rw [if_pos (by omega)]) (by decide) H3.bel
  refine ifD (fun h2 => ?_) (fun h2 => ?_)
  · exact put_fr 0 fz H rfl rfl fun w3 H3 _ => RetFr.no (w := w) (by unfold fBad; rw [if_neg (by omega), if_pos (by omega)]) (by decide) H3.bel
  have ef : fBad b = typeF (wd b 12) := by unfold fBad; rw [if_neg (by omega), if_neg (by omega)]
  refine ⟨⟨by omega, by omega⟩, ⟨by decide, by decide⟩, ?_⟩
  refine call_of (ld16_c ((h.bel H.bel).mid (k := 12) (j := 14) (m := c) (by omega) (by omega) hc) ((hb.take _).drop _)) ?_
  rintro e w3 ⟨rfl, k3⟩
  replace H := H.call k3
  rw [wd_mid b (by omega)]
  refine ⟨_, rfl, ?_⟩
  refine own_mk (fv fz none 0 0) H rfl rfl fun g2 w4 H k4 _ => ?_
  replace H : Own w w4 [(g2, 31, fv ⟨0, 0, 0, 0, 0, 0, 0, 0, 0, 0, 0, 0, wd b 12, []⟩ none 0 0), (g1, 31, fv fz none 0 0)] := H
  refine ⟨_, H.cell 0 12 rfl rfl, ?_⟩
  refine call_of (typeFault_c _ _) ?_
  rintro e w5 ⟨rfl, k5⟩
  replace H := H.call k5
  refine ⟨_, rfl, ?_⟩
  refine ifN (fun h3 => ?_) (fun h3 => ?_)
  · exact put_fr 1 fz H rfl rfl fun w6 H6 _ => RetFr.no (w := w) ef h3 H6.bel
  obtain ⟨m1, m2⟩ := macs_take (b := b) (by omega)
  refine draws (fun w' => ∃ l, Own w w' [(g2, 31, l), (g1, 31, fv fz none 0 0)]) ⟨_, H.drew⟩ fun w6 e6 => ?_
  replace H := H.drew
  rw [← e6] at H
  refine ⟨⟨by omega, by omega⟩, ?_⟩
  refine own_copy 0 H rfl ((h.bel H.bel).take (k := 6) (by omega)) (by show 0 + min 6 6 ≤ 14; decide) fun w7 H => ?_
  rw [Nat.min_self, List.take_take, Nat.min_self, m1] at H
  replace H : Own w w7 [(g2, 31, fv ⟨b.getD 0 0, b.getD 1 0, b.getD 2 0, b.getD 3 0, b.getD 4 0, b.getD 5 0, 0, 0, 0, 0, 0, 0, wd b 12, []⟩ none 0 0), (g1, 31, fv fz none 0 0)] := H
  refine ⟨⟨_, H⟩, ?_⟩
  refine draws (fun w' => ∃ l, Own w w' [(g2, 31, l), (g1, 31, fv fz none 0 0)]) ⟨_, H.drew⟩ fun w8' e8 => ?_
  replace H := H.drew
  rw [← e8] at H
  refine ⟨⟨by omega, by omega⟩, ⟨by decide, by decide⟩, ?_⟩
  refine own_copy 0 H rfl ((h.bel H.bel).mid (k := 6) (j := 12) (m := c) (by omega) (by omega) hc) (by show 6 + min (12 - 6) 6 ≤ 14; decide) fun w9 H => ?_
  rw [show min (12 - 6) 6 = 6 from rfl, List.take_of_length_le (by rw [List.length_drop, List.length_take]; omega), m2] at H
  replace H : Own w w9 [(g2, 31, fv ⟨b.getD 0 0, b.getD 1 0, b.getD 2 0, b.getD 3 0, b.getD 4 0, b.getD 5 0, b.getD 6 0, b.getD 7 0, b.getD 8 0, b.getD 9 0, b.getD 10 0, b.getD 11 0, wd b 12, []⟩ none 0 0), (g1, 31, fv fz none 0 0)] := H
  refine ⟨⟨_, H⟩, ⟨by omega, by omega⟩, ?_⟩
  refine call_of (clone7_c ((h.bel H.bel).cut (k := 14) (m := c) (by omega) hc) (by omega)) ?_
  rintro e w10 ⟨g3, rfl, H3⟩
  replace H := Own.join H H3
  refine ⟨_, _, _, rfl, ?_⟩
  refine own_set 1 H rfl (Nat.lt_of_lt_of_le (by decide : 13 < 14) (Nat.le_refl 14)) fun w11 H => ?_
  replace H : Own w w11 [(g3, 5, bv (b.drop 14)), (g2, 31, fv (ofF b) (some ⟨g3, 0, none⟩) (n - 14) (n - 14)), (g1, 31, fv fz none 0 0)] := H
  refine ld_fr (f := ofF b) (H.bk 1 rfl) ?_
  refine put_fr 2 (ofF b) H rfl rfl fun w12 H _ => ?_
  refine ⟨H.bel, ?_⟩
  rw [if_pos (by rw [ef]; exact h3), hl]
  exact ⟨g3, rfl, H.head⟩
theorem rep14 (n : Nat) : List.replicate (14 + n) (0 : Int) = 0 :: 0 :: 0 :: 0 :: 0 :: 0 :: 0 :: 0 :: 0 :: 0 :: 0 :: 0 :: 0 :: 0 :: List.replicate n 0 := by
  rw [Nat.add_comm]
  rfl
def RetBF (w : World) (f : Fr) (e : Ending) (w' : World) : Prop := (f.err ≠ 0 → e = .returned (.tuple #[.slice none 0 0, .int .i64 f.err]) ∧ Bel w w') ∧ (f.err = 0 → RetRaw w f.bytes e w')
theorem BuildFrame_c {w : World} {f : Fr} (hf : f.Fine) {A : Option Addr} {n c : Nat} (h : By w A n f.body) : Calls Try.prog 9 #[.agg (fv f A n c).toArray] w (RetBF w f) := by
  refine tunnel_BuildFrame.run ?_
  unfold tunnel_BuildFrame.s
  have hl := h.len
  have ht := hf.typ
  refine own_new (l := fv f A n c) (Own.refl w) fun g1 w2 H => ?_
  refine ⟨A, n, c, H.cell 0 13 rfl rfl, ?_⟩
  refine ifD (fun h1 => ?_) (fun h1 => ?_)
  · have e : f.err = 2 := by unfold Fr.err; rw [if_pos (by omega)]
    unfold RetBF
    rw [e]
    exact ⟨fun _ => ⟨rfl, H.bel⟩, fun hx => absurd hx (by decide)⟩
  have e : f.err = typeF f.typ := by unfold Fr.err; rw [if_neg (by omega)]
  refine ⟨_, H.cell 0 12 rfl rfl, ?_⟩
  refine call_of (typeFault_c _ _) ?_
  rintro e' w3 ⟨rfl, k3⟩
  replace H := H.call k3
  refine ⟨_, rfl, ?_⟩
  refine ifN (fun h2 => ?_) (fun h2 => ?_)
  · unfold RetBF
    rw [e]
    exact ⟨fun _ => ⟨rfl, H.bel⟩, fun hx => absurd hx h2⟩
  refine ⟨A, n, c, H.cell 0 13 rfl rfl, ?_⟩
  refine let_as ((14 + n : Nat) : Int) (by rw [w64 (by omega) (by omega)]; omega) ?_
  rw [Int.toNat_natCast]
  refine ⟨⟨by omega, by omega, by omega, by omega⟩, ?_⟩
  refine own_new H fun g w4 H => ?_
  rw [bv_rep, rep14] at H
  have m6 : min 6 (14 + n) = 6 := by omega
  have m6' : min 6 (14 + n - 6) = 6 := by omega
  have y0 : By w4 (some ⟨g1, 0, none⟩) 6 [f.d0, f.d1, f.d2, f.d3, f.d4, f.d5] := By.of_at (at_mid [] (mid := bv [f.d0, f.d1, f.d2, f.d3, f.d4, f.d5]) (post := [.int .u8 f.s0, .int .u8 f.s1, .int .u8 f.s2, .int .u8 f.s3, .int .u8 f.s4, .int .u8 f.s5, .int .u16 f.typ, .slice A n c]) (H.bk 1 rfl) rfl)
  refine own_copy 0 H rfl y0 (by rw [bv_len]; simp; omega) fun w5 H => ?_
  rw [m6] at H
  replace H : Own w w5 [(g, 5, bv (f.d0 :: f.d1 :: f.d2 :: f.d3 :: f.d4 :: f.d5 :: 0 :: 0 :: 0 :: 0 :: 0 :: 0 :: 0 :: 0 :: List.replicate n 0)), (g1, 31, fv f A n c)] := H
  refine draws (fun w' => ∃ l, Own w w' [(g, 5, l), (g1, 31, fv f A n c)]) ⟨_, H.drew⟩ fun w6 e6 => ?_
  replace H := H.drew
  rw [← e6] at H
  refine ⟨⟨by omega, by omega⟩, ?_⟩
  rw [cut0 g 6 _ (by omega)]
  have y1 : By w6 (some ⟨g1, 6, none⟩) 6 [f.s0, f.s1, f.s2, f.s3, f.s4, f.s5] := By.of_at (at_mid [.int .u8 f.d0, .int .u8 f.d1, .int .u8 f.d2, .int .u8 f.d3, .int .u8 f.d4, .int .u8 f.d5] (mid := bv [f.s0, f.s1, f.s2, f.s3, f.s4, f.s5]) (post := [.int .u16 f.typ, .slice A n c]) (H.bk 1 rfl) rfl)
  refine own_copy 0 H rfl y1 (by rw [bv_len]; simp; omega) fun w7 H => ?_
  rw [m6'] at H
  replace H : Own w w7 [(g, 5, bv (f.d0 :: f.d1 :: f.d2 :: f.d3 :: f.d4 :: f.d5 :: f.s0 :: f.s1 :: f.s2 :: f.s3 :: f.s4 :: f.s5 :: 0 :: 0 :: List.replicate n 0)), (g1, 31, fv f A n c)] := H
  refine ⟨⟨_, H⟩, ?_⟩
  refine draws (fun w' => ∃ l, Own w w' [(g, 5, l), (g1, 31, fv f A n c)]) ⟨_, H.drew⟩ fun w8' e8 => ?_
  replace H := H.drew
  rw [← e8] at H
  refine ⟨⟨by omega, by omega⟩, ⟨by decide, by decide⟩, _, fun w' ⟨l, h⟩ => h.cell 1 12 rfl rfl, ?_⟩
  rw [cut0 g 12 _ (by omega)]
  refine own_st16 0 H rfl (by simp) ht fun w9 H _ => ?_
  replace H : Own w w9 [(g, 5, bv ((f.macs ++ [f.typ / 256 % 256, f.typ % 256]) ++ List.replicate n 0)), (g1, 31, fv f A n c)] := H
  refine ⟨rfl, ⟨_, H⟩, ?_⟩
  refine draws (fun w' => ∃ l, Own w w' [(g, 5, l), (g1, 31, fv f A n c)]) ⟨_, H.drew⟩ fun w10 e10 => ?_
  replace H := H.drew
  rw [← e10] at H
  refine ⟨⟨by omega, by omega⟩, A, n, c, fun w' ⟨l, h⟩ => h.cell 1 13 rfl rfl, ?_⟩
  have eb : (f.macs ++ [f.typ / 256 % 256, f.typ % 256]) ++ f.body = f.bytes := by unfold Fr.bytes; simp
  have key : ∀ (K : World → Prop), (∀ w8, Own w w8 [(g, 5, bv f.bytes), (g1, 31, fv f A n c)] → K w8) → CopyE w10 (cutA (some ⟨g, 0, none⟩) 14 (14 + n) 1) (14 + n - 14) A n K := by
    intro K hK
    by_cases hz : n = 0
    · have ez : f.body = [] := List.eq_nil_of_length_eq_zero (by omega)
      refine copy_nil (Or.inl hz) (hK _ ?_)
      rw [← eb, ez]
      rw [hz] at H ⊢
      exact H
    · rw [cut0 _ _ _ (by omega)]
      refine own_copy 0 H rfl (h.bel H.bel) (by rw [bv_len, List.length_append, List.length_replicate]; show 14 + min n (14 + n - 14) ≤ 14 + n; omega) fun w8 H => hK _ ?_
      rw [bv_splice] at H
      have es : splice ((f.macs ++ [f.typ / 256 % 256, f.typ % 256]) ++ List.replicate n 0) 14 (List.take (min n (14 + n - 14)) f.body) = f.bytes := by
        rw [Nat.min_eq_left (by omega), List.take_of_length_le (by omega), splice_at _ _ _ (by rfl), List.drop_eq_nil_of_le (by simp [hl]), List.append_nil]
        exact eb
      rwa [es] at H
  refine key _ fun w11 H => ?_
  refine ⟨⟨_, H⟩, ?_⟩
  refine ⟨fun hx => absurd (e.trans h2) hx, fun _ => ⟨g, ?_, H.head⟩⟩
  rw [Fr.len, hl]

/-! ### weftref7 -/
def RetFr7 (w : World) (b : List Int) (e : Ending) (w' : World) : Prop := Bel w w' ∧ if fBad b = 0 then ∃ A c, e = .returned (.tuple #[.agg (fv (ofF b) A (b.length - 14) c).toArray, .int .i64 0]) ∧ By w' A (b.length - 14) (b.drop 14) ∧ Fre w A
  else e = .returned (.tuple #[.agg (fv fz none 0 0).toArray, .int .i64 (fBad b)])
theorem RetFr7.no {w w' : World} {b : List Int} {k : Int} (h : fBad b = k) (hk : k ≠ 0) (hb : Bel w w') : RetFr7 w b (.returned (.tuple #[.agg (fv fz none 0 0).toArray, .int .i64 k])) w' := by
  refine ⟨hb, ?_⟩
  rw [if_neg (by rw [h]; exact hk), h]
theorem fv_ext {l : List Value} {b : List Int} {A : Option Addr} {n c : Nat} (hl : l.length = 14) (h : ∀ j, j < 6 → l[j]? = some (.int .u8 (b.getD j 0)) ∧ l[6 + j]? = some (.int .u8 (b.getD (6 + j) 0)))
    (h12 : l[12]? = some (.int .u16 (wd b 12))) (h13 : l[13]? = some (.slice A n c)) : l = fv (ofF b) A n c := by
  refine List.ext_getElem? fun j => ?_
  rcases (by omega : j = 0 ∨ j = 1 ∨ j = 2 ∨ j = 3 ∨ j = 4 ∨ j = 5 ∨ j = 6 ∨ j = 7 ∨ j = 8 ∨ j = 9 ∨ j = 10 ∨ j = 11 ∨ j = 12 ∨ j = 13 ∨ 14 ≤ j) with rfl | rfl | rfl | rfl | rfl | rfl | rfl | rfl | rfl | rfl | rfl | rfl | rfl | rfl | hj
  · exact (h 0 (by decide)).1
  · exact (h 1 (by decide)).1
  · exact (h 2 (by decide)).1
  · exact (h 3 (by decide)).1
  · exact (h 4 (by decide)).1
  · exact (h 5 (by decide)).1
  · exact (h 0 (by decide)).2
  · exact (h 1 (by decide)).2
  · exact (h 2 (by decide)).2
  · exact (h 3 (by decide)).2
  · exact (h 4 (by decide)).2
  · exact (h 5 (by decide)).2
  · exact h12
  · exact h13
  · rw [List.getElem?_eq_none (by omega), List.getElem?_eq_none (by exact hj)]
def RetBF7 (w : World) (f : Fr) (e : Ending) (w' : World) : Prop := (f.err ≠ 0 → e = .returned (.tuple #[.slice none 0 0, .int .i64 f.err]) ∧ Bel w w') ∧ (f.err = 0 → ∃ A c, e = .returned (.tuple #[.slice A f.bytes.length c, .int .i64 0]) ∧ Buf w w' [] A f.bytes.length c f.bytes)
theorem take_get (l : List Int) {i : Nat} (h : i < l.length) : l.take i ++ [l.getD i 0] = l.take (i + 1) := by
  rw [List.take_succ_eq_append_getElem h]
  simp [List.getD_eq_getElem?_getD, h]
end Go.Proofs.YtphbdmafchjjeaaS
