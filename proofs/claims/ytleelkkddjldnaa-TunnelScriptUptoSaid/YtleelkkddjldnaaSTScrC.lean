/- Package weftlaw7: writes.
   Conditions: the frame's body is of one's own. -/
import Derived.Test.YtleelkkddjldnaaSTScrB
import Derived.Test.YtleelkkddjldnaaSTLawK
namespace Go.Proofs.YtleelkkddjldnaaS
open Go Go.RowKit Go.Proofs Go.Proofs.YtleelkkddjldnaaX
set_option maxRecDepth 100000
set_option linter.unusedVariables false
set_option linter.unusedSectionVars false
set_option linter.unusedSimpArgs false

def bOut (f : Fr) : List Int := if f.err = 0 then f.bytes else []
theorem bOut_len (f : Fr) : (bOut f).length ≤ 300000 := by
  unfold bOut
  split
  · rename_i h
    have := ferr_len h
    rw [f.len]
    omega
  · exact Nat.zero_le _
theorem bf_out {w w' : World} {f : Fr} {e : Ending} (h : RetBF w f e w') : Bel w w' ∧ ∃ A c, e = .returned (.tuple #[.slice A (bOut f).length c, .int .i64 f.err]) ∧ By w' A (bOut f).length (bOut f) ∧ Fre w A := by
  unfold bOut
  by_cases h0 : f.err = 0
  · obtain ⟨g, rfl, H⟩ := h.2 h0
    rw [if_pos h0, h0]
    exact ⟨H.bel, _, _, rfl, (H.bk 0 rfl).by, Fre.mk (H.ge 0 rfl)⟩
  · obtain ⟨rfl, k⟩ := h.1 h0
    rw [if_neg h0]
    exact ⟨k, none, 0, rfl, By.nil _ _, Fre.nil w⟩
theorem bf7_out {w w' : World} {f : Fr} {e : Ending} (h : RetBF7 w f e w') : Bel w w' ∧ ∃ A c, e = .returned (.tuple #[.slice A (bOut f).length c, .int .i64 f.err]) ∧ By w' A (bOut f).length (bOut f) := by
  unfold bOut
  by_cases h0 : f.err = 0
  · obtain ⟨A, c, rfl, q⟩ := h.2 h0
    rw [if_pos h0, h0]
    exact ⟨q.own.bel, _, _, rfl, q.by⟩
  · obtain ⟨rfl, k⟩ := h.1 h0
    rw [if_neg h0]
    exact ⟨k, none, 0, rfl, By.nil _ _⟩
section
variable {w0 w : World} {g : Nat} {Q R : List (Nat × TypeId × List Value)} {fz : List Lst} {Al : Option Addr} {nl cl : Nat} {As : Option Addr} {ns cs : Nat} {f : Fr} {Af : Option Addr} {nf cf : Nat} {o : Ot}
theorem Gd.frame (h : Gd w0 w g R fz Al nl cl As ns cs f Af nf cf o) : At w ⟨g, 2, none⟩ (fv f Af nf cf) := by
  obtain ⟨oL, oW, AL, n, cL, AW, cW, vL, vW, total, H, sL, sW, kp⟩ := h
  exact at_mid [.slice Al nl cl, .slice As ns cs] (mid := fv f Af nf cf) (post := ov o ++ [.slice AL n cL, .slice AW n cW, .int .i64 total]) (H.own.bk 0 rfl) rfl
theorem Gd.outer (h : Gd w0 w g R fz Al nl cl As ns cs f Af nf cf o) : At w ⟨g, 16, none⟩ (ov o) := by
  obtain ⟨oL, oW, AL, n, cL, AW, cW, vL, vW, total, H, sL, sW, kp⟩ := h
  exact at_mid ([.slice Al nl cl, .slice As ns cs] ++ fv f Af nf cf) (mid := ov o) (post := [.slice AL n cL, .slice AW n cW, .int .i64 total]) (H.own.bk 0 rfl) rfl
theorem writes_j1 {x1 x2 : Lst} {c1 c2 : Nat} {fz0 : List Lst} (h : Gd w0 w g R fz Al nl cl As ns cs f Af nf cf o) (h0 : fz0 ⊆ fz) (h1 : x1 ∈ fz) (h2 : x2 ∈ fz) (m1 : x1.2.1 ≤ 300000) (m2 : x2.2.1 ≤ 300000) :
    weftlaw7_steps_writes.J1 (some ⟨g, 0, none⟩) x1.1 x1.2.1 c1 x2.1 x2.2.1 c2 w (fun e w' => e = .returned (.bool true) ∧ ∃ fz', fz0 ⊆ fz' ∧ Gd w0 w' g R fz' Al nl cl As ns cs f Af nf cf o) := by
  unfold weftlaw7_steps_writes.J1; intros
  rw [weftlaw7_steps_writes.j1_eq]
  refine call_of (answers_t h h1 m1) ?_
  rintro e w1 ⟨rfl, fz1, k1, h⟩
  refine ⟨rfl, ?_⟩
  refine call_of (answers_t h (k1 h2) m2) ?_
  rintro e w2 ⟨rfl, fz2, k2, h⟩
  exact ⟨rfl, rfl, fz2, fun x hx => k2 (k1 (h0 hx)), h⟩
theorem writes_t (h : Gd w0 w g R fz Al nl cl As ns cs f Af nf cf o) (hf : f.Fine) (ho : o.Fine) (hB : By w Af nf f.body) (hc : nf ≤ cf) (hn : nf ≤ 1000000000) :
    Calls Try.prog 60 #[.pointer (some ⟨g, 0, none⟩)] w (fun e w' => e = .returned (.bool true) ∧ ∃ fz', fz ⊆ fz' ∧ Gd w0 w' g R fz' Al nl cl As ns cs f Af nf cf o) := by
  refine weftlaw7_steps_writes.run ?_
  unfold weftlaw7_steps_writes.s
  have hl := hB.len
  have aF : ∀ {wa : World}, Bel w wa → At wa ((⟨g, 0, none⟩ : Addr).add 2) (fv f Af nf cf) := fun k => by rw [add_blk]; exact (h.call k).frame
  have aO : ∀ {wa : World}, Bel w wa → At wa ((⟨g, 0, none⟩ : Addr).add 16) (ov o) := fun k => by rw [add_blk]; exact (h.call k).outer
  have aS : ∀ {wa : World}, Bel w wa → wa.cell? (((⟨g, 0, none⟩ : Addr).add 2).add 13) = some (.slice Af nf cf) := fun k => by rw [add_blk, add_blk]; exact (h.call k).cell 15 (by decide) rfl
  refine ⟨_, rfl, _, _, _, _, _, _, _, _, _, _, _, _, _, _, _, _, ⟨rfl, aF (Bel.refl w)⟩, ?_⟩
  refine own_mk (fv Go.Proofs.YtleelkkddjldnaaS.fz none 0 0) (Own.refl w) rfl rfl fun g1 w1 H k1 _ => ?_
  refine ⟨_, rfl, _, _, _, aS H.bel, ?_⟩
  refine buf_app (Buf.nil (Own.refl w1)) (hB.bel H.bel) (by omega) fun A3 c3 w2 q => ?_
  have y := q.by
  have yc := q.le
  have o1 := H.old 0 rfl q.fre
  replace H := H.call q.own.bel
  rw [List.nil_append, Nat.zero_add] at y
  rw [Nat.zero_add] at yc ⊢
  refine own_setB 0 H rfl (Nat.lt_of_lt_of_le (by decide : 13 < 14) (Nat.le_refl 14)) fun w3 H u3 => ?_
  replace y := y.but u3 o1
  replace H : Own w w3 [(g1, 46, fv f A3 nf c3)] := H
  refine ⟨_, rfl, _, _, _, _, _, _, _, _, _, _, _, _, _, _, _, _, ⟨rfl, aF H.bel⟩, ?_⟩
  refine call_of (BuildFrame_c hf (hB.bel H.bel)) ?_
  rintro e w4 he
  obtain ⟨k4, D1, d1, rfl, y1, f1⟩ := bf_out he
  replace f1 := f1.le H.bel
  replace H := H.call k4
  replace y := y.bel k4
  refine ⟨_, _, _, _, rfl, ?_⟩
  refine ld_fr (H.bk 0 rfl) ?_
  refine call_of (BuildFrame7_c hf y) ?_
  rintro e w5 he
  obtain ⟨k5, D1', d1', rfl, y1'⟩ := bf7_out he
  replace H := H.call k5
  replace y := y.bel k5
  replace y1 := y1.bel k5
  refine ⟨_, _, _, _, rfl, ?_⟩
  refine ⟨_, rfl, _, _, _, _, _, _, _, _, _, _, _, _, _, _, _, _, ⟨rfl, aF H.bel⟩, ?_⟩
  refine call_of (Flow_c hf (hB.bel H.bel) hc (by omega)) ?_
  rintro e w6 ⟨rfl, k6⟩
  replace H := H.call k6
  replace y := y.bel k6
  replace y1 := y1.bel k6
  replace y1' := y1'.bel k6
  refine ⟨_, rfl, ?_⟩
  refine ld_fr (H.bk 0 rfl) ?_
  refine call_of (Flow7_c hf y yc (by omega)) ?_
  rintro e w7 ⟨rfl, k7⟩
  replace H := H.call k7
  replace y := y.bel k7
  replace y1 := y1.bel k7
  replace y1' := y1'.bel k7
  refine ⟨_, rfl, ?_⟩
  refine draws (fun w' => Own w w' [(g1, 46, fv f A3 nf c3)]) H.drew fun w8' e8 => ?_
  have k8 : Bel w7 w8' := by rw [e8]; exact (Bel.refl w7).drew
  replace H := H.call k8
  replace y := y.bel k8
  replace y1 := y1.bel k8
  replace y1' := y1'.bel k8
  refine ⟨_, rfl, _, _, _, _, _, _, ⟨rfl, fun w' hw => aO hw.bel⟩, ?_⟩
  refine ⟨_, rfl, _, _, _, _, _, _, _, _, _, _, _, _, _, _, _, _, ⟨rfl, fun w' hw => aF hw.bel⟩, ?_⟩
  refine call_of (Seal_c ho hf (hB.bel H.bel)) ?_
  rintro e w9 ⟨k9, D2, n2, d2, rfl, y2, _, f2⟩
  replace f2 := f2.le H.bel
  replace H := H.call k9
  replace y := y.bel k9
  replace y1 := y1.bel k9
  replace y1' := y1'.bel k9
  refine ⟨_, _, _, _, rfl, H, ?_⟩
  refine draws (fun w' => Own w w' [(g1, 46, fv f A3 nf c3)]) H.drew fun w10 e10 => ?_
  have k10 : Bel w9 w10 := by rw [e10]; exact (Bel.refl w9).drew
  replace H := H.call k10
  replace y := y.bel k10
  replace y1 := y1.bel k10
  replace y1' := y1'.bel k10
  replace y2 := y2.bel k10
  refine ⟨_, rfl, _, _, _, _, _, _, ⟨rfl, fun w' hw => aO hw.bel⟩, ?_⟩
  refine ⟨_, _, _, _, _, _, _, _, _, _, _, _, _, _, _, _, ⟨rfl, fun w' hw => (hw.bk 0 rfl).at⟩, ?_⟩
  refine call_of (Seal7_c ho hf y) ?_
  rintro e w11 ⟨k11, D2', n2', d2', rfl, y2', _, _⟩
  replace H := H.call k11
  replace y := y.bel k11
  replace y1 := y1.bel k11
  replace y1' := y1'.bel k11
  replace y2 := y2.bel k11
  refine ⟨_, _, _, _, rfl, H, ?_⟩
  refine draws (fun w' => Own w w' [(g1, 46, fv f A3 nf c3)]) H.drew fun w12 e12 => ?_
  have k12 : Bel w11 w12 := by rw [e12]; exact (Bel.refl w11).drew
  replace H := H.call k12
  replace y := y.bel k12
  replace y1 := y1.bel k12
  replace y1' := y1'.bel k12
  replace y2 := y2.bel k12
  replace y2' := y2'.bel k12
  have b1 := bOut_len f
  have b2 := @sOut_len o f
  have l2 := y2.len
  refine ifN (fun h => absurd rfl h) (fun _ => ?_)
  refine ifN (fun h => absurd rfl h) (fun _ => ?_)
  refine ifN (fun h => absurd rfl h) (fun _ => ?_)
  refine call_of (same_t y1 y1' (by omega)) ?_
  rintro e w13 ⟨rfl, k13⟩
  replace H := H.call k13
  replace y := y.bel k13
  replace y1 := y1.bel k13
  replace y2 := y2.bel k13
  replace y2' := y2'.bel k13
  refine ⟨_, rfl, H, ifNot (fun h => by cases h) (fun _ => ?_)⟩
  refine call_of (same_t y2 y2' (by omega)) ?_
  rintro e w14 ⟨rfl, k14⟩
  replace H := H.call k14
  replace y := y.bel k14
  replace y1 := y1.bel k14
  replace y2 := y2.bel k14
  refine ⟨_, rfl, H, ifNot (fun h => by cases h) (fun _ => ?_)⟩
  refine ⟨_, rfl, _, _, _, fun w' hw => aS hw.bel, _, _, _, fun w' hw => hw.cell 0 13 rfl rfl, ?_⟩
  refine call_of (same_t (hB.bel H.bel) y (by omega)) ?_
  rintro e w15 ⟨rfl, k15⟩
  replace H := H.call k15
  replace y1 := y1.bel k15
  replace y2 := y2.bel k15
  refine ⟨_, rfl, H, ifNot (fun h => by cases h) (fun _ => ?_)⟩
  have G := h.joins (Q := []) ((Own.refl w).call H.bel) [(D1, (bOut f).length, bOut f), (D2, n2, sOut o f)] (fun x hx => by
    rcases List.mem_cons.1 hx with rfl | hx
    · exact ⟨y1, f1, fun _ _ _ p hp => by cases hp⟩
    rcases List.mem_cons.1 hx with rfl | hx
    · exact ⟨y2, f2, fun _ _ _ p hp => by cases hp⟩
    · cases hx)
  have k : weftlaw7_steps_writes.J1 (some ⟨g, 0, none⟩) D1 (bOut f).length d1 D2 n2 d2 w15 (fun e w' => e = .returned (.bool true) ∧ ∃ fz', fz ⊆ fz' ∧ Gd w0 w' g R fz' Al nl cl As ns cs f Af nf cf o) := writes_j1 (x1 := (D1, (bOut f).length, bOut f)) (x2 := (D2, n2, sOut o f)) (c1 := d1) (c2 := d2) G (List.subset_append_right _ _) (List.mem_of_getElem? (i := 0) rfl) (List.mem_of_getElem? (i := 1) rfl) b1 (by show n2 ≤ _; omega)
  exact ⟨by with_reducible apply k⟩
end
end Go.Proofs.YtleelkkddjldnaaS
