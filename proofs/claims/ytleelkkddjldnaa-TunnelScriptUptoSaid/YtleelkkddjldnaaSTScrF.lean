/- Package weftlaw7: a step of a script.
   Conditions: the step is as a row's argument is. -/
import Derived.Test.YtleelkkddjldnaaSTScrE
namespace Go.Proofs.YtleelkkddjldnaaS
open Go Go.RowKit Go.Proofs Go.Proofs.YtleelkkddjldnaaX
set_option maxRecDepth 100000
set_option linter.unusedVariables false
set_option linter.unusedSectionVars false
set_option linter.unusedSimpArgs false

section
variable {w0 w : World} {g : Nat} {Q R : List Blk}
theorem Gd.bel {fz : List Lst} {Al : Option Addr} {nl cl : Nat} {As : Option Addr} {ns cs : Nat} {f : Fr} {Af : Option Addr} {nf cf : Nat} {o : Ot} (h : Gd w0 w g R fz Al nl cl As ns cs f Af nf cf o) : Bel w0 w := by
  obtain ⟨P, HP⟩ := h.ownP
  exact HP.bel
theorem Gd.locBk {fz : List Lst} {Al : Option Addr} {nl cl : Nat} {As : Option Addr} {ns cs : Nat} {f : Fr} {Af : Option Addr} {nf cf : Nat} {o : Ot} (h : Gd w0 w g (Q ++ R) fz Al nl cl As ns cs f Af nf cf o) (k : Nat) {b : Nat} {t : TypeId} {l : List Value} (hk : Q[k]? = some (b, t, l)) : Bk w b t l := by
  obtain ⟨P, HP⟩ := h.ownP
  obtain ⟨j, hj⟩ := List.mem_iff_getElem?.1 (List.mem_append.2 (Or.inr (List.mem_append.2 (Or.inl (List.mem_of_getElem? hk)))) : (b, t, l) ∈ P ++ (Q ++ R))
  exact HP.bk j hj
theorem Iv.bel (h : Iv w0 w g Q) : Bel w0 w := by
  obtain ⟨ol, og, Al, nl, cl, last, As, ns, cs, sealed, f, Af, nf, cf, o, fz, G, t⟩ := h
  exact G.bel
/-- A copy of a frame's body becomes the body that is kept. -/
theorem new_body {ol og : Option Blk} {Al : Option Addr} {nl cl : Nat} {last : List Int} {As : Option Addr} {ns cs : Nat} {sealed : List Int} {f : Fr} {A : Option Addr} {n c : Nat} {o' : Ot} {fz : List Lst}
    (G : Gd w0 w g (Q ++ (ol.toList ++ og.toList)) fz Al nl cl As ns cs f A n c o') (t1 : SL ol Al nl cl last) (t3 : Bytes last) (t4 : nl ≤ 2000000) (t5 : f.Fine) (t6 : o'.Fine) (t8 : (As, ns, sealed) ∈ fz) (t9 : Bytes sealed) (t10 : ns ≤ 300000)
    (y : By w A n f.body) (hn : n ≤ 2000000) {K : World → Prop} (hK : ∀ w1, Iv w0 w1 g Q → K w1) :
    AppE w 1 1 5 [.int .u8 0] none 0 0 A n (fun A' c' w' => ∃ a : Addr, some ⟨g, 0, none⟩ = some a ∧ (MayC w' ((a.add 2).add 13) ∧ Let (w'.setCell ((a.add 2).add 13) (.slice A' (0 + n) c')) K)) := by
  refine buf_app (Buf.nil (Own.refl w)) y (by omega) fun A' c' wb q => ⟨_, rfl, ?_⟩
  obtain ⟨o2, HO, S'⟩ := buf_sl q
  rw [List.append_nil] at HO
  rw [List.nil_append] at S'
  have p : (o2.toList ++ (Q ++ (ol.toList ++ og.toList))).Perm (og.toList ++ (Q ++ (ol.toList ++ o2.toList))) :=
    ((((List.perm_append_comm_assoc _ _ _).trans ((List.perm_append_comm_assoc _ _ _).append_left _)).trans ((List.perm_append_comm.append_left _).append_left _)).trans ((List.perm_append_comm_assoc _ _ _).append_left _)).trans (List.perm_append_comm_assoc _ _ _)
  rw [add_blk, add_blk, Nat.zero_add]
  refine ((G.join HO).permR p).drop.setBody fun w1 G1 => hK w1 ?_
  exact ⟨ol, o2, Al, nl, cl, last, As, ns, cs, sealed, f, A', 0 + n, c', o', fz, G1, t1, S', t3, t4, t5, t6, by omega, t8, t9, t10⟩
end
section
variable {w0 w : World} {g : Nat} {kind : Int} {o : Ot} {f : Fr} {A : Option Addr} {n c : Nat} {x : Item} {B : Option Addr} {m d : Nat} {E : Option Addr} {p q : Nat} {D : Option Addr} {r s : Nat} {at_ : Int}
theorem plays_t (h : Iv w0 w g []) (ho : o.Fine) (hf : f.Fine) (hA : By w0 A n f.body) (hc : n ≤ c) (hn : n ≤ 1048576) (hx : x.Fine) (hI : ItAt w0 x B m d E p q) {raw : List Int} (hD : By w0 D r raw) (hr : Bytes raw) (hrs : r ≤ s) (hrn : r ≤ 1048576) (hat : -9223372036854775808 ≤ at_ ∧ at_ ≤ 9223372036854775807) :
    Calls Try.prog 35 #[.pointer (some ⟨g, 0, none⟩), .agg (opv kind o f A n c x B m d E p q D r s at_).toArray] w (Stp w0 g) := by
  refine weftlaw7_steps_plays.run ?_
  unfold weftlaw7_steps_plays.s
  have b0 := h.bel
  refine own_new (l := opv kind o f A n c x B m d E p q D r s at_) (Own.refl w) fun g1 w2 H => ?_
  have aF : ∀ {wa : World}, Own w wa [(g1, 76, opv kind o f A n c x B m d E p q D r s at_)] → At wa ⟨g1, 7, none⟩ (fv f A n c) := fun k => at_mid (.int .i64 kind :: ov o) (mid := fv f A n c) (post := iv x B m d E p q ++ [.slice D r s, .int .i64 at_]) (k.bk 0 rfl) rfl
  have aO : ∀ {wa : World}, Own w wa [(g1, 76, opv kind o f A n c x B m d E p q D r s at_)] → At wa ⟨g1, 1, none⟩ (ov o) := fun k => at_mid [.int .i64 kind] (mid := ov o) (post := fv f A n c ++ (iv x B m d E p q ++ [.slice D r s, .int .i64 at_])) (k.bk 0 rfl) rfl
  refine ⟨_, H.cell 0 0 rfl rfl, ?_⟩
  refine ifE (fun _ => ?_) (fun _ => ?_)
  · refine ⟨_, _, _, H.cell 0 28 rfl rfl, ?_⟩
    refine ⟨_, _, _, _, _, _, _, _, _, _, _, _, _, _, _, _, ⟨rfl, aF H⟩, ?_⟩
    refine call_of (frames_t ((hD.bel b0).bel H.bel) hr (by omega) hf ((hA.bel b0).bel H.bel) (by omega)) ?_
    rintro e w3 ⟨rfl, k3⟩
    exact ⟨_, rfl, rfl, h.call (H.bel.trans k3)⟩
  refine ifE (fun _ => ?_) (fun _ => ?_)
  · refine ⟨_, _, _, _, _, _, _, _, _, _, _, ⟨rfl, at_mid (.int .i64 kind :: (ov o ++ fv f A n c)) (mid := iv x B m d E p q) (post := [.slice D r s, .int .i64 at_]) (H.bk 0 rfl) rfl⟩, ?_⟩
    refine call_of (datagrams_t hx ((hI.bel b0).bel H.bel)) ?_
    rintro e w3 ⟨rfl, k3⟩
    exact ⟨_, rfl, rfl, h.call (H.bel.trans k3)⟩
  refine ifE (fun _ => ?_) (fun _ => ?_)
  · refine ⟨_, _, _, _, _, _, _, _, _, _, _, _, _, _, _, _, ⟨rfl, aF H⟩, ?_⟩
    refine call_of (Flow_c hf ((hA.bel b0).bel H.bel) hc (by omega)) ?_
    rintro e w3 ⟨rfl, k3⟩
    replace H := H.call k3
    refine ⟨_, rfl, ?_⟩
    refine ⟨_, _, _, _, _, _, _, _, _, _, _, _, _, _, _, _, ⟨rfl, aF H⟩, ?_⟩
    refine call_of (Flow7_c hf ((hA.bel b0).bel H.bel) hc (by omega)) ?_
    rintro e w4 ⟨rfl, k4⟩
    refine ⟨_, rfl, ?_, h.call (H.bel.trans k4)⟩
    simp
  refine ifE (fun _ => ?_) (fun _ => ?_)
  · refine ⟨_, _, _, _, _, _, ⟨rfl, aO H⟩, ?_⟩
    refine ⟨_, _, _, _, _, _, _, _, _, _, _, _, _, _, _, _, ⟨rfl, aF H⟩, ?_⟩
    refine call_of (Seal_c ho hf ((hA.bel b0).bel H.bel)) ?_
    rintro e w3 ⟨k3, D1, n1, d1, rfl, y1, _, f1⟩
    replace f1 := f1.le H.bel
    replace H := H.call k3
    refine ⟨_, _, _, _, rfl, ?_⟩
    refine ⟨_, _, _, _, _, _, ⟨rfl, aO H⟩, ?_⟩
    refine ⟨_, _, _, _, _, _, _, _, _, _, _, _, _, _, _, _, ⟨rfl, aF H⟩, ?_⟩
    refine call_of (Seal7_c ho hf ((hA.bel b0).bel H.bel)) ?_
    rintro e w4 ⟨k4, D2, n2, d2, rfl, y2, _, f2⟩
    replace f2 := f2.le H.bel
    replace H := H.call k4
    replace y1 := y1.bel k4
    have b2 := @sOut_len o f
    have l1 := y1.len
    have l2 := y2.len
    refine ⟨_, _, _, _, rfl, ?_⟩
    obtain ⟨ol, og, Al, nl, cl, last, As, ns, cs, sealed, f', Af, nf, cf, o', fz, G, t1, t2, t3, t4, t5, t6, t7, t8, t9, t10⟩ := h
    have G1 := G.joins (Q := []) ((Own.refl w).call H.bel) [(D1, n1, sOut o f), (D2, n2, sOut o f)] (fun u hu => by
      rcases List.mem_cons.1 hu with rfl | hu
      · exact ⟨y1, f1, fun _ _ _ p hp => by cases hp⟩
      rcases List.mem_cons.1 hu with rfl | hu
      · exact ⟨y2, f2, fun _ _ _ p hp => by cases hp⟩
      · cases hu)
    refine call_of (answers_t G1 (List.mem_of_getElem? (i := 0) rfl) (by omega)) ?_
    rintro e w5 ⟨rfl, fz5, s5, G5⟩
    refine ⟨rfl, _, rfl, ?_⟩
    rw [add_blk, Nat.zero_add]
    refine G5.setSealed fun w6 G6 => ?_
    have m1 := s5 (List.mem_of_getElem? (i := 0) rfl)
    have m2 := s5 (List.mem_of_getElem? (i := 1) rfl)
    have sb : Bytes (sOut o f) := by
      unfold sOut
      split
      · rename_i hz
        have hz' := sErr_zero hz
        exact (Pk.head_bytes (sPk_fine ho hf hz'.2.2) (sPk_err ho hf hz'.2.2) _).append (sPk_fine ho hf hz'.2.2).body
      · exact Bytes.nil
    refine ifE (fun _ => ?_) (fun h => absurd rfl h)
    refine call_of (same_t (G6.mem m1) (G6.mem m2) (by show n1 ≤ _; omega)) ?_
    rintro e w7 ⟨rfl, k7⟩
    exact ⟨_, rfl, rfl, ol, og, Al, nl, cl, last, D2, n2, d2, sOut o f, f', Af, nf, cf, o', fz5, G6.call k7, t1, t2, t3, t4, t5, t6, t7, m2, sb, by omega⟩
  have I := h.join H
  refine ifE (fun _ => ?_) (fun _ => ?_)
  · refine ⟨_, _, _, H.cell 0 28 rfl rfl, ?_⟩
    refine new_last I ((hD.bel b0).bel H.bel) hr (by omega) fun w3 I => ?_
    refine ⟨x.src, I.loc 0 21 rfl rfl, x.dst, I.loc 0 22 rfl rfl, ?_⟩
    refine call_of (asks_v I hx.src hx.dst) ?_
    rintro e w4 ⟨rfl, I⟩
    exact ⟨_, rfl, rfl, I⟩
  refine ifE (fun _ => ?_) (fun _ => ?_)
  · obtain ⟨ol, og, Al, nl, cl, last, As, ns, cs, sealed, f', Af, nf, cf, o', fz, G, t1, t2, t3, t4, t5, t6, t7, t8, t9, t10⟩ := id I
    refine ⟨_, rfl, As, ns, cs, by rw [add_blk]; exact G.cell 1 (by decide) rfl, ?_⟩
    refine new_last I (G.mem t8) t9 (by show ns ≤ _; omega) fun w3 I => ?_
    refine ⟨x.src, I.loc 0 21 rfl rfl, x.dst, I.loc 0 22 rfl rfl, ?_⟩
    refine call_of (asks_v I hx.src hx.dst) ?_
    rintro e w4 ⟨rfl, I⟩
    exact ⟨_, rfl, rfl, I⟩
  refine ifE (fun _ => ?_) (fun _ => ?_)
  · obtain ⟨ol, og, Al, nl, cl, last, As, ns, cs, sealed, f', Af, nf, cf, o', fz, G, t1, t2, t3, t4, t5, t6, t7, t8, t9, t10⟩ := id I
    refine ⟨_, rfl, Al, nl, cl, G.cell 0 (by decide) rfl, ?_⟩
    refine ifD (fun h1 => ?_) (fun h1 => ?_)
    · refine draws (fun w' => Gd w0 w' g ([(g1, 76, opv kind o f A n c x B m d E p q D r s at_)] ++ (ol.toList ++ og.toList)) fz Al nl cl As ns cs f' Af nf cf o') (G.call (Bel.refl w2).drew) fun w3 e3 => ?_
      replace G := G.call (Bel.refl w2).drew
      rw [← e3] at G
      refine ⟨at_, fun w' G' => G'.loc 0 29 rfl rfl, _, rfl, Al, nl, cl, fun w' G' => G'.cell 0 (by decide) rfl, by omega, ?_⟩
      have e1 := Int.tmod_lt_of_pos at_ (b := (nl : Int)) (by omega)
      have e2 := Int.lt_tmod_of_pos at_ (b := (nl : Int)) (by omega)
      generalize Int.tmod at_ (nl : Int) = v at *
      refine let_as v rfl ?_
      refine ifD (fun h2 => ?_) (fun h2 => ?_)
      · refine let_as (-v) (by rw [w64 (by omega) (by omega)]; omega) ?_
        have k := plays_j1 hx G t1 t2 t3 t4 t5 t6 t7 t8 t9 t10 (i := -v) (by omega) (by omega)
        exact ⟨by with_reducible apply k⟩
      · have k := plays_j1 hx G t1 t2 t3 t4 t5 t6 t7 t8 t9 t10 (i := v) (by omega) (by omega)
        exact ⟨by with_reducible apply k⟩
    · have k := plays_j2 hx I
      exact ⟨by with_reducible apply k⟩
  refine ifE (fun _ => ?_) (fun _ => ?_)
  · refine ⟨x.src, I.loc 0 21 rfl rfl, x.dst, I.loc 0 22 rfl rfl, ?_⟩
    refine call_of (asks_v I hx.src hx.dst) ?_
    rintro e w4 ⟨rfl, I⟩
    exact ⟨_, rfl, rfl, I⟩
  refine ifE (fun _ => ?_) (fun _ => ?_)
  · obtain ⟨ol, og, Al, nl, cl, last, As, ns, cs, sealed, f', Af, nf, cf, o', fz, G, t1, t2, t3, t4, t5, t6, t7, t8, t9, t10⟩ := id I
    refine ⟨_, _, _, _, _, _, ⟨rfl, aO H⟩, _, rfl, ?_⟩
    rw [add_blk, Nat.zero_add]
    refine G.putOuter (o' := o) fun w3 G => ?_
    refine ⟨_, _, _, _, _, _, _, _, _, _, _, _, _, _, _, _, ⟨rfl, at_mid (.int .i64 kind :: ov o) (mid := fv f A n c) (post := iv x B m d E p q ++ [.slice D r s, .int .i64 at_]) (G.locBk 0 rfl) rfl⟩, _, rfl, ?_⟩
    rw [add_blk, Nat.zero_add]
    refine G.putFrame (f' := f) fun w4 G => ?_
    refine ⟨A, n, c, G.loc 0 20 rfl rfl, ?_⟩
    refine new_body G t1 t3 t4 hf ho t8 t9 t10 (hA.bel G.bel) (by omega) fun w5 I => ?_
    refine call_of (writes_v I) ?_
    rintro e w6 ⟨rfl, I⟩
    exact ⟨_, rfl, rfl, I⟩
  refine ifE (fun _ => ?_) (fun _ => ?_)
  · obtain ⟨ol, og, Al, nl, cl, last, As, ns, cs, sealed, f', Af, nf, cf, o', fz, G, t1, t2, t3, t4, t5, t6, t7, t8, t9, t10⟩ := id I
    have aS : ∀ {wb : World}, Gd w0 wb g ([(g1, 76, opv kind o f A n c x B m d E p q D r s at_)] ++ (ol.toList ++ og.toList)) fz Al nl cl As ns cs f' Af nf cf o' → wb.cell? (((⟨g, 0, none⟩ : Addr).add 2).add 13) = some (.slice Af nf cf) := fun G => by
      rw [add_blk, add_blk]
      exact G.cell 15 (by decide) rfl
    refine ⟨_, rfl, Af, nf, cf, aS G, ?_⟩
    refine ifD (fun h1 => ?_) (fun h1 => ?_)
    · refine draws (fun w' => Gd w0 w' g ([(g1, 76, opv kind o f A n c x B m d E p q D r s at_)] ++ (ol.toList ++ og.toList)) fz Al nl cl As ns cs f' Af nf cf o') (G.call (Bel.refl w2).drew) fun w3 e3 => ?_
      replace G := G.call (Bel.refl w2).drew
      rw [← e3] at G
      refine ⟨at_, fun w' G' => G'.loc 0 29 rfl rfl, _, rfl, Af, nf, cf, fun w' G' => aS G', by omega, ?_⟩
      have e1 := Int.tmod_lt_of_pos at_ (b := (nf : Int)) (by omega)
      have e2 := Int.lt_tmod_of_pos at_ (b := (nf : Int)) (by omega)
      generalize Int.tmod at_ (nf : Int) = v at *
      refine let_as v rfl ?_
      refine ifD (fun h2 => ?_) (fun h2 => ?_)
      · refine let_as (-v) (by rw [w64 (by omega) (by omega)]; omega) ?_
        have k := plays_j3 (x := x) G t1 t2 t3 t4 t5 t6 t7 t8 t9 t10 (i := -v) (by omega) (by omega)
        exact ⟨by with_reducible apply k⟩
      · have k := plays_j3 (x := x) G t1 t2 t3 t4 t5 t6 t7 t8 t9 t10 (i := v) (by omega) (by omega)
        exact ⟨by with_reducible apply k⟩
    · have k := plays_j4 I
      exact ⟨by with_reducible apply k⟩
  exact ⟨rfl, h.call H.bel⟩
end
end Go.Proofs.YtleelkkddjldnaaS
