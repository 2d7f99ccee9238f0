/- Package weftlaw23: tied.
   Conditions: the backends' fields are of their kinds; the lists are short. -/
import Derived.Test.YtphbdmafchjjeaaDoorSNatL
namespace Go.Proofs.YtphbdmafchjjeaaDoorS
open Go Go.RowKit Go.Proofs Go.Proofs.YtphbdmafchjjeaaDoorX
set_option maxRecDepth 100000
set_option linter.unusedVariables false
set_option linter.unusedSectionVars false
set_option linter.unusedSimpArgs false
section
variable {w0 : World} {t : Tp} {A : Option Addr} {n c : Nat} {l : List (Int × Int)}
theorem wl_app {a : World} {R : List Blk} {o : Option Blk} {B : Option Addr} {m d : Nat} {vs : List Value} (h : OF w0 a (o.toList ++ R) []) (q : RV 68 1 o B m d vs) (W : Int) {g0 : Nat} (hB : At a ⟨g0, 0, none⟩ [Value.int .u64 W]) (hn : m ≤ 1000000) {K : Option Addr → Nat → World → Prop}
    (hK : ∀ (o' : Option Blk) A' c' (wb : World), OF w0 wb (o'.toList ++ R) [] → RV 68 1 o' A' (m + 1) c' (vs ++ [Value.int .u64 W]) → K A' c' wb) : AppE a 1 8 68 [.int .u64 0] B m d (some ⟨g0, 0, .none⟩) 1 K :=
  rv_app (bytes := 8) (zs := [.int .u64 0]) rfl h q (v := [Value.int .u64 W]) rfl rfl hB (by omega) (by omega) hK
theorem tied_l1 (ht : t.Fine) (hf : FineB l) (hl : l.length = n) (hn : n ≤ 1000) {g : Nat} {o : Option Blk} {M : List Blk} (hM : ((g, 32, tpv t) : Blk) ∈ M) (qA : RV 28 2 o A n c (bvs l)) : ∀ (q i : Nat) (w : World) (B : Option Addr) (d : Nat) (o2 : Option Blk), n - i < q → i ≤ n →
    OF w0 w (o2.toList ++ (o.toList ++ M)) [] → RV 68 1 o2 B i d (uws t (l.take i)) → weftlaw23_tied.L1 q g A n c B i d (i : Int) w (RetTd w0 t l) := by
  have bt : ∀ {w' : World} {o2 : Option Blk}, OF w0 w' (o2.toList ++ (o.toList ++ M)) [] → Bk w' g 32 (tpv t) := fun h => memB h.own (p := (g, 32, tpv t)) (List.mem_append.2 (Or.inr (List.mem_append.2 (Or.inr hM))))
  have bb : ∀ {w' : World} {o2 : Option Blk}, OF w0 w' (o2.toList ++ (o.toList ++ M)) [] → Bks w' A n l := fun h => bks_mem h.own (fun x hx => List.mem_append.2 (Or.inr (List.mem_append.2 (Or.inl hx)))) qA hl
  intro q
  induction q with
  | zero => intro i w B d o2 hq; omega
  | succ q ih =>
    intro i w B d o2 hq hi H q2
    unfold weftlaw23_tied.L1; intros
    rw [weftlaw23_tied.l1_eq]
    refine ifD (fun h1 => ?_) (fun h1 => ?_)
    · have hi2 : i < n := by omega
      have k1 : Bel w w.drew := (Bel.refl w).drew
      refine draws (fun w' => Bk w' g 32 (tpv t) ∧ Bks w' A n l) ⟨bt (H.call k1), bb (H.call k1)⟩ fun w2 e2 => ?_
      replace H := H.call k1
      rw [← e2] at H
      refine ⟨_, _, _, _, _, ⟨rfl, fun w' h => h.1.at⟩, ?_⟩
      obtain ⟨a, ea, _⟩ := (bb H).rd hi2
      refine ⟨a, ea, ⟨by omega, by omega⟩, (l.getD i (0, 0)).1, (l.getD i (0, 0)).2, ⟨rfl, fun w' h => ?_⟩, ?_⟩
      · obtain ⟨a2, ea2, hat⟩ := h.2.rd hi2
        rw [ea] at ea2
        injection ea2 with ea2
        rw [ea2]
        exact hat
      have hx : l.getD i (0, 0) ∈ l := by
        rw [List.getD_eq_getElem?_getD, List.getElem?_eq_getElem (by omega)]
        exact List.getElem_mem _
      have hW := Weight_c (w := w2) ht (hf _ hx).1 (hf _ hx).2
      have e := uws_snoc (t := t) (by omega : i < l.length)
      have eW : weightV t (l.getD i (0, 0)).1 (l.getD i (0, 0)).2 = wtV t (l.getD i (0, 0)) := rfl
      rw [eW] at hW
      clear eW
      generalize wtV t (l.getD i (0, 0)) = W at hW e
      refine call_of hW ?_
      rintro e3 w3 ⟨rfl, k3⟩
      replace H := H.call k3
      refine ⟨_, rfl, ⟨bt H, bb H⟩, ?_⟩
      refine let_as w3.heap.size rfl (let_as (w3.alloc (.cells [Value.int .u64 W].toArray 68)) rfl ?_)
      replace H := H.call ((Bel.refl w3).alloc (.cells [Value.int .u64 W].toArray 68))
      refine ⟨⟨bt H, bb H⟩, ?_⟩
      refine wl_app H q2 W (Bk.new w3 _ _).at (Nat.le_trans (Nat.le_trans hi hn) (by decide)) fun o3 B3 d3 w4 H4 q3 => ?_
      refine ⟨⟨bt H4, bb H4⟩, ?_⟩
      refine let_as ((i + 1 : Nat) : Int) (by rw [w64 (by omega) (by omega)]; omega) ?_
      rw [e] at q3
      exact ih (i + 1) w4 B3 d3 o3 (by omega) (by omega) H4 q3 ..
    · have e : i = n := by omega
      subst e
      rw [List.take_of_length_le (by omega)] at q2
      refine ⟨i + 1, ?_⟩
      have hB := uws_rd H.own q2 (by omega : l.length = i)
      have k := tied_l2 (w0 := w0) (t := t) (c := c) (d := d) (bb H) hn hB H.own.bel (i + 1) 0 w (by omega) (by omega) (Bel.refl w) (fun a b ha => by omega)
      exact k ..
theorem tied_j1 (ht : t.Fine) (hf : FineB l) (hn : n ≤ 1000) {g : Nat} {M : List Blk} (hM : ((g, 32, tpv t) : Blk) ∈ M) {w : World} (b : BL w0 w M A n c l) : weftlaw23_tied.J1 g A n c w (RetTd w0 t l) := by
  obtain ⟨o, H, q, hl⟩ := b
  unfold weftlaw23_tied.J1; intros
  rw [weftlaw23_tied.j1_eq]
  refine ⟨n + 1, ?_⟩
  have k := tied_l1 (w0 := w0) ht hf hl hn hM q (n + 1) 0 w none 0 none (by omega) (by omega) H RV.none
  exact k ..
theorem BL.join {w w' : World} {M : List Blk} (h : Own w0 w M) (b : BL w w' [] A n c l) : BL w0 w' M A n c l := by
  obtain ⟨o, H, q, hl⟩ := b
  have H1 : Own w w' o.toList := by
    have := H.own
    rwa [List.append_nil] at this
  exact ⟨o, ⟨Own.join h H1, fun x hx => by cases hx⟩, q, hl⟩
theorem tied_c {w : World} (ht : t.Fine) (hB : Bks w A n l) (hn : n ≤ 256) {x : Int × Int} (hf : FineB (l ++ [x])) : Calls Tryd.prog 8 #[.agg (tpv t).toArray, .slice A n c, .agg (bkd x).toArray] w (RetTd w t (l ++ [x])) := by
  have hl := hB.1
  refine weftlaw23_tied.run ?_
  unfold weftlaw23_tied.s
  refine own_new (l := tpv t) (Own.refl w) fun g1 w1 H => ?_
  refine own_new (l := bkd x) H fun g3 w4 H => ?_
  refine draws (fun w' => Bk w' g3 28 (bkd x)) (H.drew.bk 0 rfl) fun w6 e6 => ?_
  replace H := H.drew
  rw [← e6] at H
  refine ⟨_, _, ⟨rfl, fun w' h => h.at⟩, ?_, ?_⟩
  · refine call_of (backs_c (hB.bel H.bel) (by omega)) ?_
    rintro e w9 ⟨A2, c2, rfl, b⟩
    have b2 := BL.join H b
    refine ⟨_, _, _, rfl, b2.own.bk 0 rfl, ?_⟩
    refine let_as w9.heap.size rfl (let_as (w9.alloc (.cells (bkd x).toArray 28)) rfl ?_)
    have b3 := b2.call ((Bel.refl w9).alloc (.cells (bkd x).toArray 28))
    refine ⟨b3.own.bk 0 rfl, ?_⟩
    refine bl_app b3 (Bk.new w9 _ _).at (by omega) fun A' c' wb b' => ?_
    refine ⟨b'.own.bk 0 rfl, ?_⟩
    have k := tied_j1 (w0 := w) ht hf (by omega) (g := g1) (by simp) b'
    exact ⟨by with_reducible apply k⟩
  · refine own_new (l := bkd x) H fun g17 w18 H2 => ?_
    refine ⟨H2.bk 1 rfl, ?_⟩
    refine call_of (backs_c (hB.bel H2.bel) (by omega)) ?_
    rintro e w9 ⟨A2, c2, rfl, b⟩
    have b2 := BL.join H2 b
    refine ⟨_, _, _, rfl, b2.own.bk 1 rfl, ?_⟩
    refine bl_app b2 (b2.own.bk 0 rfl).at (by omega) fun A' c' wb b' => ?_
    refine ⟨b'.own.bk 1 rfl, ?_⟩
    have k := tied_j1 (w0 := w) ht hf (by omega) (g := g1) (by simp) b'
    exact ⟨by with_reducible apply k⟩
end
end Go.Proofs.YtphbdmafchjjeaaDoorS
