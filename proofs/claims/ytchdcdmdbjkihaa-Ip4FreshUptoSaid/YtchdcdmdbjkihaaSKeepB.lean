/- Package weftlaw3: room behind a list; that every list holds its mark.
   Conditions: none. -/
import Derived.Test.YtchdcdmdbjkihaaSKeep
namespace Go.Proofs.YtchdcdmdbjkihaaS
open Go Go.RowKit Go.Proofs Go.Proofs.YtchdcdmdbjkihaaX
set_option maxRecDepth 100000
set_option linter.unusedVariables false
set_option linter.unusedSectionVars false
set_option linter.unusedSimpArgs false

theorem By.at1 {w : World} {A : Option Addr} {n : Nat} {l : List Int} (h : By w A n l) {i : Nat} (hi : i < n) {a : Addr} (ha : A = some a) : w.cell? (a.add i) = some (.int .u8 (l.getD i 0)) := by
  obtain ⟨b, hb, hc⟩ := h.2 (by omega)
  rw [ha] at hb
  injection hb with hb
  subst hb
  exact hc i hi
/-! ### room -/
def rm : List Int := (List.range 64).map fun (j : Nat) => 137 + (j : Int)
theorem rm_len : rm.length = 64 := rfl
theorem rm_get {j : Nat} (h : j < 64) : rm[j]? = some (137 + (j : Int)) := by simp [rm, h]
def RetRoom (w : World) (l : List Int) (e : Ending) (w' : World) : Prop := ∃ g, e = .returned (.slice (some ⟨g, 0, none⟩) (l.length + 64) (l.length + 64)) ∧ Own w w' [(g, 5, bv (l ++ rm))]
theorem roomy_l {w0 : World} {A : Option Addr} {n c : Nat} {l : List Int} (h : By w0 A n l) (hn : n ≤ 10000000000000) {g : Nat} : ∀ (q i : Nat) (w : World) (X : List Int), n + 64 - i < q → i ≤ n + 64 → Own w0 w [(g, 5, bv X)] → X.length = n + 64 → (∀ j, j < i → X[j]? = (l ++ rm)[j]?) →
    weftlaw3_roomy.L1 q A n c (n : Int) (some ⟨g, 0, none⟩) (n + 64) (n + 64) (i : Int) w (RetRoom w0 l) := by
  have hl := h.len
  intro q
  induction q with
  | zero => intro i w X h; omega
  | succ q ih =>
    intro i w X hq hi H hX hp
    unfold weftlaw3_roomy.L1; intros
    rw [weftlaw3_roomy.l1_eq]
    refine let_as ((n + 64 : Nat) : Int) (by rw [w64 (by omega) (by omega)]; omega) ?_
    have step : ∀ (v : Int), i < n + 64 → (l ++ rm)[i]? = some v → ∀ {K : World → Prop}, (∀ w1, weftlaw3_roomy.L1 q A n c (n : Int) (some ⟨g, 0, none⟩) (n + 64) (n + 64) ((i + 1 : Nat) : Int) w1 (RetRoom w0 l) → K w1) → MayC w ⟨g, i, none⟩ ∧ Let (w.setCell ⟨g, i, none⟩ (.int .u8 v)) K := by
      intro v hi2 hv K hK
      refine own_set 0 H rfl (by rw [bv_len]; omega) fun w1 H1 => hK w1 ?_
      rw [bv_set] at H1
      refine ih (i + 1) w1 (X.set i v) (by omega) (by omega) H1 (by rw [List.length_set]; exact hX) fun j hj => ?_
      by_cases e : j = i
      · subst e
        rw [List.getElem?_set_self (by omega), hv]
      · rw [List.getElem?_set_ne (by omega)]
        exact hp j (by omega)
    refine ifD (fun h1 => ?_) (fun h1 => ?_)
    · refine ifD (fun h2 => ?_) (fun h2 => ?_)
      · refine (h.bel H.bel).rd (by omega) (by omega) fun _ => ?_
        rw [Int.toNat_natCast]
        refine ⟨_, rfl, ⟨by omega, by omega⟩, ?_⟩
        rw [add_blk, Nat.zero_add]
        refine step _ (by omega) (by rw [List.getElem?_append_left (by omega), List.getD_eq_getElem?_getD, List.getElem?_eq_getElem (by omega : i < l.length)]; rfl) fun w1 kk => ?_
        refine let_as ((i + 1 : Nat) : Int) (by rw [w64 (by omega) (by omega)]; omega) ?_
        with_reducible apply kk
      · refine let_as (137 + (i : Int)) (w64 (by omega) (by omega)) ?_
        refine let_as (137 + (i : Int) - n) (w64 (by omega) (by omega)) ?_
        refine let_as (137 + ((i - n : Nat) : Int)) (by rw [w8 (by omega) (by omega)]; omega) ?_
        refine ⟨_, rfl, ⟨by omega, by omega⟩, ?_⟩
        rw [Int.toNat_natCast, add_blk, Nat.zero_add]
        refine step _ (by omega) (by rw [List.getElem?_append_right (by omega), hl, rm_get (by omega)]) fun w1 kk => ?_
        refine let_as ((i + 1 : Nat) : Int) (by rw [w64 (by omega) (by omega)]; omega) ?_
        with_reducible apply kk
    · have hin : i = n + 64 := by omega
      have e : X = l ++ rm := by
        apply List.ext_getElem?
        intro j
        by_cases hj : j < i
        · exact hp j hj
        · rw [List.getElem?_eq_none (by omega), List.getElem?_eq_none (by rw [List.length_append, rm_len]; omega)]
      subst e
      refine ⟨g, ?_, H⟩
      rw [hl]
theorem roomy_c {w : World} {A : Option Addr} {n c : Nat} {l : List Int} (h : By w A n l) (hn : n ≤ 10000000000000) : Calls Try.prog 35 #[.slice A n c] w (RetRoom w l) := by
  refine weftlaw3_roomy.run ?_
  unfold weftlaw3_roomy.s
  refine let_as ((n + 64 : Nat) : Int) (by rw [w64 (by omega) (by omega)]; omega) ?_
  refine ⟨⟨by omega, Int.le_refl _, by omega, by omega⟩, ?_⟩
  rw [Int.toNat_natCast, bv_rep]
  refine own_new (l := bv (List.replicate (n + 64) 0)) (Own.refl w) fun g w1 H => ?_
  refine ⟨n + 64 + 1, ?_⟩
  have kk : weftlaw3_roomy.L1 (n + 64 + 1) A n c (n : Int) (some ⟨g, 0, none⟩) (n + 64) (n + 64) 0 w1 (RetRoom w l) := roomy_l h hn (n + 64 + 1) 0 w1 _ (by omega) (by omega) H (by simp) (fun j hj => absurd hj (Nat.not_lt_zero j))
  with_reducible apply kk
/-! ### the whole book -/
def YesB (w : World) (e : Ending) (w' : World) : Prop := e = .returned (.bool true) ∧ Bel w w'
section
variable {w0 ws : World} {g : Nat} {R : List Blk} {cs : List Lst} {es : List Ent} {z : Int} {AL : Option Addr} {nL cL : Nat} {AM : Option Addr} {nM cM : Nat} {oL oM : Option Blk}
theorem rv_cell {t : TypeId} {o : Option Blk} {A : Option Addr} {n c : Nat} {vs : List Value} (q : RV t 1 o A n c vs) {i : Nat} (hi : i < n) {v : Value} (hv : vs[i]? = some v) : ∃ a, A = some a ∧ ∀ {w a' : World} {R : List Blk}, Own w a' (o.toList ++ R) → a'.cell? (a.add i) = some v := by
  obtain ⟨b, e, h⟩ := q.rdb hi (by decide)
  refine ⟨_, e, fun H => ?_⟩
  have := h (u := [v]) H (fun j x hx => by
    have hj : j = 0 := by
      have := (List.getElem?_eq_some_iff.1 hx).1
      simpa using this
    subst hj
    simp only [List.getElem?_cons_zero, Option.some.injEq] at hx
    subst hx
    simpa using hv) 0 v rfl
  rw [add_blk] at this ⊢
  rw [Nat.mul_one, Nat.add_zero] at this
  rw [Nat.zero_add]
  exact this
theorem whole_l2 (qL : RV 30 1 oL AL nL cL (es.map Ent.v)) (qM : RV 3 1 oM AM nM cM (es.map Ent.k)) (hnM : nM = nL) {m0 i : Nat} (hi : i < nL) (hL : nL ≤ 1000000000000) {x : Ent} (hx : es[i]? = some x) (hc : x.l ∈ cs) (hn : x.n ≤ 1000000000000000)
    (next : ∀ w, OF w0 w ((g, 29, bkv AL nL cL AM nM cM z) :: (oL.toList ++ (oM.toList ++ R))) cs → Bel ws w → weftlaw3_Book_whole.L1 m0 (some ⟨g, 0, none⟩) ((i + 1 : Nat) : Int) w (YesB ws)) :
    ∀ (q j : Nat) (w : World), x.n - j < q → j ≤ x.n → OF w0 w ((g, 29, bkv AL nL cL AM nM cM z) :: (oL.toList ++ (oM.toList ++ R))) cs → Bel ws w → weftlaw3_Book_whole.L2 m0 q (some ⟨g, 0, none⟩) (i : Int) x.A x.n x.c (j : Int) w (YesB ws) := by
  intro q
  induction q with
  | zero => intro j w h; omega
  | succ q ih =>
    intro j w hq hj H hb
    unfold weftlaw3_Book_whole.L2; intros
    rw [weftlaw3_Book_whole.l2_eq]
    refine ifD (fun h1 => ?_) (fun h1 => ?_)
    · refine draws (fun w' => OF w0 w' ((g, 29, bkv AL nL cL AM nM cM z) :: (oL.toList ++ (oM.toList ++ R))) cs) (H.call (Bel.refl w).drew) fun w2 e2 => ?_
      replace H := H.call (Bel.refl w).drew
      rw [← e2] at H
      replace hb := hb.drew
      rw [← e2] at hb
      obtain ⟨a, ha, _⟩ := (H.fz _ hc).1.2 (show 0 < x.n by omega)
      refine ⟨a, ha, ⟨by omega, by omega⟩, _, fun w' h => by rw [Int.toNat_natCast]; exact (h.fz _ hc).1.at1 (show j < x.n by omega) ha, ?_⟩
      refine ⟨_, rfl, AM, nM, cM, fun w' h => h.own.cell 0 1 rfl rfl, ?_⟩
      obtain ⟨a2, ha2, r2⟩ := rv_cell qM (i := i) (by omega) (v := x.k) (by rw [List.getElem?_map, hx]; rfl)
      refine ⟨a2, ha2, ⟨by omega, by omega⟩, x.m, fun w' h => by rw [Int.toNat_natCast]; exact r2 (h.perm (mv2 _ _ _ [] _)).own, ?_⟩
      refine call_of (pat_c x.m (by omega)) ?_
      rintro e w3 ⟨rfl, rfl⟩
      refine ⟨_, rfl, H, ifN (fun h => absurd ?_ h) (fun _ => ?_)⟩
      · show (pt x.m x.n).getD j 0 = _
        rw [List.getD_eq_getElem?_getD, pt_get x.m (by omega)]
        rfl
      refine let_as ((j + 1 : Nat) : Int) (by rw [w64 (by omega) (by omega)]; omega) ?_
      have kk := ih (j + 1) w3 (by omega) (by omega) H hb
      with_reducible apply kk
    · refine let_as ((i + 1 : Nat) : Int) (by rw [w64 (by omega) (by omega)]; omega) ?_
      have kk := next w H hb
      with_reducible apply kk
theorem whole_l1 (qL : RV 30 1 oL AL nL cL (es.map Ent.v)) (qM : RV 3 1 oM AM nM cM (es.map Ent.k)) (hes : es.length = nL) (hnM : nM = nL) (hL : nL ≤ 1000000000000) (hc : ∀ x ∈ es, x.l ∈ cs ∧ x.n ≤ 1000000000000000) :
    ∀ (q i : Nat) (w : World), nL - i < q → i ≤ nL → OF w0 w ((g, 29, bkv AL nL cL AM nM cM z) :: (oL.toList ++ (oM.toList ++ R))) cs → Bel ws w → weftlaw3_Book_whole.L1 q (some ⟨g, 0, none⟩) (i : Int) w (YesB ws) := by
  intro q
  induction q with
  | zero => intro i w h; omega
  | succ q ih =>
    intro i w hq hi H hb
    unfold weftlaw3_Book_whole.L1; intros
    rw [weftlaw3_Book_whole.l1_eq]
    refine ⟨_, rfl, AL, nL, cL, H.own.cell 0 0 rfl rfl, ?_⟩
    refine ifD (fun h1 => ?_) (fun h1 => ⟨rfl, hb⟩)
    have hi2 : i < nL := by omega
    have hx : es[i]? = some es[i] := List.getElem?_eq_getElem (by omega)
    have hxc := hc es[i] (List.getElem_mem _)
    generalize es[i] = x at hx hxc
    refine ⟨_, rfl, AL, nL, cL, H.own.cell 0 0 rfl rfl, ?_⟩
    obtain ⟨a, ha, r⟩ := rv_cell qL hi2 (v := x.v) (by rw [List.getElem?_map, hx]; rfl)
    refine ⟨a, ha, ⟨by omega, by omega⟩, x.A, x.n, x.c, by rw [Int.toNat_natCast]; exact r (H.perm (mv1 _ _ _)).own, ?_⟩
    refine ⟨x.n + 1, ?_⟩
    have kk : weftlaw3_Book_whole.L2 q (x.n + 1) (some ⟨g, 0, none⟩) (i : Int) x.A x.n x.c 0 w (YesB ws) := whole_l2 (z := z) qL qM hnM hi2 hL hx hxc.1 hxc.2 (fun w' H' hb' => ih (i + 1) w' (by omega) (by omega) H' hb') (x.n + 1) 0 w (by omega) (by omega) H hb
    with_reducible apply kk
theorem whole_c {w : World} (qL : RV 30 1 oL AL nL cL (es.map Ent.v)) (qM : RV 3 1 oM AM nM cM (es.map Ent.k)) (hes : es.length = nL) (hnM : nM = nL) (hL : nL ≤ 1000000000000) (hc : ∀ x ∈ es, x.l ∈ cs ∧ x.n ≤ 1000000000000000)
    (H : OF w0 w ((g, 29, bkv AL nL cL AM nM cM z) :: (oL.toList ++ (oM.toList ++ R))) cs) : Calls Try.prog 13 #[.pointer (some ⟨g, 0, none⟩)] w (YesB w) := by
  refine weftlaw3_Book_whole.run ?_
  unfold weftlaw3_Book_whole.s
  refine ⟨nL + 1, ?_⟩
  have kk : weftlaw3_Book_whole.L1 (nL + 1) (some ⟨g, 0, none⟩) 0 w (YesB w) := whole_l1 (z := z) qL qM hes hnM hL hc (nL + 1) 0 w (by omega) (by omega) H (Bel.refl w)
  with_reducible apply kk
end
end Go.Proofs.YtchdcdmdbjkihaaS
