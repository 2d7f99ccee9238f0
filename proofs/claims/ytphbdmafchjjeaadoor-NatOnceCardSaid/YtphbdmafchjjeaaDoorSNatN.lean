/- Package weftlaw23: moves.
   Conditions: the tuple's and the backends' fields are of their kinds; no two backends tie. -/
import Derived.Test.YtphbdmafchjjeaaDoorSNatM
namespace Go.Proofs.YtphbdmafchjjeaaDoorS
open Go Go.RowKit Go.Proofs Go.Proofs.YtphbdmafchjjeaaDoorX
set_option maxRecDepth 100000
set_option linter.unusedVariables false
set_option linter.unusedSectionVars false
set_option linter.unusedSimpArgs false

/-! ### the heaviest one -/
abbrev atB (l : List (Int × Int)) (i : Nat) : Int × Int := l.getD i (0, 0)
/-- The first one of the greatest weight. -/
def Best (t : Tp) (l : List (Int × Int)) (i : Nat) : Prop := i < l.length ∧ (∀ k, k < l.length → wtV t (atB l k) ≤ wtV t (atB l i)) ∧ ∀ k, k < i → wtV t (atB l k) < wtV t (atB l i)
theorem atB_app1 {a b : List (Int × Int)} {k : Nat} (h : k < a.length) : atB (a ++ b) k = atB a k := by
  unfold atB
  rw [List.getD_eq_getElem?_getD, List.getD_eq_getElem?_getD, List.getElem?_append_left h]
theorem atB_app2 {a b : List (Int × Int)} {x : Int × Int} : atB (a ++ x :: b) a.length = x := by
  unfold atB
  rw [List.getD_eq_getElem?_getD, List.getElem?_append_right (Nat.le_refl _), Nat.sub_self]
  rfl
theorem pickG_ok {t : Tp} : ∀ (r pre : List (Int × Int)) (b : Nat), Best t pre b → Best t (pre ++ r) (pickG t r pre.length b (wtV t (atB pre b)))
  | [], pre, b, h => by
    rw [List.append_nil]
    exact h
  | x :: r, pre, b, ⟨h1, h2, h3⟩ => by
    have e : pre ++ x :: r = (pre ++ [x]) ++ r := by simp
    have el : (pre ++ [x]).length = pre.length + 1 := by simp
    have ax : atB (pre ++ [x]) pre.length = x := atB_app2
    have ap : ∀ k, k < pre.length → atB (pre ++ [x]) k = atB pre k := fun k hk => atB_app1 hk
    unfold pickG
    by_cases hx : weightV t x.1 x.2 > wtV t (atB pre b)
    · rw [if_pos hx, e]
      have c1 : ∀ k, k < (pre ++ [x]).length → wtV t (atB (pre ++ [x]) k) ≤ wtV t (atB (pre ++ [x]) pre.length) := fun k hk => by
        rw [ax]
        by_cases h4 : k < pre.length
        · rw [ap k h4]
          exact Int.le_of_lt (Int.lt_of_le_of_lt (h2 k h4) hx)
        · have : k = pre.length := by omega
          rw [this, ax]
          exact Int.le_refl _
      have c2 : ∀ k, k < pre.length → wtV t (atB (pre ++ [x]) k) < wtV t (atB (pre ++ [x]) pre.length) := fun k hk => by
        rw [ax, ap k hk]
        exact Int.lt_of_le_of_lt (h2 k hk) hx
      have := pickG_ok (t := t) r (pre ++ [x]) pre.length ⟨by omega, c1, c2⟩
      rw [el, ax] at this
      exact this
    · rw [if_neg hx, e]
      have c1 : ∀ k, k < (pre ++ [x]).length → wtV t (atB (pre ++ [x]) k) ≤ wtV t (atB (pre ++ [x]) b) := fun k hk => by
        rw [ap b h1]
        by_cases h4 : k < pre.length
        · rw [ap k h4]
          exact h2 k h4
        · have : k = pre.length := by omega
          rw [this, ax]
          exact Int.not_lt.1 hx
      have c2 : ∀ k, k < b → wtV t (atB (pre ++ [x]) k) < wtV t (atB (pre ++ [x]) b) := fun k hk => by
        rw [ap b h1, ap k (by omega)]
        exact h3 k hk
      have := pickG_ok (t := t) r (pre ++ [x]) b ⟨by omega, c1, c2⟩
      rw [el, ap b h1] at this
      exact this
theorem pickV_ok {t : Tp} {l : List (Int × Int)} (h : 0 < l.length) : Best t l (pickV t l) := by
  cases l with
  | nil => simp at h
  | cons x r =>
    have := pickG_ok (t := t) r [x] 0 ⟨by simp, fun k hk => by
      have : k = 0 := by simpa using hk
      rw [this]
      exact Int.le_refl _, fun k hk => by omega⟩
    exact this
theorem atB_mem {l : List (Int × Int)} {i : Nat} (h : i < l.length) : atB l i ∈ l := by
  unfold atB
  rw [List.getD_eq_getElem?_getD, List.getElem?_eq_getElem h]
  exact List.getElem_mem _
theorem mem_atB {l : List (Int × Int)} {x : Int × Int} (h : x ∈ l) : ∃ i, i < l.length ∧ atB l i = x := by
  obtain ⟨i, hi⟩ := List.mem_iff_getElem?.1 h
  refine ⟨i, (List.getElem?_eq_some_iff.1 hi).1, ?_⟩
  unfold atB
  rw [List.getD_eq_getElem?_getD, hi]
  rfl
theorem Best.mem {t : Tp} {l : List (Int × Int)} {i : Nat} (h : Best t l i) {x : Int × Int} (hx : x ∈ l) : wtV t x ≤ wtV t (atB l i) := by
  obtain ⟨k, hk, e⟩ := mem_atB hx
  rw [← e]
  exact h.2.1 k hk
/-- One taken out. -/
theorem few {t : Tp} {l : List (Int × Int)} {x : Int × Int} (hu : Unt t (l ++ [x])) {i m j : Nat} (hi : Best t l i) (hj : Best t (l.eraseIdx m) j) (hm : m ≠ i) : atB (l.eraseIdx m) j = atB l i := by
  have h1 : atB (l.eraseIdx m) j ∈ l := List.mem_of_mem_eraseIdx (atB_mem hj.1)
  have h2 : atB l i ∈ l.eraseIdx m := List.mem_eraseIdx_iff_getElem?.2 ⟨i, Ne.symm hm, by
    unfold atB
    rw [List.getD_eq_getElem?_getD, List.getElem?_eq_getElem hi.1]
    rfl⟩
  have h3 := hi.mem h1
  have h4 := hj.mem h2
  exact hu _ (List.mem_append.2 (Or.inl h1)) _ (List.mem_append.2 (Or.inl (atB_mem hi.1))) (Int.le_antisymm h3 h4)
/-- One put in. -/
theorem more1 {t : Tp} {l : List (Int × Int)} {x : Int × Int} (hu : Unt t (l ++ [x])) {i k : Nat} (hi : Best t l i) (hk : Best t (x :: l.reverse) k) (hx : atB (x :: l.reverse) k ≠ x) : atB (x :: l.reverse) k = atB l i := by
  have h1 := atB_mem hk.1
  have h2 : atB (x :: l.reverse) k ∈ l := by
    rcases List.mem_cons.1 h1 with h | h
    · exact absurd h hx
    · exact List.mem_reverse.1 h
  have h3 := hi.mem h2
  have h4 := hk.mem (List.mem_cons_of_mem _ (List.mem_reverse.2 (atB_mem hi.1)))
  exact hu _ (List.mem_append.2 (Or.inl h2)) _ (List.mem_append.2 (Or.inl (atB_mem hi.1))) (Int.le_antisymm h3 h4)
theorem pair_eta (x : Int × Int) : ((x.1, x.2) : Int × Int) = x := rfl

/-! ### the walk -/
section
variable {w0 : World} {t : Tp} {A : Option Addr} {n c : Nat} {l : List (Int × Int)} {x : Int × Int} (hB : Bks w0 A n l) (hc : n ≤ c) (h0 : 0 < n) (hn : n ≤ 256) (hu : Unt t (l ++ [x])) {i : Nat} (hi : Best t l i) {g4 g7 : Nat}
include hB hc h0 hn hu hi
theorem moves_j6 {w : World} {B : Option Addr} {m d k : Nat} {L : List (Int × Int)} (hL : Bks w B m L) (hk : Best t L k) (hm : n ≤ 255 → L = x :: l.reverse) (kb : Bel w0 w) (b7 : Bk w g7 28 (bkd x)) : weftlaw23_moves.J6 A n c g7 (i : Int) B m d (k : Int) w (Yes w0) := by
  have hl := hB.1
  have hLl := hL.1
  unfold weftlaw23_moves.J6; intros
  rw [weftlaw23_moves.j6_eq]
  refine draws (fun w' => Bel w w') (Bel.refl w).drew fun w2 e2 => ?_
  have k2 : Bel w w2 := by rw [e2]; exact (Bel.refl w).drew
  refine ifD (fun h => ⟨rfl, Bel.trans kb k2⟩) (fun h => ?_)
  have eL := hm (by omega)
  subst eL
  obtain ⟨a, ea, ha⟩ := hL.rd (i := k) (by have := hk.1; omega)
  refine ⟨a, ea, ⟨by omega, by have := hk.1; omega⟩, _, _, ⟨rfl, fun w' h => ha.bel h⟩, ?_⟩
  refine ⟨_, _, ⟨rfl, fun w' h => (b7.bel h).at⟩, ?_⟩
  rw [eqV_bk]
  refine ifB (fun h => ⟨rfl, Bel.trans kb k2⟩) (fun h1 => ?_)
  have hx : atB (x :: l.reverse) k ≠ x := fun e => by
    have : decide (((((x :: l.reverse).getD k (0, 0)).1, ((x :: l.reverse).getD k (0, 0)).2) : Int × Int) = (x.1, x.2)) = true := decide_eq_true (by rw [pair_eta, pair_eta]; exact e)
    rw [this] at h1
    cases h1
  have e := more1 hu hi hk hx
  refine ⟨a, ea, ⟨by omega, by have := hk.1; omega⟩, _, _, ⟨rfl, fun w' h => ha.bel h⟩, ?_⟩
  obtain ⟨a2, ea2, ha2⟩ := hB.rd (i := i) (by have := hi.1; omega)
  refine ⟨a2, ea2, ⟨by omega, by have := hi.1; omega⟩, _, _, ⟨rfl, fun w' h => (ha2.bel kb).bel h⟩, ?_⟩
  rw [eqV_bk]
  refine ⟨?_, Bel.trans kb k2⟩
  have : decide (((((x :: l.reverse).getD k (0, 0)).1, ((x :: l.reverse).getD k (0, 0)).2) : Int × Int) = ((l.getD i (0, 0)).1, (l.getD i (0, 0)).2)) = true := decide_eq_true (by rw [pair_eta, pair_eta]; exact e)
  rw [this]
theorem moves_j5 {w : World} {B : Option Addr} {m d : Nat} {L : List (Int × Int)} (hL : Bks w B m L) (hd : m ≤ d) (hm0 : 0 < m) (hm1 : m ≤ 256) (hm : n ≤ 255 → L = x :: l.reverse) (kb : Bel w0 w) (b7 : Bk w g7 28 (bkd x)) (b4 : Bk w g4 32 (tpv t)) :
    weftlaw23_moves.J5 A n c g4 g7 (i : Int) B m d w (Yes w0) := by
  have hLl := hL.1
  unfold weftlaw23_moves.J5; intros
  rw [weftlaw23_moves.j5_eq]
  refine ⟨_, _, _, _, _, ⟨rfl, b4.at⟩, ?_⟩
  refine call_of (Pick_c (t := t) hL hd) ?_
  rintro e w1 ⟨rfl, k1⟩
  refine ⟨_, _, rfl, ?_⟩
  have e1 : pickE L = 0 := by unfold pickE; rw [if_neg (by omega), if_neg (by omega)]
  have e2 : pickI t L = (pickV t L : Nat) := by unfold pickI; rw [if_neg (by omega), if_neg (by omega)]
  have hk := pickV_ok (t := t) (l := L) (by omega)
  rw [e1, e2]
  generalize pickV t L = k at hk
  refine ifN (fun h => absurd rfl h) (fun _ => ?_)
  refine ifF (by omega) ?_
  refine ifF (by have := hk.1; omega) ?_
  have kk := moves_j6 (d := d) hB hc h0 hn hu hi (hL.bel k1) hk hm (Bel.trans kb k1) (b7.bel k1)
  exact ⟨by with_reducible apply kk⟩
theorem moves_l2 {M : List Blk} (m7 : ((g7, 28, bkd x) : Blk) ∈ M) (m4 : ((g4, 32, tpv t) : Blk) ∈ M) : ∀ (q j : Nat) (w : World) (B : Option Addr) (d : Nat), j < q → j ≤ n → 1 + (n - j) ≤ 256 → BL w0 w M B (1 + (n - j)) d (x :: (l.drop j).reverse) →
    weftlaw23_moves.L2 q A n c g4 g7 (i : Int) B (1 + (n - j)) d ((j : Int) - 1) w (Yes w0) := by
  have hl := hB.1
  intro q
  induction q with
  | zero => intro j w B d hq; omega
  | succ q ih =>
    intro j w B d hq hj hlen b
    unfold weftlaw23_moves.L2; intros
    rw [weftlaw23_moves.l2_eq]
    have b7 : Bk w g7 28 (bkd x) := memB b.own (p := (g7, 28, bkd x)) m7
    have b4 : Bk w g4 32 (tpv t) := memB b.own (p := (g4, 32, tpv t)) m4
    have bb := b.bks
    have fin : (n ≤ 255 → j = 0) → weftlaw23_moves.J5 A n c g4 g7 (i : Int) B (1 + (n - j)) d w (Yes w0) := fun hz =>
      moves_j5 hB hc h0 hn hu hi bb.1 bb.2 (by omega) hlen (fun h => by rw [hz h, List.drop_zero]) b.own.bel b7 b4
    refine ifD (fun h1 => ?_) (fun h1 => ?_)
    · refine ifD (fun h2 => ?_) (fun h2 => ?_)
      · obtain ⟨j, rfl⟩ : ∃ k, j = k + 1 := ⟨j - 1, by omega⟩
        have hj2 : j < n := by omega
        have k4 : weftlaw23_moves.J4 q A n c g4 g7 (i : Int) B (1 + (n - (j + 1))) d (((j + 1 : Nat) : Int) - 1) w (Yes w0) := by
          unfold weftlaw23_moves.J4; intros
          rw [weftlaw23_moves.j4_eq]
          have ej : (((j + 1 : Nat) : Int) - 1) = (j : Int) := by omega
          rw [ej, Int.toNat_natCast]
          obtain ⟨a, ea, hat⟩ := hB.rd hj2
          refine ⟨a, ea, ⟨by omega, by omega⟩, _, _, ⟨rfl, hat.bel b.own.bel⟩, ?_⟩
          refine let_as w.heap.size rfl (let_as (w.alloc (.cells (bkd (l.getD j (0, 0))).toArray 28)) rfl ?_)
          refine bl_app (b.call ((Bel.refl w).alloc _)) (Bk.new w _ _).at (by omega) fun B' d' wb b' => ?_
          refine let_as ((j : Int) - 1) (w64 (by omega) (by omega)) ?_
          have e : (x :: (l.drop (j + 1)).reverse) ++ [l.getD j (0, 0)] = x :: (l.drop j).reverse := by
            rw [List.drop_eq_getElem_cons (by omega : j < l.length), List.reverse_cons, List.getD_eq_getElem?_getD, List.getElem?_eq_getElem (by omega)]
            rfl
          have el : 1 + (n - (j + 1)) + 1 = 1 + (n - j) := by omega
          rw [e, el] at b'
          rw [el]
          exact ih j wb B' d' (by omega) (by omega) (by omega) b' ..
        exact ⟨by with_reducible apply k4⟩
      · have k := fin (fun h => by omega)
        exact ⟨by with_reducible apply k⟩
    · have k := fin (fun _ => by omega)
      exact ⟨by with_reducible apply k⟩
theorem moves_j3 {w : World} {M : List Blk} (H : Own w0 w M) (m7 : ((g7, 28, bkd x) : Blk) ∈ M) (m4 : ((g4, 32, tpv t) : Blk) ∈ M) : weftlaw23_moves.J3 A n c g4 g7 (i : Int) w (Yes w0) := by
  have hl := hB.1
  unfold weftlaw23_moves.J3; intros
  rw [weftlaw23_moves.j3_eq]
  have b7 : Bk w g7 28 (bkd x) := memB H (p := (g7, 28, bkd x)) m7
  refine ⟨_, _, ⟨rfl, b7.at⟩, ?_⟩
  refine let_as w.heap.size rfl (let_as (w.alloc (.cells (bkd x).toArray 28)) rfl ?_)
  refine bl_app (BL.nil (H.call ((Bel.refl w).alloc _))) (Bk.new w _ _).at (by decide) fun B d wb b => ?_
  refine let_as ((n : Int) - 1) (w64 (by omega) (by omega)) ?_
  refine ⟨n + 1, ?_⟩
  have e : 1 + (n - n) = 0 + 1 := by omega
  have k := moves_l2 (w0 := w0) hB hc h0 hn hu hi m7 m4 (n + 1) n wb B d (by omega) (Nat.le_refl n) (by omega) (by rw [e, List.drop_eq_nil_of_le (by omega)]; exact b)
  rw [e] at k
  exact k ..
theorem moves_j2 {w : World} {M : List Blk} (H : Own w0 w M) (m7 : ((g7, 28, bkd x) : Blk) ∈ M) (m4 : ((g4, 32, tpv t) : Blk) ∈ M) {out : Int} (ho : 0 ≤ out) : weftlaw23_moves.J2 A n c out g4 g7 (i : Int) w (Yes w0) := by
  have hl := hB.1
  have hm : (out % n).toNat < n := by
    have := Int.emod_lt_of_pos out (by omega : (0 : Int) < n)
    have := Int.emod_nonneg out (by omega : (n : Int) ≠ 0)
    omega
  unfold weftlaw23_moves.J2; intros
  rw [weftlaw23_moves.j2_eq]
  refine ⟨by omega, ?_⟩
  refine let_as (((out % n).toNat : Nat) : Int) (by rw [tm ho, Int.toNat_of_nonneg (Int.emod_nonneg out (by omega))]) ?_
  generalize (out % n).toNat = m at hm
  refine call_of (without_c (hB.bel H.bel) (by omega) m) ?_
  rintro e w2 ⟨A4, c4, rfl, b⟩
  refine ⟨_, _, _, rfl, ?_⟩
  have b2 := BL.join H b
  have lf : (l.eraseIdx m).length = n - 1 := by rw [List.length_eraseIdx_of_lt (by omega), hl]
  have b4 : Bk w2 g4 32 (tpv t) := memB b2.own (p := (g4, 32, tpv t)) m4
  refine ⟨_, _, _, _, _, ⟨rfl, b4.at⟩, ?_⟩
  have bb := b2.bks
  refine call_of (Pick_c (t := t) bb.1 bb.2) ?_
  rintro e w3 ⟨rfl, k3⟩
  refine ⟨_, _, rfl, ?_⟩
  replace b2 := b2.call k3
  refine ifE (fun h1 => ?_) (fun h1 => ?_)
  · have e1 : pickE (l.eraseIdx m) = 232 := by unfold pickE; rw [if_neg (by omega), if_pos (by omega)]
    rw [e1]
    exact ⟨rfl, b2.own.bel⟩
  have e1 : pickE (l.eraseIdx m) = 0 := by unfold pickE; rw [if_neg (by omega), if_neg (by omega)]
  have e2 : pickI t (l.eraseIdx m) = (pickV t (l.eraseIdx m) : Nat) := by unfold pickI; rw [if_neg (by omega), if_neg (by omega)]
  have hk := pickV_ok (t := t) (l := l.eraseIdx m) (by omega)
  rw [e1, e2]
  generalize pickV t (l.eraseIdx m) = k at hk
  have k4 : Bel w3 w3.drew := (Bel.refl w3).drew
  refine draws (fun w' => Bel w3 w') k4 fun w4 e4 => ?_
  rw [← e4] at k4
  have b5 := b2.call k4
  refine ifN (fun h => absurd rfl h) (fun _ => ?_)
  refine ifF (by omega) ?_
  refine ifF (by have := hk.1; omega) ?_
  have fin := moves_j3 (w0 := w0) hB hc h0 hn hu hi b5.own m7 m4
  refine ifN (fun h2 => ?_) (fun h2 => ?_)
  · obtain ⟨a, ea, ha⟩ := b2.bks.1.rd hk.1
    refine ⟨a, ea, ⟨by omega, by have := hk.1; omega⟩, _, _, ⟨rfl, fun w' h => ha.bel h⟩, ?_⟩
    obtain ⟨a2, ea2, ha2⟩ := hB.rd (i := i) (by have := hi.1; omega)
    refine ⟨a2, ea2, ⟨by omega, by have := hi.1; omega⟩, _, _, ⟨rfl, fun w' h => (ha2.bel b2.own.bel).bel h⟩, ?_⟩
    rw [eqV_bk]
    have e := few hu hi hk (fun e => h2 (by rw [e]))
    have ed : decide (((((l.eraseIdx m).getD k (0, 0)).1, ((l.eraseIdx m).getD k (0, 0)).2) : Int × Int) = ((l.getD i (0, 0)).1, (l.getD i (0, 0)).2)) = true := decide_eq_true (by rw [pair_eta, pair_eta]; exact e)
    refine ifNot (fun h => ?_) (fun _ => ?_)
    · exact absurd (ed.symm.trans h) (by decide)
    · exact ⟨by with_reducible apply fin⟩
  · exact ⟨by with_reducible apply fin⟩
theorem moves_l1 {M : List Blk} (m7 : ((g7, 28, bkd x) : Blk) ∈ M) (m4 : ((g4, 32, tpv t) : Blk) ∈ M) {out : Int} (ho : -9223372036854775808 ≤ out ∧ out ≤ 9223372036854775807) : ∀ (q j : Nat) (w : World), i - j < q → j ≤ i → Own w0 w M → weftlaw23_moves.L1 q A n c out g4 g7 (i : Int) (j : Int) w (Yes w0) := by
  have hl := hB.1
  have hin := hi.1
  intro q
  induction q with
  | zero => intro j w hq; omega
  | succ q ih =>
    intro j w hq hj H
    unfold weftlaw23_moves.L1; intros
    rw [weftlaw23_moves.l1_eq]
    refine ifD (fun h1 => ?_) (fun h1 => ?_)
    · refine draws (fun w' => Bel w0 w') H.bel.drew fun w2 e2 => ?_
      have H2 : Own w0 w2 M := by rw [e2]; exact H.drew
      obtain ⟨a, ea, ha⟩ := hB.rd (i := j) (by omega)
      obtain ⟨a2, ea2, ha2⟩ := hB.rd (i := i) (by omega)
      refine ⟨a, ea, ⟨by omega, by omega⟩, _, _, ⟨rfl, fun w' h => ha.bel h⟩, ?_⟩
      refine ⟨a2, ea2, ⟨by omega, by omega⟩, _, _, ⟨rfl, fun w' h => ha2.bel h⟩, ?_⟩
      rw [eqV_bk]
      refine ifB (fun h => ?_) (fun _ => ?_)
      · have e : atB l j = atB l i := of_decide_eq_true h
        have := hi.2.2 j (by omega)
        rw [e] at this
        exact absurd this (Int.lt_irrefl _)
      · refine let_as ((j + 1 : Nat) : Int) (by rw [w64 (by omega) (by omega)]; omega) ?_
        exact ih (j + 1) w2 (by omega) (by omega) H2 ..
    · refine ifD (fun h2 => ?_) (fun h2 => ?_)
      · refine let_as (out + 1) (w64 (by omega) (by omega)) ?_
        refine let_as (0 - (out + 1)) (w64 (by omega) (by omega)) ?_
        have k := moves_j2 (w0 := w0) hB hc h0 hn hu hi H m7 m4 (out := 0 - (out + 1)) (by omega)
        exact ⟨by with_reducible apply k⟩
      · have k := moves_j2 (w0 := w0) hB hc h0 hn hu hi H m7 m4 (out := out) (by omega)
        exact ⟨by with_reducible apply k⟩
end
theorem moves_c {w : World} {t : Tp} {A : Option Addr} {n c : Nat} {l : List (Int × Int)} {x : Int × Int} (hB : Bks w A n l) (hc : n ≤ c) (hu : n ≤ 256 → Unt t (l ++ [x])) {out : Int} (ho : -9223372036854775808 ≤ out ∧ out ≤ 9223372036854775807) :
    Calls Tryd.prog 9 #[.agg (tpv t).toArray, .slice A n c, .int .i64 out, .agg (bkd x).toArray] w (Yes w) := by
  have hl := hB.1
  refine weftlaw23_moves.run ?_
  unfold weftlaw23_moves.s
  refine own_new (l := tpv t) (Own.refl w) fun g1 w1 H => ?_
  refine own_new (l := bkd x) H fun g3 w4 H => ?_
  refine ⟨_, _, _, _, _, ⟨rfl, (H.bk 1 rfl).at⟩, ?_⟩
  refine call_of (Pick_c (t := t) (hB.bel H.bel) hc) ?_
  rintro e w5 ⟨rfl, k5⟩
  refine ⟨_, _, rfl, ?_⟩
  replace H := H.call k5
  refine ifD (fun h1 => ?_) (fun h1 => ?_)
  · have e1 : pickE l = 2 := by unfold pickE; rw [if_pos (by omega)]
    have e2 : pickI t l = 0 := by unfold pickI; rw [if_pos (by omega)]
    rw [e1, e2]
    exact ifE (fun _ => ⟨rfl, H.bel⟩) (fun h => absurd rfl h)
  refine ifE (fun h2 => ?_) (fun h2 => ?_)
  · have e1 : pickE l = 232 := by unfold pickE; rw [if_neg (by omega), if_pos (by omega)]
    have e2 : pickI t l = 0 := by unfold pickI; rw [if_neg (by omega), if_pos (by omega)]
    rw [e1, e2]
    exact ifE (fun _ => ⟨rfl, H.bel⟩) (fun h => absurd rfl h)
  have e1 : pickE l = 0 := by unfold pickE; rw [if_neg (by omega), if_neg (by omega)]
  have e2 : pickI t l = (pickV t l : Nat) := by unfold pickI; rw [if_neg (by omega), if_neg (by omega)]
  have hi := pickV_ok (t := t) (l := l) (by omega)
  rw [e1, e2]
  generalize pickV t l = i at hi
  refine ifN (fun h => absurd rfl h) (fun _ => ?_)
  refine ifF (by omega) ?_
  refine ifF (by have := hi.1; omega) ?_
  refine ⟨?_⟩
  have j1 : weftlaw23_moves.J1 A n c out g1 g3 (i : Int) w5 (Yes w) := by
    unfold weftlaw23_moves.J1; intros
    rw [weftlaw23_moves.j1_eq]
    refine ⟨i + 1, ?_⟩
    have k := moves_l1 (w0 := w) (x := x) hB hc (by omega) (by omega) (hu (by omega)) hi (g4 := g1) (g7 := g3) (M := [(g3, 28, bkd x), (g1, 32, tpv t)]) (by simp) (by simp) ho (i + 1) 0 w5 (by omega) (by omega) H
    exact k ..
  exact j1 ..
end Go.Proofs.YtphbdmafchjjeaaDoorS
