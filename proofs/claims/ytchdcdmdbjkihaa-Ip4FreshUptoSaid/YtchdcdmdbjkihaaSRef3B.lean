/- What behind, Area, Piece and Refused of package weftref3 answer.
   Conditions: bytes are 0 to 255; lists are no longer than memory lets. -/
import Derived.Test.YtchdcdmdbjkihaaSRef3
import Derived.Test.YtchdcdmdbjkihaaSPk
namespace Go.Proofs.YtchdcdmdbjkihaaS
open Go Go.RowKit Go.Proofs Go.Proofs.YtchdcdmdbjkihaaX
set_option maxRecDepth 100000
set_option linter.unusedVariables false
set_option linter.unusedSimpArgs false

theorem behind_l (w : World) {A : Option Addr} {n c : Nat} {l : List Int} (h : By w A n l) (hn : n ≤ 1000000000000) : ∀ (q i : Nat), n - i < q → i ≤ n →
    weftref3_behind.L1 q A n c (i : Int) w (Ret (.int .i64 (if (l.drop i).all (· == 0) = true then (n : Int) else -1)) w) := by
  intro q
  induction q with
  | zero => intro i h; omega
  | succ q ih =>
    intro i hq hi
    have hl := h.len
    unfold weftref3_behind.L1; intros
    rw [weftref3_behind.l1_eq]
    refine ifD (fun h1 => ?_) (fun h1 => ?_)
    · have hlt : i < l.length := by omega
      have hd : l.drop i = l[i] :: l.drop (i + 1) := List.drop_eq_getElem_cons hlt
      have eg : l.getD i 0 = l[i] := by simp [List.getD_eq_getElem?_getD, hlt]
      refine h.rd (by omega) (by omega) fun _ => ?_
      rw [Int.toNat_natCast]
      refine ifN (fun h2 => ?_) (fun h2 => ?_)
      · rw [hd, List.all_cons, ← eg, if_neg (by simp only [Bool.and_eq_true, beq_iff_eq]; exact fun h => h2 h.1)]
        exact ⟨rfl, Bel.refl w⟩
      · refine let_as ((i + 1 : Nat) : Int) (by rw [w64 (by omega) (by omega)]; omega) ?_
        have := ih (i + 1) (by omega) (by omega)
        have e : (l.drop i).all (· == 0) = (l.drop (i + 1)).all (· == 0) := by rw [hd, List.all_cons, ← eg, h2]; rfl
        rw [e]
        apply this
    · have : i = l.length := by omega
      subst this
      rw [List.drop_length, if_pos (show ([] : List Int).all (· == 0) = true from rfl)]
      exact ⟨rfl, Bel.refl w⟩
theorem behind_c {w : World} {A : Option Addr} {n c : Nat} {l : List Int} (h : By w A n l) (hb : Bytes l) (hn : n ≤ 1000000000000) {i : Nat} {j : Int} (hj : j = i) (hi : i < n) : Calls Try.prog 80 #[.slice A n c, .int .i64 j] w (Ret (.int .i64 (bhd l i)) w) := by
  subst hj
  refine weftref3_behind.run ?_
  unfold weftref3_behind.s
  have hl := h.len
  have h0 := hb.getD i
  have h1 := hb.getD (i + 1)
  unfold bhd
  refine h.rd (by omega) (by omega) fun _ => ?_
  rw [Int.toNat_natCast]
  refine ifE (fun h2 => ?_) (fun h2 => ?_)
  · rw [if_pos h2]
    refine let_as ((i + 1 : Nat) : Int) (by rw [w64 (by omega) (by omega)]; omega) ?_
    exact ⟨rfl, Bel.refl w⟩
  rw [if_neg h2]
  refine h.rd (by omega) (by omega) fun _ => ?_
  rw [Int.toNat_natCast]
  refine ifE (fun h3 => ?_) (fun h3 => ?_)
  · rw [if_pos h3]
    refine ⟨n + 1, ?_⟩
    have := behind_l w (c := c) h hn (n + 1) i (by omega) (by omega)
    rw [hl]
    apply this
  rw [if_neg h3]
  refine let_as ((i + 1 : Nat) : Int) (by rw [w64 (by omega) (by omega)]; omega) ?_
  refine ifD (fun h4 => ?_) (fun h4 => ?_)
  · rw [if_pos (by omega)]; exact ⟨rfl, Bel.refl w⟩
  rw [if_neg (by omega)]
  refine let_as ((i + 1 : Nat) : Int) (by rw [w64 (by omega) (by omega)]; omega) ?_
  refine h.rd (by omega) (by omega) fun _ => ?_
  rw [Int.toNat_natCast]
  refine ifD (fun h5 => ?_) (fun h5 => ?_)
  · rw [if_pos h5]; exact ⟨rfl, Bel.refl w⟩
  rw [if_neg h5]
  refine let_as ((i + 1 : Nat) : Int) (by rw [w64 (by omega) (by omega)]; omega) ?_
  refine h.rd (by omega) (by omega) fun _ => ?_
  rw [Int.toNat_natCast]
  refine let_as _ (w64 (by omega) (by omega)) ?_
  refine let_as ((i + (l.getD (i + 1) 0).toNat : Nat) : Int) (by rw [w64 (by omega) (by omega)]; omega) ?_
  refine ifD (fun h6 => ?_) (fun h6 => ?_)
  · rw [if_pos (by omega)]; exact ⟨rfl, Bel.refl w⟩
  rw [if_neg (by omega)]
  refine ⟨?_⟩
  rw [weftref3_behind.j1_eq]
  refine let_as ((i + 1 : Nat) : Int) (by rw [w64 (by omega) (by omega)]; omega) ?_
  refine h.rd (by omega) (by omega) fun _ => ?_
  rw [Int.toNat_natCast]
  refine let_as _ (w64 (by omega) (by omega)) ?_
  refine let_as ((i + (l.getD (i + 1) 0).toNat : Nat) : Int) (by rw [w64 (by omega) (by omega)]; omega) ?_
  exact ⟨rfl, Bel.refl w⟩
theorem area_nil' : area [] = true := by simp [area]
theorem area3_l (w : World) {A : Option Addr} {n c : Nat} {l : List Int} (h : By w A n l) (hb : Bytes l) (hn : n ≤ 1000000000000) : ∀ (q i : Nat) (wa : World), n - i < q → i ≤ n → Bel w wa →
    weftref3_Area.L1 (q + 1) A n c (i : Int) wa (Ret (.bool (area (l.drop i))) w) := by
  intro q
  induction q with
  | zero => intro i wa h; omega
  | succ q ih =>
    intro i wa hq hi hk
    have hl := h.len
    unfold weftref3_Area.L1; intros
    rw [weftref3_Area.l1_eq]
    refine ifD (fun _ => ?_) (fun h => by omega)
    refine ifD (fun h1 => ?_) (fun h1 => ?_)
    · refine ⟨?_⟩
      rw [weftref3_Area.j2_eq]
      refine call_of (behind_c (h.bel hk) hb hn rfl (by omega)) ?_
      rintro e w1 ⟨rfl, k1⟩
      refine ⟨_, rfl, ?_⟩
      rcases area_next (o := l) (i := i) (by omega) with ⟨e1, e2⟩ | ⟨j, e1, e2, e3, e4⟩
      · rw [e1, e2, weftref3_Area.l1_eq]
        refine ifD (fun h => by omega) (fun _ => ?_)
        exact ⟨by rfl, Bel.trans hk k1⟩
      · rw [e1, e4]
        have := ih j w1 (by omega) (by omega) (Bel.trans hk k1)
        apply this
    · have : i = l.length := by omega
      subst this
      rw [List.drop_length, area_nil']
      exact ⟨by rw [decide_eq_true (by omega)], hk⟩
theorem area3_c {w : World} {A : Option Addr} {n c : Nat} {l : List Int} (h : By w A n l) (hb : Bytes l) : Calls Try.prog 79 #[.slice A n c] w (Ret (.bool (oOK l)) w) := by
  refine weftref3_Area.run ?_
  unfold weftref3_Area.s
  have hl := h.len
  refine ifD (fun h1 => ?_) (fun h1 => ?_)
  · have e : oOK l = false := by unfold oOK; rw [decide_eq_false (by omega), Bool.false_and]
    rw [e]; exact ⟨rfl, Bel.refl w⟩
  refine let_as ((n % 4 : Nat) : Int) (by rw [tm (by omega)]; omega) ?_
  refine ifN (fun h2 => ?_) (fun h2 => ?_)
  · have e : oOK l = false := by unfold oOK; rw [decide_eq_false (by omega : ¬ l.length % 4 = 0), Bool.false_and, Bool.and_false]
    rw [e]; exact ⟨rfl, Bel.refl w⟩
  refine ⟨?_⟩
  rw [weftref3_Area.j1_eq]
  refine ⟨n + 2, ?_⟩
  have e : oOK l = area l := by unfold oOK; rw [decide_eq_true (by omega : l.length ≤ 40), decide_eq_true (by omega : l.length % 4 = 0), Bool.true_and, Bool.true_and]
  have := area3_l w (c := c) h hb (by omega) (n + 1) 0 w (by omega) (by omega) (Bel.refl w)
  rw [List.drop_zero] at this
  rw [e]
  apply this
theorem piece_c (w : World) {off body : Int} {mf : Bool} (h0 : 0 ≤ body) (h1 : body ≤ 140737488355328) : Calls Try.prog 81 #[.int .i64 off, .int .i64 body, .bool mf] w (Ret (.bool (ordB off body mf)) w) := by
  refine weftref3_Piece.run ?_
  unfold weftref3_Piece.s
  have no : ¬ (0 ≤ off ∧ off ≤ 65528 ∧ off % 8 = 0 ∧ off + body ≤ 65535) → ordB off body mf = false := fun h => by unfold ordB; rw [decide_eq_false h, Bool.false_and]
  refine ifD (fun h2 => ?_) (fun h2 => ?_)
  · rw [no (by omega)]; exact ⟨rfl, Bel.refl w⟩
  refine ifD (fun h3 => ?_) (fun h3 => ?_)
  · rw [no (by omega)]; exact ⟨rfl, Bel.refl w⟩
  refine let_as _ (tm (by omega)) ?_
  refine ifN (fun h4 => ?_) (fun h4 => ?_)
  · rw [no (by omega)]; exact ⟨rfl, Bel.refl w⟩
  refine let_as _ (w64 (by omega) (by omega)) ?_
  refine ifD (fun h5 => ?_) (fun h5 => ?_)
  · rw [no (by omega)]; exact ⟨rfl, Bel.refl w⟩
  have e : ordB off body mf = (!mf || decide (0 < body ∧ body % 8 = 0)) := by unfold ordB; rw [decide_eq_true (by omega), Bool.true_and]
  rw [e]
  refine ⟨?_⟩
  rw [weftref3_Piece.j1_eq]
  refine ifNot (fun h6 => ?_) (fun h6 => ?_)
  · rw [h6]; exact ⟨rfl, Bel.refl w⟩
  · rw [h6]
    simp only [Bool.not_true, Bool.false_or]
    refine ifD (fun h7 => ?_) (fun h7 => ?_)
    · refine let_as _ (tm (by omega)) ?_
      refine ⟨?_, Bel.refl w⟩
      by_cases h8 : body % 8 = 0
      · rw [decide_eq_true (by omega), h8]; rfl
      · rw [decide_eq_false (by omega), show (body % 8 == 0) = false by simpa using h8]
    · rw [decide_eq_false (by omega)]
      exact ⟨rfl, Bel.refl w⟩
theorem refused_c {w : World} {p : Pk} (h : p.Fine) {A : Option Addr} {n c : Nat} {B : Option Addr} {m d : Nat} (hp : PkAt w p A n c B m d) : Calls Try.prog 67 #[.agg (pb p A n c B m d).toArray] w (Ret (.int .i64 p.err) w) := by
  refine weftref3_Refused.run ?_
  unfold weftref3_Refused.s
  have la := hp.opts.len
  have lb := hp.body.len
  have hlb := h.lb
  have hlo := h.lo
  refine own_new (l := pb p A n c B m d) (Own.refl w) fun g1 w1 H => ?_
  refine ⟨A, n, c, H.cell 0 9 rfl rfl, ?_⟩
  refine call_of (area3_c (hp.opts.bel H.bel) h.opts) ?_
  rintro e w2 ⟨rfl, k2⟩
  replace H := H.call k2
  refine ⟨_, rfl, ?_⟩
  refine ifNot (fun h1 => ?_) (fun h1 => ?_)
  · have e : p.err = 34 := by unfold Pk.err; rw [if_neg (by rw [h1]; decide)]
    rw [e]; exact ⟨rfl, H.bel⟩
  refine ⟨_, H.cell 0 4 rfl rfl, B, m, d, H.cell 0 10 rfl rfl, _, H.cell 0 3 rfl rfl, ?_⟩
  refine call_of (piece_c w2 (by omega) (by omega)) ?_
  rintro e w3 ⟨rfl, k3⟩
  replace H := H.call k3
  refine ⟨_, rfl, ?_⟩
  refine ifNot (fun h2 => ?_) (fun h2 => ?_)
  · have e : p.err = 36 := by unfold Pk.err; rw [if_pos h1, if_neg (by rw [lb, h2]; decide)]
    rw [e]; exact ⟨rfl, H.bel⟩
  refine ⟨A, n, c, H.cell 0 9 rfl rfl, ?_⟩
  refine let_as _ (w64 (by omega) (by omega)) ?_
  refine ⟨B, m, d, H.cell 0 10 rfl rfl, ?_⟩
  refine let_as _ (w64 (by omega) (by omega)) ?_
  refine ifD (fun h3 => ?_) (fun h3 => ?_)
  · have e : p.err = 37 := by unfold Pk.err; rw [if_pos h1, if_pos (by rw [lb]; exact h2), if_neg (by omega)]
    rw [e]; exact ⟨rfl, H.bel⟩
  · have e : p.err = 0 := Pk.err_of h1 (by rw [lb]; exact h2) (by omega)
    rw [e]; exact ⟨rfl, H.bel⟩
end Go.Proofs.YtchdcdmdbjkihaaS
