/- What the small functions, Build and Parse of package weftref6 answer.
   Conditions: bytes are 0 to 255; lists are no longer than memory lets. -/
import Derived.Test.YtchdcdmdbjkihaaDoorSRef3D
import Derived.Test.YtchdcdmdbjkihaaDoorSIcmpC
import Derived.Test.YtchdcdmdbjkihaaDoorSFS
namespace Go.Proofs.YtchdcdmdbjkihaaDoorS
open Go Go.RowKit Go.Proofs Go.Proofs.YtchdcdmdbjkihaaDoorX
set_option maxRecDepth 100000
set_option linter.unusedVariables false
set_option linter.unusedSimpArgs false

section
variable {w a : World} {L : List (Nat × TypeId × List Value)}
/-- A record of zeros is answered through the variable of the result. -/
theorem zero_out (i k : Nat) {g g' : Nat} {t t' : TypeId} {l : List Value} (h : Own w a L) (hi : L[i]? = some (g, t, pb pz none 0 0 none 0 0)) (hk : L[k]? = some (g', t', l)) (hl : l.length = 11) {Q : Ending → World → Prop} {kk : Int}
    (hQ : ∀ w1, Bel w w1 → Q (.returned (.tuple #[.agg (pb pz none 0 0 none 0 0).toArray, .int .i64 kk])) w1) :
    ∃ x0 : Int, ∃ x1 : Int, ∃ x2 : Bool, ∃ x3 : Bool, ∃ x4 : Int, ∃ x5 : Int, ∃ x6 : Int, ∃ x7 : Int, ∃ x8 : Int, ∃ (C : Option Addr) (i j : Nat), ∃ (D : Option Addr) (i' j' : Nat),
      (11 = 11 ∧ At a ⟨g, 0, none⟩ [.int .u8 x0, .int .u16 x1, .bool x2, .bool x3, .int .i64 x4, .int .u8 x5, .int .u8 x6, .int .u32 x7, .int .u32 x8, .slice C i j, .slice D i' j']) ∧
      (May a ⟨g', 0, none⟩ 11 ∧ (Let (putCells a ⟨g', 0, none⟩ [.int .u8 x0, .int .u16 x1, .bool x2, .bool x3, .int .i64 x4, .int .u8 x5, .int .u8 x6, .int .u32 x7, .int .u32 x8, .slice C i j, .slice D i' j'] 0) fun w21 : World =>
      ∃ x0 : Int, ∃ x1 : Int, ∃ x2 : Bool, ∃ x3 : Bool, ∃ x4 : Int, ∃ x5 : Int, ∃ x6 : Int, ∃ x7 : Int, ∃ x8 : Int, ∃ (C : Option Addr) (i j : Nat), ∃ (D : Option Addr) (i' j' : Nat),
      (11 = 11 ∧ At w21 ⟨g', 0, none⟩ [.int .u8 x0, .int .u16 x1, .bool x2, .bool x3, .int .i64 x4, .int .u8 x5, .int .u8 x6, .int .u32 x7, .int .u32 x8, .slice C i j, .slice D i' j']) ∧
      (Q (.returned (.tuple #[.agg #[.int .u8 x0, .int .u16 x1, .bool x2, .bool x3, .int .i64 x4, .int .u8 x5, .int .u8 x6, .int .u32 x7, .int .u32 x8, .slice C i j, .slice D i' j'], .int .i64 kk])) w21))) := by
  refine ld_pkt (h.bk i hi) ?_
  exact put_pkt k h hk hl fun w1 H _ => hQ w1 H.bel
/-- .. a message of zeros .. -/
theorem zero_msg (i k : Nat) {g g' : Nat} {t t' : TypeId} {l : List Value} (h : Own w a L) (hi : L[i]? = some (g, t, mv 0 0 0 none 0 0)) (hk : L[k]? = some (g', t', l)) (hl : l.length = 4) {Q : Ending → World → Prop} {kk : Int}
    (hQ : ∀ w1, Bel w w1 → Q (.returned (.tuple #[.agg (mv 0 0 0 none 0 0).toArray, .int .i64 kk])) w1) :
    ∃ x0 : Int, ∃ x1 : Int, ∃ x2 : Int, ∃ (C : Option Addr) (i j : Nat), (4 = 4 ∧ At a ⟨g, 0, none⟩ [.int .u8 x0, .int .u8 x1, .int .u32 x2, .slice C i j]) ∧
      (May a ⟨g', 0, none⟩ 4 ∧ (Let (putCells a ⟨g', 0, none⟩ [.int .u8 x0, .int .u8 x1, .int .u32 x2, .slice C i j] 0) fun w21 : World =>
      ∃ x0 : Int, ∃ x1 : Int, ∃ x2 : Int, ∃ (C : Option Addr) (i j : Nat), (4 = 4 ∧ At w21 ⟨g', 0, none⟩ [.int .u8 x0, .int .u8 x1, .int .u32 x2, .slice C i j]) ∧
      (Q (.returned (.tuple #[.agg #[.int .u8 x0, .int .u8 x1, .int .u32 x2, .slice C i j], .int .i64 kk])) w21))) := by
  refine ld_msg (h.bk i hi) ?_
  exact put_msg k h hk hl fun w1 H _ => hQ w1 H.bel
/-- .. a header of zeros. -/
theorem zero_head (i k : Nat) {g g' : Nat} {t t' : TypeId} {l : List Value} (h : Own w a L) (hi : L[i]? = some (g, t, hz)) (hk : L[k]? = some (g', t', l)) (hl : l.length = 10) {Q : Ending → World → Prop} {kk : Int}
    (hQ : ∀ w1, Bel w w1 → Q (.returned (.tuple #[.agg hz.toArray, .slice none 0 0, .int .i64 kk])) w1) :
    ∃ x0 : Int, ∃ x1 : Int, ∃ x2 : Bool, ∃ x3 : Bool, ∃ x4 : Int, ∃ x5 : Int, ∃ x6 : Int, ∃ x7 : Int, ∃ x8 : Int, ∃ (C : Option Addr) (i j : Nat),
      (10 = 10 ∧ At a ⟨g, 0, none⟩ [.int .u8 x0, .int .u16 x1, .bool x2, .bool x3, .int .i64 x4, .int .u8 x5, .int .u8 x6, .int .u32 x7, .int .u32 x8, .slice C i j]) ∧
      (May a ⟨g', 0, none⟩ 10 ∧ (Let (putCells a ⟨g', 0, none⟩ [.int .u8 x0, .int .u16 x1, .bool x2, .bool x3, .int .i64 x4, .int .u8 x5, .int .u8 x6, .int .u32 x7, .int .u32 x8, .slice C i j] 0) fun w21 : World =>
      ∃ x0 : Int, ∃ x1 : Int, ∃ x2 : Bool, ∃ x3 : Bool, ∃ x4 : Int, ∃ x5 : Int, ∃ x6 : Int, ∃ x7 : Int, ∃ x8 : Int, ∃ (C : Option Addr) (i j : Nat),
      (10 = 10 ∧ At w21 ⟨g', 0, none⟩ [.int .u8 x0, .int .u16 x1, .bool x2, .bool x3, .int .i64 x4, .int .u8 x5, .int .u8 x6, .int .u32 x7, .int .u32 x8, .slice C i j]) ∧
      (Q (.returned (.tuple #[.agg #[.int .u8 x0, .int .u16 x1, .bool x2, .bool x3, .int .i64 x4, .int .u8 x5, .int .u8 x6, .int .u32 x7, .int .u32 x8, .slice C i j], .slice none 0 0, .int .i64 kk])) w21))) := by
  refine ld_head (h.bk i hi) ?_
  exact put_head k h hk hl fun w1 H _ => hQ w1 H.bel
end

/-! ### tests -/
theorem faulty6_c (w : World) (t : Int) : Calls Tryd.prog 86 #[.int .u8 t] w (Ret (.bool (faultT t)) w) := by
  refine weftref6_faulty.run ?_
  unfold weftref6_faulty.s faultT
  refine ifE (fun h1 => ?_) (fun h1 => ?_)
  · rw [decide_eq_true (by omega)]; exact ⟨rfl, Bel.refl w⟩
  refine ifE (fun h2 => ?_) (fun h2 => ?_)
  · rw [decide_eq_true (by omega)]; exact ⟨rfl, Bel.refl w⟩
  refine ifE (fun h3 => ?_) (fun h3 => ?_)
  · rw [decide_eq_true (by omega)]; exact ⟨rfl, Bel.refl w⟩
  refine ifE (fun h4 => ?_) (fun h4 => ?_)
  · rw [decide_eq_true (by omega)]; exact ⟨rfl, Bel.refl w⟩
  rw [beq_d]
  refine ⟨?_, Bel.refl w⟩
  congr 3
  exact propext ⟨fun h => by omega, fun h => by omega⟩
theorem Plain6_c (w : World) {x : Int} (hx : 0 ≤ x ∧ x ≤ 4294967295) : Calls Tryd.prog 69 #[.int .u32 x] w (Ret (.bool (plainA x)) w) := by
  refine weftref6_Plain.run ?_
  unfold weftref6_Plain.s plainA
  refine let_as x (w64 (by omega) (by omega)) ?_
  refine let_as (x / 16777216) (by rw [td (by omega), w64 (by omega) (by omega)]) ?_
  refine ifN (fun h1 => ?_) (fun h1 => ?_)
  · refine ifN (fun h2 => ?_) (fun h2 => ?_)
    · refine ⟨?_, Bel.refl w⟩
      congr 3
      exact propext ⟨fun h => by omega, fun h => by omega⟩
    · rw [decide_eq_false (by omega)]; exact ⟨rfl, Bel.refl w⟩
  · rw [decide_eq_false (by omega)]; exact ⟨rfl, Bel.refl w⟩
theorem mayB_3 (c x : Int) : mayB 3 c x = if c ≥ 16 then false else if c = 4 then decide (0 ≤ x ∧ x ≤ 65535) else decide (0 ≤ x ∧ x ≤ 0) := by
  unfold mayB
  rw [if_neg (by decide), show codesL.getD (3 : Int).toNat 0 = 16 from rfl]
  by_cases h : c ≥ 16
  · rw [if_pos h, if_pos h]
  rw [if_neg h, if_neg h]
  by_cases h4 : c = 4
  · rw [if_pos h4, if_pos ⟨rfl, h4⟩]
  · rw [if_neg h4, if_neg (fun h => h4 h.2), if_neg (by omega)]
theorem mayB_11 (c x : Int) : mayB 11 c x = if c ≥ 2 then false else decide (0 ≤ x ∧ x ≤ 0) := by
  unfold mayB
  rw [if_neg (by decide), show codesL.getD (11 : Int).toNat 0 = 2 from rfl, if_neg (c := (11 : Int) = 3 ∧ c = 4) (by omega), if_neg (c := (11 : Int) = 12 ∧ c = 0) (by omega)]
theorem mayB_12 (c x : Int) : mayB 12 c x = if c ≥ 3 then false else if c = 0 then decide (0 ≤ x ∧ x ≤ 255) else decide (0 ≤ x ∧ x ≤ 0) := by
  unfold mayB
  rw [if_neg (by decide), show codesL.getD (12 : Int).toNat 0 = 3 from rfl, if_neg (c := (12 : Int) = 3 ∧ c = 4) (by omega)]
  by_cases h : c ≥ 3
  · rw [if_pos h, if_pos h]
  rw [if_neg h, if_neg h]
  by_cases h4 : c = 0
  · rw [if_pos h4, if_pos ⟨rfl, h4⟩]
  · rw [if_neg h4, if_neg (fun h => h4 h.2)]
theorem mayB_no {t c x : Int} (ht : 0 ≤ t) (hc : 0 ≤ c) (h3 : t ≠ 3) (h11 : t ≠ 11) (h12 : t ≠ 12) : mayB t c x = false := by
  unfold mayB
  by_cases h : t ≥ 13
  · rw [if_pos h]
  rw [if_neg h, if_pos]
  have : t = 0 ∨ t = 1 ∨ t = 2 ∨ t = 4 ∨ t = 5 ∨ t = 6 ∨ t = 7 ∨ t = 8 ∨ t = 9 ∨ t = 10 := by omega
  rcases this with rfl | rfl | rfl | rfl | rfl | rfl | rfl | rfl | rfl | rfl <;> exact hc
theorem zero_d (x : Int) : (x == 0) = decide (0 ≤ x ∧ x ≤ 0) := by
  rw [beq_d]
  congr 1
  exact propext ⟨fun h => by omega, fun h => by omega⟩
theorem may6_c (w : World) {t c x : Int} (ht : 0 ≤ t) (hc : 0 ≤ c) : Calls Tryd.prog 68 #[.int .u8 t, .int .u8 c, .int .i64 x] w (Ret (.bool (mayB t c x)) w) := by
  refine weftref6_may.run ?_
  unfold weftref6_may.s
  have rng : ∀ k : Int, (if decide (x ≥ 0) = true then Ret (.bool (decide (x ≤ k))) w (.returned (.bool (decide (x ≤ k)))) w else True) → True := fun _ _ => trivial
  have hi : ∀ (k : Int) {R : Ending → World → Prop}, R (.returned (.bool (decide (0 ≤ x ∧ x ≤ k)))) w → (if decide (x ≥ 0) = true then (R (.returned (.bool (decide (x ≤ k)))) w) else (R (.returned (.bool false)) w)) := by
    intro k R hR
    refine ifD (fun h => ?_) (fun h => ?_)
    · rwa [show decide (x ≤ k) = decide (0 ≤ x ∧ x ≤ k) from by congr 1; exact propext ⟨fun h => by omega, fun h => by omega⟩]
    · rwa [show false = decide (0 ≤ x ∧ x ≤ k) from (decide_eq_false (by omega)).symm]
  have j4 : t ≠ 3 → t ≠ 11 → weftref6_may.J4 t c x (decide (t = 12 ∧ c = 0)) w (Ret (.bool (mayB t c x)) w) := by
    intro h3 h11
    unfold weftref6_may.J4; intros
    rw [weftref6_may.j4_eq]
    refine ifD (fun h => ?_) (fun h => ?_)
    · obtain ⟨rfl, rfl⟩ := h
      refine hi 255 ?_
      rw [mayB_12, if_neg (by decide), if_pos rfl]
      exact ⟨rfl, Bel.refl w⟩
    · refine ifE (fun h5 => ?_) (fun h5 => ?_)
      · subst h5
        rw [mayB_12]
        refine ifD (fun h6 => ?_) (fun h6 => ?_)
        · rw [if_neg (by omega), if_neg (by omega), zero_d]
          exact ⟨rfl, Bel.refl w⟩
        · rw [if_pos (by omega)]
          exact ⟨rfl, Bel.refl w⟩
      · rw [mayB_no ht hc h3 h11 h5]
        exact ⟨rfl, Bel.refl w⟩
  have j3 : t ≠ 3 → weftref6_may.J3 t c x (decide (t = 11 ∧ c ≤ 1)) w (Ret (.bool (mayB t c x)) w) := by
    intro h3
    unfold weftref6_may.J3; intros
    rw [weftref6_may.j3_eq]
    refine ifD (fun h => ?_) (fun h => ?_)
    · obtain ⟨rfl, h1⟩ := h
      rw [mayB_11, if_neg (by omega), zero_d]
      exact ⟨rfl, Bel.refl w⟩
    · have no : t = 11 → mayB t c x = false := fun e => by
        subst e
        rw [mayB_11, if_pos (by omega)]
      by_cases h11 : t = 11
      · rw [no h11]
        subst h11
        refine ifE (fun h => by omega) (fun _ => ?_)
        refine ⟨?_⟩
        rw [weftref6_may.j4_eq]
        refine ifB (fun h => by cases h) (fun _ => ?_)
        refine ifE (fun h => by omega) (fun _ => ?_)
        exact ⟨rfl, Bel.refl w⟩
      · have k := j4 h3 h11
        refine ifE (fun h5 => ?_) (fun h5 => ?_)
        · rw [show decide (t = 12 ∧ c = 0) = (c == 0) from by rw [beq_d]; congr 1; exact propext ⟨fun h => h.2, fun h => ⟨h5, h⟩⟩] at k
          exact ⟨by with_reducible apply k⟩
        · rw [decide_eq_false (by omega)] at k
          exact ⟨by with_reducible apply k⟩
  have j2 : ¬ (t = 3 ∧ c = 4) → weftref6_may.J2 t c x (decide (t = 3 ∧ c ≤ 15)) w (Ret (.bool (mayB t c x)) w) := by
    intro h34
    unfold weftref6_may.J2; intros
    rw [weftref6_may.j2_eq]
    refine ifD (fun h => ?_) (fun h => ?_)
    · obtain ⟨rfl, h1⟩ := h
      rw [mayB_3, if_neg (by omega), if_neg (by omega), zero_d]
      exact ⟨rfl, Bel.refl w⟩
    · by_cases h3 : t = 3
      · subst h3
        have e : mayB 3 c x = false := by rw [mayB_3, if_pos (by omega)]
        rw [e]
        refine ifE (fun h => by omega) (fun _ => ?_)
        refine ⟨?_⟩
        rw [weftref6_may.j3_eq]
        refine ifB (fun h => by cases h) (fun _ => ?_)
        refine ifE (fun h => by omega) (fun _ => ?_)
        refine ⟨?_⟩
        rw [weftref6_may.j4_eq]
        refine ifB (fun h => by cases h) (fun _ => ?_)
        refine ifE (fun h => by omega) (fun _ => ?_)
        exact ⟨rfl, Bel.refl w⟩
      · have k := j3 h3
        refine ifE (fun h5 => ?_) (fun h5 => ?_)
        · rw [show decide (t = 11 ∧ c ≤ 1) = decide (c ≤ 1) from by congr 1; exact propext ⟨fun h => h.2, fun h => ⟨h5, h⟩⟩] at k
          exact ⟨by with_reducible apply k⟩
        · rw [decide_eq_false (by omega)] at k
          exact ⟨by with_reducible apply k⟩
  have j1 : weftref6_may.J1 t c x (decide (t = 3 ∧ c = 4)) w (Ret (.bool (mayB t c x)) w) := by
    unfold weftref6_may.J1; intros
    rw [weftref6_may.j1_eq]
    refine ifD (fun h => ?_) (fun h => ?_)
    · obtain ⟨rfl, rfl⟩ := h
      refine hi 65535 ?_
      rw [mayB_3, if_neg (by decide), if_pos rfl]
      exact ⟨rfl, Bel.refl w⟩
    · have k := j2 h
      refine ifE (fun h5 => ?_) (fun h5 => ?_)
      · rw [show decide (t = 3 ∧ c ≤ 15) = decide (c ≤ 15) from by congr 1; exact propext ⟨fun h => h.2, fun h => ⟨h5, h⟩⟩] at k
        exact ⟨by with_reducible apply k⟩
      · rw [decide_eq_false (by omega)] at k
        exact ⟨by with_reducible apply k⟩
  refine ifE (fun h5 => ?_) (fun h5 => ?_)
  · rw [show decide (t = 3 ∧ c = 4) = (c == 4) from by rw [beq_d]; congr 1; exact propext ⟨fun h => h.2, fun h => ⟨h5, h⟩⟩] at j1
    exact ⟨by with_reducible apply j1⟩
  · rw [decide_eq_false (by omega)] at j1
    exact ⟨by with_reducible apply j1⟩
theorem quiet6_c {w : World} {p : Pk} (h : p.Fine) {A : Option Addr} {n c : Nat} {B : Option Addr} {m d : Nat} (hp : PkAt w p A n c B m d) : Calls Tryd.prog 71 #[.agg (pb p A n c B m d).toArray] w (Ret (.bool (quietP p)) w) := by
  refine weftref6_quiet.run ?_
  unfold weftref6_quiet.s
  refine own_new (l := pb p A n c B m d) (Own.refl w) fun g1 w1 H => ?_
  unfold quietP
  refine ⟨_, H.cell 0 4 rfl rfl, ?_⟩
  refine ifD (fun h1 => ?_) (fun h1 => ?_)
  · rw [decide_eq_true h1]; exact ⟨by simp, H.bel⟩
  rw [decide_eq_false h1]
  refine ⟨_, H.cell 0 7 rfl rfl, ?_⟩
  refine call_of (Plain6_c _ h.src) ?_
  rintro e w2 ⟨rfl, k2⟩
  replace H := H.call k2
  refine ⟨_, rfl, ?_⟩
  refine ifNot (fun h2 => ?_) (fun h2 => ?_)
  · rw [h2]; exact ⟨by simp, H.bel⟩
  rw [h2]
  refine ⟨_, H.cell 0 8 rfl rfl, ?_⟩
  refine call_of (Plain6_c _ h.dst) ?_
  rintro e w3 ⟨rfl, k3⟩
  replace H := H.call k3
  refine ⟨_, rfl, ?_⟩
  refine ifNot (fun h3 => ?_) (fun h3 => ?_)
  · rw [h3]; exact ⟨by simp, H.bel⟩
  rw [h3]
  refine ⟨?_⟩
  rw [weftref6_quiet.j1_eq]
  refine ⟨_, H.cell 0 6 rfl rfl, ?_⟩
  refine ifN (fun h4 => ?_) (fun h4 => ?_)
  · rw [decide_eq_false h4]; exact ⟨by simp, H.bel⟩
  · rw [decide_eq_true h4]
    have lb := hp.body.len
    refine ⟨B, m, d, H.cell 0 10 rfl rfl, ?_⟩
    refine ifE (fun h5 => ?_) (fun h5 => ?_)
    · rw [decide_eq_true (by omega : p.body.length = 0)]; exact ⟨by simp, H.bel⟩
    rw [decide_eq_false (by omega : ¬ p.body.length = 0)]
    refine ⟨B, m, d, H.cell 0 10 rfl rfl, ?_⟩
    refine (hp.body.bel H.bel).rd0 (by omega) fun _ => ?_
    refine call_of (faulty6_c _ _) ?_
    rintro e w4 ⟨rfl, k4⟩
    exact ⟨_, rfl, by simp, H.bel.trans k4⟩

/-! ### messages -/
theorem clone6_l (w : World) {A : Option Addr} {n c : Nat} {l : List Int} (h : By w A n l) (hn : n ≤ 10000000000000) : ∀ (q i : Nat) (wa : World) (B : Option Addr) (d : Nat), n - i < q → i ≤ n → Buf w wa [] B i d (l.take i) →
    weftref6_clone.L1 q A n c B i d (i : Int) wa (RetBy w l) := by
  intro q
  induction q with
  | zero => intro i wa B d h; omega
  | succ q ih =>
    intro i wa B d hq hi hb
    have hl := h.len
    unfold weftref6_clone.L1; intros
    rw [weftref6_clone.l1_eq]
    refine ifD (fun h1 => ?_) (fun h1 => ?_)
    · refine (h.bel hb.own.bel).rd (by omega) (by omega) fun _ => ?_
      rw [Int.toNat_natCast]
      refine buf_lit (m := 1) hb [l.getD i 0] rfl (by omega) fun B' d' wb hb' => ?_
      refine let_as ((i + 1 : Nat) : Int) (by rw [w64 (by omega) (by omega)]; omega) ?_
      have e : l.take i ++ [l.getD i 0] = l.take (i + 1) := by
        rw [List.take_succ_eq_append_getElem (by omega)]
        simp [List.getD_eq_getElem?_getD, show i < l.length by omega]
      rw [e] at hb'
      exact ih (i + 1) wb B' d' (by omega) (by omega) hb' ..
    · have : i = l.length := by omega
      subst this
      rw [List.take_length] at hb
      exact ⟨hb.own.bel, B, d, rfl, hb.by, hb.le, hb.fre⟩
theorem clone6_m {w : World} {A : Option Addr} {n c : Nat} {l : List Int} (h : By w A n l) (hn : n ≤ 10000000000000) :
    Calls Tryd.prog 83 #[.slice A n c] w (fun e w' => Bel w w' ∧ ∃ A' c', e = .returned (.slice A' n c') ∧ By w' A' n l ∧ n ≤ c' ∧ Fre w A') := by
  refine weftref6_clone.run ?_
  unfold weftref6_clone.s
  have hl := h.len
  refine ⟨n + 1, ?_⟩
  intros
  have k := clone6_l w (c := c) h hn (n + 1) 0 w none 0 (by omega) (by omega) (Buf.nil (Own.refl w))
  have e : RetBy w l = fun e w' => Bel w w' ∧ ∃ A' c', e = .returned (.slice A' n c') ∧ By w' A' n l ∧ n ≤ c' ∧ Fre w A' := by
    unfold RetBy
    rw [hl]
  rw [e] at k
  exact k ..
theorem raw6_l {w : World} {q : Ic} {g : Nat} {A : Option Addr} {n c : Nat} (hA : By w A n q.body) (hn : n ≤ 1000000) {F : List Int} (hF : F.length = 8) : ∀ (k i : Nat) (wa : World) (B : Option Addr) (m d : Nat), n - i < k → i ≤ n →
    Buf w wa [(g, 33, mv q.typ q.code q.rest A n c)] B m d (F ++ q.body.take i) → weftref6_raw.L1 k g B m d (i : Int) wa (RetBuf w (F ++ q.body)) := by
  intro k
  induction k with
  | zero => intro i wa B m d h; omega
  | succ k ih =>
    intro i wa B m d hq hi hb
    have hl := hA.len
    have hm := hb.len
    rw [List.length_append, List.length_take] at hm
    unfold weftref6_raw.L1; intros
    rw [weftref6_raw.l1_eq]
    refine ⟨A, n, c, hb.own.cell 0 3 rfl rfl, ?_⟩
    refine ifD (fun h1 => ?_) (fun h1 => ?_)
    · refine ⟨A, n, c, hb.own.cell 0 3 rfl rfl, ?_⟩
      refine (hA.bel hb.own.bel).rd (by omega) (by omega) fun _ => ?_
      rw [Int.toNat_natCast]
      refine buf_lit (m := 1) hb [q.body.getD i 0] rfl (by omega) fun B' d' wb hb' => ?_
      refine let_as ((i + 1 : Nat) : Int) (by rw [w64 (by omega) (by omega)]; omega) ?_
      have e : q.body.take i ++ [q.body.getD i 0] = q.body.take (i + 1) := by
        rw [List.take_succ_eq_append_getElem (by omega)]
        simp [List.getD_eq_getElem?_getD, show i < q.body.length by omega]
      rw [List.append_assoc, e] at hb'
      exact ih (i + 1) wb B' (m + 1) d' (by omega) (by omega) hb' ..
    · have : i = q.body.length := by omega
      subst this
      rw [List.take_length] at hb
      refine ⟨B, d, by rw [hb.len], ?_⟩
      rw [hb.len]
      exact hb.alone
theorem raw6_c {w : World} {q : Ic} (h : q.Fine) (h5 : q.body.length ≤ 65507) {s : Int} (hs : 0 ≤ s ∧ s ≤ 65535) {A : Option Addr} {n c : Nat} (hA : By w A n q.body) :
    Calls Tryd.prog 84 #[.agg (mv q.typ q.code q.rest A n c).toArray, .int .u16 s] w (RetBuf w (q.bytes s)) := by
  refine weftref6_raw.run ?_
  unfold weftref6_raw.s
  have hr := h.rest
  have hl := hA.len
  refine own_new (l := mv q.typ q.code q.rest A n c) (Own.refl w) fun g w1 H => ?_
  refine ⟨_, H.cell 0 2 rfl rfl, ?_⟩
  refine let_as q.rest (w64 (by omega) (by omega)) ?_
  refine ⟨_, H.cell 0 0 rfl rfl, _, H.cell 0 1 rfl rfl, ?_⟩
  refine let_as (s / 256) (by rw [td (by omega), w16 (by omega) (by omega)]) ?_
  refine let_as (s / 256 % 256) (by rw [w8 (by omega) (by omega)]; omega) ?_
  refine let_as (s % 256) (tm (by omega)) ?_
  refine let_as (s % 256) (w8 (by omega) (by omega)) ?_
  refine let_as (q.rest / 16777216) (by rw [td (by omega), w64 (by omega) (by omega)]) ?_
  refine let_as (q.rest / 16777216 % 256) (by rw [w8 (by omega) (by omega)]; omega) ?_
  refine let_as (q.rest / 65536) (by rw [td (by omega), w64 (by omega) (by omega)]) ?_
  refine let_as (q.rest / 65536 % 256) (tm (by omega)) ?_
  refine let_as (q.rest / 65536 % 256) (w8 (by omega) (by omega)) ?_
  refine let_as (q.rest / 256) (by rw [td (by omega), w64 (by omega) (by omega)]) ?_
  refine let_as (q.rest / 256 % 256) (tm (by omega)) ?_
  refine let_as (q.rest / 256 % 256) (w8 (by omega) (by omega)) ?_
  refine let_as (q.rest % 256) (tm (by omega)) ?_
  refine let_as (q.rest % 256) (w8 (by omega) (by omega)) ?_
  refine own_new (l := bv [q.typ, q.code, s / 256 % 256, s % 256, q.rest / 16777216 % 256, q.rest / 65536 % 256, q.rest / 256 % 256, q.rest % 256]) H fun g2 w2 H => ?_
  refine ⟨n + 1, ?_⟩
  have k := raw6_l (c := c) (g := g) hA (by omega) (F := [q.typ, q.code, s / 256 % 256, s % 256, q.rest / 16777216 % 256, q.rest / 65536 % 256, q.rest / 256 % 256, q.rest % 256]) rfl (n + 1) 0 w2 (some ⟨g2, 0, none⟩) 8 8 (by omega) (by omega) (Buf.full H rfl)
  exact k ..
theorem Build6_c {w : World} {q : Ic} (h : q.Fine) {A : Option Addr} {n c : Nat} (ha : By w A n q.body) :
    Calls Tryd.prog 46 #[.agg (mv q.typ q.code q.rest A n c).toArray] w (fun e w' => Bel w w' ∧ if q.body.length ≤ 65507 then ∃ B cap, e = .returned (.tuple #[.slice B (q.bytes q.sum).length cap, .int .i64 0]) ∧ By w' B (q.bytes q.sum).length (q.bytes q.sum) ∧ Fre w B ∧ (q.bytes q.sum).length ≤ cap else e = .returned (.tuple #[.slice none 0 0, .int .i64 37])) := by
  refine weftref6_Build.run ?_
  unfold weftref6_Build.s
  have hl := ha.len
  refine own_new (l := mv q.typ q.code q.rest A n c) (Own.refl w) fun g w1 H => ?_
  refine ⟨A, n, c, H.cell 0 3 rfl rfl, ?_⟩
  refine ifD (fun h1 => ?_) (fun h1 => ?_)
  · refine ⟨H.bel, ?_⟩
    rw [if_neg (by omega)]
  have h5 : q.body.length ≤ 65507 := by omega
  have hs := Ic.sum_range h
  have l0 := Ic.len q 0
  refine ld_msg (H.bk 0 rfl) ?_
  refine call_of (raw6_c h h5 (s := 0) (by omega) (ha.bel H.bel)) ?_
  rintro e w2 ⟨C, j, rfl, b1⟩
  replace H := H.call b1.own.bel
  have y1 := b1.by
  refine ⟨_, _, _, rfl, ?_⟩
  refine own_newB H fun g2 w3 H k3 => ?_
  refine call_of (sum31_c (H.bk 0 rfl) (y1.bel k3) (Ic.bytes_bytes h 0) (by omega) 1) ?_
  rintro e w4 ⟨rfl, k4⟩
  replace H := (H.call k4).tail
  refine ⟨_, rfl, ?_⟩
  refine ld_msg (H.bk 0 rfl) ?_
  have es : 65535 - S (tot true (q.bytes 0)) = q.sum := by
    rw [Ic.tot_bytes q (by omega) (by omega), Int.add_zero]; rfl
  rw [es]
  refine call_of (raw6_c h h5 (s := q.sum) hs (ha.bel H.bel)) ?_
  rintro e w5 ⟨C2, j2, rfl, b2⟩
  refine ⟨_, _, _, rfl, H.bel.trans b2.own.bel, ?_⟩
  rw [if_pos h5]
  exact ⟨C2, j2, rfl, b2.by, b2.fre.le H.bel, b2.le⟩
theorem rest6_l {w wa : World} {A : Option Addr} {n c : Nat} {b : List Int} (h : By w A n b) (hb : Bytes b) (hc : n ≤ c) (h8 : 8 ≤ n) (hn : n ≤ 65515) {g1 g3 : Nat} (H : Own w wa [(g3, 33, mv 0 0 0 none 0 0), (g1, 33, mv 0 0 0 none 0 0)])
    {Q : Ending → World → Prop} (hQ : ∀ w' A' c', Bel w w' → By w' A' (n - 8) (b.drop 8) → n - 8 ≤ c' → Fre w A' → Q (.returned (.tuple #[.agg (mv (b.getD 0 0) (b.getD 1 0) (lg b 4) A' (n - 8) c').toArray, .int .i64 0])) w') :
    weftref6_Parse.L1 5 A n c g1 0 4 wa Q := by
  have hl := h.len
  have c4 := hb.getD 4
  have c5 := hb.getD 5
  have c6 := hb.getD 6
  have c7 := hb.getD 7
  have step : ∀ (k i : Nat) (t t' : Int), i < 8 → 4 ≤ i → 0 ≤ t → t ≤ 16777215 → t' = 256 * t + b.getD i 0 → weftref6_Parse.L1 k A n c g1 t' ((i + 1 : Nat) : Int) wa Q → weftref6_Parse.L1 (k + 1) A n c g1 t (i : Int) wa Q := by
    intro k i t t' h1 h2 h3 h4 et hk
    have ci := hb.getD i
    unfold weftref6_Parse.L1; intros
    rw [weftref6_Parse.l1_eq]
    refine ifD (fun _ => ?_) (fun h => by omega)
    refine let_as (256 * t) (w64 (by omega) (by omega)) ?_
    refine (h.bel H.bel).rd (by omega) (by omega) fun _ => ?_
    rw [Int.toNat_natCast]
    refine let_as _ (w64 (by omega) (by omega)) ?_
    refine let_as t' (by rw [et]; exact w64 (by omega) (by omega)) ?_
    refine let_as ((i + 1 : Nat) : Int) (by rw [w64 (by omega) (by omega)]; omega) ?_
    exact hk ..
  refine step 4 4 0 (b.getD 4 0) (by decide) (by decide) (by decide) (by decide) (by omega) ?_
  refine step 3 5 _ (256 * b.getD 4 0 + b.getD 5 0) (by decide) (by decide) (by omega) (by omega) rfl ?_
  refine step 2 6 _ (256 * (256 * b.getD 4 0 + b.getD 5 0) + b.getD 6 0) (by decide) (by decide) (by omega) (by omega) rfl ?_
  refine step 1 7 _ (lg b 4) (by decide) (by decide) (by omega) (by omega) (by show (b.getD 4 0 * 256 + b.getD 5 0) * 65536 + (b.getD 6 0 * 256 + b.getD 7 0) = _; omega) ?_
  have r4 := lg_range hb 4
  unfold weftref6_Parse.L1; intros
  rw [weftref6_Parse.l1_eq]
  refine ifD (fun h => absurd h (by decide)) (fun _ => ?_)
  refine draws (fun w' => ∃ l, Own w w' [(g3, 33, mv 0 0 0 none 0 0), (g1, 33, l)]) ⟨_, H.drew⟩ fun w2 e2 => ?_
  replace H := H.drew
  rw [← e2] at H
  have hS : ∀ w', (∃ l, Own w w' [(g3, 33, mv 0 0 0 none 0 0), (g1, 33, l)]) → Bel w w' := fun w' ⟨l, h⟩ => h.bel
  refine h.rd0S hS (by omega) fun _ => ?_
  refine h.rdkS hS 1 rfl (by omega) fun _ => ?_
  refine let_as _ (w32 r4.1 r4.2) ?_
  refine ⟨⟨by omega, by omega⟩, ?_⟩
  refine call_of (clone6_m ((h.bel H.bel).cut (k := 8) (m := c) h8 hc) (by omega)) ?_
  rintro e w3 ⟨k3, A', c', rfl, y, l1, r1⟩
  have o1 := H.old 1 rfl r1
  have kw := H.bel
  replace H := H.call k3
  refine ⟨_, _, _, rfl, ⟨_, H⟩, ?_⟩
  refine own_putB 1 H rfl rfl (by decide) fun w4 H u4 => ?_
  refine ⟨⟨_, H⟩, ?_⟩
  refine ld_msg (H.bk 1 rfl) ?_
  exact hQ _ _ _ H.bel (y.but u4 o1) l1 (r1.le kw)
/-- A message that was read, or why not. -/
def RetIc (w : World) (n : Nat) (b : List Int) (e : Ending) (w' : World) : Prop := Bel w w' ∧ if icBad b = 0 then ∃ A' c', e = .returned (.tuple #[.agg (mv (b.getD 0 0) (b.getD 1 0) (lg b 4) A' (n - 8) c').toArray, .int .i64 0]) ∧ By w' A' (n - 8) (b.drop 8) ∧ n - 8 ≤ c' ∧ Fre w A'
      else e = .returned (.tuple #[.agg (mv 0 0 0 none 0 0).toArray, .int .i64 (icBad b)])
theorem Parse6_c {w : World} {A : Option Addr} {n c : Nat} {b : List Int} (h : By w A n b) (hb : Bytes b) (hc : n ≤ c) :
    Calls Tryd.prog 45 #[.slice A n c] w (RetIc w n b) := by
  refine weftref6_Parse.run ?_
  unfold weftref6_Parse.s
  have hl := h.len
  refine own_new (l := mv 0 0 0 none 0 0) (Own.refl w) fun g1 w2 H => ?_
  refine own_new (l := mv 0 0 0 none 0 0) H fun g3 w4 H => ?_
  refine ifD (fun h1 => ?_) (fun h1 => ?_)
  · refine zero_msg 0 1 H rfl rfl rfl fun w5 k5 => ⟨k5, ?_⟩
    have e : icBad b = 30 := by unfold icBad; rw [if_pos (by omega)]
    rw [e, if_neg (by decide)]
  refine ifD (fun h2 => ?_) (fun h2 => ?_)
  · refine zero_msg 0 1 H rfl rfl rfl fun w5 k5 => ⟨k5, ?_⟩
    have e : icBad b = 37 := by unfold icBad; rw [if_neg (by omega), if_pos (by omega)]
    rw [e, if_neg (by decide)]
  refine own_newB H fun g5 w5 H k5 => ?_
  refine call_of (sum31_c (H.bk 0 rfl) (h.bel H.bel) hb (by omega) 1) ?_
  rintro e w6 ⟨rfl, k6⟩
  replace H := (H.call k6).tail
  refine ⟨_, rfl, ?_⟩
  refine ifN (fun h3 => ?_) (fun h3 => ?_)
  · refine zero_msg 0 1 H rfl rfl rfl fun w7 k7 => ⟨k7, ?_⟩
    have e : icBad b = 33 := by unfold icBad; rw [if_neg (by omega), if_neg (by omega), if_pos (by omega)]
    rw [e, if_neg (by decide)]
  have e : icBad b = 0 := by unfold icBad; rw [if_neg (by omega), if_neg (by omega), if_neg (by omega)]
  refine ⟨5, ?_⟩
  exact rest6_l h hb hc (by omega) (by omega) H (fun w' A' c' k y l1 r1 => ⟨k, by rw [if_pos e]; exact ⟨A', c', rfl, y, l1, r1⟩⟩) ..
end Go.Proofs.YtchdcdmdbjkihaaDoorS
