/- Package nat: may, putAddr, quoted.
   Conditions: bytes are 0 to 255; a packet's fields are of their kinds. -/
import Derived.Test.YtphbdmafchjjeaaDoorHSNatF
import Derived.Test.YtphbdmafchjjeaaDoorHSFO2
namespace Go.Proofs.YtphbdmafchjjeaaDoorS
open Go Go.RowKit Go.Proofs Go.Proofs.YtphbdmafchjjeaaDoorX
set_option maxRecDepth 100000
set_option linter.unusedVariables false
set_option linter.unusedSectionVars false
set_option linter.unusedSimpArgs false

def mayT (t : Int) : Bool := decide (t = 3 ∨ t = 11 ∨ t = 12)
theorem nmay_c (w : World) (t : Int) : Calls Tryd.prog 59 #[.int .u8 t] w (Ret (.bool (mayT t)) w) := by
  refine nat_may.run ?_
  unfold nat_may.s mayT
  refine ifE (fun h => ⟨by rw [decide_eq_true (Or.inl h)], Bel.refl w⟩) (fun h1 => ?_)
  refine ifE (fun h => ⟨by rw [decide_eq_true (Or.inr (Or.inl h))], Bel.refl w⟩) (fun h2 => ?_)
  refine ⟨?_, Bel.refl w⟩
  by_cases h3 : t = 12
  · rw [decide_eq_true (Or.inr (Or.inr h3)), h3]
    rfl
  · rw [decide_eq_false (by omega), show (t == 12) = false from beq_eq_false_iff_ne.2 h3]
theorem puta_c {w0 w : World} {M : List Blk} {cs : List Lst} {g o n c : Nat} {pre b post : List Int} (H : OF w0 w ((g, 5, bv (pre ++ (b ++ post))) :: M) cs) (ho : pre.length = o) (hn : b.length = n) {i : Nat} {j a : Int} (hj : j = i) (hi : i + 3 < n) (hm : n ≤ 1000000000000000) (ha : 0 ≤ a ∧ a ≤ 4294967295) :
    Calls Tryd.prog 60 #[.slice (some ⟨g, o, none⟩) n c, .int .i64 j, .int .u32 a] w fun e w' => e = .returned (.tuple #[]) ∧ OF w0 w' ((g, 5, bv (pre ++ (setw (setw b i (a / 65536)) (i + 2) (a % 65536) ++ post))) :: M) cs := by
  refine nat_putAddr.run ?_
  unfold nat_putAddr.s
  subst hj
  refine let_as (a / 65536) (fd _ (by decide)) ?_
  refine let_as (a / 65536) (w16 (by omega) (by omega)) ?_
  refine call_of (putw_c H ho hn (i := i) rfl (by omega) hm (by omega)) ?_
  rintro e w3 ⟨rfl, H3⟩
  refine ⟨rfl, ?_⟩
  refine let_as ((i + 2 : Nat) : Int) (by rw [w64 (by omega) (by omega)]; omega) ?_
  refine let_as (a % 65536) (by rw [IntKind.wrap_u16]) ?_
  refine call_of (putw_c H3 ho (by rw [setw_len]; exact hn) (i := i + 2) rfl (by omega) hm (by omega)) ?_
  rintro e w7 ⟨rfl, H7⟩
  exact ⟨rfl, rfl, H7⟩
/-- Has what is quoted a tuple? Which? -/
def quB (p : Pk) (q : List Int) : Bool := decide (p.off = 0 ∧ 8 ≤ q.length ∧ (p.proto = 6 ∨ p.proto = 17 ∨ (p.proto = 1 ∧ (q.getD 0 0 = 8 ∨ q.getD 0 0 = 0) ∧ q.getD 1 0 = 0)))
def quT1 (p : Pk) (q : List Int) : Tp := if p.proto = 1 then ⟨p.src, p.dst, p.proto, wd q 4, wd q 4⟩ else ⟨p.src, p.dst, p.proto, wd q 0, wd q 2⟩
def quT (p : Pk) (q : List Int) : Tp := if quB p q = true then quT1 p q else tpz
def RetQu (w : World) (p : Pk) (q : List Int) : Ending → World → Prop := Ret (.tuple #[.agg (tpv (quT p q)).toArray, .bool (quB p q)]) w
section
variable {w0 : World} {p : Pk} {q : List Int} {A : Option Addr} {n c : Nat} {B : Option Addr} {m d : Nat} (y : By w0 B m q) (hb : Bytes q) (hm : m ≤ 1000000000000000) {g1 g3 g6 : Nat}
theorem quo_no (h : quB p q = false) {w : World} {L : List Blk} (K : Own w0 w L) (k : Nat) (hk : L[k]? = some (g3, 32, tpv tpz)) :
    May w ⟨g3, 0, none⟩ 5 ∧ Let (putCells w ⟨g3, 0, none⟩ (tpv tpz) 0) fun w6 : World =>
      ∃ x7 : Int, ∃ x8 : Int, ∃ x9 : Int, ∃ x10 : Int, ∃ x11 : Int, (5 = 5 ∧ At w6 ⟨g3, 0, none⟩ [.int .u32 x7, .int .u32 x8, .int .u8 x9, .int .u16 x10, .int .u16 x11]) ∧
      RetQu w0 p q (.returned (.tuple #[.agg #[.int .u32 x7, .int .u32 x8, .int .u8 x9, .int .u16 x10, .int .u16 x11], .bool false])) w6 := by
  refine own_put k K hk rfl (Nat.le_refl 5) fun w6 K6 => ?_
  have lt := (List.getElem?_eq_some_iff.1 hk).1
  have hk6 : (L.set k (g3, 32, tpv tpz))[k]? = some (g3, 32, tpv tpz) := by rw [List.getElem?_set_self lt]
  refine ⟨_, _, _, _, _, ⟨rfl, (K6.bk k hk6).at⟩, ?_, K6.bel⟩
  unfold quT
  rw [h, if_neg (by decide)]
  rfl
include y hb hm
theorem quo_j3 (h : quB p q = true) {w : World} (H : Own w0 w [(g6, 32, tpv (quT1 p q)), (g3, 32, tpv tpz), (g1, 43, pv p A n c)]) : nat_quoted.J3 g3 g6 w (RetQu w0 p q) := by
  unfold nat_quoted.J3; intros
  rw [nat_quoted.j3_eq]
  refine ⟨_, _, _, _, _, ⟨rfl, (H.bk 0 rfl).at⟩, ?_⟩
  refine own_put (vs := tpv (quT1 p q)) 1 H rfl rfl (Nat.le_refl 5) fun w6 H6 => ?_
  refine ⟨_, _, _, _, _, ⟨rfl, (H6.bk 1 rfl).at⟩, ?_, H6.bel⟩
  unfold quT
  rw [h, if_pos rfl]
  rfl
theorem quo_j4 (h8 : 8 ≤ m) (h1 : p.proto = 1) {z : Bool} (hz : z = quB p q) {w : World} (H : Own w0 w [(g6, 32, tpv ⟨p.src, p.dst, p.proto, 0, 0⟩), (g3, 32, tpv tpz), (g1, 43, pv p A n c)]) :
    nat_quoted.J4 B m d g3 g6 z w (RetQu w0 p q) := by
  unfold nat_quoted.J4; intros
  rw [nat_quoted.j4_eq]
  refine ifB (fun h2 => ?_) (fun h2 => ?_)
  · refine call_of (nword_c (y.bel H.bel) hb (i := 4) rfl (by omega) hm) ?_
    rintro e w1 ⟨rfl, k1⟩
    refine ⟨_, rfl, ?_⟩
    refine own_set 0 (H.call k1) rfl (by show 3 < 5; decide) fun w4 H => ?_
    refine ⟨_, H.cell 0 3 rfl rfl, ?_⟩
    refine own_set 0 H rfl (by show 4 < 5; decide) fun w6 H => ?_
    have e : quT1 p q = ⟨p.src, p.dst, p.proto, wd q 4, wd q 4⟩ := by unfold quT1; rw [if_pos h1]
    replace H : Own w0 w6 [(g6, 32, tpv ⟨p.src, p.dst, p.proto, wd q 4, wd q 4⟩), (g3, 32, tpv tpz), (g1, 43, pv p A n c)] := H
    rw [← e] at H
    have k := quo_j3 (p := p) y hb hm (by rw [← hz]; exact h2) H
    exact ⟨by with_reducible apply k⟩
  · exact quo_no (by rw [← hz]; exact h2) H 1 rfl
theorem quo_j2 (h0 : p.off = 0) (h8 : 8 ≤ m) {z : Bool} (hz : z = true ↔ (p.proto = 6 ∨ p.proto = 17)) {w : World} (H : Own w0 w [(g6, 32, tpv ⟨p.src, p.dst, p.proto, 0, 0⟩), (g3, 32, tpv tpz), (g1, 43, pv p A n c)]) :
    nat_quoted.J2 B m d g1 g3 g6 z w (RetQu w0 p q) := by
  have ln := y.len
  unfold nat_quoted.J2; intros
  rw [nat_quoted.j2_eq]
  refine ifB (fun h2 => ?_) (fun h2 => ?_)
  · have hp := hz.1 h2
    refine call_of (nword_c (y.bel H.bel) hb (i := 0) rfl (by omega) hm) ?_
    rintro e w1 ⟨rfl, k1⟩
    refine ⟨_, rfl, ?_⟩
    refine call_of (nword_c ((y.bel H.bel).bel k1) hb (i := 2) rfl (by omega) hm) ?_
    rintro e w4 ⟨rfl, k4⟩
    refine ⟨_, rfl, ?_⟩
    refine own_set 0 ((H.call k1).call k4) rfl (by show 3 < 5; decide) fun w7 H => ?_
    refine own_set 0 H rfl (by show 4 < 5; decide) fun w8 H => ?_
    have e : quT1 p q = ⟨p.src, p.dst, p.proto, wd q 0, wd q 2⟩ := by unfold quT1; rw [if_neg (by omega)]
    replace H : Own w0 w8 [(g6, 32, tpv ⟨p.src, p.dst, p.proto, wd q 0, wd q 2⟩), (g3, 32, tpv tpz), (g1, 43, pv p A n c)] := H
    rw [← e] at H
    have k := quo_j3 (p := p) y hb hm (by unfold quB; exact decide_eq_true ⟨h0, by omega, by omega⟩) H
    exact ⟨by with_reducible apply k⟩
  have hn : ¬ (p.proto = 6 ∨ p.proto = 17) := fun hx => by rw [hz.2 hx] at h2; cases h2
  have no : (¬ (p.proto = 1 ∧ (q.getD 0 0 = 8 ∨ q.getD 0 0 = 0) ∧ q.getD 1 0 = 0)) → quB p q = false := fun hx => decide_eq_false fun hy => by
    rcases hy.2.2 with h | h | h
    · exact hn (Or.inl h)
    · exact hn (Or.inr h)
    · exact hx h
  refine ⟨p.proto, H.cell 2 6 rfl rfl, ?_⟩
  refine ifE (fun h3 => ?_) (fun h3 => ?_)
  · have yw := y.bel H.bel
    have k : ∀ z : Bool, z = quB p q → nat_quoted.J4 B m d g3 g6 z w (RetQu w0 p q) := fun z hz => quo_j4 y hb hm h8 h3 hz H
    refine yw.rd0 (by omega) fun _ => ?_
    refine ifE (fun h4 => ?_) (fun h4 => ?_)
    · refine yw.rdk 1 rfl (by omega) fun _ => ?_
      have k := k (q.getD 1 0 == 0) (by
        by_cases h5 : q.getD 1 0 = 0
        · rw [h5]
          exact (decide_eq_true ⟨h0, by omega, Or.inr (Or.inr ⟨h3, Or.inl h4, h5⟩)⟩).symm
        · rw [no (fun h => h5 h.2.2)]
          exact beq_eq_false_iff_ne.2 h5)
      exact ⟨by with_reducible apply k⟩
    · refine yw.rd0 (by omega) fun _ => ?_
      refine ifE (fun h5 => ?_) (fun h5 => ?_)
      · refine yw.rdk 1 rfl (by omega) fun _ => ?_
        have k := k (q.getD 1 0 == 0) (by
          by_cases h6 : q.getD 1 0 = 0
          · rw [h6]
            exact (decide_eq_true ⟨h0, by omega, Or.inr (Or.inr ⟨h3, Or.inr h5, h6⟩)⟩).symm
          · rw [no (fun h => h6 h.2.2)]
            exact beq_eq_false_iff_ne.2 h6)
        exact ⟨by with_reducible apply k⟩
      · have k := k false (no (fun h => by rcases h.2.1 with h | h <;> contradiction)).symm
        exact ⟨by with_reducible apply k⟩
  · have k : nat_quoted.J4 B m d g3 g6 false w (RetQu w0 p q) := by
      unfold nat_quoted.J4; intros
      rw [nat_quoted.j4_eq]
      exact ifB (fun h => by cases h) (fun _ => quo_no (no (fun h => h3 h.1)) H 1 rfl)
    exact ⟨by with_reducible apply k⟩
end
theorem quoted_c {w : World} {p : Pk} {q : List Int} {A : Option Addr} {n c : Nat} {B : Option Addr} {m d : Nat} (y : By w B m q) (hb : Bytes q) (hm : m ≤ 1000000000000000) :
    Calls Tryd.prog 58 #[.agg (pv p A n c).toArray, .slice B m d] w (RetQu w p q) := by
  have ln := y.len
  refine nat_quoted.run ?_
  unfold nat_quoted.s
  refine own_new (l := pv p A n c) (Own.refl w) fun g1 w2 H => ?_
  refine own_new (l := tpv tpz) H fun g3 w4 H => ?_
  refine ⟨p.off, H.cell 1 4 rfl rfl, ?_⟩
  refine ifN (fun h1 => ?_) (fun h1 => ?_)
  · exact quo_no (decide_eq_false fun h => h1 h.1) H 0 rfl
  refine ifD (fun h2 => ?_) (fun h2 => ?_)
  · exact quo_no (decide_eq_false fun h => by have := h.2.1; omega) H 0 rfl
  refine ⟨?_⟩
  have k : nat_quoted.J1 B m d g1 g3 w4 (RetQu w p q) := by
    unfold nat_quoted.J1; intros
    rw [nat_quoted.j1_eq]
    refine ⟨p.src, H.cell 1 7 rfl rfl, p.dst, H.cell 1 8 rfl rfl, p.proto, H.cell 1 6 rfl rfl, ?_⟩
    refine own_mk (tpv tpz) (vs := tpv ⟨p.src, p.dst, p.proto, 0, 0⟩) H rfl rfl fun g6 w6 H _ _ => ?_
    refine ⟨p.proto, H.cell 2 6 rfl rfl, ?_⟩
    refine ifE (fun h3 => ?_) (fun h3 => ?_)
    · have k := quo_j2 (d := d) (p := p) y hb hm h1 (by omega) (z := true) ⟨fun _ => Or.inl h3, fun _ => rfl⟩ H
      exact ⟨by with_reducible apply k⟩
    · refine ⟨p.proto, H.cell 2 6 rfl rfl, ?_⟩
      have k := quo_j2 (d := d) (p := p) y hb hm h1 (by omega) (z := (p.proto == 17)) ⟨fun h => Or.inr (by simpa using h), fun h => by rcases h with h | h; exact absurd h h3; simpa using h⟩ H
      exact ⟨by with_reducible apply k⟩
  exact k ..
end Go.Proofs.YtphbdmafchjjeaaDoorS
