/- Package weftlaw6, law.go: head, upTo and the six statements.
   Conditions: the arguments are as a row's arguments are; the package variables are as they were laid. -/
import Derived.Test.YtfjbpeadhaekbaaDoorSLawC
import Derived.Test.YtfjbpeadhaekbaaDoorSLawB
namespace Go.Proofs.YtfjbpeadhaekbaaDoorS
open Go Go.RowKit Go.Proofs Go.Proofs.YtfjbpeadhaekbaaDoorX
set_option maxRecDepth 100000
set_option linter.unusedVariables false
set_option linter.unusedSimpArgs false

def icz : Ic := ⟨0, 0, 0, []⟩
theorem icz_fine : icz.Fine := ⟨by decide, by decide, by decide, Bytes.nil, by decide⟩
theorem pz_fine : pz.Fine := ⟨by decide, by decide, by decide, by decide, by decide, by decide, by decide, Bytes.nil, Bytes.nil, by decide, by decide⟩
def req6 : Pk := ⟨0, 7, false, false, 0, 1, 1, 167838211, 167904004, [131, 3, 4, 0], [8, 0, 51, 154, 0, 1, 0, 2, 97, 98, 99]⟩
theorem req6_fine : req6.Fine := by
  refine ⟨by decide, by decide, by decide, by decide, by decide, by decide, by decide, ?_, ?_, by decide, by decide⟩
  · intro x hx
    revert x
    decide
  · intro x hx
    revert x
    decide
theorem request_c (w : World) : Calls Tryd.prog 46 #[] w (fun e w' => Bel w w' ∧ ∃ A c B d, e = .returned (.agg (pb req6 A 4 c B 11 d).toArray) ∧ PkAt w' req6 A 4 c B 11 d) := by
  refine weftlaw6_request.run ?_
  unfold weftlaw6_request.s
  refine own_new (l := pb pz none 0 0 none 0 0) (Own.refl w) fun g1 w1 H => ?_
  refine call_of (small_c w1) ?_
  rintro e w2 ⟨k2, A, c, B, d, rfl, y, f1, f2⟩
  have o1 := H.old 0 rfl f1
  replace H := H.call k2
  refine ⟨_, _, _, _, _, _, _, _, _, _, _, _, _, _, _, rfl, ?_⟩
  refine own_newC (l := pb pz none 0 0 none 0 0) H fun g2 w3 H k3 hg => ?_
  have z := y.opts.newer hg
  have y1 := y.opts.bel k3
  refine own_putB 0 H rfl rfl (by decide) fun w4 H u4 => ?_
  replace y1 := y1.but1 u4 z
  replace H : Own w w4 [(g2, 29, pb small6 A 4 c B 10 d), (g1, 29, pb pz none 0 0 none 0 0)] := H
  refine own_setB 0 H rfl (Nat.lt_of_lt_of_le (by decide : 6 < 11) (Nat.le_refl 11)) fun w5 H u5 => ?_
  replace y1 := y1.but1 u5 z
  refine own_newB (l := bv req6.body) H fun g3 w6 H k6 => ?_
  replace y1 := y1.bel k6
  refine own_setB 1 H rfl (Nat.lt_of_lt_of_le (by decide : 10 < 11) (Nat.le_refl 11)) fun w7 H u7 => ?_
  replace y1 := y1.but1 u7 z
  replace H : Own w w7 [(g3, 5, bv req6.body), (g2, 29, pb req6 A 4 c (some ⟨g3, 0, none⟩) 11 11), (g1, 29, pb pz none 0 0 none 0 0)] := H
  refine ld_pkt (H.bk 1 rfl) ?_
  refine put_pkt 2 H rfl rfl fun w8 H u8 => ?_
  replace y1 := y1.but u8 o1
  refine ⟨H.bel, A, c, some ⟨g3, 0, none⟩, 11, rfl, y1, (H.bk 0 rfl).by, y.co, Nat.le_refl _⟩
theorem head_t {w : World} (hg : Gl w) (k : Int) : Calls Tryd.prog 22 #[.int .i64 k] w (Yes w) := by
  refine weftlaw6_head.run ?_
  unfold weftlaw6_head.s
  have zero : (0 : Int) ≤ 0 ∧ (0 : Int) ≤ 255 := by decide
  have zs : (0 : Int) ≤ 0 ∧ (0 : Int) ≤ 4294967295 := by decide
  refine ifE (fun _ => ?_) (fun _ => ?_)
  · refine call_of (request_c w) ?_
    rintro e w1 ⟨k1, A, c, B, d, rfl, y⟩
    refine ⟨_, _, _, _, _, _, _, _, _, _, _, _, _, _, _, rfl, ?_⟩
    refine call_of (plays_t (o := ⟨1, req6.body, icz, pz, 0, 0, 0, 0⟩) (hg.bel k1) ⟨req6_fine.body, icz_fine, pz_fine, zero, zero, zs⟩ (Z := B) (zn := 11) (zc := d) (C := none) (cn := 0) (cc := 0) (A := none) (n := 0) (c := 0) (B := none) (m := 0) (d := 0) ⟨y.body, y.cb, By.nil _ _, pz_at _⟩) ?_
    rintro e w2 ⟨rfl, k2⟩
    exact ⟨_, rfl, rfl, Bel.trans k1 k2⟩
  refine ifE (fun _ => ?_) (fun _ => ?_)
  · refine own_new (l := bv [97, 98, 99]) (Own.refl w) fun g1 w1 H => ?_
    have qf : (⟨8, 0, 65538, [97, 98, 99]⟩ : Ic).Fine := ⟨by decide, by decide, by decide, by
      intro x hx
      revert x
      decide, by decide⟩
    refine call_of (plays_t (o := ⟨2, [], ⟨8, 0, 65538, [97, 98, 99]⟩, pz, 0, 0, 0, 0⟩) (hg.bel H.bel) ⟨Bytes.nil, qf, pz_fine, zero, zero, zs⟩ (Z := none) (zn := 0) (zc := 0) (C := some ⟨g1, 0, none⟩) (cn := 3) (cc := 3) (A := none) (n := 0) (c := 0) (B := none) (m := 0) (d := 0) ⟨By.nil _ _, Nat.le_refl _, (H.bk 0 rfl).by, pz_at _⟩) ?_
    rintro e w2 ⟨rfl, k2⟩
    exact ⟨_, rfl, rfl, H.bel.trans k2⟩
  refine ifE (fun _ => ?_) (fun _ => ?_)
  · refine call_of (small_c w) ?_
    rintro e w1 ⟨k1, A, c, B, d, rfl, y, _, _⟩
    refine ⟨_, _, _, _, _, _, _, _, _, _, _, _, _, _, _, rfl, ?_⟩
    refine call_of (plays_t (o := ⟨3, [], icz, small6, 11, 0, 0, 167838209⟩) (hg.bel k1) ⟨Bytes.nil, icz_fine, small6_fine, by decide, zero, by decide⟩ (Z := none) (zn := 0) (zc := 0) (C := none) (cn := 0) (cc := 0) (A := A) (n := 4) (c := c) (B := B) (m := 10) (d := d) ⟨By.nil _ _, Nat.le_refl _, By.nil _ _, y⟩) ?_
    rintro e w2 ⟨rfl, k2⟩
    exact ⟨_, rfl, rfl, Bel.trans k1 k2⟩
  refine ifE (fun _ => ?_) (fun _ => ?_)
  · refine call_of (request_c w) ?_
    rintro e w1 ⟨k1, A, c, B, d, rfl, y⟩
    refine ⟨_, _, _, _, _, _, _, _, _, _, _, _, _, _, _, rfl, ?_⟩
    refine call_of (plays_t (o := ⟨4, [], icz, req6, 0, 0, 0, 0⟩) (hg.bel k1) ⟨Bytes.nil, icz_fine, req6_fine, zero, zero, zs⟩ (Z := none) (zn := 0) (zc := 0) (C := none) (cn := 0) (cc := 0) (A := A) (n := 4) (c := c) (B := B) (m := 11) (d := d) ⟨By.nil _ _, Nat.le_refl _, By.nil _ _, y⟩) ?_
    rintro e w2 ⟨rfl, k2⟩
    exact ⟨_, rfl, rfl, Bel.trans k1 k2⟩
  · refine call_of (small_c w) ?_
    rintro e w1 ⟨k1, A, c, B, d, rfl, y, _, _⟩
    refine ⟨_, _, _, _, _, _, _, _, _, _, _, _, _, _, _, rfl, ?_⟩
    refine call_of (Fault6_c small6_fine y (t := 11) (k := 0) (x := 0) (src := 167838209) (by decide) zero (by decide)) ?_
    rintro e w2 ⟨k2, A1, n1, c1, B1, m1, d1, rfl, y1, _, _⟩
    have qf : (if faultE small6 11 0 0 167838209 = 0 then faultP small6 11 0 0 167838209 else pz).Fine := by
      by_cases h0 : faultE small6 11 0 0 167838209 = 0
      · rw [if_pos h0]
        have he := faultE_err h0
        have hm : mayB 11 0 0 = true := by rw [mayB_11, if_neg (by decide)]; rfl
        exact madeP_fine (faultI_fine small6_fine he (by decide) (by decide) hm) (by have := (faultI_len he 11 0 0).2; omega) (by decide) (by decide) small6_fine.src
      · rw [if_neg h0]; exact pz_fine
    refine ⟨_, _, _, _, _, _, _, _, _, _, _, _, _, _, _, _, rfl, ?_⟩
    generalize (if faultE small6 11 0 0 167838209 = 0 then faultP small6 11 0 0 167838209 else pz) = q at *
    refine own_mk (pb pz none 0 0 none 0 0) (Own.refl w2) rfl rfl fun g3 w3 H k3 _ => ?_
    replace H : Own w2 w3 [(g3, 29, pb q A1 n1 c1 B1 m1 d1)] := H
    refine ld_pkt (H.bk 0 rfl) ?_
    refine call_of (plays_t (o := ⟨5, [], icz, q, 0, 0, 0, 0⟩) (((hg.bel k1).bel k2).bel H.bel) ⟨Bytes.nil, icz_fine, qf, zero, zero, zs⟩ (Z := none) (zn := 0) (zc := 0) (C := none) (cn := 0) (cc := 0) (A := A1) (n := n1) (c := c1) (B := B1) (m := m1) (d := d1) ⟨By.nil _ _, Nat.le_refl _, By.nil _ _, y1.bel H.bel⟩) ?_
    rintro e w4 ⟨rfl, k4⟩
    exact ⟨_, rfl, rfl, Bel.trans (Bel.trans k1 k2) (H.bel.trans k4)⟩

/-! ### scripts -/
/-- The slice A[:n] holds steps. -/
def Scr (w : World) (A : Option Addr) (n : Nat) : Prop := 0 < n → ∃ a, A = some a ∧ ∀ i, i < n → ∃ (o : Op6) (Z : Option Addr) (zn zc : Nat) (C : Option Addr) (cn cc : Nat) (A : Option Addr) (n c : Nat) (B : Option Addr) (m d : Nat),
  At w (a.add (i * 21)) (ov o Z zn zc C cn cc A n c B m d) ∧ o.Fine ∧ OpAt w o Z zn zc C cn cc A n c B m d
def zop : Op6 := ⟨0, [], icz, pz, 0, 0, 0, 0⟩
theorem At.bel {w w' : World} {a : Addr} {l : List Value} (h : At w a l) (k : Bel w w') : At w' a l := fun j u hu => k.cellb (h j u hu)
theorem upTo_l2 {w0 : World} (hg : Gl w0) {A : Option Addr} {n c : Nat} (hs : Scr w0 A n) (hn : n ≤ 1000000000000000) (lo hi : Int) : ∀ (q i : Nat) (w : World), n - i < q → i ≤ n → Bel w0 w → weftlaw6_upTo.L2 q A n c lo hi (i : Int) w (Yes w0) := by
  intro q
  induction q with
  | zero => intro i w h; omega
  | succ q ih =>
    intro i w hq hi2 hb
    unfold weftlaw6_upTo.L2; intros
    rw [weftlaw6_upTo.l2_eq]
    refine ifD (fun h1 => ?_) (fun h1 => ⟨rfl, hb⟩)
    obtain ⟨a, ea, hc⟩ := hs (by omega)
    obtain ⟨o, Z, zn, zc, C, cn, cc, A1, n1, c1, B1, m1, d1, hat, hof, hoa⟩ := hc i (by omega)
    refine ⟨a, ea, ⟨by omega, by omega⟩, ?_⟩
    rw [Int.toNat_natCast]
    refine ⟨_, _, _, _, _, _, _, _, _, _, _, _, _, _, _, _, _, _, _, _, _, _, _, _, _, _, _, _, _, ⟨rfl, hat.bel hb⟩, ?_⟩
    refine own_mk (ov zop none 0 0 none 0 0 none 0 0 none 0 0) (Own.refl w) rfl rfl fun g1 w1 H k1 _ => ?_
    replace H : Own w w1 [(g1, 50, ov o Z zn zc C cn cc A1 n1 c1 B1 m1 d1)] := H
    have kb := Bel.trans hb H.bel
    refine ⟨_, H.cell 0 0 rfl rfl, ?_⟩
    refine ifD (fun h2 => ?_) (fun h2 => ?_)
    · refine ⟨_, H.cell 0 0 rfl rfl, ?_⟩
      refine ifD (fun h3 => ?_) (fun h3 => ?_)
      · refine ⟨_, _, _, _, _, _, _, _, _, _, _, _, _, _, _, _, _, _, _, _, _, _, _, _, _, _, _, _, _, ⟨rfl, (H.bk 0 rfl).at⟩, ?_⟩
        refine call_of (plays_t (hg.bel kb) hof (hoa.bel kb)) ?_
        rintro e w2 ⟨rfl, k2⟩
        refine ⟨_, rfl, ifNot (fun h => by cases h) (fun _ => ?_)⟩
        refine let_as ((i + 1 : Nat) : Int) (by rw [w64 (by omega) (by omega)]; omega) ?_
        have k := ih (i + 1) w2 (by omega) (by omega) (Bel.trans kb k2)
        with_reducible apply k
      · refine let_as ((i + 1 : Nat) : Int) (by rw [w64 (by omega) (by omega)]; omega) ?_
        have k := ih (i + 1) w1 (by omega) (by omega) kb
        with_reducible apply k
    · refine let_as ((i + 1 : Nat) : Int) (by rw [w64 (by omega) (by omega)]; omega) ?_
      have k := ih (i + 1) w1 (by omega) (by omega) kb
      with_reducible apply k
theorem upTo_l1 {w0 : World} (hg : Gl w0) {A : Option Addr} {n c : Nat} (hs : Scr w0 A n) (hn : n ≤ 1000000000000000) (lo hi : Int) (hhi : hi ≤ 100) : ∀ (q : Nat) (k : Int) (w : World), (hi + 1 - k).toNat < q → 0 ≤ k → k ≤ 101 → Bel w0 w → weftlaw6_upTo.L1 q A n c lo hi k w (Yes w0) := by
  intro q
  induction q with
  | zero => intro k w h; omega
  | succ q ih =>
    intro k w hq hk0 hk1 hb
    unfold weftlaw6_upTo.L1; intros
    rw [weftlaw6_upTo.l1_eq]
    refine ifD (fun h1 => ?_) (fun h1 => ?_)
    · refine call_of (head_t (hg.bel hb) k) ?_
      rintro e w1 ⟨rfl, k1⟩
      refine ⟨_, rfl, ifNot (fun h => by cases h) (fun _ => ?_)⟩
      refine let_as (k + 1) (w64 (by omega) (by omega)) ?_
      have kk := ih (k + 1) w1 (by omega) (by omega) (by omega) (Bel.trans hb k1)
      with_reducible apply kk
    · refine ⟨n + 1, ?_⟩
      have kk : weftlaw6_upTo.L2 (n + 1) A n c lo hi 0 w (Yes w0) := upTo_l2 hg (c := c) hs hn lo hi (n + 1) 0 w (by omega) (by omega) hb
      with_reducible apply kk
theorem upTo_t {w : World} (hg : Gl w) {A : Option Addr} {n c : Nat} (hs : Scr w A n) (hn : n ≤ 1000000000000000) {lo hi : Int} (h0 : 0 ≤ lo) (h1 : lo ≤ 101) (hhi : hi ≤ 100) : Calls Tryd.prog 20 #[.slice A n c, .int .i64 lo, .int .i64 hi] w (Yes w) := by
  refine weftlaw6_upTo.run ?_
  unfold weftlaw6_upTo.s
  refine ⟨(hi + 1 - lo).toNat + 1, ?_⟩
  have k := upTo_l1 hg (c := c) hs hn lo hi hhi ((hi + 1 - lo).toNat + 1) lo w (by omega) h0 h1 (Bel.refl w)
  with_reducible apply k
section
variable {w : World} (hg : Gl w) {A : Option Addr} {n c : Nat} (hs : Scr w A n) (hn : n ≤ 1000000000000000)
include hg hs hn
theorem IcmpParses_t : Calls Tryd.prog 6 #[.slice A n c] w (Yes w) := by
  refine weftlaw6_IcmpParses.run ?_
  unfold weftlaw6_IcmpParses.s
  refine call_of (upTo_t hg hs hn (by decide) (by decide) (by decide)) ?_
  rintro e w1 ⟨rfl, k1⟩
  exact ⟨_, rfl, rfl, k1⟩
theorem IcmpBuilds_t : Calls Tryd.prog 7 #[.slice A n c] w (Yes w) := by
  refine weftlaw6_IcmpBuilds.run ?_
  unfold weftlaw6_IcmpBuilds.s
  refine call_of (upTo_t hg hs hn (by decide) (by decide) (by decide)) ?_
  rintro e w1 ⟨rfl, k1⟩
  exact ⟨_, rfl, rfl, k1⟩
theorem IcmpFaults_t : Calls Tryd.prog 8 #[.slice A n c] w (Yes w) := by
  refine weftlaw6_IcmpFaults.run ?_
  unfold weftlaw6_IcmpFaults.s
  refine call_of (upTo_t hg hs hn (by decide) (by decide) (by decide)) ?_
  rintro e w1 ⟨rfl, k1⟩
  exact ⟨_, rfl, rfl, k1⟩
theorem IcmpEchoes_t : Calls Tryd.prog 9 #[.slice A n c] w (Yes w) := by
  refine weftlaw6_IcmpEchoes.run ?_
  unfold weftlaw6_IcmpEchoes.s
  refine call_of (upTo_t hg hs hn (by decide) (by decide) (by decide)) ?_
  rintro e w1 ⟨rfl, k1⟩
  exact ⟨_, rfl, rfl, k1⟩
theorem IcmpAbouts_t : Calls Tryd.prog 10 #[.slice A n c] w (Yes w) := by
  refine weftlaw6_IcmpAbouts.run ?_
  unfold weftlaw6_IcmpAbouts.s
  refine call_of (upTo_t hg hs hn (by decide) (by decide) (by decide)) ?_
  rintro e w1 ⟨rfl, k1⟩
  exact ⟨_, rfl, rfl, k1⟩
theorem IcmpAll_t : Calls Tryd.prog 11 #[.slice A n c] w (Yes w) := by
  refine weftlaw6_IcmpAll.run ?_
  unfold weftlaw6_IcmpAll.s
  refine call_of (upTo_t hg hs hn (by decide) (by decide) (by decide)) ?_
  rintro e w1 ⟨rfl, k1⟩
  exact ⟨_, rfl, rfl, k1⟩
end
end Go.Proofs.YtfjbpeadhaekbaaDoorS
