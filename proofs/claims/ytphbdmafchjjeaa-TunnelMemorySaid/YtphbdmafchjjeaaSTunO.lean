/- What Open of packages tunnel and weftref7 answers.
   Conditions: bytes are 0 to 255; lists are no longer than memory lets. -/
import Derived.Test.YtphbdmafchjjeaaSTunS
import Derived.Test.YtphbdmafchjjeaaSParse
import Derived.Test.YtphbdmafchjjeaaSRef7
namespace Go.Proofs.YtphbdmafchjjeaaS
open Go Go.RowKit Go.Proofs Go.Proofs.YtphbdmafchjjeaaX
set_option maxRecDepth 100000
set_option linter.unusedVariables false
set_option linter.unusedSectionVars false
set_option linter.unusedSimpArgs false

/-! ### in plain words -/
def oz : Ot := ⟨0, 0, 0, 0, 0, 0⟩
def oB4 (d : List Int) : Int := if d.length < 8 then 76 else if d.getD 0 0 / 8 % 2 = 0 then 77 else fBad (d.drop 8)
def oB3 (p : Pk) : Int := if uBad p.src p.dst p.body ≠ 0 then uBad p.src p.dst p.body else oB4 (uBody p.body)
def oB2 (p : Pk) : Int := if p.mf = true ∨ p.off ≠ 0 then 75 else if p.proto ≠ 17 then 74 else oB3 p
/-- Why bytes are not opened; 0: they are. -/
def oBad (b : List Int) : Int := if bad true b ≠ 0 then bad true b else oB2 (pkOf b)
def rO (p : Pk) (k : Int) : Ot := if k = 0 then ⟨p.src, p.dst, wd p.body 0, wd p.body 2, p.ttl, lg (uBody p.body) 4 / 256⟩ else oz
def rF (p : Pk) (k : Int) : Fr := if k = 0 then ofF ((uBody p.body).drop 8) else fz
def RetOp (w : World) (p : Pk) (k : Int) (e : Ending) (w' : World) : Prop := Bel w w' ∧ ∃ A c, e = .returned (.tuple #[.agg (ov (rO p k)).toArray, .agg (fv (rF p k) A (rF p k).body.length c).toArray, .int .i64 k]) ∧ By w' A (rF p k).body.length (rF p k).body ∧ Fre w A
/-- .. in a block of its own. -/
def RetOpO (w : World) (p : Pk) (k : Int) (e : Ending) (w' : World) : Prop := RetOp w p k e w' ∧ (k = 0 → ∃ g, e = .returned (.tuple #[.agg (ov (rO p k)).toArray, .agg (fv (rF p k) (some ⟨g, 0, none⟩) (rF p k).body.length (rF p k).body.length).toArray, .int .i64 k]) ∧ Own w w' [(g, 5, bv (rF p k).body)])
theorem RetOpO.no {w : World} {p : Pk} {k : Int} (hk : k ≠ 0) : ∀ e w', RetOp w p k e w' → RetOpO w p k e w' := fun _ _ h => ⟨h, fun h0 => absurd h0 hk⟩
theorem and8 {x : Int} (h : 0 ≤ x ∧ x ≤ 255) : Go.bits .and .u8 x 8 = x / 8 % 2 * 8 := by
  have k : ∀ n : _root_.Fin 256, Go.bits .and .u8 ((n.val : Nat) : Int) 8 = ((n.val : Nat) : Int) / 8 % 2 * 8 := by decide +kernel
  have := k ⟨x.toNat, by omega⟩
  simpa [Int.toNat_of_nonneg h.1] using this
/-- What refuses writes two zero records and answers them. -/
theorem put_no {w a : World} {L : List (Nat × TypeId × List Value)} {p : Pk} {k : Int} {R : Ending → World → Prop} (hR : ∀ e w', RetOp w p k e w' → R e w') (i j : Nat) {g2 g3 : Nat} {t2 t3 : TypeId} {l2 l3 : List Value} (H : Own w a L) (h2 : L[i]? = some (g2, t2, l2)) (n2 : l2.length = 6) (h3 : L[j]? = some (g3, t3, l3)) (n3 : l3.length = 14) (hij : i ≠ j) (k0 : k ≠ 0) :
    May a ⟨g2, 0, none⟩ 6 ∧ Let (putCells a ⟨g2, 0, none⟩ [.int .u32 0, .int .u32 0, .int .u16 0, .int .u16 0, .int .u8 0, .int .i64 0] 0) fun w1 => May w1 ⟨g3, 0, none⟩ 14 ∧
      Let (putCells w1 ⟨g3, 0, none⟩ [.int .u8 0, .int .u8 0, .int .u8 0, .int .u8 0, .int .u8 0, .int .u8 0, .int .u8 0, .int .u8 0, .int .u8 0, .int .u8 0, .int .u8 0, .int .u8 0, .int .u16 0, .slice none 0 0] 0) fun w2 =>
      ∃ x3 : Int, ∃ x4 : Int, ∃ x5 : Int, ∃ x6 : Int, ∃ x7 : Int, ∃ x8 : Int, (6 = 6 ∧ At w2 ⟨g2, 0, none⟩ [.int .u32 x3, .int .u32 x4, .int .u16 x5, .int .u16 x6, .int .u8 x7, .int .i64 x8]) ∧
      (∃ x9 : Int, ∃ x10 : Int, ∃ x11 : Int, ∃ x12 : Int, ∃ x13 : Int, ∃ x14 : Int, ∃ x15 : Int, ∃ x16 : Int, ∃ x17 : Int, ∃ x18 : Int, ∃ x19 : Int, ∃ x20 : Int, ∃ x21 : Int, ∃ (A22 : Option Addr) (n22_ c22_ : Nat), (14 = 14 ∧ At w2 ⟨g3, 0, none⟩ [.int .u8 x9, .int .u8 x10, .int .u8 x11, .int .u8 x12, .int .u8 x13, .int .u8 x14, .int .u8 x15, .int .u8 x16, .int .u8 x17, .int .u8 x18, .int .u8 x19, .int .u8 x20, .int .u16 x21, .slice A22 n22_ c22_]) ∧
      (R (.returned (.tuple #[.agg #[.int .u32 x3, .int .u32 x4, .int .u16 x5, .int .u16 x6, .int .u8 x7, .int .i64 x8], .agg #[.int .u8 x9, .int .u8 x10, .int .u8 x11, .int .u8 x12, .int .u8 x13, .int .u8 x14, .int .u8 x15, .int .u8 x16, .int .u8 x17, .int .u8 x18, .int .u8 x19, .int .u8 x20, .int .u16 x21, .slice A22 n22_ c22_], .int .i64 k])) w2)) := by
  refine own_putB i H h2 rfl (by omega) fun w1 H1 u1 => ?_
  rw [splice_all _ _ (by rw [n2]; rfl)] at H1
  have h3' := h3
  rw [← List.getElem?_set_ne (a := (g2, t2, [.int .u32 0, .int .u32 0, .int .u16 0, .int .u16 0, .int .u8 0, .int .i64 0])) hij] at h3'
  refine own_putB j H1 h3' rfl (by omega) fun w2 H2 u2 => ?_
  rw [splice_all _ _ (by rw [n3]; rfl)] at H2
  have hi := (List.getElem?_eq_some_iff.1 h2).1
  have hj := (List.getElem?_eq_some_iff.1 h3').1
  refine ld_ou (o := oz) (H2.bk i (by rw [List.getElem?_set_ne (Ne.symm hij), List.getElem?_set_self hi]; rfl)) ?_
  refine ld_fr (f := fz) (A := none) (n := 0) (c := 0) (H2.bk j (by rw [List.getElem?_set_self hj]; rfl)) ?_
  refine hR _ _ ⟨H2.bel, none, 0, ?_⟩
  have e1 : rO p k = oz := by unfold rO; rw [if_neg k0]
  have e2 : rF p k = fz := by unfold rF; rw [if_neg k0]
  rw [e1, e2]
  exact ⟨rfl, By.nil _ _, Fre.nil _⟩
section
variable {w : World} {p : Pk} (hs : 0 ≤ p.src ∧ p.src ≤ 4294967295) (hd : 0 ≤ p.dst ∧ p.dst ≤ 4294967295) (hb : Bytes p.body)
include hs hd hb
theorem Open_j2 {wa : World} {g2 g3 g5 g7 : Nat} {A : Option Addr} {n c : Nat} {B : Option Addr} {m d : Nat} (hp : PkAt wa p A n c B m d) (H : Own w wa [(g7, 58, pv p A n c), (g5, 60, pb p A n c B m d), (g3, 31, fv fz none 0 0), (g2, 26, ov oz)]) :
    tunnel_Open.J2 g2 g3 g5 g7 wa (RetOpO w p (oB3 p)) := by
  unfold tunnel_Open.J2; intros
  rw [tunnel_Open.j2_eq]
  refine ⟨_, H.cell 0 7 rfl rfl, _, H.cell 0 8 rfl rfl, _, _, _, H.cell 1 10 rfl rfl, ?_⟩
  refine call_of (ParseUDP_c hs hd hp.body hb hp.cb) ?_
  rintro e w2 ⟨k2, he⟩
  by_cases h1 : uBad p.src p.dst p.body = 0
  · rw [if_pos h1] at he
    obtain ⟨g, rfl, Hg⟩ := he
    have y := (Hg.bk 0 rfl).by
    have fy := Hg.ge 0 rfl
    have ul := uBody_len h1
    have uz := uBad_zero h1
    have hbu : Bytes (uBody p.body) := (hb.take _).drop _
    replace H := H.call k2
    have eb : oB3 p = oB4 (uBody p.body) := by unfold oB3; rw [if_neg (by omega)]
    rw [eb]
    rw [← ul]
    generalize hu : uBody p.body = u at *
    refine ⟨_, _, _, _, _, _, rfl, ?_⟩
    refine own_mk (dv 0 0 none 0 0) H rfl rfl fun g10 w3 H k3 hg => ?_
    replace y := y.bel k3
    refine ifN (fun h => absurd rfl h) (fun _ => ?_)
    refine ⟨_, _, _, H.cell 0 2 rfl rfl, ?_⟩
    refine ifD (fun h2 => ?_) (fun h2 => ?_)
    · have e4 : oB4 u = 76 := by unfold oB4; rw [if_pos (by omega)]
      rw [e4]
      exact put_no (RetOpO.no (by decide)) 4 3 H rfl rfl rfl rfl (by decide) (by decide)
    refine ⟨_, _, _, H.cell 0 2 rfl rfl, ?_⟩
    refine y.rd0 (by omega) fun _ => ?_
    have hg0 := hbu.getD 0
    refine let_as _ (and8 hg0) ?_
    refine ifE (fun h3 => ?_) (fun h3 => ?_)
    · have e4 : oB4 u = 77 := by unfold oB4; rw [if_neg (by omega), if_pos (by omega)]
      rw [e4]
      exact put_no (RetOpO.no (by decide)) 4 3 H rfl rfl rfl rfl (by decide) (by decide)
    have e4 : oB4 u = fBad (u.drop 8) := by unfold oB4; rw [if_neg (by omega), if_neg (by omega)]
    rw [e4]
    refine ⟨_, _, _, H.cell 0 2 rfl rfl, ⟨by omega, by omega⟩, ?_⟩
    refine call_of (ParseFrame_c (y.cut (k := 8) (m := u.length) (by omega) (Nat.le_refl _)) (hbu.drop 8) (Nat.le_refl _)) ?_
    rintro e w4 ⟨k4, he⟩
    by_cases h5 : fBad (u.drop 8) = 0
    · rw [if_pos h5] at he
      obtain ⟨g6, rfl, H6⟩ := he
      have yf := (H6.bk 0 rfl).by
      have f6 := H6.ge 0 rfl
      have o3 := H.old 3 rfl (Fre.mk f6 (o := 0))
      have o4 := H.old 4 rfl (Fre.mk f6 (o := 0))
      replace y := y.bel k4
      have b6 := H6.bk 0 rfl
      have fw := H.bel
      replace H := H.call k4
      rw [h5]
      have eo : rO p 0 = ⟨p.src, p.dst, wd p.body 0, wd p.body 2, p.ttl, lg u 4 / 256⟩ := by unfold rO; rw [if_pos rfl, hu]
      have ef : rF p 0 = ofF (u.drop 8) := by unfold rF; rw [if_pos rfl, hu]
      refine ⟨_, _, _, _, _, _, _, _, _, _, _, _, _, _, _, _, _, rfl, ?_⟩
      refine own_mk (fv fz none 0 0) H rfl rfl fun g11 w5 H k5 _ => ?_
      replace yf := yf.bel k5
      replace y := y.bel k5
      refine ifN (fun h => absurd rfl h) (fun _ => ?_)
      refine draws (fun w' => ∃ l2 l3, Own w w' [(g11, 31, fv (ofF (u.drop 8)) (some ⟨g6, 0, none⟩) ((u.drop 8).length - 14) ((u.drop 8).length - 14)), (g10, 33, dv (wd p.body 0) (wd p.body 2) (some ⟨g, 0, none⟩) u.length u.length), (g7, 58, pv p A n c), (g5, 60, pb p A n c B m d), (g3, 31, l3), (g2, 26, l2)]) ⟨_, _, H.drew⟩ fun w6 e6 => ?_
      have k6 : Bel w5 w6 := by rw [e6]; exact (Bel.refl w5).drew
      replace H := H.call k6
      replace yf := yf.bel k6
      replace y := y.bel k6
      refine ⟨_, fun w' ⟨l2, l3, h⟩ => h.cell 2 7 rfl rfl, _, fun w' ⟨l2, l3, h⟩ => h.cell 2 8 rfl rfl, _, fun w' ⟨l2, l3, h⟩ => h.cell 1 0 rfl rfl, _, fun w' ⟨l2, l3, h⟩ => h.cell 1 1 rfl rfl, _, fun w' ⟨l2, l3, h⟩ => h.cell 2 5 rfl rfl, _, _, _, fun w' ⟨l2, l3, h⟩ => h.cell 1 2 rfl rfl, ⟨by omega, by omega⟩, ⟨by decide, by decide⟩, ?_⟩
      refine ⟨_, _, _, _, _, _, _, _, _, _, _, _, _, _, _, _, ⟨rfl, fun w' ⟨l2, l3, h⟩ => (h.bk 0 rfl).at⟩, ?_⟩
      have hlg := lg_range hbu 4
      refine call_of (ld32_c (y.mid (k := 4) (j := 8) (m := u.length) (by decide) (by omega) (Nat.le_refl _)) ((hbu.take _).drop _)) ?_
      rintro e w7 ⟨rfl, k7⟩
      rw [lg_mid u (i := 4) (by omega)]
      replace H := H.call k7
      replace yf := yf.bel k7
      replace b6 := ((b6.bel k5).bel k6).bel k7
      refine ⟨_, rfl, ⟨_, _, H⟩, ?_⟩
      refine let_as (lg u 4 / 256) (fd _ (by decide)) ?_
      refine let_as (lg u 4 / 256) (w64 (by omega) (by omega)) ?_
      refine own_putB 5 H rfl rfl (by decide) fun w8' H u8' => ?_
      refine ⟨⟨_, _, H⟩, ?_⟩
      refine own_putB 4 H rfl rfl (by decide) fun w9 H u9 => ?_
      refine ⟨⟨_, _, H⟩, ?_⟩
      refine ld_ou (o := ⟨p.src, p.dst, wd p.body 0, wd p.body 2, p.ttl, lg u 4 / 256⟩) (H.bk 5 rfl) ?_
      refine ld_fr (f := ofF (u.drop 8)) (H.bk 4 rfl) ?_
      have el : (ofF (u.drop 8)).body.length = (u.drop 8).length - 14 := List.length_drop
      have er : (Ending.returned (.tuple #[.agg (ov ⟨p.src, p.dst, wd p.body 0, wd p.body 2, p.ttl, lg u 4 / 256⟩).toArray, .agg (fv (ofF (u.drop 8)) (some ⟨g6, 0, none⟩) ((u.drop 8).length - 14) ((u.drop 8).length - 14)).toArray, .int .i64 0])) = .returned (.tuple #[.agg (ov (rO p 0)).toArray, .agg (fv (rF p 0) (some ⟨g6, 0, none⟩) (rF p 0).body.length (rF p 0).body.length).toArray, .int .i64 0]) := by
        rw [eo, ef, el]
      refine ⟨⟨H.bel, some ⟨g6, 0, none⟩, (rF p 0).body.length, er, ?_, (Fre.mk f6).le fw⟩, fun _ => ⟨g6, er, own_of H.bel ?_ (Nat.le_trans fw.size f6)⟩⟩
      · rw [ef]
        exact (yf.but u8' o4).but u9 o3
      · rw [ef]
        exact (b6.but u8' (o4 _ rfl)).but u9 (o3 _ rfl)
    · rw [if_neg h5] at he
      subst he
      replace H := H.call k4
      refine ⟨_, _, _, _, _, _, _, _, _, _, _, _, _, _, _, _, _, rfl, ?_⟩
      refine own_mk (fv fz none 0 0) H rfl rfl fun g11 w5 H k5 _ => ?_
      refine ifN (fun _ => ?_) (fun h => absurd h h5)
      exact put_no (RetOpO.no h5) 5 4 H rfl rfl rfl rfl (by decide) h5
  · rw [if_neg h1] at he
    subst he
    replace H := H.call k2
    have eb : oB3 p = uBad p.src p.dst p.body := by unfold oB3; rw [if_pos h1]
    rw [eb]
    refine ⟨_, _, _, _, _, _, rfl, ?_⟩
    refine own_mk (dv 0 0 none 0 0) H rfl rfl fun g10 w3 H k3 hg => ?_
    refine ifN (fun _ => ?_) (fun h => absurd h h1)
    exact put_no (RetOpO.no h1) 4 3 H rfl rfl rfl rfl (by decide) h1
theorem Open_j1 {y : Bool} (hy : y = true ↔ (p.mf = true ∨ p.off ≠ 0)) {wa : World} {g2 g3 g5 g7 : Nat} {A : Option Addr} {n c : Nat} {B : Option Addr} {m d : Nat} (hp : PkAt wa p A n c B m d) (H : Own w wa [(g7, 58, pv p A n c), (g5, 60, pb p A n c B m d), (g3, 31, fv fz none 0 0), (g2, 26, ov oz)]) :
    tunnel_Open.J1 g2 g3 g5 g7 y wa (RetOpO w p (oB2 p)) := by
  unfold tunnel_Open.J1; intros
  rw [tunnel_Open.j1_eq]
  refine ifB (fun h1 => ?_) (fun h1 => ?_)
  · have e : oB2 p = 75 := by unfold oB2; rw [if_pos (hy.1 h1)]
    rw [e]
    exact put_no (RetOpO.no (by decide)) 3 2 H rfl rfl rfl rfl (by decide) (by decide)
  have hn : ¬ (p.mf = true ∨ p.off ≠ 0) := fun hx => by rw [hy.2 hx] at h1; cases h1
  refine ⟨p.proto, H.cell 0 6 rfl rfl, ?_⟩
  refine ifN (fun h2 => ?_) (fun h2 => ?_)
  · have e : oB2 p = 74 := by unfold oB2; rw [if_neg hn, if_pos h2]
    rw [e]
    exact put_no (RetOpO.no (by decide)) 3 2 H rfl rfl rfl rfl (by decide) (by decide)
  have e : oB2 p = oB3 p := by unfold oB2; rw [if_neg hn, if_neg (fun h => h h2)]
  rw [e]
  have k := Open_j2 hs hd hb hp H
  exact ⟨by with_reducible apply k⟩
end
theorem OpenO_c {w : World} {A : Option Addr} {n c : Nat} {b : List Int} (h : By w A n b) (hb : Bytes b) (hc : n ≤ c) (hn : n ≤ 100000000000000) : Calls Try.prog 8 #[.slice A n c] w (RetOpO w (pkOf b) (oBad b)) := by
  refine tunnel_Open.run ?_
  unfold tunnel_Open.s
  refine own_new (l := ov oz) (Own.refl w) fun g1 w2 H => ?_
  refine own_new (l := fv fz none 0 0) H fun g3 w4 H => ?_
  refine call_of (Parse4_c (h.bel H.bel) hb hc hn) ?_
  rintro e w5 he
  obtain ⟨k5, A1, n1, c1, B1, m1, d1, rfl, hp, _, _⟩ := rd_out he
  replace H := H.call k5
  refine ⟨_, _, _, _, _, _, _, _, _, _, _, _, _, _, _, _, rfl, ?_⟩
  by_cases h0 : bad true b = 0
  · have ep : pkOut b = pkOf b := by unfold pkOut; rw [if_pos h0]
    have eb : oBad b = oB2 (pkOf b) := by unfold oBad; rw [if_neg (fun h => h h0)]
    have hs := lg_range hb 12
    have hd := lg_range hb 16
    have hbb : Bytes (pkOf b).body := (hb.take _).drop _
    rw [ep] at hp ⊢
    rw [eb, h0]
    refine own_mk (pb pz none 0 0 none 0 0) H rfl rfl fun g5 w6 H k6 hg => ?_
    replace hp := hp.bel k6
    refine ld_head10 (l := [.slice B1 m1 d1]) (H.bk 0 rfl) ?_
    refine own_mk hz H rfl rfl fun g7 w7 H k7 _ => ?_
    replace hp := hp.bel k7
    refine ifN (fun h => absurd rfl h) (fun _ => ?_)
    refine ⟨(pkOf b).mf, H.cell 0 3 rfl rfl, ?_⟩
    refine ifB (fun hm => ?_) (fun hm => ?_)
    · have k := Open_j1 (w := w) (p := pkOf b) hs hd hbb (y := true) ⟨fun _ => Or.inl hm, fun _ => rfl⟩ hp H
      exact ⟨by with_reducible apply k⟩
    · refine ⟨(pkOf b).off, H.cell 0 4 rfl rfl, ?_⟩
      have k := Open_j1 (w := w) (p := pkOf b) hs hd hbb (y := ((pkOf b).off != 0)) ⟨fun h => Or.inr (by simpa using h), fun h => by rcases h with h | h <;> simp_all⟩ hp H
      exact ⟨by with_reducible apply k⟩
  · have ep : pkOut b = pz := by unfold pkOut; rw [if_neg h0]
    have eb : oBad b = bad true b := by unfold oBad; rw [if_pos h0]
    rw [ep]
    rw [eb]
    refine own_mk (pb pz none 0 0 none 0 0) H rfl rfl fun g5 w6 H k6 hg => ?_
    refine ld_head10 (l := [.slice B1 m1 d1]) (H.bk 0 rfl) ?_
    refine own_mk hz H rfl rfl fun g7 w7 H k7 _ => ?_
    refine ifN (fun _ => ?_) (fun h => absurd h h0)
    exact put_no (RetOpO.no h0) 3 2 H rfl rfl rfl rfl (by decide) h0

theorem Open_c {w : World} {A : Option Addr} {n c : Nat} {b : List Int} (h : By w A n b) (hb : Bytes b) (hc : n ≤ c) (hn : n ≤ 100000000000000) : Calls Try.prog 8 #[.slice A n c] w (RetOp w (pkOf b) (oBad b)) := call_of (OpenO_c h hb hc hn) fun e w' k => k.1

/-! ### weftref7 -/
section
variable {w : World} {p : Pk} (hs : 0 ≤ p.src ∧ p.src ≤ 4294967295) (hd : 0 ≤ p.dst ∧ p.dst ≤ 4294967295) (hb : Bytes p.body)
include hs hd hb
end
end Go.Proofs.YtphbdmafchjjeaaS
