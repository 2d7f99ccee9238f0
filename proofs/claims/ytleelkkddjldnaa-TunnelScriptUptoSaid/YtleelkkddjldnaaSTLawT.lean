/- Package weftlaw7: sealable, TunnelThere.
   Conditions: the arguments are as a row's arguments are. -/
import Derived.Test.YtleelkkddjldnaaSTLawS
import Derived.Test.YtleelkkddjldnaaSTLawO
import Derived.Test.YtleelkkddjldnaaSTunR
import Derived.Test.YtleelkkddjldnaaSFY
namespace Go.Proofs.YtleelkkddjldnaaS
open Go Go.RowKit Go.Proofs Go.Proofs.YtleelkkddjldnaaX
set_option maxRecDepth 100000
set_option linter.unusedVariables false
set_option linter.unusedSectionVars false
set_option linter.unusedSimpArgs false

theorem ifEO {a b c d e f : Int} {X Y : Prop} (h : X) : if (eqV [.int .u32 a, .int .u32 b, .int .u16 c, .int .u16 d, .int .u8 e, .int .i64 f] [.int .u32 a, .int .u32 b, .int .u16 c, .int .u16 d, .int .u8 e, .int .i64 f]) = true then X else Y := by
  rw [eqV_ou, if_pos rfl]
  exact h
theorem sealable_j1 {w wa : World} {o : Ot} {f : Fr} {A : Option Addr} {n c : Nat} (hn : f.body.length = n) {g2 g3 : Nat} (H : Own w wa [(g3, 46, fv f A n c), (g2, 50, ov o)]) {y : Bool} (hy : y = decide (typeF f.typ = 0)) :
    weftlaw7_sealable.J1 g2 g3 y wa (Ret (.bool (decide (sErr o f = 0))) w) := by
  unfold weftlaw7_sealable.J1; intros
  rw [weftlaw7_sealable.j1_eq]
  have no : sErr o f ≠ 0 → Ret (.bool (decide (sErr o f = 0))) w (.returned (.bool false)) wa := fun h => ⟨by rw [decide_eq_false h], H.bel⟩
  refine ⟨_, H.cell 1 5 rfl rfl, ?_⟩
  refine ifD (fun h1 => ?_) (fun h1 => ?_)
  · refine ⟨_, H.cell 1 5 rfl rfl, ?_⟩
    refine ifD (fun h2 => ?_) (fun h2 => ?_)
    · refine ⟨_, _, _, H.cell 0 13 rfl rfl, ?_⟩
      refine ifD (fun h3 => ?_) (fun h3 => ?_)
      · have e : sErr o f = typeF f.typ := by
          unfold sErr
          rw [if_neg (by omega), if_neg (by omega)]
          unfold Fr.err
          rw [if_neg (by omega)]
        refine ⟨by rw [e, hy], H.bel⟩
      · refine no ?_
        unfold sErr
        rw [if_neg (by omega), if_neg (by omega)]
        unfold Fr.err
        rw [if_pos (by omega)]
        decide
    · refine no ?_
      unfold sErr
      rw [if_neg (by omega), if_pos (by omega)]
      decide
  · refine no ?_
    unfold sErr
    rw [if_pos (by omega)]
    decide
theorem sealable_t {w : World} {o : Ot} {f : Fr} {A : Option Addr} {n c : Nat} (hn : f.body.length = n) : Calls Try.prog 28 #[.agg (ov o).toArray, .agg (fv f A n c).toArray] w (Ret (.bool (decide (sErr o f = 0))) w) := by
  refine weftlaw7_sealable.run ?_
  unfold weftlaw7_sealable.s
  refine own_new (l := ov o) (Own.refl w) fun g1 w2 H => ?_
  refine own_new (l := fv f A n c) H fun g3 w4 H => ?_
  refine ⟨_, H.cell 0 12 rfl rfl, ?_⟩
  refine ifD (fun h1 => ?_) (fun h1 => ?_)
  · refine ⟨_, H.cell 0 12 rfl rfl, ?_⟩
    refine ifN (fun h2 => ?_) (fun h2 => ?_)
    · refine ⟨_, H.cell 0 12 rfl rfl, ?_⟩
      have k := sealable_j1 hn H (y := (f.typ != 34984)) (by
        unfold typeF
        rw [if_neg (by omega), if_neg h2]
        by_cases h3 : f.typ = 34984
        · rw [if_pos h3, h3]; decide
        · rw [if_neg h3]; simpa using h3)
      exact ⟨by with_reducible apply k⟩
    · have k := sealable_j1 hn H (y := false) (by
        unfold typeF
        rw [if_neg (by omega), if_pos h2]
        decide)
      exact ⟨by with_reducible apply k⟩
  · have k := sealable_j1 hn H (y := false) (by
      unfold typeF
      rw [if_pos (by omega)]
      decide)
    exact ⟨by with_reducible apply k⟩
section
variable {o : Ot} {f : Fr} (ho : o.Fine) (hf : f.Fine) (h : sErr o f = 0)
include ho hf h
theorem sOut_eq : sOut o f = (gPk o f 8 0 0 0 0).bytes (gPk o f 8 0 0 0 0).sum := by
  unfold sOut
  rw [if_pos h, gPk_own]
theorem own_open {w w' : World} {e : Ending} (tail : List Int) (k : RetOp w (pkOf (sOut o f ++ tail)) (oBad (sOut o f ++ tail)) e w') : Bel w w' ∧ ∃ A c, e = .returned (.tuple #[.agg (ov o).toArray, .agg (fv f A f.body.length c).toArray, .int .i64 0]) ∧ By w' A f.body.length f.body ∧ Fre w A := by
  have hz := sErr_zero h
  have c8 : (0 : Int) ≤ 8 ∧ (8 : Int) ≤ 255 := by decide
  have c0 : (0 : Int) ≤ 0 ∧ (0 : Int) ≤ 255 := by decide
  obtain ⟨q1, q2, q3⟩ := gPk_open ho hf ⟨hz.1, hz.2.1⟩ hz.2.2 c8 c0 c0 c0 c0 ho.sp tail
  obtain ⟨q4, _⟩ := gPk_reads ho hf hz.2.2 c8 c0 c0 c0 c0 tail
  rw [sOut_eq ho hf h, q1, q4, if_neg (by decide)] at k
  obtain ⟨k1, A, c, e1, y, fr⟩ := k
  rw [q2, q3] at e1
  rw [q3] at y
  exact ⟨k1, A, c, e1, y, fr⟩
theorem sOut_n : (sOut o f).length = 50 + f.body.length := by
  unfold sOut
  rw [if_pos h, Pk.bytes_len]
  show 20 + 0 + (sBody o f).length = _
  rw [sBody_len]
  omega
theorem sOut_bytes : Bytes (sOut o f) := by
  have hz := sErr_zero h
  unfold sOut
  rw [if_pos h]
  have hF := sPk_fine ho hf hz.2.2
  have hE := sPk_err ho hf hz.2.2
  exact (Pk.head_bytes hF hE _).append hF.body
end
section
variable {w : World} {o : Ot} (ho : o.Fine) {f : Fr} {A : Option Addr} {n c : Nat} (hf : f.Fine) (hA : By w A n f.body) (hlb : f.body.length ≤ 1048576) (hz : sErr o f = 0)
include ho hf hA hlb hz
theorem There_j2 {wa : World} {g3 g4 g11 g12 : Nat} {D : Option Addr} {r : Nat} {B : Option Addr} {m d : Nat} {tail : List Int} (ht : Bytes tail) (y : By wa B m (sOut o f ++ tail)) (hm : m ≤ d) (hm2 : m ≤ 100000000000000)
    (H : Own w wa [(g12, 46, fv f D f.body.length r), (g11, 50, ov o), (g4, 46, fv f A n c), (g3, 50, ov o)]) : weftlaw7_TunnelThere.J2 g3 g4 B m d g11 g12 wa (Yes w) := by
  unfold weftlaw7_TunnelThere.J2; intros
  rw [weftlaw7_TunnelThere.j2_eq]
  refine call_of (Open_c y ((sOut_bytes ho hf hz).append ht) hm hm2) ?_
  rintro e w2 he
  obtain ⟨k2, E, q, rfl, yf, ff⟩ := own_open ho hf hz tail he
  have o1 := H.old 1 rfl ff
  have o0 := H.old 0 rfl ff
  replace H := H.call k2
  refine ⟨_, _, _, _, _, _, _, _, _, _, _, _, _, _, _, _, _, _, _, _, _, _, _, rfl, ?_⟩
  refine own_putB 1 H rfl rfl (Nat.le_refl 6) fun w3 H u3 => ?_
  refine own_putB 0 H rfl rfl (Nat.le_refl 14) fun w4 H u4 => ?_
  replace yf := (yf.but u3 o1).but u4 o0
  replace H : Own w w4 [(g12, 46, fv f E f.body.length q), (g11, 50, ov o), (g4, 46, fv f A n c), (g3, 50, ov o)] := H
  refine ifE (fun _ => ?_) (fun h => absurd rfl h)
  refine ld_ou (H.bk 1 rfl) ?_
  refine ld_ou (H.bk 3 rfl) ?_
  refine ifEO ?_
  refine ld_fr (H.bk 2 rfl) ?_
  refine ld_fr (H.bk 0 rfl) ?_
  refine call_of (sameFrame_t (hA.bel H.bel) yf (by rw [← hA.len]; omega)) ?_
  rintro e w5 ⟨rfl, k5⟩
  exact ⟨_, rfl, rfl, H.bel.trans k5⟩
theorem There_j1 {wa : World} {g3 g4 : Nat} {B : Option Addr} {m d : Nat} {b : List Int} (hB : By w B m b) (hbb : Bytes b) (hlm : m ≤ 1048576) {E : Option Addr} {q r : Nat} (y : By wa E q (sOut o f)) (hqr : q ≤ r)
    (H : Own w wa [(g4, 46, fv f A n c), (g3, 50, ov o)]) : weftlaw7_TunnelThere.J1 B m d g3 g4 E q r wa (Yes w) := by
  unfold weftlaw7_TunnelThere.J1; intros
  rw [weftlaw7_TunnelThere.j1_eq]
  have hq := sOut_n ho hf hz
  have yl := y.len
  refine buf_app (Buf.nil (Own.refl wa)) y (by omega) fun A1 c1 w1 q1 => ?_
  refine buf_app q1 ((hB.bel H.bel).bel q1.own.bel) (by omega) fun A2 c2 w2 q2 => ?_
  have y2 := q2.by
  have l2 := q2.le
  rw [List.nil_append] at y2
  replace y := y.bel q2.own.bel
  replace H := H.call q2.own.bel
  have hOb := sOut_bytes ho hf hz
  refine call_of (Open_c y hOb hqr (by omega)) ?_
  rintro e w3 he
  have he' : RetOp w2 (pkOf (sOut o f ++ [])) (oBad (sOut o f ++ [])) e w3 := by rwa [List.append_nil]
  obtain ⟨k3, D, j, rfl, yf, ff⟩ := own_open ho hf hz [] he'
  replace H := H.call k3
  replace y2 := y2.bel k3
  refine ⟨_, _, _, _, _, _, _, _, _, _, _, _, _, _, _, _, _, _, _, _, _, _, _, rfl, ?_⟩
  refine own_newC (l := ov oz) H fun g1 w7 H k7 hg7 => ?_
  refine own_newC (l := fv fz none 0 0) H fun g2 w8' H k8 hg8 => ?_
  have zy := (yf.bel k7).newer hg8
  have zr := (y2.bel k7).newer hg8
  have zy1 := yf.newer hg7
  have zr1 := y2.newer hg7
  replace yf := (yf.bel k7).bel k8
  replace y2 := (y2.bel k7).bel k8
  refine own_putB 1 H rfl rfl (by decide) fun w9 H u9 => ?_
  replace yf := yf.but1 u9 zy1
  replace y2 := y2.but1 u9 zr1
  refine own_putB 0 H rfl rfl (by decide) fun w10 H u10 => ?_
  replace yf := yf.but1 u10 zy
  replace y2 := y2.but1 u10 zr
  replace H : Own w w10 [(g2, 46, fv f D f.body.length j), (g1, 50, ov o), (g4, 46, fv f A n c), (g3, 50, ov o)] := H
  refine ifN (fun h => absurd rfl h) (fun _ => ?_)
  refine ld_ou (H.bk 1 rfl) ?_
  refine ld_ou (H.bk 3 rfl) ?_
  refine ifNO ?_
  refine ld_fr (H.bk 2 rfl) ?_
  refine ld_fr (H.bk 0 rfl) ?_
  refine call_of (sameFrame_t (hA.bel H.bel) yf (by rw [← hA.len]; omega)) ?_
  rintro e w16 ⟨rfl, k16⟩
  replace H := H.call k16
  replace y2 := y2.bel k16
  refine ⟨_, rfl, ifNot (fun h => by cases h) (fun _ => ?_)⟩
  have k := There_j2 ho hf hA hlb hz hbb y2 l2 (by omega) H
  exact ⟨by with_reducible apply k⟩
end
theorem TunnelThere_t {w : World} {o : Ot} (ho : o.Fine) {f : Fr} {A : Option Addr} {n c : Nat} (h : f.Fine ∧ By w A n f.body ∧ n ≤ c ∧ f.body.length ≤ 1048576) {B : Option Addr} {m d : Nat} (hB : ∃ b, By w B m b ∧ Bytes b ∧ m ≤ d ∧ m ≤ 1048576) :
    Calls Try.prog 9 #[.agg (ov o).toArray, .agg (fv f A n c).toArray, .slice B m d] w (Yes w) := by
  obtain ⟨hf, hA, _, hlb⟩ := h
  obtain ⟨b, hB, hbb, _, hlm⟩ := hB
  refine weftlaw7_TunnelThere.run ?_
  unfold weftlaw7_TunnelThere.s
  have hl := hA.len
  refine own_new (l := ov o) (Own.refl w) fun g1 w2 H => ?_
  refine own_new (l := fv f A n c) H fun g3 w4 H => ?_
  refine call_of (begun_t w4) ?_
  rintro e w5 ⟨rfl, k5⟩
  replace H := H.call k5
  refine ⟨_, rfl, ifNot (fun h => by cases h) (fun _ => ?_)⟩
  refine ld_ou (H.bk 1 rfl) ?_
  refine ld_fr (H.bk 0 rfl) ?_
  refine call_of (Seal_c ho hf (hA.bel H.bel)) ?_
  rintro e w6 ⟨k6, E, q, r, rfl, y, hqr, _⟩
  replace H := H.call k6
  refine ⟨_, _, _, _, rfl, ?_⟩
  refine ld_ou (H.bk 1 rfl) ?_
  refine ld_fr (H.bk 0 rfl) ?_
  refine call_of (sealable_t hl) ?_
  rintro e w7 ⟨rfl, k7⟩
  replace H := H.call k7
  replace y := y.bel k7
  refine ⟨_, rfl, ifNot (fun h => ?_) (fun h => ?_)⟩
  · have hz : sErr o f ≠ 0 := of_decide_eq_false h
    refine ifN (fun _ => ?_) (fun h => absurd h hz)
    have e0 : sOut o f = [] := by unfold sOut; rw [if_neg hz]
    rw [e0] at y
    have y0 : 0 = q := y.len
    subst y0
    exact ⟨rfl, H.bel⟩
  · have hz : sErr o f = 0 := of_decide_eq_true h
    refine ifN (fun h => absurd hz h) (fun _ => ?_)
    refine ⟨_, _, _, H.cell 0 13 rfl rfl, ?_⟩
    refine let_as ((50 + n : Nat) : Int) (by rw [w64 (by omega) (by omega)]; omega) ?_
    have hq := sOut_n ho hf hz
    have yl := y.len
    refine ifN (fun h => absurd (by omega) h) (fun _ => ?_)
    have k := There_j1 (d := d) ho hf hA hlb hz hB hbb hlm y hqr H
    exact ⟨by with_reducible apply k⟩
end Go.Proofs.YtleelkkddjldnaaS
