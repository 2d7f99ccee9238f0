/- Package weftlaw7: sealable, TunnelThere.
   Conditions: the arguments are as a row's arguments are. -/
import Derived.Test.YtphbdmafchjjeaaSTLawS
import Derived.Test.YtphbdmafchjjeaaSTLawO
import Derived.Test.YtphbdmafchjjeaaSTunR
import Derived.Test.YtphbdmafchjjeaaSFY
namespace Go.Proofs.YtphbdmafchjjeaaS
open Go Go.RowKit Go.Proofs Go.Proofs.YtphbdmafchjjeaaX
set_option maxRecDepth 100000
set_option linter.unusedVariables false
set_option linter.unusedSectionVars false
set_option linter.unusedSimpArgs false

theorem ifEO {a b c d e f : Int} {X Y : Prop} (h : X) : if (eqV [.int .u32 a, .int .u32 b, .int .u16 c, .int .u16 d, .int .u8 e, .int .i64 f] [.int .u32 a, .int .u32 b, .int .u16 c, .int .u16 d, .int .u8 e, .int .i64 f]) = true then X else Y := by
  rw [eqV_ou, if_pos rfl]
  exact h
theorem sealable_j1 {w wa : World} {o : Ot} {f : Fr} {A : Option Addr} {n c : Nat} (hn : f.body.length = n) {g2 g3 : Nat} (H : Own w wa [(g3, 31, fv f A n c), (g2, 26, ov o)]) {y : Bool} (hy : y = decide (typeF f.typ = 0)) :
    weftlaw7_sealable.J1 g2 g3 y wa (Ret (.bool (decide (sErr o f = 0))) w) := by
  unfold weftlaw7_sealable.J1; intros
  rw [weftlaw7_sealable.j1_eq]
  have no : sErr o f ≠ 0 → Ret (.bool (decide (sErr o f = 0))) w (.returned (.bool false)) wa := fun h => ⟨by rw [decide_eq_false h], H.bel⟩
  refine ⟨_, H.cell 1 5 rfl rfl, ?_⟩
  refine ifD (fun h1 => ?_) (fun h1 => ?_)
  · refine ⟨_, H.cell 1 5 rfl rfl, ?_⟩
    refine ifD (fun h2 => ?_) (fun h2 => ?_)
    · refine ⟨_, _, _, H.cell 0 13 rfl rfl, ?_⟩
      refine ifD (fun h3 => ?_) (fun h3 => ?_)
      · have e : sErr o f = typeF f.typ := by
          unfold sErr
          rw [if_neg (by omega), if_neg (by omega)]
          unfold Fr.err
          rw [if_neg (by omega)]
        refine ⟨by rw [e, hy], H.bel⟩
      · refine no ?_
        unfold sErr
        rw [if_neg (by omega), if_neg (by omega)]
        unfold Fr.err
        rw [if_pos (by omega)]
        decide
    · refine no ?_
      unfold sErr
      rw [if_neg (by omega), if_pos (by omega)]
      decide
  · refine no ?_
    unfold sErr
    rw [if_pos (by omega)]
    decide
theorem sealable_t {w : World} {o : Ot} {f : Fr} {A : Option Addr} {n c : Nat} (hn : f.body.length = n) : Calls Try.prog 5 #[.agg (ov o).toArray, .agg (fv f A n c).toArray] w (Ret (.bool (decide (sErr o f = 0))) w) := by
  refine weftlaw7_sealable.run ?_
  unfold weftlaw7_sealable.s
  refine own_new (l := ov o) (Own.refl w) fun g1 w2 H => ?_
  refine own_new (l := fv f A n c) H fun g3 w4 H => ?_
  refine ⟨_, H.cell 0 12 rfl rfl, ?_⟩
  refine ifD (fun h1 => ?_) (fun h1 => ?_)
  · refine ⟨_, H.cell 0 12 rfl rfl, ?_⟩
    refine ifN (fun h2 => ?_) (fun h2 => ?_)
    · refine ⟨_, H.cell 0 12 rfl rfl, ?_⟩
      have k := sealable_j1 hn H (y := (f.typ != 34984)) (by
        unfold typeF
        rw [if_neg (by omega), if_neg h2]
        by_cases h3 : f.typ = 34984
        · rw [if_pos h3, h3]; decide
        · rw [if_neg h3]; simpa using h3)
      exact ⟨by with_reducible apply k⟩
    · have k := sealable_j1 hn H (y := false) (by
        unfold typeF
        rw [if_neg (by omega), if_pos h2]
        decide)
      exact ⟨by with_reducible apply k⟩
  · have k := sealable_j1 hn H (y := false) (by
      unfold typeF
      rw [if_pos (by omega)]
      decide)
    exact ⟨by with_reducible apply k⟩
section
variable {o : Ot} {f : Fr} (ho : o.Fine) (hf : f.Fine) (h : sErr o f = 0)
include ho hf h
theorem sOut_eq : sOut o f = (gPk o f 8 0 0 0 0).bytes (gPk o f 8 0 0 0 0).sum := by
  unfold sOut
  rw [if_pos h, gPk_own]
theorem own_open {w w' : World} {e : Ending} (tail : List Int) (k : RetOp w (pkOf (sOut o f ++ tail)) (oBad (sOut o f ++ tail)) e w') : Bel w w' ∧ ∃ A c, e = .returned (.tuple #[.agg (ov o).toArray, .agg (fv f A f.body.length c).toArray, .int .i64 0]) ∧ By w' A f.body.length f.body ∧ Fre w A := by
  have hz := sErr_zero h
  have c8 : (0 : Int) ≤ 8 ∧ (8 : Int) ≤ 255 := by decide
  have c0 : (0 : Int) ≤ 0 ∧ (0 : Int) ≤ 255 := by decide
  obtain ⟨q1, q2, q3⟩ := gPk_open ho hf ⟨hz.1, hz.2.1⟩ hz.2.2 c8 c0 c0 c0 c0 ho.sp tail
  obtain ⟨q4, _⟩ := gPk_reads ho hf hz.2.2 c8 c0 c0 c0 c0 tail
  rw [sOut_eq ho hf h, q1, q4, if_neg (by decide)] at k
  obtain ⟨k1, A, c, e1, y, fr⟩ := k
  rw [q2, q3] at e1
  rw [q3] at y
  exact ⟨k1, A, c, e1, y, fr⟩
theorem sOut_n : (sOut o f).length = 50 + f.body.length := by
  unfold sOut
  rw [if_pos h, Pk.bytes_len]
  show 20 + 0 + (sBody o f).length = _
  rw [sBody_len]
  omega
theorem sOut_bytes : Bytes (sOut o f) := by
  have hz := sErr_zero h
  unfold sOut
  rw [if_pos h]
  have hF := sPk_fine ho hf hz.2.2
  have hE := sPk_err ho hf hz.2.2
  exact (Pk.head_bytes hF hE _).append hF.body
end
section
variable {w : World} {o : Ot} (ho : o.Fine) {f : Fr} {A : Option Addr} {n c : Nat} (hf : f.Fine) (hA : By w A n f.body) (hlb : f.body.length ≤ 1048576) (hz : sErr o f = 0)
include ho hf hA hlb hz
end
end Go.Proofs.YtphbdmafchjjeaaS
