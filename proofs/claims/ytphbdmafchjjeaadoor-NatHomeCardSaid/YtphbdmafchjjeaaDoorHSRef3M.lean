/- What the small functions of package weftref3 answer: clone, two, four, put2, total, fold, Sum.
   Conditions: bytes are 0 to 255; lists are no longer than memory lets. -/
import Derived.Test.YtphbdmafchjjeaaDoorHSIp4B
import Derived.Test.YtphbdmafchjjeaaDoorHSBuf
import Derived.Test.YtphbdmafchjjeaaDoorHSPk
namespace Go.Proofs.YtphbdmafchjjeaaDoorS
open Go Go.RowKit Go.Proofs Go.Proofs.YtphbdmafchjjeaaDoorX
set_option maxRecDepth 100000
set_option linter.unusedVariables false
set_option linter.unusedSimpArgs false

/-- A slice with these bytes is answered, in memory of its own. -/
def RetBy (w : World) (l : List Int) (e : Ending) (w' : World) : Prop := Bel w w' ∧ ∃ A c, e = .returned (.slice A l.length c) ∧ By w' A l.length l ∧ l.length ≤ c ∧ Fre w A
end Go.Proofs.YtphbdmafchjjeaaDoorS
namespace Go.Proofs.YtphbdmafchjjeaaDoorS
open Go Go.RowKit Go.Proofs Go.Proofs.YtphbdmafchjjeaaDoorX
set_option maxRecDepth 100000
set_option linter.unusedVariables false
set_option linter.unusedSimpArgs false

theorem area_nil' : area [] = true := by simp [area]
end Go.Proofs.YtphbdmafchjjeaaDoorS
namespace Go.Proofs.YtphbdmafchjjeaaDoorS
open Go Go.RowKit Go.Proofs Go.Proofs.YtphbdmafchjjeaaDoorX
set_option maxRecDepth 100000
set_option linter.unusedVariables false
set_option linter.unusedSimpArgs false

end Go.Proofs.YtphbdmafchjjeaaDoorS
namespace Go.Proofs.YtphbdmafchjjeaaDoorS
open Go Go.RowKit Go.Proofs Go.Proofs.YtphbdmafchjjeaaDoorX
set_option maxRecDepth 100000
set_option linter.unusedVariables false
set_option linter.unusedSimpArgs false

/-! ### Build -/
/-! ### front, read, Peek -/
/-- A packet that was read, or why it was refused. -/
def RetRd (w : World) (whole : Bool) (b : List Int) (e : Ending) (w' : World) : Prop := Bel w w' ∧ if bad whole b = 0 then ∃ A1 c1 A2 c2, e = .returned (.tuple #[.agg (hb b A1 (hlen b - 20) c1 ++ [Value.slice A2 (there b - hlen b) c2]).toArray, .int .i64 0]) ∧
      By w' A1 (hlen b - 20) ((b.take (hlen b)).drop 20) ∧ By w' A2 (there b - hlen b) ((b.take (there b)).drop (hlen b)) ∧ hlen b - 20 ≤ c1 ∧ there b - hlen b ≤ c2 ∧ Fre w A1 ∧ Fre w A2
      else e = .returned (.tuple #[.agg (pb pz none 0 0 none 0 0).toArray, .int .i64 (bad whole b)])
end Go.Proofs.YtphbdmafchjjeaaDoorS
namespace Go.Proofs.YtphbdmafchjjeaaDoorS
open Go Go.RowKit Go.Proofs Go.Proofs.YtphbdmafchjjeaaDoorX
set_option maxRecDepth 100000
set_option linter.unusedVariables false
set_option linter.unusedSimpArgs false

theorem at_head {w : World} {g : Nat} {t : TypeId} {a0 a1 : Int} {a2 a3 : Bool} {a4 a5 a6 a7 a8 : Int} {A : Option Addr} {n c : Nat} {l : List Value} (h : Bk w g t (hv a0 a1 a2 a3 a4 a5 a6 a7 a8 A n c ++ l)) :
    At w ⟨g, 0, none⟩ [.int .u8 a0, .int .u16 a1, .bool a2, .bool a3, .int .i64 a4, .int .u8 a5, .int .u8 a6, .int .u32 a7, .int .u32 a8, .slice A n c] := fun j u hu => by
  have hj : j < 10 := (List.getElem?_eq_some_iff.1 hu).1
  rw [add_blk, Nat.zero_add]
  refine h.cell j ?_
  rw [List.getElem?_append_left hj]
  exact hu
theorem RetRd.no {w0 w w' : World} {whole : Bool} {b : List Int} {k : Int} (h : bad whole b = k) (hk : k ≠ 0) (hb : Bel w0 w') : RetRd w0 whole b (.returned (.tuple #[.agg (pb pz none 0 0 none 0 0).toArray, .int .i64 k])) w' := by
  refine ⟨hb, ?_⟩
  rw [if_neg (by rw [h]; exact hk), h]
end Go.Proofs.YtphbdmafchjjeaaDoorS
namespace Go.Proofs.YtphbdmafchjjeaaDoorS
open Go Go.RowKit Go.Proofs Go.Proofs.YtphbdmafchjjeaaDoorX
set_option maxRecDepth 100000
set_option linter.unusedVariables false
set_option linter.unusedSectionVars false
set_option linter.unusedSimpArgs false

/-- The packet that was read; none: all zero. -/
def pkOf (b : List Int) : Pk := ⟨b.getD 1 0, wd b 4, decide (wd b 6 / 16384 % 2 = 1), decide (wd b 6 / 8192 % 2 = 1), wd b 6 % 8192 * 8, b.getD 8 0, b.getD 9 0, lg b 12, lg b 16, (b.take (hlen b)).drop 20, (b.take (there b)).drop (hlen b)⟩
def pkOut (b : List Int) : Pk := if bad true b = 0 then pkOf b else pz
theorem rd_out {w w' : World} {b : List Int} {e : Ending} (h : RetRd w true b e w') : Bel w w' ∧ RetPk w (pkOut b) (bad true b) e w' := by
  obtain ⟨k, h⟩ := h
  refine ⟨k, ?_⟩
  unfold pkOut
  by_cases h0 : bad true b = 0
  · rw [if_pos h0] at h
    obtain ⟨A1, c1, A2, c2, rfl, y1, y2, l1, l2, f1, f2⟩ := h
    rw [if_pos h0, h0]
    exact ⟨_, _, _, _, _, _, rfl, ⟨y1, y2, l1, l2⟩, f1, f2⟩
  · rw [if_neg h0] at h
    subst h
    rw [if_neg h0]
    exact ret_pz w w' _
end Go.Proofs.YtphbdmafchjjeaaDoorS
namespace Go.Proofs.YtphbdmafchjjeaaDoorS
open Go Go.RowKit Go.Proofs Go.Proofs.YtphbdmafchjjeaaDoorX
set_option maxRecDepth 100000
set_option linter.unusedVariables false
set_option linter.unusedSectionVars false
set_option linter.unusedSimpArgs false

/-! ### Adjust -/
def adjS (s o n : Int) : Int := 65535 - S ((65535 - s) + (65535 - o) + n)
theorem adjS_range {s o n : Int} (h1 : 0 ≤ s ∧ s ≤ 65535) (h2 : 0 ≤ o ∧ o ≤ 65535) (h3 : 0 ≤ n ∧ n ≤ 65535) : 0 ≤ adjS s o n ∧ adjS s o n ≤ 65535 := by
  have := S_range (t := (65535 - s) + (65535 - o) + n) (by omega)
  unfold adjS
  omega
theorem Adjust_c (w : World) {s o n : Int} (h1 : 0 ≤ s ∧ s ≤ 65535) (h2 : 0 ≤ o ∧ o ≤ 65535) (h3 : 0 ≤ n ∧ n ≤ 65535) : Calls Tryd.prog 79 #[.int .u16 s, .int .u16 o, .int .u16 n] w (Ret (.int .u16 (adjS s o n)) w) := by
  refine ip4_Adjust.run ?_
  unfold ip4_Adjust.s
  refine let_as _ (not_u16 h1.1 h1.2) ?_
  refine let_as _ (wu64 (by omega) (by omega)) ?_
  refine let_as _ (not_u16 h2.1 h2.2) ?_
  refine let_as _ (wu64 (by omega) (by omega)) ?_
  refine let_as _ (wu64 (by omega) (by omega)) ?_
  refine let_as _ (wu64 (by omega) (by omega)) ?_
  refine let_as _ (wu64 (by omega) (by omega)) ?_
  have hS := S_range (t := (65535 - s) + (65535 - o) + n) (by omega)
  refine call_of (folded_c w (by omega) (by omega)) ?_
  rintro e w1 ⟨rfl, k1⟩
  refine ⟨_, rfl, ?_⟩
  refine let_as _ (not_u16 hS.1 hS.2) ?_
  exact ⟨rfl, k1⟩

/-! ### a list and an error -/
/-- A list of one's own and an error are answered. -/
def RetLB (w : World) (l : List Int) (k : Int) (e : Ending) (w' : World) : Prop := ∃ A c, e = .returned (.tuple #[.slice A l.length c, .int .i64 k]) ∧ Buf w w' [] A l.length c l
theorem RetLB.no {w w' : World} (h : Bel w w') (k : Int) : RetLB w [] k (.returned (.tuple #[.slice none 0 0, .int .i64 k])) w' := ⟨none, 0, rfl, Buf.nil ((Own.refl w).call h)⟩
/-- A list, an error. -/
def RetLE (w : World) (l : List Int) (k : Int) (e : Ending) (w' : World) : Prop := Bel w w' ∧ ∃ A c, e = .returned (.tuple #[.slice A l.length c, .int .i64 k]) ∧ By w' A l.length l ∧ l.length ≤ c ∧ (0 < l.length → Fre w A)
theorem RetLB.le {w w' : World} {l : List Int} {k : Int} {e : Ending} (h : RetLB w l k e w') : RetLE w l k e w' := by
  obtain ⟨A, c, rfl, hb⟩ := h
  exact ⟨hb.own.bel, A, c, rfl, hb.by, hb.le, fun _ => hb.fre⟩
theorem RetLE.no {w w' : World} (h : Bel w w') (k : Int) : RetLE w [] k (.returned (.tuple #[.slice none 0 0, .int .i64 k])) w' := (RetLB.no h k).le
/-- Build's answer. -/
def bldL (p : Pk) : List Int := if p.err = 0 then p.bytes p.sum else []
theorem BuildB_c {w : World} {p : Pk} (h : p.Fine) {A B : Option Addr} {n c m d : Nat} (ha : By w A n p.opts) (hb : By w B m p.body) (hc : n ≤ c) : Calls Tryd.prog 29 #[.agg (pb p A n c B m d).toArray] w (RetLB w (bldL p) p.err) := by
  refine call_of (Build_c h ha hb hc) ?_
  rintro e w1 ⟨k1, he⟩
  unfold bldL
  by_cases h0 : p.err = 0
  · rw [if_pos h0] at he ⊢
    obtain ⟨g, rfl, hk, hg⟩ := he
    rw [h0]
    refine ⟨_, _, rfl, Buf.full (M := []) ?_ rfl (by have h65 := (Pk.err_zero h0).2.2; have e : p.tl = 20 + p.opts.length + p.body.length := rfl; rw [Pk.bytes_len]; omega)⟩
    refine ⟨k1, fun i g' t' l' hi => ?_, by simp⟩
    match i, hi with
    | 0, hi =>
      simp only [List.getElem?_cons_zero, Option.some.injEq, Prod.mk.injEq] at hi
      obtain ⟨rfl, rfl, rfl⟩ := hi
      exact ⟨hk, hg⟩
  · rw [if_neg h0] at he ⊢
    subst he
    exact RetLB.no k1 _
/-! ### Age -/
def ageE (b : List Int) : Int := if bad true b = 0 then if b.getD 8 0 ≤ 1 then 35 else 0 else bad true b
def ageL (b : List Int) : List Int := if bad true b = 0 then if b.getD 8 0 ≤ 1 then [] else (older (ofB b)).bytes (older (ofB b)).sum else []
theorem pkOf_ofB {b : List Int} (h : bad true b = 0) : pkOf b = ofB b := by
  unfold pkOf ofB optsOf Go.Proofs.YtphbdmafchjjeaaDoorX.bodyOf
  rw [there_whole h]
end Go.Proofs.YtphbdmafchjjeaaDoorS
