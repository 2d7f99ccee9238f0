/- What ip4.Sum, ip4.Adjust and the lists' helpers of the printed program answer, in plain arithmetic.
   Conditions: bytes are 0 to 255, and the lists are short enough that no sum passes 64 bits. -/
import Derived.Test.YtmjhfkjnnpnoaaaQCXMath
import Derived.Test.YtmjhfkjnnpnoaaaQCXOpen
import Derived.Test.YtmjhfkjnnpnoaaaQCXAx1
import Derived.Test.YtmjhfkjnnpnoaaaQCXAx7
namespace Go.Proofs.YtmjhfkjnnpnoaaaX
open Go.RowKit Go.Proofs.Ytmjhfkjnnpnoaaa.XA Go.Proofs.YtmjhfkjnnpnoaaaW.PrintWords Go.Proofs.YtmjhfkjnnpnoaaaW.PrintLast Go.Proofs.YtmjhfkjnnpnoaaaW.PrintMore
set_option linter.unusedVariables false
set_option linter.unusedSimpArgs false

theorem w64 {i : Int} (h0 : -9223372036854775808 ≤ i) (h1 : i ≤ 9223372036854775807) : wrap64 i = i := by unfold wrap64; omega
theorem wf16 {x : Int} (h : (Lit.int .u16 x).wf = true) : 0 ≤ x ∧ x ≤ 65535 := by
  simp [Lit.wf, IntKind.min, IntKind.max, IntKind.signed, IntKind.bits] at h
  omega
theorem rd_nat (l : List Int) (i : Nat) : rd l (i : Int) = l.getD i 0 := rfl
theorem rd_lt (l : List Int) (i : Nat) (h : i < l.length) : rd l (i : Int) = l[i] := by simp [rd, List.getD_eq_getElem?_getD, h]
theorem Bytes.rd {l : List Int} (h : Bytes l) (i : Int) : 0 ≤ rd l i ∧ rd l i ≤ 255 := h.getD i.toNat
/-! ### folded -/
theorem folded_ev : ∀ (n : Nat) (t : Int), 0 ≤ t → t ≤ 18446744073709551615 → t.toNat < n → Ev (fun k => ip4_folded.l0 k t) (S t) := by
  intro n
  induction n with
  | zero => intro t _ _ h; omega
  | succ n ih =>
    intro t h0 h1 hn
    by_cases h : t > 65535
    · have e : IntKind.u64.wrap ((t / 65536) + (Go.bits .and .u64 t 65535)) = t / 65536 + t % 65536 := by
        rw [and_65535 h0 h1]
        exact u64_small (by omega) (by omega)
      refine Ev.step (f := fun k => ip4_folded.l0 k (t / 65536 + t % 65536)) (fun k => by rw [ip4_folded.l0, if_pos h, e]) ?_
      rw [← S_fold (by omega : 65535 < t)]
      exact ih _ (by omega) (by omega) (by omega)
    · refine Ev.step (f := fun _ => some (S t)) (fun k => by rw [ip4_folded.l0, if_neg h, u16_small h0 (by omega), S_small h0 (by omega)]) (Ev.now _)
theorem folded_f {t : Int} (h0 : 0 ≤ t) (h1 : t ≤ 18446744073709551615) : Ev (fun k => ip4_folded.f k t) (S t) := folded_ev (t.toNat + 1) t h0 h1 (by omega)

/-! ### Sum -/
theorem adjust_f {s o w : Int} (hs : 0 ≤ s ∧ s ≤ 65535) (ho : 0 ≤ o ∧ o ≤ 65535) (hw : 0 ≤ w ∧ w ≤ 65535) : Ev (fun k => ip4_Adjust.f k s o w) (65535 - S ((65535 - s) + (65535 - o) + w)) := by
  have e : IntKind.u64.wrap ((IntKind.u64.wrap ((IntKind.u64.wrap (Go.bits .xor .u16 65535 s)) + (IntKind.u64.wrap (Go.bits .xor .u16 65535 o)))) + (IntKind.u64.wrap w)) = (65535 - s) + (65535 - o) + w := by
    rw [not_u16 hs.1 hs.2, not_u16 ho.1 ho.2]
    simp only [u64_mod]
    omega
  have hS := S_range (t := (65535 - s) + (65535 - o) + w) (by omega)
  refine Ev.congr (f := fun k => (ip4_folded.f k ((65535 - s) + (65535 - o) + w)).bind fun t => some (Go.bits .xor .u16 65535 t)) (fun k => by rw [ip4_Adjust.f, e]) ?_
  refine Ev.bind (folded_f (by omega) (by omega)) ?_
  rw [not_u16 hS.1 hS.2]
  exact Ev.now _

/-! ### join, clone -/
end Go.Proofs.YtmjhfkjnnpnoaaaX
