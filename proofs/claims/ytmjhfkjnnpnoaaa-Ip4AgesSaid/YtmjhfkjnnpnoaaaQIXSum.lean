/- What ip4.Sum, ip4.Adjust and the lists' helpers of the printed program answer, in plain arithmetic.
   Conditions: bytes are 0 to 255, and the lists are short enough that no sum passes 64 bits. -/
import Derived.Test.YtmjhfkjnnpnoaaaQIXMath
import Derived.Test.YtmjhfkjnnpnoaaaQIXOpen
import Derived.Test.YtmjhfkjnnpnoaaaQIXAx1
import Derived.Test.YtmjhfkjnnpnoaaaQIXAx7
namespace Go.Proofs.YtmjhfkjnnpnoaaaX
open Go.RowKit Go.Proofs.Ytmjhfkjnnpnoaaa.XA Go.Proofs.YtmjhfkjnnpnoaaaW.PrintWords Go.Proofs.YtmjhfkjnnpnoaaaW.PrintLast Go.Proofs.YtmjhfkjnnpnoaaaW.PrintMore
set_option linter.unusedVariables false
set_option linter.unusedSimpArgs false

theorem w64 {i : Int} (h0 : -9223372036854775808 ≤ i) (h1 : i ≤ 9223372036854775807) : wrap64 i = i := by unfold wrap64; omega
theorem wf8 {x : Int} (h : (Lit.int .u8 x).wf = true) : 0 ≤ x ∧ x ≤ 255 := by
  simp [Lit.wf, IntKind.min, IntKind.max, IntKind.signed, IntKind.bits] at h
  omega
theorem rd_nat (l : List Int) (i : Nat) : rd l (i : Int) = l.getD i 0 := rfl
theorem rd_lt (l : List Int) (i : Nat) (h : i < l.length) : rd l (i : Int) = l[i] := by simp [rd, List.getD_eq_getElem?_getD, h]
theorem Bytes.rd {l : List Int} (h : Bytes l) (i : Int) : 0 ≤ rd l i ∧ rd l i ≤ 255 := h.getD i.toNat
/-! ### folded -/
theorem folded_ev : ∀ (n : Nat) (t : Int), 0 ≤ t → t ≤ 18446744073709551615 → t.toNat < n → Ev (fun k => ip4_folded.l0 k t) (S t) := by
  intro n
  induction n with
  | zero => intro t _ _ h; omega
  | succ n ih =>
    intro t h0 h1 hn
    by_cases h : t > 65535
    · have e : IntKind.u64.wrap ((t / 65536) + (Go.bits .and .u64 t 65535)) = t / 65536 + t % 65536 := by
        rw [and_65535 h0 h1]
        exact u64_small (by omega) (by omega)
      refine Ev.step (f := fun k => ip4_folded.l0 k (t / 65536 + t % 65536)) (fun k => by rw [ip4_folded.l0, if_pos h, e]) ?_
      rw [← S_fold (by omega : 65535 < t)]
      exact ih _ (by omega) (by omega) (by omega)
    · refine Ev.step (f := fun _ => some (S t)) (fun k => by rw [ip4_folded.l0, if_neg h, u16_small h0 (by omega), S_small h0 (by omega)]) (Ev.now _)
theorem folded_f {t : Int} (h0 : 0 ≤ t) (h1 : t ≤ 18446744073709551615) : Ev (fun k => ip4_folded.f k t) (S t) := folded_ev (t.toNat + 1) t h0 h1 (by omega)

/-! ### Sum -/
theorem sum_inner (parts : List (List Int)) (n11 : Int) (p : List Int) (hp : Bytes p) (hlen : (p.length : Int) ≤ 9223372036854775806) (r : Int)
    (d : Nat) : ∀ (j : Nat) (t : Int) (b : Bool), j + d = p.length → 0 ≤ t → t + 65280 * d ≤ 9223372036854775807 →
    (∀ t' b', t' = t + tot b (p.drop j) → b' = hi b (p.drop j) → Ev (fun k => ip4_Sum.l0 k t' b' parts (parts.length : Int) (wrap64 (n11 + 1))) r) →
    Ev (fun k => ip4_Sum.l1 k t b parts (parts.length : Int) n11 p (p.length : Int) (j : Int)) r := by
  induction d with
  | zero =>
    intro j t b hj ht hb hk
    have : j = p.length := by omega
    subst this
    refine Ev.step (fun k => by rw [ip4_Sum.l1, if_neg (by omega)]) (hk t b (by simp [tot]) (by simp [hi]))
  | succ d ih =>
    intro j t b hj ht hb hk
    have hlt : j < p.length := by omega
    have hx := hp.getD j
    have hd : p.drop j = p.getD j 0 :: p.drop (j + 1) := by
      rw [List.drop_eq_getElem_cons hlt]
      simp [List.getD_eq_getElem?_getD, hlt]
    have hw : wrap64 ((j : Int) + 1) = ((j + 1 : Nat) : Int) := by rw [w64 (by omega) (by omega)]; omega
    have hr : rd p (j : Int) = p.getD j 0 := rfl
    cases b with
    | true =>
      have e : IntKind.u64.wrap (t + (IntKind.u64.wrap ((IntKind.u64.wrap (rd p (j : Int))) * 256))) = t + 256 * p.getD j 0 := by
        simp only [hr, u64_mod]
        omega
      refine Ev.step (fun k => by rw [ip4_Sum.l1, if_pos (by omega), if_pos (by omega), if_pos (by omega), if_pos rfl, hw, e]) ?_
      refine ih (j + 1) _ false (by omega) (by omega) (by omega) (fun t' b' ht' hb' => hk t' b' ?_ ?_)
      · rw [hd, ht']; simp only [tot]; omega
      · rw [hd, hb']; rfl
    | false =>
      have e : IntKind.u64.wrap (t + (IntKind.u64.wrap (rd p (j : Int)))) = t + p.getD j 0 := by
        simp only [hr, u64_mod]
        omega
      refine Ev.step (fun k => by rw [ip4_Sum.l1, if_pos (by omega), if_pos (by omega), if_pos (by omega), if_neg (by decide), hw, e]) ?_
      refine ih (j + 1) _ true (by omega) (by omega) (by omega) (fun t' b' ht' hb' => hk t' b' ?_ ?_)
      · rw [hd, ht']; simp only [tot]; omega
      · rw [hd, hb']; rfl
theorem sum_outer (parts : List (List Int)) (hp : ∀ p ∈ parts, Bytes p) (hl : (parts.length : Int) ≤ 140737488355328)
    (d : Nat) : ∀ (j : Nat) (t : Int) (b : Bool), j + d = parts.length → 0 ≤ t → t + 65280 * (parts.drop j).flatten.length ≤ 9223372036854775807 →
    Ev (fun k => ip4_Sum.l0 k t b parts (parts.length : Int) (j : Int)) (65535 - S (t + tot b (parts.drop j).flatten)) := by
  induction d with
  | zero =>
    intro j t b hj ht hb
    have : j = parts.length := by omega
    subst this
    have hS := S_range ht
    refine Ev.step (fun k => by rw [ip4_Sum.l0, if_neg (by omega)]) ?_
    refine Ev.bind (folded_f ht (by omega)) ?_
    simp only [List.drop_length, List.flatten_nil, tot, Int.add_zero]
    rw [not_u16 hS.1 hS.2]
    exact Ev.now _
  | succ d ih =>
    intro j t b hj ht hb
    have hlt : j < parts.length := by omega
    have hd : parts.drop j = parts[j] :: parts.drop (j + 1) := List.drop_eq_getElem_cons hlt
    have hr : rd_L1 parts (j : Int) = parts[j] := by simp [rd_L1, List.getD_eq_getElem?_getD, hlt]
    have hpj := hp parts[j] (List.getElem_mem hlt)
    rw [hd] at hb ⊢
    simp only [List.flatten_cons, List.length_append] at hb ⊢
    refine Ev.step (fun k => by rw [ip4_Sum.l0, if_pos (by omega), if_pos (by omega), if_pos (by omega), hr]) ?_
    have := tot_le (b := b) hpj
    have h0 := tot_nonneg (b := b) hpj
    refine sum_inner parts (j : Int) parts[j] hpj (by omega) _ parts[j].length 0 t b (by omega) ht (by omega) (fun t' b' ht' hb' => ?_)
    rw [List.drop_zero] at ht' hb'
    have hw : wrap64 ((j : Int) + 1) = ((j + 1 : Nat) : Int) := by rw [w64 (by omega) (by omega)]; omega
    rw [hw]
    have := ih (j + 1) t' b' (by omega) (by omega) (by omega)
    rw [tot_append, ← hb', ← Int.add_assoc, ← ht']
    exact this
/-- Sum: the folded sum of the joined parts, turned over. -/
theorem sum_f {parts : List (List Int)} (hp : ∀ p ∈ parts, Bytes p) (hl : (parts.length : Int) ≤ 140737488355328) (hb : (parts.flatten.length : Int) ≤ 140737488355328) :
    Ev (fun k => ip4_Sum.f k parts) (65535 - S (tot true parts.flatten)) := by
  have := sum_outer parts hp hl parts.length 0 0 true (by omega) (by omega) (by rw [List.drop_zero]; omega)
  simpa [ip4_Sum.f] using this
theorem sum_one {b : List Int} (hp : Bytes b) (hb : (b.length : Int) ≤ 140737488355328) : Ev (fun k => ip4_Sum.f k [b]) (65535 - S (tot true b)) := by
  have := sum_f (parts := [b]) (fun p h => by rw [List.mem_singleton.1 h]; exact hp) (by simp) (by simpa using hb)
  simpa using this
theorem sum_two {a b : List Int} (ha : Bytes a) (hb : Bytes b) (hl : ((a ++ b).length : Int) ≤ 140737488355328) : Ev (fun k => ip4_Sum.f k [a, b]) (65535 - S (tot true (a ++ b))) := by
  have := sum_f (parts := [a, b]) (fun p h => by rcases List.mem_cons.1 h with rfl | h; exact ha; rw [List.mem_singleton.1 h]; exact hb) (by simp) (by simpa using hl)
  simpa using this
/-! ### join, clone -/
end Go.Proofs.YtmjhfkjnnpnoaaaX
