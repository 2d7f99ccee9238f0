/- Plain arithmetic of the one's complement sum: folding, words of two bytes, bits of whole numbers.
   Conditions: none; every statement is proved here. -/
import Derived.Laws.BitsAllLaws
import Derived.Laws.BitsLemmas
namespace Go.Proofs.YtphbdmafchjjeaaDoorX
set_option linter.unusedVariables false
set_option linter.unusedSimpArgs false

/-- The sum, folded. -/
def S (t : Int) : Int := if t = 0 then 0 else 1 + (t - 1) % 65535
theorem S_zero : S 0 = 0 := rfl
theorem S_pos {t : Int} (h : 0 < t) : S t = 1 + (t - 1) % 65535 := by unfold S; rw [if_neg (by omega)]
theorem S_range {t : Int} (h : 0 ≤ t) : 0 ≤ S t ∧ S t ≤ 65535 := by unfold S; split <;> omega
theorem S_eq_zero {t : Int} (h : 0 ≤ t) : S t = 0 ↔ t = 0 := by unfold S; split <;> omega
theorem S_small {t : Int} (h0 : 0 ≤ t) (h : t ≤ 65535) : S t = t := by unfold S; split <;> omega
theorem S_mod {t : Int} (h : 0 ≤ t) : S t % 65535 = t % 65535 := by unfold S; split <;> omega
theorem S_congr {a b : Int} (ha : 0 < a) (hb : 0 < b) (h : a % 65535 = b % 65535) : S a = S b := by rw [S_pos ha, S_pos hb]; omega
theorem S_fold {t : Int} (h : 65535 < t) : S (t / 65536 + t % 65536) = S t := by
  refine S_congr ?_ (by omega) (by omega)
  omega
theorem S_ne {a b : Int} (ha : 0 ≤ a) (h : a % 65535 ≠ b % 65535) (hb : 0 ≤ b) : S a ≠ S b := by
  intro e
  have := S_mod ha
  have := S_mod hb
  rw [e] at *
  omega
theorem S_full {t : Int} (h : 0 < t) (hm : t % 65535 = 0) : S t = 65535 := by rw [S_pos h]; omega
theorem S_add65535 {t : Int} (h : 0 < t) : S (t + 65535) = S t := S_congr (by omega) h (by omega)

/-- The sum of words: 'true': the next byte is a high one. -/
def tot : Bool → List Int → Int
  | _, [] => 0
  | true, x :: l => 256 * x + tot false l
  | false, x :: l => x + tot true l
/-- Is the next byte a high one, behind these? -/
def hi : Bool → List Int → Bool
  | b, [] => b
  | b, _ :: l => hi (!b) l
def Bytes (l : List Int) : Prop := ∀ x ∈ l, 0 ≤ x ∧ x ≤ 255
theorem Bytes.nil : Bytes [] := fun x hx => by cases hx
theorem Bytes.cons {x : Int} {l : List Int} (h0 : 0 ≤ x ∧ x ≤ 255) (h : Bytes l) : Bytes (x :: l) := fun y hy => by
  rcases List.mem_cons.1 hy with rfl | hy
  · exact h0
  · exact h y hy
theorem Bytes.head {x : Int} {l : List Int} (h : Bytes (x :: l)) : 0 ≤ x ∧ x ≤ 255 := h x List.mem_cons_self
theorem Bytes.tail {x : Int} {l : List Int} (h : Bytes (x :: l)) : Bytes l := fun y hy => h y (List.mem_cons_of_mem _ hy)
theorem Bytes.append {l m : List Int} (h : Bytes l) (k : Bytes m) : Bytes (l ++ m) := fun x hx => by
  rcases List.mem_append.1 hx with hx | hx
  · exact h x hx
  · exact k x hx
theorem Bytes.left {l m : List Int} (h : Bytes (l ++ m)) : Bytes l := fun x hx => h x (List.mem_append_left _ hx)
theorem Bytes.right {l m : List Int} (h : Bytes (l ++ m)) : Bytes m := fun x hx => h x (List.mem_append_right _ hx)
theorem Bytes.take {l : List Int} (h : Bytes l) (n : Nat) : Bytes (l.take n) := fun x hx => h x (List.mem_of_mem_take hx)
theorem Bytes.drop {l : List Int} (h : Bytes l) (n : Nat) : Bytes (l.drop n) := fun x hx => h x (List.mem_of_mem_drop hx)
theorem Bytes.reverse {l : List Int} (h : Bytes l) : Bytes l.reverse := fun x hx => h x (List.mem_reverse.1 hx)
theorem Bytes.set {l : List Int} (h : Bytes l) (i : Nat) {v : Int} (hv : 0 ≤ v ∧ v ≤ 255) : Bytes (l.set i v) := fun x hx => by
  rcases List.mem_or_eq_of_mem_set hx with hx | hx
  · exact h x hx
  · exact hx ▸ hv
theorem Bytes.getD {l : List Int} (h : Bytes l) (i : Nat) : 0 ≤ l.getD i 0 ∧ l.getD i 0 ≤ 255 := by
  rw [List.getD_eq_getElem?_getD]
  cases hx : l[i]? with
  | none => simp
  | some x => exact h x (List.mem_of_getElem? hx)
theorem Bytes.replicate (n : Nat) {v : Int} (hv : 0 ≤ v ∧ v ≤ 255) : Bytes (List.replicate n v) := fun x hx => by
  rw [(List.mem_replicate.1 hx).2]; exact hv

theorem hi_eq (b : Bool) (l : List Int) : hi b l = if l.length % 2 = 0 then b else !b := by
  induction l generalizing b with
  | nil => rfl
  | cons x l ih =>
    rw [hi, ih]
    simp only [List.length_cons]
    rcases Nat.mod_two_eq_zero_or_one l.length with h | h
    · rw [if_pos h, if_neg (by omega)]
    · rw [if_neg (by omega), if_pos (by omega), Bool.not_not]
theorem tot_append (b : Bool) (l m : List Int) : tot b (l ++ m) = tot b l + tot (hi b l) m := by
  induction l generalizing b with
  | nil => simp [tot, hi]
  | cons x l ih => cases b <;> simp [tot, hi, ih] <;> omega
theorem tot_nonneg {b : Bool} {l : List Int} (h : Bytes l) : 0 ≤ tot b l := by
  induction l generalizing b with
  | nil => simp [tot]
  | cons x l ih =>
    have h1 := ih (b := true) h.tail
    have h2 := ih (b := false) h.tail
    have h3 := h.head
    cases b <;> simp only [tot] <;> omega
theorem tot_le {b : Bool} {l : List Int} (h : Bytes l) : tot b l ≤ 65280 * l.length := by
  induction l generalizing b with
  | nil => simp [tot]
  | cons x l ih =>
    have h1 := ih (b := true) h.tail
    have h2 := ih (b := false) h.tail
    have h3 := h.head
    cases b <;> simp only [tot, List.length_cons] <;> omega
theorem tot_eq_zero {b : Bool} {l : List Int} (h : Bytes l) : tot b l = 0 ↔ ∀ x ∈ l, x = 0 := by
  induction l generalizing b with
  | nil => simp [tot]
  | cons x l ih =>
    have h1 := tot_nonneg (b := true) h.tail
    have h2 := tot_nonneg (b := false) h.tail
    have h3 := h.head
    have e1 := ih (b := true) h.tail
    have e2 := ih (b := false) h.tail
    cases b
    · simp only [tot, List.mem_cons, forall_eq_or_imp, ← e1]; omega
    · simp only [tot, List.mem_cons, forall_eq_or_imp, ← e2]; omega
theorem tot_even (l m : List Int) (h : l.length % 2 = 0) : tot true (l ++ m) = tot true l + tot true m := by rw [tot_append, hi_eq, if_pos h]
theorem tot_word (v : Int) (h0 : 0 ≤ v) (h1 : v ≤ 65535) : tot true [v / 256 % 256, v % 256] = v := by simp only [tot]; omega
theorem tot_zero_behind (l : List Int) : tot true (l ++ [0]) = tot true l := by
  rw [tot_append]
  cases hi true l <;> simp [tot]

/-! ### bits -/
theorem wraps_u16 (n : Int) (h0 : 0 ≤ n) (h1 : n < 2 ^ 16) : IntKind.u16.wrap n = n := by
  simp only [IntKind.wrap, IntKind.bits, IntKind.signed]
  simp
  omega
theorem wraps_u64 (n : Int) (h0 : 0 ≤ n) (h1 : n < 2 ^ 64) : IntKind.u64.wrap n = n := by
  simp only [IntKind.wrap, IntKind.bits, IntKind.signed]
  simp
  omega
theorem u64_small {n : Int} (h0 : 0 ≤ n) (h1 : n ≤ 18446744073709551615) : IntKind.u64.wrap n = n := wraps_u64 n h0 (by omega)
theorem u16_small {n : Int} (h0 : 0 ≤ n) (h1 : n ≤ 65535) : IntKind.u16.wrap n = n := wraps_u16 n h0 (by omega)
theorem u16_mod (n : Int) : IntKind.u16.wrap n = n % 65536 := by
  simp only [IntKind.wrap, IntKind.bits, IntKind.signed]
  simp
theorem u64_mod (n : Int) : IntKind.u64.wrap n = n % 18446744073709551616 := by
  simp only [IntKind.wrap, IntKind.bits, IntKind.signed]
  simp
theorem and_65535 {x : Int} (h0 : 0 ≤ x) (h1 : x ≤ 18446744073709551615) : Go.bits .and .u64 x 65535 = x % 65536 := bits_mask .u64 64 (by decide) wraps_u64 16 (by decide) x h0 (by omega)
theorem nat_not16 (t : Nat) (h : t ≤ 65535) : 65535 ^^^ t = 65535 - t := by
  have h1 : (BitVec.allOnes 16 ^^^ BitVec.ofNat 16 t).toNat = (~~~ (BitVec.ofNat 16 t)).toNat := by rw [BitVec.allOnes_xor]
  rw [BitVec.toNat_xor, BitVec.toNat_not, BitVec.toNat_allOnes, BitVec.toNat_ofNat, Nat.mod_eq_of_lt (by omega)] at h1
  exact h1
theorem not_u16 {t : Int} (h0 : 0 ≤ t) (h1 : t ≤ 65535) : Go.bits .xor .u16 65535 t = 65535 - t := by
  rw [u16_xor 65535 t (by omega) (by omega) h0 (by omega), show (65535 : Int).toNat = 65535 from rfl, nat_not16 t.toNat (by omega)]
  omega
end Go.Proofs.YtphbdmafchjjeaaDoorX
