/- Package nat: a bitmap's first bit that is not set.
   Conditions: the table of package bits stands in memory. -/
import Derived.Test.YtphbdmafchjjeaaDoorHSNatC
import Derived.Test.YtphbdmafchjjeaaDoorHSNtEM
namespace Go.Proofs.YtphbdmafchjjeaaDoorS
open Go Go.RowKit Go.Proofs Go.Proofs.YtphbdmafchjjeaaDoorX
set_option maxRecDepth 100000
set_option linter.unusedVariables false
set_option linter.unusedSectionVars false
set_option linter.unusedSimpArgs false

/-! ### the lowest bit -/
theorem low_and (k m : Nat) (hk : k < 64) (hm : 2 ^ k * (2 * m + 1) < 2 ^ 64) : (2 ^ k * (2 * m + 1)) &&& (2 ^ 64 - 2 ^ k * (2 * m + 1)) = 2 ^ k := by
  have e64 : (2 : Nat) ^ 64 = 2 ^ k * 2 ^ (64 - k) := by rw [← Nat.pow_add]; congr 1; omega
  have hlt : 2 * m + 1 < 2 ^ (64 - k) := by
    rw [e64] at hm
    exact Nat.lt_of_mul_lt_mul_left hm
  rw [e64, ← Nat.mul_sub]
  refine Nat.eq_of_testBit_eq fun i => ?_
  rw [Nat.testBit_and, Nat.testBit_two_pow_mul, Nat.testBit_two_pow_mul, Nat.testBit_two_pow]
  by_cases hi : i ≥ k
  · obtain ⟨j, rfl⟩ : ∃ j, i = k + j := ⟨i - k, by omega⟩
    simp only [ge_iff_le, Nat.le_add_right, decide_true, Bool.true_and, Nat.add_sub_cancel_left]
    rw [show 2 ^ (64 - k) - (2 * m + 1) = 2 ^ (64 - k) - (2 * m + 1) from rfl, Nat.testBit_two_pow_sub_succ (by omega : 2 * m < 2 ^ (64 - k))]
    cases j with
    | zero =>
      have h1 : (2 * m + 1).testBit 0 = true := by simp
      have h2 : (2 * m).testBit 0 = false := by simp
      rw [h1, h2]
      simp
      omega
    | succ j =>
      have h1 : (2 * m + 1).testBit (j + 1) = m.testBit j := by
        rw [Nat.testBit_succ]
        congr 1
        omega
      have h2 : (2 * m).testBit (j + 1) = m.testBit j := by
        rw [Nat.testBit_succ]
        congr 1
        omega
      rw [h1, h2]
      cases m.testBit j <;> simp
  · have h1 : ¬ k ≤ i := by omega
    have h2 : k ≠ i := by omega
    simp [h1, h2]
/-- A number's lowest bit. -/
theorem low_ex : ∀ (b y : Nat), y < 2 ^ b → 0 < y → ∃ k m, y = 2 ^ k * (2 * m + 1) ∧ k < b
  | 0, y, h, h0 => by simp at h; omega
  | b + 1, y, h, h0 => by
    by_cases hy : y % 2 = 1
    · exact ⟨0, y / 2, by omega, by omega⟩
    · obtain ⟨k, m, e, hk⟩ := low_ex b (y / 2) (by rw [Nat.pow_succ] at h; omega) (by omega)
      refine ⟨k + 1, m, ?_, by omega⟩
      rw [Nat.pow_succ, Nat.mul_assoc, Nat.mul_comm 2, ← Nat.mul_assoc, ← e]
      omega
theorem low_bits (k m : Nat) : (2 ^ k * (2 * m + 1)).testBit k = true ∧ ∀ j, j < k → (2 ^ k * (2 * m + 1)).testBit j = false := by
  refine ⟨?_, fun j hj => ?_⟩
  · rw [Nat.testBit_two_pow_mul]
    simp
  · rw [Nat.testBit_two_pow_mul]
    simp
    omega
/-- The table of package bits. -/
def dbt : List Int := [0, 1, 56, 2, 57, 49, 28, 3, 61, 58, 42, 50, 38, 29, 17, 4, 62, 47, 59, 36, 45, 43, 51, 22, 53, 39, 33, 30, 24, 18, 12, 5, 63, 55, 48, 27, 60, 41, 37, 16, 46, 35, 44, 21, 52, 32, 23, 11, 54, 26, 40, 15, 34, 20, 31, 10, 25, 14, 19, 9, 13, 8, 7, 6]
theorem dbt_low : ∀ k : _root_.Fin 64, dbt.getD (2 ^ k.val * 285870213051353865 % 18446744073709551616 / 288230376151711744) 0 = (k.val : Int) ∧ 2 ^ k.val * 285870213051353865 % 18446744073709551616 / 288230376151711744 < 64 := by decide +kernel
def Tab (w : World) : Prop := ∀ i, i < 64 → w.cell? ((⟨0, 0, none⟩ : Addr).add (mulS i 1)) = some (.int .u8 (dbt.getD i 0))
theorem Tab.bel {w w' : World} (h : Tab w) (k : Bel w w') : Tab w' := fun i hi => k.cellb (h i hi)
theorem tz_c {w : World} (hT : Tab w) {y : Nat} (h0 : 0 < y) (h1 : y < 2 ^ 64) : Calls Tryd.prog 43 #[.int .u64 (y : Int)] w (fun e w' => ∃ k : Nat, e = .returned (.int .i64 (k : Int)) ∧ w' = w ∧ k < 64 ∧ y.testBit k = true ∧ ∀ j, j < k → y.testBit j = false) := by
  obtain ⟨k, m, ey, hk⟩ := low_ex 64 y h1 h0
  have hb := low_bits k m
  have ha := low_and k m hk (by rw [← ey]; exact h1)
  rw [← ey] at hb ha
  have hd := dbt_low ⟨k, hk⟩
  simp only at hd
  have e64 : (2 : Nat) ^ 64 = 18446744073709551616 := by decide
  rw [e64] at ha h1
  refine bits_TrailingZeros64.run ?_
  unfold bits_TrailingZeros64.s
  refine ifE (fun h => by omega) (fun _ => ?_)
  refine let_as ((18446744073709551616 - y : Nat) : Int) (by rw [u64_mod]; omega) ?_
  refine let_as ((2 ^ k : Nat) : Int) (by rw [u64_and _ _ (by omega) (by omega) (by omega) (by omega), Int.toNat_natCast, Int.toNat_natCast, ha]) ?_
  refine let_as ((2 ^ k * 285870213051353865 % 18446744073709551616 : Nat) : Int) (by rw [u64_mod]; simp) ?_
  refine let_as ((2 ^ k * 285870213051353865 % 18446744073709551616 / 288230376151711744 : Nat) : Int) (by rw [fd _ (by decide)]; simp) ?_
  refine ⟨⟨by omega, by have := hd.2; omega⟩, ?_⟩
  rw [Int.toNat_natCast]
  refine ⟨_, hT _ hd.2, ?_⟩
  rw [hd.1]
  refine let_as (k : Int) (w64 (by omega) (by omega)) ?_
  exact ⟨k, rfl, rfl, hk, hb⟩

/-! ### a bitmap -/
def uvs (l : List Nat) : List Value := l.map fun (x : Nat) => Value.int .u64 ((x : Nat) : Int)
structure Bm (l : List Nat) : Prop where
  len : l.length = 1024
  lt : ∀ x ∈ l, x < 2 ^ 64
def hasV (l : List Nat) (n : Nat) : Bool := (l.getD (n / 64) 0).testBit (n % 64)
theorem Bm.getD {l : List Nat} (h : Bm l) (i : Nat) : l.getD i 0 < 2 ^ 64 := by
  rw [List.getD_eq_getElem?_getD]
  cases e : l[i]? with
  | none => exact Nat.pos_of_ne_zero (by decide)
  | some x => exact h.lt x (List.mem_of_getElem? e)
theorem uvs_get (l : List Nat) (i : Nat) (h : i < l.length) : (uvs l)[i]? = some (.int .u64 (l.getD i 0 : Nat)) := by
  simp [uvs, List.getElem?_map, List.getElem?_eq_getElem h, List.getD_eq_getElem?_getD]
/-- The record of what is taken. -/
def usd (l : List Nat) (n : Int) : List Value := uvs l ++ [.int .i64 n]
theorem usd_len (l : List Nat) (n : Int) : (usd l n).length = l.length + 1 := by simp [usd, uvs]
theorem usd_get {l : List Nat} {n : Int} {i : Nat} (h : i < l.length) : (usd l n)[i]? = some (.int .u64 (l.getD i 0 : Nat)) := by
  unfold usd
  rw [List.getElem?_append_left (by simpa [uvs] using h), uvs_get l i h]
theorem usd_cnt {l : List Nat} {n : Int} (h : l.length = 1024) : (usd l n)[1024]? = some (.int .i64 n) := by
  unfold usd
  rw [List.getElem?_append_right (by simp [uvs, h])]
  simp [uvs, h]
theorem fdiv_nat (a k : Nat) : Int.fdiv (a : Int) ((2 : Int) ^ k) = ((a / 2 ^ k : Nat) : Int) := by
  rw [fd _ (Int.le_of_lt (Int.pow_pos (by decide)))]
  simp
theorem has_c {w : World} {g : Nat} {t : TypeId} {l : List Nat} {c : Int} (hb : Bm l) (h : Bk w g t (usd l c)) {n : Nat} (hn : n ≤ 65535) : Calls Tryd.prog 27 #[.pointer (some ⟨g, 0, none⟩), .int .i64 (n : Int)] w (Ret (.bool (hasV l n)) w) := by
  refine nat_bitmap_has.run ?_
  unfold nat_bitmap_has.s
  refine let_as ((n / 64 : Nat) : Int) (by rw [td (by omega), w64 (by omega) (by omega)]; omega) ?_
  refine ⟨_, rfl, ⟨by omega, by omega⟩, ((l.getD (n / 64) 0 : Nat) : Int), ?_, ?_⟩
  · rw [Int.toNat_natCast, add_blk, Nat.zero_add]
    exact h.cell _ (usd_get (by rw [hb.len]; omega))
  refine let_as ((n % 64 : Nat) : Int) (by rw [tm (by omega)]; omega) ?_
  refine ⟨by omega, ?_⟩
  rw [Int.toNat_natCast, Nat.min_eq_left (by omega)]
  refine let_as _ (fdiv_nat _ _) ?_
  have hlt : l.getD (n / 64) 0 / 2 ^ (n % 64) < 2 ^ 64 := Nat.lt_of_le_of_lt (Nat.div_le_self _ _) (hb.getD _)
  have e64 : (2 : Nat) ^ 64 = 18446744073709551616 := by decide
  rw [e64] at hlt
  have eZ : hasV l n = decide (l.getD (n / 64) 0 / 2 ^ (n % 64) % 2 = 1) := by
    unfold hasV
    rw [Nat.testBit_eq_decide_div_mod_eq]
  generalize l.getD (n / 64) 0 / 2 ^ (n % 64) = Z at hlt eZ
  refine let_as ((Z % 2 : Nat) : Int) (by rw [u64_and _ _ (by omega) (by omega) (by omega) (by omega), Int.toNat_natCast, show (1 : Int).toNat = 1 from rfl, Nat.and_one_is_mod]) ?_
  have e : ((((Z % 2 : Nat) : Int)) == 1) = hasV l n := by
    rw [eZ]
    by_cases h1 : Z % 2 = 1
    · rw [h1]; rfl
    · have h2 : Z % 2 = 0 := by omega
      rw [h2]; rfl
  rw [e]
  exact ⟨rfl, Bel.refl w⟩
/-- The first bit from n to hi that is not set. -/
def FreeR (l : List Nat) (n hi : Nat) (r : Int) : Prop := (r = -1 ∧ ∀ j, n ≤ j → j ≤ hi → hasV l j = true) ∨ ∃ m : Nat, r = (m : Int) ∧ n ≤ m ∧ m ≤ hi ∧ hasV l m = false ∧ ∀ j, n ≤ j → j < m → hasV l j = true
theorem not_bit {x : Nat} (h : x < 2 ^ 64) (i : Nat) : (2 ^ 64 - 1 - x).testBit i = (decide (i < 64) && !x.testBit i) := by
  rw [show 2 ^ 64 - 1 - x = 2 ^ 64 - (x + 1) by omega, Nat.testBit_two_pow_sub_succ h]
theorem xor_all {x : Nat} (h : x < 2 ^ 64) : Go.bits .xor .u64 18446744073709551615 (x : Int) = ((2 ^ 64 - 1 - x : Nat) : Int) := by
  have e64 : (2 : Nat) ^ 64 = 18446744073709551616 := by decide
  rw [e64] at h
  rw [u64_xor _ _ (by omega) (by omega) (by omega) (by omega), Int.toNat_natCast]
  congr 1
  refine Nat.eq_of_testBit_eq fun i => ?_
  rw [Nat.testBit_xor, not_bit (by rw [e64]; exact h), show (18446744073709551615 : Int).toNat = 2 ^ 64 - 1 from rfl, Nat.testBit_two_pow_sub_one]
  by_cases hi : i < 64
  · simp [hi]
  · have hx : x.testBit i = false := Nat.testBit_lt_two_pow (Nat.lt_of_lt_of_le (by rw [← e64] at h; exact h) (Nat.pow_le_pow_right (by decide) (by omega)))
    simp [hi, hx]
theorem free_l {w : World} (hT : Tab w) {g : Nat} {t : TypeId} {l : List Nat} {c : Int} (hb : Bm l) (h : Bk w g t (usd l c)) {hi : Nat} (hh : hi ≤ 65535) {R : Ending → World → Prop} : ∀ (q n : Nat), hi + 1 - n < q → n ≤ 65536 → (∀ r, FreeR l n hi r → R (.returned (.int .i64 r)) w) →
    nat_bitmap_free.L1 q (some ⟨g, 0, none⟩) (hi : Int) (n : Int) w R := by
  intro q
  induction q with
  | zero => intro n hq; omega
  | succ q ih =>
    intro n hq hn hR
    unfold nat_bitmap_free.L1; intros
    rw [nat_bitmap_free.l1_eq]
    refine ifD (fun h1 => ?_) (fun h1 => hR _ (Or.inl ⟨rfl, fun j h2 h3 => by omega⟩))
    have hn2 : n ≤ hi := by omega
    refine let_as ((n / 64 : Nat) : Int) (by rw [td (by omega), w64 (by omega) (by omega)]; omega) ?_
    refine ⟨_, rfl, ⟨by omega, by omega⟩, ((l.getD (n / 64) 0 : Nat) : Int), ?_, ?_⟩
    · rw [Int.toNat_natCast, add_blk, Nat.zero_add]
      exact h.cell _ (usd_get (by rw [hb.len]; omega))
    have hx := hb.getD (n / 64)
    have hX : ∀ j, j / 64 = n / 64 → hasV l j = (l.getD (n / 64) 0).testBit (j % 64) := fun j hj => by unfold hasV; rw [hj]
    generalize l.getD (n / 64) 0 = X at hx hX
    refine let_as _ (xor_all hx) ?_
    refine let_as ((n % 64 : Nat) : Int) (by rw [tm (by omega)]; omega) ?_
    refine ⟨by omega, ?_⟩
    rw [Int.toNat_natCast, Nat.min_eq_left (by omega)]
    refine let_as _ (fdiv_nat _ _) ?_
    have hbit : ∀ j, ((2 ^ 64 - 1 - X) / 2 ^ (n % 64)).testBit j = (decide (n % 64 + j < 64) && !X.testBit (n % 64 + j)) := fun j => by
      rw [Nat.testBit_div_two_pow, Nat.add_comm j, not_bit hx]
    have hlt : (2 ^ 64 - 1 - X) / 2 ^ (n % 64) < 2 ^ 64 := Nat.lt_of_le_of_lt (Nat.div_le_self _ _) (by omega)
    generalize (2 ^ 64 - 1 - X) / 2 ^ (n % 64) = Y at hbit hlt
    refine ifE (fun h2 => ?_) (fun h2 => ?_)
    · have hY : Y = 0 := by omega
      refine let_as ((n / 64 : Nat) : Int) (by rw [td (by omega), w64 (by omega) (by omega)]; omega) ?_
      refine let_as ((n / 64 + 1 : Nat) : Int) (by rw [w64 (by omega) (by omega)]; omega) ?_
      refine let_as (((n / 64 + 1) * 64 : Nat) : Int) (by rw [w64 (by omega) (by omega)]; omega) ?_
      have all : ∀ j, n ≤ j → j < (n / 64 + 1) * 64 → hasV l j = true := fun j h3 h4 => by
        have h5 := hbit (j - n)
        rw [hY, Nat.zero_testBit, show n % 64 + (j - n) = j % 64 by omega] at h5
        rw [hX j (by omega)]
        cases hb2 : X.testBit (j % 64)
        · rw [hb2] at h5
          have : j % 64 < 64 := by omega
          simp [this] at h5
        · rfl
      refine ih ((n / 64 + 1) * 64) (by omega) (by omega) (fun r hr => hR r ?_) ..
      rcases hr with ⟨e1, h3⟩ | ⟨m, e1, h3, h4, h5, h6⟩
      · refine Or.inl ⟨e1, fun j h7 h8 => ?_⟩
        by_cases h9 : j < (n / 64 + 1) * 64
        · exact all j h7 h9
        · exact h3 j (by omega) h8
      · refine Or.inr ⟨m, e1, by omega, h4, h5, fun j h7 h8 => ?_⟩
        by_cases h9 : j < (n / 64 + 1) * 64
        · exact all j h7 h9
        · exact h6 j (by omega) h8
    · refine call_of (tz_c hT (by omega) hlt) ?_
      rintro e w' ⟨k, rfl, rfl, hk, hb1, hb2⟩
      refine ⟨_, rfl, ?_⟩
      refine let_as ((n + k : Nat) : Int) (by rw [w64 (by omega) (by omega)]; omega) ?_
      have h3 := hbit k
      rw [hb1] at h3
      have h3 := (Bool.and_eq_true_iff.1 h3.symm)
      have h4 : n % 64 + k < 64 := of_decide_eq_true h3.1
      have all : ∀ j, n ≤ j → j < n + k → hasV l j = true := fun j h5 h6 => by
        have h7 := hbit (j - n)
        rw [hb2 (j - n) (by omega), show n % 64 + (j - n) = j % 64 by omega] at h7
        rw [hX j (by omega)]
        cases hb3 : X.testBit (j % 64)
        · rw [hb3] at h7
          have : j % 64 < 64 := by omega
          simp [this] at h7
        · rfl
      refine ifD (fun h5 => ?_) (fun h5 => ?_)
      · exact hR _ (Or.inl ⟨rfl, fun j h6 h7 => all j h6 (by omega)⟩)
      · refine hR _ (Or.inr ⟨n + k, rfl, by omega, by omega, ?_, all⟩)
        rw [hX (n + k) (by omega), show (n + k) % 64 = n % 64 + k by omega]
        simpa using h3.2
theorem free_c {w : World} (hT : Tab w) {g : Nat} {t : TypeId} {l : List Nat} {c : Int} (hb : Bm l) (h : Bk w g t (usd l c)) {n hi : Nat} (hh : hi ≤ 65535) (hn : n ≤ 65536) :
    Calls Tryd.prog 26 #[.pointer (some ⟨g, 0, none⟩), .int .i64 (n : Int), .int .i64 (hi : Int)] w (fun e w' => ∃ r, e = .returned (.int .i64 r) ∧ w' = w ∧ FreeR l n hi r) := by
  refine nat_bitmap_free.run ?_
  unfold nat_bitmap_free.s
  refine ⟨hi + 2, ?_⟩
  have k := free_l hT hb h hh (R := fun e w' => ∃ r, e = .returned (.int .i64 r) ∧ w' = w ∧ FreeR l n hi r) (hi + 2) n (by omega) hn (fun r hr => ⟨r, rfl, rfl, hr⟩)
  exact k ..
end Go.Proofs.YtphbdmafchjjeaaDoorS
