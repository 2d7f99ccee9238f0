/- What the smaller functions of package ip4 answer.
   Conditions: bytes are 0 to 255, lists are no longer than memory lets. -/
import Derived.Test.YtphbdmafchjjeaaDoorHSLib
import Derived.Test.YtphbdmafchjjeaaDoorHSPure
import Derived.Test.YtphbdmafchjjeaaDoorHSFA
namespace Go.Proofs.YtphbdmafchjjeaaDoorS
open Go Go.RowKit Go.Proofs Go.Proofs.YtphbdmafchjjeaaDoorX
set_option maxRecDepth 100000
set_option linter.unusedVariables false
set_option linter.unusedSimpArgs false

theorem word_c {w : World} {A : Option Addr} {n c : Nat} {l : List Int} (h : By w A n l) (hb : Bytes l) {i : Nat} {j : Int} (hj : j = i) (hi : i + 1 < n) (hn : n ≤ 1000000000000000) :
    Calls Tryd.prog 84 #[.slice A n c, .int .i64 j] w (Ret (.int .u16 (wd l i)) w) := by
  refine ip4_word.run ?_
  unfold ip4_word.s
  subst hj
  refine drawsR fun w2 hw => ?_
  have h0 := hb.getD i
  have h1 := hb.getD (i + 1)
  refine h.rdS (fun _ h => h) (by omega) (by omega) fun _ => ?_
  rw [Int.toNat_natCast]
  refine let_as _ (w16 (by omega) (by omega)) ?_
  refine let_as _ (w16 (by omega) (by omega)) ?_
  refine let_as ((i + 1 : Nat) : Int) (by rw [w64 (by omega) (by omega)]; omega) ?_
  refine h.rdS (fun _ h => h) (by omega) (by omega) fun _ => ?_
  rw [Int.toNat_natCast]
  refine let_as _ (w16 (by omega) (by omega)) ?_
  refine let_as _ (or16 h0.1 h0.2 h1.1 h1.2) ?_
  exact ⟨rfl, hw⟩
theorem long_c {w : World} {A : Option Addr} {n c : Nat} {l : List Int} (h : By w A n l) (hb : Bytes l) {i : Nat} {j : Int} (hj : j = i) (hi : i + 3 < n) (hn : n ≤ 1000000000000000) :
    Calls Tryd.prog 85 #[.slice A n c, .int .i64 j] w (Ret (.int .u32 (lg l i)) w) := by
  refine ip4_long.run ?_
  unfold ip4_long.s
  have h0 := wd_range hb i
  have h1 := wd_range hb (i + 2)
  refine call_of (word_c h hb hj (by omega) hn) ?_
  rintro e w1 ⟨rfl, k1⟩
  refine ⟨_, rfl, ?_⟩
  refine let_as _ (w32 (by omega) (by omega)) ?_
  refine let_as _ (w32 (by omega) (by omega)) ?_
  refine let_as ((i + 2 : Nat) : Int) (by rw [w64 (by omega) (by omega)]; omega) ?_
  refine call_of (word_c (h.bel k1) hb rfl (by omega) hn) ?_
  rintro e w2 ⟨rfl, k2⟩
  refine ⟨_, rfl, ?_⟩
  refine let_as _ (w32 (by omega) (by omega)) ?_
  refine let_as _ (or32 h0.1 h0.2 h1.1 h1.2) ?_
  exact ⟨rfl, Bel.trans k1 k2⟩
/-- a word is written over in a block of bytes -/
theorem putWord_c {w : World} {g n c : Nat} {t : TypeId} {l : List Int} (h : Bk w g t (bv l)) (hn : l.length = n) {i : Nat} {j v : Int} (hj : j = i) (hi : i + 1 < n) (hm : n ≤ 1000000000000000) (hv : 0 ≤ v ∧ v ≤ 65535) :
    Calls Tryd.prog 48 #[.slice (some ⟨g, 0, none⟩) n c, .int .i64 j, .int .u16 v] w fun e w' => e = .returned (.tuple #[]) ∧ Bk w' g t (bv ((l.set i (v / 256)).set (i + 1) (v % 256))) ∧ But g w w' := by
  refine ip4_putWord.run ?_
  unfold ip4_putWord.s
  subst hj
  refine let_as ((i + 1 : Nat) : Int) (by rw [w64 (by omega) (by omega)]; omega) ?_
  refine let_as _ (fd _ (by omega)) ?_
  refine let_as _ (w8 (by omega) (by omega)) ?_
  refine let_as (v % 256) (by rw [IntKind.wrap_u8]) ?_
  refine ⟨_, rfl, ⟨by omega, by omega⟩, ?_⟩
  rw [Int.toNat_natCast, add_blk, Nat.zero_add]
  refine ⟨h.may (by rw [bv_len]; omega), ?_⟩
  refine let_gen fun w1 e1 => ?_
  have k1 := h.set i (.int .u8 (v / 256))
  have b1 := But.set w g i (.int .u8 (v / 256))
  rw [← e1] at k1 b1
  rw [bv_set] at k1
  refine ⟨_, rfl, ⟨by omega, by omega⟩, ?_⟩
  rw [Int.toNat_natCast, add_blk, Nat.zero_add]
  refine ⟨k1.may (by rw [bv_len, List.length_set]; omega), ?_⟩
  refine let_gen fun w2 e2 => ?_
  have k2 := k1.set (i + 1) (.int .u8 (v % 256))
  have b2 := But.set w1 g (i + 1) (.int .u8 (v % 256))
  rw [← e2] at k2 b2
  rw [bv_set] at k2
  exact ⟨rfl, k2, b1.trans b2⟩
theorem putLong_c {w : World} {g n c : Nat} {t : TypeId} {l : List Int} (h : Bk w g t (bv l)) (hn : l.length = n) {i : Nat} {j v : Int} (hj : j = i) (hi : i + 3 < n) (hm : n ≤ 1000000000000000) (hv : 0 ≤ v ∧ v ≤ 4294967295) :
    Calls Tryd.prog 49 #[.slice (some ⟨g, 0, none⟩) n c, .int .i64 j, .int .u32 v] w fun e w' => e = .returned (.tuple #[]) ∧
      Bk w' g t (bv ((((l.set i (v / 16777216)).set (i + 1) (v / 65536 % 256)).set (i + 2) (v / 256 % 256)).set (i + 3) (v % 256))) ∧ But g w w' := by
  refine ip4_putLong.run ?_
  unfold ip4_putLong.s
  refine let_as _ (fd _ (by omega)) ?_
  refine let_as _ (w16 (by omega) (by omega)) ?_
  refine call_of (putWord_c h hn hj (by omega) hm (by omega)) ?_
  rintro e w1 ⟨rfl, k1, b1⟩
  refine ⟨rfl, ?_⟩
  subst hj
  refine let_as ((i + 2 : Nat) : Int) (by rw [w64 (by omega) (by omega)]; omega) ?_
  refine let_as (v % 65536) (by rw [u16_mod]) ?_
  refine call_of (putWord_c k1 (by simp; omega) rfl (by omega) hm (by omega)) ?_
  rintro e w2 ⟨rfl, k2, b2⟩
  refine ⟨rfl, rfl, ?_, b1.trans b2⟩
  rw [show v / 65536 / 256 = v / 16777216 by omega, show v % 65536 / 256 = v / 256 % 256 by omega, show v % 65536 % 256 = v % 256 by omega] at k2
  exact k2

/-! ### folded, Sum -/
theorem folded_l (w : World) : ∀ (m : Nat) (t : Int), 0 ≤ t → t ≤ 18446744073709551615 → t.toNat < m → ip4_folded.L1 m t w (Ret (.int .u16 (S t)) w) := by
  intro m
  induction m with
  | zero => intro t _ _ h; omega
  | succ m ih =>
    intro t h0 h1 hm
    unfold ip4_folded.L1
    intros
    rw [ip4_folded.l1_eq]
    refine ifD (fun h => ?_) (fun h => ?_)
    · refine let_as _ (fd _ (by omega)) ?_
      refine let_as _ (and_65535 h0 h1) ?_
      refine let_as _ (wu64 (by omega) (by omega)) ?_
      rw [← S_fold (by omega : 65535 < t)]
      exact ih _ (by omega) (by omega) (by omega) ..
    · refine let_as _ (w16 h0 (by omega)) ?_
      exact ⟨by rw [S_small h0 (by omega)], Bel.refl w⟩
theorem folded_c (w : World) {t : Int} (h0 : 0 ≤ t) (h1 : t ≤ 18446744073709551615) : Calls Tryd.prog 72 #[.int .u64 t] w (Ret (.int .u16 (S t)) w) :=
  ip4_folded.run ⟨t.toNat + 1, folded_l w _ t h0 h1 (by omega) ..⟩

/-- The slice A[:n] holds slices of these bytes. -/
def Bys (w : World) (A : Option Addr) (n : Nat) (ps : List (List Int)) : Prop :=
  ps.length = n ∧ (0 < n → ∃ a, A = some a ∧ ∀ i, i < n → ∃ B m c, w.cell? (a.add i) = some (.slice B m c) ∧ By w B m (ps.getD i []))
theorem Bys.bel {w w' : World} {A : Option Addr} {n : Nat} {ps : List (List Int)} (h : Bys w A n ps) (k : Bel w w') : Bys w' A n ps :=
  ⟨h.1, fun hn => let ⟨a, e, hc⟩ := h.2 hn; ⟨a, e, fun i hi => let ⟨B, m, c, h1, h2⟩ := hc i hi; ⟨B, m, c, k.cellb h1, h2.bel k⟩⟩⟩
theorem sum_l2 (w : World) (A : Option Addr) (n c : Nat) (y10 y11 : Int) (B : Option Addr) (m d : Nat) (p : List Int) (hp : By w B m p) (hb : Bytes p) (hm : m ≤ 1000000000000000) (R : Ending → World → Prop) (k0 : Nat) (y16 : Int) (e16 : y16 = (m : Int))
    (hk : ∀ t' b', t' = tot b' p → True) :
    ∀ (q : Nat) (j : Nat) (t : Int) (b : Bool), m - j < q → j ≤ m → 0 ≤ t → t + 65280 * (m - j : Nat) ≤ 9223372036854775807 →
    (∀ (t' : Int) (b' : Bool), t' = t + tot b (p.drop j) → b' = hi b (p.drop j) → ip4_Sum.L1 k0 t' b' A n c y10 (IntKind.i64.wrap (y11 + 1)) w R) →
    ip4_Sum.L2 k0 q t b A n c y10 y11 B m d y16 (j : Int) w R := by
  intro q
  induction q with
  | zero => intro j t b h; omega
  | succ q ih =>
    intro j t b hq hj ht hbd hk
    unfold ip4_Sum.L2
    intros
    rw [ip4_Sum.l2_eq]
    have hl := hp.len
    refine ifD (fun h => ?_) (fun h => ?_)
    · have hlt : j < p.length := by omega
      have hx := hb.getD j
      have hd : p.drop j = p.getD j 0 :: p.drop (j + 1) := by
        rw [List.drop_eq_getElem_cons hlt]
        simp [List.getD_eq_getElem?_getD, hlt]
      have hmj : 65280 * ((m - j : Nat) : Int) = 65280 * ((m - (j + 1) : Nat) : Int) + 65280 := by omega
      have hjm : (j : Int) < (m : Int) := by omega
      refine hp.rd (Int.natCast_nonneg j) hjm fun _ => ?_
      rw [Int.toNat_natCast]
      refine ifB (fun h1 => ?_) (fun h1 => ?_)
      · subst h1
        refine let_as _ (wu64 (by omega) (by omega)) ?_
        refine let_as _ (wu64 (by omega) (by omega)) ?_
        refine let_as _ (wu64 (by omega) (by omega)) ?_
        refine let_as ((j + 1 : Nat) : Int) (by rw [w64 (by omega) (by omega)]; omega) ?_
        refine ih (j + 1) _ _ (by omega) (by omega) (by omega) (by omega) (fun t' b' e1 e2 => hk t' b' ?_ ?_) ..
        · rw [hd, e1]; simp only [tot, Bool.not_true]; omega
        · rw [hd, e2]; rfl
      · subst h1
        refine let_as _ (wu64 (by omega) (by omega)) ?_
        refine let_as _ (wu64 (by omega) (by omega)) ?_
        refine let_as ((j + 1 : Nat) : Int) (by rw [w64 (by omega) (by omega)]; omega) ?_
        refine ih (j + 1) _ _ (by omega) (by omega) (by omega) (by omega) (fun t' b' e1 e2 => hk t' b' ?_ ?_) ..
        · rw [hd, e1]; simp only [tot, Bool.not_false]; omega
        · rw [hd, e2]; rfl
    · have : j = p.length := by omega
      subst this
      exact hk t b (by simp [tot]) (by simp [hi]) ..
theorem sum_l1 (w : World) (A : Option Addr) (n c : Nat) (ps : List (List Int)) (hp : Bys w A n ps) (hb : ∀ p ∈ ps, Bytes p) (hn : n ≤ 1000000000000000) (y10 : Int) (e10 : y10 = (n : Int)) :
    ∀ (q : Nat) (j : Nat) (t : Int) (b : Bool), n - j < q → j ≤ n → 0 ≤ t → t + 65280 * (ps.drop j).flatten.length ≤ 9000000000000000000 →
    ip4_Sum.L1 q t b A n c y10 (j : Int) w (Ret (.int .u16 (65535 - S (t + tot b (ps.drop j).flatten))) w) := by
  intro q
  induction q with
  | zero => intro j t b h; omega
  | succ q ih =>
    intro j t b hq hj ht hbd
    unfold ip4_Sum.L1
    intros
    rw [ip4_Sum.l1_eq]
    have hl := hp.1
    refine ifD (fun h => ?_) (fun h => ?_)
    · have hlt : j < ps.length := by omega
      have hd : ps.drop j = ps[j] :: ps.drop (j + 1) := List.drop_eq_getElem_cons hlt
      have eg : ps.getD j [] = ps[j] := by simp [List.getD_eq_getElem?_getD, hlt]
      obtain ⟨a, ea, hc⟩ := hp.2 (by omega)
      obtain ⟨B, m, d, h1, h2⟩ := hc j (by omega)
      rw [eg] at h2
      have hbj := hb ps[j] (List.getElem_mem hlt)
      have h2l := h2.len
      rw [hd, List.flatten_cons, List.length_append] at hbd
      have ht1 := tot_le (b := b) hbj
      have ht0 := tot_nonneg (b := b) hbj
      refine ⟨a, ea, ⟨by omega, by omega⟩, B, m, d, by rw [Int.toNat_natCast]; exact h1, m + 1, ?_⟩
      refine sum_l2 w A n c y10 (j : Int) B m d ps[j] h2 hbj (by omega) _ q _ rfl (fun _ _ _ => trivial) (m + 1) 0 t b (by omega) (by omega) ht (by omega) (fun t' b' e1 e2 => ?_) ..
      rw [List.drop_zero] at e1 e2
      rw [show IntKind.i64.wrap ((j : Int) + 1) = ((j + 1 : Nat) : Int) by rw [w64 (by omega) (by omega)]; omega]
      have := ih (j + 1) t' b' (by omega) (by omega) (by omega) (by omega)
      rw [hd, List.flatten_cons, tot_append, ← e2, ← Int.add_assoc, ← e1]
      exact this
    · have : j = ps.length := by omega
      subst this
      rw [List.drop_length] at hbd ⊢
      simp only [List.flatten_nil, tot, Int.add_zero]
      have hS := S_range ht
      refine call_of (folded_c w ht (by simp at hbd; omega)) ?_
      rintro e w1 ⟨rfl, k1⟩
      refine ⟨_, rfl, ?_⟩
      refine let_as _ (not_u16 hS.1 hS.2) ?_
      exact ⟨rfl, k1⟩
/-- Sum: the folded sum of the joined parts, turned over. -/
theorem sum_c {w : World} {A : Option Addr} {n c : Nat} {ps : List (List Int)} (hp : Bys w A n ps) (hb : ∀ p ∈ ps, Bytes p) (hn : n ≤ 1000000000000000) (hf : ps.flatten.length ≤ 100000000000000) :
    Calls Tryd.prog 50 #[.slice A n c] w (Ret (.int .u16 (65535 - S (tot true ps.flatten))) w) := by
  refine ip4_Sum.run ⟨n + 1, ?_⟩
  have := sum_l1 w A n c ps hp hb hn (n : Int) rfl (n + 1) 0 0 true (by omega) (by omega) (by omega) (by rw [List.drop_zero]; omega)
  rw [List.drop_zero, Int.zero_add] at this
  exact this ..
/-- a literal of one slice, of two -/
theorem Bys.one {w : World} {g : Nat} {t : TypeId} {A : Option Addr} {n c : Nat} {l : List Int} (h : Bk w g t [.slice A n c]) (k : By w A n l) : Bys w (some ⟨g, 0, none⟩) 1 [l] :=
  ⟨rfl, fun _ => ⟨_, rfl, fun i hi => ⟨A, n, c, by rw [add_blk, Nat.zero_add, show i = 0 by omega]; exact h.cell 0 rfl, by rw [show i = 0 by omega]; exact k⟩⟩⟩
theorem Bys.two {w : World} {g : Nat} {t : TypeId} {A B : Option Addr} {n c m d : Nat} {l r : List Int} (h : Bk w g t [.slice A n c, .slice B m d]) (k : By w A n l) (q : By w B m r) : Bys w (some ⟨g, 0, none⟩) 2 [l, r] := by
  refine ⟨rfl, fun _ => ⟨_, rfl, fun i hi => ?_⟩⟩
  rw [add_blk, Nat.zero_add]
  rcases (by omega : i = 0 ∨ i = 1) with e | e
  · subst e; exact ⟨A, n, c, h.cell 0 rfl, k⟩
  · subst e; exact ⟨B, m, d, h.cell 1 rfl, q⟩
theorem sum1_c {w : World} {g : Nat} {t : TypeId} {A : Option Addr} {n c : Nat} {l : List Int} (h : Bk w g t [.slice A n c]) (k : By w A n l) (hb : Bytes l) (hn : l.length ≤ 100000000000000) (c' : Nat) :
    Calls Tryd.prog 50 #[.slice (some ⟨g, 0, none⟩) 1 c'] w (Ret (.int .u16 (65535 - S (tot true l))) w) := by
  have := sum_c (c := c') (Bys.one h k) (fun p hp => by rw [List.mem_singleton.1 hp]; exact hb) (by omega) (by simpa using hn)
  simpa using this
theorem sum2_c {w : World} {g : Nat} {t : TypeId} {A B : Option Addr} {n c m d : Nat} {l r : List Int} (h : Bk w g t [.slice A n c, .slice B m d]) (k : By w A n l) (q : By w B m r) (hl : Bytes l) (hr : Bytes r) (hn : l.length + r.length ≤ 100000000000000) (c' : Nat) :
    Calls Tryd.prog 50 #[.slice (some ⟨g, 0, none⟩) 2 c'] w (Ret (.int .u16 (65535 - S (tot true (l ++ r)))) w) := by
  have := sum_c (c := c') (Bys.two h k q) (fun p hp => by rcases List.mem_cons.1 hp with rfl | hp; exact hl; rw [List.mem_singleton.1 hp]; exact hr) (by omega) (by simpa using hn)
  simpa using this

/-! ### optionsOK, orderly, measure -/
theorem zeros_l (w : World) (A : Option Addr) (n c : Nat) (l : List Int) (h : By w A n l) (hn : n ≤ 1000000000000000) (m0 : Nat) (y62 : Int) (e62 : y62 = (n : Int)) (a1 : Option Addr) (a2 a3 : Nat) (a4 : Int) :
    ∀ (q j : Nat), n - j < q → j ≤ n → ip4_optionsOK.L2 m0 q A n c y62 (j : Int) w (Ret (.bool ((l.drop j).all (· == 0))) w) := by
  intro q
  induction q with
  | zero => intro j h; omega
  | succ q ih =>
    intro j hq hj
    unfold ip4_optionsOK.L2
    intros
    rw [ip4_optionsOK.l2_eq]
    have hl := h.len
    refine ifD (fun h1 => ?_) (fun h1 => ?_)
    · have hlt : j < l.length := by omega
      have hjm : (j : Int) < (n : Int) := by omega
      have hd : l.drop j = l.getD j 0 :: l.drop (j + 1) := by
        rw [List.drop_eq_getElem_cons hlt]
        simp [List.getD_eq_getElem?_getD, hlt]
      refine h.rd (Int.natCast_nonneg j) hjm fun _ => ?_
      rw [Int.toNat_natCast]
      refine ifN (fun h2 => ?_) (fun h2 => ?_)
      · refine ⟨?_, Bel.refl w⟩
        rw [hd, List.all_cons, show (l.getD j 0 == 0) = false by simpa using h2, Bool.false_and]
      · refine let_as ((j + 1 : Nat) : Int) (by rw [w64 (by omega) (by omega)]; omega) ?_
        rw [hd, List.all_cons, show (l.getD j 0 == 0) = true by simpa using h2, Bool.true_and]
        exact ih (j + 1) (by omega) (by omega) ..
    · rw [List.drop_eq_nil_of_le (by omega)]
      exact ⟨rfl, Bel.refl w⟩
theorem area_one (x : Int) : area [x] = decide (x = 0 ∨ x = 1) := by rw [area]
theorem area_two (x n : Int) (l : List Int) : area (x :: n :: l) = if x = 0 then (n :: l).all (· == 0) else if x = 1 then area (n :: l) else if n < 2 ∨ n.toNat - 2 > l.length then false else area (l.drop (n.toNat - 2)) := by rw [area]
theorem area_zero (l : List Int) : area (0 :: l) = l.all (· == 0) := by
  cases l with
  | nil => rw [area_one]; rfl
  | cons n l => rw [area_two, if_pos rfl]
theorem area_nop (l : List Int) : area (1 :: l) = area l := by
  cases l with
  | nil => rw [area_one, area]; rfl
  | cons n l => rw [area_two, if_neg (by decide), if_pos rfl]
theorem options_l (w : World) (A : Option Addr) (n c : Nat) (l : List Int) (h : By w A n l) (hb : Bytes l) (hc : n ≤ c) (hn : n ≤ 1000000000000000) :
    ∀ (q j : Nat), n - j < q → j ≤ n → ip4_optionsOK.L1 q A n c (j : Int) w (Ret (.bool (area (l.drop j))) w) := by
  intro q
  induction q with
  | zero => intro j h; omega
  | succ q ih =>
    intro j hq hj
    unfold ip4_optionsOK.L1
    intros
    rw [ip4_optionsOK.l1_eq]
    have hl := h.len
    have hw : IntKind.i64.wrap ((j : Int) + 1) = ((j + 1 : Nat) : Int) := by rw [w64 (by omega) (by omega)]; omega
    refine ifD (fun h1 => ?_) (fun h1 => ?_)
    · have hlt : j < l.length := by omega
      have hjm : (j : Int) < (n : Int) := by omega
      have hd : l.drop j = l.getD j 0 :: l.drop (j + 1) := by
        rw [List.drop_eq_getElem_cons hlt]
        simp [List.getD_eq_getElem?_getD, hlt]
      refine h.rd (Int.natCast_nonneg j) hjm fun _ => ?_
      rw [Int.toNat_natCast]
      refine ifE (fun h2 => ?_) (fun h2 => ?_)
      · refine ⟨⟨by omega, by omega⟩, n - j + 1, ?_⟩
        have hz := zeros_l w (cutA A j c 1) (n - j) (c - j) (l.drop j) (h.cut hj hc) (by omega) q _ rfl none 0 0 0 (n - j + 1) 0 (by omega) (by omega)
        rw [List.drop_zero, hd, h2, List.all_cons] at hz
        rw [hd, h2, area_zero]
        exact hz ..
      · refine ifE (fun h3 => ?_) (fun h3 => ?_)
        · refine let_as _ hw ?_
          rw [hd, h3, area_nop]
          exact ih (j + 1) (by omega) (by omega) ..
        · refine let_as _ hw ?_
          refine ifD (fun h4 => ?_) (fun h4 => ?_)
          · rw [hd, List.drop_eq_nil_of_le (by omega), area_one, decide_eq_false (by omega)]
            exact ⟨rfl, Bel.refl w⟩
          · have hlt2 : j + 1 < l.length := by omega
            have hd2 : l.drop (j + 1) = l.getD (j + 1) 0 :: l.drop (j + 1 + 1) := by
              rw [List.drop_eq_getElem_cons hlt2]
              simp [List.getD_eq_getElem?_getD, hlt2]
            have hx := hb.getD (j + 1)
            have hjm2 : ((j + 1 : Nat) : Int) < (n : Int) := by omega
            refine let_as _ hw ?_
            refine h.rd (Int.natCast_nonneg _) hjm2 fun _ => ?_
            rw [Int.toNat_natCast]
            refine ifD (fun h5 => ?_) (fun h5 => ?_)
            · rw [hd, hd2, area_two, if_neg h2, if_neg h3, if_pos (.inl h5)]
              exact ⟨rfl, Bel.refl w⟩
            · refine let_as _ hw ?_
              refine h.rd (Int.natCast_nonneg _) hjm2 fun _ => ?_
              rw [Int.toNat_natCast]
              refine let_as _ (w64 (by omega) (by omega)) ?_
              refine let_as ((j + (l.getD (j + 1) 0).toNat : Nat) : Int) (by rw [w64 (by omega) (by omega)]; omega) ?_
              refine ifD (fun h6 => ?_) (fun h6 => ?_)
              · rw [hd, hd2, area_two, if_neg h2, if_neg h3, if_pos (.inr (by rw [List.length_drop]; omega))]
                exact ⟨rfl, Bel.refl w⟩
              · refine ⟨?_⟩
                rw [ip4_optionsOK.j2_eq]
                refine let_as _ hw ?_
                refine h.rd (Int.natCast_nonneg _) hjm2 fun _ => ?_
                rw [Int.toNat_natCast]
                refine let_as _ (w64 (by omega) (by omega)) ?_
                refine let_as ((j + (l.getD (j + 1) 0).toNat : Nat) : Int) (by rw [w64 (by omega) (by omega)]; omega) ?_
                rw [hd, hd2, area_two, if_neg h2, if_neg h3, if_neg (by rw [List.length_drop]; omega), List.drop_drop, show j + 1 + 1 + ((l.getD (j + 1) 0).toNat - 2) = j + (l.getD (j + 1) 0).toNat by omega]
                exact ih _ (by omega) (by omega) ..
    · rw [List.drop_eq_nil_of_le (by omega), area]
      exact ⟨rfl, Bel.refl w⟩
theorem options_c {w : World} {A : Option Addr} {n c : Nat} {l : List Int} (h : By w A n l) (hb : Bytes l) (hc : n ≤ c) (hn : n ≤ 1000000000000000) :
    Calls Tryd.prog 46 #[.slice A n c] w (Ret (.bool (oOK l)) w) := by
  refine ip4_optionsOK.run ?_
  unfold ip4_optionsOK.s
  have hl := h.len
  refine ifD (fun h1 => ?_) (fun h1 => ?_)
  · have e : oOK l = false := by unfold oOK; rw [decide_eq_false (by omega), Bool.false_and]
    rw [e]
    exact ⟨rfl, Bel.refl w⟩
  · refine let_as _ (tm (by omega)) ?_
    refine ifN (fun h2 => ?_) (fun h2 => ?_)
    · have e : oOK l = false := by unfold oOK; rw [decide_eq_false (show ¬ (l.length % 4 = 0) by omega), Bool.false_and, Bool.and_false]
      rw [e]
      exact ⟨rfl, Bel.refl w⟩
    · have e : oOK l = area l := by unfold oOK; rw [decide_eq_true (show l.length ≤ 40 by omega), decide_eq_true (show l.length % 4 = 0 by omega), Bool.true_and, Bool.true_and]
      rw [e]
      refine ⟨?_⟩
      rw [ip4_optionsOK.j1_eq]
      have := options_l w A n c l h hb hc hn (n + 1) 0 (by omega) (by omega)
      rw [List.drop_zero] at this
      exact ⟨n + 1, this ..⟩
theorem orderly_c (w : World) {off body : Int} {mf : Bool} (h0 : 0 ≤ body) (h1 : body ≤ 140737488355328) : Calls Tryd.prog 47 #[.int .i64 off, .int .i64 body, .bool mf] w (Ret (.bool (ordB off body mf)) w) := by
  refine ip4_orderly.run ?_
  unfold ip4_orderly.s
  have no : ¬ (0 ≤ off ∧ off ≤ 65528 ∧ off % 8 = 0 ∧ off + body ≤ 65535) → ordB off body mf = false := fun h => by unfold ordB; rw [decide_eq_false h, Bool.false_and]
  refine ifD (fun h2 => ?_) (fun h2 => ?_)
  · rw [no (by omega)]; exact ⟨rfl, Bel.refl w⟩
  refine ifD (fun h3 => ?_) (fun h3 => ?_)
  · rw [no (by omega)]; exact ⟨rfl, Bel.refl w⟩
  refine let_as _ (tm (by omega)) ?_
  refine ifN (fun h4 => ?_) (fun h4 => ?_)
  · rw [no (by omega)]; exact ⟨rfl, Bel.refl w⟩
  refine let_as _ (w64 (by omega) (by omega)) ?_
  refine ifD (fun h5 => ?_) (fun h5 => ?_)
  · rw [no (by omega)]; exact ⟨rfl, Bel.refl w⟩
  have e : ordB off body mf = (!mf || decide (0 < body ∧ body % 8 = 0)) := by unfold ordB; rw [decide_eq_true (by omega), Bool.true_and]
  rw [e]
  refine ⟨?_⟩
  rw [ip4_orderly.j1_eq]
  refine ifNot (fun h6 => ?_) (fun h6 => ?_)
  · rw [h6]; exact ⟨rfl, Bel.refl w⟩
  · rw [h6]
    simp only [Bool.not_true, Bool.false_or]
    refine ifD (fun h7 => ?_) (fun h7 => ?_)
    · refine let_as _ (tm (by omega)) ?_
      refine ⟨?_, Bel.refl w⟩
      by_cases h8 : body % 8 = 0
      · rw [decide_eq_true (by omega), h8]; rfl
      · rw [decide_eq_false (by omega), show (body % 8 == 0) = false by simpa using h8]
    · rw [decide_eq_false (by omega)]
      exact ⟨rfl, Bel.refl w⟩
theorem measure_c {w : World} {A : Option Addr} {n c : Nat} {b : List Int} (h : By w A n b) (hb : Bytes b) (hn : n ≤ 1000000000000000) (whole : Bool) :
    Calls Tryd.prog 83 #[.slice A n c, .bool whole] w (Ret (if badLen whole b = 0 then .tuple #[.int .i64 (hlen b : Int), .int .i64 (wd b 2), .int .i64 0] else .tuple #[.int .i64 0, .int .i64 0, .int .i64 (badLen whole b)]) w) := by
  refine ip4_measure.run ?_
  unfold ip4_measure.s badLen
  have hl := h.len
  have g0 := hb.getD 0
  have hw := wd_range hb 2
  rw [hl]
  refine ifD (fun h1 => ?_) (fun h1 => ?_)
  · simp only [if_pos (show n < 20 by omega)]
    exact ⟨rfl, Bel.refl w⟩
  simp only [if_neg (show ¬ n < 20 by omega)]
  refine h.rd0 (by omega) fun _ => ?_
  refine let_as _ (fd _ (by omega)) ?_
  refine ifN (fun h2 => ?_) (fun h2 => ?_)
  · simp only [if_pos h2]
    exact ⟨rfl, Bel.refl w⟩
  simp only [if_neg (not_not_intro h2)]
  refine h.rd0 (by omega) fun _ => ?_
  refine let_as _ (and_15 g0.1 g0.2) ?_
  refine let_as _ (w64 (by omega) (by omega)) ?_
  refine let_as (hlen b : Int) (by rw [w64 (by omega) (by omega)]; unfold hlen; omega) ?_
  refine ifD (fun h3 => ?_) (fun h3 => ?_)
  · simp only [if_pos (show hlen b < 20 by omega)]
    exact ⟨rfl, Bel.refl w⟩
  simp only [if_neg (show ¬ hlen b < 20 by omega)]
  refine ifD (fun h4 => ?_) (fun h4 => ?_)
  · simp only [if_pos (show n < hlen b by omega)]
    exact ⟨rfl, Bel.refl w⟩
  simp only [if_neg (show ¬ n < hlen b by omega)]
  refine call_of (word_c h hb (i := 2) rfl (by omega) hn) ?_
  rintro e w1 ⟨rfl, k1⟩
  refine ⟨_, rfl, ?_⟩
  refine let_as _ (w64 (by omega) (by omega)) ?_
  refine ifD (fun h5 => ?_) (fun h5 => ?_)
  · simp only [if_pos h5]
    exact ⟨rfl, k1⟩
  simp only [if_neg h5]
  refine ifB (fun h6 => ?_) (fun h6 => ?_)
  · subst h6
    refine ifD (fun h7 => ?_) (fun h7 => ?_)
    · simp only [if_pos (show True ∧ (n : Int) < wd b 2 from ⟨trivial, h7⟩)]
      exact ⟨rfl, k1⟩
    · simp only [if_neg (show ¬ (True ∧ (n : Int) < wd b 2) from fun h => h7 h.2)]
      exact ⟨rfl, k1⟩
  · subst h6
    simp only [Bool.false_eq_true, false_and, if_false]
    exact ⟨rfl, k1⟩
end Go.Proofs.YtphbdmafchjjeaaDoorS
