/- What the functions of packages addr and icmp answer.
   Conditions: the three package variables hold their tables; bytes are 0 to 255; lists are no longer than memory lets. -/
import Derived.Test.YtphbdmafchjjeaaDoorHSIp4B
import Derived.Test.YtphbdmafchjjeaaDoorHSFB
namespace Go.Proofs.YtphbdmafchjjeaaDoorS
open Go Go.RowKit Go.Proofs Go.Proofs.YtphbdmafchjjeaaDoorX
set_option maxRecDepth 100000
set_option linter.unusedVariables false
set_option linter.unusedSimpArgs false

/-! ### the tables -/
def codesL : List Int := [0, 0, 0, 16, 0, 0, 0, 0, 0, 0, 0, 2, 3]
def faultT (t : Int) : Bool := decide (t = 3 ∨ t = 4 ∨ t = 5 ∨ t = 11 ∨ t = 12)
def classesL : List (List Value) := [[.int .u32 0, .int .i64 8, .int .i64 1], [.int .u32 2130706432, .int .i64 8, .int .i64 2], [.int .u32 3758096384, .int .i64 4, .int .i64 3], [.int .u32 4026531840, .int .i64 4, .int .i64 4]]
/-- What the table of faults holds. -/
def GlF (w : World) : Prop := ∀ i, i < 13 → w.cell? ((⟨2, 0, none⟩ : Addr).add i) = some (.bool (faultT i))
theorem GlF.bel {w w' : World} (h : GlF w) (k : Bel w w') : GlF w' := fun i hi => k.cellb (h i hi)
structure Gl (w : World) : Prop where
  codes : ∀ i, i < 13 → w.cell? ((⟨1, 0, none⟩ : Addr).add i) = some (.int .u8 (codesL.getD i 0))
  faults : ∀ i, i < 13 → w.cell? ((⟨2, 0, none⟩ : Addr).add i) = some (.bool (faultT i))
  classes : ∃ a c, w.cell? ⟨3, 0, none⟩ = some (.slice (some a) 4 c) ∧ ∀ i, i < 4 → At w (a.add (i * 3)) (classesL.getD i [])
theorem Gl.bel {w w' : World} (h : Gl w) (k : Bel w w') : Gl w' :=
  ⟨fun i hi => k.cellb (h.codes i hi), fun i hi => k.cellb (h.faults i hi), let ⟨a, c, e, hc⟩ := h.classes; ⟨a, c, k.cellb e, fun i hi j u hu => k.cellb (hc i hi j u hu)⟩⟩

theorem Gl.f {w : World} (h : Gl w) : GlF w := h.faults
/-! ### addr -/
theorem nat_and_high (n k m : Nat) (h : n < 2 ^ (k + m)) : n &&& ((2 ^ m - 1) * 2 ^ k) = n / 2 ^ k * 2 ^ k := by
  apply Nat.eq_of_testBit_eq
  intro i
  rw [← Nat.shiftRight_eq_div_pow, ← Nat.shiftLeft_eq, ← Nat.shiftLeft_eq, Nat.testBit_and, Nat.testBit_shiftLeft, Nat.testBit_shiftLeft, Nat.testBit_shiftRight, Nat.testBit_two_pow_sub_one]
  by_cases hk : k ≤ i
  · by_cases hm : i < k + m
    · simp [hk, show i - k < m by omega, show k + (i - k) = i by omega]
    · have : n.testBit i = false := Nat.testBit_lt_two_pow (Nat.lt_of_lt_of_le h (Nat.pow_le_pow_right (by omega) (by omega)))
      simp [this, show k + (i - k) = i by omega]
  · simp [hk]
theorem and_m8 {x : Int} (h0 : 0 ≤ x) (h1 : x ≤ 4294967295) : Go.bits .and .u32 x 4278190080 = x / 16777216 * 16777216 := by
  obtain ⟨n, rfl⟩ := Int.eq_ofNat_of_zero_le h0
  rw [u32_and (n : Int) 4278190080 (by omega) (by omega) (by omega) (by omega), Int.toNat_natCast, show (4278190080 : Int).toNat = (2 ^ 8 - 1) * 2 ^ 24 from rfl, nat_and_high n 24 8 (by omega)]
  omega
theorem and_m4 {x : Int} (h0 : 0 ≤ x) (h1 : x ≤ 4294967295) : Go.bits .and .u32 x 4026531840 = x / 268435456 * 268435456 := by
  obtain ⟨n, rfl⟩ := Int.eq_ofNat_of_zero_le h0
  rw [u32_and (n : Int) 4026531840 (by omega) (by omega) (by omega) (by omega), Int.toNat_natCast, show (4026531840 : Int).toNat = (2 ^ 4 - 1) * 2 ^ 28 from rfl, nat_and_high n 28 4 (by omega)]
  omega
/-- One of the masks that the table needs. -/
structure Msk (net k m : Int) : Prop where
  call : ∀ w, Calls Tryd.prog 87 #[.int .i64 k] w (Ret (.int .u32 m) w)
  lo : 0 ≤ k
  hi : k ≤ 32
  net : Go.bits .andNot .u32 net m = 0
theorem mask_one {k m : Int} (h0 : 0 < k) (h1 : k ≤ 32) (h : IntKind.u32.wrap (4294967295 * (2 : Int) ^ (min (32 - k).toNat 32)) = m) (w : World) : Calls Tryd.prog 87 #[.int .i64 k] w (Ret (.int .u32 m) w) := by
  refine addr_mask.run ?_
  unfold addr_mask.s
  refine ifE (fun h => by omega) (fun _ => ?_)
  refine let_as (32 - k) (w64 (by omega) (by omega)) ?_
  refine ⟨by omega, ?_⟩
  refine let_as m h ?_
  exact ⟨rfl, Bel.refl w⟩
theorem mask8 {net : Int} (h : Go.bits .andNot .u32 net 4278190080 = 0) : Msk net 8 4278190080 := ⟨mask_one (by decide) (by decide) (by rfl), by decide, by decide, h⟩
theorem mask4 {net : Int} (h : Go.bits .andNot .u32 net 4026531840 = 0) : Msk net 4 4026531840 := ⟨mask_one (by decide) (by decide) (by rfl), by decide, by decide, h⟩
def nv (net k : Int) : List Value := [.int .u32 net, .int .i64 k]
theorem ld_net {w : World} {g : Nat} {t : TypeId} {a0 a1 : Int} {l : List Value} (h : Bk w g t (nv a0 a1 ++ l)) {K : Int → Int → Prop} (k : K a0 a1) : ∃ x0 : Int, ∃ x1 : Int, (2 = 2 ∧ At w ⟨g, 0, none⟩ [.int .u32 x0, .int .i64 x1]) ∧ K x0 x1 := by
  refine ⟨a0, a1, ⟨rfl, fun j u hu => ?_⟩, k⟩
  have hj : j < 2 := (List.getElem?_eq_some_iff.1 hu).1
  rw [add_blk, Nat.zero_add]
  refine h.cell j ?_
  rw [List.getElem?_append_left hj]
  exact hu
theorem fault_a {net k m : Int} (h : Msk net k m) (w : World) : Calls Tryd.prog 88 #[.agg (nv net k).toArray] w (Ret (.int .i64 0) w) := by
  refine addr_fault.run ?_
  unfold addr_fault.s
  refine own_new (l := nv net k) (Own.refl w) fun g1 w1 H => ?_
  have h1 := h.lo
  have h2 := h.hi
  refine ⟨_, H.cell 0 1 rfl rfl, ?_⟩
  refine ifF (by omega) ?_
  refine ⟨_, H.cell 0 1 rfl rfl, ?_⟩
  refine ⟨?_⟩
  rw [addr_fault.j1_eq]
  refine ifD (fun h => by omega) (fun _ => ?_)
  refine draws (fun w' => Own w w' [(g1, 160, nv net k)]) H.drew fun w2 e2 => ?_
  replace H := H.drew
  rw [← e2] at H
  refine ⟨_, fun w' H => H.cell 0 0 rfl rfl, _, fun w' H => H.cell 0 1 rfl rfl, ?_⟩
  refine call_of (h.call w2) ?_
  rintro e w3 ⟨rfl, k3⟩
  replace H := H.call k3
  refine ⟨_, rfl, H, ?_⟩
  refine let_as _ h.net ?_
  refine ifN (fun h => absurd rfl h) (fun _ => ?_)
  exact ⟨rfl, H.bel⟩
theorem valid_a {net k m : Int} (h : Msk net k m) (w : World) : Calls Tryd.prog 86 #[.agg (nv net k).toArray] w (Ret (.bool true) w) := by
  refine addr_Valid.run ?_
  unfold addr_Valid.s
  refine own_new (l := nv net k) (Own.refl w) fun g1 w1 H => ?_
  refine ld_net (l := []) (H.bk 0 rfl) ?_
  refine call_of (fault_a h w1) ?_
  rintro e w3 ⟨rfl, k3⟩
  exact ⟨_, rfl, rfl, H.bel.trans k3⟩
theorem contains_a {net k m : Int} (h : Msk net k m) (w : World) (a : Int) : Calls Tryd.prog 82 #[.agg (nv net k).toArray, .int .u32 a] w (Ret (.bool (Go.bits .and .u32 a m == net)) w) := by
  refine addr_Contains.run ?_
  unfold addr_Contains.s
  refine own_new (l := nv net k) (Own.refl w) fun g1 w1 H => ?_
  refine draws (fun w' => Own w w' [(g1, 160, nv net k)]) H.drew fun w2 e2 => ?_
  replace H := H.drew
  rw [← e2] at H
  refine ⟨net, k, ⟨rfl, fun w' H => (H.bk 0 rfl).at⟩, ?_⟩
  refine call_of (valid_a h w2) ?_
  rintro e w3 ⟨rfl, k3⟩
  replace H := H.call k3
  refine ⟨_, rfl, H, ?_⟩
  refine ifB (fun _ => ?_) (fun h => by cases h)
  refine ⟨_, fun w' H => H.cell 0 1 rfl rfl, _, fun w' H => H.cell 0 0 rfl rfl, ?_⟩
  refine call_of (h.call w3) ?_
  rintro e w4 ⟨rfl, k4⟩
  replace H := H.call k4
  refine ⟨_, rfl, H, ?_⟩
  exact ⟨rfl, H.bel⟩
/-- What Class answers. -/
def clsN (i : Nat) : Int × Int × Int := ([(0, 4278190080, 1), (2130706432, 4278190080, 2), (3758096384, 4026531840, 3), (4026531840, 4026531840, 4)] : List (Int × Int × Int)).getD i (0, 0, 0)
def clsK (i : Nat) : Int := ([8, 8, 4, 4] : List Int).getD i 0
def cls (a : Int) : Nat → Nat → Int
  | 0, _ => 0
  | n + 1, i => if Go.bits .and .u32 a (clsN i).2.1 = (clsN i).1 then (clsN i).2.2 else cls a n (i + 1)
theorem clsM (i : Nat) (hi : i < 4) : Msk (clsN i).1 (clsK i) (clsN i).2.1 := by
  rcases (by omega : i = 0 ∨ i = 1 ∨ i = 2 ∨ i = 3) with rfl | rfl | rfl | rfl
  · exact mask8 (by rfl)
  · exact mask8 (by rfl)
  · exact mask4 (by rfl)
  · exact mask4 (by rfl)
theorem clsV (i : Nat) (hi : i < 4) : classesL.getD i [] = [.int .u32 (clsN i).1, .int .i64 (clsK i), .int .i64 (clsN i).2.2] := by
  rcases (by omega : i = 0 ∨ i = 1 ∨ i = 2 ∨ i = 3) with rfl | rfl | rfl | rfl <;> rfl
theorem class_l (w0 : World) (x : Int) (a : Addr) (c : Nat) : ∀ (q i : Nat) (w : World), 4 - i < q → i ≤ 4 → Bel w0 w → Gl w0 → (∀ i, i < 4 → At w0 (a.add (i * 3)) (classesL.getD i [])) →
    addr_Class.L1 q x (some a) 4 c 4 (i : Int) w (Ret (.int .i64 (cls x (4 - i) i)) w0) := by
  intro q
  induction q with
  | zero => intro i w h; omega
  | succ q ih =>
    intro i w hq hi hb hg hc
    unfold addr_Class.L1; intros
    rw [addr_Class.l1_eq]
    refine ifD (fun h => ?_) (fun h => ?_)
    · have hlt : i < 4 := by omega
      refine ⟨a, rfl, ⟨by omega, by omega⟩, ?_⟩
      rw [Int.toNat_natCast]
      have hv := hc i hlt
      rw [clsV i hlt] at hv
      refine ⟨_, _, _, ⟨rfl, fun j u hu => hb.cellb (hv j u hu)⟩, ?_⟩
      refine own_new (w := w0) (L := []) (l := [.int .u32 0, .int .i64 0, .int .i64 0]) ⟨hb, fun k g t l h => by simp at h, by simp⟩ fun g5 w2 H => ?_
      refine own_put 0 H rfl rfl (Nat.le_refl 3) fun w3 H => ?_
      refine ld_net (l := [.int .i64 (clsN i).2.2]) (H.bk 0 rfl) ?_
      refine call_of (contains_a (clsM i hlt) w3 x) ?_
      rintro e w4 ⟨rfl, k4⟩
      replace H := H.call k4
      refine ⟨_, rfl, ?_⟩
      have e4 : 4 - i = (4 - (i + 1)) + 1 := by omega
      refine ifE (fun h => ?_) (fun h => ?_)
      · refine ⟨_, H.cell 0 2 rfl rfl, ?_⟩
        rw [e4]
        unfold cls
        rw [if_pos h]
        exact ⟨rfl, H.bel⟩
      · refine let_as ((i + 1 : Nat) : Int) (by rw [w64 (by omega) (by omega)]; omega) ?_
        rw [e4]
        unfold cls
        rw [if_neg h]
        apply ih (i + 1) w4 (by omega) (by omega) H.bel hg hc
    · have : i = 4 := by omega
      subst this
      exact ⟨rfl, hb⟩
theorem class_c {w : World} (hg : Gl w) (x : Int) : Calls Tryd.prog 76 #[.int .u32 x] w (Ret (.int .i64 (cls x 4 0)) w) := by
  refine addr_Class.run ?_
  unfold addr_Class.s
  obtain ⟨a, c, e, hc⟩ := hg.classes
  refine ⟨_, _, _, e, 5, ?_⟩
  exact class_l w x a c 5 0 w (by omega) (by omega) (Bel.refl w) hg hc ..
/-- Is it an address of one machine? -/
def plainA (x : Int) : Bool := decide (16777216 ≤ x ∧ x < 3758096384 ∧ ¬ (2130706432 ≤ x ∧ x < 2147483648))
theorem cls_plain {x : Int} (h0 : 0 ≤ x) (h1 : x ≤ 4294967295) : (cls x 4 0 == 0) = plainA x := by
  simp only [cls, clsN, List.getD_cons_zero, List.getD_cons_succ, and_m8 h0 h1, and_m4 h0 h1]
  unfold plainA
  by_cases e1 : x / 16777216 * 16777216 = 0
  · rw [if_pos e1, decide_eq_false (by omega)]; rfl
  rw [if_neg e1]
  by_cases e2 : x / 16777216 * 16777216 = 2130706432
  · rw [if_pos e2, decide_eq_false (by omega)]; rfl
  rw [if_neg e2]
  by_cases e3 : x / 268435456 * 268435456 = 3758096384
  · rw [if_pos e3, decide_eq_false (by omega)]; rfl
  rw [if_neg e3]
  by_cases e4 : x / 268435456 * 268435456 = 4026531840
  · rw [if_pos e4, decide_eq_false (by omega)]; rfl
  rw [if_neg e4, decide_eq_true (by omega)]
  rfl
theorem plain_c {w : World} (hg : Gl w) {x : Int} (hx : 0 ≤ x ∧ x ≤ 4294967295) : Calls Tryd.prog 55 #[.int .u32 x] w (Ret (.bool (plainA x)) w) := by
  refine icmp_plain.run ?_
  unfold icmp_plain.s
  refine call_of (class_c hg x) ?_
  rintro e w1 ⟨rfl, k1⟩
  refine ⟨_, rfl, ?_⟩
  rw [cls_plain hx.1 hx.2]
  exact ⟨rfl, k1⟩
end Go.Proofs.YtphbdmafchjjeaaDoorS
