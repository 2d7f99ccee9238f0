/- What the functions of package icmp answer.
   Conditions: the three package variables hold their tables; bytes are 0 to 255; lists are no longer than memory lets. -/
import Derived.Test.YtphbdmafchjjeaaDoorHSIcmp
import Derived.Test.YtphbdmafchjjeaaDoorHSPk
namespace Go.Proofs.YtphbdmafchjjeaaDoorS
open Go Go.RowKit Go.Proofs Go.Proofs.YtphbdmafchjjeaaDoorX
set_option maxRecDepth 100000
set_option linter.unusedVariables false
set_option linter.unusedSimpArgs false

/-! ### words -/
/-- May a fault be told with these? -/
def mayB (t c x : Int) : Bool :=
  if t ≥ 13 then false else if c ≥ codesL.getD t.toNat 0 then false
  else if t = 3 ∧ c = 4 then decide (0 ≤ x ∧ x ≤ 65535) else if t = 12 ∧ c = 0 then decide (0 ≤ x ∧ x ≤ 255) else decide (0 ≤ x ∧ x ≤ 0)
def quietP (p : Pk) : Bool := decide (p.off > 0) || !plainA p.src || !plainA p.dst || (decide (p.proto = 1) && (decide (p.body.length = 0) || faultT (p.body.getD 0 0)))
/-! ### the tables -/
theorem isFault_c {w : World} (hg : GlF w) {t : Int} (h : 0 ≤ t ∧ t ≤ 255) : Calls Tryd.prog 64 #[.int .u8 t] w (Ret (.bool (faultT t)) w) := by
  refine icmp_isFault.run ?_
  unfold icmp_isFault.s
  refine let_as t (w64 (by omega) (by omega)) ?_
  refine ifD (fun h1 => ?_) (fun h1 => ?_)
  · refine ⟨⟨h.1, h1⟩, faultT t, ?_, rfl, Bel.refl w⟩
    have := hg t.toNat (by omega)
    rwa [Int.toNat_of_nonneg h.1] at this
  · rw [show faultT t = false from decide_eq_false (by omega)]
    exact ⟨rfl, Bel.refl w⟩
theorem mayBe_c {w : World} (hg : Gl w) {t c x : Int} (h : 0 ≤ t ∧ t ≤ 255) : Calls Tryd.prog 54 #[.int .u8 t, .int .u8 c, .int .i64 x] w (Ret (.bool (mayB t c x)) w) := by
  refine icmp_mayBe.run ?_
  unfold icmp_mayBe.s
  refine let_as t (w64 (by omega) (by omega)) ?_
  unfold mayB
  refine ifD (fun h1 => ?_) (fun h1 => ?_)
  · rw [if_pos h1]; exact ⟨rfl, Bel.refl w⟩
  rw [if_neg h1]
  refine ⟨⟨h.1, by omega⟩, _, hg.codes t.toNat (by omega), ?_⟩
  refine ifD (fun h2 => ?_) (fun h2 => ?_)
  · rw [if_pos h2]; exact ⟨rfl, Bel.refl w⟩
  rw [if_neg h2]
  refine ⟨?_⟩
  rw [icmp_mayBe.j1_eq]
  have two : ∀ (b : Bool), b = decide (t = 3 ∧ c = 4) → icmp_mayBe.J2 t c x 0 b w (Ret (.bool (if t = 3 ∧ c = 4 then decide (0 ≤ x ∧ x ≤ 65535) else if t = 12 ∧ c = 0 then decide (0 ≤ x ∧ x ≤ 255) else decide (0 ≤ x ∧ x ≤ 0))) w) := by
    intro b hb
    unfold icmp_mayBe.J2; intros
    rw [icmp_mayBe.j2_eq]
    have fin : ∀ (k : Int), (if decide (x ≥ 0) = true then Ret (.bool (decide (0 ≤ x ∧ x ≤ k))) w (.returned (.bool (decide (x ≤ k)))) w else Ret (.bool (decide (0 ≤ x ∧ x ≤ k))) w (.returned (.bool false)) w) := by
      intro k
      refine ifD (fun h => ?_) (fun h => ?_)
      · refine ⟨?_, Bel.refl w⟩
        congr 2
        exact decide_eq_decide.2 ⟨fun h2 => ⟨h, h2⟩, fun h2 => h2.2⟩
      · refine ⟨?_, Bel.refl w⟩
        rw [decide_eq_false (p := 0 ≤ x ∧ x ≤ k) (by omega)]
    refine ifB (fun e => ?_) (fun e => ?_)
    · rw [if_pos (of_decide_eq_true (hb.symm.trans e))]
      exact fin _
    rw [if_neg (of_decide_eq_false (hb.symm.trans e))]
    refine ifE (fun h3 => ?_) (fun h3 => ?_)
    · refine ifE (fun h4 => ?_) (fun h4 => ?_)
      · rw [if_pos (show t = 12 ∧ c = 0 from ⟨h3, h4⟩)]; exact fin _
      · rw [if_neg (show ¬ (t = 12 ∧ c = 0) from fun h => h4 h.2)]; exact fin _
    · rw [if_neg (show ¬ (t = 12 ∧ c = 0) from fun h => h3 h.1)]; exact fin _
  refine ifE (fun h3 => ?_) (fun h3 => ?_)
  · refine ⟨?_⟩
    apply two
    rw [decide_eq_decide.2 (by simp [h3] : (t = 3 ∧ c = 4) ↔ c = 4)]
    rfl
  · refine ⟨?_⟩
    apply two
    exact (decide_eq_false (fun h => h3 h.1)).symm
theorem quiet_c {w : World} (hg : Gl w) {p : Pk} (h : p.Fine) {A : Option Addr} {n c : Nat} {B : Option Addr} {m d : Nat} (hp : PkAt w p A n c B m d) : Calls Tryd.prog 56 #[.agg (pb p A n c B m d).toArray] w (Ret (.bool (quietP p)) w) := by
  refine icmp_quiet.run ?_
  unfold icmp_quiet.s
  refine own_new (l := pb p A n c B m d) (Own.refl w) fun g1 w1 H => ?_
  unfold quietP
  refine ⟨_, H.cell 0 4 rfl rfl, ?_⟩
  refine ifD (fun h1 => ?_) (fun h1 => ?_)
  · rw [decide_eq_true h1]; exact ⟨by simp, H.bel⟩
  rw [decide_eq_false h1]
  refine ⟨_, H.cell 0 7 rfl rfl, ?_⟩
  refine call_of (plain_c (hg.bel H.bel) h.src) ?_
  rintro e w2 ⟨rfl, k2⟩
  replace H := H.call k2
  refine ⟨_, rfl, ?_⟩
  refine ifNot (fun h2 => ?_) (fun h2 => ?_)
  · rw [h2]; exact ⟨by simp, H.bel⟩
  rw [h2]
  refine ⟨_, H.cell 0 8 rfl rfl, ?_⟩
  refine call_of (plain_c (hg.bel H.bel) h.dst) ?_
  rintro e w3 ⟨rfl, k3⟩
  replace H := H.call k3
  refine ⟨_, rfl, ?_⟩
  refine ifNot (fun h3 => ?_) (fun h3 => ?_)
  · rw [h3]; exact ⟨by simp, H.bel⟩
  rw [h3]
  refine ⟨?_⟩
  rw [icmp_quiet.j1_eq]
  refine ⟨_, H.cell 0 6 rfl rfl, ?_⟩
  refine ifE (fun h4 => ?_) (fun h4 => ?_)
  · rw [decide_eq_true h4]
    have lb := hp.body.len
    refine ⟨B, m, d, H.cell 0 10 rfl rfl, ?_⟩
    refine ifE (fun h5 => ?_) (fun h5 => ?_)
    · rw [decide_eq_true (by omega : p.body.length = 0)]; exact ⟨by simp, H.bel⟩
    rw [decide_eq_false (by omega : ¬ p.body.length = 0)]
    refine ⟨B, m, d, H.cell 0 10 rfl rfl, ?_⟩
    refine (hp.body.bel H.bel).rd0 (by omega) fun _ => ?_
    have hb := h.body.getD 0
    refine call_of (isFault_c (hg.bel H.bel).f (by omega)) ?_
    rintro e w4 ⟨rfl, k4⟩
    exact ⟨_, rfl, by simp, H.bel.trans k4⟩
  · rw [decide_eq_false h4]; exact ⟨by simp, H.bel⟩

/-! ### messages -/
theorem IParse_r {w : World} {A : Option Addr} {n c : Nat} {b : List Int} (h : By w A n b) (hb : Bytes b) (hc : n ≤ c) :
    Calls Tryd.prog 53 #[.slice A n c] w (fun e w' => Bel w w' ∧ if icBad b = 0 then ∃ A' c', e = .returned (.tuple #[.agg (mv (b.getD 0 0) (b.getD 1 0) (lg b 4) A' (n - 8) c').toArray, .int .i64 0]) ∧ By w' A' (n - 8) (b.drop 8) ∧ n - 8 ≤ c' ∧ Fre w A' ∧ Rm w' A' c'
      else e = .returned (.tuple #[.agg (mv 0 0 0 none 0 0).toArray, .int .i64 (icBad b)])) := by
  refine icmp_Parse.run ?_
  unfold icmp_Parse.s
  have hl := h.len
  refine own_new (l := mv 0 0 0 none 0 0) (Own.refl w) fun g1 w1 H => ?_
  refine ifD (fun h1 => ?_) (fun h1 => ?_)
  · refine put_msg 0 H rfl rfl fun w2 H _ => ⟨H.bel, ?_⟩
    have e : icBad b = 30 := by unfold icBad; rw [if_pos (by omega)]
    rw [e]; rfl
  refine ifD (fun h2 => ?_) (fun h2 => ?_)
  · refine put_msg 0 H rfl rfl fun w2 H _ => ⟨H.bel, ?_⟩
    have e : icBad b = 37 := by unfold icBad; rw [if_neg (by omega), if_pos (by omega)]
    rw [e]; rfl
  refine own_newB (l := [.slice A n c]) H fun g2 w2 H k2 => ?_
  refine call_of (sum1_c (H.bk 0 rfl) (h.bel H.bel) hb (by omega) 1) ?_
  rintro e w3 ⟨rfl, k3⟩
  replace H := (H.call k3).tail
  refine ⟨_, rfl, ?_⟩
  refine ifN (fun h3 => ?_) (fun h3 => ?_)
  · refine put_msg 0 H rfl rfl fun w2 H _ => ⟨H.bel, ?_⟩
    have e : icBad b = 33 := by unfold icBad; rw [if_neg (by omega), if_neg (by omega), if_pos (by omega)]
    rw [e]; rfl
  have e0 : icBad b = 0 := by unfold icBad; rw [if_neg (by omega), if_neg (by omega), if_neg (by omega)]
  have b4 := hb.getD 4
  have b5 := hb.getD 5
  have b6 := hb.getD 6
  have b7 := hb.getD 7
  have hS : ∀ w', (∃ l, Own w w' [(g1, 115, l)]) → Bel w w' := fun w' ⟨l, h⟩ => h.bel
  refine draws (fun w' => ∃ l, Own w w' [(g1, 115, l)]) ⟨_, H.drew⟩ fun w4 e4 => ?_
  replace H := H.drew
  rw [← e4] at H
  refine h.rdkS hS 4 rfl (by omega) fun _ => ?_
  refine let_as _ (u32_mod _) ?_
  refine let_as _ (u32_mod _) ?_
  refine h.rdkS hS 5 rfl (by omega) fun _ => ?_
  refine let_as _ (u32_mod _) ?_
  refine let_as _ (u32_mod _) ?_
  refine let_id ?_
  refine h.rdkS hS 6 rfl (by omega) fun _ => ?_
  refine let_as _ (u32_mod _) ?_
  refine let_as _ (u32_mod _) ?_
  refine let_id ?_
  refine h.rdkS hS 7 rfl (by omega) fun _ => ?_
  refine let_as _ (u32_mod _) ?_
  refine let_as _ (or_four (by omega) (by omega) (by omega) (by omega)) ?_
  refine draws (fun w' => ∃ l, Own w w' [(g1, 115, l)]) ⟨_, H.drew⟩ fun w5 e5 => ?_
  replace H := H.drew
  rw [← e5] at H
  refine h.rd0S hS (by omega) fun _ => ?_
  refine h.rdkS hS 1 rfl (by omega) fun _ => ?_
  refine ⟨⟨by omega, by omega⟩, ?_⟩
  refine app_byR H (By.nil _ none) rfl ((h.bel H.bel).cut (k := 8) (m := c) (by omega) hc) (by omega) fun A' cap w6 h2 H' k6 hb' hf => ?_
  have H0 := H
  have hf' : Fre w5 A' := by
    rcases hf with ⟨rfl, _⟩ | hf
    · exact Fre.nil _
    · exact hf.1
  have hr : Rm w6 A' cap := by
    rcases hf with ⟨rfl, rfl⟩ | hf
    · exact Rm.nil _
    · exact hf.2
  have ho := H.old 0 rfl hf'
  refine ⟨⟨_, H'⟩, ?_⟩
  rw [Nat.zero_add] at hb' ⊢
  rw [List.nil_append] at hb'
  refine own_putB 0 H' rfl rfl (Nat.le_refl 4) fun w7 H u => ?_
  refine ⟨⟨_, H⟩, ?_⟩
  refine ld_msg (H.bk 0 rfl) ?_
  refine ⟨H.bel, ?_⟩
  rw [if_pos e0]
  refine ⟨A', cap, rfl, hb'.but u ho, by omega, hf'.le H0.bel, hr.but u ho⟩
theorem Parse_c {w : World} {A : Option Addr} {n c : Nat} {b : List Int} (h : By w A n b) (hb : Bytes b) (hc : n ≤ c) :
    Calls Tryd.prog 53 #[.slice A n c] w (fun e w' => Bel w w' ∧ if icBad b = 0 then ∃ A' c', e = .returned (.tuple #[.agg (mv (b.getD 0 0) (b.getD 1 0) (lg b 4) A' (n - 8) c').toArray, .int .i64 0]) ∧ By w' A' (n - 8) (b.drop 8) ∧ n - 8 ≤ c' ∧ Fre w A'
      else e = .returned (.tuple #[.agg (mv 0 0 0 none 0 0).toArray, .int .i64 (icBad b)])) := by
  refine (IParse_r h hb hc).mono fun e w' hk => ⟨hk.1, ?_⟩
  by_cases h0 : icBad b = 0
  · have k := hk.2
    rw [if_pos h0] at k ⊢
    obtain ⟨A1, c1, h1, h2, h3, h4, _⟩ := k
    exact ⟨A1, c1, h1, h2, h3, h4⟩
  · have k := hk.2
    rw [if_neg h0] at k ⊢
    exact k
/-- A message's bytes, built: a block of their own, with room behind them. -/
def MadeC (w : World) (e : Ending) (w' : World) (l : List Int) : Prop := ∃ g cap, e = .returned (.tuple #[.slice (some ⟨g, 0, none⟩) l.length cap, .int .i64 0]) ∧ Bk w' g 5 (bv (l ++ List.replicate (cap - l.length) 0)) ∧ w.heap.size ≤ g ∧ l.length ≤ cap ∧ cap ≤ 9223372036854775807
theorem MadeC.by {w w' : World} {e : Ending} {l : List Int} (h : MadeC w e w' l) : ∃ A cap, e = .returned (.tuple #[.slice A l.length cap, .int .i64 0]) ∧ By w' A l.length l ∧ Fre w A ∧ l.length ≤ cap := by
  obtain ⟨g, cap, e, hb, hg, hc⟩ := h
  refine ⟨_, cap, e, ?_, Fre.mk hg, hc.1⟩
  have := hb.by.take (k := l.length) (by simp)
  rwa [List.take_left' rfl] at this
theorem BuildI_c {w : World} {q : Ic} (h : q.Fine) {A : Option Addr} {n c : Nat} (ha : By w A n q.body) :
    Calls Tryd.prog 62 #[.agg (mv q.typ q.code q.rest A n c).toArray] w (fun e w' => Bel w w' ∧ if q.body.length ≤ 65507 then MadeC w e w' (q.bytes q.sum) else e = .returned (.tuple #[.slice none 0 0, .int .i64 37])) := by
  refine icmp_Build.run ?_
  unfold icmp_Build.s
  have la := ha.len
  have hr := h.rest
  have hs := Ic.sum_range h
  refine own_new (l := mv q.typ q.code q.rest A n c) (Own.refl w) fun g1 w1 H => ?_
  refine ⟨A, n, c, H.cell 0 3 rfl rfl, ?_⟩
  refine ifD (fun h1 => ?_) (fun h1 => ?_)
  · exact ⟨H.bel, by rw [if_neg (by omega)]⟩
  refine ⟨_, H.cell 0 0 rfl rfl, _, H.cell 0 1 rfl rfl, _, H.cell 0 2 rfl rfl, ?_⟩
  refine let_as _ (fd _ (by omega)) ?_
  refine let_as (q.rest / 16777216 % 256) (by rw [IntKind.wrap_u8]) ?_
  refine ⟨_, H.cell 0 2 rfl rfl, ?_⟩
  refine let_as _ (fd _ (by omega)) ?_
  refine let_as (q.rest / 65536 % 256) (by rw [IntKind.wrap_u8]) ?_
  refine ⟨_, H.cell 0 2 rfl rfl, ?_⟩
  refine let_as _ (fd _ (by omega)) ?_
  refine let_as (q.rest / 256 % 256) (by rw [IntKind.wrap_u8]) ?_
  refine ⟨_, H.cell 0 2 rfl rfl, ?_⟩
  refine let_as (q.rest % 256) (by rw [IntKind.wrap_u8]) ?_
  refine own_new (l := bv [q.typ, q.code, 0, 0, q.rest / 16777216 % 256, q.rest / 65536 % 256, q.rest / 256 % 256, q.rest % 256]) H fun g2 w2 H => ?_
  refine ⟨A, n, c, H.cell 1 3 rfl rfl, ?_⟩
  refine app_own H rfl (ha.bel H.bel) (by omega) fun g3 cap w3 h3 H => ?_
  refine own_newB (l := [.slice (some ⟨g3, 0, none⟩) (8 + n) cap]) H fun g4 w4 H k4 => ?_
  have hl8 : ([q.typ, q.code, 0, 0, q.rest / 16777216 % 256, q.rest / 65536 % 256, q.rest / 256 % 256, q.rest % 256] ++ q.body).length = 8 + n := by rw [List.length_append, la]; rfl
  have hby := (H.bk 1 rfl).by.take (k := 8 + n) (by simp; omega)
  rw [List.take_left' hl8] at hby
  have hbb : Bytes ([q.typ, q.code, 0, 0, q.rest / 16777216 % 256, q.rest / 65536 % 256, q.rest / 256 % 256, q.rest % 256] ++ q.body) := Ic.bytes_bytes h 0
  refine call_of (sum1_c (H.bk 0 rfl) hby hbb (by omega) 1) ?_
  rintro e w5 ⟨rfl, k5⟩
  replace H := (H.call k5).tail
  refine ⟨_, rfl, ?_⟩
  have es : 65535 - S (tot true ([q.typ, q.code, 0, 0, q.rest / 16777216 % 256, q.rest / 65536 % 256, q.rest / 256 % 256, q.rest % 256] ++ q.body)) = q.sum := by
    have := Ic.tot_bytes q (s := 0) (by omega) (by omega)
    unfold Ic.sum
    rw [Int.add_zero] at this
    rw [← this]
    rfl
  rw [es]
  refine let_as _ (fd _ (by omega)) ?_
  refine let_as (q.sum / 256 % 256) (by rw [IntKind.wrap_u8]) ?_
  refine let_as (q.sum % 256) (by rw [IntKind.wrap_u8]) ?_
  refine ⟨_, rfl, ⟨by omega, by omega⟩, ?_⟩
  rw [add_blk]
  refine own_set 0 H rfl (by simp [bv]) fun w6 H => ?_
  refine ⟨_, rfl, ⟨by omega, by omega⟩, ?_⟩
  rw [add_blk]
  refine own_set 0 H rfl (by simp [bv]) fun w7 H => ?_
  refine ⟨H.bel, ?_⟩
  have ll := Ic.len q q.sum
  rw [if_pos (by omega)]
  refine ⟨g3, cap, ?_, ?_, H.ge 0 rfl, by omega, by omega⟩
  · rw [ll, la]
  · rw [ll, la]
    exact H.bk 0 rfl
end Go.Proofs.YtphbdmafchjjeaaDoorS
