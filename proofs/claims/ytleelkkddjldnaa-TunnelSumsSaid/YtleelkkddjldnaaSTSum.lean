/- Package weftlaw7: TunnelSums.
   Conditions: the arguments are as a row's arguments are. -/
import Derived.Test.YtleelkkddjldnaaSTLaw
import Derived.Test.YtleelkkddjldnaaSTSumP
import Derived.Test.YtleelkkddjldnaaSFW
namespace Go.Proofs.YtleelkkddjldnaaS
open Go Go.RowKit Go.Proofs Go.Proofs.YtleelkkddjldnaaX
set_option maxRecDepth 100000
set_option linter.unusedVariables false
set_option linter.unusedSectionVars false
set_option linter.unusedSimpArgs false

theorem wd_uRaw {sp dp : Int} (hsp : 0 ≤ sp ∧ sp ≤ 65535) (hdp : 0 ≤ dp ∧ dp ≤ 65535) (body : List Int) (s : Int) : wd (uRaw sp dp body s) 0 = sp ∧ wd (uRaw sp dp body s) 2 = dp := by
  have h := uRaw_get sp dp body s
  rw [h.1, h.2.1]
  omega
section
variable {w : World} {src dst sp dp : Int} (hs : 0 ≤ src ∧ src ≤ 4294967295) (hd : 0 ≤ dst ∧ dst ≤ 4294967295) (hsp : 0 ≤ sp ∧ sp ≤ 65535) (hdp : 0 ≤ dp ∧ dp ≤ 65535) {A : Option Addr} {n c : Nat} {body : List Int} (hA : By w A n body) (hb : Bytes body) (hl : body.length ≤ 65527)
  {bit at_ : Int} (hbit : 0 ≤ bit ∧ bit ≤ 31) (hat : 0 ≤ at_)
include hs hd hsp hdp hA hb hl hbit
/-- A datagram that was written is read at these addresses: its record. -/
theorem read_own {wa : World} {s2 d2 : Int} (hs2 : 0 ≤ s2 ∧ s2 ≤ 4294967295) (hd2 : 0 ≤ d2 ∧ d2 ≤ 4294967295) {s : Int} {C : Option Addr} {k j : Nat} (y : By wa C k (uRaw sp dp body s)) (hj : k ≤ j) (h0 : uBad s2 d2 (uRaw sp dp body s) = 0) :
    Calls Try.prog 16 #[.int .u32 s2, .int .u32 d2, .slice C k j] wa (fun e w' => Bel wa w' ∧ ∃ D q, e = .returned (.tuple #[.agg (dv sp dp D n q).toArray, .int .i64 0]) ∧ By w' D n body ∧ Fre wa D) := by
  refine call_of (ParseUDP_c hs2 hd2 y (uRaw_bytes sp dp hb s) hj) ?_
  rintro e w' ⟨k1, he⟩
  rw [if_pos h0] at he
  obtain ⟨g, rfl, H⟩ := he
  have e1 := uRaw_n (sp := sp) (dp := dp) hl s
  have e2 := uRaw_body (sp := sp) (dp := dp) hl s
  have e3 := wd_uRaw hsp hdp body s
  have hn := hA.len
  rw [e2] at H
  have y := (H.bk 0 rfl).by
  refine ⟨k1, some ⟨g, 0, none⟩, n, ?_, ?_, Fre.mk (H.ge 0 rfl)⟩
  · rw [e3.1, e3.2, e1]
    rw [show 8 + body.length - 8 = n by omega]
  · rw [← hn]
    exact y
theorem Sums_j13 {wa : World} {g14 g1 : Nat} {l14 : List Value} (h14 : l14.length = 3) (H : Own w wa [(g14, 30, l14), (g1, 30, dv sp dp A n c)]) {C : Option Addr} {k j : Nat} (y : By wa C k (uRaw sp dp body 0)) (hj : k ≤ j) :
    weftlaw7_TunnelSums.J13 src dst bit g1 C k j g14 wa (Yes w) := by
  unfold weftlaw7_TunnelSums.J13; intros
  rw [weftlaw7_TunnelSums.j13_eq]
  obtain ⟨z, e1, hz, _⟩ := flip32 hd.1 hd.2 (j := bit.toNat) (by omega)
  have hn := hA.len
  refine ⟨hbit.1, ?_⟩
  refine let_as _ (pw_wrap hbit.1 hbit.2) ?_
  refine let_as z e1 ?_
  refine call_of (read_own hs hd hsp hdp hA hb hl hbit hz hs y hj (by rw [uRaw_bad hl (by decide), if_neg (fun h => h.1 rfl)])) ?_
  rintro e w2 ⟨k2, D, q, rfl, y2, f2⟩
  have o := H.old 0 rfl f2
  replace H := H.call k2
  refine ⟨_, _, _, _, _, _, rfl, ?_⟩
  refine own_putB 0 H rfl rfl (by omega) fun w3 H u3 => ?_
  replace y2 := y2.but u3 o
  rw [splice_all _ _ (by rw [h14]; rfl)] at H
  replace H : Own w w3 [(g14, 30, dv sp dp D n q), (g1, 30, dv sp dp A n c)] := H
  refine ifE (fun _ => ?_) (fun h => absurd rfl h)
  refine ⟨_, H.cell 0 0 rfl rfl, _, H.cell 1 0 rfl rfl, ifE (fun _ => ?_) (fun h => absurd rfl h)⟩
  refine ⟨_, H.cell 0 1 rfl rfl, _, H.cell 1 1 rfl rfl, ifE (fun _ => ?_) (fun h => absurd rfl h)⟩
  refine ⟨_, _, _, H.cell 0 2 rfl rfl, _, _, _, H.cell 1 2 rfl rfl, ?_⟩
  refine call_of (same_t y2 (hA.bel H.bel) (by omega)) ?_
  rintro e w4 ⟨rfl, k4⟩
  exact ⟨_, rfl, rfl, H.bel.trans k4⟩
theorem Sums_j11 {wa : World} {g14 g1 : Nat} {l14 : List Value} (h14 : l14.length = 3) (H : Own w wa [(g14, 30, l14), (g1, 30, dv sp dp A n c)]) :
    weftlaw7_TunnelSums.J11 src dst bit g1 g14 wa (Yes w) := by
  unfold weftlaw7_TunnelSums.J11; intros
  rw [weftlaw7_TunnelSums.j11_eq]
  have hn := hA.len
  refine ld_dg (H.bk 1 rfl) ?_
  refine call_of (BuildUDP_c hs hd hsp hdp (hA.bel H.bel) hb false) ?_
  rintro e w2 he
  obtain ⟨g, rfl, H2⟩ := he.2 (by omega)
  have eb : uBytes src dst sp dp body false = uRaw sp dp body 0 := rfl
  rw [eb] at H2 ⊢
  have y := (H2.bk 0 rfl).by
  have hrl := uRaw_len sp dp body 0
  replace H := H.call H2.bel
  refine ⟨_, _, _, _, rfl, ?_⟩
  refine ifN (fun h => absurd rfl h) (fun _ => ?_)
  refine ⟨A, n, c, H.cell 1 2 rfl rfl, ?_⟩
  refine let_as ((8 + n : Nat) : Int) (by rw [w64 (by omega) (by omega)]; omega) ?_
  refine ⟨?_⟩
  rw [weftlaw7_TunnelSums.j12_eq]
  refine ifN (fun h => absurd (by rw [hrl, hn]) h) (fun _ => ?_)
  have k := Sums_j13 hs hd hsp hdp hA hb hl hbit h14 H y (Nat.le_refl _)
  exact ⟨by with_reducible apply k⟩
include hat in
theorem Sums_j8 {wa : World} {g14 g1 g : Nat} {l14 : List Value} (h14 : l14.length = 3) (H : Own w wa [(g, 5, bv (uBytes src dst sp dp body true)), (g14, 30, l14), (g1, 30, dv sp dp A n c)]) :
    weftlaw7_TunnelSums.J8 src dst at_ bit g1 (some ⟨g, 0, none⟩) (8 + n) (8 + n) g14 wa (Yes w) := by
  unfold weftlaw7_TunnelSums.J8; intros
  rw [weftlaw7_TunnelSums.j8_eq]
  have hn := hA.len
  have hbb : Bytes (uBytes src dst sp dp body true) := uRaw_bytes sp dp hb _
  have hrl : (uBytes src dst sp dp body true).length = 8 + n := by unfold uBytes; rw [uRaw_len, hn]
  refine ⟨by omega, ?_⟩
  obtain ⟨m, hm⟩ : ∃ m : Nat, at_ % ((8 + n : Nat) : Int) = (m : Int) := ⟨(at_ % ((8 + n : Nat) : Int)).toNat, by have := Int.emod_nonneg at_ (b := ((8 + n : Nat) : Int)) (by omega); omega⟩
  have hml : m < 8 + n := by have := Int.emod_lt_of_pos at_ (b := ((8 + n : Nat) : Int)) (by omega); omega
  refine let_as (m : Int) (by rw [tm hat]; exact hm) ?_
  have skip : weftlaw7_TunnelSums.J9 src dst bit g1 (some ⟨g, 0, none⟩) (8 + n) (8 + n) g14 (m : Int) false wa (Yes w) := by
    unfold weftlaw7_TunnelSums.J9; intros
    rw [weftlaw7_TunnelSums.j9_eq]
    refine ifB (fun h => by cases h) (fun _ => ?_)
    have k := Sums_j11 hs hd hsp hdp hA hb hl hbit h14 H.tail
    exact ⟨by with_reducible apply k⟩
  have turn : m ≠ 4 → m ≠ 5 → weftlaw7_TunnelSums.J9 src dst bit g1 (some ⟨g, 0, none⟩) (8 + n) (8 + n) g14 (m : Int) true wa (Yes w) := by
    intro h4 h5
    unfold weftlaw7_TunnelSums.J9; intros
    rw [weftlaw7_TunnelSums.j9_eq]
    refine ifB (fun _ => ?_) (fun h => by cases h)
    have hr0 := hbb.getD m
    have hj : (bit % 8).toNat < 8 := by omega
    have hf := flip_ok hr0.1 hr0.2 hj
    refine draws (fun w' => Own w w' [(g, 5, bv (uBytes src dst sp dp body true)), (g14, 30, l14), (g1, 30, dv sp dp A n c)]) H.drew fun w2 e2 => ?_
    replace H := H.drew
    rw [← e2] at H
    refine ⟨_, rfl, ⟨by omega, by omega⟩, _, fun w' hw => (by rw [Int.toNat_natCast, add_blk, Nat.zero_add]; exact hw.cell 0 m rfl (bv_get _ m (by omega))), ?_⟩
    refine let_as (bit % 8) (tm hbit.1) ?_
    refine ⟨by omega, ?_⟩
    refine let_as _ (bw_wrap (by omega) (by omega)) ?_
    refine let_as _ hf.1 ?_
    refine ⟨_, rfl, ⟨by omega, by omega⟩, ?_⟩
    rw [Int.toNat_natCast, add_blk, Nat.zero_add]
    refine own_set 0 H rfl (by rw [bv_len]; omega) fun w3 H => ?_
    rw [bv_set] at H
    have hnb : Bytes ((uBytes src dst sp dp body true).set m (flip8 ((uBytes src dst sp dp body true).getD m 0) (bit % 8).toNat)) := hbb.set m hf.2
    have hnl : ((uBytes src dst sp dp body true).set m (flip8 ((uBytes src dst sp dp body true).getD m 0) (bit % 8).toNat)).length = 8 + n := by rw [List.length_set, hrl]
    have bad : wd ((uBytes src dst sp dp body true).set m (flip8 ((uBytes src dst sp dp body true).getD m 0) (bit % 8).toNat)) 6 ≠ 0 → uBad src dst ((uBytes src dst sp dp body true).set m (flip8 ((uBytes src dst sp dp body true).getD m 0) (bit % 8).toNat)) = 73 := fun h6 => uBytes_bit hb hl hs hd (by omega) h4 h5 hj h6
    generalize (uBytes src dst sp dp body true).set m (flip8 ((uBytes src dst sp dp body true).getD m 0) (bit % 8).toNat) = b' at *
    have y := (H.bk 0 rfl).by
    rw [hnl] at y
    refine call_of (ParseUDP_c hs hd y hnb (Nat.le_refl _)) ?_
    rintro e w4 he
    obtain ⟨k4, D, q, rfl, _, _⟩ := dg_out he
    replace H : Own w w4 _ := H.call k4
    replace y := y.bel k4
    have g6 := hnb.getD 6
    have g7 := hnb.getD 7
    have e6 : wd b' 6 = b'.getD 6 0 * 256 + b'.getD 7 0 := rfl
    refine ⟨_, _, _, _, _, _, rfl, ?_⟩
    have go : ∀ z : Bool, z = false → weftlaw7_TunnelSums.J10 src dst bit g1 g14 z w4 (Yes w) := by
      intro z hz
      unfold weftlaw7_TunnelSums.J10; intros
      rw [weftlaw7_TunnelSums.j10_eq]
      refine ifB (fun h => by rw [hz] at h; cases h) (fun _ => ?_)
      have k := Sums_j11 hs hd hsp hdp hA hb hl hbit h14 H.tail
      exact ⟨by with_reducible apply k⟩
    refine y.rdk 6 rfl (by omega) fun _ => ?_
    refine ifN (fun h6 => ?_) (fun h6 => ?_)
    · have k := go (uBad src dst b' != 73) (by rw [bad (by omega)]; rfl)
      exact ⟨by with_reducible apply k⟩
    refine y.rdk 7 rfl (by omega) fun _ => ?_
    refine ifN (fun h7 => ?_) (fun h7 => ?_)
    · have k := go (uBad src dst b' != 73) (by rw [bad (by omega)]; rfl)
      exact ⟨by with_reducible apply k⟩
    · have k := go false rfl
      exact ⟨by with_reducible apply k⟩
  refine ifN (fun h4 => ?_) (fun h4 => ?_)
  · by_cases h5 : m = 5
    · have e5 : ((m : Int) != 5) = false := by rw [h5]; rfl
      rw [e5]
      exact ⟨by with_reducible apply skip⟩
    · have e5 : ((m : Int) != 5) = true := by rw [bne_d]; exact decide_eq_true (by omega)
      have k := turn (by omega) h5
      rw [e5]
      exact ⟨by with_reducible apply k⟩
  · exact ⟨by with_reducible apply skip⟩
include hat in
theorem Sums_j6 {wa : World} {g14 g1 g : Nat} {l14 : List Value} (h14 : l14.length = 3) (H : Own w wa [(g, 5, bv (uBytes src dst sp dp body true)), (g14, 30, l14), (g1, 30, dv sp dp A n c)]) :
    weftlaw7_TunnelSums.J6 src dst at_ bit g1 (some ⟨g, 0, none⟩) (8 + n) (8 + n) g14 wa (Yes w) := by
  unfold weftlaw7_TunnelSums.J6; intros
  rw [weftlaw7_TunnelSums.j6_eq]
  have hn := hA.len
  have hbb : Bytes (uBytes src dst sp dp body true) := uRaw_bytes sp dp hb _
  have hrl : (uBytes src dst sp dp body true).length = 8 + n := by unfold uBytes; rw [uRaw_len, hn]
  obtain ⟨s2, e2, hs2, p2⟩ := flip32 hs.1 hs.2 (j := bit.toNat) (by omega)
  obtain ⟨d2, e3, hd2, p3⟩ := flip32 hd.1 hd.2 (j := bit.toNat) (by omega)
  have f2 : uBad s2 dst (uBytes src dst sp dp body true) = 73 := uBytes_flip hb hl hs hd hs2 hd (j := bit.toNat) (by omega) (.inl ⟨p2, rfl⟩)
  have f3 : uBad src d2 (uBytes src dst sp dp body true) = 73 := uBytes_flip hb hl hs hd hs hd2 (j := bit.toNat) (by omega) (.inr ⟨rfl, p3⟩)
  have y := (H.bk 0 rfl).by
  rw [hrl] at y
  refine ⟨hbit.1, ?_⟩
  refine let_as _ (pw_wrap hbit.1 hbit.2) ?_
  refine let_as s2 e2 ?_
  refine call_of (ParseUDP_c hs2 hd y hbb (Nat.le_refl _)) ?_
  rintro e w2 he
  obtain ⟨k2, D, q, rfl, _, _⟩ := dg_out he
  replace H := H.call k2
  replace y := y.bel k2
  refine ⟨_, _, _, _, _, _, rfl, hbit.1, ?_⟩
  refine let_as _ (pw_wrap hbit.1 hbit.2) ?_
  refine let_as d2 e3 ?_
  refine call_of (ParseUDP_c hs hd2 y hbb (Nat.le_refl _)) ?_
  rintro e w3 he
  obtain ⟨k3, D3, q3, rfl, _, _⟩ := dg_out he
  replace H := H.call k3
  refine ⟨_, _, _, _, _, _, rfl, ?_⟩
  refine own_mk (dv 0 0 none 0 0) H rfl rfl fun g17 w4 H k4 _ => ?_
  rw [f2, f3]
  refine ifN (fun h => absurd rfl h) (fun _ => ?_)
  refine ⟨?_⟩
  rw [weftlaw7_TunnelSums.j7_eq]
  refine ifN (fun h => absurd rfl h) (fun _ => ?_)
  have k := Sums_j8 hs hd hsp hdp hA hb hl hbit hat h14 H.tail
  exact ⟨by with_reducible apply k⟩
include hat in
theorem Sums_j4 {wa : World} {g1 g : Nat} (H : Own w wa [(g, 5, bv (uBytes src dst sp dp body true)), (g1, 30, dv sp dp A n c)]) :
    weftlaw7_TunnelSums.J4 src dst at_ bit g1 (some ⟨g, 0, none⟩) (8 + n) (8 + n) wa (Yes w) := by
  unfold weftlaw7_TunnelSums.J4; intros
  rw [weftlaw7_TunnelSums.j4_eq]
  have hn := hA.len
  have hrl : (uBytes src dst sp dp body true).length = 8 + n := by unfold uBytes; rw [uRaw_len, hn]
  have y := (H.bk 0 rfl).by
  rw [hrl] at y
  refine call_of (read_own hs hd hsp hdp hA hb hl hbit hs hd y (Nat.le_refl _) (uBytes_read hb hl hs hd)) ?_
  rintro e w2 ⟨k2, D, q, rfl, y2, f2⟩
  replace H := H.call k2
  refine ⟨_, _, _, _, _, _, rfl, ?_⟩
  refine own_mk (dv 0 0 none 0 0) H rfl rfl fun g7 w3 H k3 _ => ?_
  replace y2 := y2.bel k3
  replace H : Own w w3 [(g7, 30, dv sp dp D n q), (g, 5, bv (uBytes src dst sp dp body true)), (g1, 30, dv sp dp A n c)] := H
  refine ifN (fun h => absurd rfl h) (fun _ => ?_)
  refine ⟨_, H.cell 0 0 rfl rfl, _, H.cell 2 0 rfl rfl, ifN (fun h => absurd rfl h) (fun _ => ?_)⟩
  refine ⟨_, H.cell 0 1 rfl rfl, _, H.cell 2 1 rfl rfl, ifN (fun h => absurd rfl h) (fun _ => ?_)⟩
  refine ⟨_, _, _, H.cell 0 2 rfl rfl, _, _, _, H.cell 2 2 rfl rfl, ?_⟩
  refine call_of (same_t y2 (hA.bel H.bel) (by omega)) ?_
  rintro e w4 ⟨rfl, k4⟩
  replace H := H.call k4
  refine ⟨_, rfl, ⟨?_⟩⟩
  rw [weftlaw7_TunnelSums.j5_eq]
  refine ifNot (fun h => by cases h) (fun _ => ?_)
  have k := Sums_j6 hs hd hsp hdp hA hb hl hbit hat (g14 := g7) (l14 := dv sp dp D n q) rfl (Own.swap H)
  exact ⟨by with_reducible apply k⟩
include hat in
theorem Sums_j2 {wa : World} {g1 : Nat} (H : Own w wa [(g1, 30, dv sp dp A n c)]) : weftlaw7_TunnelSums.J2 src dst at_ bit g1 wa (Yes w) := by
  unfold weftlaw7_TunnelSums.J2; intros
  rw [weftlaw7_TunnelSums.j2_eq]
  have hn := hA.len
  have hrl : (uBytes src dst sp dp body true).length = 8 + n := by unfold uBytes; rw [uRaw_len, hn]
  refine ld_dg (H.bk 0 rfl) ?_
  refine call_of (BuildUDP_c hs hd hsp hdp (hA.bel H.bel) hb true) ?_
  rintro e w2 he
  obtain ⟨g, rfl, H2⟩ := he.2 (by omega)
  have HJ := Own.join H H2
  have y := (H2.bk 0 rfl).by
  rw [hrl] at y ⊢
  have s0 := (uSum_ok (src := src) (dst := dst) (sp := sp) (dp := dp) hb hs hd).resolve_right (by omega)
  have sr := uSum_range (src := src) (dst := dst) (sp := sp) (dp := dp) hb true
  have e6 : (uBytes src dst sp dp body true).getD 6 0 = uSum src dst sp dp body true / 256 % 256 := rfl
  have e7 : (uBytes src dst sp dp body true).getD 7 0 = uSum src dst sp dp body true % 256 := rfl
  refine ⟨_, _, _, _, rfl, ?_⟩
  refine ifN (fun h => absurd rfl h) (fun _ => ?_)
  refine ⟨A, n, c, HJ.cell 1 2 rfl rfl, ?_⟩
  refine let_as ((8 + n : Nat) : Int) (by rw [w64 (by omega) (by omega)]; omega) ?_
  refine ifN (fun h => absurd rfl h) (fun _ => ?_)
  have go : ∀ z : Bool, z = false → weftlaw7_TunnelSums.J3 src dst at_ bit g1 (some ⟨g, 0, none⟩) (8 + n) (8 + n) z w2 (Yes w) := by
    intro z hz
    unfold weftlaw7_TunnelSums.J3; intros
    rw [weftlaw7_TunnelSums.j3_eq]
    refine ifB (fun h => by rw [hz] at h; cases h) (fun _ => ?_)
    have k := Sums_j4 hs hd hsp hdp hA hb hl hbit hat HJ
    exact ⟨by with_reducible apply k⟩
  refine y.rdk 6 rfl (by omega) fun _ => ?_
  refine ifE (fun h6 => ?_) (fun h6 => ?_)
  · refine y.rdk 7 rfl (by omega) fun _ => ?_
    have k := go ((uBytes src dst sp dp body true).getD 7 0 == 0) (by rw [beq_d]; exact decide_eq_false (by omega))
    exact ⟨by with_reducible apply k⟩
  · have k := go false rfl
    exact ⟨by with_reducible apply k⟩
end
theorem TunnelSums_t {w : World} {src dst : Int} (hs : 0 ≤ src ∧ src ≤ 4294967295) (hd : 0 ≤ dst ∧ dst ≤ 4294967295) {z : Int × Int × List Int} {A : Option Addr} {n c : Nat} (h : (0 ≤ z.1 ∧ z.1 ≤ 65535) ∧ (0 ≤ z.2.1 ∧ z.2.1 ≤ 65535) ∧ By w A n z.2.2 ∧ Bytes z.2.2 ∧ n ≤ c)
    {at_ bit : Int} (ha : -9223372036854775808 ≤ at_ ∧ at_ ≤ 9223372036854775807) (hb : -9223372036854775808 ≤ bit ∧ bit ≤ 9223372036854775807) :
    Calls Try.prog 4 #[.int .u32 src, .int .u32 dst, .agg (dv z.1 z.2.1 A n c).toArray, .int .i64 at_, .int .i64 bit] w (Yes w) := by
  obtain ⟨hsp, hdp, hA, hbb, hc⟩ := h
  refine weftlaw7_TunnelSums.run ?_
  unfold weftlaw7_TunnelSums.s
  have hn := hA.len
  refine own_new (l := dv z.1 z.2.1 A n c) (Own.refl w) fun g1 w1 H => ?_
  refine call_of (begun_t w1) ?_
  rintro e w2 ⟨rfl, k2⟩
  replace H := H.call k2
  refine ⟨_, rfl, ifNot (fun h => by cases h) (fun _ => ?_)⟩
  refine ⟨A, n, c, H.cell 0 2 rfl rfl, ?_⟩
  have out : ∀ b : Bool, b = true → weftlaw7_TunnelSums.J1 src dst at_ bit g1 b w2 (Yes w) := by
    intro b hb
    unfold weftlaw7_TunnelSums.J1; intros
    rw [weftlaw7_TunnelSums.j1_eq]
    exact ifB (fun _ => ⟨rfl, H.bel⟩) (fun hf => by rw [hb] at hf; cases hf)
  refine ifD (fun h1 => ?_) (fun h1 => ?_)
  · have k := out true rfl
    exact ⟨by with_reducible apply k⟩
  refine ifD (fun h2 => ?_) (fun h2 => ?_)
  · have k := out true rfl
    exact ⟨by with_reducible apply k⟩
  refine ifD (fun h3 => ?_) (fun h3 => ?_)
  · have k := out true rfl
    exact ⟨by with_reducible apply k⟩
  by_cases h4 : bit > 31
  · have k := out (decide (bit > 31)) (decide_eq_true h4)
    exact ⟨by with_reducible apply k⟩
  refine ⟨?_⟩
  rw [weftlaw7_TunnelSums.j1_eq]
  refine ifD (fun h => absurd h h4) (fun _ => ?_)
  have k := Sums_j2 hs hd hsp hdp hA hbb (by omega) (bit := bit) (at_ := at_) (by omega) (by omega) H
  exact ⟨by with_reducible apply k⟩
end Go.Proofs.YtleelkkddjldnaaS
