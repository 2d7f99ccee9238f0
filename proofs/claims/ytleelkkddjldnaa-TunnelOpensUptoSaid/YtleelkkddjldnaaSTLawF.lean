/- Package weftlaw7: sameFrame, frames, TunnelFrames.
   Conditions: the arguments are as a row's arguments are. -/
import Derived.Test.YtleelkkddjldnaaSTLaw
import Derived.Test.YtleelkkddjldnaaSTunF
import Derived.Test.YtleelkkddjldnaaSFX
namespace Go.Proofs.YtleelkkddjldnaaS
open Go Go.RowKit Go.Proofs Go.Proofs.YtleelkkddjldnaaX
set_option maxRecDepth 100000
set_option linter.unusedVariables false
set_option linter.unusedSectionVars false
set_option linter.unusedSimpArgs false

theorem eqV_int6 (a b c d e f : Int) : eqV [.int .u8 a, .int .u8 b, .int .u8 c, .int .u8 d, .int .u8 e, .int .u8 f] [.int .u8 a, .int .u8 b, .int .u8 c, .int .u8 d, .int .u8 e, .int .u8 f] = true := by simp [eqV]
theorem ifE6 {a b c d e f : Int} {X Y : Prop} (h : X) : if (eqV [.int .u8 a, .int .u8 b, .int .u8 c, .int .u8 d, .int .u8 e, .int .u8 f] [.int .u8 a, .int .u8 b, .int .u8 c, .int .u8 d, .int .u8 e, .int .u8 f]) = true then X else Y := by
  rw [if_pos (eqV_int6 ..)]
  exact h
def frOut (b : List Int) : Fr := if fBad b = 0 then ofF b else fz
theorem frOut_len (b : List Int) : (frOut b).body.length ≤ 65535 := by
  unfold frOut
  split
  · rename_i h
    have h1 := fBad_zero h
    show (b.drop 14).length ≤ _
    rw [List.length_drop]
    omega
  · exact Nat.zero_le _
theorem fr_out {w w' : World} {b : List Int} {e : Ending} (h : RetFr w b e w') : Bel w w' ∧ ∃ A c, e = .returned (.tuple #[.agg (fv (frOut b) A (frOut b).body.length c).toArray, .int .i64 (fBad b)]) ∧ By w' A (frOut b).body.length (frOut b).body ∧ Fre w A := by
  obtain ⟨k, h⟩ := h
  refine ⟨k, ?_⟩
  by_cases h0 : fBad b = 0
  · rw [if_pos h0] at h
    obtain ⟨g, rfl, H⟩ := h
    have e : frOut b = ofF b := by unfold frOut; rw [if_pos h0]
    rw [e, h0]
    have hl : (ofF b).body.length = b.length - 14 := List.length_drop
    exact ⟨_, _, by rw [hl], (H.bk 0 rfl).by, Fre.mk (H.ge 0 rfl)⟩
  · rw [if_neg h0] at h
    have e0 : frOut b = fz := by unfold frOut; rw [if_neg h0]
    rw [e0]
    exact ⟨none, 0, h, By.nil _ _, Fre.nil w⟩
theorem fr_out7 {w w' : World} {b : List Int} {e : Ending} (h : RetFr7 w b e w') : Bel w w' ∧ ∃ A c, e = .returned (.tuple #[.agg (fv (frOut b) A (frOut b).body.length c).toArray, .int .i64 (fBad b)]) ∧ By w' A (frOut b).body.length (frOut b).body := by
  obtain ⟨k, h⟩ := h
  refine ⟨k, ?_⟩
  by_cases h0 : fBad b = 0
  · rw [if_pos h0] at h
    obtain ⟨A, c, rfl, y, _⟩ := h
    have e : frOut b = ofF b := by unfold frOut; rw [if_pos h0]
    rw [e, h0]
    have hl : (ofF b).body.length = b.length - 14 := List.length_drop
    rw [hl]
    exact ⟨A, c, rfl, y⟩
  · rw [if_neg h0] at h
    have e0 : frOut b = fz := by unfold frOut; rw [if_neg h0]
    rw [e0]
    exact ⟨none, 0, h, By.nil _ _⟩
theorem sameFrame_t {w : World} {f : Fr} {A B : Option Addr} {n c m d : Nat} (hA : By w A n f.body) (hB : By w B m f.body) (hn : n ≤ 100000000000000) : Calls Try.prog 27 #[.agg (fv f A n c).toArray, .agg (fv f B m d).toArray] w (Yes w) := by
  refine weftlaw7_sameFrame.run ?_
  unfold weftlaw7_sameFrame.s
  refine own_new (l := fv f A n c) (Own.refl w) fun g1 w2 H => ?_
  refine own_new (l := fv f B m d) H fun g3 w4 H => ?_
  refine ⟨_, _, _, _, _, _, ⟨rfl, at_mid [] (mid := [.int .u8 f.d0, .int .u8 f.d1, .int .u8 f.d2, .int .u8 f.d3, .int .u8 f.d4, .int .u8 f.d5]) (H.bk 1 rfl) rfl⟩, ?_⟩
  refine ⟨_, _, _, _, _, _, ⟨rfl, at_mid [] (mid := [.int .u8 f.d0, .int .u8 f.d1, .int .u8 f.d2, .int .u8 f.d3, .int .u8 f.d4, .int .u8 f.d5]) (H.bk 0 rfl) rfl⟩, ?_⟩
  refine ifE6 ?_
  refine ⟨_, _, _, _, _, _, ⟨rfl, at_mid [.int .u8 f.d0, .int .u8 f.d1, .int .u8 f.d2, .int .u8 f.d3, .int .u8 f.d4, .int .u8 f.d5] (mid := [.int .u8 f.s0, .int .u8 f.s1, .int .u8 f.s2, .int .u8 f.s3, .int .u8 f.s4, .int .u8 f.s5]) (H.bk 1 rfl) rfl⟩, ?_⟩
  refine ⟨_, _, _, _, _, _, ⟨rfl, at_mid [.int .u8 f.d0, .int .u8 f.d1, .int .u8 f.d2, .int .u8 f.d3, .int .u8 f.d4, .int .u8 f.d5] (mid := [.int .u8 f.s0, .int .u8 f.s1, .int .u8 f.s2, .int .u8 f.s3, .int .u8 f.s4, .int .u8 f.s5]) (H.bk 0 rfl) rfl⟩, ?_⟩
  refine ifE6 ?_
  refine ⟨_, H.cell 1 12 rfl rfl, _, H.cell 0 12 rfl rfl, ?_⟩
  refine ifE (fun _ => ?_) (fun h => absurd rfl h)
  refine ⟨_, _, _, H.cell 1 13 rfl rfl, _, _, _, H.cell 0 13 rfl rfl, ?_⟩
  refine call_of (same_t (hA.bel H.bel) (hB.bel H.bel) hn) ?_
  rintro e w5 ⟨rfl, k5⟩
  exact ⟨_, rfl, rfl, H.bel.trans k5⟩

section
variable {w : World} {b : List Int} {I : Option Addr} {i j : Nat} {f : Fr} {A : Option Addr} {n c : Nat}
theorem frames_j1 (hf : f.Fine) (hA : By w A n f.body) (hn : n ≤ 90000000000000) {wa : World} {g1 : Nat} (H : Own w wa [(g1, 46, fv f A n c)]) : weftlaw7_frames.J1 g1 wa (Yes w) := by
  unfold weftlaw7_frames.J1; intros
  rw [weftlaw7_frames.j1_eq]
  have hl := hA.len
  have hml := marks_len
  refine ⟨_, _, _, H.cell 0 13 rfl rfl, ?_⟩
  refine call_of (roomy_c (hA.bel H.bel) (by omega)) ?_
  rintro e w2 ⟨A4, c4, rfl, q⟩
  have r := q.by
  have rc := q.le
  replace H := H.call q.own.bel
  have el : (f.body ++ marks).length = n + 70 := by rw [List.length_append, hml, hl]
  rw [el] at r rc ⊢
  refine ⟨_, _, _, rfl, ?_⟩
  refine ld_fr (H.bk 0 rfl) ?_
  refine own_mk (fv fz none 0 0) H rfl rfl fun g10 w4 H k4 hg => ?_
  have zr := r.newer hg
  replace r := r.bel k4
  refine ⟨_, _, _, H.cell 1 13 rfl rfl, ⟨by omega, by omega⟩, ⟨by omega, by omega⟩, ?_⟩
  refine own_setB 0 H rfl (Nat.lt_of_lt_of_le (by decide : 13 < 14) (Nat.le_refl 14)) fun w5 H u5 => ?_
  replace r := r.but1 u5 zr
  replace H : Own w w5 [(g10, 46, fv f A4 n (n + 70)), (g1, 46, fv f A n c)] := H
  refine ld_fr (H.bk 0 rfl) ?_
  have rp := r.take (k := n) (by omega)
  rw [List.take_left' hl] at rp
  refine call_of (BuildFrame_c hf rp) ?_
  rintro e w6 he
  have fin : ∀ {w7 : World} {B : Option Addr} {m d : Nat} {B' : Option Addr} {m' d' : Nat} {l : List Int}, Own w w7 [(g10, 46, fv f A4 n (n + 70)), (g1, 46, fv f A n c)] → By w7 A4 (n + 70) (f.body ++ marks) →
      By w7 B m l → By w7 B' m' l → l.length ≤ 100000 → Calls Try.prog 17 #[.slice B m d, .slice B' m' d'] w7 (fun (e61 : Ending) (w60 : World) =>
 ∃ b62 : Bool, e61 = .returned (.bool b62) ∧
((if b62 = true then
(∃ (A63 : Option Addr) (n63_ c63_ : Nat), w60.cell? ⟨g1, 13, none⟩ = some (.slice A63 n63_ c63_) ∧
(Calls Try.prog 22 #[.slice A4 (n + 70) c4, .slice A63 n63_ c63_] w60 (fun (e65 : Ending) (w64 : World) =>
 ∃ b66 : Bool, e65 = .returned (.bool b66) ∧
(Yes w (.returned (.bool b66)) w64))))
else
(Yes w (.returned (.bool false)) w60)))) := by
    intro w7 B m d B' m' d' l H r y y' hll
    refine call_of (same_t y y' (by rw [← y.len]; omega)) ?_
    rintro e w8' ⟨rfl, k8⟩
    replace H := H.call k8
    replace r := r.bel k8
    refine ⟨_, rfl, ifB (fun _ => ?_) (fun h => by cases h)⟩
    refine ⟨A, n, c, H.cell 1 13 rfl rfl, ?_⟩
    refine call_of (kept_t r (hA.bel H.bel) (by omega)) ?_
    rintro e w9 ⟨rfl, k9⟩
    exact ⟨_, rfl, rfl, H.bel.trans k9⟩
  by_cases h5 : f.err = 0
  · obtain ⟨g6, rfl, H6⟩ := he.2 h5
    have y := (H6.bk 0 rfl).by
    have k6 := H6.bel
    replace H := H.call k6
    replace r := r.bel k6
    have hul : f.bytes.length ≤ 70000 := by
      have := f.len
      have h6 : f.body.length ≤ 65485 := by
        unfold Fr.err at h5
        split at h5
        · omega
        · omega
      omega
    refine ⟨_, _, _, _, rfl, ?_⟩
    refine ld_fr (H.bk 1 rfl) ?_
    refine call_of (BuildFrame7_c hf (hA.bel H.bel)) ?_
    rintro e w7 he
    obtain ⟨A7, c7, rfl, q7⟩ := he.2 h5
    have k7 := q7.own.bel
    refine ⟨_, _, _, _, rfl, ?_⟩
    refine ifE (fun _ => ?_) (fun h => absurd rfl h)
    have k := fin (d := f.bytes.length) (d' := c7) (H.call k7) (r.bel k7) (y.bel k7) q7.by (by omega)
    with_reducible apply k
  · obtain ⟨rfl, k6⟩ := he.1 h5
    replace H := H.call k6
    replace r := r.bel k6
    refine ⟨_, _, _, _, rfl, ?_⟩
    refine ld_fr (H.bk 1 rfl) ?_
    refine call_of (BuildFrame7_c hf (hA.bel H.bel)) ?_
    rintro e w7 he
    obtain ⟨rfl, k7⟩ := he.1 h5
    refine ⟨_, _, _, _, rfl, ?_⟩
    refine ifE (fun _ => ?_) (fun h => absurd rfl h)
    have k := fin (d := 0) (d' := 0) (H.call k7) (r.bel k7) (By.nil w7 none) (By.nil w7 none) (by simp)
    with_reducible apply k
theorem frames_t (hb : By w I i b) (hbb : Bytes b) (hi : i ≤ 90000000000000) (hf : f.Fine) (hA : By w A n f.body) (hn : n ≤ 90000000000000) : Calls Try.prog 18 #[.slice I i j, .agg (fv f A n c).toArray] w (Yes w) := by
  refine weftlaw7_frames.run ?_
  unfold weftlaw7_frames.s
  have hl := hb.len
  have hml := marks_len
  have ho := frOut_len b
  refine own_new (l := fv f A n c) (Own.refl w) fun g1 w2 H => ?_
  refine call_of (roomy_c (hb.bel H.bel) (by omega)) ?_
  rintro e w3 ⟨A5, c5, rfl, q⟩
  have r := q.by
  have rc := q.le
  replace H := H.call q.own.bel
  have el : (b ++ marks).length = i + 70 := by rw [List.length_append, hml, hl]
  rw [el] at r rc ⊢
  refine ⟨_, _, _, rfl, ⟨by omega, by omega⟩, ⟨by omega, by omega⟩, ?_⟩
  have rp := r.take (k := i) (by omega)
  rw [List.take_left' hl] at rp
  refine call_of (ParseFrame_c rp hbb (by omega)) ?_
  rintro e w6 he
  obtain ⟨k6, D, d, rfl, y, _⟩ := fr_out he
  replace H := H.call k6
  replace r := r.bel k6
  refine ⟨_, _, _, _, _, _, _, _, _, _, _, _, _, _, _, _, _, rfl, ?_⟩
  refine own_mk (fv fz none 0 0) H rfl rfl fun g23 w7 H k7 hg => ?_
  replace r := r.bel k7
  replace y := y.bel k7
  refine call_of (ParseFrame7_c (hb.bel H.bel) hbb) ?_
  rintro e w8' he
  obtain ⟨k8, D', d', rfl, y'⟩ := fr_out7 he
  replace H := H.call k8
  replace r := r.bel k8
  replace y := y.bel k8
  refine ⟨_, _, _, _, _, _, _, _, _, _, _, _, _, _, _, _, _, rfl, ?_⟩
  refine own_mk (fv fz none 0 0) H rfl rfl fun g43 w9 H k9 hg => ?_
  replace r := r.bel k9
  replace y := y.bel k9
  replace y' := y'.bel k9
  refine ifN (fun h => absurd rfl h) (fun _ => ?_)
  refine ld_fr (f := frOut b) (H.bk 1 rfl) ?_
  refine ld_fr (f := frOut b) (H.bk 0 rfl) ?_
  refine call_of (sameFrame_t y y' (by omega)) ?_
  rintro e w10 ⟨rfl, k10⟩
  replace H := H.call k10
  replace r := r.bel k10
  refine ⟨_, rfl, ifNot (fun h => by cases h) (fun _ => ?_)⟩
  refine call_of (kept_t r (hb.bel H.bel) (by omega)) ?_
  rintro e w11 ⟨rfl, k11⟩
  refine ⟨_, rfl, ifNot (fun h => by cases h) (fun _ => ?_)⟩
  have k := frames_j1 hf hA hn (H.call k11).tail.tail
  exact ⟨by with_reducible apply k⟩
end
/-- The slice A[:n] holds lists of bytes; frames. -/
def Raws (w : World) (A : Option Addr) (n : Nat) : Prop := 0 < n → ∃ a, A = some a ∧ ∀ i, i < n → ∃ (b : List Int) (B : Option Addr) (m d : Nat), At w (a.add (i * 1)) [.slice B m d] ∧ By w B m b ∧ Bytes b ∧ m ≤ 90000000000000
def Frs (w : World) (A : Option Addr) (n : Nat) : Prop := 0 < n → ∃ a, A = some a ∧ ∀ i, i < n → ∃ (f : Fr) (B : Option Addr) (m d : Nat), At w (a.add (i * 14)) (fv f B m d) ∧ f.Fine ∧ By w B m f.body ∧ m ≤ 90000000000000
section
variable {w0 : World} {A : Option Addr} {n c : Nat} {B : Option Addr} {m d : Nat} (hs : Raws w0 A n) (hn : n ≤ 1000000000000000) (ht : Frs w0 B m) (hm : m ≤ 1000000000000000)
include hs hn ht hm
theorem TunnelFrames_l : ∀ (q i : Nat) (w : World), n + m - i < q → i ≤ n + m → Bel w0 w → weftlaw7_TunnelFrames.L1 q A n c B m d (i : Int) w (Yes w0) := by
  intro q
  induction q with
  | zero => intro i w h; omega
  | succ q ih =>
    intro i w hq hi2 hb
    unfold weftlaw7_TunnelFrames.L1; intros
    rw [weftlaw7_TunnelFrames.l1_eq]
    have j3 : ∀ {w2 : World} {g1 : Nat} {b : List Int} {C : Option Addr} {k r : Nat} {f : Fr} {E : Option Addr} {s t : Nat}, i < n + m → Own w0 w2 [(g1, 46, fv f E s t)] → By w0 C k b → Bytes b → k ≤ 90000000000000 → f.Fine → By w0 E s f.body → s ≤ 90000000000000 →
        weftlaw7_TunnelFrames.J3 q A n c B m d (i : Int) C k r g1 w2 (Yes w0) := by
      intro w2 g1 b C k r f E s t hlt H yb hbb hk hf yf hs
      unfold weftlaw7_TunnelFrames.J3; intros
      rw [weftlaw7_TunnelFrames.j3_eq]
      refine ld_fr (H.bk 0 rfl) ?_
      refine call_of (frames_t (yb.bel H.bel) hbb hk hf (yf.bel H.bel) hs) ?_
      rintro e w3 ⟨rfl, k3⟩
      refine ⟨_, rfl, ifNot (fun h => by cases h) (fun _ => ?_)⟩
      refine let_as ((i + 1 : Nat) : Int) (by rw [w64 (by omega) (by omega)]; omega) ?_
      have kk := ih (i + 1) w3 (by omega) (by omega) (H.bel.trans k3)
      with_reducible apply kk
    have j2 : ∀ {w2 : World} {g1 : Nat} {b : List Int} {C : Option Addr} {k r : Nat}, i < n + m → Own w0 w2 [(g1, 46, fv fz none 0 0)] → By w0 C k b → Bytes b → k ≤ 90000000000000 →
        weftlaw7_TunnelFrames.J2 q A n c B m d (i : Int) C k r g1 w2 (Yes w0) := by
      intro w2 g1 b C k r hlt H yb hbb hk
      unfold weftlaw7_TunnelFrames.J2; intros
      rw [weftlaw7_TunnelFrames.j2_eq]
      refine ifD (fun h1 => ?_) (fun h1 => ?_)
      · obtain ⟨a, ea, hc⟩ := ht (by omega)
        obtain ⟨f, E, s, t, hat, hf, yf, hs⟩ := hc i (by omega)
        refine ⟨a, ea, ⟨by omega, by omega⟩, ?_⟩
        rw [Int.toNat_natCast]
        refine ⟨_, _, _, _, _, _, _, _, _, _, _, _, _, _, _, _, ⟨rfl, hat.bel H.bel⟩, ?_⟩
        refine own_putB 0 H rfl rfl (by decide) fun w3 H u3 => ?_
        replace H : Own w0 w3 [(g1, 46, fv f E s t)] := H
        have kk := j3 (r := r) hlt H yb hbb hk hf yf hs
        exact ⟨by with_reducible apply kk⟩
      · have kk := j3 (r := r) hlt H yb hbb hk fz_fine (By.nil w0 none) (Nat.zero_le _)
        exact ⟨by with_reducible apply kk⟩
    have j1 : i < n + m → weftlaw7_TunnelFrames.J1 q A n c B m d (i : Int) w (Yes w0) := by
      intro hlt
      unfold weftlaw7_TunnelFrames.J1; intros
      rw [weftlaw7_TunnelFrames.j1_eq]
      refine own_new (l := fv fz none 0 0) (((Own.refl w0).call hb)) fun g1 w2 H => ?_
      refine ifD (fun h1 => ?_) (fun h1 => ?_)
      · obtain ⟨a, ea, hc⟩ := hs (by omega)
        obtain ⟨b, C, k, r, hat, yb, hbb, hk⟩ := hc i (by omega)
        refine ⟨a, ea, ⟨by omega, by omega⟩, ?_⟩
        rw [Int.toNat_natCast]
        rw [Nat.mul_one] at hat
        refine ⟨_, _, _, hat.bel H.bel 0 _ rfl, ?_⟩
        have kk := j2 (r := r) hlt H yb hbb hk
        exact ⟨by with_reducible apply kk⟩
      · have kk := j2 (r := 0) hlt H (By.nil w0 none) Bytes.nil (Nat.zero_le _)
        exact ⟨by with_reducible apply kk⟩
    refine ifD (fun h1 => ?_) (fun h1 => ?_)
    · have kk := j1 (by omega)
      exact ⟨by with_reducible apply kk⟩
    refine ifD (fun h2 => ?_) (fun h2 => ⟨rfl, hb⟩)
    have kk := j1 (by omega)
    exact ⟨by with_reducible apply kk⟩
end
theorem TunnelFrames_t {w : World} {A : Option Addr} {n c : Nat} {B : Option Addr} {m d : Nat} (h : Raws w A n ∧ n ≤ 1000000000000) (k : Frs w B m ∧ m ≤ 1000000000000) : Calls Try.prog 5 #[.slice A n c, .slice B m d] w (Yes w) := by
  obtain ⟨hs, hn⟩ := h
  obtain ⟨ht, hm⟩ := k
  refine weftlaw7_TunnelFrames.run ?_
  unfold weftlaw7_TunnelFrames.s
  refine call_of (begun_t w) ?_
  rintro e w1 ⟨rfl, k1⟩
  refine ⟨_, rfl, ifNot (fun h => by cases h) (fun _ => ?_)⟩
  refine ⟨n + m + 1, ?_⟩
  have k : weftlaw7_TunnelFrames.L1 (n + m + 1) A n c B m d 0 w1 (Yes w) := TunnelFrames_l hs (by omega) ht (by omega) (n + m + 1) 0 w1 (by omega) (by omega) k1
  with_reducible apply k
end Go.Proofs.YtleelkkddjldnaaS
