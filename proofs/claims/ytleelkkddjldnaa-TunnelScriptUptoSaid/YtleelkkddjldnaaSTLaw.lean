/- Package weftlaw7: its small functions, and TunnelDatagrams.
   Conditions: the arguments are as a row's arguments are. -/
import Derived.Test.YtleelkkddjldnaaSRef7
import Derived.Test.YtleelkkddjldnaaSFV
namespace Go.Proofs.YtleelkkddjldnaaS
open Go Go.RowKit Go.Proofs Go.Proofs.YtleelkkddjldnaaX
set_option maxRecDepth 100000
set_option linter.unusedVariables false
set_option linter.unusedSimpArgs false

/-- yes, and all that stood as it was -/
abbrev Yes (w : World) : Ending → World → Prop := Ret (.bool true) w
theorem same_l (w0 : World) {A B : Option Addr} {n c d : Nat} {l : List Int} (hA : By w0 A n l) (hB : By w0 B n l) (hn : n ≤ 100000000000000) : ∀ (q i : Nat) (w : World), n - i < q → i ≤ n → Bel w0 w →
    weftlaw7_same.L1 q A n c B n d (i : Int) w (Yes w0) := by
  intro q
  induction q with
  | zero => intro i w h; omega
  | succ q ih =>
    intro i w hq hi hb
    unfold weftlaw7_same.L1; intros
    rw [weftlaw7_same.l1_eq]
    refine ifD (fun h => ?_) (fun h => ⟨rfl, hb⟩)
    refine draws (fun w' => Bel w0 w') hb.drew fun w2 e2 => ?_
    have hb2 : Bel w0 w2 := by rw [e2]; exact hb.drew
    refine hA.rdS (fun w' k => k) (by omega) (by omega) fun _ => ?_
    refine hB.rdS (fun w' k => k) (by omega) (by omega) fun _ => ?_
    refine ifN (fun h => absurd rfl h) (fun _ => ?_)
    refine let_as ((i + 1 : Nat) : Int) (by rw [w64 (by omega) (by omega)]; omega) ?_
    apply ih (i + 1) w2 (by omega) (by omega) hb2
theorem same_t {w : World} {A B : Option Addr} {n c m d : Nat} {l : List Int} (hA : By w A n l) (hB : By w B m l) (hn : n ≤ 100000000000000) : Calls Try.prog 17 #[.slice A n c, .slice B m d] w (Yes w) := by
  have e : n = m := hA.len.symm.trans hB.len
  subst e
  refine weftlaw7_same.run ?_
  unfold weftlaw7_same.s
  refine ifN (fun h => absurd rfl h) (fun _ => ⟨n + 1, ?_⟩)
  apply same_l w hA hB hn (n + 1) 0 w (by omega) (by omega) (Bel.refl w)
/-- What stands in the spare room. -/
def marks : List Int := (List.range 70).map fun i => ((181 + i : Nat) : Int)
theorem marks_len : marks.length = 70 := by simp [marks]
theorem marks_get {i : Nat} (h : i < 70) : marks.take i ++ [((181 + i : Nat) : Int)] = marks.take (i + 1) := by
  have hl := marks_len
  rw [List.take_succ_eq_append_getElem (by omega)]
  simp [marks]
theorem roomy_l {w : World} {n : Nat} {l : List Int} (hl : l.length = n) (hn : n ≤ 90000000000000) : ∀ (q i : Nat) (wa : World) (A : Option Addr) (c : Nat), 70 - i < q → i ≤ 70 → Buf w wa [] A (n + i) c (l ++ marks.take i) → weftlaw7_roomy.L1 q A (n + i) c (i : Int) wa (RetBuf w (l ++ marks)) := by
  intro q
  induction q with
  | zero => intro i wa A c h; omega
  | succ q ih =>
    intro i wa A c hq hi h
    unfold weftlaw7_roomy.L1; intros
    rw [weftlaw7_roomy.l1_eq]
    refine ifD (fun h1 => ?_) (fun h1 => ?_)
    · refine let_as ((181 + i : Nat) : Int) (by rw [w64 (by omega) (by omega)]; omega) ?_
      refine let_as ((181 + i : Nat) : Int) (w8 (by omega) (by omega)) ?_
      refine buf_lit (m := 1) h [((181 + i : Nat) : Int)] rfl (by omega) fun A' c' wb h' => ?_
      refine let_as ((i + 1 : Nat) : Int) (by rw [w64 (by omega) (by omega)]; omega) ?_
      rw [List.append_assoc, marks_get (by omega)] at h'
      exact ih (i + 1) wb A' c' (by omega) (by omega) h' ..
    · have : i = 70 := by omega
      subst this
      have hm := marks_len
      rw [List.take_of_length_le (by omega)] at h
      refine ⟨A, c, by rw [List.length_append, hm, hl], ?_⟩
      rw [List.length_append, hm, hl]
      exact h
theorem roomy_c {w : World} {A : Option Addr} {n c : Nat} {l : List Int} (h : By w A n l) (hn : n ≤ 90000000000000) : Calls Try.prog 19 #[.slice A n c] w (RetBuf w (l ++ marks)) := by
  refine weftlaw7_roomy.run ?_
  unfold weftlaw7_roomy.s
  have hl := h.len
  refine buf_app (Buf.nil (Own.refl w)) h (by omega) fun A' c' wb h' => ?_
  refine ⟨71, ?_⟩
  rw [List.nil_append, Nat.zero_add] at h'
  rw [Nat.zero_add]
  have k := roomy_l hl (by omega) 71 0 wb A' c' (by omega) (by omega) (by rw [List.take_zero, List.append_nil]; exact h')
  exact k ..
theorem kept_t {w : World} {A : Option Addr} {n c : Nat} {B : Option Addr} {m d : Nat} {l : List Int} (h : By w A n (l ++ marks)) (hb : By w B m l) (hm : m ≤ 90000000000000) : Calls Try.prog 22 #[.slice A n c, .slice B m d] w (Yes w) := by
  refine weftlaw7_kept.run ?_
  unfold weftlaw7_kept.s
  have e := h.len
  have e2 := hb.len
  have hk := marks_len
  rw [List.length_append] at e
  refine call_of (roomy_c hb hm) ?_
  rintro e w1 ⟨A1, c1, rfl, q⟩
  refine ⟨_, _, _, rfl, ?_⟩
  refine call_of (same_t (h.bel q.own.bel) q.by (by omega)) ?_
  rintro e w2 ⟨rfl, k2⟩
  exact ⟨_, rfl, rfl, q.own.bel.trans k2⟩
theorem begun_bytes : uBytes 0 0 1 2 [] true = [0, 1, 0, 2, 0, 8, 255, 219] := by decide +kernel
theorem begun_t (w : World) : Calls Try.prog 13 #[] w (Yes w) := by
  refine weftlaw7_begun.run ?_
  unfold weftlaw7_begun.s
  refine call_of (BuildUDP_c (sp := 1) (dp := 2) (by decide) (by decide) (by decide) (by decide) (By.nil w none) Bytes.nil true) ?_
  rintro e w1 ⟨_, he⟩
  obtain ⟨g, rfl, H⟩ := he (by decide)
  rw [begun_bytes] at H ⊢
  have y := (H.bk 0 rfl).by
  refine ⟨_, 8, _, _, rfl, ?_⟩
  refine ifE (fun _ => ?_) (fun h => absurd rfl h)
  refine ifE (fun _ => ?_) (fun h => absurd rfl h)
  refine y.rdk 1 rfl (by decide) fun _ => ?_
  refine ifE (fun _ => ?_) (fun h => absurd rfl h)
  refine y.rdk 3 rfl (by decide) fun _ => ?_
  refine ifE (fun _ => ?_) (fun h => absurd rfl h)
  refine y.rdk 5 rfl (by decide) fun _ => ?_
  refine ifE (fun _ => ?_) (fun h => absurd rfl h)
  refine y.rdk 6 rfl (by decide) fun _ => ?_
  refine ifE (fun _ => ?_) (fun h => absurd rfl h)
  refine y.rdk 7 rfl (by decide) fun _ => ?_
  exact ⟨rfl, H.bel⟩

/-! ### datagrams -/
def dgOut (src dst : Int) (b : List Int) : Int × Int × List Int := if uBad src dst b = 0 then (wd b 0, wd b 2, uBody b) else (0, 0, [])
theorem dg_out {w w' : World} {src dst : Int} {b : List Int} {e : Ending} (h : RetDg w src dst b e w') : Bel w w' ∧ ∃ A c, e = .returned (.tuple #[.agg (dv (dgOut src dst b).1 (dgOut src dst b).2.1 A (dgOut src dst b).2.2.length c).toArray, .int .i64 (uBad src dst b)]) ∧ By w' A (dgOut src dst b).2.2.length (dgOut src dst b).2.2 ∧ Fre w A := by
  obtain ⟨k, h⟩ := h
  refine ⟨k, ?_⟩
  by_cases h0 : uBad src dst b = 0
  · rw [if_pos h0] at h
    obtain ⟨g, rfl, H⟩ := h
    have e : dgOut src dst b = (wd b 0, wd b 2, uBody b) := by unfold dgOut; rw [if_pos h0]
    rw [e, h0]
    have hl := uBody_len h0
    exact ⟨_, _, by rw [hl], (H.bk 0 rfl).by, Fre.mk (H.ge 0 rfl)⟩
  · rw [if_neg h0] at h
    have e0 : dgOut src dst b = (0, 0, []) := by unfold dgOut; rw [if_neg h0]
    rw [e0]
    exact ⟨none, 0, h, By.nil _ _, Fre.nil w⟩
theorem dg_out7 {w w' : World} {src dst : Int} {b : List Int} {e : Ending} (h : RetDg7 w src dst b e w') : Bel w w' ∧ ∃ A c, e = .returned (.tuple #[.agg (dv (dgOut src dst b).1 (dgOut src dst b).2.1 A (dgOut src dst b).2.2.length c).toArray, .int .i64 (uBad src dst b)]) ∧ By w' A (dgOut src dst b).2.2.length (dgOut src dst b).2.2 := by
  obtain ⟨k, h⟩ := h
  refine ⟨k, ?_⟩
  by_cases h0 : uBad src dst b = 0
  · rw [if_pos h0] at h
    obtain ⟨A, c, rfl, y, _⟩ := h
    have e : dgOut src dst b = (wd b 0, wd b 2, uBody b) := by unfold dgOut; rw [if_pos h0]
    rw [e, h0]
    have hl := uBody_len h0
    simp only
    rw [hl]
    exact ⟨A, c, rfl, y⟩
  · rw [if_neg h0] at h
    have e0 : dgOut src dst b = (0, 0, []) := by unfold dgOut; rw [if_neg h0]
    rw [e0]
    exact ⟨none, 0, h, By.nil _ _⟩
theorem dgOut_len (src dst : Int) (b : List Int) : (dgOut src dst b).2.2.length ≤ 65535 := by
  unfold dgOut
  split
  · rename_i h
    have h1 := uBad_zero h
    have h2 := uBody_len h
    show (uBody b).length ≤ _
    omega
  · exact Nat.zero_le _
structure Item where
  src : Int
  dst : Int
  sp : Int
  dp : Int
  body : List Int
  on : Bool
  raw : List Int
structure Item.Fine (x : Item) : Prop where
  src : 0 ≤ x.src ∧ x.src ≤ 4294967295
  dst : 0 ≤ x.dst ∧ x.dst ≤ 4294967295
  sp : 0 ≤ x.sp ∧ x.sp ≤ 65535
  dp : 0 ≤ x.dp ∧ x.dp ≤ 65535
  body : Bytes x.body
  raw : Bytes x.raw
  lb : x.body.length ≤ 90000000000000
  lr : x.raw.length ≤ 90000000000000
def iv (x : Item) (A : Option Addr) (n c : Nat) (B : Option Addr) (m d : Nat) : List Value := [.int .u32 x.src, .int .u32 x.dst] ++ (dv x.sp x.dp A n c ++ [.bool x.on, .slice B m d])
structure ItAt (w : World) (x : Item) (A : Option Addr) (n c : Nat) (B : Option Addr) (m d : Nat) : Prop where
  body : By w A n x.body
  raw : By w B m x.raw
theorem ItAt.bel {w w' : World} {x : Item} {A : Option Addr} {n c : Nat} {B : Option Addr} {m d : Nat} (h : ItAt w x A n c B m d) (k : Bel w w') : ItAt w' x A n c B m d := ⟨h.body.bel k, h.raw.bel k⟩
section
variable {w : World} {x : Item} (hf : x.Fine) {A : Option Addr} {n c : Nat} {B : Option Addr} {m d : Nat} (hx : ItAt w x A n c B m d)
include hf hx
theorem datagrams_j2 {wa : World} {g1 g9 : Nat} {C : Option Addr} {k j : Nat} {A4 : Option Addr} {n4 c4 : Nat} (H : Own w wa [(g9, 30, dv (dgOut x.src x.dst x.raw).1 (dgOut x.src x.dst x.raw).2.1 C (dgOut x.src x.dst x.raw).2.2.length j), (g1, 32, iv x A n c B m d)])
    (y : By wa C (dgOut x.src x.dst x.raw).2.2.length (dgOut x.src x.dst x.raw).2.2) (r : By wa A4 n4 (x.raw ++ marks)) : weftlaw7_datagrams.J2 g1 A4 n4 c4 (uBad x.src x.dst x.raw) g9 wa (Yes w) := by
  unfold weftlaw7_datagrams.J2; intros
  rw [weftlaw7_datagrams.j2_eq]
  have hl := dgOut_len x.src x.dst x.raw
  have hr := hx.raw.len
  have lr := hf.lr
  refine ⟨_, H.cell 1 0 rfl rfl, _, H.cell 1 1 rfl rfl, B, m, d, H.cell 1 6 rfl rfl, ?_⟩
  refine call_of (ParseUDP7_c hf.src hf.dst (hx.raw.bel H.bel) hf.raw) ?_
  rintro e w2 he
  obtain ⟨k2, D, q, rfl, y2⟩ := dg_out7 he
  replace H := H.call k2
  replace y := y.bel k2
  replace r := r.bel k2
  refine ⟨_, _, _, _, _, _, rfl, ?_⟩
  refine own_mk (dv 0 0 none 0 0) H rfl rfl fun g10 w3 H k3 _ => ?_
  replace y := y.bel k3
  replace y2 := y2.bel k3
  replace r := r.bel k3
  refine ifE (fun _ => ?_) (fun h => absurd rfl h)
  refine ⟨_, H.cell 1 0 rfl rfl, _, H.cell 0 0 rfl rfl, ?_⟩
  refine ifE (fun _ => ?_) (fun h => absurd rfl h)
  refine ⟨_, H.cell 1 1 rfl rfl, _, H.cell 0 1 rfl rfl, ?_⟩
  refine ifE (fun _ => ?_) (fun h => absurd rfl h)
  refine ⟨_, _, _, H.cell 1 2 rfl rfl, _, _, _, H.cell 0 2 rfl rfl, ?_⟩
  refine call_of (same_t y y2 (by omega)) ?_
  rintro e w4 ⟨rfl, k4⟩
  replace H := H.call k4
  refine ⟨_, rfl, ifB (fun _ => ?_) (fun h => by cases h)⟩
  refine ⟨B, m, d, H.cell 2 6 rfl rfl, ?_⟩
  refine call_of (kept_t (r.bel k4) (hx.raw.bel H.bel) (by omega)) ?_
  rintro e w5 ⟨rfl, k5⟩
  exact ⟨_, rfl, rfl, H.bel.trans k5⟩
theorem datagrams_j1 {wa : World} {g1 : Nat} (H : Own w wa [(g1, 32, iv x A n c B m d)]) : weftlaw7_datagrams.J1 g1 wa (Yes w) := by
  unfold weftlaw7_datagrams.J1; intros
  rw [weftlaw7_datagrams.j1_eq]
  have hr := hx.raw.len
  have lr := hf.lr
  have hml := marks_len
  refine ⟨B, m, d, H.cell 0 6 rfl rfl, ?_⟩
  refine call_of (roomy_c (hx.raw.bel H.bel) (by omega)) ?_
  rintro e w2 ⟨A4, c4, rfl, q⟩
  have r := q.by
  have rc := q.le
  replace H := H.call q.own.bel
  have el : (x.raw ++ marks).length = m + 70 := by rw [List.length_append, hml, hr]
  rw [el] at r rc ⊢
  refine ⟨_, _, _, rfl, ?_⟩
  refine draws (fun w' => Own w w' [(g1, 32, iv x A n c B m d)]) H.drew fun w6 e6 => ?_
  have kd : Bel w2 w6 := by rw [e6]; exact (Bel.refl w2).drew
  replace H := H.drew
  rw [← e6] at H
  replace r := r.bel kd
  refine ⟨_, fun w' h => h.cell 0 0 rfl rfl, _, fun w' h => h.cell 0 1 rfl rfl, B, m, d, fun w' h => h.cell 0 6 rfl rfl, ?_⟩
  refine ⟨⟨by omega, by omega⟩, ⟨by omega, by omega⟩, ?_, ?_⟩
  · have rp := r.take (k := m) (by omega)
    rw [List.take_left' hr] at rp
    refine call_of (ParseUDP_c hf.src hf.dst rp hf.raw (by omega)) ?_
    rintro e w10 he
    obtain ⟨k10, D, j, rfl, y, f⟩ := dg_out he
    replace H := H.call k10
    replace r := r.bel k10
    refine ⟨_, _, _, _, _, _, rfl, H, ?_⟩
    refine own_newC (l := dv 0 0 none 0 0) H fun g16 w17 H k17 hg => ?_
    have z := y.newer hg
    have zr := r.newer hg
    replace y := y.bel k17
    replace r := r.bel k17
    refine ⟨H.tail, ?_⟩
    refine own_putB 0 H rfl rfl (by decide) fun w18 H u18 => ?_
    replace y := y.but1 u18 z
    replace r := r.but1 u18 zr
    refine ⟨H.tail, ?_⟩
    have k := datagrams_j2 hf hx (k := 0) (c4 := c4) H y r
    exact ⟨by with_reducible apply k⟩
  · refine own_newC (l := dv 0 0 none 0 0) H fun g16 w17 H k17 hg => ?_
    have zr := r.newer hg
    replace r := r.bel k17
    refine ⟨H.tail, ?_⟩
    have rp := r.take (k := m) (by omega)
    rw [List.take_left' hr] at rp
    refine call_of (ParseUDP_c hf.src hf.dst rp hf.raw (by omega)) ?_
    rintro e w10 he
    obtain ⟨k10, D, j, rfl, y, f⟩ := dg_out he
    have o := H.old 0 rfl f
    replace H := H.call k10
    replace r := r.bel k10
    refine ⟨_, _, _, _, _, _, rfl, H.tail, ?_⟩
    refine own_putB 0 H rfl rfl (by decide) fun w18 H u18 => ?_
    replace y := y.but u18 o
    replace r := r.but1 u18 zr
    refine ⟨H.tail, ?_⟩
    have k := datagrams_j2 hf hx (k := 0) (c4 := c4) H y r
    exact ⟨by with_reducible apply k⟩
theorem datagrams_t : Calls Try.prog 14 #[.agg (iv x A n c B m d).toArray] w (Yes w) := by
  refine weftlaw7_datagrams.run ?_
  unfold weftlaw7_datagrams.s
  have hr := hx.body.len
  have lr := hf.lb
  have hml := marks_len
  have hlu := uRaw_len x.sp x.dp x.body
  refine own_new (l := iv x A n c B m d) (Own.refl w) fun g1 w2 H => ?_
  refine ⟨A, n, c, H.cell 0 4 rfl rfl, ?_⟩
  refine call_of (roomy_c (hx.body.bel H.bel) (by omega)) ?_
  rintro e w3 ⟨A6, c6, rfl, q⟩
  have r := q.by
  have rc := q.le
  replace H := H.call q.own.bel
  have el : (x.body ++ marks).length = n + 70 := by rw [List.length_append, hml, hr]
  rw [el] at r rc ⊢
  refine ⟨_, _, _, rfl, ?_⟩
  refine ⟨_, _, _, _, _, ⟨rfl, at_mid [.int .u32 x.src, .int .u32 x.dst] (H.bk 0 rfl) rfl⟩, ?_⟩
  refine own_mk (dv 0 0 none 0 0) H rfl rfl fun g10 w4 H k4 hg => ?_
  have zr := r.newer hg
  replace r := r.bel k4
  refine ⟨A, n, c, H.cell 1 4 rfl rfl, ⟨by omega, by omega⟩, ⟨by omega, by omega⟩, ?_⟩
  refine own_setB 0 H rfl (Nat.lt_of_lt_of_le (by decide : 2 < 3) (Nat.le_refl 3)) fun w5 H u5 => ?_
  replace r := r.but1 u5 zr
  replace H : Own w w5 [(g10, 30, dv x.sp x.dp A6 n (n + 70)), (g1, 32, iv x A n c B m d)] := H
  refine ⟨_, H.cell 1 0 rfl rfl, _, H.cell 1 1 rfl rfl, ?_⟩
  refine ld_dg (H.bk 0 rfl) ?_
  refine ⟨_, H.cell 1 5 rfl rfl, ?_⟩
  have rp := r.take (k := n) (by omega)
  rw [List.take_left' hr] at rp
  refine call_of (BuildUDP_c hf.src hf.dst hf.sp hf.dp rp hf.body x.on) ?_
  rintro e w6 he
  by_cases h5 : x.body.length > 65527
  · obtain ⟨rfl, k6⟩ := he.1 h5
    replace H := H.call k6
    replace r := r.bel k6
    refine ⟨_, _, _, _, rfl, _, H.cell 1 0 rfl rfl, _, H.cell 1 1 rfl rfl, ?_⟩
    refine ⟨_, _, _, _, _, ⟨rfl, at_mid [.int .u32 x.src, .int .u32 x.dst] (H.bk 1 rfl) rfl⟩, ?_⟩
    refine ⟨_, H.cell 1 5 rfl rfl, ?_⟩
    refine call_of (BuildUDP7_c hf.src hf.dst hf.sp hf.dp (hx.body.bel H.bel) hf.body x.on) ?_
    rintro e w7 he
    obtain ⟨rfl, k7⟩ := he.1 h5
    replace H := H.call k7
    replace r := r.bel k7
    refine ⟨_, _, _, _, rfl, ?_⟩
    refine ifN (fun h => absurd rfl h) (fun _ => ?_)
    refine call_of (same_t (By.nil _ _) (By.nil _ _) (by omega)) ?_
    rintro e w8' ⟨rfl, k8⟩
    replace H := H.call k8
    replace r := r.bel k8
    refine ⟨_, rfl, ifNot (fun h => by cases h) (fun _ => ?_)⟩
    refine ⟨A, n, c, H.cell 1 4 rfl rfl, ?_⟩
    refine call_of (kept_t r (hx.body.bel H.bel) (by omega)) ?_
    rintro e w9 ⟨rfl, k9⟩
    refine ⟨_, rfl, ifNot (fun h => by cases h) (fun _ => ?_)⟩
    have k := datagrams_j1 hf hx (H.call k9).tail
    exact ⟨by with_reducible apply k⟩
  · obtain ⟨g6, rfl, H6⟩ := he.2 h5
    have y := (H6.bk 0 rfl).by
    have k6 := H6.bel
    replace H := H.call k6
    replace r := r.bel k6
    have hul : (uBytes x.src x.dst x.sp x.dp x.body x.on).length ≤ 70000 := by unfold uBytes; rw [hlu]; omega
    refine ⟨_, _, _, _, rfl, _, H.cell 1 0 rfl rfl, _, H.cell 1 1 rfl rfl, ?_⟩
    refine ⟨_, _, _, _, _, ⟨rfl, at_mid [.int .u32 x.src, .int .u32 x.dst] (H.bk 1 rfl) rfl⟩, ?_⟩
    refine ⟨_, H.cell 1 5 rfl rfl, ?_⟩
    refine call_of (BuildUDP7_c hf.src hf.dst hf.sp hf.dp (hx.body.bel H.bel) hf.body x.on) ?_
    rintro e w7 he
    obtain ⟨A7, c7, rfl, q7⟩ := he.2 h5
    have k7 := q7.own.bel
    replace H := H.call k7
    replace r := r.bel k7
    replace y := y.bel k7
    refine ⟨_, _, _, _, rfl, ?_⟩
    refine ifN (fun h => absurd rfl h) (fun _ => ?_)
    refine call_of (same_t y q7.by (by omega)) ?_
    rintro e w8' ⟨rfl, k8⟩
    replace H := H.call k8
    replace r := r.bel k8
    refine ⟨_, rfl, ifNot (fun h => by cases h) (fun _ => ?_)⟩
    refine ⟨A, n, c, H.cell 1 4 rfl rfl, ?_⟩
    refine call_of (kept_t r (hx.body.bel H.bel) (by omega)) ?_
    rintro e w9 ⟨rfl, k9⟩
    refine ⟨_, rfl, ifNot (fun h => by cases h) (fun _ => ?_)⟩
    have k := datagrams_j1 hf hx (H.call k9).tail
    exact ⟨by with_reducible apply k⟩
end
/-- The slice A[:n] holds items. -/
def Its (w : World) (A : Option Addr) (n : Nat) : Prop := 0 < n → ∃ a, A = some a ∧ ∀ i, i < n → ∃ (x : Item) (A : Option Addr) (n c : Nat) (B : Option Addr) (m d : Nat), At w (a.add (i * 7)) (iv x A n c B m d) ∧ x.Fine ∧ ItAt w x A n c B m d
theorem At.bel {w w' : World} {a : Addr} {l : List Value} (h : At w a l) (k : Bel w w') : At w' a l := fun j u hu => k.cellb (h j u hu)
theorem TunnelDatagrams_l {w0 : World} {A : Option Addr} {n c : Nat} (hs : Its w0 A n) (hn : n ≤ 1000000000000000) : ∀ (q i : Nat) (w : World), n - i < q → i ≤ n → Bel w0 w → weftlaw7_TunnelDatagrams.L1 q A n c (i : Int) w (Yes w0) := by
  intro q
  induction q with
  | zero => intro i w h; omega
  | succ q ih =>
    intro i w hq hi2 hb
    unfold weftlaw7_TunnelDatagrams.L1; intros
    rw [weftlaw7_TunnelDatagrams.l1_eq]
    refine ifD (fun h1 => ?_) (fun h1 => ⟨rfl, hb⟩)
    obtain ⟨a, ea, hc⟩ := hs (by omega)
    obtain ⟨x, A1, n1, c1, B1, m1, d1, hat, hf, hx⟩ := hc i (by omega)
    refine ⟨a, ea, ⟨by omega, by omega⟩, ?_⟩
    rw [Int.toNat_natCast]
    refine ⟨_, _, _, _, _, _, _, _, _, _, _, ⟨rfl, hat.bel hb⟩, ?_⟩
    refine call_of (datagrams_t hf (hx.bel hb)) ?_
    rintro e w2 ⟨rfl, k2⟩
    refine ⟨_, rfl, ifNot (fun h => by cases h) (fun _ => ?_)⟩
    refine let_as ((i + 1 : Nat) : Int) (by rw [w64 (by omega) (by omega)]; omega) ?_
    have k := ih (i + 1) w2 (by omega) (by omega) (Bel.trans hb k2)
    with_reducible apply k
theorem TunnelDatagrams_t {w : World} {A : Option Addr} {n c : Nat} (h : Its w A n ∧ n ≤ 1000000000000) : Calls Try.prog 3 #[.slice A n c] w (Yes w) := by
  obtain ⟨hs, hn⟩ := h
  refine weftlaw7_TunnelDatagrams.run ?_
  unfold weftlaw7_TunnelDatagrams.s
  refine call_of (begun_t w) ?_
  rintro e w1 ⟨rfl, k1⟩
  refine ⟨_, rfl, ifNot (fun h => by cases h) (fun _ => ?_)⟩
  refine ⟨n + 1, ?_⟩
  have k : weftlaw7_TunnelDatagrams.L1 (n + 1) A n c 0 w1 (Yes w) := TunnelDatagrams_l hs (by omega) (n + 1) 0 w1 (by omega) (by omega) k1
  with_reducible apply k
end Go.Proofs.YtleelkkddjldnaaS
