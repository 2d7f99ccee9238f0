/- Package flow: read, tuple, Of.
   Conditions: a packet's fields are of their kinds. -/
import Derived.Test.YtphbdmafchjjeaaDoorHSNatD
namespace Go.Proofs.YtphbdmafchjjeaaDoorS
open Go Go.RowKit Go.Proofs Go.Proofs.YtphbdmafchjjeaaDoorX
set_option maxRecDepth 100000
set_option linter.unusedVariables false
set_option linter.unusedSectionVars false
set_option linter.unusedSimpArgs false

theorem ftwo_c {w : World} {A : Option Addr} {n c : Nat} {l : List Int} (h : By w A n l) (hb : Bytes l) {i : Nat} {j : Int} (hj : j = i) (hi : i + 1 < n) (hn : n ≤ 1000000000000000) :
    Calls Tryd.prog 71 #[.slice A n c, .int .i64 j] w (Ret (.int .u16 (wd l i)) w) := by
  refine flow_two.run ?_
  unfold flow_two.s
  subst hj
  refine drawsR fun w2 hw => ?_
  have h0 := hb.getD i
  have h1 := hb.getD (i + 1)
  refine h.rdS (fun _ h => h) (by omega) (by omega) fun _ => ?_
  rw [Int.toNat_natCast]
  refine let_as _ (w16 (by omega) (by omega)) ?_
  refine let_as _ (w16 (by omega) (by omega)) ?_
  refine let_as ((i + 1 : Nat) : Int) (by rw [w64 (by omega) (by omega)]; omega) ?_
  refine h.rdS (fun _ h => h) (by omega) (by omega) fun _ => ?_
  rw [Int.toNat_natCast]
  refine let_as _ (w16 (by omega) (by omega)) ?_
  refine let_as _ (or16 h0.1 h0.2 h1.1 h1.2) ?_
  exact ⟨rfl, hw⟩
/-- Why a packet has no tuple; 0: it has one. -/
def ofE4 (p : Pk) : Int := if p.proto = 17 then 0 else if p.proto = 6 then 0 else if p.proto = 1 then (if (p.body.getD 0 0 = 8 ∨ p.body.getD 0 0 = 0) ∧ p.body.getD 1 0 = 0 then 0 else 210) else 210
def ofE (p : Pk) : Int := if p.err ≠ 0 then p.err else if p.off > 0 then 75 else if (p.proto = 1 ∨ p.proto = 17) ∧ p.body.length < 8 then 30 else if p.proto = 6 ∧ p.body.length < 20 then 30 else ofE4 p
def insV (p : Pk) : Value := if p.proto = 17 then .iface 137 (.agg #[.int .u16 (wd p.body 0), .int .u16 (wd p.body 2)]) else if p.proto = 6 then .iface 139 (.agg #[.int .u16 (wd p.body 0), .int .u16 (wd p.body 2), .int .u8 (p.body.getD 13 0)])
  else .iface 141 (.agg #[.bool (p.body.getD 0 0 == 8), .int .u16 (wd p.body 4)])
def insO (p : Pk) : Value := if ofE p = 0 then insV p else .nilIface
def tpz : Tp := ⟨0, 0, 0, 0, 0⟩
def ofT1 (p : Pk) : Tp := if p.proto = 1 then ⟨p.src, p.dst, p.proto, wd p.body 4, wd p.body 4⟩ else ⟨p.src, p.dst, p.proto, wd p.body 0, wd p.body 2⟩
/-- A packet's tuple. -/
def ofT (p : Pk) : Tp := if ofE p = 0 then ofT1 p else tpz
theorem ofT1_fine {p : Pk} (h : p.Fine) : (ofT1 p).Fine := by
  have h1 := h.src
  have h2 := h.dst
  have h3 := h.proto
  have h4 := wd_range h.body 0
  have h5 := wd_range h.body 2
  have h6 := wd_range h.body 4
  unfold ofT1
  split
  · exact ⟨h1, h2, h3, h6, h6⟩
  · exact ⟨h1, h2, h3, h4, h5⟩
def RetIn (w0 : World) (p : Pk) : Ending → World → Prop := Ret (.tuple #[insO p, .int .i64 (ofE p)]) w0
section
variable {w0 : World} {p : Pk} (h : p.Fine)
include h
theorem retIn_no {w : World} {k : Int} (hk : ofE p = k) (k0 : k ≠ 0) (hb : Bel w0 w) : RetIn w0 p (.returned (.tuple #[.nilIface, .int .i64 k])) w := by
  have e : insO p = .nilIface := by unfold insO; rw [if_neg (by omega)]
  refine ⟨?_, hb⟩
  rw [e, hk]
theorem retIn_yes {w : World} {v : Value} (hk : ofE p = 0) (hv : v = insV p) (hb : Bel w0 w) : RetIn w0 p (.returned (.tuple #[v, .int .i64 0])) w := by
  have e : insO p = v := by unfold insO; rw [if_pos hk, hv]
  refine ⟨?_, hb⟩
  rw [e, hk]
theorem read_j3 {w : World} {B : Option Addr} {m d : Nat} (y : By w B m p.body) (hb : Bel w0 w) (h8 : 8 ≤ m) (hm : m ≤ 1000000000000000) (h1 : p.proto = 1) (he : ofE p = ofE4 p) {z : Bool} (hz : z = true ↔ ((p.body.getD 0 0 = 8 ∨ p.body.getD 0 0 = 0) ∧ p.body.getD 1 0 = 0)) :
    flow_read.J3 B m d z w (RetIn w0 p) := by
  unfold flow_read.J3; intros
  rw [flow_read.j3_eq]
  have e4 : ofE4 p = if (p.body.getD 0 0 = 8 ∨ p.body.getD 0 0 = 0) ∧ p.body.getD 1 0 = 0 then 0 else 210 := by
    unfold ofE4
    rw [if_neg (by omega), if_neg (by omega), if_pos h1]
  refine ifB (fun hz1 => ?_) (fun hz1 => ?_)
  · refine drawsR fun w2 k2 => ?_
    refine y.rd0S (fun _ h => h) (by omega) fun _ => ?_
    refine call_of (ftwo_c (y.bel k2) h.body (i := 4) rfl (by omega) hm) ?_
    rintro e w3 ⟨rfl, k3⟩
    refine ⟨_, rfl, Bel.trans k2 k3, ?_⟩
    refine retIn_yes h (by rw [he, e4, if_pos (hz.1 hz1)]) ?_ (Bel.trans hb (Bel.trans k2 k3))
    unfold insV
    rw [if_neg (by omega), if_neg (by omega)]
  · exact retIn_no h (by rw [he, e4, if_neg (fun hx => by rw [hz.2 hx] at hz1; cases hz1)]) (by decide) hb
theorem read_j2 {w : World} {A : Option Addr} {n c : Nat} {B : Option Addr} {m d g : Nat} (y : By w B m p.body) (H : Own w0 w [(g, 45, pb p A n c B m d)]) (hm : m ≤ 1000000000000000) (h8 : (p.proto = 1 ∨ p.proto = 17) → 8 ≤ m) (h20 : p.proto = 6 → 20 ≤ m) (he : ofE p = ofE4 p) :
    flow_read.J2 g B m d w (RetIn w0 p) := by
  unfold flow_read.J2; intros
  rw [flow_read.j2_eq]
  refine ⟨p.proto, H.cell 0 6 rfl rfl, ?_⟩
  refine ifE (fun h1 => ?_) (fun h1 => ?_)
  · have := h8 (Or.inr h1)
    refine call_of (ftwo_c y h.body (i := 0) rfl (by omega) hm) ?_
    rintro e w1 ⟨rfl, k1⟩
    refine ⟨_, rfl, ?_⟩
    refine call_of (ftwo_c (y.bel k1) h.body (i := 2) rfl (by omega) hm) ?_
    rintro e w2 ⟨rfl, k2⟩
    refine ⟨_, rfl, ?_⟩
    exact retIn_yes h (by rw [he]; unfold ofE4; rw [if_pos h1]) (by unfold insV; rw [if_pos h1]) (Bel.trans H.bel (Bel.trans k1 k2))
  refine ifE (fun h2 => ?_) (fun h2 => ?_)
  · have := h20 h2
    refine drawsR fun w1 k1 => ?_
    refine y.rdkS (fun _ h => h) 13 rfl (by omega) fun _ => ?_
    refine call_of (ftwo_c (y.bel k1) h.body (i := 0) rfl (by omega) hm) ?_
    rintro e w2 ⟨rfl, k2⟩
    refine ⟨_, rfl, Bel.trans k1 k2, ?_⟩
    refine call_of (ftwo_c ((y.bel k1).bel k2) h.body (i := 2) rfl (by omega) hm) ?_
    rintro e w3 ⟨rfl, k3⟩
    refine ⟨_, rfl, Bel.trans (Bel.trans k1 k2) k3, ?_⟩
    exact retIn_yes h (by rw [he]; unfold ofE4; rw [if_neg h1, if_pos h2]) (by unfold insV; rw [if_neg h1, if_pos h2]) (Bel.trans H.bel (Bel.trans (Bel.trans k1 k2) k3))
  refine ifE (fun h3 => ?_) (fun h3 => ?_)
  · have := h8 (Or.inl h3)
    refine y.rd0 (by omega) fun _ => ?_
    refine ifE (fun h4 => ?_) (fun h4 => ?_)
    · refine y.rdk 1 rfl (by omega) fun _ => ?_
      have k := read_j3 (w0 := w0) (d := d) h y H.bel this hm h3 he (z := (p.body.getD 1 0 == 0)) ⟨fun hx => ⟨Or.inl h4, by simpa using hx⟩, fun hx => by simpa using hx.2⟩
      exact ⟨by with_reducible apply k⟩
    · refine y.rd0 (by omega) fun _ => ?_
      refine ifE (fun h5 => ?_) (fun h5 => ?_)
      · refine y.rdk 1 rfl (by omega) fun _ => ?_
        have k := read_j3 (w0 := w0) (d := d) h y H.bel this hm h3 he (z := (p.body.getD 1 0 == 0)) ⟨fun hx => ⟨Or.inr h5, by simpa using hx⟩, fun hx => by simpa using hx.2⟩
        exact ⟨by with_reducible apply k⟩
      · have k := read_j3 (w0 := w0) (d := d) h y H.bel this hm h3 he (z := false) ⟨(fun hx => by cases hx), fun hx => by rcases hx.1 with hx | hx <;> contradiction⟩
        exact ⟨by with_reducible apply k⟩
  · exact retIn_no h (by rw [he]; unfold ofE4; rw [if_neg h1, if_neg h2, if_neg h3]) (by decide) H.bel
theorem read_j1 {w : World} {A : Option Addr} {n c : Nat} {B : Option Addr} {m d g : Nat} (y : By w B m p.body) (H : Own w0 w [(g, 45, pb p A n c B m d)]) (hm : m ≤ 1000000000000000) (he : p.err = 0) (ho : ¬ p.off > 0) {z : Bool} (hz : z = true ↔ (p.proto = 1 ∨ p.proto = 17) ∧ m < 8) :
    flow_read.J1 g B m d z w (RetIn w0 p) := by
  have ml := y.len
  unfold flow_read.J1; intros
  rw [flow_read.j1_eq]
  refine ifB (fun h1 => ?_) (fun h1 => ?_)
  · exact retIn_no h (by unfold ofE; rw [if_neg (fun hx => hx he), if_neg ho, if_pos (by have := hz.1 h1; exact ⟨this.1, by omega⟩)]) (by decide) H.bel
  have hs : ¬ ((p.proto = 1 ∨ p.proto = 17) ∧ m < 8) := fun hx => by rw [hz.2 hx] at h1; cases h1
  refine ⟨p.proto, H.cell 0 6 rfl rfl, ?_⟩
  refine ifE (fun h2 => ?_) (fun h2 => ?_)
  · refine ifD (fun h3 => ?_) (fun h3 => ?_)
    · exact retIn_no h (by unfold ofE; rw [if_neg (fun hx => hx he), if_neg ho, if_neg (fun hx => hs ⟨hx.1, by omega⟩), if_pos ⟨h2, by omega⟩]) (by decide) H.bel
    · have k := read_j2 (w0 := w0) h y H hm (fun hx => by omega) (fun _ => by omega) (by unfold ofE; rw [if_neg (fun hx => hx he), if_neg ho, if_neg (fun hx => hs ⟨hx.1, by omega⟩), if_neg (fun hx => by omega)])
      exact ⟨by with_reducible apply k⟩
  · have k := read_j2 (w0 := w0) h y H hm (fun hx => by
      have : ¬ m < 8 := fun h9 => hs ⟨hx, h9⟩
      omega) (fun hx => absurd hx h2) (by unfold ofE; rw [if_neg (fun hx => hx he), if_neg ho, if_neg (fun hx => hs ⟨hx.1, by omega⟩), if_neg (fun hx => h2 hx.1)])
    exact ⟨by with_reducible apply k⟩
theorem fread_c {w : World} {A : Option Addr} {n c : Nat} {B : Option Addr} {m d : Nat} (hp : PkAt w p A n c B m d) : Calls Tryd.prog 44 #[.agg (pb p A n c B m d).toArray] w (RetIn w p) := by
  have hm : m ≤ 1000000000000000 := by have := hp.body.len; have := h.lb; omega
  have ml := hp.body.len
  refine flow_read.run ?_
  unfold flow_read.s
  refine own_new (l := pb p A n c B m d) (Own.refl w) fun g1 w2 H => ?_
  refine ld_pkt (H.bk 0 rfl) ?_
  refine call_of (Build_e h (hp.bel H.bel)) ?_
  rintro e w3 ⟨k3, C, i, j, rfl, _⟩
  refine ⟨_, _, _, _, rfl, ?_⟩
  replace H := H.call k3
  refine ifN (fun h1 => ?_) (fun h1 => ?_)
  · exact retIn_no h (by unfold ofE; rw [if_pos h1]) h1 H.bel
  have he : p.err = 0 := by omega
  refine ⟨_, _, _, H.cell 0 10 rfl rfl, p.off, H.cell 0 4 rfl rfl, ?_⟩
  refine ifD (fun h2 => ?_) (fun h2 => ?_)
  · exact retIn_no h (by unfold ofE; rw [if_neg (fun hx => hx he), if_pos h2]) (by decide) H.bel
  have y := hp.body.bel H.bel
  refine ⟨p.proto, H.cell 0 6 rfl rfl, ?_⟩
  refine ifE (fun h3 => ?_) (fun h3 => ?_)
  · have k := read_j1 (w0 := w) h y H hm he h2 (z := decide ((m : Int) < 8)) ⟨fun hx => ⟨Or.inl h3, by have := of_decide_eq_true hx; omega⟩, fun hx => decide_eq_true (by omega)⟩
    exact ⟨by with_reducible apply k⟩
  refine ⟨p.proto, H.cell 0 6 rfl rfl, ?_⟩
  refine ifE (fun h4 => ?_) (fun h4 => ?_)
  · have k := read_j1 (w0 := w) h y H hm he h2 (z := decide ((m : Int) < 8)) ⟨fun hx => ⟨Or.inr h4, by have := of_decide_eq_true hx; omega⟩, fun hx => decide_eq_true (by omega)⟩
    exact ⟨by with_reducible apply k⟩
  · have k := read_j1 (w0 := w) h y H hm he h2 (z := false) ⟨(fun hx => by cases hx), fun hx => by rcases hx.1 with hx | hx <;> contradiction⟩
    exact ⟨by with_reducible apply k⟩
end
/-! ### tuple -/
section
variable {w : World} {p : Pk}
theorem tuple_c {A : Option Addr} {n c : Nat} (h0 : ofE p = 0) : Calls Tryd.prog 45 #[.agg (pv p A n c).toArray, insV p] w (Ret (.agg (tpv (ofT1 p)).toArray) w) := by
  have h3 : p.proto = 17 ∨ p.proto = 6 ∨ p.proto = 1 := by
    unfold ofE at h0
    by_cases h1 : p.err ≠ 0
    · rw [if_pos h1] at h0; exact absurd h0 h1
    rw [if_neg h1] at h0
    by_cases h2 : p.off > 0
    · rw [if_pos h2] at h0; omega
    rw [if_neg h2] at h0
    by_cases h4 : (p.proto = 1 ∨ p.proto = 17) ∧ p.body.length < 8
    · rw [if_pos h4] at h0; omega
    rw [if_neg h4] at h0
    by_cases h5 : p.proto = 6 ∧ p.body.length < 20
    · rw [if_pos h5] at h0; omega
    rw [if_neg h5] at h0
    unfold ofE4 at h0
    by_cases h6 : p.proto = 17
    · exact Or.inl h6
    rw [if_neg h6] at h0
    by_cases h7 : p.proto = 6
    · exact Or.inr (Or.inl h7)
    rw [if_neg h7] at h0
    by_cases h8 : p.proto = 1
    · exact Or.inr (Or.inr h8)
    rw [if_neg h8] at h0
    omega
  have go : ∀ {g1 g3 : Nat} {w1 w2 : World} {x y : Int}, Own w w1 [(g3, 32, tpv tpz), (g1, 43, pv p A n c)] → Bel w1 w2 → (⟨p.src, p.dst, p.proto, x, y⟩ : Tp) = ofT1 p →
      (∃ x9 : Int, w2.cell? ⟨g1, 7, none⟩ = some (.int .u32 x9) ∧ (∃ x10 : Int, w2.cell? ⟨g1, 8, none⟩ = some (.int .u32 x10) ∧ (∃ x11 : Int, w2.cell? ⟨g1, 6, none⟩ = some (.int .u8 x11) ∧ (May w2 ⟨g3, 0, none⟩ 5 ∧
        (Let (putCells w2 ⟨g3, 0, none⟩ [.int .u32 x9, .int .u32 x10, .int .u8 x11, .int .u16 x, .int .u16 y] 0) fun w12 : World =>
        ∃ x13 : Int, ∃ x14 : Int, ∃ x15 : Int, ∃ x16 : Int, ∃ x17 : Int, (5 = 5 ∧ At w12 ⟨g3, 0, none⟩ [.int .u32 x13, .int .u32 x14, .int .u8 x15, .int .u16 x16, .int .u16 x17]) ∧
        (Ret (.agg (tpv (ofT1 p)).toArray) w (.returned (.agg #[.int .u32 x13, .int .u32 x14, .int .u8 x15, .int .u16 x16, .int .u16 x17])) w12)))))) := fun {g1 g3 w1 w2 x y} H k et => by
    replace H := H.call k
    refine ⟨p.src, H.cell 1 7 rfl rfl, p.dst, H.cell 1 8 rfl rfl, p.proto, H.cell 1 6 rfl rfl, ?_⟩
    refine own_putB 0 H rfl rfl (Nat.le_refl 5) fun w3 H u => ?_
    refine ⟨_, _, _, _, _, ⟨rfl, (H.bk 0 rfl).at⟩, ?_⟩
    rw [← et]
    exact ⟨rfl, H.bel⟩
  rcases h3 with h3 | h3 | h3
  · have e1 : insV p = .iface 137 (.agg #[.int .u16 (wd p.body 0), .int .u16 (wd p.body 2)]) := by unfold insV; rw [if_pos h3]
    rw [e1]
    refine flow_tuple_datagram.run ?_
    unfold flow_tuple_datagram.s
    refine own_new (l := pv p A n c) (Own.refl w) fun g1 w1 H => ?_
    refine own_new (l := tpv tpz) H fun g3 w2 H => ?_
    refine call_of (R := Ret (.tuple #[.int .u16 (wd p.body 0), .int .u16 (wd p.body 2)]) w2) ?_ ?_
    · refine flow_datagram_ports.run ?_
      unfold flow_datagram_ports.s
      refine own_new (l := [.int .u16 (wd p.body 0), .int .u16 (wd p.body 2)]) (Own.refl w2) fun g5 w5 H5 => ?_
      refine draws (fun w' => Own w2 w' [(g5, 137, [.int .u16 (wd p.body 0), .int .u16 (wd p.body 2)])]) H5.drew fun w6 e6 => ?_
      refine ⟨_, fun w' h => h.cell 0 0 rfl rfl, _, fun w' h => h.cell 0 1 rfl rfl, rfl, ?_⟩
      rw [e6]
      exact H5.drew.bel
    · rintro e w3 ⟨rfl, k3⟩
      refine ⟨_, _, rfl, ?_⟩
      exact go H k3 (by unfold ofT1; rw [if_neg (by omega)])
  · have e1 : insV p = .iface 139 (.agg #[.int .u16 (wd p.body 0), .int .u16 (wd p.body 2), .int .u8 (p.body.getD 13 0)]) := by unfold insV; rw [if_neg (by omega), if_pos h3]
    rw [e1]
    refine flow_tuple_segment.run ?_
    unfold flow_tuple_segment.s
    refine own_new (l := pv p A n c) (Own.refl w) fun g1 w1 H => ?_
    refine own_new (l := tpv tpz) H fun g3 w2 H => ?_
    refine call_of (R := Ret (.tuple #[.int .u16 (wd p.body 0), .int .u16 (wd p.body 2)]) w2) ?_ ?_
    · refine flow_segment_ports.run ?_
      unfold flow_segment_ports.s
      refine own_new (l := [.int .u16 (wd p.body 0), .int .u16 (wd p.body 2), .int .u8 (p.body.getD 13 0)]) (Own.refl w2) fun g5 w5 H5 => ?_
      refine draws (fun w' => Own w2 w' [(g5, 139, [.int .u16 (wd p.body 0), .int .u16 (wd p.body 2), .int .u8 (p.body.getD 13 0)])]) H5.drew fun w6 e6 => ?_
      refine ⟨_, fun w' h => h.cell 0 0 rfl rfl, _, fun w' h => h.cell 0 1 rfl rfl, rfl, ?_⟩
      rw [e6]
      exact H5.drew.bel
    · rintro e w3 ⟨rfl, k3⟩
      refine ⟨_, _, rfl, ?_⟩
      exact go H k3 (by unfold ofT1; rw [if_neg (by omega)])
  · have e1 : insV p = .iface 141 (.agg #[.bool (p.body.getD 0 0 == 8), .int .u16 (wd p.body 4)]) := by unfold insV; rw [if_neg (by omega), if_neg (by omega)]
    rw [e1]
    refine flow_tuple_echo.run ?_
    unfold flow_tuple_echo.s
    refine own_new (l := pv p A n c) (Own.refl w) fun g1 w1 H => ?_
    refine own_new (l := tpv tpz) H fun g3 w2 H => ?_
    refine call_of (R := Ret (.tuple #[.int .u16 (wd p.body 4), .int .u16 (wd p.body 4)]) w2) ?_ ?_
    · refine flow_echo_ports.run ?_
      unfold flow_echo_ports.s
      refine own_new (l := [.bool (p.body.getD 0 0 == 8), .int .u16 (wd p.body 4)]) (Own.refl w2) fun g5 w5 H5 => ?_
      refine draws (fun w' => Own w2 w' [(g5, 141, [.bool (p.body.getD 0 0 == 8), .int .u16 (wd p.body 4)])]) H5.drew fun w6 e6 => ?_
      refine ⟨_, fun w' h => h.cell 0 1 rfl rfl, _, fun w' h => h.cell 0 1 rfl rfl, rfl, ?_⟩
      rw [e6]
      exact H5.drew.bel
    · rintro e w3 ⟨rfl, k3⟩
      refine ⟨_, _, rfl, ?_⟩
      exact go H k3 (by unfold ofT1; rw [if_pos h3])
/-- Of. -/
theorem Of_c (h : p.Fine) {A : Option Addr} {n c : Nat} {B : Option Addr} {m d : Nat} (hp : PkAt w p A n c B m d) : Calls Tryd.prog 28 #[.agg (pb p A n c B m d).toArray] w (Ret (.tuple #[.agg (tpv (ofT p)).toArray, .int .i64 (ofE p)]) w) := by
  refine flow_Of.run ?_
  unfold flow_Of.s
  refine own_new (l := pb p A n c B m d) (Own.refl w) fun g1 w1 H => ?_
  refine own_new (l := tpv tpz) H fun g3 w2 H => ?_
  refine ld_pkt (H.bk 1 rfl) ?_
  refine call_of (fread_c h (hp.bel H.bel)) ?_
  rintro e w3 ⟨rfl, k3⟩
  refine ⟨_, _, rfl, ?_⟩
  replace H := H.call k3
  refine ifN (fun h1 => ?_) (fun h1 => ?_)
  · refine own_putB 0 H rfl rfl (Nat.le_refl 5) fun w4 H u => ?_
    refine ⟨_, _, _, _, _, ⟨rfl, (H.bk 0 rfl).at⟩, ?_⟩
    have e : ofT p = tpz := by unfold ofT; rw [if_neg h1]
    rw [e]
    exact ⟨rfl, H.bel⟩
  · have h0 : ofE p = 0 := by omega
    have e : ofT p = ofT1 p := by unfold ofT; rw [if_pos h0]
    have ei : insO p = insV p := by unfold insO; rw [if_pos h0]
    rw [e, ei, h0]
    refine ld_head10 (l := [.slice B m d]) (H.bk 1 rfl) ?_
    refine call_of (tuple_c h0) ?_
    rintro e w4 ⟨rfl, k4⟩
    refine ⟨_, _, _, _, _, rfl, ?_⟩
    replace H := H.call k4
    refine own_putB 0 H rfl rfl (Nat.le_refl 5) fun w5 H u => ?_
    refine ⟨_, _, _, _, _, ⟨rfl, (H.bk 0 rfl).at⟩, ?_⟩
    exact ⟨rfl, H.bel⟩
end
end Go.Proofs.YtphbdmafchjjeaaDoorS
