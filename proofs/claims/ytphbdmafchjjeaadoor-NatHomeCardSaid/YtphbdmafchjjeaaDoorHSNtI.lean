/- A fault about a turned packet, turned: plain.
   Conditions: bytes are 0 to 255; a packet's and a tuple's fields are of their kinds. -/
import Derived.Test.YtphbdmafchjjeaaDoorHSNtEM
import Derived.Test.YtphbdmafchjjeaaDoorHSNatY
import Derived.Test.YtphbdmafchjjeaaDoorHSCut
namespace Go.Proofs.YtphbdmafchjjeaaDoorS
open Go Go.RowKit Go.Proofs Go.Proofs.YtphbdmafchjjeaaDoorX
set_option maxRecDepth 100000
set_option linter.unusedVariables false
set_option linter.unusedSectionVars false
set_option linter.unusedSimpArgs false

theorem nicBad_own {q : Ic} (h : q.Fine) (h5 : q.body.length ≤ 65507) : icBad (q.bytes q.sum) = 0 := by
  have hl := Ic.len q q.sum
  have hs := Ic.sum_range h
  unfold icBad
  rw [if_neg (by omega), if_neg (by omega), Ic.tot_bytes q hs.1 hs.2, Ic.sum_full h, if_neg (by decide)]
theorem nlg_own {q : Ic} (h : q.Fine) (s : Int) : lg (q.bytes s) 4 = q.rest := by
  have := h.rest
  show ((q.rest / 16777216 % 256) * 256 + q.rest / 65536 % 256) * 65536 + ((q.rest / 256 % 256) * 256 + q.rest % 256) = q.rest
  omega
theorem nordB_zero {n : Int} (h0 : 0 ≤ n) (h1 : n ≤ 65535) : ordB 0 n false = true := by
  unfold ordB
  rw [decide_eq_true (by omega)]
  rfl
section
variable {q : Ic} (h : q.Fine) (h5 : q.body.length ≤ 65507) {tos src dst : Int} (ht : 0 ≤ tos ∧ tos ≤ 255) (hs : 0 ≤ src ∧ src ≤ 4294967295) (hd : 0 ≤ dst ∧ dst ≤ 4294967295)
include h h5 ht hs hd in
theorem nmadeP_fine : (madeP tos src dst q).Fine := by
  have hl := Ic.len q q.sum
  refine ⟨ht, by show 0 ≤ (0 : Int) ∧ (0 : Int) ≤ 65535; decide, by show -9223372036854775808 ≤ (0 : Int) ∧ (0 : Int) ≤ 9223372036854775807; decide, by show 0 ≤ (64 : Int) ∧ (64 : Int) ≤ 255; decide, by show 0 ≤ (1 : Int) ∧ (1 : Int) ≤ 255; decide, hs, hd, Bytes.nil, Ic.bytes_bytes h _, ?_, ?_⟩
  · show (0 : Nat) ≤ _; omega
  · show (q.bytes q.sum).length ≤ _; omega
include h5 in
theorem nmadeP_err : (madeP tos src dst q).err = 0 := by
  have hl := Ic.len q q.sum
  refine Pk.err_of ?_ ?_ ?_
  · show oOK [] = true
    simp [oOK, area]
  · show ordB 0 ((q.bytes q.sum).length : Int) false = true
    exact nordB_zero (by omega) (by omega)
  · show 20 + 0 + (q.bytes q.sum).length ≤ 65535
    omega
include h h5 in
theorem nmadeP_msg : msgE (madeP tos src dst q) = 0 := by
  unfold msgE
  rw [if_neg (not_not_intro (nmadeP_err h5)), if_neg (show ¬ (madeP tos src dst q).proto ≠ 1 from not_not_intro rfl), if_neg (show ¬ (madeP tos src dst q).off > 0 from by show ¬ (0 : Int) > 0; decide), if_neg (show ¬ (madeP tos src dst q).mf = true from by show ¬ false = true; decide)]
  exact nicBad_own h h5
end
theorem nmayB_may {t c x : Int} (ht : 0 ≤ t) (hc : 0 ≤ c) (h : mayB t c x = true) : mayT t = true := by
  have hr := mayB_range h
  unfold mayB at h
  rw [if_neg (by omega)] at h
  by_cases h2 : c ≥ codesL.getD t.toNat 0
  · rw [if_pos h2] at h; cases h
  have : ∀ i : Nat, i < 13 → 0 < codesL.getD i 0 → mayT (i : Int) = true := by
    intro i hi
    rcases (by omega : i = 0 ∨ i = 1 ∨ i = 2 ∨ i = 3 ∨ i = 4 ∨ i = 5 ∨ i = 6 ∨ i = 7 ∨ i = 8 ∨ i = 9 ∨ i = 10 ∨ i = 11 ∨ i = 12) with rfl | rfl | rfl | rfl | rfl | rfl | rfl | rfl | rfl | rfl | rfl | rfl | rfl <;> decide
  have := this t.toNat (by omega) (by omega)
  rwa [Int.toNat_of_nonneg ht] at this
theorem nfaultE_zero {p : Pk} {t c x src : Int} (h : faultE p t c x src = 0) : mayB t c x = true ∧ plainA src = true ∧ p.err = 0 ∧ quietP p = false := by
  unfold faultE at h
  by_cases h1 : mayB t c x = false
  · rw [if_pos h1] at h; cases h
  rw [if_neg h1] at h
  by_cases h2 : plainA src = false
  · rw [if_pos h2] at h; cases h
  rw [if_neg h2] at h
  by_cases h3 : p.err ≠ 0
  · rw [if_pos h3] at h; exact absurd h h3
  rw [if_neg h3] at h
  by_cases h4 : quietP p = true
  · rw [if_pos h4] at h; cases h
  exact ⟨by simpa using h1, by simpa using h2, Decidable.of_not_not h3, by simpa using h4⟩
theorem may_fault {t : Int} (h : mayT t = true) : faultT t = true := by
  unfold mayT at h
  unfold faultT
  have := of_decide_eq_true h
  exact decide_eq_true (by omega)

/-! ### the first eight bytes, turned -/
/-- c is b turned from s to u, but for a sum's 0 and 65535. -/
def R8 (pr : Int) (s u : Tp) (b c : List Int) : Prop := ∃ a0 a1 a2 a3 a4 a5 a6 a7 x y : Int, b = [a0, a1, a2, a3, a4, a5, a6, a7] ∧ (0 ≤ x ∧ x ≤ 255) ∧ (0 ≤ y ∧ y ≤ 255) ∧
  ((pr = 17 ∧ c = [u.sp / 256, u.sp % 256, u.dp / 256, u.dp % 256, a4, a5, x, y] ∧ ((a6 * 256 + a7 = 0 ∧ x = 0 ∧ y = 0) ∨ (a6 * 256 + a7 ≠ 0 ∧ x * 256 + y ≠ 0 ∧ (x * 256 + y - (a6 * 256 + a7 + wsum s - wsum u)) % 65535 = 0))) ∨
   (pr = 6 ∧ c = [u.sp / 256, u.sp % 256, u.dp / 256, u.dp % 256, a4, a5, a6, a7]) ∨
   (pr = 1 ∧ c = [a0, a1, x, y, u.sp / 256, u.sp % 256, a6, a7] ∧ (x * 256 + y - (a2 * 256 + a3 + s.sp - u.sp)) % 65535 = 0))
/-- s are the ports that the bytes tell. -/
def Pt8 (pr : Int) (s : Tp) (b : List Int) : Prop := (pr = 1 → s.sp = wd b 4) ∧ (pr ≠ 1 → s.sp = wd b 0 ∧ s.dp = wd b 2)
theorem R8.back {pr : Int} {s u : Tp} {b c d : List Int} (hb : Bytes b) (hs : Pt8 pr s b) (h1 : R8 pr s u b c) (h2 : R8 pr u s c d) : NearB pr d b := by
  obtain ⟨a0, a1, a2, a3, a4, a5, a6, a7, x, y, rfl, hx, hy, h1⟩ := h1
  obtain ⟨e0, e1, e2, e3, e4, e5, e6, e7, x', y', rfl, hx', hy', h2⟩ := h2
  have b0 : 0 ≤ a0 ∧ a0 ≤ 255 := hb.getD 0
  have b1 : 0 ≤ a1 ∧ a1 ≤ 255 := hb.getD 1
  have b2 : 0 ≤ a2 ∧ a2 ≤ 255 := hb.getD 2
  have b3 : 0 ≤ a3 ∧ a3 ≤ 255 := hb.getD 3
  have b4 : 0 ≤ a4 ∧ a4 ≤ 255 := hb.getD 4
  have b5 : 0 ≤ a5 ∧ a5 ≤ 255 := hb.getD 5
  have b6 : 0 ≤ a6 ∧ a6 ≤ 255 := hb.getD 6
  have b7 : 0 ≤ a7 ∧ a7 ≤ 255 := hb.getD 7
  rcases h1 with ⟨rfl, h1, h3⟩ | ⟨rfl, h1⟩ | ⟨rfl, h1, h3⟩
  · rcases h2 with ⟨_, rfl, h4⟩ | ⟨h, _⟩ | ⟨h, _⟩
    · simp only [List.cons.injEq, and_true] at h1
      obtain ⟨rfl, rfl, rfl, rfl, rfl, rfl, rfl, rfl⟩ := h1
      have q := hs.2 (by decide)
      have q1 : s.sp = a0 * 256 + a1 := q.1
      have q2 : s.dp = a2 * 256 + a3 := q.2
      rw [show s.sp / 256 = a0 by omega, show s.sp % 256 = a1 by omega, show s.dp / 256 = a2 by omega, show s.dp % 256 = a3 by omega]
      rcases h3 with ⟨h5, h6, h7⟩ | ⟨h5, h6, h7⟩
      · rcases h4 with ⟨h8, h9, h10⟩ | ⟨h8, h9, h10⟩
        · rw [show a6 = 0 by omega, show a7 = 0 by omega, h9, h10]
          exact NearB.refl _ _
        · omega
      · rcases h4 with ⟨h8, h9, h10⟩ | ⟨h8, h9, h10⟩
        · omega
        · have e1 : (x' * 256 + y' - (a6 * 256 + a7)) % 65535 = 0 := by omega
          have e2 : x' * 256 + y' = a6 * 256 + a7 := by omega
          have e3 : x' = a6 := by omega
          have e4 : y' = a7 := by omega
          rw [e3, e4]
          exact NearB.refl _ _
    · omega
    · omega
  · rcases h2 with ⟨h, _⟩ | ⟨_, rfl⟩ | ⟨h, _⟩
    · omega
    · simp only [List.cons.injEq, and_true] at h1
      obtain ⟨rfl, rfl, rfl, rfl, rfl, rfl, rfl, rfl⟩ := h1
      have q := hs.2 (by decide)
      have q1 : s.sp = a0 * 256 + a1 := q.1
      have q2 : s.dp = a2 * 256 + a3 := q.2
      rw [show s.sp / 256 = a0 by omega, show s.sp % 256 = a1 by omega, show s.dp / 256 = a2 by omega, show s.dp % 256 = a3 by omega]
      exact NearB.refl _ _
    · omega
  · rcases h2 with ⟨h, _⟩ | ⟨h, _⟩ | ⟨_, rfl, h4⟩
    · omega
    · omega
    · simp only [List.cons.injEq, and_true] at h1
      obtain ⟨rfl, rfl, rfl, rfl, rfl, rfl, rfl, rfl⟩ := h1
      have q1 : s.sp = a4 * 256 + a5 := hs.1 rfl
      rw [show s.sp / 256 = a4 by omega, show s.sp % 256 = a5 by omega]
      exact (near_ends (pre := [e0, e1]) (r := [a4, a5, e6, e7]) (Or.inl ⟨rfl, rfl⟩) ⟨b2, b3⟩ ⟨hx', hy'⟩ (by omega)).symm
/-- A packet's protocol has ports in its first eight bytes. -/
def Pr8 (pr : Int) : Prop := pr = 17 ∨ pr = 6 ∨ pr = 1
theorem len8 {l : List Int} (h : l.length = 8) : ∃ a0 a1 a2 a3 a4 a5 a6 a7, l = [a0, a1, a2, a3, a4, a5, a6, a7] := by
  match l, h with
  | [a0, a1, a2, a3, a4, a5, a6, a7], _ => exact ⟨a0, a1, a2, a3, a4, a5, a6, a7, rfl⟩
theorem byte_parts {v : Int} (h : 0 ≤ v ∧ v ≤ 65535) : (0 ≤ v / 256 ∧ v / 256 ≤ 255) ∧ (0 ≤ v % 256 ∧ v % 256 ≤ 255) ∧ v / 256 * 256 + v % 256 = v := by omega
theorem z_byte : (0 : Int) ≤ 0 ∧ (0 : Int) ≤ 255 := by decide
theorem udp8 {a0 a1 a2 a3 a4 a5 a6 a7 : Int} {r : List Int} {s u : Tp} (z : Bool) : carV (a0 :: a1 :: a2 :: a3 :: a4 :: a5 :: a6 :: a7 :: r) 17 s u z = if a6 * 256 + a7 ≠ 0 then u.sp / 256 :: u.sp % 256 :: u.dp / 256 :: u.dp % 256 :: a4 :: a5 :: udpX (a6 * 256 + a7) s u / 256 :: udpX (a6 * 256 + a7) s u % 256 :: r else u.sp / 256 :: u.sp % 256 :: u.dp / 256 :: u.dp % 256 :: a4 :: a5 :: a6 :: a7 :: r := by
  have e : wd (setw (setw (a0 :: a1 :: a2 :: a3 :: a4 :: a5 :: a6 :: a7 :: r) 0 u.sp) 2 u.dp) 6 = a6 * 256 + a7 := rfl
  unfold carV udpS
  rw [if_neg (by decide), if_pos rfl, e]
  rfl
theorem R8.udp {a0 a1 a2 a3 a4 a5 a6 a7 : Int} {r : List Int} {s u : Tp} (hs : s.Fine) (hu : u.Fine) (h6 : 0 ≤ a6 ∧ a6 ≤ 255) (h7 : 0 ≤ a7 ∧ a7 ≤ 255) (z : Bool) : R8 17 s u [a0, a1, a2, a3, a4, a5, a6, a7] ((carV (a0 :: a1 :: a2 :: a3 :: a4 :: a5 :: a6 :: a7 :: r) 17 s u z).take 8) := by
  rw [udp8]
  by_cases h : a6 * 256 + a7 ≠ 0
  · rw [if_pos h]
    obtain ⟨m1, m2, m3⟩ := udpX_mod (w := a6 * 256 + a7) (by omega) hs hu
    generalize udpX (a6 * 256 + a7) s u = X at m1 m2 m3
    obtain ⟨p1, p2, p3⟩ := byte_parts (v := X) (by omega)
    exact ⟨a0, a1, a2, a3, a4, a5, a6, a7, X / 256, X % 256, rfl, p1, p2, Or.inl ⟨rfl, rfl, Or.inr ⟨h, by omega, by rw [p3]; exact m1⟩⟩⟩
  · rw [if_neg h]
    have e6 : a6 = 0 := by omega
    have e7 : a7 = 0 := by omega
    subst e6
    subst e7
    exact ⟨a0, a1, a2, a3, a4, a5, 0, 0, 0, 0, rfl, z_byte, z_byte, Or.inl ⟨rfl, rfl, Or.inl ⟨rfl, rfl, rfl⟩⟩⟩
theorem echoS_mod2 {a0 a1 a2 a3 : Int} {r : List Int} {s u : Tp} (hw : 0 ≤ a2 * 256 + a3 ∧ a2 * 256 + a3 ≤ 65535) (hs : s.Fine) (hu : u.Fine) (z : Bool) :
    (echoS (a0 :: a1 :: a2 :: a3 :: r) s u z - (a2 * 256 + a3 + s.sp - u.sp)) % 65535 = 0 ∧ 0 ≤ echoS (a0 :: a1 :: a2 :: a3 :: r) s u z ∧ echoS (a0 :: a1 :: a2 :: a3 :: r) s u z ≤ 65535 := by
  have e : wd (a0 :: a1 :: a2 :: a3 :: r) 2 = a2 * 256 + a3 := rfl
  obtain ⟨h1, h2, h3⟩ := over_id hw hs.sp hu.sp
  unfold echoS
  rw [e]
  split
  · rename_i h
    have := h.2.2.1
    refine ⟨?_, ?_, ?_⟩ <;> omega
  · exact ⟨h1, h2, h3⟩
theorem echo8 {a0 a1 a2 a3 a4 a5 a6 a7 : Int} {r : List Int} {s u : Tp} (z : Bool) : carV (a0 :: a1 :: a2 :: a3 :: a4 :: a5 :: a6 :: a7 :: r) 1 s u z = a0 :: a1 :: echoS (a0 :: a1 :: a2 :: a3 :: u.sp / 256 :: u.sp % 256 :: a6 :: a7 :: r) s u z / 256 :: echoS (a0 :: a1 :: a2 :: a3 :: u.sp / 256 :: u.sp % 256 :: a6 :: a7 :: r) s u z % 256 :: u.sp / 256 :: u.sp % 256 :: a6 :: a7 :: r := by
  unfold carV
  rw [if_pos rfl]
  rfl
theorem R8.echo {a0 a1 a2 a3 a4 a5 a6 a7 : Int} {r : List Int} {s u : Tp} (hs : s.Fine) (hu : u.Fine) (h2 : 0 ≤ a2 ∧ a2 ≤ 255) (h3 : 0 ≤ a3 ∧ a3 ≤ 255) (z : Bool) : R8 1 s u [a0, a1, a2, a3, a4, a5, a6, a7] ((carV (a0 :: a1 :: a2 :: a3 :: a4 :: a5 :: a6 :: a7 :: r) 1 s u z).take 8) := by
  rw [echo8]
  obtain ⟨m1, m2, m3⟩ := echoS_mod2 (a0 := a0) (a1 := a1) (a2 := a2) (a3 := a3) (r := u.sp / 256 :: u.sp % 256 :: a6 :: a7 :: r) (by omega) hs hu z
  generalize echoS (a0 :: a1 :: a2 :: a3 :: u.sp / 256 :: u.sp % 256 :: a6 :: a7 :: r) s u z = X at m1 m2 m3
  obtain ⟨p1, p2, p3⟩ := byte_parts (v := X) ⟨m2, m3⟩
  exact ⟨a0, a1, a2, a3, a4, a5, a6, a7, X / 256, X % 256, rfl, p1, p2, Or.inr (Or.inr ⟨rfl, rfl, by rw [p3]; exact m1⟩)⟩
/-- The first eight bytes of what is turned are those bytes turned. -/
theorem R8.car {pr : Int} (hp : Pr8 pr) {l : List Int} (hl : 8 ≤ l.length) (hb : Bytes l) {s u : Tp} (hs : s.Fine) (hu : u.Fine) (z : Bool) : R8 pr s u (l.take 8) ((carV l pr s u z).take 8) := by
  obtain ⟨a0, a1, a2, a3, a4, a5, a6, a7, r, rfl, b0, b1, b2, b3, b4, b5, b6, b7, br⟩ := cut8 hl hb
  rcases hp with rfl | rfl | rfl
  · exact R8.udp hs hu b6 b7 z
  · refine ⟨a0, a1, a2, a3, a4, a5, a6, a7, 0, 0, rfl, z_byte, z_byte, Or.inr (Or.inl ⟨rfl, ?_⟩)⟩
    unfold carV
    rw [if_neg (by decide), if_neg (by decide)]
    split
    · rfl
    · rfl
  · exact R8.echo hs hu b2 b3 z
theorem R8.same {pr : Int} (hp : Pr8 pr) {l : List Int} (hl : 8 ≤ l.length) (hb : Bytes l) {s : Tp} (h : Pt8 pr s (l.take 8)) : R8 pr s s (l.take 8) (l.take 8) := by
  obtain ⟨a0, a1, a2, a3, a4, a5, a6, a7, r, rfl, b0, b1, b2, b3, b4, b5, b6, b7, br⟩ := cut8 hl hb
  rcases hp with rfl | rfl | rfl
  · have q := h.2 (by decide)
    have q1 : s.sp = a0 * 256 + a1 := q.1
    have q2 : s.dp = a2 * 256 + a3 := q.2
    refine ⟨a0, a1, a2, a3, a4, a5, a6, a7, a6, a7, rfl, b6, b7, Or.inl ⟨rfl, ?_, ?_⟩⟩
    · rw [show s.sp / 256 = a0 by omega, show s.sp % 256 = a1 by omega, show s.dp / 256 = a2 by omega, show s.dp % 256 = a3 by omega]
      rfl
    · by_cases h0 : a6 * 256 + a7 = 0
      · exact Or.inl ⟨h0, by omega, by omega⟩
      · exact Or.inr ⟨h0, h0, by omega⟩
  · have q := h.2 (by decide)
    have q1 : s.sp = a0 * 256 + a1 := q.1
    have q2 : s.dp = a2 * 256 + a3 := q.2
    refine ⟨a0, a1, a2, a3, a4, a5, a6, a7, 0, 0, rfl, z_byte, z_byte, Or.inr (Or.inl ⟨rfl, ?_⟩)⟩
    rw [show s.sp / 256 = a0 by omega, show s.sp % 256 = a1 by omega, show s.dp / 256 = a2 by omega, show s.dp % 256 = a3 by omega]
    rfl
  · have q1 : s.sp = a4 * 256 + a5 := h.1 rfl
    refine ⟨a0, a1, a2, a3, a4, a5, a6, a7, a2, a3, rfl, b2, b3, Or.inr (Or.inr ⟨rfl, ?_, by omega⟩)⟩
    rw [show s.sp / 256 = a4 by omega, show s.sp % 256 = a5 by omega]
    rfl
theorem R8.ports {pr : Int} {s u : Tp} {b c : List Int} (hu : u.Fine) (h : R8 pr s u b c) : Pt8 pr u c ∧ (pr = 1 → c.getD 0 0 = b.getD 0 0 ∧ c.getD 1 0 = b.getD 1 0) := by
  obtain ⟨a0, a1, a2, a3, a4, a5, a6, a7, x, y, rfl, hx, hy, h⟩ := h
  rcases h with ⟨rfl, rfl, _⟩ | ⟨rfl, rfl⟩ | ⟨rfl, rfl, _⟩
  · refine ⟨⟨fun h => by omega, fun _ => ⟨?_, ?_⟩⟩, fun h => by omega⟩
    · show u.sp = u.sp / 256 * 256 + u.sp % 256; omega
    · show u.dp = u.dp / 256 * 256 + u.dp % 256; omega
  · refine ⟨⟨fun h => by omega, fun _ => ⟨?_, ?_⟩⟩, fun h => by omega⟩
    · show u.sp = u.sp / 256 * 256 + u.sp % 256; omega
    · show u.dp = u.dp / 256 * 256 + u.dp % 256; omega
  · refine ⟨⟨fun _ => ?_, fun h => absurd rfl h⟩, fun _ => ⟨rfl, rfl⟩⟩
    show u.sp = u.sp / 256 * 256 + u.sp % 256; omega

/-! ### a fault about a packet -/
def fxI (q : Pk) (t c : Int) : Ic := ⟨t, c, 0, (q.bytes q.sum).take (20 + q.opts.length + 8)⟩
def fx (q : Pk) (t c src dst : Int) : Pk := madeP 0 src dst (fxI q t c)
/-- A packet whose first eight bytes tell its ports. -/
structure Q8 (q : Pk) : Prop where
  h : q.Fine
  he : q.err = 0
  ho : q.off = 0
  l8 : 8 ≤ q.body.length
  pr : q.proto = 17 ∨ q.proto = 6 ∨ (q.proto = 1 ∧ (q.body.getD 0 0 = 8 ∨ q.body.getD 0 0 = 0) ∧ q.body.getD 1 0 = 0)
theorem Q8.pr8 {q : Pk} (Q : Q8 q) : Pr8 q.proto := by
  rcases Q.pr with h | h | h
  · exact Or.inl h
  · exact Or.inr (Or.inl h)
  · exact Or.inr (Or.inr h.1)
def s8 (q : Pk) : Tp := quT1 q (q.body.take 8)
def qt (q : Pk) (u : Tp) : Pk := { q with src := u.src, dst := u.dst, body := carV (q.body.take 8) q.proto (s8 q) u false ++ q.body.drop 8 }
section
variable {q : Pk} (Q : Q8 q)
include Q
theorem Q8.cutE : (q.bytes q.sum).take (20 + q.opts.length + 8) = q.head q.sum ++ q.body.take 8 := by
  rw [show 20 + q.opts.length + 8 = (q.head q.sum).length + 8 by rw [Pk.head_len]]
  exact List.take_length_add_append 8
theorem Q8.t8 : (q.body.take 8).length = 8 := by
  have := Q.l8
  rw [List.length_take]
  omega
theorem Q8.b8 : Bytes (q.body.take 8) := Q.h.body.take 8
theorem Q8.cut : Cut q (20 + q.opts.length + 8) := cut_ok Q.h Q.he (by omega) (by have := Q.l8; unfold Pk.tl; omega)
theorem Q8.cutL : ((q.bytes q.sum).take (20 + q.opts.length + 8)).length = 20 + q.opts.length + 8 := by
  have := Q.l8
  rw [List.length_take, Pk.bytes_len]
  unfold Pk.tl
  omega
theorem Q8.olen : q.opts.length ≤ 40 := (oOK_len (Pk.err_zero Q.he).1).1
theorem Q8.fxF {t c : Int} (ht : 0 ≤ t ∧ t ≤ 255) (hc : 0 ≤ c ∧ c ≤ 255) : (fxI q t c).Fine ∧ (fxI q t c).body.length ≤ 65507 := by
  have h1 := Q.cutL
  have h2 := Q.olen
  refine ⟨⟨ht, hc, by show (0 : Int) ≤ 0 ∧ (0 : Int) ≤ 4294967295; decide, (Pk.bytes_bytes Q.h Q.he q.sum).take _, ?_⟩, ?_⟩
  · show ((q.bytes q.sum).take (20 + q.opts.length + 8)).length ≤ _
    omega
  · show ((q.bytes q.sum).take (20 + q.opts.length + 8)).length ≤ _
    omega
theorem Q8.s8F : (s8 q).Fine := by
  have h0 := wd_range Q.b8 0
  have h2 := wd_range Q.b8 2
  have h4 := wd_range Q.b8 4
  unfold s8 quT1
  split
  · exact ⟨Q.h.src, Q.h.dst, Q.h.proto, h4, h4⟩
  · exact ⟨Q.h.src, Q.h.dst, Q.h.proto, h0, h2⟩
theorem Q8.s8P : (s8 q).proto = q.proto ∧ (q.proto = 1 → (s8 q).sp = (s8 q).dp) ∧ Pt8 q.proto (s8 q) (q.body.take 8) := by
  unfold s8 quT1 Pt8
  split
  · exact ⟨rfl, fun _ => rfl, fun _ => rfl, fun h => by contradiction⟩
  · exact ⟨rfl, fun h => by contradiction, fun h => by contradiction, fun _ => ⟨rfl, rfl⟩⟩
theorem Q8.told {t c a b : Int} (ht : 0 ≤ t ∧ t ≤ 255) (hc : 0 ≤ c ∧ c ≤ 255) (hm : mayT t = true) : aboutE (fx q t c a b) = 0 ∧ tfB (fx q t c a b) = (q.bytes q.sum).take (20 + q.opts.length + 8) := by
  have hf := Q.fxF ht hc
  have hm2 : msgE (fx q t c a b) = 0 := nmadeP_msg hf.1 hf.2
  have ed : (fx q t c a b).body.drop 8 = (q.bytes q.sum).take (20 + q.opts.length + 8) := rfl
  refine ⟨?_, ed⟩
  unfold aboutE
  have e2 : (fx q t c a b).body.getD 0 0 = t := rfl
  rw [if_neg (not_not_intro hm2), e2, may_fault hm, if_neg (by decide), ed]
  exact Q.cut.front
theorem Q8.chl : hlen ((q.bytes q.sum).take (20 + q.opts.length + 8)) = 20 + q.opts.length := by
  rw [take_hlen (by omega)]
  exact own_hlen q (oOK_len (Pk.err_zero Q.he).1) q.sum
theorem Q8.quote {t c a b : Int} (ht : 0 ≤ t ∧ t ≤ 255) (hc : 0 ≤ c ∧ c ≤ 255) (hm : mayT t = true) : tfQ (fx q t c a b) = q.body.take 8 ∧ (tfH (fx q t c a b)).off = q.off ∧ (tfH (fx q t c a b)).proto = q.proto ∧ (tfH (fx q t c a b)).src = q.src ∧ (tfH (fx q t c a b)).dst = q.dst := by
  have e := (Q.told (a := a) (b := b) ht hc hm).2
  have hC := Q.cut
  have ehd := hC.head (0 : Int)
  simp only [hdF, Prod.mk.injEq] at ehd
  obtain ⟨r0, r1, r2, r3, r4, r5, r6, r7, r8, _⟩ := ehd
  refine ⟨?_, ?_⟩
  · unfold tfQ
    rw [e, hC.rest, Q.cutE, List.drop_left' (Pk.head_len q q.sum)]
  · unfold tfH
    rw [e]
    exact ⟨r4, r6, r7, r8⟩
theorem Q8.quoted {t c a b : Int} (ht : 0 ≤ t ∧ t ≤ 255) (hc : 0 ≤ c ∧ c ≤ 255) (hm : mayT t = true) : quB (tfH (fx q t c a b)) (tfQ (fx q t c a b)) = true ∧ tfS (fx q t c a b) = s8 q := by
  obtain ⟨e1, e2, e3, e4, e5⟩ := Q.quote (a := a) (b := b) ht hc hm
  have e : quB (tfH (fx q t c a b)) (tfQ (fx q t c a b)) = true := by
    unfold quB
    rw [e1, e2, e3, take_getD (by omega), take_getD (by omega)]
    refine decide_eq_true ⟨Q.ho, by rw [Q.t8]; omega, ?_⟩
    rcases Q.pr with h | h | h
    · exact Or.inr (Or.inl h)
    · exact Or.inl h
    · exact Or.inr (Or.inr h)
  refine ⟨e, ?_⟩
  unfold tfS quT
  rw [e, if_pos rfl]
  unfold s8 quT1
  rw [e1, e3, e4, e5]
theorem Q8.fE {t c a b : Int} (ht : 0 ≤ t ∧ t ≤ 255) (hc : 0 ≤ c ∧ c ≤ 255) (hm : mayT t = true) {u : Tp} (hp : u.proto = q.proto) (hi : q.proto = 1 → u.sp = u.dp) : tfE (fx q t c a b) u = 0 := by
  have hq := Q.quoted (a := a) (b := b) ht hc hm
  have e2 : (fx q t c a b).body.getD 0 0 = t := rfl
  unfold tfE
  rw [(Q.told (a := a) (b := b) ht hc hm).1, if_neg (fun h => h rfl), e2, hm, hq.1, hq.2, Q.s8P.1, if_neg]
  rintro (h | h | h | h)
  · cases h
  · cases h
  · exact h hp
  · exact h.2 (hi h.1)
end
theorem qt_sum {q : Pk} (u : Tp) (hl : 8 ≤ q.body.length) (s : Int) : (qt q u).fr = q.fr ∧ (qt q u).opts = q.opts ∧ (qt q u).body.length = q.body.length := by
  have e : (qt q u).body.length = q.body.length := by
    show (carV (q.body.take 8) q.proto (s8 q) u false ++ q.body.drop 8).length = _
    rw [List.length_append, carV_len, List.length_take, List.length_drop]
    omega
  refine ⟨?_, rfl, e⟩
  unfold Pk.fr Pk.h0 Pk.hl Pk.tl Pk.fl
  rw [e]
  rfl
theorem Q8.turn {q : Pk} (Q : Q8 q) {u : Tp} (hu : u.Fine) (hp : u.proto = q.proto) (hi : q.proto = 1 → u.sp = u.dp) :
    Q8 (qt q u) ∧ s8 (qt q u) = u ∧ R8 q.proto (s8 q) u (q.body.take 8) ((qt q u).body.take 8) := by
  obtain ⟨x1, x2, x3⟩ := qt_sum u Q.l8 0
  have t8 := Q.t8
  have eb : (qt q u).body.take 8 = carV (q.body.take 8) q.proto (s8 q) u false := by
    show (carV (q.body.take 8) q.proto (s8 q) u false ++ q.body.drop 8).take 8 = _
    exact List.take_left' (by rw [carV_len, t8])
  have r : R8 q.proto (s8 q) u (q.body.take 8) ((qt q u).body.take 8) := by
    have k := R8.car Q.pr8 (l := q.body.take 8) (by omega) Q.b8 Q.s8F hu false
    rw [List.take_take, Nat.min_self, List.take_of_length_le (l := carV (q.body.take 8) q.proto (s8 q) u false) (by rw [carV_len]; omega)] at k
    rw [eb]
    exact k
  have rp := r.ports hu
  have f : (qt q u).Fine := ⟨Q.h.tos, Q.h.id, Q.h.off, Q.h.ttl, Q.h.proto, hu.src, hu.dst, Q.h.opts, (carV_bytes Q.b8 _ Q.s8F hu _).append (Q.h.body.drop 8), Q.h.lo, by rw [x3]; exact Q.h.lb⟩
  have e : (qt q u).err = 0 := by
    have := Q.he
    unfold Pk.err at this ⊢
    rw [x2, x3]
    exact this
  have g : ∀ i, i < 8 → (qt q u).body.getD i 0 = ((qt q u).body.take 8).getD i 0 := fun i hi => (take_getD hi).symm
  have g2 : ∀ i, i < 8 → q.body.getD i 0 = (q.body.take 8).getD i 0 := fun i hi => (take_getD hi).symm
  refine ⟨⟨f, e, Q.ho, by rw [x3]; exact Q.l8, ?_⟩, ?_, r⟩
  · rcases Q.pr with h | h | h
    · exact Or.inl h
    · exact Or.inr (Or.inl h)
    · refine Or.inr (Or.inr ⟨h.1, ?_⟩)
      have h2 := rp.2 h.1
      rw [g 0 (by omega), g 1 (by omega), h2.1, h2.2, ← g2 0 (by omega), ← g2 1 (by omega)]
      exact h.2
  · have pt := rp.1
    unfold s8 quT1
    by_cases hc : q.proto = 1
    · rw [if_pos (show (qt q u).proto = 1 from hc)]
      have e4 := pt.1 hc
      have e5 := hi hc
      rw [← e4]
      show Tp.mk u.src u.dst q.proto u.sp u.sp = u
      rw [← hp]
      calc Tp.mk u.src u.dst u.proto u.sp u.sp = Tp.mk u.src u.dst u.proto u.sp u.dp := by rw [e5]
        _ = u := rfl
    · rw [if_neg (show ¬ (qt q u).proto = 1 from hc)]
      have e4 := pt.2 hc
      rw [← e4.1, ← e4.2]
      show Tp.mk u.src u.dst q.proto u.sp u.dp = u
      rw [← hp]
/-- The quoted head under other addresses. -/
theorem Q8.f3 {q : Pk} (Q : Q8 q) {t c a b : Int} (ht : 0 ≤ t ∧ t ≤ 255) (hc : 0 ≤ c ∧ c ≤ 255) (hm : mayT t = true) {u : Tp} (hu : u.Fine) (Q' : Q8 (qt q u)) : tf3 (fx q t c a b) u = (qt q u).head (qt q u).sum ++ q.body.take 8 := by
  obtain ⟨x1, x2, x3⟩ := qt_sum u Q.l8 0
  have u1 := hu.src
  have u2 := hu.dst
  have eB := (Q.told (a := a) (b := b) ht hc hm).2
  rw [Q.cutE] at eB
  have eH : hlen (tfB (fx q t c a b)) = 20 + q.opts.length := by rw [eB, ← Q.cutE]; exact Q.chl
  have e2 : tf2 (fx q t c a b) u = q.fr ++ (q.sum / 256 % 256 :: q.sum % 256 :: ((qt q u).bk ++ (q.opts ++ q.body.take 8))) := by
    unfold tf2
    rw [eB]
    show setw (setw (setw (setw (q.fr ++ (q.sum / 256 % 256 :: q.sum % 256 :: (q.bk ++ q.opts)) ++ q.body.take 8) 12 (u.src / 65536)) 14 (u.src % 65536)) 16 (u.dst / 65536)) 18 (u.dst % 65536) = _
    have ek : (qt q u).bk = [u.src / 65536 / 256, u.src / 65536 % 256, u.src % 65536 / 256, u.src % 65536 % 256, u.dst / 65536 / 256, u.dst / 65536 % 256, u.dst % 65536 / 256, u.dst % 65536 % 256] := by
      show [u.src / 16777216, u.src / 65536 % 256, u.src / 256 % 256, u.src % 256, u.dst / 16777216, u.dst / 65536 % 256, u.dst / 256 % 256, u.dst % 256] = _
      rw [show u.src / 65536 / 256 = u.src / 16777216 by omega, show u.src % 65536 / 256 = u.src / 256 % 256 by omega, show u.src % 65536 % 256 = u.src % 256 by omega, show u.dst / 65536 / 256 = u.dst / 16777216 by omega, show u.dst % 65536 / 256 = u.dst / 256 % 256 by omega, show u.dst % 65536 % 256 = u.dst % 256 by omega]
    rw [ek]
    rfl
  have hfr : q.fr.length = 10 := rfl
  have hbk : (qt q u).bk.length = 8 := rfl
  have eT : (tf2 (fx q t c a b) u).take 10 ++ ((tf2 (fx q t c a b) u).take (hlen (tfB (fx q t c a b)))).drop 12 = (qt q u).fr ++ ((qt q u).bk ++ (qt q u).opts) := by
    rw [eH, e2, List.take_left' hfr, x1, x2]
    congr 1
    rw [show q.fr ++ (q.sum / 256 % 256 :: q.sum % 256 :: ((qt q u).bk ++ (q.opts ++ q.body.take 8))) = (q.fr ++ [q.sum / 256 % 256, q.sum % 256]) ++ (((qt q u).bk ++ q.opts) ++ q.body.take 8) by simp only [List.append_assoc, List.cons_append, List.nil_append]]
    rw [List.drop_take, List.drop_left' (by simp [hfr]), List.take_left' (by rw [List.length_append, hbk]; omega)]
  unfold tf3
  rw [eT]
  have es : 65535 - S (tot true ((qt q u).fr ++ ((qt q u).bk ++ (qt q u).opts))) = (qt q u).sum := rfl
  rw [es, e2]
  have hs := Pk.sum_range Q'.h Q'.he
  show setw (q.fr ++ (q.sum / 256 % 256 :: q.sum % 256 :: ((qt q u).bk ++ (q.opts ++ q.body.take 8)))) 10 (qt q u).sum = ((qt q u).fr ++ ((qt q u).sum / 256 % 256 :: (qt q u).sum % 256 :: ((qt q u).bk ++ (qt q u).opts))) ++ q.body.take 8
  rw [x1, x2, show (qt q u).sum / 256 % 256 = (qt q u).sum / 256 by omega]
  simp only [List.append_assoc, List.cons_append]
  rfl
theorem Q8.f4 {q : Pk} (Q : Q8 q) {t c a b : Int} (ht : 0 ≤ t ∧ t ≤ 255) (hc : 0 ≤ c ∧ c ≤ 255) (hm : mayT t = true) {u : Tp} (hu : u.Fine) (Q' : Q8 (qt q u)) : tf4 (fx q t c a b) u = ((qt q u).bytes (qt q u).sum).take (20 + (qt q u).opts.length + 8) := by
  have eB := (Q.told (a := a) (b := b) ht hc hm).2
  have eH : hlen (tfB (fx q t c a b)) = 20 + q.opts.length := by rw [eB]; exact Q.chl
  have eQ := (Q.quote (a := a) (b := b) ht hc hm).1
  have eS := (Q.quoted (a := a) (b := b) ht hc hm).2
  have hl : ((qt q u).head (qt q u).sum).length = 20 + q.opts.length := Pk.head_len _ _
  have t8 := Q.t8
  have eb : (qt q u).body.take 8 = carV (q.body.take 8) q.proto (s8 q) u false := by
    show (carV (q.body.take 8) q.proto (s8 q) u false ++ q.body.drop 8).take 8 = _
    exact List.take_left' (by rw [carV_len, t8])
  unfold tf4
  rw [Q.f3 ht hc hm hu Q', eH, eQ, eS, t8, Q.s8P.1, Q'.cutE, eb, List.take_left' hl, List.drop_left' hl, List.take_of_length_le (l := q.body.take 8) (by omega), List.drop_eq_nil_of_le (by rw [List.length_append, hl, t8]; omega), List.append_nil]
theorem Q8.fP {q : Pk} (Q : Q8 q) {t c a b : Int} (ht : 0 ≤ t ∧ t ≤ 255) (hc : 0 ≤ c ∧ c ≤ 255) (hm : mayT t = true) {u : Tp} (hu : u.Fine) (Q' : Q8 (qt q u)) (a' b' : Int) : tfP (fx q t c a b) u a' b' = fx (qt q u) t c a' b' := by
  have e : tfI (fx q t c a b) u = fxI (qt q u) t c := by
    unfold tfI fxI
    rw [Q.f4 ht hc hm hu Q']
    rfl
  unfold tfP
  rw [e]
  rfl
end Go.Proofs.YtphbdmafchjjeaaDoorS
