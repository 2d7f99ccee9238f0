/- A packet's own sum stays right: echoes, segments: plain.
   Conditions: bytes are 0 to 255, words 0 to 65535. -/
import Derived.Test.YtphbdmafchjjeaaDoorHSNatU
namespace Go.Proofs.YtphbdmafchjjeaaDoorS
open Go Go.RowKit Go.Proofs Go.Proofs.YtphbdmafchjjeaaDoorX
set_option maxRecDepth 100000
set_option linter.unusedVariables false
set_option linter.unusedSectionVars false
set_option linter.unusedSimpArgs false

theorem blank_zero (k : Nat) : ∀ (r : List Int) (i : Nat), (∀ x ∈ r, x = 0) → blankV k r i = true
  | [], i, _ => rfl
  | x :: r, i, h => by
    unfold blankV
    rw [blank_zero k r (i + 1) (fun y hy => h y (List.mem_cons_of_mem _ hy)), h x List.mem_cons_self]
    simp
/-- An echo's sum stays right. -/
theorem echo_right {b : List Int} (hb : Bytes b) {s u : Tp} (hs : s.Fine) (hu : u.Fine) (h1 : s.sp = wd b 4) (h : icBad b = 0) : icBad (carV b 1 s u true) = 0 := by
  obtain ⟨l1, l2, l3⟩ := icBad_zero h
  have cl := carV_len b 1 s u true
  obtain ⟨a0, a1, a2, a3, a4, a5, a6, a7, r, rfl, b0, b1, b2, b3, b4, b5, b6, b7, br⟩ := cut8 l1 hb
  have e1 : s.sp = a4 * 256 + a5 := h1
  have hx := echoS_mod (a0 := a0) (a1 := a1) (a2 := a2) (a3 := a3) (r := u.sp / 256 :: u.sp % 256 :: a6 :: a7 :: r) (by omega) hs hu
  have hR := tot_nonneg (b := true) br
  have f5 := hu.sp
  have t1 : tot true (a0 :: a1 :: a2 :: a3 :: a4 :: a5 :: a6 :: a7 :: r) = 256 * a0 + (a1 + (256 * a2 + (a3 + (256 * a4 + (a5 + (256 * a6 + (a7 + tot true r))))))) := rfl
  rw [t1] at l3
  have pos : 0 < 256 * a0 + (a1 + (256 * a2 + (a3 + (256 * a4 + (a5 + (256 * a6 + (a7 + tot true r))))))) := by
    have := S_eq_zero (t := 256 * a0 + (a1 + (256 * a2 + (a3 + (256 * a4 + (a5 + (256 * a6 + (a7 + tot true r)))))))) (by omega)
    omega
  have hbl : a0 = 0 → a1 = 0 → u.sp = 0 → a6 = 0 → a7 = 0 → tot true r = 0 → echoS (a0 :: a1 :: a2 :: a3 :: u.sp / 256 :: u.sp % 256 :: a6 :: a7 :: r) s u true ≠ 0 := by
    intro z0 z1 z2 z3 z4 z5 hz
    have hr := (tot_eq_zero (b := true) br).1 z5
    have hbk : blankV 2 (a0 :: a1 :: a2 :: a3 :: u.sp / 256 :: u.sp % 256 :: a6 :: a7 :: r) 0 = true := by
      rw [z0, z1, z2, z3, z4]
      simp [blankV, blank_zero 2 r 8 hr]
    have e : wd (a0 :: a1 :: a2 :: a3 :: u.sp / 256 :: u.sp % 256 :: a6 :: a7 :: r) 2 = a2 * 256 + a3 := rfl
    unfold echoS at hz
    rw [e] at hz
    by_cases c1 : s.sp = u.sp
    · rw [if_neg (fun hc => hc.2.1 c1)] at hz
      have e2 : overV (a2 * 256 + a3) [s.sp] [u.sp] = a2 * 256 + a3 := by
        show (if s.sp ≠ u.sp then _ else _) = _
        rw [if_neg (fun hc => hc c1)]
      omega
    · by_cases c2 : overV (a2 * 256 + a3) [s.sp] [u.sp] = 0
      · rw [if_pos ⟨rfl, c1, c2, hbk⟩] at hz
        omega
      · rw [if_neg (fun hc => c2 hc.2.2.1)] at hz
        exact c2 hz
  rw [echo_car] at cl ⊢
  generalize echoS (a0 :: a1 :: a2 :: a3 :: u.sp / 256 :: u.sp % 256 :: a6 :: a7 :: r) s u true = X at hx hbl cl
  have t2 : tot true (a0 :: a1 :: X / 256 :: X % 256 :: u.sp / 256 :: u.sp % 256 :: a6 :: a7 :: r) = 256 * a0 + (a1 + (256 * (X / 256) + (X % 256 + (256 * (u.sp / 256) + (u.sp % 256 + (256 * a6 + (a7 + tot true r))))))) := rfl
  unfold icBad
  rw [if_neg (by omega), if_neg (by omega), if_neg]
  intro hc
  refine hc ?_
  rw [t2, w2, w2]
  have hp : 0 < 256 * a0 + (a1 + (X + (u.sp + (256 * a6 + (a7 + tot true r))))) := by
    by_cases hX : X = 0
    · have : ¬ (a0 = 0 ∧ a1 = 0 ∧ u.sp = 0 ∧ a6 = 0 ∧ a7 = 0 ∧ tot true r = 0) := fun hh => hbl hh.1 hh.2.1 hh.2.2.1 hh.2.2.2.1 hh.2.2.2.2.1 hh.2.2.2.2.2 hX
      omega
    · omega
  rw [e1] at hx
  clear cl t1 t2 hbl hc l1 l2 h1 e1 hb br h hs hu
  generalize tot true r = R at *
  exact sum_keep (T := 256 * a0 + (a1 + (256 * a2 + (a3 + (256 * a4 + (a5 + (256 * a6 + (a7 + R)))))))) (D := X - (a2 * 256 + a3 + (a4 * 256 + a5) - u.sp)) (by omega) hx.1 hp l3 rfl (by omega)

theorem cut18 {b : List Int} (h : 18 ≤ b.length) : ∃ a0 a1 a2 a3 a4 a5 a6 a7 a8 a9 c0 c1 c2 c3 c4 c5 c6 c7 r, b = a0 :: a1 :: a2 :: a3 :: a4 :: a5 :: a6 :: a7 :: a8 :: a9 :: c0 :: c1 :: c2 :: c3 :: c4 :: c5 :: c6 :: c7 :: r := by
  obtain ⟨a0, r0, rfl, h0⟩ := cut1 h
  obtain ⟨a1, r1, rfl, h1⟩ := cut1 h0
  obtain ⟨a2, r2, rfl, h2⟩ := cut1 h1
  obtain ⟨a3, r3, rfl, h3⟩ := cut1 h2
  obtain ⟨a4, r4, rfl, h4⟩ := cut1 h3
  obtain ⟨a5, r5, rfl, h5⟩ := cut1 h4
  obtain ⟨a6, r6, rfl, h6⟩ := cut1 h5
  obtain ⟨a7, r7, rfl, h7⟩ := cut1 h6
  obtain ⟨a8, r8, rfl, h8⟩ := cut1 h7
  obtain ⟨a9, r9, rfl, h9⟩ := cut1 h8
  obtain ⟨c0, q0, rfl, k0⟩ := cut1 h9
  obtain ⟨c1, q1, rfl, k1⟩ := cut1 k0
  obtain ⟨c2, q2, rfl, k2⟩ := cut1 k1
  obtain ⟨c3, q3, rfl, k3⟩ := cut1 k2
  obtain ⟨c4, q4, rfl, k4⟩ := cut1 k3
  obtain ⟨c5, q5, rfl, k5⟩ := cut1 k4
  obtain ⟨c6, q6, rfl, k6⟩ := cut1 k5
  obtain ⟨c7, q7, rfl, k7⟩ := cut1 k6
  exact ⟨a0, a1, a2, a3, a4, a5, a6, a7, a8, a9, c0, c1, c2, c3, c4, c5, c6, c7, q7, rfl⟩
section
variable {a0 a1 a2 a3 a4 a5 a6 a7 a8 a9 c0 c1 c2 c3 c4 c5 c6 c7 : Int} {r : List Int} {s u : Tp}
theorem tcp_car : carV (a0 :: a1 :: a2 :: a3 :: a4 :: a5 :: a6 :: a7 :: a8 :: a9 :: c0 :: c1 :: c2 :: c3 :: c4 :: c5 :: c6 :: c7 :: r) 6 s u true =
    u.sp / 256 :: u.sp % 256 :: u.dp / 256 :: u.dp % 256 :: a4 :: a5 :: a6 :: a7 :: a8 :: a9 :: c0 :: c1 :: c2 :: c3 :: c4 :: c5 :: overV (c6 * 256 + c7) (wsV s) (wsV u) / 256 :: overV (c6 * 256 + c7) (wsV s) (wsV u) % 256 :: r := by
  unfold carV
  rw [if_neg (by decide), if_neg (by decide), if_pos (by simp only [List.length_cons]; omega)]
  rfl
end
/-- A segment that is turned back is near what it was. -/
theorem tcp_back {b : List Int} (hb : Bytes b) (hl : 18 ≤ b.length) {s u : Tp} (hs : s.Fine) (hu : u.Fine) (h1 : s.sp = wd b 0) (h2 : s.dp = wd b 2) : NearB 6 b (carV (carV b 6 s u true) 6 u s true) := by
  obtain ⟨a0, a1, a2, a3, a4, a5, a6, a7, a8, a9, c0, c1, c2, c3, c4, c5, c6, c7, r, rfl⟩ := cut18 hl
  have e1 : s.sp = a0 * 256 + a1 := h1
  have e2 : s.dp = a2 * 256 + a3 := h2
  have b0 : 0 ≤ a0 ∧ a0 ≤ 255 := hb.getD 0
  have b1 : 0 ≤ a1 ∧ a1 ≤ 255 := hb.getD 1
  have b2 : 0 ≤ a2 ∧ a2 ≤ 255 := hb.getD 2
  have b3 : 0 ≤ a3 ∧ a3 ≤ 255 := hb.getD 3
  have d6 : 0 ≤ c6 ∧ c6 ≤ 255 := hb.getD 16
  have d7 : 0 ≤ c7 ∧ c7 ≤ 255 := hb.getD 17
  have hx := over_ws (w := c6 * 256 + c7) (by omega) hs hu
  rw [tcp_car]
  generalize overV (c6 * 256 + c7) (wsV s) (wsV u) = X at hx
  rw [tcp_car, show X / 256 * 256 + X % 256 = X by omega]
  have hy := over_ws (w := X) (by omega) hu hs
  generalize overV X (wsV u) (wsV s) = Y at hy
  rw [show s.sp / 256 = a0 by omega, show s.sp % 256 = a1 by omega, show s.dp / 256 = a2 by omega, show s.dp % 256 = a3 by omega]
  exact near_ends (pre := [a0, a1, a2, a3, a4, a5, a6, a7, a8, a9, c0, c1, c2, c3, c4, c5]) (Or.inr ⟨rfl, rfl⟩) ⟨d6, d7⟩ ⟨by omega, by omega⟩ (by omega)
/-- A segment's sum stays right. -/
theorem tcp_right {b : List Int} (hb : Bytes b) (hl : 18 ≤ b.length) (hn : b.length ≤ 65535) {s u : Tp} (hs : s.Fine) (hu : u.Fine) (h1 : s.sp = wd b 0) (h2 : s.dp = wd b 2) (h : S (tot true (psh s.src s.dst 6 (b.length : Int) ++ b)) = 65535) :
    S (tot true (psh u.src u.dst 6 ((carV b 6 s u true).length : Int) ++ carV b 6 s u true)) = 65535 := by
  have cl := carV_len b 6 s u true
  rw [cl]
  have nl : 0 ≤ (b.length : Int) ∧ (b.length : Int) ≤ 65535 := by omega
  clear cl
  generalize (b.length : Int) = N at nl h
  obtain ⟨a0, a1, a2, a3, a4, a5, a6, a7, a8, a9, c0, c1, c2, c3, c4, c5, c6, c7, r, rfl⟩ := cut18 hl
  have e1 : s.sp = a0 * 256 + a1 := h1
  have e2 : s.dp = a2 * 256 + a3 := h2
  have d6 : 0 ≤ c6 ∧ c6 ≤ 255 := hb.getD 16
  have d7 : 0 ≤ c7 ∧ c7 ≤ 255 := hb.getD 17
  have hx := over_ws (w := c6 * 256 + c7) (by omega) hs hu
  have hT := tot_nonneg (b := true) hb
  rw [tot_even _ _ (by rw [psh_len]), psh_tot hs.src hs.dst nl] at h
  rw [tcp_car, tot_even _ _ (by rw [psh_len]), psh_tot hu.src hu.dst nl]
  generalize overV (c6 * 256 + c7) (wsV s) (wsV u) = X at hx
  have hr : Bytes (a4 :: a5 :: a6 :: a7 :: a8 :: a9 :: c0 :: c1 :: c2 :: c3 :: c4 :: c5 :: c6 :: c7 :: r) := hb.tail.tail.tail.tail
  have hr2 : Bytes (a4 :: a5 :: a6 :: a7 :: a8 :: a9 :: c0 :: c1 :: c2 :: c3 :: c4 :: c5 :: r) := (hr.take 12).append (hr.drop 14)
  have hM := tot_nonneg (b := true) hr2
  have t3 : tot true (a4 :: a5 :: a6 :: a7 :: a8 :: a9 :: c0 :: c1 :: c2 :: c3 :: c4 :: c5 :: r) = 256 * a4 + (a5 + (256 * a6 + (a7 + (256 * a8 + (a9 + (256 * c0 + (c1 + (256 * c2 + (c3 + (256 * c4 + (c5 + tot true r))))))))))) := rfl
  have t1 : tot true (a0 :: a1 :: a2 :: a3 :: a4 :: a5 :: a6 :: a7 :: a8 :: a9 :: c0 :: c1 :: c2 :: c3 :: c4 :: c5 :: c6 :: c7 :: r) = s.sp + (s.dp + (c6 * 256 + c7 + tot true (a4 :: a5 :: a6 :: a7 :: a8 :: a9 :: c0 :: c1 :: c2 :: c3 :: c4 :: c5 :: r))) := by
    rw [t3, e1, e2]
    show 256 * a0 + (a1 + (256 * a2 + (a3 + (256 * a4 + (a5 + (256 * a6 + (a7 + (256 * a8 + (a9 + (256 * c0 + (c1 + (256 * c2 + (c3 + (256 * c4 + (c5 + (256 * c6 + (c7 + tot true r))))))))))))))))) = _
    omega
  have t2 : ∀ x y z : Int, tot true (x / 256 :: x % 256 :: y / 256 :: y % 256 :: a4 :: a5 :: a6 :: a7 :: a8 :: a9 :: c0 :: c1 :: c2 :: c3 :: c4 :: c5 :: z / 256 :: z % 256 :: r) = x + (y + (z + tot true (a4 :: a5 :: a6 :: a7 :: a8 :: a9 :: c0 :: c1 :: c2 :: c3 :: c4 :: c5 :: r))) := by
    intro x y z
    rw [t3]
    show 256 * (x / 256) + (x % 256 + (256 * (y / 256) + (y % 256 + (256 * a4 + (a5 + (256 * a6 + (a7 + (256 * a8 + (a9 + (256 * c0 + (c1 + (256 * c2 + (c3 + (256 * c4 + (c5 + (256 * (z / 256) + (z % 256 + tot true r))))))))))))))))) = _
    rw [w2, w2, w2]
    omega
  rw [t1] at h
  rw [t2]
  have f1 := adS_pos hs.src.1 hs.dst.1
  have f3 := adS_pos hu.src.1 hu.dst.1
  have f5 := hu.sp
  have f6 := hu.dp
  have f7 := hs.sp
  have f8 := hs.dp
  rw [wsum_ad, wsum_ad] at hx
  generalize tot true (a4 :: a5 :: a6 :: a7 :: a8 :: a9 :: c0 :: c1 :: c2 :: c3 :: c4 :: c5 :: r) = M at hM h
  generalize adS s.src s.dst = A at f1 h hx
  generalize adS u.src u.dst = B at f3 hx
  clear t1 t2 t3 hr hr2 hb hT e1 e2 h1 h2 hl hn
  exact sum_keep (T := A + (6 + N) + (s.sp + (s.dp + (c6 * 256 + c7 + M)))) (D := X - (c6 * 256 + c7 + (A + s.sp + s.dp) - (B + u.sp + u.dp))) (by omega) hx.1 (by omega) h rfl (by omega)
end Go.Proofs.YtphbdmafchjjeaaDoorS
