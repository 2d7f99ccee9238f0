/- What is turned and turned back: plain.
   Conditions: bytes are 0 to 255, words 0 to 65535. -/
import Derived.Test.YtphbdmafchjjeaaDoorHSNatS
namespace Go.Proofs.YtphbdmafchjjeaaDoorS
open Go Go.RowKit Go.Proofs Go.Proofs.YtphbdmafchjjeaaDoorX
set_option maxRecDepth 100000
set_option linter.unusedVariables false
set_option linter.unusedSectionVars false
set_option linter.unusedSimpArgs false

/-! ### sums turned over -/
theorem adj_mod {s o n : Int} (h1 : 0 ≤ s ∧ s ≤ 65535) (h2 : 0 ≤ o ∧ o ≤ 65535) (h3 : 0 ≤ n ∧ n ≤ 65535) : (adjS s o n - (s + o - n)) % 65535 = 0 := by
  have := S_mod (t := (65535 - s) + (65535 - o) + n) (by omega)
  unfold adjS
  omega
theorem over_mod : ∀ (a b : List Int) (f : Int), a.length = b.length → 0 ≤ f ∧ f ≤ 65535 → Wrds a → Wrds b → (overV f a b - (f + a.sum - b.sum)) % 65535 = 0
  | [], [], f, _, _, _, _ => by simp [overV]
  | [], _ :: _, f, h, _, _, _ => by simp at h
  | _ :: _, [], f, h, _, _, _ => by simp at h
  | x :: a, y :: b, f, h, hf, ha, hb => by
    have hx := ha x List.mem_cons_self
    have hy := hb y List.mem_cons_self
    have ha' : Wrds a := fun z hz => ha z (List.mem_cons_of_mem _ hz)
    have hb' : Wrds b := fun z hz => hb z (List.mem_cons_of_mem _ hz)
    rw [List.sum_cons, List.sum_cons]
    show (overV (if x ≠ y then adjS f x y else f) a b - (f + (x + a.sum) - (y + b.sum))) % 65535 = 0
    by_cases e : x ≠ y
    · rw [if_pos e]
      have h1 := over_mod a b (adjS f x y) (by simpa using h) (adjS_range hf hx hy) ha' hb'
      have h2 := adj_mod hf hx hy
      omega
    · rw [if_neg e]
      have h1 := over_mod a b f (by simpa using h) hf ha' hb'
      omega
/-- A tuple's words together. -/
def wsum (t : Tp) : Int := t.src / 65536 + t.src % 65536 + t.dst / 65536 + t.dst % 65536 + t.sp + t.dp
theorem over_ws {w : Int} (hw : 0 ≤ w ∧ w ≤ 65535) {s u : Tp} (hs : s.Fine) (hu : u.Fine) : (overV w (wsV s) (wsV u) - (w + wsum s - wsum u)) % 65535 = 0 ∧ 0 ≤ overV w (wsV s) (wsV u) ∧ overV w (wsV s) (wsV u) ≤ 65535 := by
  refine ⟨?_, overV_range hw (wsV_wrds hs) (wsV_wrds hu)⟩
  have := over_mod (wsV s) (wsV u) w rfl hw (wsV_wrds hs) (wsV_wrds hu)
  simp only [wsV, List.sum_cons, List.sum_nil] at this
  simp only [wsum, wsV]
  omega
theorem over_id {w x y : Int} (hw : 0 ≤ w ∧ w ≤ 65535) (hx : 0 ≤ x ∧ x ≤ 65535) (hy : 0 ≤ y ∧ y ≤ 65535) : (overV w [x] [y] - (w + x - y)) % 65535 = 0 ∧ 0 ≤ overV w [x] [y] ∧ overV w [x] [y] ≤ 65535 := by
  have h1 : Wrds [x] := fun z hz => by rw [List.mem_singleton.1 hz]; exact hx
  have h2 : Wrds [y] := fun z hz => by rw [List.mem_singleton.1 hz]; exact hy
  refine ⟨?_, overV_range hw h1 h2⟩
  have := over_mod [x] [y] w rfl hw h1 h2
  simp only [List.sum_cons, List.sum_nil] at this
  omega

/-! ### bodies -/
theorem cut1 {l : List Int} {n : Nat} (h : n + 1 ≤ l.length) : ∃ a r, l = a :: r ∧ n ≤ r.length := by
  cases l with
  | nil => simp at h
  | cons a r => exact ⟨a, r, rfl, by simpa using h⟩
theorem cut8 {b : List Int} (h : 8 ≤ b.length) (hb : Bytes b) : ∃ a0 a1 a2 a3 a4 a5 a6 a7 r, b = a0 :: a1 :: a2 :: a3 :: a4 :: a5 :: a6 :: a7 :: r ∧ (0 ≤ a0 ∧ a0 ≤ 255) ∧ (0 ≤ a1 ∧ a1 ≤ 255) ∧ (0 ≤ a2 ∧ a2 ≤ 255) ∧ (0 ≤ a3 ∧ a3 ≤ 255) ∧ (0 ≤ a4 ∧ a4 ≤ 255) ∧ (0 ≤ a5 ∧ a5 ≤ 255) ∧ (0 ≤ a6 ∧ a6 ≤ 255) ∧ (0 ≤ a7 ∧ a7 ≤ 255) ∧ Bytes r := by
  obtain ⟨a0, r0, rfl, h0⟩ := cut1 h
  obtain ⟨a1, r1, rfl, h1⟩ := cut1 h0
  obtain ⟨a2, r2, rfl, h2⟩ := cut1 h1
  obtain ⟨a3, r3, rfl, h3⟩ := cut1 h2
  obtain ⟨a4, r4, rfl, h4⟩ := cut1 h3
  obtain ⟨a5, r5, rfl, h5⟩ := cut1 h4
  obtain ⟨a6, r6, rfl, h6⟩ := cut1 h5
  obtain ⟨a7, r7, rfl, h7⟩ := cut1 h6
  exact ⟨a0, a1, a2, a3, a4, a5, a6, a7, r7, rfl, hb.head, hb.tail.head, hb.tail.tail.head, hb.tail.tail.tail.head, hb.tail.tail.tail.tail.head, hb.tail.tail.tail.tail.tail.head, hb.tail.tail.tail.tail.tail.tail.head, hb.tail.tail.tail.tail.tail.tail.tail.head, hb.tail.tail.tail.tail.tail.tail.tail.tail⟩
def udpX (w : Int) (s u : Tp) : Int := if overV w (wsV s) (wsV u) = 0 then 65535 else overV w (wsV s) (wsV u)
theorem udpX_mod {w : Int} (hw : 0 ≤ w ∧ w ≤ 65535) {s u : Tp} (hs : s.Fine) (hu : u.Fine) : (udpX w s u - (w + wsum s - wsum u)) % 65535 = 0 ∧ 1 ≤ udpX w s u ∧ udpX w s u ≤ 65535 := by
  obtain ⟨h1, h2, h3⟩ := over_ws hw hs hu
  unfold udpX
  split <;> refine ⟨?_, ?_, ?_⟩ <;> omega
section
variable {a0 a1 a2 a3 a4 a5 a6 a7 : Int} {r : List Int} {s u : Tp}
theorem udp_yes (h : a6 * 256 + a7 ≠ 0) : carV (a0 :: a1 :: a2 :: a3 :: a4 :: a5 :: a6 :: a7 :: r) 17 s u true = u.sp / 256 :: u.sp % 256 :: u.dp / 256 :: u.dp % 256 :: a4 :: a5 :: udpX (a6 * 256 + a7) s u / 256 :: udpX (a6 * 256 + a7) s u % 256 :: r := by
  have e : wd (setw (setw (a0 :: a1 :: a2 :: a3 :: a4 :: a5 :: a6 :: a7 :: r) 0 u.sp) 2 u.dp) 6 = a6 * 256 + a7 := rfl
  unfold carV udpS
  rw [if_neg (by decide), if_pos rfl, e, if_pos h]
  rfl
theorem udp_no (h : a6 * 256 + a7 = 0) : carV (a0 :: a1 :: a2 :: a3 :: a4 :: a5 :: a6 :: a7 :: r) 17 s u true = u.sp / 256 :: u.sp % 256 :: u.dp / 256 :: u.dp % 256 :: a4 :: a5 :: a6 :: a7 :: r := by
  have e : wd (setw (setw (a0 :: a1 :: a2 :: a3 :: a4 :: a5 :: a6 :: a7 :: r) 0 u.sp) 2 u.dp) 6 = a6 * 256 + a7 := rfl
  unfold carV
  rw [if_neg (by decide), if_pos rfl, e, if_neg (fun k => k h)]
  rfl
theorem echo_car : carV (a0 :: a1 :: a2 :: a3 :: a4 :: a5 :: a6 :: a7 :: r) 1 s u true = a0 :: a1 :: echoS (a0 :: a1 :: a2 :: a3 :: u.sp / 256 :: u.sp % 256 :: a6 :: a7 :: r) s u true / 256 :: echoS (a0 :: a1 :: a2 :: a3 :: u.sp / 256 :: u.sp % 256 :: a6 :: a7 :: r) s u true % 256 :: u.sp / 256 :: u.sp % 256 :: a6 :: a7 :: r := by
  unfold carV
  rw [if_pos rfl]
  rfl
end
theorem echoS_mod {a0 a1 a2 a3 : Int} {r : List Int} {s u : Tp} (hw : 0 ≤ a2 * 256 + a3 ∧ a2 * 256 + a3 ≤ 65535) (hs : s.Fine) (hu : u.Fine) :
    (echoS (a0 :: a1 :: a2 :: a3 :: r) s u true - (a2 * 256 + a3 + s.sp - u.sp)) % 65535 = 0 ∧ 0 ≤ echoS (a0 :: a1 :: a2 :: a3 :: r) s u true ∧ echoS (a0 :: a1 :: a2 :: a3 :: r) s u true ≤ 65535 := by
  have e : wd (a0 :: a1 :: a2 :: a3 :: r) 2 = a2 * 256 + a3 := rfl
  obtain ⟨h1, h2, h3⟩ := over_id hw hs.sp hu.sp
  unfold echoS
  rw [e]
  split
  · rename_i h
    have := h.2.2.1
    refine ⟨?_, ?_, ?_⟩ <;> omega
  · exact ⟨h1, h2, h3⟩
/-- A datagram that is turned back is what it was. -/
theorem udp_back {b : List Int} (hb : Bytes b) (hl : 8 ≤ b.length) {s u : Tp} (hs : s.Fine) (hu : u.Fine) (h1 : s.sp = wd b 0) (h2 : s.dp = wd b 2) : carV (carV b 17 s u true) 17 u s true = b := by
  obtain ⟨a0, a1, a2, a3, a4, a5, a6, a7, r, rfl, b0, b1, b2, b3, b4, b5, b6, b7, br⟩ := cut8 hl hb
  have e1 : s.sp = a0 * 256 + a1 := h1
  have e2 : s.dp = a2 * 256 + a3 := h2
  have q0 : s.sp / 256 = a0 := by omega
  have q1 : s.sp % 256 = a1 := by omega
  have q2 : s.dp / 256 = a2 := by omega
  have q3 : s.dp % 256 = a3 := by omega
  by_cases h : a6 * 256 + a7 = 0
  · rw [udp_no h, udp_no h, q0, q1, q2, q3]
  · have hx := udpX_mod (w := a6 * 256 + a7) (by omega) hs hu
    rw [udp_yes h, udp_yes (by omega), show udpX (a6 * 256 + a7) s u / 256 * 256 + udpX (a6 * 256 + a7) s u % 256 = udpX (a6 * 256 + a7) s u by omega]
    have hy := udpX_mod (w := udpX (a6 * 256 + a7) s u) (by omega) hu hs
    have e3 : udpX (udpX (a6 * 256 + a7) s u) u s = a6 * 256 + a7 := by omega
    rw [e3, q0, q1, q2, q3, show (a6 * 256 + a7) / 256 = a6 by omega, show (a6 * 256 + a7) % 256 = a7 by omega]
theorem NearB.refl (pr : Int) (l : List Int) : NearB pr l l := ⟨rfl, fun i _ => Or.inl rfl⟩
theorem getD_pre {pre r : List Int} {i : Nat} (h : i < pre.length) : (pre ++ r).getD i 0 = pre.getD i 0 := by simp [List.getD_eq_getElem?_getD, List.getElem?_append_left h]
theorem getD_suf {pre r : List Int} (k : Nat) : (pre ++ r).getD (pre.length + k) 0 = r.getD k 0 := by simp [List.getD_eq_getElem?_getD, List.getElem?_append_right]
theorem near_ends {pr : Int} {pre r : List Int} (ha : (pr = 1 ∧ pre.length = 2) ∨ (pr = 6 ∧ pre.length = 16)) {x0 x1 y0 y1 : Int} (hx : (0 ≤ x0 ∧ x0 ≤ 255) ∧ (0 ≤ x1 ∧ x1 ≤ 255)) (hy : (0 ≤ y0 ∧ y0 ≤ 255) ∧ (0 ≤ y1 ∧ y1 ≤ 255)) (hm : ((y0 * 256 + y1) - (x0 * 256 + x1)) % 65535 = 0) :
    NearB pr (pre ++ x0 :: x1 :: r) (pre ++ y0 :: y1 :: r) := by
  by_cases h : y0 = x0 ∧ y1 = x1
  · rw [h.1, h.2]
    exact NearB.refl _ _
  refine ⟨by simp, fun i hi => ?_⟩
  have hD : (y0 * 256 + y1) - (x0 * 256 + x1) = 0 ∨ (y0 * 256 + y1) - (x0 * 256 + x1) = 65535 ∨ (y0 * 256 + y1) - (x0 * 256 + x1) = -65535 := by omega
  have hz : (x0 = 0 ∧ x1 = 0 ∧ y0 = 255 ∧ y1 = 255) ∨ (x0 = 255 ∧ x1 = 255 ∧ y0 = 0 ∧ y1 = 0) := by
    rcases hD with hD | hD | hD
    · omega
    · omega
    · omega
  have ends : ∀ {z0 z1 : Int}, z0 = z1 → (z0 = 0 ∨ z0 = 255) → EndsV (pre ++ z0 :: z1 :: r) pre.length := fun {z0 z1} h1 h2 => by
    have g0 := getD_suf (pre := pre) (r := z0 :: z1 :: r) 0
    have g1 := getD_suf (pre := pre) (r := z0 :: z1 :: r) 1
    rw [Nat.add_zero] at g0
    refine ⟨by simp, ?_, ?_⟩
    · rw [g0, g1]
      exact h1
    · rw [g0]
      exact h2
  by_cases h2 : i = pre.length ∨ i = pre.length + 1
  · exact Or.inr ⟨pre.length, ha, h2, ends (by omega) (by omega), ends (by omega) (by omega)⟩
  · left
    by_cases h3 : i < pre.length
    · rw [getD_pre h3, getD_pre h3]
    · obtain ⟨k, rfl⟩ : ∃ k, i = pre.length + (k + 2) := ⟨i - pre.length - 2, by omega⟩
      rw [getD_suf, getD_suf]
      rfl
/-- An echo that is turned back is near what it was. -/
theorem echo_back {b : List Int} (hb : Bytes b) (hl : 8 ≤ b.length) {s u : Tp} (hs : s.Fine) (hu : u.Fine) (h1 : s.sp = wd b 4) : NearB 1 b (carV (carV b 1 s u true) 1 u s true) := by
  obtain ⟨a0, a1, a2, a3, a4, a5, a6, a7, r, rfl, b0, b1, b2, b3, b4, b5, b6, b7, br⟩ := cut8 hl hb
  have e1 : s.sp = a4 * 256 + a5 := h1
  have hx := echoS_mod (a0 := a0) (a1 := a1) (a2 := a2) (a3 := a3) (r := u.sp / 256 :: u.sp % 256 :: a6 :: a7 :: r) (by omega) hs hu
  rw [echo_car]
  generalize echoS (a0 :: a1 :: a2 :: a3 :: u.sp / 256 :: u.sp % 256 :: a6 :: a7 :: r) s u true = X at hx
  rw [echo_car]
  have hy := echoS_mod (a0 := a0) (a1 := a1) (a2 := X / 256) (a3 := X % 256) (r := s.sp / 256 :: s.sp % 256 :: a6 :: a7 :: r) (by omega) hu hs
  generalize echoS (a0 :: a1 :: X / 256 :: X % 256 :: s.sp / 256 :: s.sp % 256 :: a6 :: a7 :: r) u s true = Y at hy
  rw [show s.sp / 256 = a4 by omega, show s.sp % 256 = a5 by omega]
  exact near_ends (pre := [a0, a1]) (Or.inl ⟨rfl, rfl⟩) ⟨b2, b3⟩ ⟨by omega, by omega⟩ (by omega)
end Go.Proofs.YtphbdmafchjjeaaDoorS
