/- A packet's own sum stays right: plain.
   Conditions: bytes are 0 to 255, words 0 to 65535. -/
import Derived.Test.YtphbdmafchjjeaaDoorHSNatT
import Derived.Test.YtphbdmafchjjeaaDoorHSTunP
namespace Go.Proofs.YtphbdmafchjjeaaDoorS
open Go Go.RowKit Go.Proofs Go.Proofs.YtphbdmafchjjeaaDoorX
set_option maxRecDepth 100000
set_option linter.unusedVariables false
set_option linter.unusedSectionVars false
set_option linter.unusedSimpArgs false

/-- The pseudo header, for any protocol. -/
def psh (src dst pr n : Int) : List Int := be 4 src ++ be 4 dst ++ [0, pr] ++ be 2 n
theorem psh_len (src dst pr n : Int) : (psh src dst pr n).length = 12 := by simp [psh, be_len]
/-- A tuple's addresses together. -/
def adS (src dst : Int) : Int := src / 65536 + src % 65536 + (dst / 65536 + dst % 65536)
theorem adS_pos {src dst : Int} (h1 : 0 ≤ src) (h2 : 0 ≤ dst) : 0 ≤ adS src dst := by
  unfold adS
  omega
theorem wsum_ad (t : Tp) : wsum t = adS t.src t.dst + t.sp + t.dp := by
  unfold wsum adS
  omega
theorem w2 (v Z : Int) : 256 * (v / 256) + (v % 256 + Z) = v + Z := by omega
theorem q4 {v : Int} (h : 0 ≤ v ∧ v ≤ 4294967295) (Z : Int) : 256 * (v / 16777216 % 256) + (v / 65536 % 256 + (256 * (v / 256 % 256) + (v % 256 + Z))) = v / 65536 + v % 65536 + Z := by
  have e1 : v / 16777216 % 256 = v / 65536 / 256 := by omega
  have e2 : v / 256 % 256 = v % 65536 / 256 := by omega
  have e3 : v % 256 = v % 65536 % 256 := by omega
  rw [e1, e2, e3, w2]
  generalize v / 65536 = A
  generalize v % 65536 = B
  omega
theorem psh_tot {src dst pr n : Int} (h1 : 0 ≤ src ∧ src ≤ 4294967295) (h2 : 0 ≤ dst ∧ dst ≤ 4294967295) (h4 : 0 ≤ n ∧ n ≤ 65535) : tot true (psh src dst pr n) = adS src dst + (pr + n) := by
  unfold psh
  rw [be4, be4, be2]
  simp only [tot, List.cons_append, List.nil_append]
  rw [q4 h1, q4 h2, show n / 256 % 256 = n / 256 by omega, w2]
  unfold adS
  generalize src / 65536 = A
  generalize src % 65536 = B
  generalize dst / 65536 = C
  generalize dst % 65536 = D
  omega
theorem psd_psh (src dst n : Int) : psd src dst n = psh src dst 17 n := rfl
theorem uBad_mk {src dst : Int} {b : List Int} (h1 : b.length ≤ 65535) (h2 : 8 ≤ b.length) (h3 : 8 ≤ wd b 4) (h4 : wd b 4 ≤ b.length) (h5 : wd b 6 = 0 ∨ S (tot true (psd src dst (wd b 4) ++ b.take (wd b 4).toNat)) = 65535) : uBad src dst b = 0 := by
  unfold uBad
  rw [if_neg (by omega), if_neg (by omega), if_neg (by omega), if_neg (by omega), if_neg]
  rintro ⟨h6, h7⟩
  rcases h5 with h5 | h5
  · exact h6 h5
  · exact h7 h5
theorem sum_keep {T D : Int} (hT : 0 ≤ T) (hm : D % 65535 = 0) {T' : Int} (hp : 0 < T') {U : Int} (h : S U = 65535) (e : U = T) (e' : T' = T + D) : S T' = 65535 := by
  subst e
  have m := S_mod hT
  rw [h] at m
  exact S_full hp (by omega)
/-- A datagram's sum stays right. -/
theorem udp_right {b : List Int} (hb : Bytes b) {s u : Tp} (hs : s.Fine) (hu : u.Fine) (h1 : s.sp = wd b 0) (h2 : s.dp = wd b 2) (h : uBad s.src s.dst b = 0) : uBad u.src u.dst (carV b 17 s u true) = 0 := by
  obtain ⟨l1, l2, l3, l4, l5⟩ := uBad_zero h
  have cl := carV_len b 17 s u true
  obtain ⟨a0, a1, a2, a3, a4, a5, a6, a7, r, rfl, b0, b1, b2, b3, b4, b5, b6, b7, br⟩ := cut8 l2 hb
  have e1 : s.sp = a0 * 256 + a1 := h1
  have e2 : s.dp = a2 * 256 + a3 := h2
  have e4 : wd (a0 :: a1 :: a2 :: a3 :: a4 :: a5 :: a6 :: a7 :: r) 4 = a4 * 256 + a5 := rfl
  have e6 : wd (a0 :: a1 :: a2 :: a3 :: a4 :: a5 :: a6 :: a7 :: r) 6 = a6 * 256 + a7 := rfl
  rw [e4] at l3 l4 l5
  rw [e6] at l5
  by_cases hz : a6 * 256 + a7 = 0
  · rw [udp_no hz] at cl ⊢
    exact uBad_mk (by rw [cl]; exact l1) (by rw [cl]; exact l2) l3 (by rw [cl]; exact l4) (Or.inl hz)
  · have hx := udpX_mod (w := a6 * 256 + a7) (by omega) hs hu
    rw [udp_yes hz] at cl ⊢
    generalize udpX (a6 * 256 + a7) s u = X at hx cl
    refine uBad_mk (by rw [cl]; exact l1) (by rw [cl]; exact l2) l3 (by rw [cl]; exact l4) (Or.inr ?_)
    have l6 := l5.resolve_left hz
    obtain ⟨k, hk⟩ : ∃ k, (a4 * 256 + a5).toNat = k + 8 := ⟨(a4 * 256 + a5).toNat - 8, by omega⟩
    have e5 : wd (u.sp / 256 :: u.sp % 256 :: u.dp / 256 :: u.dp % 256 :: a4 :: a5 :: X / 256 :: X % 256 :: r) 4 = a4 * 256 + a5 := rfl
    rw [e5]
    rw [psd_psh, tot_even _ _ (by rw [psh_len]), psh_tot hs.src hs.dst (by omega), hk] at l6
    rw [psd_psh, tot_even _ _ (by rw [psh_len]), psh_tot hu.src hu.dst (by omega), hk]
    have t1 : tot true ((a0 :: a1 :: a2 :: a3 :: a4 :: a5 :: a6 :: a7 :: r).take (k + 8)) = 256 * a0 + (a1 + (256 * a2 + (a3 + (256 * a4 + (a5 + (256 * a6 + (a7 + tot true (r.take k)))))))) := rfl
    have t2 : tot true ((u.sp / 256 :: u.sp % 256 :: u.dp / 256 :: u.dp % 256 :: a4 :: a5 :: X / 256 :: X % 256 :: r).take (k + 8)) = 256 * (u.sp / 256) + (u.sp % 256 + (256 * (u.dp / 256) + (u.dp % 256 + (256 * a4 + (a5 + (256 * (X / 256) + (X % 256 + tot true (r.take k)))))))) := rfl
    have hR := tot_nonneg (b := true) (br.take k)
    rw [t1] at l6
    rw [t2, w2, w2, w2]
    generalize tot true (r.take k) = R at hR l6
    have f1 := adS_pos hs.src.1 hs.dst.1
    have f3 := adS_pos hu.src.1 hu.dst.1
    have f5 := hu.sp
    have f6 := hu.dp
    rw [wsum_ad, wsum_ad, e1, e2] at hx
    generalize adS s.src s.dst = A at f1 l6 hx
    generalize adS u.src u.dst = B at f3 hx
    clear l1 l2 l4 l5 h cl hk t1 t2 e4 e5 e6 hb br e1 e2 h1 h2
    exact sum_keep (T := A + (17 + (a4 * 256 + a5)) + (256 * a0 + (a1 + (256 * a2 + (a3 + (256 * a4 + (a5 + (256 * a6 + (a7 + R))))))))) (D := X - (a6 * 256 + a7 + (A + (a0 * 256 + a1) + (a2 * 256 + a3)) - (B + u.sp + u.dp)))
      (by omega) hx.1 (by omega) l6 rfl (by omega)
end Go.Proofs.YtphbdmafchjjeaaDoorS
