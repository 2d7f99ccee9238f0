/- What the small functions, BuildUDP and ParseUDP of package weftref7 answer.
   Conditions: bytes are 0 to 255; lists are no longer than memory lets. -/
import Derived.Test.YtleelkkddjldnaaSTun
import Derived.Test.YtleelkkddjldnaaSRef3
import Derived.Test.YtleelkkddjldnaaSFU
namespace Go.Proofs.YtleelkkddjldnaaS
open Go Go.RowKit Go.Proofs Go.Proofs.YtleelkkddjldnaaX
set_option maxRecDepth 100000
set_option linter.unusedVariables false
set_option linter.unusedSimpArgs false

theorem number_l (w : World) {A : Option Addr} {n c : Nat} {b : List Int} (h : By w A n b) (hb : Bytes b) (hn : n ≤ 1000000000000) {i k : Nat} (hi : i + k ≤ n) (hk : k ≤ 4) : ∀ (q j : Nat), k - j < q → j ≤ k →
    weftref7_number.L1 q A n c (i : Int) (k : Int) (nbr b i j) (j : Int) w (Ret (.int .i64 (nbr b i k)) w) := by
  intro q
  induction q with
  | zero => intro j h; omega
  | succ q ih =>
    intro j hq hj
    have hr := nbr_range hb i j
    have hx := hb.getD (i + j)
    unfold weftref7_number.L1; intros
    rw [weftref7_number.l1_eq]
    refine ifD (fun h1 => ?_) (fun h1 => ?_)
    · have hs : 0 ≤ nbr b i j ∧ nbr b i j ≤ 16777216 := by
        rcases (by omega : j = 0 ∨ j = 1 ∨ j = 2 ∨ j = 3) with rfl | rfl | rfl | rfl
        all_goals exact ⟨hr.1, by have := hr.2; simp at this; omega⟩
      refine let_as _ (w64 (by omega) (by omega)) ?_
      refine let_as ((i + j : Nat) : Int) (by rw [w64 (by omega) (by omega)]; omega) ?_
      refine h.rd (by omega) (by omega) fun _ => ?_
      rw [Int.toNat_natCast]
      refine let_as _ (w64 (by omega) (by omega)) ?_
      refine let_as (nbr b i (j + 1)) (by rw [w64 (by omega) (by omega)]; rfl) ?_
      refine let_as ((j + 1 : Nat) : Int) (by rw [w64 (by omega) (by omega)]; omega) ?_
      exact ih (j + 1) (by omega) (by omega) ..
    · have : j = k := by omega
      subst this
      exact ⟨rfl, Bel.refl w⟩
theorem number_g {w : World} {A : Option Addr} {n c : Nat} {b : List Int} (h : By w A n b) (hb : Bytes b) (hn : n ≤ 1000000000000) {i k : Nat} (hi : i + k ≤ n) (hk : k ≤ 4) : Calls Try.prog 55 #[.slice A n c, .int .i64 (i : Int), .int .i64 (k : Int)] w (Ret (.int .i64 (nbr b i k)) w) := by
  refine weftref7_number.run ?_
  unfold weftref7_number.s
  refine ⟨k + 1, ?_⟩
  have kk := number_l w (c := c) h hb hn hi hk (k + 1) 0 (by omega) (by omega)
  exact kk ..
/-- the number of two bytes -/
theorem number2_c {w : World} {A : Option Addr} {n c : Nat} {b : List Int} (h : By w A n b) (hb : Bytes b) (hn : n ≤ 1000000000000) {i : Nat} {j : Int} (hj : j = i) (hi : i + 2 ≤ n) : Calls Try.prog 55 #[.slice A n c, .int .i64 j, .int .i64 2] w (Ret (.int .i64 (wd b i)) w) := by
  subst hj
  have k := number_g (c := c) h hb hn hi (k := 2) (by decide)
  rwa [nbr2] at k
/-- A number of k bytes behind a list of one's own. -/
theorem laid_l2 {w wa : World} {M : List (Nat × TypeId × List Value)} {A : Option Addr} {n c : Nat} {l : List Int} (h : Buf w wa M A n c l) (hn : n ≤ 10000000000000) {v : Int} (hv : 0 ≤ v ∧ v ≤ 4294967295) {k : Nat} (hk : k ≤ 4) {R : Ending → World → Prop} (m0 : Nat)
    (hR : ∀ A' c' wb, Buf w wb M A' (n + 1) c' (l ++ [v / 256 ^ k % 256]) → weftref7_laid.L1 m0 A' (n + 1) c' v ((k : Int) - 1) wb R) : ∀ (q j : Nat), k - j < q → j ≤ k →
    weftref7_laid.L2 m0 q A n c v (k : Int) (v / 256 ^ j) (j : Int) wa R := by
  intro q
  induction q with
  | zero => intro j h; omega
  | succ q ih =>
    intro j hq hj
    have hr := pow_range hv j
    unfold weftref7_laid.L2; intros
    rw [weftref7_laid.l2_eq]
    refine ifD (fun h1 => ?_) (fun h1 => ?_)
    · refine let_as (v / 256 ^ (j + 1)) (by rw [td (by omega), w64 (by omega) (by omega), Int.pow_succ, Int.ediv_ediv_of_nonneg (Int.le_of_lt (Int.pow_pos (by decide)))]) ?_
      refine let_as ((j + 1 : Nat) : Int) (by rw [w64 (by omega) (by omega)]; omega) ?_
      exact ih (j + 1) (by omega) (by omega) ..
    · have : j = k := by omega
      subst this
      refine let_as (v / 256 ^ j % 256) (tm (by omega)) ?_
      refine let_as (v / 256 ^ j % 256) (w8 (by omega) (by omega)) ?_
      refine buf_lit (m := 1) h [v / 256 ^ j % 256] rfl (by omega) fun A' c' wb hb' => ?_
      refine let_as ((j : Int) - 1) (w64 (by omega) (by omega)) ?_
      exact hR A' c' wb hb' ..
theorem laid_l1 {w : World} {M : List (Nat × TypeId × List Value)} {v : Int} (hv : 0 ≤ v ∧ v ≤ 4294967295) {R : Ending → World → Prop} {N : Nat} {F : List Int} : ∀ (k n : Nat) (wa : World) (A : Option Addr) (c : Nat) (l : List Int), k ≤ 4 → N ≤ 2000000000000 → N = n + k → F = l ++ be k v → Buf w wa M A n c l →
    (∀ A' c' wb, Buf w wb M A' N c' F → R (.returned (.slice A' N c')) wb) → weftref7_laid.L1 (k + 1) A n c v ((k : Int) - 1) wa R := by
  intro k
  induction k with
  | zero =>
    intro n wa A c l hk hn hN hF h hR
    unfold weftref7_laid.L1; intros
    rw [weftref7_laid.l1_eq]
    refine ifD (fun h1 => absurd h1 (by decide)) (fun _ => ?_)
    have e1 : N = n := hN
    have e2 : F = l := by rw [hF]; exact List.append_nil l
    subst e1
    subst e2
    exact hR A c wa h
  | succ k ih =>
    intro n wa A c l hk hn hN hF h hR
    unfold weftref7_laid.L1; intros
    rw [weftref7_laid.l1_eq]
    have ek : ((k + 1 : Nat) : Int) - 1 = (k : Int) := by omega
    rw [ek]
    refine ifD (fun _ => ?_) (fun h => absurd (Int.natCast_nonneg k) h)
    refine ⟨k + 1, ?_⟩
    have kk := laid_l2 h (by omega) hv (k := k) (by omega) (R := R) (k + 1) (fun A' c' wb hb => ih (n + 1) wb A' c' (l ++ [v / 256 ^ k % 256]) (by omega) (by omega) (by omega) (by rw [hF, be, List.append_assoc]; rfl) hb hR) (k + 1) 0 (by omega) (by omega)
    rw [show v / 256 ^ 0 = v by simp] at kk
    exact kk ..
theorem laid_c {w wa : World} {M : List (Nat × TypeId × List Value)} {A : Option Addr} {n c : Nat} {l : List Int} (h : Buf w wa M A n c l) (hn : n ≤ 1000000000000) {v : Int} (hv : 0 ≤ v ∧ v ≤ 4294967295) (k : Nat) (hk : k ≤ 4) {z : Int} (ez : z = (k : Int)) {R : Ending → World → Prop}
    (hR : ∀ A' c' wb, Buf w wb M A' (n + k) c' (l ++ be k v) → R (.returned (.slice A' (n + k) c')) wb) : Calls Try.prog 47 #[.slice A n c, .int .i64 v, .int .i64 z] wa R := by
  refine weftref7_laid.run ?_
  unfold weftref7_laid.s
  subst ez
  refine let_as ((k : Int) - 1) (w64 (by omega) (by omega)) ?_
  refine ⟨k + 1, ?_⟩
  have kk := laid_l1 (R := R) hv k n wa A c l hk (by omega) rfl rfl h hR
  exact kk ..
/-- A part of a list behind a list of one's own. -/
theorem joined_l {w : World} {M : List (Nat × TypeId × List Value)} {B : Option Addr} {m d : Nat} {b : List Int} (hb : By w B m b) {lo hi : Nat} (h1 : lo ≤ hi) (h2 : hi ≤ m) (hm : m ≤ 1000000000000) {F : List Int} {R : Ending → World → Prop} {N : Nat} (hN : N = F.length + (hi - lo))
    (hR : ∀ A' c' wb, Buf w wb M A' N c' (F ++ (b.take hi).drop lo) → R (.returned (.slice A' N c')) wb) : ∀ (q i n : Nat) (wa : World) (A : Option Addr) (c : Nat), hi - i < q → lo ≤ i → i ≤ hi → F.length ≤ 1000000000000 → Buf w wa M A n c (F ++ (b.take i).drop lo) →
    weftref7_joined.L1 q A n c B m d (hi : Int) (i : Int) wa R := by
  intro q
  induction q with
  | zero => intro i n wa A c h; omega
  | succ q ih =>
    intro i n wa A c hq hlo hhi hF h
    have hl := hb.len
    have hn := h.len
    rw [List.length_append, List.length_drop, List.length_take] at hn
    unfold weftref7_joined.L1; intros
    rw [weftref7_joined.l1_eq]
    refine ifD (fun h3 => ?_) (fun h3 => ?_)
    · refine (hb.bel h.own.bel).rd (by omega) (by omega) fun _ => ?_
      rw [Int.toNat_natCast]
      refine buf_lit (m := 1) h [b.getD i 0] rfl (by omega) fun A' c' wb h' => ?_
      refine let_as ((i + 1 : Nat) : Int) (by rw [w64 (by omega) (by omega)]; omega) ?_
      have e : (b.take i).drop lo ++ [b.getD i 0] = (b.take (i + 1)).drop lo := by
        rw [List.take_succ_eq_append_getElem (by omega), List.drop_append_of_le_length (by rw [List.length_take]; omega)]
        simp [List.getD_eq_getElem?_getD, show i < b.length by omega]
      rw [List.append_assoc, e] at h'
      exact ih (i + 1) (n + 1) wb A' c' (by omega) (by omega) (by omega) hF h' ..
    · have : i = hi := by omega
      subst this
      have e : n = N := by omega
      subst e
      exact hR A c wa h
theorem joined_c {w wa : World} {M : List (Nat × TypeId × List Value)} {A : Option Addr} {n c : Nat} {l : List Int} (h : Buf w wa M A n c l) (hn : n ≤ 1000000000000) {B : Option Addr} {m d : Nat} {b : List Int} (hb : By w B m b) (lo hi : Nat) (h1 : lo ≤ hi) (h2 : hi ≤ m) (hm : m ≤ 1000000000000)
    {x y : Int} (ex : x = (lo : Int)) (ey : y = (hi : Int)) {R : Ending → World → Prop} (hR : ∀ A' c' wb, Buf w wb M A' (n + (hi - lo)) c' (l ++ (b.take hi).drop lo) → R (.returned (.slice A' (n + (hi - lo)) c')) wb) :
    Calls Try.prog 48 #[.slice A n c, .slice B m d, .int .i64 x, .int .i64 y] wa R := by
  refine weftref7_joined.run ?_
  unfold weftref7_joined.s
  subst ex
  subst ey
  have hl := h.len
  refine ⟨hi - lo + 1, ?_⟩
  have e : l ++ (b.take lo).drop lo = l := by rw [List.drop_eq_nil_of_le (by rw [List.length_take]; omega), List.append_nil]
  have kk := joined_l (d := d) (M := M) hb h1 h2 hm (F := l) (R := R) (N := n + (hi - lo)) (by rw [hl]) hR (hi - lo + 1) lo n wa A c (by omega) (by omega) h1 (by omega) (by rw [e]; exact h)
  exact kk ..
theorem typed_c (w : World) (t : Int) : Calls Try.prog 64 #[.int .i64 t] w (Ret (.int .i64 (typeF t)) w) := by
  refine weftref7_typed.run ?_
  unfold weftref7_typed.s typeF
  refine ifD (fun h1 => ?_) (fun h1 => ?_)
  · rw [if_pos h1]; exact ⟨rfl, Bel.refl w⟩
  rw [if_neg h1]
  refine ifE (fun h2 => ?_) (fun h2 => ?_)
  · rw [if_pos h2]; exact ⟨rfl, Bel.refl w⟩
  rw [if_neg h2]
  refine ifE (fun h3 => ?_) (fun h3 => ?_)
  · rw [if_pos h3]; exact ⟨rfl, Bel.refl w⟩
  rw [if_neg h3]
  exact ⟨rfl, Bel.refl w⟩

/-! ### datagrams -/
theorem covered_c {w : World} {src dst : Int} (hs : 0 ≤ src ∧ src ≤ 4294967295) (hd : 0 ≤ dst ∧ dst ≤ 4294967295) {B : Option Addr} {m d : Nat} {b : List Int} (hb : By w B m b) {n : Nat} (hn : n ≤ m) (hm : m ≤ 1000000) {z : Int} (ez : z = (n : Int)) :
    Calls Try.prog 61 #[.int .u32 src, .int .u32 dst, .slice B m d, .int .i64 z] w (RetBuf w (psd src dst z ++ b.take n)) := by
  refine weftref7_covered.run ?_
  unfold weftref7_covered.s
  have hl := hb.len
  refine let_as src (w64 (by omega) (by omega)) ?_
  refine laid_c (Buf.nil (Own.refl w)) (by omega) hs 4 (by decide) rfl fun A1 c1 w1 h => ?_
  refine ⟨_, _, _, rfl, ?_⟩
  refine let_as dst (w64 (by omega) (by omega)) ?_
  refine laid_c h (by omega) hd 4 (by decide) rfl fun A2 c2 w2 h => ?_
  refine ⟨_, _, _, rfl, ?_⟩
  refine buf_lit (m := 2) h [0, 17] rfl (by omega) fun A3 c3 w3 h => ?_
  refine laid_c h (by omega) (v := z) (by omega) 2 (by decide) rfl fun A4 c4 w4 h => ?_
  refine ⟨_, _, _, rfl, ?_⟩
  refine joined_c h (by omega) hb 0 n (Nat.zero_le _) hn (by omega) rfl ez fun A5 c5 w5 h => ?_
  refine ⟨_, _, _, rfl, A5, c5, ?_, ?_⟩
  · rw [List.length_append, psd_len, List.length_take, Nat.min_eq_left (by omega)]
    congr 2
  · rw [List.nil_append, List.drop_zero] at h
    have e := h.len
    rw [show (psd src dst z ++ b.take n).length = 0 + 4 + 4 + 2 + 2 + (n - 0) by rw [← e]; rfl]
    exact h
def RetDg7 (w : World) (src dst : Int) (b : List Int) (e : Ending) (w' : World) : Prop := Bel w w' ∧ if uBad src dst b = 0 then ∃ A c, e = .returned (.tuple #[.agg (dv (wd b 0) (wd b 2) A ((wd b 4).toNat - 8) c).toArray, .int .i64 0]) ∧ By w' A ((wd b 4).toNat - 8) (uBody b) ∧ (wd b 4).toNat - 8 ≤ c
  else e = .returned (.tuple #[.agg (dv 0 0 none 0 0).toArray, .int .i64 (uBad src dst b)])
theorem RetDg7.no {w w' : World} {src dst : Int} {b : List Int} {k : Int} (h : uBad src dst b = k) (hk : k ≠ 0) (hb : Bel w w') : RetDg7 w src dst b (.returned (.tuple #[.agg (dv 0 0 none 0 0).toArray, .int .i64 k])) w' := by
  refine ⟨hb, ?_⟩
  rw [if_neg (by rw [h]; exact hk), h]
theorem ParseUDP7_j2 {w0 w : World} {src dst : Int} {A : Option Addr} {n c : Nat} {b : List Int} (h : By w0 A n b) (hb : Bytes b) (h0 : uBad src dst b = 0) {m : Int} (hm : m = wd b 4) {g1 : Nat} (H : Own w0 w [(g1, 30, dv 0 0 none 0 0)]) :
    weftref7_ParseUDP.J2 A n c g1 m w (RetDg7 w0 src dst b) := by
  obtain ⟨q1, q2, q3, q4, q5⟩ := uBad_zero h0
  have hl := h.len
  have hw0 := wd_range hb 0
  have hw2 := wd_range hb 2
  subst hm
  unfold weftref7_ParseUDP.J2; intros
  rw [weftref7_ParseUDP.j2_eq]
  refine call_of (number2_c (h.bel H.bel) hb (by omega) (i := 0) rfl (by omega)) ?_
  rintro e w3 ⟨rfl, k3⟩
  replace H := H.call k3
  refine ⟨_, rfl, ?_⟩
  refine call_of (number2_c (h.bel H.bel) hb (by omega) (i := 2) rfl (by omega)) ?_
  rintro e w4 ⟨rfl, k4⟩
  replace H := H.call k4
  refine ⟨_, rfl, ?_⟩
  refine let_as _ (w16 (by omega) (by omega)) ?_
  refine let_as _ (w16 (by omega) (by omega)) ?_
  refine joined_c (Buf.nil (Own.refl w4)) (by omega) (h.bel H.bel) 8 (wd b 4).toNat (by omega) (by omega) (by omega) rfl (by omega) fun A5 c5 w5 hbuf => ?_
  have y := hbuf.by
  have yc := hbuf.le
  have o := H.old 0 rfl hbuf.fre
  replace H := H.call hbuf.own.bel
  refine ⟨_, _, _, rfl, ?_⟩
  refine own_putB 0 H rfl rfl (by decide) fun w6 H6 u6 => ?_
  refine ld_dg (H6.bk 0 rfl) ?_
  refine ⟨H6.bel, ?_⟩
  rw [if_pos h0]
  rw [List.nil_append, Nat.zero_add] at y
  exact ⟨A5, c5, by rw [Nat.zero_add]; rfl, y.but u6 o, by omega⟩
theorem ParseUDP7_c {w : World} {src dst : Int} (hs : 0 ≤ src ∧ src ≤ 4294967295) (hd : 0 ≤ dst ∧ dst ≤ 4294967295) {A : Option Addr} {n c : Nat} {b : List Int} (h : By w A n b) (hb : Bytes b) :
    Calls Try.prog 37 #[.int .u32 src, .int .u32 dst, .slice A n c] w (RetDg7 w src dst b) := by
  refine weftref7_ParseUDP.run ?_
  unfold weftref7_ParseUDP.s
  have hl := h.len
  have hw4 := wd_range hb 4
  have hw6 := wd_range hb 6
  refine own_new (l := dv 0 0 none 0 0) (Own.refl w) fun g1 w2 H => ?_
  refine ifD (fun h1 => ?_) (fun h1 => ?_)
  · exact put_dg 0 H rfl rfl fun w3 H3 _ => RetDg7.no (by unfold uBad; rw [if_pos (by omega)]) (by decide) H3.bel
  refine ifD (fun h2 => ?_) (fun h2 => ?_)
  · exact put_dg 0 H rfl rfl fun w3 H3 _ => RetDg7.no (by unfold uBad; rw [if_neg (by omega), if_pos (by omega)]) (by decide) H3.bel
  refine call_of (number2_c (h.bel H.bel) hb (by omega) (i := 4) rfl (by omega)) ?_
  rintro e w3 ⟨rfl, k3⟩
  replace H := H.call k3
  refine ⟨_, rfl, ?_⟩
  refine ifD (fun h3 => ?_) (fun h3 => ?_)
  · exact put_dg 0 H rfl rfl fun w3 H3 _ => RetDg7.no (by unfold uBad; rw [if_neg (by omega), if_neg (by omega), if_pos h3]) (by decide) H3.bel
  refine ifD (fun h4 => ?_) (fun h4 => ?_)
  · exact put_dg 0 H rfl rfl fun w3 H3 _ => RetDg7.no (by unfold uBad; rw [if_neg (by omega), if_neg (by omega), if_neg h3, if_pos (by omega)]) (by decide) H3.bel
  refine ⟨?_⟩
  rw [weftref7_ParseUDP.j1_eq]
  have e4 : ∀ z : Int, uBad src dst b = z ↔ (if wd b 6 ≠ 0 ∧ S (tot true (psd src dst (wd b 4) ++ b.take (wd b 4).toNat)) ≠ 65535 then (73 : Int) else 0) = z := fun z => by
    unfold uBad
    rw [if_neg (by omega), if_neg (by omega), if_neg h3, if_neg (by omega)]
  refine call_of (number2_c (h.bel H.bel) hb (by omega) (i := 6) rfl (by omega)) ?_
  rintro e w4 ⟨rfl, k4⟩
  replace H := H.call k4
  refine ⟨_, rfl, ?_⟩
  refine ifN (fun h5 => ?_) (fun h5 => ?_)
  · refine call_of (covered_c hs hd (h.bel H.bel) (n := (wd b 4).toNat) (by omega) (by omega) (by omega)) ?_
    rintro e w5 ⟨A2, c2, rfl, b2⟩
    have y2 := b2.by
    replace H := H.call b2.own.bel
    refine ⟨_, _, _, rfl, ?_⟩
    refine own_newB H fun g3 w6 H k6 => ?_
    refine call_of (sum31_c (H.bk 0 rfl) (y2.bel k6) ((psd_bytes _ _ _).append (hb.take _)) (by rw [List.length_append, psd_len, List.length_take]; omega) 1) ?_
    rintro e w7 ⟨rfl, k7⟩
    replace H := (H.call k7).tail
    refine ⟨_, rfl, ?_⟩
    refine ifN (fun h6 => ?_) (fun h6 => ?_)
    · exact put_dg 0 H rfl rfl fun w3 H3 _ => RetDg7.no ((e4 73).2 (by rw [if_pos ⟨h5, by omega⟩])) (by decide) H3.bel
    · have k := ParseUDP7_j2 (c := c) (src := src) (dst := dst) h hb ((e4 0).2 (by rw [if_neg (fun hx => hx.2 (by omega))])) rfl H
      exact ⟨by with_reducible apply k⟩
  · have k := ParseUDP7_j2 (c := c) (src := src) (dst := dst) h hb ((e4 0).2 (by rw [if_neg (fun hx => hx.1 h5)])) rfl H
    exact ⟨by with_reducible apply k⟩
def RetBU7 (w : World) (src dst sp dp : Int) (body : List Int) (on : Bool) (e : Ending) (w' : World) : Prop := (body.length > 65527 → e = .returned (.tuple #[.slice none 0 0, .int .i64 2]) ∧ Bel w w') ∧
  (¬ body.length > 65527 → ∃ A c, e = .returned (.tuple #[.slice A (uBytes src dst sp dp body on).length c, .int .i64 0]) ∧ Buf w w' [] A (uBytes src dst sp dp body on).length c (uBytes src dst sp dp body on))
theorem BuildUDP7_c {w : World} {src dst sp dp : Int} (hs : 0 ≤ src ∧ src ≤ 4294967295) (hd : 0 ≤ dst ∧ dst ≤ 4294967295) (hsp : 0 ≤ sp ∧ sp ≤ 65535) (hdp : 0 ≤ dp ∧ dp ≤ 65535) {A : Option Addr} {n c : Nat} {body : List Int} (h : By w A n body) (hb : Bytes body) (on : Bool) :
    Calls Try.prog 36 #[.int .u32 src, .int .u32 dst, .agg (dv sp dp A n c).toArray, .bool on] w (RetBU7 w src dst sp dp body on) := by
  refine weftref7_BuildUDP.run ?_
  unfold weftref7_BuildUDP.s
  have hl := h.len
  refine own_new (l := dv sp dp A n c) (Own.refl w) fun g1 w2 H => ?_
  refine ⟨A, n, c, H.cell 0 2 rfl rfl, ?_⟩
  refine ifD (fun h1 => ?_) (fun h1 => ?_)
  · exact ⟨fun _ => ⟨rfl, H.bel⟩, fun hx => absurd (by omega) hx⟩
  have hle : ¬ body.length > 65527 := by omega
  refine ⟨A, n, c, H.cell 0 2 rfl rfl, ?_⟩
  refine let_as ((8 + n : Nat) : Int) (by rw [w64 (by omega) (by omega)]; omega) ?_
  refine ⟨_, H.cell 0 0 rfl rfl, ?_⟩
  refine let_as sp (w64 (by omega) (by omega)) ?_
  refine laid_c (Buf.nil H) (by omega) (v := sp) (by omega) 2 (by decide) rfl fun A1 c1 w3 q => ?_
  refine ⟨_, _, _, rfl, _, q.own.cell 0 1 rfl rfl, ?_⟩
  refine let_as dp (w64 (by omega) (by omega)) ?_
  refine laid_c q (by omega) (v := dp) (by omega) 2 (by decide) rfl fun A2 c2 w4 q => ?_
  refine ⟨_, _, _, rfl, ?_⟩
  refine laid_c q (by omega) (v := ((8 + n : Nat) : Int)) (by omega) 2 (by decide) rfl fun A3 c3 w5 q => ?_
  refine ⟨_, _, _, rfl, ?_⟩
  refine laid_c q (by omega) (v := 0) (by omega) 2 (by decide) rfl fun A4 c4 w6 q => ?_
  refine ⟨_, _, _, rfl, A, n, c, q.own.cell 0 2 rfl rfl, A, n, c, q.own.cell 0 2 rfl rfl, ?_⟩
  refine joined_c q (by omega) h 0 n (Nat.zero_le _) (Nat.le_refl _) (by omega) rfl rfl fun A5 c5 w7 q => ?_
  refine ⟨_, 8 + n, _, by rw [show 0 + 2 + 2 + 2 + 2 + (n - 0) = 8 + n by omega], ?_⟩
  have e0 : [] ++ be 2 sp ++ be 2 dp ++ be 2 ((8 + n : Nat) : Int) ++ be 2 0 ++ (body.take n).drop 0 = uRaw sp dp body 0 := by
    rw [be2, be2, be2, be2, List.drop_zero, List.take_of_length_le (by omega)]
    unfold uRaw
    rw [hl]
    rfl
  rw [e0, show 0 + 2 + 2 + 2 + 2 + (n - 0) = 8 + n by omega] at q
  have hrl := uRaw_len sp dp body 0
  have ehl : 8 + n = (uRaw sp dp body 0).length := by rw [hrl, hl]
  have fin : ∀ {wa : World} (s : Int), 0 ≤ s → s ≤ 65535 → s = uSum src dst sp dp body on → Buf w wa [(g1, 30, dv sp dp A n c)] A5 (8 + n) c5 (uRaw sp dp body 0) → weftref7_BuildUDP.J1 A5 (8 + n) c5 s wa (RetBU7 w src dst sp dp body on) := by
    intro wa s s0 s1 es q
    unfold weftref7_BuildUDP.J1; intros
    rw [weftref7_BuildUDP.j1_eq]
    refine let_as (s / 256) (by rw [td (by omega), w64 (by omega) (by omega)]) ?_
    refine let_as (s / 256 % 256) (by rw [IntKind.wrap_u8]) ?_
    rcases q.2 with ⟨_, _, e3, _⟩ | ⟨g, pad, rfl, hc, H⟩
    · rw [e3] at hrl; simp at hrl; omega
    refine ⟨_, rfl, ⟨by omega, by omega⟩, ?_⟩
    rw [add_blk]
    refine own_set 0 H rfl (by rw [bv_len, List.length_append, hrl]; omega) fun wq H => ?_
    refine let_as (s % 256) (tm (by omega)) ?_
    refine let_as (s % 256) (w8 (by omega) (by omega)) ?_
    refine ⟨_, rfl, ⟨by omega, by omega⟩, ?_⟩
    rw [add_blk]
    refine own_set 0 H rfl (by simp [bv_len, hrl]; omega) fun w9 H => ?_
    refine ⟨fun hx => absurd hx hle, fun _ => ?_⟩
    have eu : uBytes src dst sp dp body on = uRaw sp dp body s := by unfold uBytes; rw [← es]
    rw [eu, uRaw_len, hl]
    refine ⟨_, c5, rfl, by rw [uRaw_len, hl], Or.inr ⟨g, pad, rfl, by rw [hc, hrl, uRaw_len], ?_⟩⟩
    exact H.head
  refine ifB (fun hon => ?_) (fun hon => ?_)
  · refine call_of (covered_c hs hd q.by (n := 8 + n) (Nat.le_refl _) (by omega) rfl) ?_
    rintro e wr ⟨A6, c6, rfl, b6⟩
    have et : psd src dst ((8 + n : Nat) : Int) ++ (uRaw sp dp body 0).take (8 + n) = psd src dst ((8 + body.length : Nat) : Int) ++ uRaw sp dp body 0 := by rw [List.take_of_length_le (by omega), hl]
    rw [et] at b6
    have y6 := b6.by
    have q8 := q.call b6.own.bel
    refine ⟨_, _, _, by rw [et], ?_⟩
    refine own_newB (Own.refl wr) fun g3 w9 H9 k9 => ?_
    refine call_of (sum31_c (H9.bk 0 rfl) (y6.bel k9) ((psd_bytes _ _ _).append (uRaw_bytes sp dp hb 0)) (by rw [List.length_append, psd_len, hrl]; omega) 1) ?_
    rintro e w10 ⟨rfl, k10⟩
    have q10 := (q8.call k9).call k10
    have hS := S_range (uCov_tot (src := src) (dst := dst) (sp := sp) (dp := dp) hb)
    refine ⟨_, rfl, ?_⟩
    refine let_as _ (w64 (by omega) (by omega)) ?_
    refine ifE (fun h6 => ?_) (fun h6 => ?_)
    · have k := fin 65535 (by decide) (by decide) (by unfold uSum; rw [if_pos hon, if_pos h6]) q10
      exact ⟨by with_reducible apply k⟩
    · have k := fin (65535 - S (tot true (psd src dst ((8 + body.length : Nat) : Int) ++ uRaw sp dp body 0))) (by omega) (by omega) (by unfold uSum; rw [if_pos hon, if_neg h6]) q10
      exact ⟨by with_reducible apply k⟩
  · have eu : uBytes src dst sp dp body on = uRaw sp dp body 0 := by
      unfold uBytes uSum
      rw [if_neg (by rw [hon]; decide)]
    refine ⟨fun hx => absurd hx hle, fun _ => ?_⟩
    rw [eu, ← ehl]
    exact ⟨A5, c5, rfl, q.alone⟩
end Go.Proofs.YtleelkkddjldnaaS
