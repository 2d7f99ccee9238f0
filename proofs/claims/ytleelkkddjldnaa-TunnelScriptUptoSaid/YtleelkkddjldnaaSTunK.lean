/- What key and Flow of packages tunnel and weftref7 answer.
   Conditions: bytes are 0 to 255; lists are no longer than memory lets. -/
import Derived.Test.YtleelkkddjldnaaSTunF
import Derived.Test.YtleelkkddjldnaaSParse
namespace Go.Proofs.YtleelkkddjldnaaS
open Go Go.RowKit Go.Proofs Go.Proofs.YtleelkkddjldnaaX
set_option maxRecDepth 100000
set_option linter.unusedVariables false
set_option linter.unusedSectionVars false
set_option linter.unusedSimpArgs false

/-! ### in plain words -/
def kF (f : Fr) : List Int := if f.typ = 2048 ∧ bad true f.body = 0 then be 4 (lg f.body 12) ++ be 4 (lg f.body 16) ++ [f.body.getD 9 0] else [f.s0, f.s1, f.s2, f.s3, f.s4, f.s5] ++ [f.d0, f.d1, f.d2, f.d3, f.d4, f.d5]
theorem kF_len (f : Fr) : (kF f).length ≤ 12 := by
  unfold kF
  split
  · rw [List.length_append, List.length_append, be_len, be_len]
    show 4 + 4 + 1 ≤ 12
    decide
  · exact Nat.le_refl 12
theorem kF_bytes {f : Fr} (hf : f.Fine) : Bytes (kF f) := by
  unfold kF
  split
  · exact ((Bytes.be 4 _).append (Bytes.be 4 _)).append (Bytes.cons (hf.body.getD 9) Bytes.nil)
  · have := hf.macs
    intro x hx
    refine this x ?_
    unfold Fr.macs
    simp only [List.mem_append, List.mem_cons, List.not_mem_nil, or_false] at hx ⊢
    rcases hx with hx | hx
    · exact Or.inr (Or.inr (Or.inr (Or.inr (Or.inr (Or.inr hx)))))
    · rcases hx with h | h | h | h | h | h <;> simp [h]
def mixs (h : Int) : List Int → Int
  | [] => h
  | x :: l => mixs ((h * 251 + x + 1) % 65521) l
/-- The same from the last byte to the first: the sum, the power. -/
def sums : List Int → Int × Int
  | [] => (0, 1)
  | x :: l => (((sums l).1 + (x + 1) * (sums l).2) % 65521, (sums l).2 * 251 % 65521)
theorem sums_range : ∀ l : List Int, (0 ≤ (sums l).1 ∧ (sums l).1 < 65521) ∧ (0 ≤ (sums l).2 ∧ (sums l).2 < 65521)
  | [] => ⟨⟨by decide, by decide⟩, ⟨by decide, by decide⟩⟩
  | x :: l => by
    show (0 ≤ ((sums l).1 + (x + 1) * (sums l).2) % 65521 ∧ ((sums l).1 + (x + 1) * (sums l).2) % 65521 < 65521) ∧ (0 ≤ (sums l).2 * 251 % 65521 ∧ (sums l).2 * 251 % 65521 < 65521)
    omega
theorem emod_k {a b k : Int} (h : a = b + 65521 * k) : a % 65521 = b % 65521 := by
  rw [h, Int.add_mul_emod_self_left]
theorem mixs_sums : ∀ (l : List Int) (h : Int), mixs h l % 65521 = (h * (sums l).2 + (sums l).1) % 65521
  | [], h => by
    show h % 65521 = (h * 1 + 0) % 65521
    rw [Int.mul_one, Int.add_zero]
  | x :: l, h => by
    show mixs ((h * 251 + x + 1) % 65521) l % 65521 = (h * ((sums l).2 * 251 % 65521) + ((sums l).1 + (x + 1) * (sums l).2) % 65521) % 65521
    rw [mixs_sums l]
    generalize (sums l).2 = p
    generalize (sums l).1 = s
    rw [Int.emod_def (h * 251 + x + 1), Int.emod_def (p * 251), Int.emod_def (s + (x + 1) * p)]
    generalize (h * 251 + x + 1) / 65521 = a
    generalize p * 251 / 65521 = b
    generalize (s + (x + 1) * p) / 65521 = c
    refine emod_k (k := h * b + c - a * p) ?_
    grind
theorem mixs_range : ∀ (l : List Int) {h : Int}, 0 ≤ h → h < 65521 → 0 ≤ mixs h l ∧ mixs h l < 65521
  | [], h, h0, h1 => ⟨h0, h1⟩
  | x :: l, h, h0, h1 => mixs_range l (by omega) (by omega)
theorem mixs_snoc (x : Int) : ∀ (l : List Int) (h : Int), mixs h (l ++ [x]) = (mixs h l * 251 + x + 1) % 65521
  | [], h => rfl
  | y :: l, h => mixs_snoc x l _
/-- The flow's port. -/
def flow (f : Fr) : Int := 49152 + mixs 1 (kF f) % 16384
theorem flow_7 (f : Fr) : flow f = 49152 + ((sums (kF f)).1 + (sums (kF f)).2) % 65521 % 16384 := by
  unfold flow
  have h := mixs_sums (kF f) 1
  have r := mixs_range (kF f) (h := 1) (by decide) (by decide)
  rw [Int.one_mul] at h
  rw [Int.add_comm (sums (kF f)).1, ← h]
  omega

/-! ### tunnel -/
theorem key_j1 {w wa : World} {f : Fr} (hk : ¬ (f.typ = 2048 ∧ bad true f.body = 0)) {A : Option Addr} {n c : Nat} {g1 : Nat} {M : List (Nat × TypeId × List Value)} (H : Own w wa ((g1, 46, fv f A n c) :: M)) : tunnel_key.J1 g1 wa (RetBuf w (kF f)) := by
  unfold tunnel_key.J1; intros
  rw [tunnel_key.j1_eq]
  have e0 : kF f = [f.s0, f.s1, f.s2, f.s3, f.s4, f.s5] ++ [f.d0, f.d1, f.d2, f.d3, f.d4, f.d5] := by unfold kF; rw [if_neg hk]
  refine draws (fun w' => Own w w' ((g1, 46, fv f A n c) :: M)) H.drew fun w2 e2 => ?_
  replace H := H.drew
  rw [← e2] at H
  have y1 : By w2 (some ⟨g1, 6, none⟩) 6 [f.s0, f.s1, f.s2, f.s3, f.s4, f.s5] := By.of_at (at_mid [.int .u8 f.d0, .int .u8 f.d1, .int .u8 f.d2, .int .u8 f.d3, .int .u8 f.d4, .int .u8 f.d5] (mid := bv [f.s0, f.s1, f.s2, f.s3, f.s4, f.s5]) (post := [.int .u16 f.typ, .slice A n c]) (H.bk 0 rfl) rfl)
  refine call_of (clone7_c y1 (by decide)) ?_
  rintro e w3 ⟨g, rfl, H3⟩
  have Hj := Own.join H H3
  have H' := H.call H3.bel
  refine ⟨_, _, _, rfl, H', ?_⟩
  have y0 : By w3 (some ⟨g1, 0, none⟩) 6 [f.d0, f.d1, f.d2, f.d3, f.d4, f.d5] := By.of_at (at_mid [] (mid := bv [f.d0, f.d1, f.d2, f.d3, f.d4, f.d5]) (post := [.int .u8 f.s0, .int .u8 f.s1, .int .u8 f.s2, .int .u8 f.s3, .int .u8 f.s4, .int .u8 f.s5, .int .u16 f.typ, .slice A n c]) (H'.bk 0 rfl) rfl)
  refine buf_app (Buf.full (n := 6) (l := [f.s0, f.s1, f.s2, f.s3, f.s4, f.s5]) Hj rfl) y0 (by decide) fun A4 c4 w4 q => ?_
  refine ⟨q.own, ?_⟩
  rw [e0]
  exact ⟨A4, c4, rfl, q.alone⟩
theorem key_c {w : World} {f : Fr} (hf : f.Fine) {A : Option Addr} {n c : Nat} (h : By w A n f.body) (hc : n ≤ c) (hn : n ≤ 100000000000000) : Calls Try.prog 50 #[.agg (fv f A n c).toArray] w (RetBuf w (kF f)) := by
  refine tunnel_key.run ?_
  unfold tunnel_key.s
  refine own_new (l := fv f A n c) (Own.refl w) fun g1 w2 H => ?_
  refine ⟨_, H.cell 0 12 rfl rfl, ?_⟩
  refine ifE (fun ht => ?_) (fun ht => ?_)
  · refine ⟨_, _, _, H.cell 0 13 rfl rfl, ?_⟩
    refine call_of (Parse4_c (h.bel H.bel) hf.body hc hn) ?_
    rintro e w3 he
    obtain ⟨k3, A1, n1, c1, B1, m1, d1, rfl, hp, _, _⟩ := rd_out he
    replace H := H.call k3
    refine ⟨_, _, _, _, _, _, _, _, _, _, _, _, _, _, _, _, rfl, ?_⟩
    refine own_mk (pb pz none 0 0 none 0 0) H rfl rfl fun g2 w4 H k4 _ => ?_
    refine ifE (fun h0 => ?_) (fun h0 => ?_)
    · have ep : pkOut f.body = pkOf f.body := by unfold pkOut; rw [if_pos h0]
      have e0 : kF f = be 4 (lg f.body 12) ++ be 4 (lg f.body 16) ++ [f.body.getD 9 0] := by unfold kF; rw [if_pos ⟨ht, h0⟩]
      replace H : Own w w4 [(g2, 88, pb (pkOf f.body) A1 n1 c1 B1 m1 d1), (g1, 46, fv f A n c)] := by rw [← ep]; exact H
      refine ⟨⟨by decide, by decide, by decide, by decide⟩, ?_⟩
      refine own_new H fun g w5 H => ?_
      rw [bv_rep] at H
      refine draws (fun w' => ∃ l M, Own w w' ((g, 5, l) :: (g2, 88, pb (pkOf f.body) A1 n1 c1 B1 m1 d1) :: M)) ⟨_, _, H.drew⟩ fun w6 e6 => ?_
      replace H := H.drew
      rw [← e6] at H
      refine ⟨⟨by decide, by decide⟩, ⟨by decide, by decide⟩, _, fun w' ⟨l, M, h⟩ => h.cell 1 7 rfl rfl, ?_⟩
      rw [cut0 g 0 _ (by decide)]
      refine own_st32 0 H rfl (by simp) (lg_range hf.body 12) fun w7 H _ => ?_
      refine ⟨rfl, ⟨_, _, H⟩, ?_⟩
      refine draws (fun w' => ∃ l M, Own w w' ((g, 5, l) :: (g2, 88, pb (pkOf f.body) A1 n1 c1 B1 m1 d1) :: M)) ⟨_, _, H.drew⟩ fun w8' e8 => ?_
      replace H := H.drew
      rw [← e8] at H
      refine ⟨⟨by decide, by decide⟩, ⟨by decide, by decide⟩, _, fun w' ⟨l, M, h⟩ => h.cell 1 8 rfl rfl, ?_⟩
      rw [cut0 g 4 _ (by decide)]
      refine own_st32 0 H rfl (by simp) (lg_range hf.body 16) fun w9 H _ => ?_
      refine ⟨rfl, ⟨_, _, H⟩, ?_⟩
      refine ⟨_, H.cell 1 6 rfl rfl, _, rfl, ⟨by decide, by decide⟩, ?_⟩
      rw [add_blk, Nat.zero_add]
      refine own_setB 0 H rfl (by rw [bv_len]; simp) fun w10 H _ => ?_
      have e1 : kF f = [lg f.body 12 / 16777216 % 256, lg f.body 12 / 65536 % 256, lg f.body 12 / 256 % 256, lg f.body 12 % 256, lg f.body 16 / 16777216 % 256, lg f.body 16 / 65536 % 256, lg f.body 16 / 256 % 256, lg f.body 16 % 256, f.body.getD 9 0] := by
        rw [e0, be4, be4]
        rfl
      rw [e1]
      have q : Buf w w10 [] (some ⟨g, 0, none⟩) 9 9 [lg f.body 12 / 16777216 % 256, lg f.body 12 / 65536 % 256, lg f.body 12 / 256 % 256, lg f.body 12 % 256, lg f.body 16 / 16777216 % 256, lg f.body 16 / 65536 % 256, lg f.body 16 / 256 % 256, lg f.body 16 % 256, f.body.getD 9 0] := (Buf.full (M := [(g2, 88, pb (pkOf f.body) A1 n1 c1 B1 m1 d1), (g1, 46, fv f A n c)]) H rfl).alone
      exact ⟨_, _, rfl, q⟩
    · have k := key_j1 (fun hx => h0 hx.2) H.swap
      exact ⟨by with_reducible apply k⟩
  · have k := key_j1 (fun hx => ht hx.1) H
    exact ⟨by with_reducible apply k⟩
theorem Flow_l {w0 : World} {A : Option Addr} {n c : Nat} {l : List Int} (hb : Bytes l) (hl : l.length ≤ 100) : ∀ (q i : Nat) (w : World) {z : Int}, z = (n : Int) → n - i < q → i ≤ n → Bel w0 w → By w A n l →
    tunnel_Flow.L1 q (mixs 1 (l.take i)) A n c z (i : Int) w (Ret (.int .u16 (49152 + mixs 1 l % 16384)) w0) := by
  intro q
  induction q with
  | zero => intro i w z ez hq; omega
  | succ q ih =>
    intro i w z ez hq hi k y
    have ln := y.len
    have r := mixs_range (l.take i) (h := 1) (by decide) (by decide)
    unfold tunnel_Flow.L1; intros
    rw [tunnel_Flow.l1_eq]
    refine ifD (fun h1 => ?_) (fun h1 => ?_)
    · refine y.rd (by omega) (by omega) fun hlt => ?_
      rw [Int.toNat_natCast]
      have hg := hb.getD i
      refine let_as (mixs 1 (l.take i) * 251) (w64 (by omega) (by omega)) ?_
      refine let_as (l.getD i 0) (w64 (by omega) (by omega)) ?_
      refine let_as (mixs 1 (l.take i) * 251 + l.getD i 0) (w64 (by omega) (by omega)) ?_
      refine let_as (mixs 1 (l.take i) * 251 + l.getD i 0 + 1) (w64 (by omega) (by omega)) ?_
      refine let_as (mixs 1 (l.take (i + 1))) (by rw [tm (by omega), ← take_get l (by omega), mixs_snoc]) ?_
      refine let_as ((i + 1 : Nat) : Int) (by rw [w64 (by omega) (by omega)]; omega) ?_
      have kk := ih (i + 1) w ez (by omega) (by omega) k y
      with_reducible apply kk
    · have : i = n := by omega
      subst this
      rw [List.take_of_length_le (by omega)] at r ⊢
      refine let_as (mixs 1 l % 16384) (tm (by omega)) ?_
      refine let_as (49152 + mixs 1 l % 16384) (w64 (by omega) (by omega)) ?_
      refine let_as (49152 + mixs 1 l % 16384) (w16 (by omega) (by omega)) ?_
      exact ⟨rfl, k⟩
theorem Flow_c {w : World} {f : Fr} (hf : f.Fine) {A : Option Addr} {n c : Nat} (h : By w A n f.body) (hc : n ≤ c) (hn : n ≤ 100000000000000) : Calls Try.prog 23 #[.agg (fv f A n c).toArray] w (Ret (.int .u16 (flow f)) w) := by
  refine tunnel_Flow.run ?_
  unfold tunnel_Flow.s
  have hk := kF_len f
  refine own_new (l := fv f A n c) (Own.refl w) fun g1 w2 H => ?_
  refine ld_fr (H.bk 0 rfl) ?_
  refine call_of (key_c hf (h.bel H.bel) hc hn) ?_
  rintro e w3 ⟨B, d, rfl, q⟩
  have y := q.by
  replace H := H.call q.own.bel
  refine ⟨_, _, _, rfl, (kF f).length + 1, ?_⟩
  have k : tunnel_Flow.L1 ((kF f).length + 1) 1 B (kF f).length d ((kF f).length : Int) 0 w3 (Ret (.int .u16 (flow f)) w) := Flow_l (c := d) (kF_bytes hf) (by omega) ((kF f).length + 1) 0 w3 rfl (by omega) (Nat.zero_le _) H.bel y
  with_reducible apply k

/-! ### weftref7 -/
theorem drop_get (l : List Int) {i : Nat} (h : i < l.length) : l.drop i = l.getD i 0 :: l.drop (i + 1) := by
  rw [List.drop_eq_getElem_cons h]
  simp [List.getD_eq_getElem?_getD, h]
theorem key7_l2 {w : World} {f : Fr} {M : List (Nat × TypeId × List Value)} {A : Option Addr} {n c : Nat} {g1 : Nat} {F : List Int} (hF : F = [f.s0, f.s1, f.s2, f.s3, f.s4, f.s5] ++ [f.d0, f.d1, f.d2, f.d3, f.d4, f.d5]) : ∀ (q i : Nat) (wa : World) (B : Option Addr) (d : Nat), 6 - i < q → i ≤ 6 → Buf w wa ((g1, 46, fv f A n c) :: M) B (6 + i) d (F.take (6 + i)) →
    weftref7_key.L2 q g1 B (6 + i) d (i : Int) wa (RetBuf w F) := by
  intro q
  induction q with
  | zero => intro i wa B d hq; omega
  | succ q ih =>
    intro i wa B d hq hi hb
    have fl : F.length = 12 := by rw [hF]; rfl
    unfold weftref7_key.L2; intros
    rw [weftref7_key.l2_eq]
    refine ifD (fun h1 => ?_) (fun h1 => ?_)
    · refine ⟨⟨by omega, by omega⟩, ?_⟩
      rw [Int.toNat_natCast, add_blk, Nat.zero_add]
      have eg : F.getD (6 + i) 0 = f.macs.getD i 0 := by
        rw [hF]
        rcases (by omega : i = 0 ∨ i = 1 ∨ i = 2 ∨ i = 3 ∨ i = 4 ∨ i = 5) with rfl | rfl | rfl | rfl | rfl | rfl <;> rfl
      refine ⟨_, hb.own.cell 0 i rfl (fv_get f A n c (by omega)), ?_⟩
      refine buf_lit (m := 1) hb [f.macs.getD i 0] rfl (by omega) fun B' d' wb hb' => ?_
      refine let_as ((i + 1 : Nat) : Int) (by rw [w64 (by omega) (by omega)]; omega) ?_
      rw [← eg, take_get _ (by omega)] at hb'
      exact ih (i + 1) wb B' d' (by omega) (by omega) hb' ..
    · have : i = 6 := by omega
      subst this
      rw [List.take_of_length_le (by rw [fl]; decide)] at hb
      refine ⟨B, d, by rw [fl], ?_⟩
      rw [fl]
      exact hb.alone
theorem key7_l1 {w : World} {f : Fr} {M : List (Nat × TypeId × List Value)} {A : Option Addr} {n c : Nat} {g1 : Nat} {F : List Int} (hF : F = [f.s0, f.s1, f.s2, f.s3, f.s4, f.s5] ++ [f.d0, f.d1, f.d2, f.d3, f.d4, f.d5]) : ∀ (q i : Nat) (wa : World) (B : Option Addr) (d : Nat), 6 - i < q → i ≤ 6 → Buf w wa ((g1, 46, fv f A n c) :: M) B i d (F.take i) →
    weftref7_key.L1 q g1 B i d (i : Int) wa (RetBuf w F) := by
  intro q
  induction q with
  | zero => intro i wa B d hq; omega
  | succ q ih =>
    intro i wa B d hq hi hb
    have fl : F.length = 12 := by rw [hF]; rfl
    unfold weftref7_key.L1; intros
    rw [weftref7_key.l1_eq]
    refine ifD (fun h1 => ?_) (fun h1 => ?_)
    · refine ⟨⟨by omega, by omega⟩, ?_⟩
      rw [Int.toNat_natCast, add_blk]
      have eg : F.getD i 0 = f.macs.getD (6 + i) 0 := by
        rw [hF]
        rcases (by omega : i = 0 ∨ i = 1 ∨ i = 2 ∨ i = 3 ∨ i = 4 ∨ i = 5) with rfl | rfl | rfl | rfl | rfl | rfl <;> rfl
      refine ⟨_, hb.own.cell 0 (6 + i) rfl (fv_get f A n c (by omega)), ?_⟩
      refine buf_lit (m := 1) hb [f.macs.getD (6 + i) 0] rfl (by omega) fun B' d' wb hb' => ?_
      refine let_as ((i + 1 : Nat) : Int) (by rw [w64 (by omega) (by omega)]; omega) ?_
      rw [← eg, take_get _ (by omega)] at hb'
      exact ih (i + 1) wb B' d' (by omega) (by omega) hb' ..
    · have : i = 6 := by omega
      subst this
      refine ⟨7, ?_⟩
      have k : weftref7_key.L2 7 g1 B 6 d 0 wa (RetBuf w F) := key7_l2 hF 7 0 wa B d (by omega) (by omega) hb
      with_reducible apply k
theorem key7_j1 {w wa : World} {f : Fr} (hk : ¬ (f.typ = 2048 ∧ bad true f.body = 0)) {A : Option Addr} {n c : Nat} {g1 : Nat} {M : List (Nat × TypeId × List Value)} (H : Own w wa ((g1, 46, fv f A n c) :: M)) : weftref7_key.J1 g1 none 0 0 wa (RetBuf w (kF f)) := by
  unfold weftref7_key.J1; intros
  rw [weftref7_key.j1_eq]
  have e0 : kF f = [f.s0, f.s1, f.s2, f.s3, f.s4, f.s5] ++ [f.d0, f.d1, f.d2, f.d3, f.d4, f.d5] := by unfold kF; rw [if_neg hk]
  refine ⟨7, ?_⟩
  have k : weftref7_key.L1 7 g1 none 0 0 0 wa (RetBuf w (kF f)) := key7_l1 e0 7 0 wa none 0 (by omega) (by omega) (Buf.nil H)
  with_reducible apply k
theorem key7_c {w : World} {f : Fr} (hf : f.Fine) {A : Option Addr} {n c : Nat} (h : By w A n f.body) (hc : n ≤ c) (hn : n ≤ 1000000000000) : Calls Try.prog 51 #[.agg (fv f A n c).toArray] w (RetBuf w (kF f)) := by
  refine weftref7_key.run ?_
  unfold weftref7_key.s
  refine own_new (l := fv f A n c) (Own.refl w) fun g1 w2 H => ?_
  refine ⟨_, H.cell 0 12 rfl rfl, ?_⟩
  refine ifE (fun ht => ?_) (fun ht => ?_)
  · refine ⟨_, _, _, H.cell 0 13 rfl rfl, ?_⟩
    refine call_of (Parse3_c (h.bel H.bel) hf.body hc hn) ?_
    rintro e w3 he
    obtain ⟨k3, A1, n1, c1, B1, m1, d1, rfl, hp, _, _⟩ := rd_out he
    replace H := H.call k3
    refine ⟨_, _, _, _, _, _, _, _, _, _, _, _, _, _, _, _, rfl, ?_⟩
    refine own_mk (pb pz none 0 0 none 0 0) H rfl rfl fun g2 w4 H k4 _ => ?_
    refine ifE (fun h0 => ?_) (fun h0 => ?_)
    · have ep : pkOut f.body = pkOf f.body := by unfold pkOut; rw [if_pos h0]
      have e0 : kF f = [] ++ be 4 (lg f.body 12) ++ be 4 (lg f.body 16) ++ [f.body.getD 9 0] := by unfold kF; rw [if_pos ⟨ht, h0⟩]; rfl
      replace H : Own w w4 [(g2, 88, pb (pkOf f.body) A1 n1 c1 B1 m1 d1), (g1, 46, fv f A n c)] := by rw [← ep]; exact H
      have r1 := lg_range hf.body 12
      have r2 := lg_range hf.body 16
      refine ⟨lg f.body 12, H.cell 0 7 rfl rfl, ?_⟩
      refine let_as (lg f.body 12) (w64 (by omega) (by omega)) ?_
      refine laid_c (Buf.nil H) (by decide) r1 4 (by decide) rfl fun A5 c5 w5 q5 => ?_
      refine ⟨_, _, _, rfl, lg f.body 16, q5.own.cell 0 8 rfl rfl, ?_⟩
      refine let_as (lg f.body 16) (w64 (by omega) (by omega)) ?_
      refine laid_c q5 (by decide) r2 4 (by decide) rfl fun A6 c6 w6 q6 => ?_
      refine ⟨_, _, _, rfl, f.body.getD 9 0, q6.own.cell 0 6 rfl rfl, ?_⟩
      refine buf_lit (m := 1) q6 [f.body.getD 9 0] rfl (by decide) fun A7 c7 w7 q7 => ?_
      rw [← e0] at q7
      have e9 := q7.len
      refine ⟨A7, c7, by rw [e9], ?_⟩
      rw [e9]
      exact q7.alone
    · have k := key7_j1 (fun hx => h0 hx.2) H.swap
      exact ⟨by with_reducible apply k⟩
  · have k := key7_j1 (fun hx => ht hx.1) H
    exact ⟨by with_reducible apply k⟩
theorem Flow7_l {w0 : World} {A : Option Addr} {n c : Nat} {l : List Int} (hb : Bytes l) (hl : l.length ≤ 100) : ∀ (i : Nat) (w : World), i ≤ n → Bel w0 w → By w A n l →
    weftref7_Flow.L1 (i + 1) A n c (sums (l.drop i)).1 (sums (l.drop i)).2 ((i : Int) - 1) w (Ret (.int .u16 (49152 + ((sums l).1 + (sums l).2) % 65521 % 16384)) w0) := by
  intro i
  induction i with
  | zero =>
    intro w hi k y
    have r := sums_range l
    unfold weftref7_Flow.L1; intros
    rw [weftref7_Flow.l1_eq]
    refine ifD (fun h1 => ?_) (fun h1 => ?_)
    · omega
    · rw [List.drop_zero]
      refine let_as ((sums l).1 + (sums l).2) (w64 (by omega) (by omega)) ?_
      refine let_as (((sums l).1 + (sums l).2) % 65521) (tm (by omega)) ?_
      refine let_as (((sums l).1 + (sums l).2) % 65521 % 16384) (tm (by omega)) ?_
      refine let_as (49152 + ((sums l).1 + (sums l).2) % 65521 % 16384) (w64 (by omega) (by omega)) ?_
      refine let_as (49152 + ((sums l).1 + (sums l).2) % 65521 % 16384) (w16 (by omega) (by omega)) ?_
      exact ⟨rfl, k⟩
  | succ i ih =>
    intro w hi k y
    have ln := y.len
    have r := sums_range (l.drop (i + 1))
    unfold weftref7_Flow.L1; intros
    rw [weftref7_Flow.l1_eq]
    have ei : ((i + 1 : Nat) : Int) - 1 = (i : Int) := by omega
    rw [ei]
    refine ifD (fun h1 => ?_) (fun h1 => by omega)
    refine y.rd (by omega) (by omega) fun hlt => ?_
    rw [Int.toNat_natCast]
    have hg := hb.getD i
    have hm : 0 ≤ (l.getD i 0 + 1) * (sums (l.drop (i + 1))).2 ∧ (l.getD i 0 + 1) * (sums (l.drop (i + 1))).2 ≤ 256 * 65521 := by
      refine ⟨Int.mul_nonneg (by omega) (by omega), Int.mul_le_mul (by omega) (by omega) (by omega) (by decide)⟩
    refine let_as (l.getD i 0) (w64 (by omega) (by omega)) ?_
    refine let_as (l.getD i 0 + 1) (w64 (by omega) (by omega)) ?_
    refine let_as ((l.getD i 0 + 1) * (sums (l.drop (i + 1))).2) (w64 (by omega) (by omega)) ?_
    refine let_as ((sums (l.drop (i + 1))).1 + (l.getD i 0 + 1) * (sums (l.drop (i + 1))).2) (w64 (by omega) (by omega)) ?_
    refine let_as (sums (l.drop i)).1 (by rw [tm (by omega), drop_get l (i := i) (by omega)]; rfl) ?_
    refine let_as ((sums (l.drop (i + 1))).2 * 251) (w64 (by omega) (by omega)) ?_
    refine let_as (sums (l.drop i)).2 (by rw [tm (by omega), drop_get l (i := i) (by omega)]; rfl) ?_
    refine let_as ((i : Int) - 1) (w64 (by omega) (by omega)) ?_
    have kk := ih w (by omega) k y
    with_reducible apply kk
theorem Flow7_c {w : World} {f : Fr} (hf : f.Fine) {A : Option Addr} {n c : Nat} (h : By w A n f.body) (hc : n ≤ c) (hn : n ≤ 1000000000000) : Calls Try.prog 24 #[.agg (fv f A n c).toArray] w (Ret (.int .u16 (flow f)) w) := by
  refine weftref7_Flow.run ?_
  unfold weftref7_Flow.s
  have hk := kF_len f
  refine own_new (l := fv f A n c) (Own.refl w) fun g1 w2 H => ?_
  refine ld_fr (H.bk 0 rfl) ?_
  refine call_of (key7_c hf (h.bel H.bel) hc hn) ?_
  rintro e w3 ⟨B, d, rfl, q⟩
  have y := q.by
  replace H := H.call q.own.bel
  refine ⟨_, _, _, rfl, ?_⟩
  refine let_as (((kF f).length : Int) - 1) (w64 (by omega) (by omega)) ?_
  refine ⟨(kF f).length + 1, ?_⟩
  have k : weftref7_Flow.L1 ((kF f).length + 1) B (kF f).length d 0 1 (((kF f).length : Int) - 1) w3 (Ret (.int .u16 (flow f)) w) := by
    have k := Flow7_l (c := d) (kF_bytes hf) (by omega) (kF f).length w3 (Nat.le_refl _) H.bel y
    rw [List.drop_length, ← flow_7] at k
    exact k
  with_reducible apply k
end Go.Proofs.YtleelkkddjldnaaS
