/- What Adjust and Age of packages ip4 and weftref3 answer.
   Conditions: bytes are 0 to 255; lists are no longer than memory lets. -/
import Derived.Test.YtchdcdmdbjkihaaSParse
namespace Go.Proofs.YtchdcdmdbjkihaaS
open Go Go.RowKit Go.Proofs Go.Proofs.YtchdcdmdbjkihaaX
set_option maxRecDepth 100000
set_option linter.unusedVariables false
set_option linter.unusedSectionVars false
set_option linter.unusedSimpArgs false

/-! ### Adjust -/
def adjS (s o n : Int) : Int := 65535 - S ((65535 - s) + (65535 - o) + n)
theorem adjS_range {s o n : Int} (h1 : 0 ≤ s ∧ s ≤ 65535) (h2 : 0 ≤ o ∧ o ≤ 65535) (h3 : 0 ≤ n ∧ n ≤ 65535) : 0 ≤ adjS s o n ∧ adjS s o n ≤ 65535 := by
  have := S_range (t := (65535 - s) + (65535 - o) + n) (by omega)
  unfold adjS
  omega
theorem Adjust_c (w : World) {s o n : Int} (h1 : 0 ≤ s ∧ s ≤ 65535) (h2 : 0 ≤ o ∧ o ≤ 65535) (h3 : 0 ≤ n ∧ n ≤ 65535) : Calls Try.prog 56 #[.int .u16 s, .int .u16 o, .int .u16 n] w (Ret (.int .u16 (adjS s o n)) w) := by
  refine ip4_Adjust.run ?_
  unfold ip4_Adjust.s
  refine let_as _ (not_u16 h1.1 h1.2) ?_
  refine let_as _ (wu64 (by omega) (by omega)) ?_
  refine let_as _ (not_u16 h2.1 h2.2) ?_
  refine let_as _ (wu64 (by omega) (by omega)) ?_
  refine let_as _ (wu64 (by omega) (by omega)) ?_
  refine let_as _ (wu64 (by omega) (by omega)) ?_
  refine let_as _ (wu64 (by omega) (by omega)) ?_
  have hS := S_range (t := (65535 - s) + (65535 - o) + n) (by omega)
  refine call_of (folded_c w (by omega) (by omega)) ?_
  rintro e w1 ⟨rfl, k1⟩
  refine ⟨_, rfl, ?_⟩
  refine let_as _ (not_u16 hS.1 hS.2) ?_
  exact ⟨rfl, k1⟩
theorem Adjust3_c (w : World) {s o n : Int} (h1 : 0 ≤ s ∧ s ≤ 65535) (h2 : 0 ≤ o ∧ o ≤ 65535) (h3 : 0 ≤ n ∧ n ≤ 65535) : Calls Try.prog 57 #[.int .u16 s, .int .u16 o, .int .u16 n] w (Ret (.int .u16 (adjS s o n)) w) := by
  refine weftref3_Adjust.run ?_
  unfold weftref3_Adjust.s
  refine let_as _ (w64 (by omega) (by omega)) ?_
  refine let_as _ (w64 (by omega) (by omega)) ?_
  refine let_as _ (w64 (by omega) (by omega)) ?_
  refine let_as _ (w64 (by omega) (by omega)) ?_
  refine let_as _ (w64 (by omega) (by omega)) ?_
  refine let_as _ (w64 (by omega) (by omega)) ?_
  refine let_as _ (w64 (by omega) (by omega)) ?_
  have hS := S_range (t := (65535 - s) + (65535 - o) + n) (by omega)
  refine call_of (fold_c w (by omega) (by omega)) ?_
  rintro e w1 ⟨rfl, k1⟩
  refine ⟨_, rfl, ?_⟩
  refine let_as _ (w64 (by omega) (by omega)) ?_
  refine let_as _ (w16 (by omega) (by omega)) ?_
  exact ⟨rfl, k1⟩

/-! ### a list and an error -/
/-- A list of one's own and an error are answered. -/
def RetLB (w : World) (l : List Int) (k : Int) (e : Ending) (w' : World) : Prop := ∃ A c, e = .returned (.tuple #[.slice A l.length c, .int .i64 k]) ∧ Buf w w' [] A l.length c l
theorem RetLB.no {w w' : World} (h : Bel w w') (k : Int) : RetLB w [] k (.returned (.tuple #[.slice none 0 0, .int .i64 k])) w' := ⟨none, 0, rfl, Buf.nil ((Own.refl w).call h)⟩
/-- A list, an error. -/
def RetLE (w : World) (l : List Int) (k : Int) (e : Ending) (w' : World) : Prop := Bel w w' ∧ ∃ A c, e = .returned (.tuple #[.slice A l.length c, .int .i64 k]) ∧ By w' A l.length l ∧ l.length ≤ c ∧ (0 < l.length → Fre w A)
theorem RetLB.le {w w' : World} {l : List Int} {k : Int} {e : Ending} (h : RetLB w l k e w') : RetLE w l k e w' := by
  obtain ⟨A, c, rfl, hb⟩ := h
  exact ⟨hb.own.bel, A, c, rfl, hb.by, hb.le, fun _ => hb.fre⟩
theorem RetLE.no {w w' : World} (h : Bel w w') (k : Int) : RetLE w [] k (.returned (.tuple #[.slice none 0 0, .int .i64 k])) w' := (RetLB.no h k).le
/-- Build's answer. -/
def bldL (p : Pk) : List Int := if p.err = 0 then p.bytes p.sum else []
theorem BuildB_c {w : World} {p : Pk} (h : p.Fine) {A B : Option Addr} {n c m d : Nat} (ha : By w A n p.opts) (hb : By w B m p.body) (hc : n ≤ c) : Calls Try.prog 36 #[.agg (pb p A n c B m d).toArray] w (RetLB w (bldL p) p.err) := by
  refine call_of (Build_c h ha hb hc) ?_
  rintro e w1 ⟨k1, he⟩
  unfold bldL
  by_cases h0 : p.err = 0
  · rw [if_pos h0] at he ⊢
    obtain ⟨g, rfl, hk, hg⟩ := he
    rw [h0]
    refine ⟨_, _, rfl, Buf.full (M := []) ?_ rfl (by have h65 := (Pk.err_zero h0).2.2; have e : p.tl = 20 + p.opts.length + p.body.length := rfl; rw [Pk.bytes_len]; omega)⟩
    refine ⟨k1, fun i g' t' l' hi => ?_, by simp⟩
    match i, hi with
    | 0, hi =>
      simp only [List.getElem?_cons_zero, Option.some.injEq, Prod.mk.injEq] at hi
      obtain ⟨rfl, rfl, rfl⟩ := hi
      exact ⟨hk, hg⟩
  · rw [if_neg h0] at he ⊢
    subst he
    exact RetLB.no k1 _
theorem Build3B_c {w : World} {p : Pk} (h : p.Fine) {A : Option Addr} {n c : Nat} {B : Option Addr} {m d : Nat} (hp : PkAt w p A n c B m d) : Calls Try.prog 34 #[.agg (pb p A n c B m d).toArray] w (RetLE w (bldL p) p.err) := by
  refine call_of (Build3_c h hp) ?_
  rintro e w1 ⟨k1, C, i, j, rfl, h1, h2⟩
  unfold bldL
  refine ⟨k1, C, j, ?_⟩
  by_cases h0 : p.err = 0
  · obtain ⟨rfl, y, l, f⟩ := h1 h0
    rw [if_pos h0, Pk.bytes_len]
    exact ⟨rfl, y, l, fun _ => f⟩
  · obtain rfl := h2 h0
    rw [if_neg h0]
    exact ⟨rfl, By.nil _ _, Nat.zero_le _, fun h => absurd h (Nat.lt_irrefl 0)⟩
/-! ### Age -/
def ageE (b : List Int) : Int := if bad true b = 0 then if b.getD 8 0 ≤ 1 then 35 else 0 else bad true b
def ageL (b : List Int) : List Int := if bad true b = 0 then if b.getD 8 0 ≤ 1 then [] else (older (ofB b)).bytes (older (ofB b)).sum else []
theorem pkOf_ofB {b : List Int} (h : bad true b = 0) : pkOf b = ofB b := by
  unfold pkOf ofB optsOf Go.Proofs.YtchdcdmdbjkihaaX.bodyOf
  rw [there_whole h]
theorem Age4_c {w : World} {A : Option Addr} {n c : Nat} {b : List Int} (h : By w A n b) (hb_ : Bytes b) (hc : n ≤ c) (hn : n ≤ 100000000000000) : Calls Try.prog 50 #[.slice A n c] w (RetLB w (ageL b) (ageE b)) := by
  refine ip4_Age.run ?_
  unfold ip4_Age.s
  have hl := h.len
  refine call_of (read_c h hb_ hc hn true) ?_
  rintro e w1 ⟨rfl, k1⟩
  have H := (Own.refl w).call k1
  by_cases h1 : bad true b = 0
  · rw [if_pos h1]
    refine ⟨_, _, _, _, _, _, _, _, _, _, _, _, _, _, _, rfl, ?_⟩
    refine own_new (l := hz) H fun g2 w4 H => ?_
    refine own_put 0 H rfl rfl (Nat.le_refl 10) fun w5 H => ?_
    refine ifN (fun hx => absurd rfl hx) (fun _ => ?_)
    have Hd := holds hb_ (by omega) h1
    obtain ⟨q1, q2, q3, q4, q5⟩ := bad_zero h1
    obtain ⟨g1_, g2_, g3, g4, g5, g6⟩ := badLen_zero q1
    have g6 := g6 rfl
    have hw2 := wd_range hb_ 2
    have g8 := hb_.getD 8
    refine ⟨b.getD 8 0, H.cell 0 5 rfl rfl, ?_⟩
    refine ifD (fun h2 => ?_) (fun h2 => ?_)
    · have e1 : ageE b = 35 := by unfold ageE; rw [if_pos h1, if_pos h2]
      have e2 : ageL b = [] := by unfold ageL; rw [if_pos h1, if_pos h2]
      rw [e1, e2]
      exact RetLB.no H.bel _
    have e1 : ageE b = 0 := by unfold ageE; rw [if_pos h1, if_neg h2]
    have e2 : ageL b = (older (ofB b)).bytes (older (ofB b)).sum := by unfold ageL; rw [if_pos h1, if_neg h2]
    rw [e1, e2]
    have ho : (older (ofB b)).Fine := older_fine Hd.fine (by show 0 < b.getD 8 0; omega)
    have hoe : (older (ofB b)).err = 0 := Hd.err
    have htl : (wd b 2).toNat = (ofB b).tl := by have := Hd.tl; omega
    have htl2 : (ofB b).tl = 20 + (optsOf b).length + (Go.Proofs.YtchdcdmdbjkihaaX.bodyOf b).length := rfl
    have hhl : hlen b = 20 + (optsOf b).length := Hd.hl.symm
    refine ⟨⟨by omega, by omega, by omega, by omega⟩, ?_⟩
    rw [htl]
    rw [bv_rep]
    refine own_new (l := bv (List.replicate (ofB b).tl 0)) H fun g3' w6 H => ?_
    have hc0 : splice (bv (List.replicate (ofB b).tl 0)) 0 (bv (b.take (min n (ofB b).tl))) = bv ((ofB b).bytes (wd b 10)) := by
      rw [bv_splice, splice_all _ _ (by rw [List.length_take, List.length_replicate]; omega), show min n (ofB b).tl = (ofB b).tl by omega]
      have : b.take (ofB b).tl = ((ofB b).bytes (wd b 10) ++ b.drop (wd b 2).toNat).take (ofB b).tl := by rw [← Hd.bytes]
      rw [this, List.take_left' (Pk.bytes_len _ _)]
    refine own_copy 0 H rfl (h.bel H.bel) (by rw [bv_len, List.length_replicate]; omega) fun w7 H => ?_
    rw [hc0] at H
    have hbl := Pk.bytes_len (ofB b) (wd b 10)
    refine ⟨_, rfl, ⟨by omega, by omega⟩, ?_⟩
    rw [add_blk, Nat.zero_add]
    refine ⟨b.getD 8 0, H.cell 0 8 rfl (by rw [bv_get _ _ (by omega)]; rfl), ?_⟩
    refine let_as (b.getD 8 0 - 1) (w8 (by omega) (by omega)) ?_
    refine ⟨_, rfl, ⟨by omega, by omega⟩, ?_⟩
    rw [add_blk, Nat.zero_add]
    refine own_set 0 H rfl (by rw [bv_len]; omega) fun w8_ H => ?_
    have hs8 : (bv ((ofB b).bytes (wd b 10))).set 8 (.int .u8 (b.getD 8 0 - 1)) = bv ((older (ofB b)).bytes (wd b 10)) := by
      rw [bv_set]
      rfl
    rw [hs8] at H
    have hbo := Pk.bytes_len (older (ofB b)) (wd b 10)
    replace hbo : ((older (ofB b)).bytes (wd b 10)).length = (ofB b).tl := hbo
    refine draws (fun w' => ∃ M, Own w w' M) ⟨_, H.drew⟩ fun w9 e9 => ?_
    replace H := H.drew
    rw [← e9] at H
    refine ⟨⟨by omega, by omega⟩, ⟨by omega, by omega⟩, ⟨by omega, by omega⟩, ?_⟩
    rw [Int.toNat_natCast, cut0 _ _ _ (by omega)]
    have hY := (H.bk 0 rfl)
    have y1 : By w9 (some ⟨g3', 0, none⟩) 10 (older (ofB b)).fr := by
      have := By.part (o := 0) (n := 10) hY (by omega)
      rw [List.drop_zero] at this
      exact this
    have y2 : By w9 (some ⟨g3', 12, none⟩) (hlen b - 12) ((older (ofB b)).bk ++ (older (ofB b)).opts) := by
      have := By.part (o := 12) (n := hlen b - 12) hY (by omega)
      have e : (((older (ofB b)).bytes (wd b 10)).drop 12).take (hlen b - 12) = (older (ofB b)).bk ++ (older (ofB b)).opts := by
        show (((older (ofB b)).bk ++ (older (ofB b)).opts) ++ (older (ofB b)).body).take (hlen b - 12) = _
        refine List.take_left' ?_
        rw [List.length_append, show (older (ofB b)).bk.length = 8 from rfl, show (older (ofB b)).opts.length = (optsOf b).length from rfl]
        omega
      rwa [e] at this
    refine own_newB H fun g30 w31 H k31 => ?_
    refine ⟨⟨_, H⟩, ?_⟩
    have hlo := (oOK_len (Pk.err_zero Hd.err).1).1
    replace hlo : (optsOf b).length ≤ 40 := hlo
    refine call_of (sum2_c (H.bk 0 rfl) (y1.bel k31) (y2.bel k31) (Pk.fr_bytes ho hoe) (Pk.bk_bytes ho) (by rw [y1.len, y2.len]; omega) 2) ?_
    rintro e w32 ⟨rfl, k32⟩
    replace H := (H.call k32).tail
    refine ⟨_, rfl, ⟨_, H⟩, ?_⟩
    have es : 65535 - S (tot true ((older (ofB b)).fr ++ ((older (ofB b)).bk ++ (older (ofB b)).opts))) = (older (ofB b)).sum := rfl
    rw [es]
    have hsr := Pk.sum_range ho hoe
    refine own_word 0 H rfl hbo 10 rfl (by omega) (by omega) (by omega) fun w33 H => ?_
    refine ⟨rfl, ⟨_, H⟩, ?_⟩
    have e9' : (((older (ofB b)).bytes (wd b 10)).set 10 ((older (ofB b)).sum / 256 % 256)).set (10 + 1) ((older (ofB b)).sum % 256) = (older (ofB b)).bytes (older (ofB b)).sum := rfl
    have H' : Own w w33 [(g3', 5, bv ((older (ofB b)).bytes (older (ofB b)).sum)), (g2, 35, _)] := H
    have hbl9 : ((older (ofB b)).bytes (older (ofB b)).sum).length = (ofB b).tl := Pk.bytes_len _ _
    refine ⟨some ⟨g3', 0, none⟩, (ofB b).tl, by rw [hbl9], ?_⟩
    have := (Buf.full (M := [_]) H' (n := (ofB b).tl) hbl9).alone
    rw [hbl9]
    exact this
  · rw [if_neg h1]
    refine ⟨_, _, _, _, _, _, _, _, _, _, _, _, _, _, _, rfl, ?_⟩
    refine own_new (l := hz) H fun g2 w4 H => ?_
    refine own_put 0 H rfl rfl (Nat.le_refl 10) fun w5 H => ?_
    refine ifN (fun _ => ?_) (fun hx => absurd hx h1)
    have e1 : ageE b = bad true b := by unfold ageE; rw [if_neg h1]
    have e2 : ageL b = [] := by unfold ageL; rw [if_neg h1]
    rw [e1, e2]
    exact RetLB.no H.bel _
theorem Age3_c {w : World} {A : Option Addr} {n c : Nat} {b : List Int} (h : By w A n b) (hb_ : Bytes b) (hc : n ≤ c) (hn : n ≤ 1000000000000) : Calls Try.prog 51 #[.slice A n c] w (RetLE w (ageL b) (ageE b)) := by
  refine weftref3_Age.run ?_
  unfold weftref3_Age.s
  have hl := h.len
  refine call_of (Parse3_c h hb_ hc hn) ?_
  intro e w1 he
  obtain ⟨k1, A1, n1, c1, B1, m1, d1, rfl, hp, f1, f2⟩ := rd_out he
  refine ⟨_, _, _, _, _, _, _, _, _, _, _, _, _, _, _, _, rfl, ?_⟩
  have H := (Own.refl w).call k1
  refine own_mk (pb pz none 0 0 none 0 0) H rfl rfl fun g2 w2 H k2 hg2 => ?_
  refine ifN (fun hx => ?_) (fun hx => ?_)
  · have e1 : ageE b = bad true b := by unfold ageE; rw [if_neg hx]
    have e2 : ageL b = [] := by unfold ageL; rw [if_neg hx]
    rw [e1, e2]
    exact RetLE.no H.bel _
  have e0 : pkOut b = ofB b := by unfold pkOut; rw [if_pos hx, pkOf_ofB hx]
  rw [e0] at H hp
  have g8 := hb_.getD 8
  have Hd := holds hb_ (by omega) hx
  have n1' := hp.opts.newer hg2
  have n2' := hp.body.newer hg2
  replace hp := hp.bel k2
  refine ⟨b.getD 8 0, H.cell 0 5 rfl rfl, ?_⟩
  refine ifD (fun h2 => ?_) (fun h2 => ?_)
  · have e1 : ageE b = 35 := by unfold ageE; rw [if_pos hx, if_pos (by omega)]
    have e2 : ageL b = [] := by unfold ageL; rw [if_pos hx, if_pos (by omega)]
    rw [e1, e2]
    exact RetLE.no H.bel _
  have e1 : ageE b = (older (ofB b)).err := by unfold ageE; rw [if_pos hx, if_neg (by omega)]; exact Hd.err.symm
  have e2 : ageL b = bldL (older (ofB b)) := by unfold ageL bldL; rw [if_pos hx, if_neg (by omega), if_pos (show (older (ofB b)).err = 0 from Hd.err)]
  rw [e1, e2]
  have ho : (older (ofB b)).Fine := older_fine Hd.fine (by show 0 < b.getD 8 0; omega)
  refine ⟨b.getD 8 0, H.cell 0 5 rfl rfl, ?_⟩
  refine let_as (b.getD 8 0 - 1) (w8 (by omega) (by omega)) ?_
  refine own_setB 0 H rfl (Nat.lt_of_lt_of_le (by decide : 5 < 11) (Nat.le_refl 11)) fun w3 H u3 => ?_
  replace H : Own w w3 [(g2, 37, pb (older (ofB b)) A1 n1 c1 B1 m1 d1)] := H
  refine ld_pkt (H.bk 0 rfl) ?_
  have hp3 : PkAt w3 (older (ofB b)) A1 n1 c1 B1 m1 d1 := ⟨hp.opts.but1 u3 n1', hp.body.but1 u3 n2', hp.co, hp.cb⟩
  refine call_of (Build3B_c ho hp3) ?_
  rintro e w4 ⟨k4, A', c', rfl, y, l, f⟩
  refine ⟨_, _, _, _, rfl, H.bel.trans k4, A', c', rfl, y, l, fun h => (f h).le H.bel⟩
end Go.Proofs.YtchdcdmdbjkihaaS
