/- What header (whole), Build and front of package weftref3 answer.
   Conditions: bytes are 0 to 255; lists are no longer than memory lets. -/
import Derived.Test.YtchdcdmdbjkihaaSRef3C
namespace Go.Proofs.YtchdcdmdbjkihaaS
open Go Go.RowKit Go.Proofs Go.Proofs.YtchdcdmdbjkihaaX
set_option maxRecDepth 100000
set_option linter.unusedVariables false
set_option linter.unusedSimpArgs false

theorem header_c {w : World} {p : Pk} (h : p.Fine) (he : p.err = 0) {s : Int} (hs : 0 ≤ s ∧ s ≤ 65535) {A : Option Addr} {n c : Nat} (hA : By w A n p.opts) {tl : Int} (et : tl = (p.tl : Int)) :
    Calls Try.prog 68 #[.agg (pv p A n c).toArray, .int .i64 tl, .int .u16 s] w (RetBuf w (p.head s)) := by
  refine weftref3_header.run ?_
  unfold weftref3_header.s
  obtain ⟨h1, h2, h3⟩ := Pk.err_zero he
  have ho := oOK_len h1
  have hod := (ordB_true h2).1
  have htl := tl_le he
  have htl' : 0 ≤ tl ∧ tl ≤ 65535 := by omega
  have hid := h.id
  have hl := hA.len
  refine own_new (l := pv p A n c) (Own.refl w) fun g w1 H => ?_
  refine ⟨A, n, c, H.cell 0 9 rfl rfl, ?_⟩
  refine let_as ((n : Int) / 4) (by rw [td (by omega), w64 (by omega) (by omega)]) ?_
  refine let_as (69 + (n : Int) / 4) (w64 (by omega) (by omega)) ?_
  refine let_as p.h0 (by rw [w8 (by omega) (by omega)]; unfold Pk.h0 Pk.hl; omega) ?_
  refine ⟨_, H.cell 0 0 rfl rfl, ?_⟩
  refine buf_lit (m := 2) (Buf.nil H) [p.h0, p.tos] rfl (by omega) fun B1 d1 w2 hb => ?_
  rw [List.nil_append] at hb
  refine put2_c hb htl' (by omega) fun B2 d2 w3 hb => ?_
  refine ⟨_, 4, _, rfl, _, hb.own.cell 0 1 rfl rfl, ?_⟩
  refine let_as p.id (w64 (by omega) (by omega)) ?_
  refine put2_c hb hid (by omega) fun B3 d3 w4 hb => ?_
  refine ⟨_, 6, _, rfl, _, hb.own.cell 0 4 rfl rfl, ?_⟩
  refine let_as (p.off / 8) (by rw [td (by omega), w64 (by omega) (by omega)]) ?_
  refine ⟨_, hb.own.cell 0 2 rfl rfl, ?_⟩
  subst et
  replace hb : Buf w w4 [(g, 35, pv p A n c)] B3 6 d3 [p.h0, p.tos, (p.tl : Int) / 256 % 256, (p.tl : Int) % 256, p.id / 256 % 256, p.id % 256] := hb
  refine ifB (fun hd => ?_) (fun hd => ?_)
  · refine let_as (p.off / 8 + 16384) (w64 (by omega) (by omega)) ?_
    refine ⟨?_⟩
    with_reducible apply header_j1 h he hs hA hb (by rw [if_pos hd])
  · refine ⟨?_⟩
    with_reducible apply header_j1 h he hs hA hb (by rw [if_neg (by rw [hd]; decide), Int.add_zero])

/-! ### Build -/
theorem build3_l {w : World} {p : Pk} {g : Nat} {A : Option Addr} {n c : Nat} {B : Option Addr} {m d : Nat} (hB : By w B m p.body) (hm : m ≤ 100000) {F : List Int} (hF : F.length ≤ 100000) {Q : Ending → World → Prop}
    (hQ : ∀ w' C j, Buf w w' [] C (F ++ p.body).length j (F ++ p.body) → Q (.returned (.tuple #[.slice C (F ++ p.body).length j, .int .i64 0])) w') : ∀ (q i : Nat) (wa : World) (C : Option Addr) (k j : Nat), m - i < q → i ≤ m →
    Buf w wa [(g, 37, pb p A n c B m d)] C k j (F ++ p.body.take i) → weftref3_Build.L1 q g C k j (i : Int) wa Q := by
  intro q
  induction q with
  | zero => intro i wa C k j h; omega
  | succ q ih =>
    intro i wa C k j hq hi hb
    have hl := hB.len
    have hk := hb.len
    rw [List.length_append, List.length_take] at hk
    unfold weftref3_Build.L1; intros
    rw [weftref3_Build.l1_eq]
    refine ⟨B, m, d, hb.own.cell 0 10 rfl rfl, ?_⟩
    refine ifD (fun h1 => ?_) (fun h1 => ?_)
    · refine ⟨B, m, d, hb.own.cell 0 10 rfl rfl, ?_⟩
      refine (hB.bel hb.own.bel).rd (by omega) (by omega) fun _ => ?_
      rw [Int.toNat_natCast]
      refine buf_lit (m := 1) hb [p.body.getD i 0] rfl (by omega) fun B' d' wb hb' => ?_
      refine let_as ((i + 1 : Nat) : Int) (by rw [w64 (by omega) (by omega)]; omega) ?_
      have e : p.body.take i ++ [p.body.getD i 0] = p.body.take (i + 1) := by
        rw [List.take_succ_eq_append_getElem (by omega)]
        simp [List.getD_eq_getElem?_getD, show i < p.body.length by omega]
      rw [List.append_assoc, e] at hb'
      exact ih (i + 1) wb B' (k + 1) d' (by omega) (by omega) hb' ..
    · have : i = p.body.length := by omega
      subst this
      rw [List.take_length] at hb
      have e := hb.len
      subst e
      exact hQ _ _ _ hb.alone
theorem Build3_c {w : World} {p : Pk} (h : p.Fine) {A : Option Addr} {n c : Nat} {B : Option Addr} {m d : Nat} (hp : PkAt w p A n c B m d) :
    Calls Try.prog 34 #[.agg (pb p A n c B m d).toArray] w (fun e w' => Bel w w' ∧ ∃ C i j, e = .returned (.tuple #[.slice C i j, .int .i64 p.err]) ∧ (p.err = 0 → i = p.tl ∧ By w' C i (p.bytes p.sum) ∧ i ≤ j ∧ Fre w C) ∧ (p.err ≠ 0 → i = 0)) := by
  refine weftref3_Build.run ?_
  unfold weftref3_Build.s
  have lo := hp.opts.len
  have lb := hp.body.len
  refine own_new (l := pb p A n c B m d) (Own.refl w) fun g1 w2 H => ?_
  refine ld_pkt (H.bk 0 rfl) ?_
  refine call_of (refused_c h (hp.bel H.bel)) ?_
  rintro e w3 ⟨rfl, k1⟩
  replace H := H.call k1
  refine ⟨_, rfl, ?_⟩
  refine ifN (fun h1 => ?_) (fun h1 => ?_)
  · exact ⟨H.bel, none, 0, 0, rfl, fun h => absurd h h1, fun _ => rfl⟩
  obtain ⟨q1, q2, q3⟩ := Pk.err_zero h1
  have htl := tl_le h1
  have hs := Pk.sum_range h h1
  refine ⟨A, n, c, H.cell 0 9 rfl rfl, ?_⟩
  refine let_as (20 + (n : Int)) (w64 (by omega) (by omega)) ?_
  refine ⟨B, m, d, H.cell 0 10 rfl rfl, ?_⟩
  refine let_as (p.tl : Int) (by rw [w64 (by omega) (by omega)]; unfold Pk.tl; omega) ?_
  refine ld_head10 (H.bk 0 rfl) ?_
  refine call_of (header_c h h1 (s := 0) (by omega) (hp.opts.bel H.bel) rfl) ?_
  rintro e w4 ⟨C, j, rfl, b1⟩
  replace H := H.call b1.own.bel
  refine ⟨_, _, _, rfl, ?_⟩
  have y1 := b1.by
  refine own_newB H fun g2 w5 H k5 => ?_
  have hbb := Pk.head_bytes h h1 0
  have hbl := Pk.head_len p 0
  refine call_of (sum31_c (H.bk 0 rfl) (y1.bel k5) hbb (by omega) 1) ?_
  rintro e w6 ⟨rfl, k6⟩
  replace H := (H.call k6).tail
  refine ⟨_, rfl, ?_⟩
  refine ld_head10 (H.bk 0 rfl) ?_
  have es : 65535 - S (tot true (p.head 0)) = p.sum := by
    rw [Pk.head_tot (by omega) (by omega), Int.add_zero]; rfl
  rw [es]
  refine call_of (header_c h h1 (s := p.sum) (by omega) (hp.opts.bel H.bel) rfl) ?_
  rintro e w7 ⟨C2, j2, rfl, b2⟩
  have bb := Buf.join H b2
  refine ⟨_, _, _, rfl, m + 1, ?_⟩
  have hbl2 := Pk.head_len p p.sum
  have := build3_l (g := g1) (A := A) (n := n) (c := c) (d := d) hp.body (by omega) (F := p.head p.sum) (by omega) (Q := fun e w' => Bel w w' ∧ ∃ C i j, e = .returned (.tuple #[.slice C i j, .int .i64 p.err]) ∧ (p.err = 0 → i = p.tl ∧ By w' C i (p.bytes p.sum) ∧ i ≤ j ∧ Fre w C) ∧ (p.err ≠ 0 → i = 0))
    (fun w' C j hb => ⟨hb.own.bel, C, (p.head p.sum ++ p.body).length, j, by rw [h1], fun _ => ⟨Pk.bytes_len p p.sum, hb.by, hb.le, hb.fre⟩, fun hx => absurd h1 hx⟩) (m + 1) 0 w7 C2 _ j2 (by omega) (by omega) (by rw [List.take_zero, List.append_nil]; exact bb)
  exact this ..

/-! ### front, read, Peek -/
theorem front_c {w : World} {A : Option Addr} {n c : Nat} {b : List Int} (h : By w A n b) (hb : Bytes b) (hn : n ≤ 1000000000000) (whole : Bool) :
    Calls Try.prog 86 #[.slice A n c, .bool whole] w (Ret (if badLen whole b = 0 then .tuple #[.int .i64 (hlen b : Int), .int .i64 (wd b 2), .int .i64 0] else .tuple #[.int .i64 0, .int .i64 0, .int .i64 (badLen whole b)]) w) := by
  refine weftref3_front.run ?_
  unfold weftref3_front.s badLen
  have hl := h.len
  have g0 := hb.getD 0
  have hw := wd_range hb 2
  rw [hl]
  refine ifD (fun h1 => ?_) (fun h1 => ?_)
  · simp only [if_pos (show n < 20 by omega)]
    exact ⟨rfl, Bel.refl w⟩
  simp only [if_neg (show ¬ n < 20 by omega)]
  refine h.rd0 (by omega) fun _ => ?_
  refine let_as (b.getD 0 0 / 16) (by rw [td (by omega), w8 (by omega) (by omega)]) ?_
  refine ifN (fun h2 => ?_) (fun h2 => ?_)
  · simp only [if_pos h2]
    exact ⟨rfl, Bel.refl w⟩
  simp only [if_neg (not_not_intro h2)]
  refine h.rd0 (by omega) fun _ => ?_
  refine let_as (b.getD 0 0 % 16) (tm (by omega)) ?_
  refine let_as _ (w64 (by omega) (by omega)) ?_
  refine let_as (hlen b : Int) (by rw [w64 (by omega) (by omega)]; unfold hlen; omega) ?_
  refine ifD (fun h3 => ?_) (fun h3 => ?_)
  · simp only [if_pos (show hlen b < 20 by omega)]
    exact ⟨rfl, Bel.refl w⟩
  simp only [if_neg (show ¬ hlen b < 20 by omega)]
  refine ifD (fun h4 => ?_) (fun h4 => ?_)
  · simp only [if_pos (show n < hlen b by omega)]
    exact ⟨rfl, Bel.refl w⟩
  simp only [if_neg (show ¬ n < hlen b by omega)]
  refine call_of (two_c h hb (i := 2) rfl (by omega) (by omega)) ?_
  rintro e w1 ⟨rfl, k1⟩
  refine ⟨_, rfl, ?_⟩
  refine ifD (fun h5 => ?_) (fun h5 => ?_)
  · simp only [if_pos h5]
    exact ⟨rfl, k1⟩
  simp only [if_neg h5]
  refine ifB (fun h6 => ?_) (fun h6 => ?_)
  · subst h6
    refine ifD (fun h7 => ?_) (fun h7 => ?_)
    · simp only [if_pos (show True ∧ (n : Int) < wd b 2 from ⟨trivial, h7⟩)]
      exact ⟨rfl, k1⟩
    · simp only [if_neg (show ¬ (True ∧ (n : Int) < wd b 2) from fun h => h7 h.2)]
      exact ⟨rfl, k1⟩
  · subst h6
    simp only [Bool.false_eq_true, false_and, if_false]
    exact ⟨rfl, k1⟩
/-- A packet that was read, or why it was refused. -/
def RetRd (w : World) (whole : Bool) (b : List Int) (e : Ending) (w' : World) : Prop := Bel w w' ∧ if bad whole b = 0 then ∃ A1 c1 A2 c2, e = .returned (.tuple #[.agg (hb b A1 (hlen b - 20) c1 ++ [Value.slice A2 (there b - hlen b) c2]).toArray, .int .i64 0]) ∧
      By w' A1 (hlen b - 20) ((b.take (hlen b)).drop 20) ∧ By w' A2 (there b - hlen b) ((b.take (there b)).drop (hlen b)) ∧ hlen b - 20 ≤ c1 ∧ there b - hlen b ≤ c2 ∧ Fre w A1 ∧ Fre w A2
      else e = .returned (.tuple #[.agg (pb pz none 0 0 none 0 0).toArray, .int .i64 (bad whole b)])
end Go.Proofs.YtchdcdmdbjkihaaS
