/- Package weftlaw3, law.go: every step is as the document says; so every script.
   Conditions: the arguments are as a row's arguments are. -/
import Derived.Test.YtchdcdmdbjkihaaSLawS
namespace Go.Proofs.YtchdcdmdbjkihaaS
open Go Go.RowKit Go.Proofs Go.Proofs.YtchdcdmdbjkihaaX
set_option maxRecDepth 100000
set_option linter.unusedVariables false
set_option linter.unusedSectionVars false
set_option linter.unusedSimpArgs false

/-! ### answers, alike for both -/
def pePk (b : List Int) : Pk := if bad false b = 0 then pkOf b else pz
theorem pe_out {w w' : World} {b : List Int} {e : Ending} (h : Bel w w' ∧ if bad false b = 0 then ∃ A1 c1 A2 c2, e = .returned (.tuple #[.agg (hb b A1 (hlen b - 20) c1).toArray, .slice A2 (there b - hlen b) c2, .int .i64 0]) ∧
      By w' A1 (hlen b - 20) ((b.take (hlen b)).drop 20) ∧ By w' A2 (there b - hlen b) ((b.take (there b)).drop (hlen b)) ∧ hlen b - 20 ≤ c1 ∧ there b - hlen b ≤ c2 ∧ Fre w A1 ∧ Fre w A2
      else e = .returned (.tuple #[.agg hz.toArray, .slice none 0 0, .int .i64 (bad false b)])) :
    Bel w w' ∧ ∃ A n c B m d, e = .returned (.tuple #[.agg (pv (pePk b) A n c).toArray, .slice B m d, .int .i64 (bad false b)]) ∧ PkAt w' (pePk b) A n c B m d ∧ Fre w A ∧ Fre w B := by
  obtain ⟨k, h⟩ := h
  refine ⟨k, ?_⟩
  by_cases h0 : bad false b = 0
  · rw [if_pos h0] at h
    obtain ⟨A1, c1, A2, c2, rfl, y1, y2, l1, l2, r1, r2⟩ := h
    have e : pePk b = pkOf b := by unfold pePk; rw [if_pos h0]
    rw [e, h0]
    exact ⟨A1, _, c1, A2, _, c2, rfl, ⟨y1, y2, l1, l2⟩, r1, r2⟩
  · rw [if_neg h0] at h
    have e0 : pePk b = pz := by unfold pePk; rw [if_neg h0]
    rw [e0]
    exact ⟨none, 0, 0, none, 0, 0, h, pz_at w', Fre.nil w, Fre.nil w⟩
theorem pkOf_len {b : List Int} : (pkOf b).opts.length ≤ b.length ∧ (pkOf b).body.length ≤ b.length := by
  unfold pkOf
  simp only [List.length_drop, List.length_take]
  omega
theorem pkOut_len {b : List Int} : (pkOut b).opts.length ≤ b.length ∧ (pkOut b).body.length ≤ b.length := by
  unfold pkOut
  split
  · exact pkOf_len
  · exact ⟨Nat.zero_le _, Nat.zero_le _⟩
theorem pePk_len {b : List Int} : (pePk b).opts.length ≤ b.length ∧ (pePk b).body.length ≤ b.length := by
  unfold pePk
  split
  · exact pkOf_len
  · exact ⟨Nat.zero_le _, Nat.zero_le _⟩
theorem bldL_len {p : Pk} : (bldL p).length ≤ 65535 := by
  unfold bldL
  split
  · rename_i h
    rw [Pk.bytes_len]
    exact (Pk.err_zero h).2.2
  · exact Nat.zero_le _
theorem ageL_len {b : List Int} (hb : Bytes b) (hn : b.length ≤ 1000000000000) : (ageL b).length ≤ 65535 := by
  unfold ageL
  split
  · rename_i h
    split
    · exact Nat.zero_le _
    · rw [Pk.bytes_len]
      exact (Pk.err_zero (holds hb (by omega) h).err).2.2
  · exact Nat.zero_le _
theorem copL_len {o : List Int} : (copL o).length ≤ 40 := by
  unfold copL
  split
  · rename_i h
    have h1 := (oOK_len h).1
    have h2 := (copied_ok h).2.2
    omega
  · exact Nat.zero_le _

/-! ### join -/
theorem join_l2 {w : World} {A : Option Addr} {n c : Nat} {ps : List (List Int)} (hp : Bys w A n ps) (hf : ps.flatten.length ≤ 10000000000) (hn : n ≤ 1000000000000) {j q0 : Nat} (hj : j < n) {Q : Ending → World → Prop}
    (hk : ∀ (m d : Nat) (B : Option Addr) (wa : World), Buf w wa [] B m d (ps.take (j + 1)).flatten → weftlaw3_join.L1 q0 A n c B m d ((j + 1 : Nat) : Int) wa Q) : ∀ (q i : Nat) (m d : Nat) (B : Option Addr) (wa : World), (ps.getD j []).length - i < q → i ≤ (ps.getD j []).length → Buf w wa [] B m d ((ps.take j).flatten ++ (ps.getD j []).take i) →
    weftlaw3_join.L2 q0 q A n c B m d (j : Int) (i : Int) wa Q := by
  have hl := hp.1
  have eg : ps.getD j [] = ps[j]'(by omega) := by simp [List.getD_eq_getElem?_getD, show j < ps.length by omega]
  have ef : (ps.take (j + 1)).flatten = (ps.take j).flatten ++ ps.getD j [] := by
    rw [List.take_succ_eq_append_getElem (by omega), List.flatten_append, eg]
    simp
  have hle : ((ps.take j).flatten ++ ps.getD j []).length ≤ ps.flatten.length := by
    rw [← ef]
    have := congrArg List.length (congrArg List.flatten (List.take_append_drop (j + 1) ps))
    rw [List.flatten_append, List.length_append] at this
    omega
  rw [List.length_append] at hle
  obtain ⟨a, rfl, hc⟩ := hp.2 (by omega)
  obtain ⟨C, p, r, h1, h2⟩ := hc j hj
  have l2 := h2.len
  intro q
  induction q with
  | zero => intro i m d B wa h; omega
  | succ q ih =>
    intro i m d B wa hq hi H
    have hlb := H.len
    rw [List.length_append, List.length_take] at hlb
    unfold weftlaw3_join.L2; intros
    rw [weftlaw3_join.l2_eq]
    refine ⟨a, rfl, ⟨by omega, by omega⟩, C, p, r, by rw [Int.toNat_natCast]; exact H.own.bel.cellb h1, ?_⟩
    refine ifD (fun h3 => ?_) (fun h3 => ?_)
    · refine ⟨a, rfl, ⟨by omega, by omega⟩, C, p, r, by rw [Int.toNat_natCast]; exact H.own.bel.cellb h1, ?_⟩
      refine (h2.bel H.own.bel).rd (by omega) (by omega) fun _ => ?_
      refine buf_lit (m := 1) H [(ps.getD j []).getD i 0] rfl (by omega) fun B' d' wb hb' => ?_
      refine let_as ((i + 1 : Nat) : Int) (by rw [w64 (by omega) (by omega)]; omega) ?_
      have e : (ps.take j).flatten ++ (ps.getD j []).take i ++ [(ps.getD j []).getD i 0] = (ps.take j).flatten ++ (ps.getD j []).take (i + 1) := by
        rw [List.append_assoc, List.take_succ_eq_append_getElem (by omega)]
        simp only [List.getD_eq_getElem?_getD (l := ps.getD j []), List.getElem?_eq_getElem (show i < (ps.getD j []).length by omega), Option.getD_some]
      rw [e] at hb'
      have k := ih (i + 1) (m + 1) d' B' wb (by omega) (by omega) hb'
      with_reducible apply k
    · refine let_as ((j + 1 : Nat) : Int) (by rw [w64 (by omega) (by omega)]; omega) ?_
      have : i = (ps.getD j []).length := by omega
      rw [this, List.take_length, ← ef] at H
      have k := hk m d B wa H
      with_reducible apply k
theorem join_l1 {w : World} {A : Option Addr} {n c : Nat} {ps : List (List Int)} (hp : Bys w A n ps) (hf : ps.flatten.length ≤ 10000000000) (hn : n ≤ 1000000000000) : ∀ (q j : Nat) (m d : Nat) (B : Option Addr) (wa : World), n - j < q → j ≤ n → Buf w wa [] B m d (ps.take j).flatten →
    weftlaw3_join.L1 q A n c B m d (j : Int) wa (RetBuf w ps.flatten) := by
  have hl := hp.1
  intro q
  induction q with
  | zero => intro j m d B wa h; omega
  | succ q ih =>
    intro j m d B wa hq hj H
    unfold weftlaw3_join.L1; intros
    rw [weftlaw3_join.l1_eq]
    refine ifD (fun h1 => ?_) (fun h1 => ?_)
    · refine ⟨(ps.getD j []).length + 1, ?_⟩
      have k : weftlaw3_join.L2 q ((ps.getD j []).length + 1) A n c B m d (j : Int) 0 wa (RetBuf w ps.flatten) := join_l2 (c := c) hp hf hn (j := j) (q0 := q) (by omega) (fun m' d' B' wb H' => ih (j + 1) m' d' B' wb (by omega) (by omega) H') _ 0 m d B wa (by omega) (by omega) (by rw [List.take_zero, List.append_nil]; exact H)
      with_reducible apply k
    · rw [List.take_of_length_le (by omega)] at H
      have hlb := H.len
      subst hlb
      exact ⟨B, d, rfl, H⟩
theorem join_c {w : World} {A : Option Addr} {n c : Nat} {ps : List (List Int)} (hp : Bys w A n ps) (hf : ps.flatten.length ≤ 10000000000) (hn : n ≤ 1000000000000) : Calls Try.prog 54 #[.slice A n c] w (RetBuf w ps.flatten) := by
  refine weftlaw3_join.run ?_
  unfold weftlaw3_join.s
  refine ⟨n + 1, ?_⟩
  have k : weftlaw3_join.L1 (n + 1) A n c none 0 0 0 w (RetBuf w ps.flatten) := join_l1 (c := c) hp hf hn (n + 1) 0 0 0 none w (by omega) (by omega) (Buf.nil (Own.refl w))
  with_reducible apply k

/-! ### a step -/
structure Op3 where
  k : Int
  b : List Int
  ps : List (List Int)
  x : Int
  y : Int
  z : Int
  p : Pk
structure Op3.Fine (o : Op3) : Prop where
  b : Bytes o.b
  lb : o.b.length ≤ 1000000000
  ps : ∀ p ∈ o.ps, Bytes p
  lp : o.ps.flatten.length ≤ 1000000000
  ln : o.ps.length ≤ 1000000000
  x : 0 ≤ o.x ∧ o.x ≤ 65535
  y : 0 ≤ o.y ∧ o.y ≤ 65535
  z : 0 ≤ o.z ∧ o.z ≤ 65535
  p : o.p.Fine
def opv (o : Op3) (Z : Option Addr) (zn zc : Nat) (Y : Option Addr) (yn yc : Nat) (A : Option Addr) (n c : Nat) (B : Option Addr) (m d : Nat) : List Value :=
  [.int .i64 o.k, .slice Z zn zc, .slice Y yn yc, .int .u16 o.x, .int .u16 o.y, .int .u16 o.z] ++ pb o.p A n c B m d
structure OpAt (w : World) (o : Op3) (Z : Option Addr) (zn zc : Nat) (Y : Option Addr) (yn yc : Nat) (A : Option Addr) (n c : Nat) (B : Option Addr) (m d : Nat) : Prop where
  b : By w Z zn o.b
  cb : zn ≤ zc
  ps : Bys w Y yn o.ps
  p : PkAt w o.p A n c B m d
section
variable {w w1 : World} {o : Op3} {Z : Option Addr} {zn zc : Nat} {Y : Option Addr} {yn yc : Nat} {A : Option Addr} {n c : Nat} {B : Option Addr} {m d : Nat} {g t : Nat}
theorem OpAt.bel (h : OpAt w o Z zn zc Y yn yc A n c B m d) (k : Bel w w1) : OpAt w1 o Z zn zc Y yn yc A n c B m d := ⟨h.b.bel k, h.cb, h.ps.bel k, h.p.bel k⟩
theorem opv_pkt (h : Bk w g t (opv o Z zn zc Y yn yc A n c B m d)) : At w ⟨g, 6, none⟩ (pb o.p A n c B m d) := by
  have := at_mid [.int .i64 o.k, .slice Z zn zc, .slice Y yn yc, .int .u16 o.x, .int .u16 o.y, .int .u16 o.z] (mid := pb o.p A n c B m d) (post := []) (o := 6) (by rw [List.append_nil]; exact h) rfl
  exact this
theorem ld_pktA {w : World} {g o : Nat} {a0 a1 : Int} {a2 a3 : Bool} {a4 a5 a6 a7 a8 : Int} {A : Option Addr} {n c : Nat} {B : Option Addr} {m d : Nat} (h : At w ⟨g, o, none⟩ (hv a0 a1 a2 a3 a4 a5 a6 a7 a8 A n c ++ [.slice B m d]))
    {K : Int → Int → Bool → Bool → Int → Int → Int → Int → Int → Option Addr → Nat → Nat → Option Addr → Nat → Nat → Prop} (k : K a0 a1 a2 a3 a4 a5 a6 a7 a8 A n c B m d) :
    ∃ x0 : Int, ∃ x1 : Int, ∃ x2 : Bool, ∃ x3 : Bool, ∃ x4 : Int, ∃ x5 : Int, ∃ x6 : Int, ∃ x7 : Int, ∃ x8 : Int, ∃ (C : Option Addr) (i j : Nat), ∃ (D : Option Addr) (i' j' : Nat),
      (11 = 11 ∧ At w ⟨g, o, none⟩ [.int .u8 x0, .int .u16 x1, .bool x2, .bool x3, .int .i64 x4, .int .u8 x5, .int .u8 x6, .int .u32 x7, .int .u32 x8, .slice C i j, .slice D i' j']) ∧ K x0 x1 x2 x3 x4 x5 x6 x7 x8 C i j D i' j' :=
  ⟨_, _, _, _, _, _, _, _, _, _, _, _, _, _, _, ⟨rfl, h⟩, k⟩
theorem numbers_t (ho : o.Fine) (h : OpAt w o Z zn zc Y yn yc A n c B m d) : Calls Try.prog 66 #[.agg (opv o Z zn zc Y yn yc A n c B m d).toArray] w (Yes w) := by
  refine weftlaw3_numbers.run ?_
  unfold weftlaw3_numbers.s
  have l1 := ho.ln
  have l2 := h.ps.1
  have l3 := ho.lp
  have hfb : Bytes o.ps.flatten := fun x hx => by
    obtain ⟨p, hp, hx⟩ := List.mem_flatten.1 hx
    exact ho.ps p hp x hx
  refine own_new (l := opv o Z zn zc Y yn yc A n c B m d) (Own.refl w) fun g1 w1 H => ?_
  refine ⟨_, H.cell 0 0 rfl rfl, ?_⟩
  refine ifE (fun _ => ?_) (fun _ => ?_)
  · refine ⟨_, _, _, H.cell 0 2 rfl rfl, ?_⟩
    refine call_of (sum_c (h.ps.bel H.bel) ho.ps (by omega) (by omega)) ?_
    rintro e w2 ⟨rfl, k2⟩
    replace H := H.call k2
    refine ⟨_, rfl, _, _, _, H.cell 0 2 rfl rfl, ?_⟩
    refine call_of (join_c (h.ps.bel H.bel) (by omega) (by omega)) ?_
    rintro e w3 ⟨A3, c3, rfl, b3⟩
    replace H := H.call b3.own.bel
    refine ⟨_, _, _, rfl, ?_⟩
    have y3 := b3.by
    refine own_newB H fun g4 w4 H k4 => ?_
    refine call_of (sum31_c (H.bk 0 rfl) (y3.bel k4) hfb (by omega) 1) ?_
    rintro e w5 ⟨rfl, k5⟩
    refine ⟨_, rfl, ?_⟩
    exact ⟨by simp, H.bel.trans k5⟩
  · refine ⟨_, H.cell 0 3 rfl rfl, _, H.cell 0 4 rfl rfl, _, H.cell 0 5 rfl rfl, ?_⟩
    refine call_of (Adjust_c _ ho.x ho.y ho.z) ?_
    rintro e w2 ⟨rfl, k2⟩
    replace H := H.call k2
    refine ⟨_, rfl, _, H.cell 0 3 rfl rfl, _, H.cell 0 4 rfl rfl, _, H.cell 0 5 rfl rfl, ?_⟩
    refine call_of (Adjust3_c _ ho.x ho.y ho.z) ?_
    rintro e w3 ⟨rfl, k3⟩
    exact ⟨_, rfl, by simp, H.bel.trans k3⟩
theorem plays_j1 (ho : o.Fine) (h : OpAt w o Z zn zc Y yn yc A n c B m d) {w1 : World} {g1 : Nat} (H : Own w w1 [(g1, 39, opv o Z zn zc Y yn yc A n c B m d)]) (k : Int) (b : Bool) : weftlaw3_plays.J1 g1 k b w1 (Yes w) := by
  unfold weftlaw3_plays.J1; intros
  rw [weftlaw3_plays.j1_eq]
  have lz := h.b.len
  have l1 := ho.lb
  refine ifB (fun _ => ?_) (fun _ => ?_)
  · refine ⟨_, _, _, _, _, _, _, _, _, _, _, _, _, _, _, _, _, _, _, _, _, _, _, _, _, ⟨rfl, (H.bk 0 rfl).at⟩, ?_⟩
    refine call_of (numbers_t ho (h.bel H.bel)) ?_
    rintro e w2 ⟨rfl, k2⟩
    exact ⟨_, rfl, rfl, H.bel.trans k2⟩
  refine ifE (fun _ => ?_) (fun _ => ?_)
  · refine ⟨_, _, _, H.cell 0 1 rfl rfl, ?_⟩
    refine call_of (Parse4_c (h.b.bel H.bel) ho.b h.cb (by omega)) ?_
    intro e w2 he
    obtain ⟨k2, A1, n1, c1, B1, m1, d1, rfl, y1, _, _⟩ := rd_out he
    replace H := H.call k2
    refine ⟨_, _, _, _, _, _, _, _, _, _, _, _, _, _, _, _, rfl, ?_⟩
    refine own_mk (pb pz none 0 0 none 0 0) H rfl rfl fun g2 w3 H k3 _ => ?_
    replace y1 := y1.bel k3
    refine ⟨_, _, _, H.cell 1 1 rfl rfl, ?_⟩
    refine call_of (Parse3_c (h.b.bel H.bel) ho.b h.cb (by omega)) ?_
    intro e w4 he
    obtain ⟨k4, A2, n2, c2, B2, m2, d2, rfl, y2, _, _⟩ := rd_out he
    replace H := H.call k4
    replace y1 := y1.bel k4
    refine ⟨_, _, _, _, _, _, _, _, _, _, _, _, _, _, _, _, rfl, ?_⟩
    refine own_mk (pb pz none 0 0 none 0 0) H rfl rfl fun g3 w5 H k5 _ => ?_
    replace y1 := y1.bel k5
    replace y2 := y2.bel k5
    refine ifE (fun _ => ?_) (fun h => absurd rfl h)
    replace H : Own w w5 [(g3, 37, pb (pkOut o.b) A2 n2 c2 B2 m2 d2), (g2, 37, pb (pkOut o.b) A1 n1 c1 B1 m1 d1), (g1, 39, opv o Z zn zc Y yn yc A n c B m d)] := H
    refine ld_pkt (H.bk 1 rfl) ?_
    refine ld_pkt (H.bk 0 rfl) ?_
    have e1 := y1.opts.len
    have e2 := y1.body.len
    have e3 := pkOut_len (b := o.b)
    refine call_of (packets_t y1 y2 (by omega) (by omega)) ?_
    rintro e w6 ⟨rfl, k6⟩
    exact ⟨_, rfl, rfl, H.bel.trans k6⟩
  refine ifE (fun _ => ?_) (fun _ => ?_)
  · refine ⟨_, _, _, H.cell 0 1 rfl rfl, ?_⟩
    refine call_of (Peek_c (h.b.bel H.bel) ho.b h.cb (by omega)) ?_
    intro e w2 he
    obtain ⟨k2, A1, n1, c1, B1, m1, d1, rfl, y1, _, _⟩ := pe_out he
    replace H := H.call k2
    refine ⟨_, _, _, _, _, _, _, _, _, _, _, _, _, _, _, _, rfl, ?_⟩
    refine own_mk hz H rfl rfl fun g2 w3 H k3 _ => ?_
    replace y1 := y1.bel k3
    refine ⟨_, _, _, H.cell 1 1 rfl rfl, ?_⟩
    refine call_of (Peek3_c (h.b.bel H.bel) ho.b h.cb (by omega)) ?_
    intro e w4 he
    obtain ⟨k4, A2, n2, c2, B2, m2, d2, rfl, y2, _, _⟩ := pe_out he
    replace H := H.call k4
    replace y1 := y1.bel k4
    refine ⟨_, _, _, _, _, _, _, _, _, _, _, _, _, _, _, _, rfl, ?_⟩
    refine own_mk hz H rfl rfl fun g3 w5 H k5 _ => ?_
    replace y1 := y1.bel k5
    replace y2 := y2.bel k5
    refine ifE (fun _ => ?_) (fun h => absurd rfl h)
    replace H : Own w w5 [(g3, 35, pv (pePk o.b) A2 n2 c2), (g2, 35, pv (pePk o.b) A1 n1 c1), (g1, 39, opv o Z zn zc Y yn yc A n c B m d)] := H
    refine ld_head (H.bk 1 rfl) ?_
    refine ld_head (H.bk 0 rfl) ?_
    have e1 := y1.opts.len
    have e2 := y1.body.len
    have e3 := pePk_len (b := o.b)
    refine call_of (heads_t y1.opts y2.opts (by omega)) ?_
    rintro e w6 ⟨rfl, k6⟩
    refine ⟨_, rfl, ifB (fun _ => ?_) (fun h => by cases h)⟩
    refine call_of (same_t (y1.body.bel k6) (y2.body.bel k6) (by omega)) ?_
    rintro e w7 ⟨rfl, k7⟩
    exact ⟨_, rfl, rfl, (H.bel.trans k6).trans k7⟩
  refine ifE (fun _ => ?_) (fun _ => ?_)
  · refine ld_pktA (opv_pkt (H.bk 0 rfl)) ?_
    have hp := h.p.bel H.bel
    refine call_of (BuildB_c ho.p hp.opts hp.body hp.co) ?_
    intro e w2 he
    obtain ⟨k2, A1, c1, rfl, y1, _, _⟩ := he.le
    replace H := H.call k2
    refine ⟨_, _, _, _, rfl, ?_⟩
    refine ld_pktA (opv_pkt (H.bk 0 rfl)) ?_
    refine call_of (Build3B_c ho.p (h.p.bel H.bel)) ?_
    rintro e w3 ⟨k3, A2, c2, rfl, y2, _, _⟩
    replace H := H.call k3
    refine ⟨_, _, _, _, rfl, ?_⟩
    refine ifE (fun _ => ?_) (fun h => absurd rfl h)
    have e3 := bldL_len (p := o.p)
    refine call_of (same_t (y1.bel k3) y2 (by omega)) ?_
    rintro e w4 ⟨rfl, k4⟩
    exact ⟨_, rfl, rfl, H.bel.trans k4⟩
  refine ifE (fun _ => ?_) (fun _ => ?_)
  · refine ⟨_, _, _, H.cell 0 1 rfl rfl, ?_⟩
    refine call_of (Age4_c (h.b.bel H.bel) ho.b h.cb (by omega)) ?_
    intro e w2 he
    obtain ⟨k2, A1, c1, rfl, y1, _, _⟩ := he.le
    replace H := H.call k2
    refine ⟨_, _, _, _, rfl, _, _, _, H.cell 0 1 rfl rfl, ?_⟩
    refine call_of (Age3_c (h.b.bel H.bel) ho.b h.cb (by omega)) ?_
    rintro e w3 ⟨k3, A2, c2, rfl, y2, _, _⟩
    replace H := H.call k3
    refine ⟨_, _, _, _, rfl, ?_⟩
    refine ifE (fun _ => ?_) (fun h => absurd rfl h)
    have e3 := ageL_len ho.b (by omega)
    refine call_of (same_t (y1.bel k3) y2 (by omega)) ?_
    rintro e w4 ⟨rfl, k4⟩
    exact ⟨_, rfl, rfl, H.bel.trans k4⟩
  refine ifE (fun _ => ?_) (fun _ => ?_)
  · refine ⟨_, _, _, H.cell 0 1 rfl rfl, ?_⟩
    refine call_of (Copied4_c (h.b.bel H.bel) ho.b h.cb (by omega)) ?_
    intro e w2 he
    obtain ⟨k2, A1, c1, rfl, y1, _, _⟩ := he.le
    replace H := H.call k2
    refine ⟨_, _, _, _, rfl, _, _, _, H.cell 0 1 rfl rfl, ?_⟩
    refine call_of (Copied3_c (h.b.bel H.bel) ho.b h.cb) ?_
    intro e w3 he
    obtain ⟨k3, A2, c2, rfl, y2, _, _⟩ := he.le
    replace H := H.call k3
    refine ⟨_, _, _, _, rfl, ?_⟩
    refine ifE (fun _ => ?_) (fun h => absurd rfl h)
    have e3 := copL_len (o := o.b)
    refine call_of (same_t (y1.bel k3) y2 (by omega)) ?_
    rintro e w4 ⟨rfl, k4⟩
    exact ⟨_, rfl, rfl, H.bel.trans k4⟩
  · exact ⟨rfl, H.bel⟩
theorem plays_t (ho : o.Fine) (h : OpAt w o Z zn zc Y yn yc A n c B m d) : Calls Try.prog 33 #[.agg (opv o Z zn zc Y yn yc A n c B m d).toArray] w (Yes w) := by
  refine weftlaw3_plays.run ?_
  unfold weftlaw3_plays.s
  refine own_new (l := opv o Z zn zc Y yn yc A n c B m d) (Own.refl w) fun g1 w1 H => ?_
  refine ⟨_, H.cell 0 0 rfl rfl, ?_⟩
  refine ifE (fun _ => ?_) (fun _ => ?_)
  · have k := plays_j1 ho h H o.k (o.k == 1)
    exact ⟨by with_reducible apply k⟩
  · have k := plays_j1 ho h H o.k (o.k == 2)
    exact ⟨by with_reducible apply k⟩
end
theorem pz_fine : pz.Fine := ⟨by decide, by decide, by decide, by decide, by decide, by decide, by decide, Bytes.nil, Bytes.nil, by decide, by decide⟩
def sm3 : Pk := ⟨0, 7216, true, false, 0, 64, 6, 167838211, 167904004, [], [1, 2, 3]⟩
theorem sm3_fine : sm3.Fine := by
  refine ⟨by decide, by decide, by decide, by decide, by decide, by decide, by decide, Bytes.nil, ?_, by decide, by decide⟩
  intro x hx
  revert x
  decide
theorem sm3_err : sm3.err = 0 := Pk.err_of (by simp [sm3, oOK, area]) (by simp [sm3, ordB]) (by simp [sm3])
theorem bldL_bytes {p : Pk} (h : p.Fine) : Bytes (bldL p) := by
  unfold bldL
  split
  · rename_i h0
    exact Pk.bytes_bytes h h0 _
  · exact Bytes.nil
theorem head_t (w : World) (k : Int) : Calls Try.prog 8 #[.int .i64 k] w (Yes w) := by
  refine weftlaw3_head.run ?_
  unfold weftlaw3_head.s
  have z : (0 : Int) ≤ 0 ∧ (0 : Int) ≤ 65535 := by decide
  have fz : ∀ (k : Int) (b : List Int), Bytes b → b.length ≤ 1000000000 → (⟨k, b, [], 0, 0, 0, pz⟩ : Op3).Fine := fun k b hb hl => ⟨hb, hl, (fun p hp => by cases hp), Nat.zero_le _, Nat.zero_le _, z, z, z, pz_fine⟩
  have bz : ∀ w' : World, Bys w' none 0 [] := fun w' => ⟨rfl, fun h => absurd h (Nat.lt_irrefl 0)⟩
  refine own_new (l := bv [1, 2, 3]) (Own.refl w) fun g1 w1 H => ?_
  refine own_mk (pb pz none 0 0 none 0 0) (vs := pb sm3 none 0 0 (some ⟨g1, 0, none⟩) 3 3) H rfl rfl fun g3 w3 H k3 hg3 => ?_
  refine ld_pkt (H.bk 0 rfl) ?_
  have y0 : PkAt w3 sm3 none 0 0 (some ⟨g1, 0, none⟩) 3 3 := ⟨By.nil _ _, (H.bk 1 rfl).by, Nat.le_refl _, Nat.le_refl _⟩
  refine call_of (Build3B_c sm3_fine y0) ?_
  rintro e w4 ⟨k4, A1, c1, rfl, y1, l1, f1⟩
  replace H := H.call k4
  replace y0 := y0.bel k4
  refine ⟨_, _, _, _, rfl, ?_⟩
  refine ifE (fun _ => ?_) (fun _ => ?_)
  · refine own_new (l := bv [1]) H fun g5 w5 H => ?_
    refine own_new (l := bv [2, 3]) H fun g6 w6 H => ?_
    refine own_newB (l := [.slice (some ⟨g5, 0, none⟩) 1 1, .slice (some ⟨g6, 0, none⟩) 2 2]) H fun g7 w7 H k7 => ?_
    have hB : Bys w7 (some ⟨g7, 0, none⟩) 2 [[1], [2, 3]] := Bys.two (H.bk 0 rfl) (H.bk 2 rfl).by (H.bk 1 rfl).by
    refine call_of (plays_t (o := ⟨1, [], [[1], [2, 3]], 0, 0, 0, pz⟩) ⟨Bytes.nil, by decide, ?_, by decide, by decide, z, z, z, pz_fine⟩ (Z := none) (zn := 0) (zc := 0) (Y := some ⟨g7, 0, none⟩) (yn := 2) (yc := 2) (A := none) (n := 0) (c := 0) (B := none) (m := 0) (d := 0) ⟨By.nil _ _, Nat.le_refl _, hB, pz_at _⟩) ?_
    · intro p hp x hx
      rcases List.mem_cons.1 hp with rfl | hp
      · revert x; decide
      · rw [List.mem_singleton.1 hp] at hx
        revert x; decide
    rintro e w8' ⟨rfl, k8⟩
    exact ⟨_, rfl, rfl, H.bel.trans k8⟩
  refine ifE (fun _ => ?_) (fun _ => ?_)
  · refine call_of (plays_t (o := ⟨2, [], [], 4660, 16390, 16134, pz⟩) ⟨Bytes.nil, by decide, (fun p hp => by cases hp), by decide, by decide, by decide, by decide, by decide, pz_fine⟩ (Z := none) (zn := 0) (zc := 0) (Y := none) (yn := 0) (yc := 0) (A := none) (n := 0) (c := 0) (B := none) (m := 0) (d := 0) ⟨By.nil _ _, Nat.le_refl _, bz _, pz_at _⟩) ?_
    rintro e w5 ⟨rfl, k5⟩
    exact ⟨_, rfl, rfl, H.bel.trans k5⟩
  refine ifE (fun _ => ?_) (fun _ => ?_)
  · refine ld_pkt (H.bk 0 rfl) ?_
    refine call_of (plays_t (o := ⟨5, [], [], 0, 0, 0, sm3⟩) ⟨Bytes.nil, by decide, (fun p hp => by cases hp), by decide, by decide, z, z, z, sm3_fine⟩ (Z := none) (zn := 0) (zc := 0) (Y := none) (yn := 0) (yc := 0) (A := none) (n := 0) (c := 0) (B := some ⟨g1, 0, none⟩) (m := 3) (d := 3) ⟨By.nil _ _, Nat.le_refl _, bz _, y0⟩) ?_
    rintro e w5 ⟨rfl, k5⟩
    exact ⟨_, rfl, rfl, H.bel.trans k5⟩
  refine ifE (fun _ => ?_) (fun _ => ?_)
  · refine own_new (l := bv [131, 3, 4, 1]) H fun g5 w5 H => ?_
    refine call_of (plays_t (o := ⟨7, [131, 3, 4, 1], [], 0, 0, 0, pz⟩) (fz 7 _ (by intro x hx; revert x; decide) (by decide)) (Z := some ⟨g5, 0, none⟩) (zn := 4) (zc := 4) (Y := none) (yn := 0) (yc := 0) (A := none) (n := 0) (c := 0) (B := none) (m := 0) (d := 0) ⟨(H.bk 0 rfl).by, Nat.le_refl _, bz _, pz_at _⟩) ?_
    rintro e w6 ⟨rfl, k6⟩
    exact ⟨_, rfl, rfl, H.bel.trans k6⟩
  · have e3 := bldL_len (p := sm3)
    refine call_of (plays_t (o := ⟨k, bldL sm3, [], 0, 0, 0, pz⟩) (fz k _ (bldL_bytes sm3_fine) (by omega)) (Z := A1) (zn := (bldL sm3).length) (zc := c1) (Y := none) (yn := 0) (yc := 0) (A := none) (n := 0) (c := 0) (B := none) (m := 0) (d := 0) ⟨y1, l1, bz _, pz_at _⟩) ?_
    rintro e w6 ⟨rfl, k6⟩
    exact ⟨_, rfl, rfl, H.bel.trans k6⟩

/-! ### scripts -/
/-- The slice A[:n] holds steps. -/
def Scr (w : World) (A : Option Addr) (n : Nat) : Prop := 0 < n → ∃ a, A = some a ∧ ∀ i, i < n → ∃ (o : Op3) (Z : Option Addr) (zn zc : Nat) (Y : Option Addr) (yn yc : Nat) (A : Option Addr) (n c : Nat) (B : Option Addr) (m d : Nat),
  At w (a.add (i * 17)) (opv o Z zn zc Y yn yc A n c B m d) ∧ o.Fine ∧ OpAt w o Z zn zc Y yn yc A n c B m d
/-- .. no longer than memory lets. -/
def ScrS (w : World) (A : Option Addr) (n : Nat) : Prop := 0 < n → ∃ a, A = some a ∧ ∀ i, i < n → ∃ (o : Op3) (Z : Option Addr) (zn zc : Nat) (Y : Option Addr) (yn yc : Nat) (A : Option Addr) (n c : Nat) (B : Option Addr) (m d : Nat),
  At w (a.add (i * 17)) (opv o Z zn zc Y yn yc A n c B m d) ∧ o.Fine ∧ OpAt w o Z zn zc Y yn yc A n c B m d ∧ o.p.opts.length ≤ 1000000000 ∧ o.p.body.length ≤ 1000000000
def zop : Op3 := ⟨0, [], [], 0, 0, 0, pz⟩
theorem At.bel {w w' : World} {a : Addr} {l : List Value} (h : At w a l) (k : Bel w w') : At w' a l := fun j u hu => k.cellb (h j u hu)
theorem upTo_l2 {w0 : World} {A : Option Addr} {n c : Nat} (hs : Scr w0 A n) (hn : n ≤ 1000000000000000) (lo hi : Int) : ∀ (q i : Nat) (w : World), n - i < q → i ≤ n → Bel w0 w → weftlaw3_upTo.L2 q A n c lo hi (i : Int) w (Yes w0) := by
  intro q
  induction q with
  | zero => intro i w h; omega
  | succ q ih =>
    intro i w hq hi2 hb
    unfold weftlaw3_upTo.L2; intros
    rw [weftlaw3_upTo.l2_eq]
    refine ifD (fun h1 => ?_) (fun h1 => ⟨rfl, hb⟩)
    obtain ⟨a, ea, hc⟩ := hs (by omega)
    obtain ⟨o, Z, zn, zc, Y, yn, yc, A1, n1, c1, B1, m1, d1, hat, hof, hoa⟩ := hc i (by omega)
    refine ⟨a, ea, ⟨by omega, by omega⟩, ?_⟩
    rw [Int.toNat_natCast]
    refine ⟨_, _, _, _, _, _, _, _, _, _, _, _, _, _, _, _, _, _, _, _, _, _, _, _, _, ⟨rfl, hat.bel hb⟩, ?_⟩
    refine own_mk (opv zop none 0 0 none 0 0 none 0 0 none 0 0) (Own.refl w) rfl rfl fun g1 w1 H k1 _ => ?_
    replace H : Own w w1 [(g1, 39, opv o Z zn zc Y yn yc A1 n1 c1 B1 m1 d1)] := H
    have kb := Bel.trans hb H.bel
    refine ⟨_, H.cell 0 0 rfl rfl, ?_⟩
    refine ifD (fun h2 => ?_) (fun h2 => ?_)
    · refine ⟨_, H.cell 0 0 rfl rfl, ?_⟩
      refine ifD (fun h3 => ?_) (fun h3 => ?_)
      · refine ⟨_, _, _, _, _, _, _, _, _, _, _, _, _, _, _, _, _, _, _, _, _, _, _, _, _, ⟨rfl, (H.bk 0 rfl).at⟩, ?_⟩
        refine call_of (plays_t hof (hoa.bel kb)) ?_
        rintro e w2 ⟨rfl, k2⟩
        refine ⟨_, rfl, ifNot (fun h => by cases h) (fun _ => ?_)⟩
        refine let_as ((i + 1 : Nat) : Int) (by rw [w64 (by omega) (by omega)]; omega) ?_
        have k := ih (i + 1) w2 (by omega) (by omega) (Bel.trans kb k2)
        with_reducible apply k
      · refine let_as ((i + 1 : Nat) : Int) (by rw [w64 (by omega) (by omega)]; omega) ?_
        have k := ih (i + 1) w1 (by omega) (by omega) kb
        with_reducible apply k
    · refine let_as ((i + 1 : Nat) : Int) (by rw [w64 (by omega) (by omega)]; omega) ?_
      have k := ih (i + 1) w1 (by omega) (by omega) kb
      with_reducible apply k
theorem upTo_l1 {w0 : World} {A : Option Addr} {n c : Nat} (hs : Scr w0 A n) (hn : n ≤ 1000000000000000) (lo hi : Int) (hhi : hi ≤ 100) : ∀ (q : Nat) (k : Int) (w : World), (hi + 1 - k).toNat < q → 0 ≤ k → k ≤ 101 → Bel w0 w → weftlaw3_upTo.L1 q A n c lo hi k w (Yes w0) := by
  intro q
  induction q with
  | zero => intro k w h; omega
  | succ q ih =>
    intro k w hq hk0 hk1 hb
    unfold weftlaw3_upTo.L1; intros
    rw [weftlaw3_upTo.l1_eq]
    refine ifD (fun h1 => ?_) (fun h1 => ?_)
    · refine call_of (head_t w k) ?_
      rintro e w1 ⟨rfl, k1⟩
      refine ⟨_, rfl, ifNot (fun h => by cases h) (fun _ => ?_)⟩
      refine let_as (k + 1) (w64 (by omega) (by omega)) ?_
      have kk := ih (k + 1) w1 (by omega) (by omega) (by omega) (Bel.trans hb k1)
      with_reducible apply kk
    · refine ⟨n + 1, ?_⟩
      have kk : weftlaw3_upTo.L2 (n + 1) A n c lo hi 0 w (Yes w0) := upTo_l2 (c := c) hs hn lo hi (n + 1) 0 w (by omega) (by omega) hb
      with_reducible apply kk
theorem upTo_t {w : World} {A : Option Addr} {n c : Nat} (hs : Scr w A n) (hn : n ≤ 1000000000000000) {lo hi : Int} (h0 : 0 ≤ lo) (h1 : lo ≤ 101) (hhi : hi ≤ 100) : Calls Try.prog 7 #[.slice A n c, .int .i64 lo, .int .i64 hi] w (Yes w) := by
  refine weftlaw3_upTo.run ?_
  unfold weftlaw3_upTo.s
  refine ⟨(hi + 1 - lo).toNat + 1, ?_⟩
  have k := upTo_l1 (c := c) hs hn lo hi hhi ((hi + 1 - lo).toNat + 1) lo w (by omega) h0 h1 (Bel.refl w)
  with_reducible apply k
theorem Ip4All_t {w : World} {A : Option Addr} {n c : Nat} (h : Scr w A n ∧ n ≤ 1000000000000) : Calls Try.prog 3 #[.slice A n c] w (Yes w) := by
  refine weftlaw3_Ip4All.run ?_
  unfold weftlaw3_Ip4All.s
  refine call_of (upTo_t h.1 (by omega) (by decide) (by decide) (by decide)) ?_
  rintro e w1 ⟨rfl, k1⟩
  exact ⟨_, rfl, rfl, k1⟩
end Go.Proofs.YtchdcdmdbjkihaaS
