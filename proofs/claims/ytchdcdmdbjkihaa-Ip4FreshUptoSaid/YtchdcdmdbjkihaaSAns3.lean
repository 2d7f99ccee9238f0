/- Package ip4: what each call answers, with its lists' rooms.
   Conditions: bytes are 0 to 255. -/
import Derived.Test.YtchdcdmdbjkihaaSAns
import Derived.Test.YtchdcdmdbjkihaaSL3A
import Derived.Test.YtchdcdmdbjkihaaSParse
import Derived.Test.YtchdcdmdbjkihaaSAge
import Derived.Test.YtchdcdmdbjkihaaSCop
namespace Go.Proofs.YtchdcdmdbjkihaaS
open Go Go.RowKit Go.Proofs Go.Proofs.YtchdcdmdbjkihaaX
set_option maxRecDepth 100000
set_option linter.unusedVariables false
set_option linter.unusedSectionVars false
set_option linter.unusedSimpArgs false
section
variable {w : World} {A : Option Addr} {n c : Nat} {b : List Int}
theorem pkOut_n : (pkOut b).opts.length ≤ b.length ∧ (pkOut b).body.length ≤ b.length := by
  unfold pkOut
  split
  · exact pkOf_len
  · exact ⟨Nat.zero_le _, Nat.zero_le _⟩
theorem pePk_n : (pePk b).opts.length ≤ b.length ∧ (pePk b).body.length ≤ b.length := by
  unfold pePk
  split
  · exact pkOf_len
  · exact ⟨Nat.zero_le _, Nat.zero_le _⟩
theorem parse_a3 (h : By w A n b) (hb : Bytes b) (hc : n ≤ c) (hn : n ≤ 1000000000) :
    Calls Try.prog 43 #[.slice A n c] w (fun e w' => Bel w w' ∧ ∃ (A' : Option Addr) (n' c' : Nat) (B' : Option Addr) (m' d' : Nat), e = .returned (.tuple #[.agg (pb (pkOut b) A' n' c' B' m' d').toArray, .int .i64 (bad true b)]) ∧ PkAt w' (pkOut b) A' n' c' B' m' d' ∧ Two w w' A' n' c' B' m' d') := by
  refine (Parse4_r h hb hc (by omega)).mono fun e w' hk => ⟨hk.1.1, ?_⟩
  obtain ⟨A', n', c', B', m', d', h1, h2, h3, h4, h5⟩ := hk.2
  have l1 := h2.opts.len
  have l2 := h2.body.len
  have l3 := pkOut_n (b := b)
  have l4 := h.len
  exact ⟨A', n', c', B', m', d', h1, h2, h5, h3, h4, h2.co, h2.cb, by omega, by omega⟩
theorem peek_a3 (h : By w A n b) (hb_ : Bytes b) (hc : n ≤ c) (hn : n ≤ 1000000000) :
    Calls Try.prog 47 #[.slice A n c] w (fun e w' => Bel w w' ∧ ∃ (A' : Option Addr) (n' c' : Nat) (B' : Option Addr) (m' d' : Nat), e = .returned (.tuple #[.agg (pv (pePk b) A' n' c').toArray, .slice B' m' d', .int .i64 (bad false b)]) ∧ PkAt w' (pePk b) A' n' c' B' m' d' ∧ Two w w' A' n' c' B' m' d') := by
  refine (Peek_r h hb_ hc (by omega)).mono fun e w' hk => ⟨hk.1, ?_⟩
  have k := hk.2
  have l3 := pePk_n (b := b)
  have l4 := h.len
  by_cases h0 : bad false b = 0
  · rw [if_pos h0] at k
    obtain ⟨A1, c1, A2, c2, rfl, y1, y2, l1, l2, r1, r2, r3⟩ := k
    have e : pePk b = pkOf b := by unfold pePk; rw [if_pos h0]
    rw [e] at l3 ⊢
    rw [h0]
    have z1 := y1.len
    have z2 := y2.len
    have z3 : (pkOf b).opts.length = hlen b - 20 := z1
    have z4 : (pkOf b).body.length = there b - hlen b := z2
    exact ⟨A1, _, c1, A2, _, c2, rfl, ⟨y1, y2, l1, l2⟩, r3, r1, r2, l1, l2, by omega, by omega⟩
  · rw [if_neg h0] at k
    have e0 : pePk b = pz := by unfold pePk; rw [if_neg h0]
    rw [e0]
    exact ⟨none, 0, 0, none, 0, 0, k, pz_at w', two_nil w w'⟩
theorem RetLB.two {w' : World} {l : List Int} {k : Int} {e : Ending} (h : RetLB w l k e w') (hl : l.length ≤ 1000000000) : Bel w w' ∧ ∃ (A' : Option Addr) (c' : Nat), e = .returned (.tuple #[.slice A' l.length c', .int .i64 k]) ∧ By w' A' l.length l ∧ Two w w' A' l.length c' none 0 0 := by
  obtain ⟨A', c', h1, h2⟩ := h
  exact ⟨h2.own.bel, A', c', h1, h2.by, rm2_one h2.rm, h2.fre, Fre.nil w, h2.le, Nat.le_refl _, hl, Nat.zero_le _⟩
end
section
variable {w0 w : World} {g : Nat} {R : List Blk} {Zb : Int} {P Q : Option Addr} {pc qc : Nat} {o : Op3} {Z : Option Addr} {zn zc : Nat} {Y : Option Addr} {yn yc : Nat} {A : Option Addr} {n c : Nat} {B : Option Addr} {m d : Nat}
theorem kept_c {gi : Nat} {l : List Int} {C : Option Addr} {cc : Nat} (hi : By w (some ⟨gi, 0, none⟩) (n + 64) (l ++ rm)) (h : By w C n l) (hn : n ≤ 10000000000000) : Calls Try.prog 40 #[.slice (some ⟨gi, 0, none⟩) (n + 64) (n + 64), .slice C n cc] w (Yes w) := by
  refine weftlaw3_kept.run ?_
  unfold weftlaw3_kept.s
  refine call_of (roomy_c h hn) ?_
  rintro e w1 ⟨gn, rfl, k1⟩
  refine ⟨_, _, _, rfl, ?_⟩
  refine call_of (same_t (hi.bel k1.bel) (room_by k1 0 rfl rfl).2 (by omega)) ?_
  rintro e w2 ⟨rfl, k2⟩
  exact ⟨_, rfl, rfl, k1.bel.trans k2⟩
def RetT3 (w0 : World) (g : Nat) (R : List Blk) (Zb : Int) (P : Option Addr) (pc : Nat) (Q : Option Addr) (qc : Nat) (gi n : Nat) (e : Ending) (w' : World) : Prop := e = .returned (.bool true) ∧ ∃ l' : List Int, l'.length = n ∧ Bytes l' ∧ Hold w0 w' g ((gi, 5, bv (l' ++ rm)) :: R) Zb P pc Q qc
theorem turned_l1 (ho : o.Fine) (h : OpAt w0 o Z zn zc Y yn yc A n c B m d) {gi g1 g2 : Nat} {N : Nat} (hN : N ≤ 1000000000) : ∀ (q i : Nat) (w : World) (l : List Int), 2 - i < q → i ≤ 2 → l.length = N → Bytes l →
    Hold w0 w g ((g2, 39, opv o (some ⟨gi, 0, none⟩) N (N + 64) Y yn yc A n c B m d) :: (g1, 39, opv o Z zn zc Y yn yc A n c B m d) :: (gi, 5, bv (l ++ rm)) :: R) Zb P pc Q qc →
    weftlaw3_turned.L1 q (some ⟨gi, 0, none⟩) N (N + 64) (N : Int) g2 (i : Int) w (RetT3 w0 g R Zb P pc Q qc gi N) := by
  intro q
  induction q with
  | zero => intro i w l hq; omega
  | succ q ih =>
    intro i w l hq hi hl hb H
    unfold weftlaw3_turned.L1; intros
    rw [weftlaw3_turned.l1_eq]
    refine ifD (fun h1 => ?_) (fun h1 => ⟨rfl, l, hl, hb, H.tail.tail⟩)
    refine ifD (fun h2 => ?_) (fun h2 => ⟨rfl, l, hl, hb, H.tail.tail⟩)
    refine ⟨?_⟩
    rw [weftlaw3_turned.j1_eq]
    refine let_as ((N : Int) - 1) (w64 (by omega) (by omega)) ?_
    refine let_as (1 - (i : Int)) (w64 (by omega) (by omega)) ?_
    obtain ⟨k, hk, hkN⟩ : ∃ k : Nat, ((N : Int) - 1) * (1 - (i : Int)) = (k : Int) ∧ k < N := by
      rcases (by omega : i = 0 ∨ i = 1) with rfl | rfl
      · exact ⟨N - 1, by omega, by omega⟩
      · exact ⟨0, by omega, by omega⟩
    refine let_as (k : Int) (by rw [hk, w64 (by omega) (by omega)]) ?_
    refine ⟨_, rfl, ⟨by omega, by omega⟩, l.getD k 0, ?_, ?_⟩
    · rw [Int.toNat_natCast, add_blk, Nat.zero_add]
      have := (H.own.bk 2 rfl).cell k (bv_get (l ++ rm) k (by rw [List.length_append]; omega))
      rw [getD_room (by omega)] at this
      exact this
    refine let_id ?_
    refine ⟨_, rfl, ⟨by omega, by omega⟩, ?_⟩
    rw [Int.toNat_natCast, add_blk, Nat.zero_add]
    refine hold_set 2 H rfl (by rw [bv_len, List.length_append]; omega) fun w1 H1 => ?_
    rw [bv_set, set_room (by omega)] at H1
    have hr := xor8 (hb.getD k) (show (0 : Int) ≤ 1 ∧ (1 : Int) ≤ 255 by decide)
    generalize Go.bits .xor .u8 (l.getD k 0) 1 = y at H1 hr ⊢
    have hb' := bset hb k hr
    have hl' : (l.set k y).length = N := by rw [List.length_set]; exact hl
    generalize l.set k y = l' at H1 hb' hl'
    replace H1 : Hold w0 w1 g ((g2, 39, opv o (some ⟨gi, 0, none⟩) N (N + 64) Y yn yc A n c B m d) :: (g1, 39, opv o Z zn zc Y yn yc A n c B m d) :: (gi, 5, bv (l' ++ rm)) :: R) Zb P pc Q qc := H1
    refine ⟨_, _, _, _, _, _, _, _, _, _, _, _, _, _, _, _, _, _, _, _, _, _, _, _, _, ⟨rfl, (H1.own.bk 0 rfl).at⟩, ?_⟩
    have hop : OpAt w1 { o with b := l' } (some ⟨gi, 0, none⟩) N (N + 64) Y yn yc A n c B m d := ⟨(room_by H1.own 2 rfl hl').1, Nat.le_add_right _ _, h.ps.bel H1.own.bel, h.p.bel H1.own.bel⟩
    have hof : ({ o with b := l' } : Op3).Fine := ⟨hb', by show l'.length ≤ _; omega, ho.ps, ho.lp, ho.ln, ho.x, ho.y, ho.z, ho.p⟩
    have hpl : Calls Try.prog 33 #[.agg (opv o (some ⟨gi, 0, none⟩) N (N + 64) Y yn yc A n c B m d).toArray] w1 (Yes w1) := plays_t (o := { o with b := l' }) hof hop
    refine call_of hpl ?_
    rintro e w2 ⟨rfl, k2⟩
    refine ⟨_, rfl, ifNot (fun h => by cases h) (fun _ => ?_)⟩
    refine let_as ((i + 1 : Nat) : Int) (by rw [w64 (by omega) (by omega)]; omega) ?_
    have kk := ih (i + 1) w2 l' (by omega) (by omega) hl' hb' (H1.call k2)
    with_reducible apply kk
theorem turned_t (ho : o.Fine) (h : OpAt w0 o Z zn zc Y yn yc A n c B m d) {gi : Nat} {N : Nat} (hN : N ≤ 1000000000) {l : List Int} (hl : l.length = N) (hb : Bytes l) (H : Hold w0 w g ((gi, 5, bv (l ++ rm)) :: R) Zb P pc Q qc) :
    Calls Try.prog 46 #[.agg (opv o Z zn zc Y yn yc A n c B m d).toArray, .slice (some ⟨gi, 0, none⟩) N (N + 64)] w (RetT3 w0 g R Zb P pc Q qc gi N) := by
  refine weftlaw3_turned.run ?_
  unfold weftlaw3_turned.s
  refine hold_new (l := opv o Z zn zc Y yn yc A n c B m d) H fun g1 w1 H => ?_
  refine ⟨_, _, _, _, _, _, _, _, _, _, _, _, _, _, _, _, _, _, _, _, _, _, _, _, _, ⟨rfl, (H.own.bk 0 rfl).at⟩, ?_⟩
  refine hold_mk (opv zop none 0 0 none 0 0 none 0 0 none 0 0) H rfl rfl fun g2 w2 H => ?_
  refine hold_set 0 H rfl (Nat.lt_of_lt_of_le (by decide : 1 < 17) (Nat.le_refl 17)) fun w3 H => ?_
  obtain ⟨q, hq⟩ : ∃ q : Nat, q = 3 := ⟨3, rfl⟩
  refine ⟨q, ?_⟩
  have kk : weftlaw3_turned.L1 q (some ⟨gi, 0, none⟩) N (N + 64) (N : Int) g2 0 w3 (RetT3 w0 g R Zb P pc Q qc gi N) := turned_l1 ho h hN q 0 w3 l (by omega) (by omega) hl hb H
  with_reducible apply kk
end
end Go.Proofs.YtchdcdmdbjkihaaS
