/- What Copied of packages ip4 and weftref3 answers.
   Conditions: bytes are 0 to 255; lists are no longer than memory lets. -/
import Derived.Test.YtchdcdmdbjkihaaSAge
namespace Go.Proofs.YtchdcdmdbjkihaaS
open Go Go.RowKit Go.Proofs Go.Proofs.YtchdcdmdbjkihaaX
set_option maxRecDepth 100000
set_option linter.unusedVariables false
set_option linter.unusedSectionVars false
set_option linter.unusedSimpArgs false

def copL (o : List Int) : List Int := if oOK o = true then pad (cop o) else []
def copE (o : List Int) : Int := if oOK o = true then 0 else 34
theorem pad_stop {a : List Int} (h : a.length % 4 = 0) : pad a = a := by unfold pad padZ; rw [h]; simp
theorem pad_more {a : List Int} (h : a.length % 4 ≠ 0) : pad a = pad (a ++ [0]) := by
  unfold pad padZ
  obtain ⟨d, hd⟩ : ∃ d, (4 - a.length % 4) % 4 = d + 1 := ⟨(4 - a.length % 4) % 4 - 1, by omega⟩
  have hd2 : (4 - (a ++ [0]).length % 4) % 4 = d := by rw [List.length_append, List.length_singleton]; omega
  rw [hd2, hd, List.append_assoc, List.replicate_succ]
  rfl
theorem cop4_pad {w : World} : ∀ (q : Nat) (a : List Int) (n c : Nat) (B : Option Addr) (wa : World), (4 - n % 4) % 4 < q → n ≤ 1000000 → Buf w wa [] B n c a → ip4_Copied.L2 q B n c wa (RetLB w (pad a) 0) := by
  intro q
  induction q with
  | zero => intro a n c B wa h; omega
  | succ q ih =>
    intro a n c B wa hq hn H
    have hl := H.len
    unfold ip4_Copied.L2; intros
    rw [ip4_Copied.l2_eq]
    refine let_as ((n % 4 : Nat) : Int) (by rw [tm (by omega)]; omega) ?_
    refine ifN (fun h1 => ?_) (fun h1 => ?_)
    · refine buf_lit (m := 1) H [0] rfl (by omega) fun B' d' wb hb' => ?_
      rw [pad_more (by omega)]
      have k := ih (a ++ [0]) (n + 1) d' B' wb (by omega) (by omega) hb'
      with_reducible apply k
    · rw [pad_stop (by omega)]
      subst hl
      exact ⟨_, _, rfl, H⟩
theorem cop4_l {w : World} {A : Option Addr} {n c : Nat} {o : List Int} (h : By w A n o) (hb : Bytes o) (hn : n ≤ 40) (hc : n ≤ c) : ∀ (q i : Nat) (a : List Int) (m d : Nat) (B : Option Addr) (wa : World), n - i < q → i ≤ n → area (o.drop i) = true → m ≤ i → Buf w wa [] B m d a →
    ip4_Copied.L1 q A n c B m d (i : Int) wa (RetLB w (pad (a ++ cop (o.drop i))) 0) := by
  intro q
  induction q with
  | zero => intro i a m d B wa h; omega
  | succ q ih =>
    intro i a m d B wa hq hi ha hm H
    have hl := h.len
    have stop : cop (o.drop i) = [] → ip4_Copied.J2 B m d wa (RetLB w (pad (a ++ cop (o.drop i))) 0) := by
      intro e
      unfold ip4_Copied.J2; intros
      rw [ip4_Copied.j2_eq, e, List.append_nil]
      have k := cop4_pad 5 a m d B wa (by omega) (by omega) H
      exact ⟨5, by with_reducible apply k⟩
    unfold ip4_Copied.L1; intros
    rw [ip4_Copied.l1_eq]
    refine ifD (fun h1 => ?_) (fun h1 => ?_)
    · refine (h.bel H.own.bel).rd (by omega) (by omega) fun _ => ?_
      rw [Int.toNat_natCast]
      have hlt : i < o.length := by omega
      refine ifN (fun h0 => ?_) (fun h0 => ?_)
      · refine ⟨?_⟩
        rw [ip4_Copied.j1_eq]
        refine (h.bel H.own.bel).rd (by omega) (by omega) fun _ => ?_
        rw [Int.toNat_natCast]
        rcases area_next hlt with ⟨_, e2⟩ | ⟨j, e1, e2, e3, e4⟩
        · rw [e2] at ha; cases ha
        have ec := cop_next hlt hb e1
        rw [e4] at ha
        have g0 := hb.getD i
        have g1 := hb.getD (i + 1)
        have eg : o.getD i 0 = o[i] := by simp [List.getD_eq_getElem?_getD, hlt]
        have next : ∀ (z : Int), z = (j : Int) - i → ip4_Copied.J3 q A n c B m d (i : Int) z wa (RetLB w (pad (a ++ cop (o.drop i))) 0) := by
          intro z hz
          unfold ip4_Copied.J3; intros
          rw [ip4_Copied.j3_eq]
          refine (h.bel H.own.bel).rd (by omega) (by omega) fun _ => ?_
          rw [Int.toNat_natCast]
          refine let_id ?_
          have h8 := and_128 g0.1 g0.2
          have ew : IntKind.i64.wrap ((i : Int) + z) = (j : Int) := by rw [w64 (by omega) (by omega)]; omega
          refine ifN (fun h9 => ?_) (fun h9 => ?_)
          · refine let_as (j : Int) ew ?_
            refine ⟨⟨by omega, by omega⟩, ⟨by omega, by omega⟩, ?_⟩
            rw [Int.toNat_natCast]
            refine buf_app H ((h.bel H.own.bel).mid (k := i) (j := j) (m := c) (by omega) (by omega) hc) (by omega) fun B' d' wb H' => ?_
            refine let_as (j : Int) ew ?_
            rw [ec, if_neg (fun hx => h9 (h8.2 hx)), ← List.append_assoc]
            have k := ih j (a ++ (o.take j).drop i) (m + (j - i)) d' B' wb (by omega) (by omega) ha (by omega) H'
            with_reducible apply k
          · refine let_as (j : Int) ew ?_
            rw [ec, if_pos (h8.1 (Decidable.of_not_not (fun hx => hx h9))), List.nil_append]
            have k := ih j a m d B wa (by omega) (by omega) ha (by omega) H
            with_reducible apply k
        refine ifN (fun h2 => ?_) (fun h2 => ?_)
        · have hb1 : bhd o i = -1 ∨ (i + 1 < o.length ∧ bhd o i = (i : Int) + o.getD (i + 1) 0) := by
            unfold bhd
            rw [if_neg h2, if_neg h0]
            split
            · exact Or.inl rfl
            split
            · exact Or.inl rfl
            split
            · exact Or.inl rfl
            · right
              refine ⟨by omega, by omega⟩
          rcases hb1 with hb1 | ⟨hb1, hb2⟩
          · omega
          refine let_as ((i + 1 : Nat) : Int) (by rw [w64 (by omega) (by omega)]; omega) ?_
          refine (h.bel H.own.bel).rd (by omega) (by omega) fun _ => ?_
          rw [Int.toNat_natCast]
          refine let_as _ (w64 (by omega) (by omega)) ?_
          have k := next (o.getD (i + 1) 0) (by omega)
          exact ⟨by with_reducible apply k⟩
        · have hb1 : bhd o i = (i : Int) + 1 := by unfold bhd; rw [if_pos h2]; omega
          have k := next 1 (by omega)
          exact ⟨by with_reducible apply k⟩
      · have k := stop (by
          rw [List.drop_eq_getElem_cons hlt]
          have eg : o.getD i 0 = o[i] := by simp [List.getD_eq_getElem?_getD, hlt]
          rw [← eg, h0]
          rcases o.drop (i + 1) with _ | ⟨x, r⟩
          · simp [cop]
          · rw [cop, if_pos rfl])
        exact ⟨by with_reducible apply k⟩
    · have k := stop (by rw [List.drop_eq_nil_of_le (by omega)]; simp [cop])
      exact ⟨by with_reducible apply k⟩
theorem area_of {o : List Int} (h : oOK o = true) : area o = true := by
  simp [oOK] at h
  exact h.2.2
theorem Copied4_c {w : World} {A : Option Addr} {n c : Nat} {o : List Int} (h : By w A n o) (hb : Bytes o) (hc : n ≤ c) (hn : n ≤ 1000000000000000) : Calls Try.prog 52 #[.slice A n c] w (RetLB w (copL o) (copE o)) := by
  refine ip4_Copied.run ?_
  unfold ip4_Copied.s
  refine call_of (options_c h hb hc hn) ?_
  rintro e w1 ⟨rfl, k1⟩
  refine ⟨_, rfl, ?_⟩
  refine ifNot (fun h1 => ?_) (fun h1 => ?_)
  · unfold copL copE
    rw [if_neg (by rw [h1]; decide), if_neg (by rw [h1]; decide)]
    exact RetLB.no k1 _
  · unfold copL copE
    rw [if_pos h1, if_pos h1]
    have ho := (oOK_len h1).1
    have hl := h.len
    have k := cop4_l (c := c) h hb (by omega) hc (n + 1) 0 [] 0 0 none w1 (by omega) (by omega) (by rw [List.drop_zero]; exact area_of h1) (Nat.le_refl 0) (Buf.nil ((Own.refl w).call k1))
    rw [List.nil_append, List.drop_zero] at k
    refine ⟨n + 1, ?_⟩
    have k2 : ip4_Copied.L1 (n + 1) A n c none 0 0 0 w1 (RetLB w (pad (cop o)) 0) := k
    with_reducible apply k2
theorem cop3_pad {w : World} : ∀ (q : Nat) (a : List Int) (n c : Nat) (B : Option Addr) (wa : World), (4 - n % 4) % 4 < q → n ≤ 1000000 → Buf w wa [] B n c a → weftref3_Copied.L3 q B n c wa (RetLB w (pad a) 0) := by
  intro q
  induction q with
  | zero => intro a n c B wa h; omega
  | succ q ih =>
    intro a n c B wa hq hn H
    have hl := H.len
    unfold weftref3_Copied.L3; intros
    rw [weftref3_Copied.l3_eq]
    refine let_as ((n % 4 : Nat) : Int) (by rw [tm (by omega)]; omega) ?_
    refine ifN (fun h1 => ?_) (fun h1 => ?_)
    · refine buf_lit (m := 1) H [0] rfl (by omega) fun B' d' wb hb' => ?_
      rw [pad_more (by omega)]
      have k := ih (a ++ [0]) (n + 1) d' B' wb (by omega) (by omega) hb'
      with_reducible apply k
    · rw [pad_stop (by omega)]
      subst hl
      exact ⟨_, _, rfl, H⟩
theorem cop3_l2 {w : World} {A : Option Addr} {n c : Nat} {o : List Int} (h : By w A n o) (hn : n ≤ 40) {j i0 q0 : Nat} (hj : j ≤ n) (a : List Int) {Q : Ending → World → Prop}
    (hk : ∀ (m d : Nat) (B : Option Addr) (wa : World), m ≤ j → Buf w wa [] B m d (a ++ (o.take j).drop i0) → weftref3_Copied.L1 q0 A n c B m d (j : Int) wa Q) : ∀ (q i : Nat) (m d : Nat) (B : Option Addr) (wa : World), j - i < q → i0 ≤ i → i ≤ j → m ≤ i → Buf w wa [] B m d (a ++ (o.take i).drop i0) →
    weftref3_Copied.L2 q0 q A n c B m d (j : Int) (i : Int) wa Q := by
  intro q
  induction q with
  | zero => intro i m d B wa h; omega
  | succ q ih =>
    intro i m d B wa hq h0 hi hm H
    have hl := h.len
    unfold weftref3_Copied.L2; intros
    rw [weftref3_Copied.l2_eq]
    refine ifD (fun h1 => ?_) (fun h1 => ?_)
    · refine (h.bel H.own.bel).rd (by omega) (by omega) fun _ => ?_
      rw [Int.toNat_natCast]
      refine buf_lit (m := 1) H [o.getD i 0] rfl (by omega) fun B' d' wb hb' => ?_
      refine let_as ((i + 1 : Nat) : Int) (by rw [w64 (by omega) (by omega)]; omega) ?_
      have e : (a ++ (o.take i).drop i0) ++ [o.getD i 0] = a ++ (o.take (i + 1)).drop i0 := by
        rw [List.append_assoc, List.take_succ_eq_append_getElem (by omega), List.drop_append_of_le_length (by rw [List.length_take]; omega)]
        simp [List.getD_eq_getElem?_getD, show i < o.length by omega]
      rw [e] at hb'
      have k := ih (i + 1) (m + 1) d' B' wb (by omega) (by omega) (by omega) (by omega) hb'
      with_reducible apply k
    · have : i = j := by omega
      subst this
      have k := hk m d B wa hm H
      with_reducible apply k
theorem cop3_l {w : World} {A : Option Addr} {n c : Nat} {o : List Int} (h : By w A n o) (hb : Bytes o) (hn : n ≤ 40) (hc : n ≤ c) : ∀ (q i : Nat) (a : List Int) (m d : Nat) (B : Option Addr) (wa : World), n - i < q → i ≤ n → area (o.drop i) = true → m ≤ i → Buf w wa [] B m d a →
    weftref3_Copied.L1 q A n c B m d (i : Int) wa (RetLB w (pad (a ++ cop (o.drop i))) 0) := by
  intro q
  induction q with
  | zero => intro i a m d B wa h; omega
  | succ q ih =>
    intro i a m d B wa hq hi ha hm H
    have hl := h.len
    unfold weftref3_Copied.L1; intros
    rw [weftref3_Copied.l1_eq]
    refine ifD (fun h1 => ?_) (fun h1 => ?_)
    · have hlt : i < o.length := by omega
      refine call_of (behind_c (h.bel H.own.bel) hb (by omega) rfl (by omega)) ?_
      rintro e w1 ⟨rfl, k1⟩
      replace H := H.call k1
      rcases area_next hlt with ⟨_, e2⟩ | ⟨j, e1, e2, e3, e4⟩
      · rw [e2] at ha; cases ha
      have ec := cop_next hlt hb e1
      rw [e4] at ha
      rw [e1]
      refine ⟨_, rfl, ?_⟩
      refine (h.bel H.own.bel).rd (by omega) (by omega) fun _ => ?_
      rw [Int.toNat_natCast]
      refine ifD (fun h2 => ?_) (fun h2 => ?_)
      · refine ⟨j - i + 1, ?_⟩
        rw [ec, if_neg (by omega), ← List.append_assoc]
        have k := cop3_l2 (c := c) (i0 := i) (q0 := q) h hn (j := j) (by omega) a (Q := RetLB w (pad (a ++ (o.take j).drop i ++ cop (o.drop j))) 0) (fun m' d' B' wb hm' H' => ih j _ m' d' B' wb (by omega) (by omega) ha hm' H') (j - i + 1) i m d B w1 (by omega) (Nat.le_refl i) (by omega) hm
          (by rw [List.drop_eq_nil_of_le (by rw [List.length_take]; omega), List.append_nil]; exact H)
        with_reducible apply k
      · rw [ec, if_pos (by omega), List.nil_append]
        have k := ih j a m d B w1 (by omega) (by omega) ha (by omega) H
        with_reducible apply k
    · rw [List.drop_eq_nil_of_le (by omega), show cop [] = [] by simp [cop], List.append_nil]
      have k := cop3_pad 5 a m d B wa (by omega) (by omega) H
      exact ⟨5, by with_reducible apply k⟩
theorem Copied3_c {w : World} {A : Option Addr} {n c : Nat} {o : List Int} (h : By w A n o) (hb : Bytes o) (hc : n ≤ c) : Calls Try.prog 53 #[.slice A n c] w (RetLB w (copL o) (copE o)) := by
  refine weftref3_Copied.run ?_
  unfold weftref3_Copied.s
  refine call_of (area3_c h hb) ?_
  rintro e w1 ⟨rfl, k1⟩
  refine ⟨_, rfl, ?_⟩
  refine ifNot (fun h1 => ?_) (fun h1 => ?_)
  · unfold copL copE
    rw [if_neg (by rw [h1]; decide), if_neg (by rw [h1]; decide)]
    exact RetLB.no k1 _
  · unfold copL copE
    rw [if_pos h1, if_pos h1]
    have ho := (oOK_len h1).1
    have hl := h.len
    have k := cop3_l (c := c) h hb (by omega) hc (n + 1) 0 [] 0 0 none w1 (by omega) (by omega) (by rw [List.drop_zero]; exact area_of h1) (Nat.le_refl 0) (Buf.nil ((Own.refl w).call k1))
    rw [List.nil_append, List.drop_zero] at k
    refine ⟨n + 1, ?_⟩
    have k2 : weftref3_Copied.L1 (n + 1) A n c none 0 0 0 w1 (RetLB w (pad (cop o)) 0) := k
    with_reducible apply k2
end Go.Proofs.YtchdcdmdbjkihaaS
