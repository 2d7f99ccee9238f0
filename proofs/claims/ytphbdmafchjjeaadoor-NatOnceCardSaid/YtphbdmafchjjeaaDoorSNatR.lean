/- Package weftlaw23: NatOnce: the steps.
   Conditions: the table of package bits stands in memory; the script is short. -/
import Derived.Test.YtphbdmafchjjeaaDoorSNatQ
namespace Go.Proofs.YtphbdmafchjjeaaDoorS
open Go Go.RowKit Go.Proofs Go.Proofs.YtphbdmafchjjeaaDoorX
set_option maxRecDepth 100000
set_option linter.unusedVariables false
set_option linter.unusedSectionVars false
set_option linter.unusedSimpArgs false

/-- What holds between the steps: Ports, and the list of what is held. -/
def NSt (w0 w : World) (gP gm lo hi i : Nat) (A : Option Addr) (n c : Nat) : Prop := ∃ us o l, Pts w0 w gP gm lo hi us (Option.toList o) [] ∧ RV 49 2 o A n c (pps l) ∧ Iv us l lo hi ∧ n ≤ i
section
variable {w0 : World} {gP gm lo hi : Nat} {Y : Option Addr} {sn sc : Nat} {q i : Nat} (hi1 : i < sn) (hs : sn ≤ 1000000000000)
  (hK : ∀ (w' : World) (A' : Option Addr) (n' c' : Nat), NSt w0 w' gP gm lo hi (i + 1) A' n' c' → weftlaw23_NatOnce.L1 q (lo : Int) (hi : Int) Y sn sc (some ⟨gP, 0, none⟩) A' n' c' ((i + 1 : Nat) : Int) w' (Yes w0))
  {us : List Us} {o : Option Blk} {l : List (Int × Int)} {A : Option Addr} {n c : Nat} {x : Int × Int} {g : Nat} {Bs : List Blk}
include hi1 hs hK
theorem once_j2 {w : World} (P : Pts w0 w gP gm lo hi us ((g, 49, ppd x) :: (Bs ++ o.toList)) []) (rv : RV 49 2 o A n c (pps l)) (iv : Iv us (l ++ [x]) lo hi) (hn : n ≤ i) :
    weftlaw23_NatOnce.J2 q (lo : Int) (hi : Int) Y sn sc (some ⟨gP, 0, none⟩) A n c (i : Int) g w (Yes w0) := by
  unfold weftlaw23_NatOnce.J2; intros
  rw [weftlaw23_NatOnce.j2_eq]
  refine ⟨_, _, ⟨rfl, (P.bk 0 rfl).at⟩, ?_⟩
  refine pts_new (l := ppd x) P fun g3 w4 P4 k4 => ?_
  have P5 : Pts w0 w4 gP gm lo hi us (o.toList ++ ((g3, 49, ppd x) :: (g, 49, ppd x) :: Bs)) [] := P4.reb (List.perm_append_comm (l₁ := (g3, 49, ppd x) :: (g, 49, ppd x) :: Bs))
  refine pts_app (bytes := 4) (zs := [.int .u8 0, .int .u16 0]) rfl P5 rv (v := ppd x) rfl rfl (P4.bk 0 rfl).at (by omega) (by omega) fun o' A' c' wb P6 rv' => ?_
  refine let_as ((i + 1 : Nat) : Int) (by rw [w64 (by omega) (by omega)]; omega) ?_
  exact hK wb A' (n + 1) c' ⟨us, o', l ++ [x], (P6.reb List.perm_append_comm).less, by rw [pps_app]; exact rv', iv, by omega⟩ ..
theorem once_l2 (rv : RV 49 2 o A n c (pps l)) (iv : Iv us (l.filter fun y => !decide (y = x)) lo hi) (hn : n ≤ i) : ∀ (p j : Nat) (w : World) (o2 : Option Blk) (A2 : Option Addr) (n2 c2 : Nat), n - j < p → j ≤ n →
    Pts w0 w gP gm lo hi us (o2.toList ++ ((g, 49, ppd x) :: (Bs ++ o.toList))) [] → RV 49 2 o2 A2 n2 c2 (pps ((l.take j).filter fun y => !decide (y = x))) → n2 ≤ j →
    weftlaw23_NatOnce.L2 q p (lo : Int) (hi : Int) Y sn sc (some ⟨gP, 0, none⟩) A n c (i : Int) g 0 A2 n2 c2 (j : Int) w (Yes w0) := by
  intro p
  induction p with
  | zero => intro j w o2 A2 n2 c2 hq; omega
  | succ p ih =>
    intro j w o2 A2 n2 c2 hq hj P rv2 h2
    have pl : Pls w A n l := rv.pls fun y hy => P.mem (List.mem_append.2 (Or.inr (List.mem_cons_of_mem _ (List.mem_append.2 (Or.inr hy)))))
    have hg : Bk w g 49 (ppd x) := P.mem (x := (g, 49, ppd x)) (List.mem_append.2 (Or.inr List.mem_cons_self))
    have ln := pl.1
    unfold weftlaw23_NatOnce.L2; intros
    rw [weftlaw23_NatOnce.l2_eq]
    refine ifD (fun h1 => ?_) (fun h1 => ?_)
    · have hj2 : j < n := by omega
      have ef : (l.take (j + 1)).filter (fun y => !decide (y = x)) = (l.take j).filter (fun y => !decide (y = x)) ++ [l.getD j (0, 0)].filter (fun y => !decide (y = x)) := by
        rw [← take_snoc (d := ((0, 0) : Int × Int)) (by omega : j < l.length), List.filter_append]
      refine drawsR fun w2 k2 => ?_
      obtain ⟨a, ea, hat⟩ := pl.rd hj2
      refine ⟨a, ea, ⟨by omega, by omega⟩, _, _, ⟨rfl, fun w' h => hat.bel h⟩, _, _, ⟨rfl, fun w' h => (hg.bel h).at⟩, ?_⟩
      rw [eqV_pp]
      refine ifNot (fun h5 => ?_) (fun h5 => ?_)
      · have hne : l.getD j (0, 0) ≠ x := of_decide_eq_false h5
        have e1 : [l.getD j (0, 0)].filter (fun y => !decide (y = x)) = [l.getD j (0, 0)] := by rw [List.filter_cons_of_pos (by simp only [decide_eq_false hne]; rfl), List.filter_nil]
        rw [e1] at ef
        refine ⟨a, ea, ⟨by omega, by omega⟩, _, _, ⟨rfl, hat.bel k2⟩, ?_⟩
        refine pts_new (l := ppd (l.getD j (0, 0))) (P.call k2) fun g11 w12 P12 k12 => ?_
        refine pts_app (bytes := 4) (zs := [.int .u8 0, .int .u16 0]) rfl (P12.reb List.perm_middle.symm) rv2 (v := ppd (l.getD j (0, 0))) rfl rfl (P12.bk 0 rfl).at (by omega) (by omega) fun o' A' c' wb P6 rv' => ?_
        refine let_as ((j + 1 : Nat) : Int) (by rw [w64 (by omega) (by omega)]; omega) ?_
        exact ih (j + 1) wb o' A' (n2 + 1) c' (by omega) (by omega) (Pts.less (L := [(g11, 49, ppd (l.getD j (0, 0)))]) (P6.reb List.perm_middle)) (by rw [ef, pps_app]; exact rv') (by omega) ..
      · have he : l.getD j (0, 0) = x := of_decide_eq_true h5
        have e1 : [l.getD j (0, 0)].filter (fun y => !decide (y = x)) = [] := by rw [List.filter_cons_of_neg (by simp only [decide_eq_true he]; exact Bool.false_ne_true), List.filter_nil]
        rw [e1, List.append_nil] at ef
        refine let_as ((j + 1 : Nat) : Int) (by rw [w64 (by omega) (by omega)]; omega) ?_
        exact ih (j + 1) w2 o2 A2 n2 c2 (by omega) (by omega) (P.call k2) (by rw [ef]; exact rv2) (by omega) ..
    · have e : j = n := by omega
      subst e
      rw [List.take_of_length_le (by omega)] at rv2
      refine ifN (fun h => absurd rfl h) (fun _ => ?_)
      refine let_as ((i + 1 : Nat) : Int) (by rw [w64 (by omega) (by omega)]; omega) ?_
      exact hK w A2 n2 c2 ⟨us, o2, _, (P.reb List.perm_append_comm).less, rv2, iv, by omega⟩ ..
end
section
variable {w0 : World} (hT : Tab w0) {gP gm lo hi : Nat} (h1 : 1 ≤ lo) (h2 : lo ≤ hi) (h3 : hi ≤ 65535) {Y : Option Addr} {sn sc : Nat} (hS : NScr w0 Y sn) (hs : sn ≤ 1000000000000)
include hT h1 h2 h3 hS hs
theorem once_l : ∀ (q i : Nat) (w : World) (A : Option Addr) (n c : Nat), sn - i < q → i ≤ sn → NSt w0 w gP gm lo hi i A n c → weftlaw23_NatOnce.L1 q (lo : Int) (hi : Int) Y sn sc (some ⟨gP, 0, none⟩) A n c (i : Int) w (Yes w0) := by
  intro q
  induction q with
  | zero => intro i w A n c hq; omega
  | succ q ih =>
    intro i w A n c hq hi' st
    obtain ⟨us, o, l, P, rv, iv, hni⟩ := st
    unfold weftlaw23_NatOnce.L1; intros
    rw [weftlaw23_NatOnce.l1_eq]
    refine ifD (fun h4 => ?_) (fun h4 => ⟨rfl, P.of.own.bel⟩)
    have hi1 : i < sn := by omega
    obtain ⟨a, ea, ha⟩ := hS (by omega)
    obtain ⟨x, hat, hpt⟩ := ha i hi1
    have hat2 := hat.bel P.of.own.bel
    have hK : ∀ (w' : World) (A' : Option Addr) (n' c' : Nat), NSt w0 w' gP gm lo hi (i + 1) A' n' c' → weftlaw23_NatOnce.L1 q (lo : Int) (hi : Int) Y sn sc (some ⟨gP, 0, none⟩) A' n' c' ((i + 1 : Nat) : Int) w' (Yes w0) :=
      fun w' A' n' c' st => ih (i + 1) w' A' n' c' (by omega) (by omega) st
    clear ih
    have ln : l.length = n := by
      have := rv.1
      rw [pps_len] at this
      omega
    have cb : -1000000000000000 ≤ cntU us x.pr ∧ cntU us x.pr ≤ 1000000000000000 := by
      have := List.countP_le_length (p := fun y : Int × Int => decide (y.1 = x.pr)) (l := l)
      rw [iv.cnt]
      omega
    refine ⟨a, ea, ⟨by omega, by omega⟩, _, _, _, _, _, _, _, _, _, _, _, _, _, _, _, _, _, _, _, _, _, _, _, _, _, _, _, _, _, ⟨rfl, hat2⟩, ?_⟩
    refine pts_new (l := noz) P fun g25 w26 P1 k1 => ?_
    refine pts_put (vs := nov x) 0 P1 rfl rfl (by decide) fun w27 P2 u2 => ?_
    have P3 : Pts w0 w27 gP gm lo hi us ((g25, 47, nov x) :: o.toList) [] := P2
    refine ⟨x.pr, (P3.bk 0 rfl).cell 21 rfl, (x.pt : Int), (P3.bk 0 rfl).cell 22 rfl, ?_⟩
    refine pts_new (l := ppd (0, 0)) P3 fun g30 w31 P4 k4 => ?_
    refine pts_put (vs := ppd (x.pr, (x.pt : Int))) 0 P4 rfl rfl (by decide) fun w32 P5 u5 => ?_
    have P6 : Pts w0 w32 gP gm lo hi us ((g30, 49, ppd (x.pr, (x.pt : Int))) :: (g25, 47, nov x) :: o.toList) [] := P5
    clear P2 P5 u2 u5
    refine ⟨x.k, (P6.bk 1 rfl).cell 0 rfl, ?_⟩
    have pls : ∀ {us' : List Us} {w' : World} {L : List Blk}, Pts w0 w' gP gm lo hi us' (L ++ o.toList) [] → Pls w' A n l := fun P => rv.pls fun y hy => P.mem (List.mem_append.2 (Or.inr hy))
    refine ifE (fun hk => ?_) (fun hk => ?_)
    · refine ⟨x.pr, (P6.bk 1 rfl).cell 21 rfl, (x.pt : Int), (P6.bk 1 rfl).cell 22 rfl, ?_⟩
      refine call_of (Take_c (P6.tab hT) P6 h1 h2 h3 (pr := x.pr) (want := x.pt) hpt cb) ?_
      rintro e w36 ⟨us', P7, hR, _⟩
      rcases hR with ⟨rfl, ha, hh, hc⟩ | ⟨m, rfl, m1, m2, m3, m4, hh, hc⟩
      · refine ⟨_, _, rfl, ?_⟩
        refine ifN (fun _ => ?_) (fun h => absurd h (by decide))
        refine ifN (fun h => absurd rfl h) (fun _ => ?_)
        refine ifN (fun h => absurd rfl h) (fun _ => ?_)
        refine ⟨x.pr, (P7.bk 1 rfl).cell 21 rfl, ?_⟩
        refine call_of (count_c (c := c) (pls (L := [_, _]) P7) (by omega) x.pr) ?_
        rintro e w41 ⟨rfl, k⟩
        refine ⟨_, rfl, ?_⟩
        refine let_as (hi : Int) (w64 (by omega) (by omega)) (let_as (lo : Int) (w64 (by omega) (by omega)) ?_)
        refine let_as ((hi : Int) - (lo : Int)) (w64 (by omega) (by omega)) (let_as ((hi : Int) - (lo : Int) + 1) (w64 (by omega) (by omega)) ?_)
        refine ifN (fun h => absurd (iv.all h2 ha) h) (fun _ => ?_)
        refine let_as ((i + 1 : Nat) : Int) (by rw [w64 (by omega) (by omega)]; omega) ?_
        exact hK w41 A n c ⟨us', o, l, (P7.call k).less (L := [_, _]), rv, iv.same hh hc, by omega⟩ ..
      · refine ⟨_, _, rfl, ?_⟩
        refine ifN (fun h => absurd rfl h) (fun _ => ?_)
        refine ⟨x.pr, (P7.bk 1 rfl).cell 21 rfl, ?_⟩
        refine pts_new (l := ppd (0, 0)) P7 fun g50 w51 P8 k8 => ?_
        refine pts_put (vs := ppd (x.pr, (m : Int))) 0 P8 rfl rfl (by decide) fun w52 P9 u9 => ?_
        have P10 : Pts w0 w52 gP gm lo hi us' ((g50, 49, ppd (x.pr, (m : Int))) :: (g30, 49, ppd (x.pr, (x.pt : Int))) :: (g25, 47, nov x) :: o.toList) [] := P9
        clear P9 u9
        refine ifD (fun h => absurd h (by omega)) (fun _ => ?_)
        refine ifD (fun h => absurd h (by omega)) (fun _ => ?_)
        refine ⟨_, _, ⟨rfl, (P10.bk 0 rfl).at⟩, ?_⟩
        refine call_of (has_cc (c := c) (pls (L := [_, _, _]) P10) (by omega) (x.pr, (m : Int))) ?_
        rintro e w55 ⟨rfl, k11⟩
        refine ⟨_, rfl, ?_⟩
        have hnm : decide ((x.pr, (m : Int)) ∈ l) = false := decide_eq_false (iv.no m3)
        refine ifB (fun h => by rw [hnm] at h; cases h) (fun _ => ?_)
        have P11 := P10.call k11
        have j2 : ∀ {w' : World}, Bel w55 w' → weftlaw23_NatOnce.J2 q (lo : Int) (hi : Int) Y sn sc (some ⟨gP, 0, none⟩) A n c (i : Int) g50 w' (Yes w0) := fun k => once_j2 hi1 hs hK (Bs := [_, _]) (P11.call k) rv (iv.take m3 m1 m2 hh hc) hni
        refine ⟨(x.pt : Int), (P11.bk 2 rfl).cell 22 rfl, ?_⟩
        refine ifD (fun h5 => ?_) (fun _ => ?_)
        · refine ⟨(x.pt : Int), (P11.bk 2 rfl).cell 22 rfl, ?_⟩
          refine ifD (fun h6 => ?_) (fun _ => ?_)
          · refine ⟨_, _, ⟨rfl, (P11.bk 1 rfl).at⟩, ?_⟩
            refine call_of (has_cc (c := c) (pls (L := [_, _, _]) P11) (by omega) (x.pr, (x.pt : Int))) ?_
            rintro e w62 ⟨rfl, k12⟩
            refine ⟨_, rfl, ?_⟩
            refine ifNot (fun h7 => ?_) (fun _ => ?_)
            · have hw : hasU us x.pr x.pt = false := by
                cases hx : hasU us x.pr x.pt with
                | false => rfl
                | true => exact absurd ((iv.has _ _).1 hx) (of_decide_eq_false h7)
              have hm : m = x.pt := m4.want (by omega) (by omega) hw
              refine ⟨(x.pt : Int), ((P11.call k12).bk 2 rfl).cell 22 rfl, ?_⟩
              refine ifN (fun h => absurd (by rw [hm]) h) (fun _ => ?_)
              have k := j2 k12
              exact ⟨by with_reducible apply k⟩
            · have k := j2 k12
              exact ⟨by with_reducible apply k⟩
          · have k := j2 (Bel.refl w55)
            exact ⟨by with_reducible apply k⟩
        · have k := j2 (Bel.refl w55)
          exact ⟨by with_reducible apply k⟩
    refine ifE (fun hk => ?_) (fun hk => ?_)
    · refine ⟨x.pr, (P6.bk 1 rfl).cell 21 rfl, (x.pt : Int), (P6.bk 1 rfl).cell 22 rfl, ?_⟩
      refine call_of (Give_c P6 (pr := x.pr) (n := x.pt) hpt cb) ?_
      rintro e w68 ⟨us', P7, hR, _⟩
      rcases hR with ⟨rfl, hf, e7⟩ | ⟨rfl, hf, hh, hc⟩
      · subst e7
        refine ⟨_, rfl, _, _, ⟨rfl, (P7.bk 0 rfl).at⟩, ?_⟩
        refine call_of (has_cc (c := c) (pls (L := [_, _]) P7) (by omega) (x.pr, (x.pt : Int))) ?_
        rintro e w73 ⟨rfl, k⟩
        refine ⟨_, rfl, ?_⟩
        refine ifNot (fun _ => ?_) (fun h => absurd (of_decide_eq_true h) (iv.no hf))
        refine ifN (fun h => absurd rfl h) (fun _ => ?_)
        refine let_as ((i + 1 : Nat) : Int) (by rw [w64 (by omega) (by omega)]; omega) ?_
        exact hK w73 A n c ⟨_, o, l, (P7.call k).less (L := [_, _]), rv, iv, by omega⟩ ..
      · refine ⟨_, rfl, _, _, ⟨rfl, (P7.bk 0 rfl).at⟩, ?_⟩
        refine call_of (has_cc (c := c) (pls (L := [_, _]) P7) (by omega) (x.pr, (x.pt : Int))) ?_
        rintro e w73 ⟨rfl, k⟩
        refine ⟨_, rfl, ?_⟩
        refine ifNot (fun h => absurd ((iv.has _ _).1 hf) (of_decide_eq_false h)) (fun _ => ?_)
        refine ⟨n + 1, ?_⟩
        have k2 : weftlaw23_NatOnce.L2 q (n + 1) (lo : Int) (hi : Int) Y sn sc (some ⟨gP, 0, none⟩) A n c (i : Int) g30 0 none 0 0 0 w73 (Yes w0) :=
          once_l2 hi1 hs hK (Bs := [(g25, 47, nov x)]) rv (iv.give hf hh hc) hni (n + 1) 0 w73 none none 0 0 (by omega) (by omega) (P7.call k) RV.none (Nat.le_refl _)
        exact k2 ..
    refine ifE (fun hk => ?_) (fun hk => ?_)
    · refine draws (fun w' => Pts w0 w' gP gm lo hi us ((g30, 49, ppd (x.pr, (x.pt : Int))) :: (g25, 47, nov x) :: o.toList) []) (P6.call (Bel.refl w32).drew) fun w79 e79 => ?_
      have P7 : Pts w0 w79 gP gm lo hi us ((g30, 49, ppd (x.pr, (x.pt : Int))) :: (g25, 47, nov x) :: o.toList) [] := by rw [e79]; exact P6.call (Bel.refl w32).drew
      refine ⟨x.pr, fun w' h => (h.bk 1 rfl).cell 21 rfl, x.pr, fun w' h => (h.bk 1 rfl).cell 21 rfl, ?_⟩
      refine call_of (Taken_c P7 x.pr) ?_
      rintro e w82 ⟨rfl, k8⟩
      have P8 := P7.call k8
      refine ⟨_, rfl, P8, ?_⟩
      refine call_of (count_c (c := c) (pls (L := [_, _]) P8) (by omega) x.pr) ?_
      rintro e w85 ⟨rfl, k9⟩
      have P9 := P8.call k9
      refine ⟨_, rfl, P9, ?_⟩
      refine ifN (fun h => absurd (iv.cnt x.pr) h) (fun _ => ?_)
      refine let_as ((i + 1 : Nat) : Int) (by rw [w64 (by omega) (by omega)]; omega) ?_
      exact hK w85 A n c ⟨us, o, l, P9.less (L := [_, _]), rv, iv, by omega⟩ ..
    · refine let_as ((i + 1 : Nat) : Int) (by rw [w64 (by omega) (by omega)]; omega) ?_
      exact hK w32 A n c ⟨us, o, l, P6.less (L := [_, _]), rv, iv, by omega⟩ ..
end
theorem NatOnce_t {w : World} (hT : Tab w) {a b : Int} (ha : 0 ≤ a ∧ a ≤ 65535) (hb : 0 ≤ b ∧ b ≤ 65535) {Y : Option Addr} {sn sc : Nat} (hS : NScr w Y sn ∧ sn ≤ 1000000000000) :
    Calls Tryd.prog 4 #[.int .u16 a, .int .u16 b, .slice Y sn sc] w (Yes w) := by
  obtain ⟨lo, rfl⟩ := Int.eq_ofNat_of_zero_le ha.1
  obtain ⟨hi, rfl⟩ := Int.eq_ofNat_of_zero_le hb.1
  refine weftlaw23_NatOnce.run ?_
  unfold weftlaw23_NatOnce.s
  refine call_of (New_c w (lo := lo) (hi := hi) (by omega) (by omega)) ?_
  rintro e w1 hN
  unfold RetNew at hN
  by_cases h : lo = 0 ∨ hi < lo
  · rw [if_pos h] at hN
    obtain ⟨rfl, k1⟩ := hN
    refine ⟨_, _, rfl, ?_⟩
    refine call_of (first_t (w0 := w1) (hT.bel k1) (Bel.refl w1)) ?_
    rintro e w5 ⟨rfl, k5⟩
    refine ⟨_, rfl, ?_⟩
    refine ifNot (fun h => by cases h) (fun _ => ?_)
    refine ifNot (fun h => absurd h (by decide)) (fun _ => ?_)
    have j1 : weftlaw23_NatOnce.J1 (lo : Int) (hi : Int) Y sn sc none 1 w5 (Yes w) := by
      unfold weftlaw23_NatOnce.J1; intros
      rw [weftlaw23_NatOnce.j1_eq]
      exact ifB (fun _ => ⟨rfl, Bel.trans k1 k5⟩) (fun h => by cases h)
    refine ifD (fun h5 => ?_) (fun h5 => ?_)
    · refine ifNot (fun h6 => ?_) (fun _ => ⟨by with_reducible apply j1⟩)
      rw [show decide ((lo : Int) ≤ (hi : Int)) = false from decide_eq_false (by omega)] at h6
      exact absurd h6 (by decide)
    · exact ifNot (fun h6 => absurd h6 (by decide)) (fun _ => ⟨by with_reducible apply j1⟩)
  · rw [if_neg h] at hN
    obtain ⟨gP, gm, rfl, P⟩ := hN
    refine ⟨_, _, rfl, ?_⟩
    refine call_of (first_t (w0 := w1) (hT.bel P.of.own.bel) (Bel.refl w1)) ?_
    rintro e w5 ⟨rfl, k5⟩
    refine ⟨_, rfl, ?_⟩
    refine ifNot (fun h => by cases h) (fun _ => ?_)
    refine ifNot (fun h => absurd h (by simp)) (fun _ => ?_)
    have j1 : weftlaw23_NatOnce.J1 (lo : Int) (hi : Int) Y sn sc (some ⟨gP, 0, none⟩) 0 w5 (Yes w) := by
      unfold weftlaw23_NatOnce.J1; intros
      rw [weftlaw23_NatOnce.j1_eq]
      refine ifB (fun h => by cases h) (fun _ => ?_)
      refine ⟨sn + 1, ?_⟩
      have k : weftlaw23_NatOnce.L1 (sn + 1) (lo : Int) (hi : Int) Y sn sc (some ⟨gP, 0, none⟩) none 0 0 0 w5 (Yes w) :=
        once_l hT (by omega) (by omega) (by omega) hS.1 hS.2 (sn + 1) 0 w5 none 0 0 (by omega) (by omega) ⟨[], none, [], P.call k5, RV.none, Iv.nil, Nat.le_refl _⟩
      exact k ..
    refine ifD (fun h5 => ?_) (fun h5 => absurd h5 (by omega))
    refine ifNot (fun h6 => ?_) (fun _ => ⟨by with_reducible apply j1⟩)
    rw [show decide ((lo : Int) ≤ (hi : Int)) = true from decide_eq_true (by omega)] at h6
    exact absurd h6 (by decide)
end Go.Proofs.YtphbdmafchjjeaaDoorS
