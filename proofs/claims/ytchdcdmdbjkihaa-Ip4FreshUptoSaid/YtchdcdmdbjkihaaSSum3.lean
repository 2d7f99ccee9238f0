/- Package weftlaw3: summed.
   Conditions: the step is as a row's argument holds it. -/
import Derived.Test.YtchdcdmdbjkihaaSAns3
namespace Go.Proofs.YtchdcdmdbjkihaaS
open Go Go.RowKit Go.Proofs Go.Proofs.YtchdcdmdbjkihaaX
set_option maxRecDepth 100000
set_option linter.unusedVariables false
set_option linter.unusedSectionVars false
set_option linter.unusedSimpArgs false
theorem own_ofS {w a : World} {L : List Blk} (h : Own w a L) : OF w a L [] := ⟨h, fun x hx => by cases hx⟩
def wt (ps : List (List Int)) (n j : Nat) : List Int := if j < n then ps.getD j [] else [IntKind.u8.wrap (IntKind.i64.wrap (7 + (j : Int)))]
abbrev smL (g1 g5 : Nat) (rec V : List Value) (oB : Option Blk) : List Blk := (g1, 39, rec) :: (g5, 30, V) :: (oB.toList ++ [])
def SmF (rec V vs : List Value) (ps : List (List Int)) (n i : Nat) (cs : List Lst) : Prop :=
  V.length = n + 70 ∧ (∀ j, j < i → ∃ A m c, V[j]? = some (.slice A m c) ∧ (A, m, wt ps n j) ∈ cs) ∧ (∀ j, j < min i n → ∃ gj : Nat, vs[j]? = some (.slice (some ⟨gj, 0, none⟩) ((wt ps n j).length + 64) ((wt ps n j).length + 64)) ∧ ((some ⟨gj, 0, none⟩, (wt ps n j).length + 64, wt ps n j ++ rm) : Lst) ∈ cs)
def SmI (w0 wa : World) (g1 g5 : Nat) (rec : List Value) (ps : List (List Int)) (n i : Nat) (Y5 : Option Addr) (yn5 yc5 : Nat) : Prop :=
  ∃ (V vs : List Value) (oB : Option Blk) (cs : List Lst), OF w0 wa (smL g1 g5 rec V oB) cs ∧ RV 30 1 oB Y5 yn5 yc5 vs ∧ yn5 = min i n ∧ SmF rec V vs ps n i cs
section
variable {w0 : World} {o : Op3} {Z : Option Addr} {zn zc : Nat} {Y : Option Addr} {yn yc : Nat} {A : Option Addr} {n c : Nat} {B : Option Addr} {m d : Nat} {g1 g5 : Nat}
theorem sm_l2 (ho : o.Fine) (hx : OpAt w0 o Z zn zc Y yn yc A n c B m d) (hy : yn ≤ 1000000000) (hp : ∀ p ∈ o.ps, p.length ≤ 1000000000) {Y5 : Option Addr} {yn5 yc5 : Nat} {V vs : List Value} {oB : Option Blk} {cs : List Lst} (qB : RV 30 1 oB Y5 yn5 yc5 vs) (e5 : yn5 = min (yn + 70) yn)
    (F : SmF (opv o Z zn zc Y yn yc A n c B m d) V vs o.ps yn (yn + 70) cs) {s : Int} (hs : s = 65535 - S (tot true o.ps.flatten)) : ∀ (q i : Nat) (w : World), yn + 70 - i < q → i ≤ yn + 70 → OF w0 w (smL g1 g5 (opv o Z zn zc Y yn yc A n c B m d) V oB) cs →
    weftlaw3_summed.L2 q g1 (yn : Int) (some ⟨g5, 0, none⟩) (yn + 70) (yn + 70) Y5 yn5 yc5 s (i : Int) w (Yes w0) := by
  obtain ⟨hV, hV1, hV2⟩ := F
  have hps := hx.ps.1
  have hfb : Bytes o.ps.flatten := fun x hx => by
    obtain ⟨p, hp, hx⟩ := List.mem_flatten.1 hx
    exact ho.ps p hp x hx
  have hlf := ho.lp
  intro q
  induction q with
  | zero => intro i w h; omega
  | succ q ih =>
    intro i w hq hi H
    unfold weftlaw3_summed.L2; intros
    rw [weftlaw3_summed.l2_eq]
    refine ifD (fun h1 => ?_) (fun h1 => ?_)
    · refine draws (fun w' => OF w0 w' (smL g1 g5 (opv o Z zn zc Y yn yc A n c B m d) V oB) cs) (H.call (Bel.refl w).drew) fun w2 e2 => ?_
      replace H := H.call (Bel.refl w).drew
      rw [← e2] at H
      obtain ⟨Aj, mj, cj, hVj, hcj⟩ := hV1 i (by omega)
      have ei : IntKind.i64.wrap ((i : Int) + 1) = ((i + 1 : Nat) : Int) := by rw [w64 (by omega) (by omega)]; omega
      have rdV : ∀ w', OF w0 w' (smL g1 g5 (opv o Z zn zc Y yn yc A n c B m d) V oB) cs → w'.cell? ((⟨g5, 0, none⟩ : Addr).add (i : Int).toNat) = some (.slice Aj mj cj) := fun w' h => by
        rw [Int.toNat_natCast, add_blk, Nat.zero_add]
        exact h.own.cell 1 i rfl hVj
      refine ifD (fun h2 => ?_) (fun h2 => ?_)
      · have hi2 : i < yn := by omega
        obtain ⟨gj, hvj, hrj⟩ := hV2 i (by omega)
        have ew : wt o.ps yn i = o.ps.getD i [] := by unfold wt; rw [if_pos hi2]
        obtain ⟨a5, ha5, r5⟩ := rv_cell qB (i := i) (by omega) hvj
        obtain ⟨ay, hay, hcy⟩ := hx.ps.2 (by omega)
        obtain ⟨By_, my, cy, hc1, hc2⟩ := hcy i hi2
        have pm : (SmF (opv o Z zn zc Y yn yc A n c B m d) V vs o.ps yn (yn + 70) cs) := ⟨hV, hV1, hV2⟩
        have per : ∀ w', OF w0 w' (smL g1 g5 (opv o Z zn zc Y yn yc A n c B m d) V oB) cs → OF w0 w' (oB.toList ++ ((g1, 39, opv o Z zn zc Y yn yc A n c B m d) :: (g5, 30, V) :: [])) cs := fun w' h => h.perm (List.perm_middle.trans (List.perm_middle.cons _)).symm
        refine ⟨a5, ha5, ⟨by omega, by omega⟩, _, _, _, fun w' h => by rw [Int.toNat_natCast]; exact r5 (per w' h).own, ?_⟩
        refine ⟨Y, yn, yc, fun w' h => h.own.cell 0 2 rfl rfl, ?_⟩
        refine ⟨ay, hay, ⟨by omega, by omega⟩, By_, my, cy, fun w' h => by rw [Int.toNat_natCast]; exact h.own.bel.cellb hc1, ?_⟩
        have hlen := hc2.len
        have hle : (o.ps.getD i []).length ≤ 1000000000 := by
          rw [List.getD_eq_getElem?_getD, List.getElem?_eq_getElem (by omega : i < o.ps.length)]
          exact hp _ (List.getElem_mem _)
        have hro := (H.fz _ hrj).1
        rw [ew, hlen] at hro
        rw [ew, hlen]
        refine call_of (kept_c hro (hc2.bel H.own.bel) (by omega)) ?_
        rintro e w3 ⟨rfl, k3⟩
        replace H := H.call k3
        refine ⟨_, rfl, H, ifNot (fun h => by cases h) (fun _ => ?_)⟩
        refine ⟨_, rfl, ⟨by omega, by omega⟩, Aj, mj, cj, rdV, ?_⟩
        refine ⟨Y, yn, yc, fun w' h => h.own.cell 0 2 rfl rfl, ?_⟩
        refine ⟨ay, hay, ⟨by omega, by omega⟩, By_, my, cy, fun w' h => by rw [Int.toNat_natCast]; exact h.own.bel.cellb hc1, ?_⟩
        have hj := (H.fz _ hcj).1
        rw [ew] at hj
        refine call_of (same_t hj (hc2.bel H.own.bel) (by have h2 : (o.ps.getD i []).length = mj := hj.len; show mj ≤ _; omega)) ?_
        rintro e w4 ⟨rfl, k4⟩
        replace H := H.call k4
        refine ⟨_, rfl, H, ifNot (fun h => by cases h) (fun _ => ?_)⟩
        refine ifD (fun h => by omega) (fun _ => ?_)
        refine let_as _ ei ?_
        have kk := ih (i + 1) w4 (by omega) (by omega) H
        with_reducible apply kk
      · refine ifD (fun _ => ?_) (fun h => by omega)
        refine ⟨_, rfl, ⟨by omega, by omega⟩, Aj, mj, cj, rdV, ?_⟩
        refine let_id (let_id ?_)
        refine let_as w2.heap.size rfl (let_as (w2.alloc (.cells (bv [IntKind.u8.wrap (IntKind.i64.wrap (7 + (i : Int)))]).toArray 5)) rfl ?_)
        have b3 : Bel w2 (w2.alloc (.cells (bv [IntKind.u8.wrap (IntKind.i64.wrap (7 + (i : Int)))]).toArray 5)) := (Bel.refl w2).alloc _
        have hb := (Bk.new w2 5 (bv [IntKind.u8.wrap (IntKind.i64.wrap (7 + (i : Int)))])).by
        generalize w2.alloc (.cells (bv [IntKind.u8.wrap (IntKind.i64.wrap (7 + (i : Int)))]).toArray 5) = w3 at b3 hb ⊢
        replace H := H.call b3
        refine ⟨H, ?_⟩
        have hj := (H.fz _ hcj).1
        have ew : wt o.ps yn i = [IntKind.u8.wrap (IntKind.i64.wrap (7 + (i : Int)))] := by unfold wt; rw [if_neg (by omega)]
        rw [ew] at hj
        refine call_of (same_t hj hb (by have := hj.len; simp at this; show mj ≤ _; omega)) ?_
        rintro e w4 ⟨rfl, k4⟩
        replace H := H.call k4
        refine ⟨_, rfl, H, ifNot (fun h => by cases h) (fun _ => ?_)⟩
        refine let_as _ ei ?_
        have kk := ih (i + 1) w4 (by omega) (by omega) H
        with_reducible apply kk
    · refine ⟨Y, yn, yc, H.own.cell 0 2 rfl rfl, ?_⟩
      refine call_of (join_c (hx.ps.bel H.own.bel) (by omega) (by omega)) ?_
      rintro e w3 ⟨A3, c3, rfl, b3⟩
      replace H := H.call b3.own.bel
      have y3 := b3.by
      refine ⟨_, _, _, rfl, ?_⟩
      refine own_newB H.own fun g6 w6 H6 k6 => ?_
      refine call_of (sum31_c (H6.bk 0 rfl) (y3.bel k6) hfb (by omega) 1) ?_
      rintro e w7 ⟨rfl, k7⟩
      refine ⟨_, rfl, ?_⟩
      have e9 : (s == 65535 - S (tot true o.ps.flatten)) = true := by rw [hs]; simp
      refine ⟨?_, (H6.call k7).bel⟩
      rw [e9]
theorem sm_l1 (ho : o.Fine) (hx : OpAt w0 o Z zn zc Y yn yc A n c B m d) (hy : yn ≤ 1000000000) (hp : ∀ p ∈ o.ps, p.length ≤ 1000000000) : ∀ (q i : Nat) (w : World) (Y5 : Option Addr) (yn5 yc5 : Nat), yn + 70 - i < q → i ≤ yn + 70 → SmI w0 w g1 g5 (opv o Z zn zc Y yn yc A n c B m d) o.ps yn i Y5 yn5 yc5 →
    weftlaw3_summed.L1 q g1 (yn : Int) (some ⟨g5, 0, none⟩) (yn + 70) (yn + 70) Y5 yn5 yc5 (i : Int) w (Yes w0) := by
  have hps := hx.ps.1
  have hlf := ho.lp
  intro q
  induction q with
  | zero => intro i w Y5 yn5 yc5 h; omega
  | succ q ih =>
    intro i w Y5 yn5 yc5 hq hi I
    obtain ⟨V, vs, oB, cs, H, qB, e5, hV, hV1, hV2⟩ := I
    unfold weftlaw3_summed.L1; intros
    rw [weftlaw3_summed.l1_eq]
    refine ifD (fun h1 => ?_) (fun h1 => ?_)
    · have ei : IntKind.i64.wrap ((i : Int) + 1) = ((i + 1 : Nat) : Int) := by rw [w64 (by omega) (by omega)]; omega
      refine let_id (let_id ?_)
      refine let_as w.heap.size rfl (let_as (w.alloc (.cells (bv [IntKind.u8.wrap (IntKind.i64.wrap (7 + (i : Int)))]).toArray 5)) rfl ?_)
      have Hn := H.new 5 (bv [IntKind.u8.wrap (IntKind.i64.wrap (7 + (i : Int)))])
      generalize w.heap.size = g3 at Hn ⊢
      generalize w.alloc (.cells (bv [IntKind.u8.wrap (IntKind.i64.wrap (7 + (i : Int)))]).toArray 5) = w1 at Hn ⊢
      have H1 := Hn.ice (E := [(some ⟨g3, 0, none⟩, 1, [IntKind.u8.wrap (IntKind.i64.wrap (7 + (i : Int)))])]) fun x hx => by
        rw [List.mem_singleton.1 hx]
        exact ⟨(Hn.own.bk 0 rfl).by, fun _ => ⟨0, rfl⟩⟩
      refine ⟨_, rfl, ⟨by omega, by omega⟩, ?_⟩
      rw [Int.toNat_natCast, add_blk, Nat.zero_add]
      refine of_set 1 H1 rfl (by omega) fun w2 H2 => ?_
      replace H2 : OF w0 w2 (smL g1 g5 (opv o Z zn zc Y yn yc A n c B m d) (V.set i (.slice (some ⟨g3, 0, none⟩) 1 1)) oB) ([(some ⟨g3, 0, none⟩, 1, [IntKind.u8.wrap (IntKind.i64.wrap (7 + (i : Int)))])] ++ cs) := H2
      refine ifD (fun h2 => ?_) (fun h2 => ?_)
      · have hi2 : i < yn := by omega
        have ew : wt o.ps yn i = o.ps.getD i [] := by unfold wt; rw [if_pos hi2]
        obtain ⟨ay, hay, hcy⟩ := hx.ps.2 (by omega)
        obtain ⟨By_, my, cy, hc1, hc2⟩ := hcy i hi2
        have hlen := hc2.len
        have hle : (o.ps.getD i []).length ≤ 1000000000 := by
          rw [List.getD_eq_getElem?_getD, List.getElem?_eq_getElem (by omega : i < o.ps.length)]
          exact hp _ (List.getElem_mem _)
        refine ⟨Y, yn, yc, H2.own.cell 0 2 rfl rfl, ?_⟩
        refine ⟨ay, hay, ⟨by omega, by omega⟩, By_, my, cy, H2.own.bel.cellb hc1, ?_⟩
        refine call_of (roomy_c (hc2.bel H2.own.bel) (by omega)) ?_
        rintro e w3 ⟨gn, rfl, k3⟩
        have Hj := H2.join k3
        have yr := room_by Hj.own 0 rfl (rfl : (o.ps.getD i []).length = _)
        have H3 := OF.ice (E := [(some ⟨gn, 0, none⟩, (o.ps.getD i []).length, o.ps.getD i []), (some ⟨gn, 0, none⟩, (o.ps.getD i []).length + 64, o.ps.getD i [] ++ rm)]) Hj fun x hx => by
          rcases List.mem_cons.1 hx with rfl | hx
          · exact ⟨yr.1, fun _ => ⟨0, rfl⟩⟩
          · rw [List.mem_singleton.1 hx]
            exact ⟨yr.2, fun _ => ⟨0, rfl⟩⟩
        refine ⟨_, _, _, rfl, ?_⟩
        refine let_as w3.heap.size rfl (let_as (w3.alloc (.cells ([.slice (some ⟨gn, 0, none⟩) ((o.ps.getD i []).length + 64) ((o.ps.getD i []).length + 64)] : List Value).toArray 30)) rfl ?_)
        refine rv_appm (m := 1) (z := .slice none 0 0) ((H3.call ((Bel.refl w3).alloc _)).perm (List.perm_middle.trans (List.perm_middle.cons _)).symm) qB (v := [.slice (some ⟨gn, 0, none⟩) ((o.ps.getD i []).length + 64) ((o.ps.getD i []).length + 64)]) rfl (by omega) rfl (Bk.new w3 _ _).at (by omega) (by omega) fun oB' Y5' yc5' w4 H4 qB' => ?_
        replace H4 := H4.perm (List.perm_middle.trans (List.perm_middle.cons _))
        refine ⟨Y, yn, yc, H4.own.cell 0 2 rfl rfl, ?_⟩
        refine ⟨ay, hay, ⟨by omega, by omega⟩, By_, my, cy, H4.own.bel.cellb hc1, ⟨by omega, by omega⟩, ?_⟩
        refine ⟨_, rfl, ⟨by omega, by omega⟩, ?_⟩
        rw [add_blk, Nat.zero_add]
        refine of_set 1 H4 rfl (by rw [List.length_set]; omega) fun w5 H5 => ?_
        refine let_as _ ei ?_
        have kk := ih (i + 1) w5 Y5' (yn5 + 1) yc5' (by omega) (by omega) ⟨_, _, oB', _, H5, qB', by omega, ⟨by rw [List.length_set, List.length_set]; exact hV, fun j hj => ?_, fun j hj => ?_⟩⟩
        · with_reducible apply kk
        · by_cases e : j = i
          · subst e
            refine ⟨_, _, _, List.getElem?_set_self (by rw [List.length_set]; omega), ?_⟩
            rw [ew, ← hlen]
            exact List.mem_append.2 (Or.inl List.mem_cons_self)
          · rw [List.getElem?_set_ne (by omega), List.getElem?_set_ne (by omega)]
            obtain ⟨A', m', c', q1, q2⟩ := hV1 j (by omega)
            exact ⟨A', m', c', q1, List.mem_append.2 (Or.inr (List.mem_append.2 (Or.inr q2)))⟩
        · have hvl : vs.length = yn5 := by have := qB.1; omega
          by_cases e : j = i
          · subst e
            refine ⟨gn, ?_, ?_⟩
            · rw [List.getElem?_append_right (by omega), ew, show j - vs.length = 0 by omega]
              rfl
            · rw [ew]
              exact List.mem_append.2 (Or.inl (List.mem_cons_of_mem _ List.mem_cons_self))
          · obtain ⟨gj, q1, q2⟩ := hV2 j (by omega)
            refine ⟨gj, ?_, List.mem_append.2 (Or.inr (List.mem_append.2 (Or.inr q2)))⟩
            rw [List.getElem?_append_left (by omega)]
            exact q1
      · refine let_as _ ei ?_
        have ew : wt o.ps yn i = [IntKind.u8.wrap (IntKind.i64.wrap (7 + (i : Int)))] := by unfold wt; rw [if_neg (by omega)]
        have kk := ih (i + 1) w2 Y5 yn5 yc5 (by omega) (by omega) ⟨_, vs, oB, _, H2, qB, by omega, ⟨by rw [List.length_set]; exact hV, fun j hj => ?_, fun j hj => ?_⟩⟩
        · with_reducible apply kk
        · by_cases e : j = i
          · subst e
            refine ⟨_, _, _, List.getElem?_set_self (by omega), ?_⟩
            rw [ew]
            exact List.mem_cons_self
          · rw [List.getElem?_set_ne (by omega)]
            obtain ⟨A', m', c', q1, q2⟩ := hV1 j (by omega)
            exact ⟨A', m', c', q1, List.mem_cons_of_mem _ q2⟩
        · obtain ⟨gj, q1, q2⟩ := hV2 j (by omega)
          exact ⟨gj, q1, List.mem_cons_of_mem _ q2⟩
    · have hi2 : i = yn + 70 := by omega
      subst hi2
      have hB : Bys w (some ⟨g5, 0, none⟩) yn o.ps := ⟨hps, fun _ => ⟨_, rfl, fun j hj => by
        obtain ⟨A', m', c', q1, q2⟩ := hV1 j (by omega)
        have y := (H.fz _ q2).1
        have ew : wt o.ps yn j = o.ps.getD j [] := by unfold wt; rw [if_pos hj]
        rw [ew] at y
        exact ⟨A', m', c', by rw [add_blk, Nat.zero_add]; exact H.own.cell 1 j rfl q1, y⟩⟩⟩
      refine ⟨⟨by omega, by omega⟩, ?_⟩
      rw [Int.toNat_natCast]
      refine call_of (sum_c hB ho.ps (by omega) (by omega)) ?_
      rintro e w1 ⟨rfl, k1⟩
      replace H := H.call k1
      refine ⟨_, rfl, yn + 71, ?_⟩
      have kk : weftlaw3_summed.L2 (yn + 71) g1 (yn : Int) (some ⟨g5, 0, none⟩) (yn + 70) (yn + 70) Y5 yn5 yc5 (65535 - S (tot true o.ps.flatten)) 0 w1 (Yes w0) := sm_l2 ho hx hy hp qB e5 ⟨hV, hV1, hV2⟩ rfl (yn + 71) 0 w1 (by omega) (by omega) H
      with_reducible apply kk
theorem summed_t (ho : o.Fine) (hx : OpAt w0 o Z zn zc Y yn yc A n c B m d) : Calls Try.prog 12 #[.agg (opv o Z zn zc Y yn yc A n c B m d).toArray] w0 (Yes w0) := by
  have hps := hx.ps.1
  have hln := ho.ln
  have hlf := ho.lp
  have hp : ∀ p ∈ o.ps, p.length ≤ 1000000000 := fun p hp => by
    have := List.length_flatten (L := o.ps)
    have h2 : p.length ≤ o.ps.flatten.length := by
      obtain ⟨a, b, e⟩ := List.append_of_mem hp
      rw [e]
      simp
      omega
    omega
  refine weftlaw3_summed.run ?_
  unfold weftlaw3_summed.s
  refine own_new (l := opv o Z zn zc Y yn yc A n c B m d) (Own.refl w0) fun g1 w1 H => ?_
  refine ⟨Y, yn, yc, H.cell 0 2 rfl rfl, ?_⟩
  refine let_as ((yn + 70 : Nat) : Int) (by rw [w64 (by omega) (by omega)]; omega) ?_
  refine ⟨⟨by omega, Int.le_refl _, by omega, by omega⟩, ?_⟩
  rw [Int.toNat_natCast]
  refine own_new (l := List.replicate (yn + 70) (.slice none 0 0)) H fun g5 w2 H => ?_
  refine ⟨yn + 71, ?_⟩
  have I : SmI w0 w2 g1 g5 (opv o Z zn zc Y yn yc A n c B m d) o.ps yn 0 none 0 0 := ⟨List.replicate (yn + 70) (.slice none 0 0), [], none, [], own_ofS (H.perm (List.Perm.swap _ _ _)), RV.none, by omega, by simp, (fun j hj => absurd hj (Nat.not_lt_zero j)), fun j hj => by omega⟩
  have kk : weftlaw3_summed.L1 (yn + 71) g1 (yn : Int) (some ⟨g5, 0, none⟩) (yn + 70) (yn + 70) none 0 0 0 w2 (Yes w0) := sm_l1 ho hx (by omega) hp (yn + 71) 0 w2 none 0 0 (by omega) (by omega) I
  with_reducible apply kk
end
end Go.Proofs.YtchdcdmdbjkihaaS
