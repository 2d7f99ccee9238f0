/- Package weftlaw3, script.go: the step with one thing another one.
   Conditions: the step's lists are one's own. -/
import Derived.Test.YtchdcdmdbjkihaaSISB
namespace Go.Proofs.YtchdcdmdbjkihaaS
open Go Go.RowKit Go.Proofs Go.Proofs.YtchdcdmdbjkihaaX
set_option maxRecDepth 100000
set_option linter.unusedVariables false
set_option linter.unusedSectionVars false
set_option linter.unusedSimpArgs false

structure Op3.Sm (o : Op3) : Prop where
  lo : o.p.opts.length ≤ 1000000000
  lb : o.p.body.length ≤ 1000000000
/-- A step is answered whose lists are one's own. -/
def RetO (w0 : World) (R : List Blk) (cs : List Lst) (e : Ending) (w' : World) : Prop := ∃ (o : Op3) (Z : Option Addr) (zn zc : Nat) (Y : Option Addr) (yn yc : Nat) (A : Option Addr) (n c : Nat) (B : Option Addr) (m d : Nat) (oP : Option Blk) (os : List (Option Blk)) (ls : List LC),
  e = .returned (.agg (opv o Z zn zc Y yn yc A n c B m d).toArray) ∧ OF w0 w' (oP.toList ++ (Bls os ++ R)) cs ∧ XO oP os o Z zn zc Y yn yc A n c B m d ls ∧ o.Fine ∧ o.Sm
/-- The bytes of list i become these. -/
def upd (o : Op3) (i : Nat) (l : List Int) : Op3 :=
  match i with
  | 0 => { o with b := l }
  | 1 => { o with p := { o.p with body := l } }
  | 2 => { o with p := { o.p with opts := l } }
  | i + 3 => { o with ps := o.ps.set i l }
theorem upd_opv (o : Op3) (i : Nat) (l : List Int) (Z : Option Addr) (zn zc : Nat) (Y : Option Addr) (yn yc : Nat) (A : Option Addr) (n c : Nat) (B : Option Addr) (m d : Nat) : opv (upd o i l) Z zn zc Y yn yc A n c B m d = opv o Z zn zc Y yn yc A n c B m d := by
  match i with
  | 0 => rfl
  | 1 => rfl
  | 2 => rfl
  | i + 3 => rfl
theorem set_flat : ∀ (ps : List (List Int)) (i : Nat) (l : List Int), l.length = (ps.getD i []).length → (ps.set i l).flatten.length = ps.flatten.length
  | [], i, l, _ => by simp
  | p :: ps, 0, l, h => by simpa using h
  | p :: ps, i + 1, l, h => by
    have := set_flat ps i l (by simpa using h)
    simp only [List.set_cons_succ, List.flatten_cons, List.length_append, this]
section
variable {w0 w : World} {R M : List Blk} {cs : List Lst} {oP : Option Blk} {os : List (Option Blk)} {o : Op3} {Z : Option Addr} {zn zc : Nat} {Y : Option Addr} {yn yc : Nat} {A : Option Addr} {n c : Nat} {B : Option Addr} {m d : Nat} {ls : List LC} {g2 g4 : Nat} {z4 : List Value}
theorem other_j4 (H : OF w0 w ((g2, 39, opv o Z zn zc Y yn yc A n c B m d) :: (M ++ ((g4, 39, z4) :: (oP.toList ++ (Bls os ++ R))))) cs) (hz4 : z4.length = 17) (xo : XO oP os o Z zn zc Y yn yc A n c B m d ls) (ho : o.Fine) (hs : o.Sm) :
    weftlaw3_other.J4 g2 g4 w (RetO w0 R cs) := by
  unfold weftlaw3_other.J4; intros
  rw [weftlaw3_other.j4_eq]
  have H1 := H.perm ((List.perm_middle.cons _).trans (List.Perm.swap _ _ _))
  refine ⟨_, _, _, _, _, _, _, _, _, _, _, _, _, _, _, _, _, _, _, _, _, _, _, _, _, ⟨rfl, (H1.own.bk 1 rfl).at⟩, ?_⟩
  refine of_put 0 H1 rfl rfl (by rw [hz4]; exact Nat.le_refl 17) fun w1 H2 => ?_
  rw [splice_all _ _ (by rw [hz4]; rfl)] at H2
  replace H2 : OF w0 w1 ((g4, 39, opv o Z zn zc Y yn yc A n c B m d) :: ((g2, 39, opv o Z zn zc Y yn yc A n c B m d) :: (M ++ (oP.toList ++ (Bls os ++ R))))) cs := H2
  refine ⟨_, _, _, _, _, _, _, _, _, _, _, _, _, _, _, _, _, _, _, _, _, _, _, _, _, ⟨rfl, (H2.own.bk 0 rfl).at⟩, ?_⟩
  exact ⟨o, Z, zn, zc, Y, yn, yc, A, n, c, B, m, d, oP, os, ls, rfl, OF.less (L := M) H2.tail.tail, xo, ho, hs⟩
theorem other_j5 (H : OF w0 w ((g2, 39, opv o Z zn zc Y yn yc A n c B m d) :: (M ++ ((g4, 39, z4) :: (oP.toList ++ (Bls os ++ R))))) cs) (hz4 : z4.length = 17) (xo : XO oP os o Z zn zc Y yn yc A n c B m d ls) (ho : o.Fine) (hs : o.Sm) {k : Int} (hk : 0 ≤ k) (b : Bool) :
    weftlaw3_other.J5 k g2 g4 b w (RetO w0 R cs) := by
  unfold weftlaw3_other.J5; intros
  rw [weftlaw3_other.j5_eq]
  refine ifB (fun _ => ?_) (fun _ => ?_)
  · refine let_as (k % 4) (tm hk) ?_
    refine ⟨⟨by omega, by omega⟩, ?_⟩
    have hx : ∃ x : Int, ([.int .i64 3, .int .i64 4, .int .i64 6, .int .i64 7] : List Value)[(k % 4).toNat]? = some (.int .i64 x) := by
      rcases (by omega : (k % 4).toNat = 0 ∨ (k % 4).toNat = 1 ∨ (k % 4).toNat = 2 ∨ (k % 4).toNat = 3) with e | e | e | e <;> rw [e]
      · exact ⟨3, rfl⟩
      · exact ⟨4, rfl⟩
      · exact ⟨6, rfl⟩
      · exact ⟨7, rfl⟩
    obtain ⟨x, hx⟩ := hx
    refine ⟨x, hx, ?_⟩
    refine of_set 0 H rfl (Nat.lt_of_lt_of_le (by decide : 0 < 17) (Nat.le_refl 17)) fun w1 H1 => ?_
    have kk := other_j4 (o := { o with k := x }) (M := M) H1 hz4 xo ⟨ho.b, ho.lb, ho.ps, ho.lp, ho.ln, ho.x, ho.y, ho.z, ho.p⟩ ⟨hs.lo, hs.lb⟩
    exact ⟨by with_reducible apply kk⟩
  · have kk := other_j4 (M := M) H hz4 xo ho hs
    exact ⟨by with_reducible apply kk⟩
theorem wu16 (x : Int) : 0 ≤ IntKind.u16.wrap x ∧ IntKind.u16.wrap x ≤ 65535 := by rw [IntKind.wrap_u16]; omega
theorem wu8 (x : Int) : 0 ≤ IntKind.u8.wrap x ∧ IntKind.u8.wrap x ≤ 255 := by rw [IntKind.wrap_u8]; omega
/-- A byte of one of the lists is written. -/
theorem xo_byte (H : OF w0 w (oP.toList ++ (Bls os ++ R)) cs) (xo : XO oP os o Z zn zc Y yn yc A n c B m d ls) (ho : o.Fine) (hs : o.Sm) {i : Nat} {x : LC} (hx : (⟨Z, zn, zc, o.b⟩ :: ⟨B, m, d, o.p.body⟩ :: ⟨A, n, c, o.p.opts⟩ :: ls : List LC)[i]? = some x) {j : Nat} (hj : j < x.n) :
    Bytes x.l ∧ By w x.A x.n x.l ∧ ∃ b, x.A = some ⟨b, 0, none⟩ ∧ ∀ {y : Int} {K : World → Prop}, 0 ≤ y ∧ y ≤ 255 →
      (∀ w1 (os' : List (Option Blk)) (ls' : List LC), OF w0 w1 (oP.toList ++ (Bls os' ++ R)) cs → XO oP os' (upd o i (x.l.set j y)) Z zn zc Y yn yc A n c B m d ls' → (upd o i (x.l.set j y)).Fine → (upd o i (x.l.set j y)).Sm → K w1) → MayC w ⟨b, j, none⟩ ∧ Let (w.setCell ⟨b, j, none⟩ (.int .u8 y)) K := by
  obtain ⟨k1, k2, k3⟩ := xo
  have H1 : OF w0 w (Bls os ++ (oP.toList ++ R)) cs := H.perm (List.perm_append_comm_assoc _ _ _)
  have hbx : Bytes x.l := by
    match i, hx with
    | 0, hx => simp only [List.getElem?_cons_zero, Option.some.injEq] at hx; subst hx; exact ho.b
    | 1, hx => simp only [List.getElem?_cons_succ, List.getElem?_cons_zero, Option.some.injEq] at hx; subst hx; exact ho.p.body
    | 2, hx => simp only [List.getElem?_cons_succ, List.getElem?_cons_zero, Option.some.injEq] at hx; subst hx; exact ho.p.opts
    | i + 3, hx =>
      simp only [List.getElem?_cons_succ] at hx
      refine ho.ps _ ?_
      rw [k3]
      exact List.mem_map.2 ⟨x, List.mem_of_getElem? hx, rfl⟩
  refine ⟨hbx, (k2.by H1.own hx).1, ?_⟩
  have hln := k2.len hx
  obtain ⟨b, hb, hw⟩ := sls_byte H1 k2 hx hj
  refine ⟨b, hb, fun {y K} hy hK => hw fun w1 os' H2 k2' => ?_⟩
  have hset : Bytes (x.l.set j y) := fun z hz => by
    rcases List.mem_or_eq_of_mem_set hz with hz | rfl
    · exact hbx z hz
    · exact hy
  have H3 : OF w0 w1 (oP.toList ++ (Bls os' ++ R)) cs := H2.perm (List.perm_append_comm_assoc _ _ _)
  match i, hx with
  | 0, hx =>
    simp only [List.getElem?_cons_zero, Option.some.injEq] at hx
    subst hx
    refine hK w1 os' ls H3 ⟨k1, k2', k3⟩ ⟨hset, ?_, ho.ps, ho.lp, ho.ln, ho.x, ho.y, ho.z, ho.p⟩ ⟨hs.lo, hs.lb⟩
    show (o.b.set j y).length ≤ _
    rw [List.length_set]
    exact ho.lb
  | 1, hx =>
    simp only [List.getElem?_cons_succ, List.getElem?_cons_zero, Option.some.injEq] at hx
    subst hx
    have e : ((o.p.body).set j y).length = o.p.body.length := List.length_set ..
    refine hK w1 os' ls H3 ⟨k1, k2', k3⟩ ⟨ho.b, ho.lb, ho.ps, ho.lp, ho.ln, ho.x, ho.y, ho.z, ⟨ho.p.tos, ho.p.id, ho.p.off, ho.p.ttl, ho.p.proto, ho.p.src, ho.p.dst, ho.p.opts, hset, ho.p.lo, by show ((o.p.body).set j y).length ≤ _; rw [e]; exact ho.p.lb⟩⟩ ⟨hs.lo, by show ((o.p.body).set j y).length ≤ _; rw [e]; exact hs.lb⟩
  | 2, hx =>
    simp only [List.getElem?_cons_succ, List.getElem?_cons_zero, Option.some.injEq] at hx
    subst hx
    have e : ((o.p.opts).set j y).length = o.p.opts.length := List.length_set ..
    refine hK w1 os' ls H3 ⟨k1, k2', k3⟩ ⟨ho.b, ho.lb, ho.ps, ho.lp, ho.ln, ho.x, ho.y, ho.z, ⟨ho.p.tos, ho.p.id, ho.p.off, ho.p.ttl, ho.p.proto, ho.p.src, ho.p.dst, hset, ho.p.body, by show ((o.p.opts).set j y).length ≤ _; rw [e]; exact ho.p.lo, ho.p.lb⟩⟩ ⟨by show ((o.p.opts).set j y).length ≤ _; rw [e]; exact hs.lo, hs.lb⟩
  | i + 3, hx =>
    simp only [List.getElem?_cons_succ] at hx
    have hil : i < ls.length := (List.getElem?_eq_some_iff.1 hx).1
    have hxe : ls[i] = x := (List.getElem?_eq_some_iff.1 hx).2
    have ev : (ls.set i ⟨x.A, x.n, x.c, x.l.set j y⟩).map LC.val = ls.map LC.val := by
      apply List.ext_getElem?
      intro q
      by_cases hq : q = i
      · subst hq
        simp [List.getElem?_map, hil, hxe]
      · rw [List.getElem?_map, List.getElem?_map, List.getElem?_set_ne (by omega)]
    have eg : o.ps.getD i [] = x.l := by rw [k3, List.getD_eq_getElem?_getD, List.getElem?_map, hx]; rfl
    refine hK w1 os' (ls.set i ⟨x.A, x.n, x.c, x.l.set j y⟩) H3 ⟨by rw [ev]; exact k1, k2', ?_⟩ ⟨ho.b, ho.lb, fun p hp => ?_, ?_, ?_, ho.x, ho.y, ho.z, ho.p⟩ ⟨hs.lo, hs.lb⟩
    · show o.ps.set i (x.l.set j y) = _
      rw [k3, List.map_set]
    · rcases List.mem_or_eq_of_mem_set hp with hp | rfl
      · exact ho.ps p hp
      · exact hset
    · show (o.ps.set i (x.l.set j y)).flatten.length ≤ _
      rw [set_flat _ _ _ (by rw [eg, List.length_set])]
      exact ho.lp
    · show (o.ps.set i (x.l.set j y)).length ≤ _
      rw [List.length_set]
      exact ho.ln
theorem pmv {α : Type} (a b : α) (M X R : List α) : (a :: (M ++ (b :: (X ++ R)))).Perm (X ++ (a :: (M ++ (b :: R)))) :=
  ((((List.perm_middle (l₁ := X) (a := b) (l₂ := R)).symm.append_left M).trans (List.perm_append_comm_assoc M X _)).cons a).trans List.perm_middle.symm
theorem other_j3 (H : OF w0 w ((g2, 39, opv o Z zn zc Y yn yc A n c B m d) :: (M ++ ((g4, 39, z4) :: (oP.toList ++ (Bls os ++ R))))) cs) (hz4 : z4.length = 17) (xo : XO oP os o Z zn zc Y yn yc A n c B m d ls) (ho : o.Fine) (hs : o.Sm) {k how : Int} (hk : 0 ≤ k) (hk2 : k ≤ 9223372036854775807)
    {oA : Option Blk} (hM : M = oA.toList) {P : Option Addr} {p : Nat} {fs : List LC} (sa : SV oA P fs.length p (fs.map LC.val)) (hf : ∀ x ∈ fs, 0 < x.n ∧ ∃ i : Nat, (⟨Z, zn, zc, o.b⟩ :: ⟨B, m, d, o.p.body⟩ :: ⟨A, n, c, o.p.opts⟩ :: ls : List LC)[i]? = some x) (hl : fs.length ≤ 1000000003)
    {b : Bool} (hb : b = true → 0 < fs.length) : weftlaw3_other.J3 k g2 g4 how P fs.length p b w (RetO w0 R cs) := by
  unfold weftlaw3_other.J3; intros
  rw [weftlaw3_other.j3_eq]
  refine ifB (fun hbt => ?_) (fun _ => ?_)
  · have hp := hb hbt
    refine ⟨by omega, ?_⟩
    refine let_as (k % (fs.length : Int)) (tm hk) ?_
    have i0 := Int.emod_nonneg k (b := (fs.length : Int)) (by omega)
    have i1 := Int.emod_lt_of_pos k (b := (fs.length : Int)) (by omega)
    obtain ⟨idx, hidx⟩ : ∃ idx : Nat, k % (fs.length : Int) = (idx : Int) := ⟨(k % (fs.length : Int)).toNat, by omega⟩
    rw [hidx] at i0 i1 ⊢
    have hil : idx < fs.length := by omega
    have hx : fs[idx]? = some fs[idx] := List.getElem?_eq_getElem hil
    obtain ⟨xn, i, hxi⟩ := hf fs[idx] (List.getElem_mem hil)
    generalize fs[idx] = x at hx xn hxi
    have hsl := sa.1
    rcases sa.2 with ⟨_, _, _, e⟩ | ⟨b', pad, rfl, rfl, hc⟩
    · rw [e] at hsl
      simp at hsl
      omega
    subst hM
    refine ⟨_, rfl, ⟨by omega, by omega⟩, x.A, x.n, x.c, ?_, ?_⟩
    · rw [Int.toNat_natCast, add_blk, Nat.zero_add]
      refine H.own.cell 1 idx rfl ?_
      rw [List.getElem?_append_left (by rw [List.length_map]; omega), List.getElem?_map, hx]
      rfl
    refine ⟨by omega, ?_⟩
    have d0 : 0 ≤ k / (fs.length : Int) := Int.ediv_nonneg hk (by omega)
    have d1 : k / (fs.length : Int) ≤ k := Int.ediv_le_self _ hk
    refine let_as (k / (fs.length : Int)) (by rw [td hk, w64 (by omega) (by omega)]) ?_
    refine ⟨by omega, ?_⟩
    refine let_as (k / (fs.length : Int) % (x.n : Int)) (tm d0) ?_
    have j0 := Int.emod_nonneg (k / (fs.length : Int)) (b := (x.n : Int)) (by omega)
    have j1 := Int.emod_lt_of_pos (k / (fs.length : Int)) (b := (x.n : Int)) (by omega)
    obtain ⟨j, hj⟩ : ∃ j : Nat, k / (fs.length : Int) % (x.n : Int) = (j : Int) := ⟨(k / (fs.length : Int) % (x.n : Int)).toNat, by omega⟩
    rw [hj] at j0 j1 ⊢
    have H1 : OF w0 w (oP.toList ++ (Bls os ++ ((g2, 39, opv o Z zn zc Y yn yc A n c B m d) :: ((some (b', 30, fs.map LC.val ++ pad)).toList ++ ((g4, 39, z4) :: R))))) cs := by
      rw [← List.append_assoc]
      rw [← List.append_assoc] at H
      exact H.perm (pmv _ _ _ _ _)
    obtain ⟨hbx, hby, b2, hA, hw⟩ := xo_byte H1 xo ho hs hxi (j := j) (by omega)
    refine hby.rd (by omega) (by omega) fun _ => ?_
    rw [Int.toNat_natCast]
    refine let_as (k % 255) (tm hk) ?_
    refine let_as (1 + k % 255) (w64 (by omega) (by omega)) ?_
    refine let_as (1 + k % 255) (w8 (by omega) (by omega)) ?_
    refine let_id ?_
    refine ⟨_, hA, ⟨by omega, by omega⟩, ?_⟩
    rw [add_blk, Nat.zero_add]
    refine hw (xor8 (hbx.getD j) (by omega)) fun w1 os' ls' H2 xo' ho' hs' => ?_
    have H3 : OF w0 w1 ((g2, 39, opv o Z zn zc Y yn yc A n c B m d) :: ((some (b', 30, fs.map LC.val ++ pad)).toList ++ ((g4, 39, z4) :: (oP.toList ++ (Bls os' ++ R))))) cs := by
      rw [← List.append_assoc] at H2
      rw [← List.append_assoc oP.toList]
      exact H2.perm (pmv _ _ _ _ _).symm
    rw [← upd_opv o i (x.l.set j (Go.bits .xor .u8 (x.l.getD j 0) (1 + k % 255)))] at H3
    have kk := other_j4 (M := (some (b', 30, fs.map LC.val ++ pad)).toList) H3 hz4 xo' ho' hs'
    exact ⟨by with_reducible apply kk⟩
  refine ifE (fun _ => ?_) (fun _ => ?_)
  · refine ⟨_, H.own.cell 0 3 rfl rfl, ?_⟩
    refine let_id (let_id ?_)
    refine of_set 0 H rfl (Nat.lt_of_lt_of_le (by decide : 3 < 17) (Nat.le_refl 17)) fun w1 H1 => ?_
    refine ⟨_, H1.own.cell 0 7 rfl rfl, ?_⟩
    refine let_id (let_id ?_)
    refine of_set 0 H1 rfl (Nat.lt_of_lt_of_le (by decide : 7 < 17) (Nat.le_refl 17)) fun w2 H2 => ?_
    have kk := other_j4 (o := { o with x := IntKind.u16.wrap (o.x + IntKind.u16.wrap k), p := { o.p with id := IntKind.u16.wrap (o.p.id + IntKind.u16.wrap k) } }) (M := M) H2 hz4 xo
      ⟨ho.b, ho.lb, ho.ps, ho.lp, ho.ln, wu16 _, ho.y, ho.z, ⟨ho.p.tos, wu16 _, ho.p.off, ho.p.ttl, ho.p.proto, ho.p.src, ho.p.dst, ho.p.opts, ho.p.body, ho.p.lo, ho.p.lb⟩⟩ ⟨hs.lo, hs.lb⟩
    exact ⟨by with_reducible apply kk⟩
  refine ifE (fun _ => ?_) (fun _ => ?_)
  · refine ⟨_, H.own.cell 0 5 rfl rfl, ?_⟩
    refine let_id (let_id ?_)
    refine of_set 0 H rfl (Nat.lt_of_lt_of_le (by decide : 5 < 17) (Nat.le_refl 17)) fun w1 H1 => ?_
    refine ⟨_, H1.own.cell 0 11 rfl rfl, ?_⟩
    refine let_id (let_id ?_)
    refine of_set 0 H1 rfl (Nat.lt_of_lt_of_le (by decide : 11 < 17) (Nat.le_refl 17)) fun w2 H2 => ?_
    have kk := other_j4 (o := { o with z := IntKind.u16.wrap (o.z + IntKind.u16.wrap k), p := { o.p with ttl := IntKind.u8.wrap (o.p.ttl + IntKind.u8.wrap k) } }) (M := M) H2 hz4 xo
      ⟨ho.b, ho.lb, ho.ps, ho.lp, ho.ln, ho.x, ho.y, wu16 _, ⟨ho.p.tos, ho.p.id, ho.p.off, wu8 _, ho.p.proto, ho.p.src, ho.p.dst, ho.p.opts, ho.p.body, ho.p.lo, ho.p.lb⟩⟩ ⟨hs.lo, hs.lb⟩
    exact ⟨by with_reducible apply kk⟩
  refine ⟨_, H.own.cell 0 0 rfl rfl, ?_⟩
  refine ifD (fun _ => ?_) (fun _ => ?_)
  · refine ⟨_, H.own.cell 0 0 rfl rfl, ?_⟩
    have kk := other_j5 (M := M) H hz4 xo ho hs hk (o.k != 5)
    exact ⟨by with_reducible apply kk⟩
  · have kk := other_j5 (M := M) H hz4 xo ho hs hk false
    exact ⟨by with_reducible apply kk⟩
theorem other_l1 (hz4 : z4.length = 17) (xo : XO oP os o Z zn zc Y yn yc A n c B m d ls) (ho : o.Fine) (hs : o.Sm) {k how : Int} (hk : 0 ≤ k) (hk2 : k ≤ 9223372036854775807) : ∀ (q i : Nat) (wa : World) (oA : Option Blk) (P : Option Addr) (p : Nat) (fs : List LC), (3 + yn) - i < q → i ≤ 3 + yn →
    OF w0 wa ((g2, 39, opv o Z zn zc Y yn yc A n c B m d) :: (oA.toList ++ ((g4, 39, z4) :: (oP.toList ++ (Bls os ++ R))))) cs → SV oA P fs.length p (fs.map LC.val) →
    (∀ x ∈ fs, 0 < x.n ∧ ∃ i : Nat, (⟨Z, zn, zc, o.b⟩ :: ⟨B, m, d, o.p.body⟩ :: ⟨A, n, c, o.p.opts⟩ :: ls : List LC)[i]? = some x) → fs.length ≤ i →
    weftlaw3_other.L1 q k g2 g4 how P fs.length p (i : Int) wa (RetO w0 R cs) := by
  have hyn : ls.length = yn := by have := xo.1.1; simpa using this
  have hps : o.ps.length = yn := by rw [xo.2.2, List.length_map]; exact hyn
  have hln := ho.ln
  intro q
  induction q with
  | zero => intro i wa oA P p fs h; omega
  | succ q ih =>
    intro i wa oA P p fs hq hi H sa hf hfl
    unfold weftlaw3_other.L1; intros
    rw [weftlaw3_other.l1_eq]
    have step : ∀ (x : LC), (⟨Z, zn, zc, o.b⟩ :: ⟨B, m, d, o.p.body⟩ :: ⟨A, n, c, o.p.opts⟩ :: ls : List LC)[i]? = some x → i < 3 + yn → 0 < x.n → ∀ {K : Nat → Option Addr → Nat → World → Prop},
        (∀ g A' c' wb, weftlaw3_other.L1 q k g2 g4 how A' (fs.length + 1) c' ((i + 1 : Nat) : Int) wb (RetO w0 R cs) → K g A' c' wb) →
        Let wa.heap.size fun g => Let (wa.alloc (.cells [Value.slice x.A x.n x.c].toArray 30)) fun w6 => AppE w6 1 24 30 [.slice none 0 0] P fs.length p (some ⟨g, 0, none⟩) 1 (K g) := by
      intro x hx hi2 hxn K hK
      refine let_as wa.heap.size rfl (let_as (wa.alloc (.cells [Value.slice x.A x.n x.c].toArray 30)) rfl ?_)
      refine app_at (H.call ((Bel.refl wa).alloc _)) sa (v := .slice x.A x.n x.c) rfl (Bk.new wa _ _).at (by omega) fun oA' A' c' wb H' sa' => ?_
      refine hK _ A' c' wb ?_
      have kk := ih (i + 1) wb oA' A' c' (fs ++ [x]) (by omega) (by omega) H' (by rw [List.length_append, List.map_append]; exact sa') (fun y hy => by
        rcases List.mem_append.1 hy with hy | hy
        · exact hf y hy
        · rw [List.mem_singleton.1 hy]; exact ⟨hxn, i, hx⟩) (by rw [List.length_append]; simp; omega)
      rw [List.length_append] at kk
      exact kk
    have skip : i < 3 + yn → weftlaw3_other.L1 q k g2 g4 how P fs.length p ((i + 1 : Nat) : Int) wa (RetO w0 R cs) := fun hi2 => ih (i + 1) wa oA P p fs (by omega) (by omega) H sa hf (by omega)
    have ei : i < 3 + yn → IntKind.i64.wrap ((i : Int) + 1) = ((i + 1 : Nat) : Int) := fun h => by rw [w64 (by omega) (by omega)]; omega
    refine ⟨Y, yn, yc, H.own.cell 0 2 rfl rfl, ?_⟩
    refine let_as (3 + (yn : Int)) (w64 (by omega) (by omega)) ?_
    refine ifD (fun h1 => ?_) (fun h1 => ?_)
    · have hi3 : i < 3 + yn := by omega
      refine ⟨_, _, _, H.own.cell 0 1 rfl rfl, ?_⟩
      refine ifE (fun h2 => ?_) (fun h2 => ?_)
      · have : i = 1 := by omega
        subst this
        refine ⟨_, _, _, H.own.cell 0 16 rfl rfl, ?_⟩
        refine ifD (fun h3 => ?_) (fun h3 => ?_)
        · refine step ⟨B, m, d, o.p.body⟩ rfl hi3 (by show 0 < m; omega) fun g A' c' wb kk => ?_
          refine let_as _ (ei hi3) ?_
          with_reducible apply kk
        · refine let_as _ (ei hi3) ?_
          have kk := skip hi3
          with_reducible apply kk
      refine ifE (fun h3 => ?_) (fun h3 => ?_)
      · have : i = 2 := by omega
        subst this
        refine ⟨_, _, _, H.own.cell 0 15 rfl rfl, ?_⟩
        refine ifD (fun h3 => ?_) (fun h3 => ?_)
        · refine step ⟨A, n, c, o.p.opts⟩ rfl hi3 (by show 0 < n; omega) fun g A' c' wb kk => ?_
          refine let_as _ (ei hi3) ?_
          with_reducible apply kk
        · refine let_as _ (ei hi3) ?_
          have kk := skip hi3
          with_reducible apply kk
      refine ifD (fun h4 => ?_) (fun h4 => ?_)
      · refine ⟨_, _, _, H.own.cell 0 2 rfl rfl, ?_⟩
        obtain ⟨i', hi'⟩ : ∃ i', i = i' + 3 := ⟨i - 3, by omega⟩
        subst hi'
        refine let_as (i' : Int) (by rw [w64 (by omega) (by omega)]; omega) ?_
        have hx : ls[i']? = some ls[i'] := List.getElem?_eq_getElem (by omega)
        have hsl := xo.1.1
        obtain ⟨b, pad, eP, eY, hcY⟩ : ∃ b pad, oP = some (b, 30, ls.map LC.val ++ pad) ∧ Y = some ⟨b, 0, none⟩ ∧ yc = (ls.map LC.val).length + pad.length := by
          rcases xo.1.2 with ⟨_, _, _, e⟩ | ⟨b, pad, e1, e2, e3⟩
          · rw [e] at hsl
            simp at hsl
            omega
          · exact ⟨b, pad, e1, e2, e3⟩
        refine ⟨_, eY, ⟨by omega, by omega⟩, ls[i'].A, ls[i'].n, ls[i'].c, ?_, ?_⟩
        · rw [Int.toNat_natCast, add_blk, Nat.zero_add]
          have H5 : OF w0 wa (oP.toList ++ (Bls os ++ ((g2, 39, opv o Z zn zc Y yn yc A n c B m d) :: (oA.toList ++ ((g4, 39, z4) :: R))))) cs := by
            rw [← List.append_assoc]
            rw [← List.append_assoc oP.toList] at H
            exact H.perm (pmv _ _ _ _ _)
          rw [eP] at H5
          refine H5.own.cell 0 i' rfl ?_
          rw [List.getElem?_append_left (by rw [List.length_map]; omega), List.getElem?_map, hx]
          rfl
        refine ifD (fun h3 => ?_) (fun h3 => ?_)
        · refine step ls[i'] hx hi3 (by omega) fun g A' c' wb kk => ?_
          refine let_as _ (ei hi3) ?_
          with_reducible apply kk
        · refine let_as _ (ei hi3) ?_
          have kk := skip hi3
          with_reducible apply kk
      · have : i = 0 := by omega
        subst this
        refine ifD (fun h3 => ?_) (fun h3 => ?_)
        · refine step ⟨Z, zn, zc, o.b⟩ rfl hi3 (by show 0 < zn; omega) fun g A' c' wb kk => ?_
          refine let_as _ (ei hi3) ?_
          with_reducible apply kk
        · refine let_as _ (ei hi3) ?_
          have kk := skip hi3
          with_reducible apply kk
    · refine ifD (fun h2 => ?_) (fun h2 => ?_)
      · have kk := other_j3 H hz4 xo ho hs hk hk2 rfl sa hf (by omega) (how := how) (b := decide ((fs.length : Int) > 0)) (fun h => by have := of_decide_eq_true h; omega)
        exact ⟨by with_reducible apply kk⟩
      · have kk := other_j3 H hz4 xo ho hs hk hk2 rfl sa hf (by omega) (how := how) (b := false) (fun h => by cases h)
        exact ⟨by with_reducible apply kk⟩
end
end Go.Proofs.YtchdcdmdbjkihaaS
