/- Package weftlaw3, script.go: copies, answers, that they agree.
   Conditions: the arguments are as a row's arguments are. -/
import Derived.Test.YtchdcdmdbjkihaaSScr
import Derived.Test.YtchdcdmdbjkihaaSL3A
import Derived.Test.YtchdcdmdbjkihaaSFQ
namespace Go.Proofs.YtchdcdmdbjkihaaS
open Go Go.RowKit Go.Proofs Go.Proofs.YtchdcdmdbjkihaaX
set_option maxRecDepth 100000
set_option linter.unusedVariables false
set_option linter.unusedSectionVars false
set_option linter.unusedSimpArgs false

/-! ### clone -/
theorem clone_l (w : World) {A : Option Addr} {n c : Nat} {l : List Int} (h : By w A n l) (hn : n ≤ 10000000000000) : ∀ (q i : Nat) (wa : World) (B : Option Addr) (d : Nat), n - i < q → i ≤ n → Buf w wa [] B i d (l.take i) →
    weftlaw3_clone.L1 q A n c B i d (i : Int) wa (RetBuf w l) := by
  intro q
  induction q with
  | zero => intro i wa B d h; omega
  | succ q ih =>
    intro i wa B d hq hi hb
    have hl := h.len
    unfold weftlaw3_clone.L1; intros
    rw [weftlaw3_clone.l1_eq]
    refine ifD (fun h1 => ?_) (fun h1 => ?_)
    · refine (h.bel hb.own.bel).rd (by omega) (by omega) fun _ => ?_
      rw [Int.toNat_natCast]
      refine buf_lit (m := 1) hb [l.getD i 0] rfl (by omega) fun B' d' wb hb' => ?_
      refine let_as ((i + 1 : Nat) : Int) (by rw [w64 (by omega) (by omega)]; omega) ?_
      have e : l.take i ++ [l.getD i 0] = l.take (i + 1) := by
        rw [List.take_succ_eq_append_getElem (by omega)]
        simp [List.getD_eq_getElem?_getD, show i < l.length by omega]
      rw [e] at hb'
      apply ih (i + 1) wb B' d' (by omega) (by omega) hb'
    · have : i = l.length := by omega
      subst this
      rw [List.take_length] at hb
      exact ⟨B, d, rfl, hb⟩
theorem clone_c {w : World} {A : Option Addr} {n c : Nat} {l : List Int} (h : By w A n l) (hn : n ≤ 10000000000000) : Calls Try.prog 55 #[.slice A n c] w (RetBuf w l) := by
  refine weftlaw3_clone.run ?_
  unfold weftlaw3_clone.s
  refine ⟨n + 1, ?_⟩
  apply clone_l w h hn (n + 1) 0 w none 0 (by omega) (by omega) (Buf.nil (Own.refl w))

/-! ### a step whose lists are one's own -/
def XO (oP : Option Blk) (os : List (Option Blk)) (o : Op3) (Z : Option Addr) (zn zc : Nat) (Y : Option Addr) (yn yc : Nat) (A : Option Addr) (n c : Nat) (B : Option Addr) (m d : Nat) (ls : List LC) : Prop :=
  SV oP Y yn yc (ls.map LC.val) ∧ SLs os (⟨Z, zn, zc, o.b⟩ :: ⟨B, m, d, o.p.body⟩ :: ⟨A, n, c, o.p.opts⟩ :: ls) ∧ o.ps = ls.map LC.l
section
variable {w0 w : World} {R : List Blk} {cs : List Lst} {oP : Option Blk} {os : List (Option Blk)} {o : Op3} {Z : Option Addr} {zn zc : Nat} {Y : Option Addr} {yn yc : Nat} {A : Option Addr} {n c : Nat} {B : Option Addr} {m d : Nat} {ls : List LC}
theorem XO.at (h : Own w0 w (oP.toList ++ (Bls os ++ R))) (k : XO oP os o Z zn zc Y yn yc A n c B m d ls) : OpAt w o Z zn zc Y yn yc A n c B m d := by
  obtain ⟨k1, k2, k3⟩ := k
  have h2 : Own w0 w (Bls os ++ (oP.toList ++ R)) := h.perm (List.perm_append_comm_assoc _ _ _)
  have b0 := SLs.by h2 k2 (i := 0) rfl
  have b1 := SLs.by h2 k2 (i := 1) rfl
  have b2 := SLs.by h2 k2 (i := 2) rfl
  refine ⟨b0.1, b0.2, ⟨?_, fun hp => ?_⟩, ⟨b2.1, b1.1, b2.2, b1.2⟩⟩
  · have := k1.1
    rw [k3, List.length_map]
    simpa using this
  · have hl := k1.1
    rcases k1.2 with ⟨_, _, _, e⟩ | ⟨b, pad, rfl, rfl, hc⟩
    · rw [e] at hl
      simp at hl
      omega
    · refine ⟨_, rfl, fun i hi => ?_⟩
      have hlen : ls.length = yn := by simpa using hl
      have hx : ls[i]? = some ls[i] := List.getElem?_eq_getElem (by omega)
      have b3 := SLs.by h2 k2 (i := i + 3) hx
      refine ⟨ls[i].A, ls[i].n, ls[i].c, ?_, ?_⟩
      · rw [add_blk, Nat.zero_add]
        refine h.cell 0 i rfl ?_
        rw [List.getElem?_append_left (by rw [List.length_map]; omega), List.getElem?_map, hx]
        rfl
      · have e : o.ps.getD i [] = ls[i].l := by rw [k3, List.getD_eq_getElem?_getD, List.getElem?_map, hx]; rfl
        rw [e]
        exact b3.1
end
/-- A copy is made: a list of one's own more. -/
theorem own_buf {w a b : World} {L : List Blk} {A : Option Addr} {n c : Nat} {l : List Int} (h : Own w a L) (q : Buf a b [] A n c l) : ∃ o : Option Blk, Own w b (o.toList ++ L) ∧ SL o A n c l := by
  obtain ⟨o, h2, k⟩ := buf_sl q
  rw [List.append_nil] at h2
  exact ⟨o, h.join h2, k⟩
theorem own_of {w a : World} {L : List Blk} (h : Own w a L) : OF w a L [] := ⟨h, fun x hx => by cases hx⟩
theorem SLs.snoc {os : List (Option Blk)} {ls : List LC} {o : Option Blk} {x : LC} (h : SL o x.A x.n x.c x.l) (k : SLs os ls) : SLs (os ++ [o]) (ls ++ [x]) := by
  refine ⟨by simp [k.1], fun i o' x' ho hx => ?_⟩
  by_cases hi : i < os.length
  · rw [List.getElem?_append_left hi] at ho
    rw [List.getElem?_append_left (by rw [← k.1]; exact hi)] at hx
    exact k.2 i o' x' ho hx
  · rw [List.getElem?_append_right (by omega)] at ho
    rw [List.getElem?_append_right (by rw [← k.1]; omega), ← k.1] at hx
    have hj : i - os.length = 0 := by
      have := (List.getElem?_eq_some_iff.1 ho).1
      simp at this
      omega
    rw [hj] at ho hx
    simp only [List.getElem?_cons_zero, Option.some.injEq] at ho hx
    subst ho hx
    exact h
theorem bls_snoc (os : List (Option Blk)) (o : Option Blk) : Bls (os ++ [o]) = Bls os ++ o.toList := by simp [Bls]

/-! ### alone -/
section
variable {w : World} {o : Op3} {Z : Option Addr} {zn zc : Nat} {Y : Option Addr} {yn yc : Nat} {A : Option Addr} {n c : Nat} {B : Option Addr} {m d : Nat}
/-- Such a step is answered. -/
def RetX (w : World) (o : Op3) (e : Ending) (w' : World) : Prop := ∃ (Z : Option Addr) (zn zc : Nat) (Y : Option Addr) (yn yc : Nat) (A : Option Addr) (n c : Nat) (B : Option Addr) (m d : Nat) (oP : Option Blk) (os : List (Option Blk)) (ls : List LC),
  e = .returned (.agg (opv o Z zn zc Y yn yc A n c B m d).toArray) ∧ Own w w' (oP.toList ++ Bls os) ∧ XO oP os o Z zn zc Y yn yc A n c B m d ls
theorem mem_flat : ∀ {ps : List (List Int)} {p : List Int}, p ∈ ps → p.length ≤ ps.flatten.length
  | [], _, h => by cases h
  | q :: ps, p, h => by
    rw [List.flatten_cons, List.length_append]
    rcases List.mem_cons.1 h with rfl | h
    · omega
    · have := mem_flat h
      omega
theorem perm2 {α : Type} (o X : List α) (a b : α) : (o ++ (a :: b :: X)).Perm (a :: b :: (o ++ X)) := List.perm_middle.trans (List.perm_middle.cons _)
theorem alone_l (ho : o.Fine) (h : OpAt w o Z zn zc Y yn yc A n c B m d) {g1 g3 : Nat} {z3 : List Value} (hz3 : z3.length = 17) {Z' : Option Addr} {zn' zc' : Nat} {A' : Option Addr} {n' c' : Nat} {B' : Option Addr} {m' d' : Nat} :
    ∀ (q i : Nat) (wa : World) (oP : Option Blk) (os : List (Option Blk)) (ls : List LC) (P : Option Addr) (p : Nat), yn - i < q → i ≤ yn → ls.length = i → ls.map LC.l = o.ps.take i →
      Own w wa ((g3, 39, z3) :: (oP.toList ++ ((g1, 39, opv o Z' zn' zc' Y yn yc A' n' c' B' m' d') :: Bls os))) → SV oP P i p (ls.map LC.val) → SLs os (⟨Z', zn', zc', o.b⟩ :: ⟨B', m', d', o.p.body⟩ :: ⟨A', n', c', o.p.opts⟩ :: ls) →
      weftlaw3_alone.L1 q g1 g3 P i p (i : Int) wa (RetX w o) := by
  have l1 := ho.ln
  have l2 := h.ps.1
  have l3 := ho.lp
  intro q
  induction q with
  | zero => intro i wa oP os ls P p h; omega
  | succ q ih =>
    intro i wa oP os ls P p hq hi hls hps H sp sl
    have H2 : Own w wa ((g1, 39, opv o Z' zn' zc' Y yn yc A' n' c' B' m' d') :: ((g3, 39, z3) :: (oP.toList ++ Bls os))) := H.perm ((List.perm_middle.cons _).trans (List.Perm.swap _ _ _))
    unfold weftlaw3_alone.L1; intros
    rw [weftlaw3_alone.l1_eq]
    refine ⟨Y, yn, yc, H2.cell 0 2 rfl rfl, ?_⟩
    refine ifD (fun h1 => ?_) (fun h1 => ?_)
    · refine ⟨Y, yn, yc, H2.cell 0 2 rfl rfl, ?_⟩
      obtain ⟨a, ea, hc⟩ := h.ps.2 (by omega)
      obtain ⟨C, s, r, c1, c2⟩ := hc i (by omega)
      refine ⟨a, ea, ⟨by omega, by omega⟩, C, s, r, by rw [Int.toNat_natCast]; exact H.bel.cellb c1, ?_⟩
      have eg : o.ps.getD i [] = o.ps[i]'(by omega) := by simp [List.getD_eq_getElem?_getD, show i < o.ps.length by omega]
      have hle : s ≤ 10000000000000 := by
        rw [← c2.len, eg]
        have := mem_flat (List.getElem_mem (l := o.ps) (n := i) (by omega))
        omega
      refine call_of (clone_c (c2.bel H.bel) hle) ?_
      rintro e w5 ⟨A7, c7, rfl, b7⟩
      refine ⟨_, _, _, rfl, ?_⟩
      obtain ⟨o7, H7, s7⟩ := own_buf H b7
      replace H7 := own_of (H7.perm (List.perm_middle.trans ((List.perm_append_comm_assoc o7.toList oP.toList _).cons _)))
      refine let_as w5.heap.size rfl (let_as (w5.alloc (.cells [Value.slice A7 (o.ps.getD i []).length c7].toArray 30)) rfl ?_)
      refine app_at (H7.call ((Bel.refl w5).alloc _)) sp (v := .slice A7 (o.ps.getD i []).length c7) rfl (Bk.new w5 _ _).at (by omega) fun oP' P' p' w9 H9 sp' => ?_
      refine let_as ((i + 1 : Nat) : Int) (by rw [w64 (by omega) (by omega)]; omega) ?_
      have H10 := H9.own.perm (((List.perm_middle.trans ((List.perm_append_comm (l₁ := o7.toList) (l₂ := Bls os)).cons _)).append_left oP'.toList).cons _)
      rw [← bls_snoc] at H10
      have s9 : SLs (os ++ [o7]) (⟨Z', zn', zc', o.b⟩ :: ⟨B', m', d', o.p.body⟩ :: ⟨A', n', c', o.p.opts⟩ :: (ls ++ [(⟨A7, (o.ps.getD i []).length, c7, o.ps.getD i []⟩ : LC)])) := SLs.snoc (x := ⟨A7, (o.ps.getD i []).length, c7, o.ps.getD i []⟩) s7 sl
      have k := ih (i + 1) w9 oP' (os ++ [o7]) (ls ++ [(⟨A7, (o.ps.getD i []).length, c7, o.ps.getD i []⟩ : LC)]) P' p' (by omega) (by omega) (by rw [List.length_append, hls]; rfl)
        (by rw [List.map_append, hps, List.take_succ_eq_append_getElem (by omega), eg]; rfl) H10 (by rw [List.map_append]; exact sp') s9
      with_reducible apply k
    · have hiy : i = yn := by omega
      subst hiy
      refine own_set 0 H2 rfl (Nat.lt_of_lt_of_le (by decide : 2 < 17) (Nat.le_refl 17)) fun w3 H3 => ?_
      replace H3 : Own w w3 ((g1, 39, opv o Z' zn' zc' P i p A' n' c' B' m' d') :: ((g3, 39, z3) :: (oP.toList ++ Bls os))) := H3
      refine ⟨_, _, _, _, _, _, _, _, _, _, _, _, _, _, _, _, _, _, _, _, _, _, _, _, _, ⟨rfl, (H3.bk 0 rfl).at⟩, ?_⟩
      refine own_put 1 H3 rfl rfl (by rw [hz3]; exact Nat.le_refl 17) fun w4 H4 => ?_
      rw [splice_all _ _ (by rw [hz3]; rfl)] at H4
      replace H4 : Own w w4 ((g1, 39, opv o Z' zn' zc' P i p A' n' c' B' m' d') :: ((g3, 39, opv o Z' zn' zc' P i p A' n' c' B' m' d') :: (oP.toList ++ Bls os))) := H4
      refine ⟨_, _, _, _, _, _, _, _, _, _, _, _, _, _, _, _, _, _, _, _, _, _, _, _, _, ⟨rfl, (H4.bk 1 rfl).at⟩, ?_⟩
      refine ⟨Z', zn', zc', P, i, p, A', n', c', B', m', d', oP, os, ls, rfl, H4.tail.tail, sp, sl, ?_⟩
      rw [hps, List.take_of_length_le (by omega)]
theorem alone_t (ho : o.Fine) (h : OpAt w o Z zn zc Y yn yc A n c B m d) (hn : n ≤ 1000000000) (hm : m ≤ 1000000000) : Calls Try.prog 16 #[.agg (opv o Z zn zc Y yn yc A n c B m d).toArray] w (RetX w o) := by
  refine weftlaw3_alone.run ?_
  unfold weftlaw3_alone.s
  have lz := h.b.len
  have lb := ho.lb
  refine own_new (l := opv o Z zn zc Y yn yc A n c B m d) (Own.refl w) fun g1 w2 H => ?_
  refine own_new (l := opv zop none 0 0 none 0 0 none 0 0 none 0 0) H fun g3 w4 H => ?_
  refine ⟨_, _, _, H.cell 1 1 rfl rfl, ?_⟩
  refine call_of (clone_c (h.b.bel H.bel) (by omega)) ?_
  rintro e w6 ⟨A8, c8, rfl, b8⟩
  refine ⟨_, _, _, rfl, ?_⟩
  obtain ⟨o1, H1, s1⟩ := own_buf H b8
  replace H1 := H1.perm (perm2 _ _ _ _)
  refine own_set 1 H1 rfl (Nat.lt_of_lt_of_le (by decide : 1 < 17) (Nat.le_refl 17)) fun w9 H => ?_
  replace H : Own w w9 ((g3, 39, opv zop none 0 0 none 0 0 none 0 0 none 0 0) :: (g1, 39, opv o A8 o.b.length c8 Y yn yc A n c B m d) :: (o1.toList ++ [])) := H
  refine ⟨_, _, _, H.cell 1 16 rfl rfl, ?_⟩
  refine call_of (clone_c (h.p.body.bel H.bel) (by omega)) ?_
  rintro e w11 ⟨A13, c13, rfl, b13⟩
  refine ⟨_, _, _, rfl, ?_⟩
  obtain ⟨o2, H1, s2⟩ := own_buf H b13
  replace H1 := H1.perm (perm2 _ _ _ _)
  refine own_set 1 H1 rfl (Nat.lt_of_lt_of_le (by decide : 16 < 17) (Nat.le_refl 17)) fun w14 H => ?_
  replace H : Own w w14 ((g3, 39, opv zop none 0 0 none 0 0 none 0 0 none 0 0) :: (g1, 39, opv o A8 o.b.length c8 Y yn yc A n c A13 o.p.body.length c13) :: (o2.toList ++ (o1.toList ++ []))) := H
  refine ⟨_, _, _, H.cell 1 15 rfl rfl, ?_⟩
  refine call_of (clone_c (h.p.opts.bel H.bel) (by omega)) ?_
  rintro e w16 ⟨A18, c18, rfl, b18⟩
  refine ⟨_, _, _, rfl, ?_⟩
  obtain ⟨o3, H1, s3⟩ := own_buf H b18
  replace H1 := H1.perm (perm2 _ _ _ _)
  refine own_set 1 H1 rfl (Nat.lt_of_lt_of_le (by decide : 15 < 17) (Nat.le_refl 17)) fun w19 H => ?_
  replace H : Own w w19 ((g3, 39, opv zop none 0 0 none 0 0 none 0 0 none 0 0) :: (g1, 39, opv o A8 o.b.length c8 Y yn yc A18 o.p.opts.length c18 A13 o.p.body.length c13) :: (o3.toList ++ (o2.toList ++ (o1.toList ++ [])))) := H
  have p3 : (o3.toList ++ (o2.toList ++ (o1.toList ++ []))).Perm (o1.toList ++ (o2.toList ++ (o3.toList ++ []))) :=
    (List.perm_append_comm_assoc _ _ _).trans (((List.perm_append_comm_assoc _ _ _).append_left _).trans (List.perm_append_comm_assoc _ _ _))
  have H5 := H.perm ((p3.cons _).cons _)
  refine ⟨yn + 1, ?_⟩
  have k : weftlaw3_alone.L1 (yn + 1) g1 g3 none 0 0 0 w19 (RetX w o) := alone_l ho h (z3 := opv zop none 0 0 none 0 0 none 0 0 none 0 0) rfl (yn + 1) 0 w19 none [o1, o2, o3] [] none 0 (by omega) (by omega) rfl rfl H5 SV.none
    (SLs.cons (x := ⟨A8, o.b.length, c8, o.b⟩) s1 (SLs.cons (x := ⟨A13, o.p.body.length, c13, o.p.body⟩) s2 (SLs.cons (x := ⟨A18, o.p.opts.length, c18, o.p.opts⟩) s3 SLs.nil)))
  with_reducible apply k
end
end Go.Proofs.YtchdcdmdbjkihaaS
