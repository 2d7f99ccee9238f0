/- Package weftlaw6, script.go: copies, answers, that they agree.
   Conditions: the arguments are as a row's arguments are; the package variables are as they were laid. -/
import Derived.Test.YtchdcdmdbjkihaaDoorSScr
import Derived.Test.YtchdcdmdbjkihaaDoorSLawE
import Derived.Test.YtchdcdmdbjkihaaDoorSFQ
namespace Go.Proofs.YtchdcdmdbjkihaaDoorS
open Go Go.RowKit Go.Proofs Go.Proofs.YtchdcdmdbjkihaaDoorX
set_option maxRecDepth 100000
set_option linter.unusedVariables false
set_option linter.unusedSectionVars false
set_option linter.unusedSimpArgs false

/-! ### clone -/
theorem clone_l (w : World) {A : Option Addr} {n c : Nat} {l : List Int} (h : By w A n l) (hn : n ≤ 10000000000000) : ∀ (q i : Nat) (wa : World) (B : Option Addr) (d : Nat), n - i < q → i ≤ n → Buf w wa [] B i d (l.take i) →
    weftlaw6_clone.L1 q A n c B i d (i : Int) wa (RetBuf w l) := by
  intro q
  induction q with
  | zero => intro i wa B d h; omega
  | succ q ih =>
    intro i wa B d hq hi hb
    have hl := h.len
    unfold weftlaw6_clone.L1; intros
    rw [weftlaw6_clone.l1_eq]
    refine ifD (fun h1 => ?_) (fun h1 => ?_)
    · refine (h.bel hb.own.bel).rd (by omega) (by omega) fun _ => ?_
      rw [Int.toNat_natCast]
      refine buf_lit (m := 1) hb [l.getD i 0] rfl (by omega) fun B' d' wb hb' => ?_
      refine let_as ((i + 1 : Nat) : Int) (by rw [w64 (by omega) (by omega)]; omega) ?_
      have e : l.take i ++ [l.getD i 0] = l.take (i + 1) := by
        rw [List.take_succ_eq_append_getElem (by omega)]
        simp [List.getD_eq_getElem?_getD, show i < l.length by omega]
      rw [e] at hb'
      apply ih (i + 1) wb B' d' (by omega) (by omega) hb'
    · have : i = l.length := by omega
      subst this
      rw [List.take_length] at hb
      exact ⟨B, d, rfl, hb⟩
theorem clone_c {w : World} {A : Option Addr} {n c : Nat} {l : List Int} (h : By w A n l) (hn : n ≤ 10000000000000) : Calls Tryd.prog 44 #[.slice A n c] w (RetBuf w l) := by
  refine weftlaw6_clone.run ?_
  unfold weftlaw6_clone.s
  refine ⟨n + 1, ?_⟩
  apply clone_l w h hn (n + 1) 0 w none 0 (by omega) (by omega) (Buf.nil (Own.refl w))

/-- A copy is made: a list of one's own more. -/
theorem own_buf {w a b : World} {L : List Blk} {A : Option Addr} {n c : Nat} {l : List Int} (h : Own w a L) (q : Buf a b [] A n c l) : ∃ o : Option Blk, Own w b (o.toList ++ L) ∧ SL o A n c l := by
  obtain ⟨o, h2, k⟩ := buf_sl q
  rw [List.append_nil] at h2
  exact ⟨o, h.join h2, k⟩
theorem own_of {w a : World} {L : List Blk} (h : Own w a L) : OF w a L [] := ⟨h, fun x hx => by cases hx⟩
theorem SLs.snoc {os : List (Option Blk)} {ls : List LC} {o : Option Blk} {x : LC} (h : SL o x.A x.n x.c x.l) (k : SLs os ls) : SLs (os ++ [o]) (ls ++ [x]) := by
  refine ⟨by simp [k.1], fun i o' x' ho hx => ?_⟩
  by_cases hi : i < os.length
  · rw [List.getElem?_append_left hi] at ho
    rw [List.getElem?_append_left (by rw [← k.1]; exact hi)] at hx
    exact k.2 i o' x' ho hx
  · rw [List.getElem?_append_right (by omega)] at ho
    rw [List.getElem?_append_right (by rw [← k.1]; omega), ← k.1] at hx
    have hj : i - os.length = 0 := by
      have := (List.getElem?_eq_some_iff.1 ho).1
      simp at this
      omega
    rw [hj] at ho hx
    simp only [List.getElem?_cons_zero, Option.some.injEq] at ho hx
    subst ho hx
    exact h
theorem bls_snoc (os : List (Option Blk)) (o : Option Blk) : Bls (os ++ [o]) = Bls os ++ o.toList := by simp [Bls]

theorem perm2 {α : Type} (o X : List α) (a b : α) : (o ++ (a :: b :: X)).Perm (a :: b :: (o ++ X)) := List.perm_middle.trans (List.perm_middle.cons _)
theorem cond_old {w a : World} {L : List Blk} (h : Own w a L) (k : Nat) {p : Blk} (hk : L[k]? = some p) {A : Option Addr} {c : Prop} (hf : c → Fre a A) : c → ∀ b, A = some b → b.block ≠ p.1 := fun hc => h.old k hk (hf hc)
def zop : Op6 := ⟨0, [], icz, pz, 0, 0, 0, 0⟩

/-! ### a step whose lists are one's own -/
abbrev lists6 (o : Op6) (Z : Option Addr) (zn zc : Nat) (C : Option Addr) (cn cc : Nat) (A : Option Addr) (n c : Nat) (B : Option Addr) (m d : Nat) : List LC := [⟨Z, zn, zc, o.b⟩, ⟨C, cn, cc, o.q.body⟩, ⟨B, m, d, o.p.body⟩, ⟨A, n, c, o.p.opts⟩]
structure Op6.Sm (o : Op6) : Prop where
  b : o.b.length ≤ 1000000000
  q : o.q.body.length ≤ 1000000000
  lo : o.p.opts.length ≤ 1000000000
  lb : o.p.body.length ≤ 1000000000
section
variable {w0 w : World} {R : List Blk} {os : List (Option Blk)} {o : Op6} {Z : Option Addr} {zn zc : Nat} {C : Option Addr} {cn cc : Nat} {A : Option Addr} {n c : Nat} {B : Option Addr} {m d : Nat}
theorem xo6_at (h : Own w0 w (Bls os ++ R)) (k : SLs os (lists6 o Z zn zc C cn cc A n c B m d)) : OpAt w o Z zn zc C cn cc A n c B m d := by
  have b0 := SLs.by h k (i := 0) rfl
  have b1 := SLs.by h k (i := 1) rfl
  have b2 := SLs.by h k (i := 2) rfl
  have b3 := SLs.by h k (i := 3) rfl
  exact ⟨b0.1, b0.2, b1.1, ⟨b3.1, b2.1, b3.2, b2.2⟩⟩
/-- Such a step is answered. -/
def RetX (w : World) (o : Op6) (e : Ending) (w' : World) : Prop := ∃ (Z : Option Addr) (zn zc : Nat) (C : Option Addr) (cn cc : Nat) (A : Option Addr) (n c : Nat) (B : Option Addr) (m d : Nat) (os : List (Option Blk)),
  e = .returned (.agg (ov o Z zn zc C cn cc A n c B m d).toArray) ∧ Own w w' (Bls os) ∧ SLs os (lists6 o Z zn zc C cn cc A n c B m d)
theorem alone_t (hs : o.Sm) (h : OpAt w o Z zn zc C cn cc A n c B m d) : Calls Tryd.prog 14 #[.agg (ov o Z zn zc C cn cc A n c B m d).toArray] w (RetX w o) := by
  refine weftlaw6_alone.run ?_
  unfold weftlaw6_alone.s
  have lz := h.b.len
  have lq := h.q.len
  have lo := h.p.opts.len
  have lb := h.p.body.len
  have s1 := hs.b
  have s2 := hs.q
  have s3 := hs.lo
  have s4 := hs.lb
  refine own_new (l := ov o Z zn zc C cn cc A n c B m d) (Own.refl w) fun g1 w2 H => ?_
  refine own_new (l := ov zop none 0 0 none 0 0 none 0 0 none 0 0) H fun g3 w4 H => ?_
  refine ⟨_, _, _, H.cell 1 1 rfl rfl, ?_⟩
  refine call_of (clone_c (h.b.bel H.bel) (by omega)) ?_
  rintro e w6 ⟨A8, c8, rfl, b8⟩
  refine ⟨_, _, _, rfl, ?_⟩
  obtain ⟨o1, H1, t1⟩ := own_buf H b8
  replace H1 := H1.perm (perm2 _ _ _ _)
  refine own_set 1 H1 rfl (Nat.lt_of_lt_of_le (by decide : 1 < 21) (Nat.le_refl 21)) fun w9 H => ?_
  replace H : Own w w9 ((g3, 41, ov zop none 0 0 none 0 0 none 0 0 none 0 0) :: (g1, 41, ov o A8 o.b.length c8 C cn cc A n c B m d) :: (o1.toList ++ [])) := H
  refine ⟨_, _, _, H.cell 1 5 rfl rfl, ?_⟩
  refine call_of (clone_c (h.q.bel H.bel) (by omega)) ?_
  rintro e w11 ⟨A13, c13, rfl, b13⟩
  refine ⟨_, _, _, rfl, ?_⟩
  obtain ⟨o2, H1, t2⟩ := own_buf H b13
  replace H1 := H1.perm (perm2 _ _ _ _)
  refine own_set 1 H1 rfl (Nat.lt_of_lt_of_le (by decide : 5 < 21) (Nat.le_refl 21)) fun w14 H => ?_
  replace H : Own w w14 ((g3, 41, ov zop none 0 0 none 0 0 none 0 0 none 0 0) :: (g1, 41, ov o A8 o.b.length c8 A13 o.q.body.length c13 A n c B m d) :: (o2.toList ++ (o1.toList ++ []))) := H
  refine ⟨_, _, _, H.cell 1 16 rfl rfl, ?_⟩
  refine call_of (clone_c (h.p.body.bel H.bel) (by omega)) ?_
  rintro e w16 ⟨A18, c18, rfl, b18⟩
  refine ⟨_, _, _, rfl, ?_⟩
  obtain ⟨o3, H1, t3⟩ := own_buf H b18
  replace H1 := H1.perm (perm2 _ _ _ _)
  refine own_set 1 H1 rfl (Nat.lt_of_lt_of_le (by decide : 16 < 21) (Nat.le_refl 21)) fun w19 H => ?_
  replace H : Own w w19 ((g3, 41, ov zop none 0 0 none 0 0 none 0 0 none 0 0) :: (g1, 41, ov o A8 o.b.length c8 A13 o.q.body.length c13 A n c A18 o.p.body.length c18) :: (o3.toList ++ (o2.toList ++ (o1.toList ++ [])))) := H
  refine ⟨_, _, _, H.cell 1 15 rfl rfl, ?_⟩
  refine call_of (clone_c (h.p.opts.bel H.bel) (by omega)) ?_
  rintro e w21 ⟨A23, c23, rfl, b23⟩
  refine ⟨_, _, _, rfl, ?_⟩
  obtain ⟨o4, H1, t4⟩ := own_buf H b23
  replace H1 := H1.perm (perm2 _ _ _ _)
  refine own_set 1 H1 rfl (Nat.lt_of_lt_of_le (by decide : 15 < 21) (Nat.le_refl 21)) fun w24 H => ?_
  replace H : Own w w24 ((g3, 41, ov zop none 0 0 none 0 0 none 0 0 none 0 0) :: (g1, 41, ov o A8 o.b.length c8 A13 o.q.body.length c13 A23 o.p.opts.length c23 A18 o.p.body.length c18) :: (o4.toList ++ (o3.toList ++ (o2.toList ++ (o1.toList ++ []))))) := H
  refine ⟨_, _, _, _, _, _, _, _, _, _, _, _, _, _, _, _, _, _, _, _, _, _, _, _, _, _, _, _, _, ⟨rfl, (H.bk 1 rfl).at⟩, ?_⟩
  refine own_put 0 H rfl rfl (Nat.le_refl 21) fun w25 H => ?_
  rw [splice_all _ _ (by rfl)] at H
  refine ⟨_, _, _, _, _, _, _, _, _, _, _, _, _, _, _, _, _, _, _, _, _, _, _, _, _, _, _, _, _, ⟨rfl, (H.bk 0 rfl).at⟩, ?_⟩
  have p4 : (o4.toList ++ (o3.toList ++ (o2.toList ++ (o1.toList ++ [])))).Perm (o1.toList ++ (o2.toList ++ (o3.toList ++ (o4.toList ++ [])))) := by
    have e : ∀ a b c d : List Blk, (a ++ (b ++ (c ++ (d ++ [])))).Perm (d ++ (a ++ (b ++ (c ++ [])))) := fun a b c d => by
      have : (a ++ (b ++ (c ++ (d ++ [])))) = (a ++ (b ++ (c ++ []))) ++ d := by simp
      rw [this]
      exact List.perm_append_comm
    refine (e _ _ _ _).trans (List.Perm.append_left _ ?_)
    have e3 : ∀ a b c : List Blk, (a ++ (b ++ (c ++ []))).Perm (c ++ (a ++ (b ++ []))) := fun a b c => by
      have : (a ++ (b ++ (c ++ []))) = (a ++ (b ++ [])) ++ c := by simp
      rw [this]
      exact List.perm_append_comm
    exact (e3 _ _ _).trans ((List.perm_append_comm_assoc _ _ _).append_left _)
  exact ⟨A8, _, c8, A13, _, c13, A23, _, c23, A18, _, c18, [o1, o2, o3, o4], rfl, H.tail.tail.perm p4, SLs.cons (x := ⟨A8, o.b.length, c8, o.b⟩) t1 (SLs.cons (x := ⟨A13, o.q.body.length, c13, o.q.body⟩) t2 (SLs.cons (x := ⟨A18, o.p.body.length, c18, o.p.body⟩) t3 (SLs.cons (x := ⟨A23, o.p.opts.length, c23, o.p.opts⟩) t4 SLs.nil)))⟩
end
end Go.Proofs.YtchdcdmdbjkihaaDoorS
