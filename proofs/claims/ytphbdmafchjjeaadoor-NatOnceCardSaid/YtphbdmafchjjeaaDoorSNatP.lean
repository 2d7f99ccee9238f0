/- Memory of Ports beside blocks of one's own; lists of ports; package weftlaw23: has, count.
   Conditions: the lists are short. -/
import Derived.Test.YtphbdmafchjjeaaDoorSNatL
import Derived.Test.YtphbdmafchjjeaaDoorSNatJ
import Derived.Test.YtphbdmafchjjeaaDoorSFO1
namespace Go.Proofs.YtphbdmafchjjeaaDoorS
open Go Go.RowKit Go.Proofs Go.Proofs.YtphbdmafchjjeaaDoorX
set_option maxRecDepth 100000
set_option linter.unusedVariables false
set_option linter.unusedSectionVars false
set_option linter.unusedSimpArgs false

/-! ### what is one's own beside Ports -/
/-- Every map is as it was. -/
def Mk (w w' : World) : Prop := ∀ (r : Nat) (es : Array MapEntry) (c : Nat), w.heap[r]? = some (.map es c) → w'.heap[r]? = some (.map es c)
theorem Mk.refl (w : World) : Mk w w := fun _ _ _ h => h
theorem Mk.bel {w w' : World} (k : Bel w w') : Mk w w' := fun r es c h => bel_map k h
theorem Mk.but {w w' : World} {g : Nat} {t : TypeId} {l : List Value} (k : But g w w') (hb : Bk w g t l) : Mk w w' := fun r es c h => but_map k hb h
abbrev PX (gP gm lo hi : Nat) (us : List Us) : List Blk := (gP, 73, pvs lo hi gm) :: us.map ublk
section
variable {w0 w w' : World} {gP gm lo hi : Nat} {us : List Us} {R R' : List Blk} {cs : List Lst}
theorem Pts.front (P : Pts w0 w gP gm lo hi us R cs) : OF w0 w (R ++ PX gP gm lo hi us) cs := P.of.perm (List.perm_append_comm (l₁ := PX gP gm lo hi us))
theorem Pts.turn (P : Pts w0 w gP gm lo hi us R cs) (H : OF w0 w' (R' ++ PX gP gm lo hi us) cs) (m : Mk w w') : Pts w0 w' gP gm lo hi us R' cs :=
  ⟨H.perm (List.perm_append_comm (l₂ := PX gP gm lo hi us)), let ⟨es, c, h1, h2⟩ := P.mp; ⟨es, c, m _ _ _ h1, h2⟩, P.ge, P.bm⟩
theorem pts_new {t : TypeId} {l : List Value} {K : Nat → World → Prop} (P : Pts w0 w gP gm lo hi us R cs) (hk : ∀ g w1, Pts w0 w1 gP gm lo hi us ((g, t, l) :: R) cs → Bel w w1 → K g w1) :
    Let w.heap.size fun g => Let (w.alloc (.cells l.toArray t)) (K g) :=
  hk _ _ (P.turn (R' := (w.heap.size, t, l) :: R) (P.front.new t l) (Mk.bel ((Bel.refl w).alloc _))) ((Bel.refl w).alloc _)
theorem Pts.bk (P : Pts w0 w gP gm lo hi us R cs) (k : Nat) {g : Nat} {t : TypeId} {l : List Value} (hk : R[k]? = some (g, t, l)) : Bk w g t l :=
  P.front.own.bk k (by rw [List.getElem?_append_left (List.getElem?_eq_some_iff.1 hk).1]; exact hk)
theorem Pts.mem (P : Pts w0 w gP gm lo hi us R cs) {x : Blk} (h : x ∈ R) : Bk w x.1 x.2.1 x.2.2 := by
  obtain ⟨k, hk⟩ := List.mem_iff_getElem?.1 h
  exact P.bk k hk
theorem pts_put (k : Nat) {g o n : Nat} {t : TypeId} {l vs : List Value} {K : World → Prop} (P : Pts w0 w gP gm lo hi us R cs) (hk : R[k]? = some (g, t, l)) (hn : vs.length = n) (hi' : o + n ≤ l.length)
    (hw : ∀ w1, Pts w0 w1 gP gm lo hi us (R.set k (g, t, splice l o vs)) cs → But g w w1 → K w1) : May w ⟨g, o, none⟩ n ∧ Let (putCells w ⟨g, o, none⟩ vs 0) K := by
  have lt := (List.getElem?_eq_some_iff.1 hk).1
  have hp := Bk.put (t := t) (o := o) vs w l 0 (P.bk k hk) (by omega)
  rw [Nat.add_zero] at hp
  refine ⟨(P.bk k hk).mayN hi', hw _ (P.turn ?_ (Mk.but hp.2 (P.bk k hk))) hp.2⟩
  have := P.front.over k (by rw [List.getElem?_append_left lt]; exact hk) hp.2 hp.1
  rwa [List.set_append_left _ _ lt] at this
theorem Pts.less {L : List Blk} (P : Pts w0 w gP gm lo hi us (L ++ R) cs) : Pts w0 w gP gm lo hi us R cs :=
  P.turn (OF.less (L := L) (by rw [← List.append_assoc]; exact P.front)) (Mk.refl w)
theorem Pts.reb (P : Pts w0 w gP gm lo hi us R cs) (p : R.Perm R') : Pts w0 w gP gm lo hi us R' cs := P.turn (P.front.perm (p.append_right _)) (Mk.refl w)
end
section
variable {w0 a : World} {R : List Blk} {cs : List Lst} {t : TypeId} {k bytes : Nat} {o : Option Blk} {A : Option Addr} {n c : Nat} {vs : List Value}
theorem rv_appM {zs : List Value} (hz : zs.length = k) (h : OF w0 a (o.toList ++ R) cs) (q : RV t k o A n c vs) {v : List Value} (hv : v.length = k) (h1 : v.all one1 = true) {g0 : Nat} (hB : At a ⟨g0, 0, .none⟩ v)
    (hm : (n + 1) * bytes ≤ 140737488355328) (hn : n + 1 ≤ 9223372036854775807) {K : Option Addr → Nat → World → Prop}
    (hK : ∀ (o' : Option Blk) A' c' (wb : World), OF w0 wb (o'.toList ++ R) cs → RV t k o' A' (n + 1) c' (vs ++ v) → Mk a wb → K A' c' wb) : AppE a k bytes t zs A n c (some ⟨g0, 0, .none⟩) 1 K := by
  have ln := q.1
  have e1 : (n + 1) * k = n * k + k := Nat.succ_mul n k
  refine ⟨v, by rw [hv, Nat.one_mul], h1, fun _ => ⟨_, rfl, hB⟩, fun hfit => ?_, fun hlt => ⟨vs, ln, fun hp => ?_, ⟨hm, hn⟩, fun cap h2 h3 => ?_⟩⟩
  · rcases q.2 with ⟨rfl, rfl, rfl, rfl⟩ | ⟨b, pad, rfl, rfl, hc⟩
    · omega
    · have e : ((some (⟨b, 0, .none⟩ : Addr)).map (·.add (n * k))) = some ⟨b, n * k, .none⟩ := by simp [add_blk]
      rw [e]
      have hle : (n + 1) * k ≤ c * k := Nat.mul_le_mul_right k hfit
      have hlen : (vs ++ pad).length = c * k := by rw [List.length_append, hc]
      have hp0 : n * k + v.length ≤ (vs ++ pad).length := by rw [hlen, hv]; omega
      refine ⟨fun _ => ⟨_, rfl, (h.own.bk 0 rfl).mayN hp0⟩, ?_⟩
      have hp := Bk.put (t := t) (o := n * k) v a (vs ++ pad) 0 (h.own.bk 0 rfl) (by rw [Nat.add_zero]; exact hp0)
      rw [Nat.add_zero, splice_at _ _ _ ln] at hp
      refine hK (some (b, t, (vs ++ v) ++ pad.drop v.length)) _ _ _ ?_ ⟨by rw [List.length_append, ln, hv, e1], Or.inr ⟨b, pad.drop v.length, rfl, rfl, ?_⟩⟩ (Mk.but hp.2 (h.own.bk 0 rfl))
      · have := h.over 0 rfl hp.2 hp.1
        rw [List.append_assoc]
        exact this
      · rw [hc, List.length_append, List.length_drop]
        omega
  · rcases q.2 with ⟨rfl, rfl, rfl, rfl⟩ | ⟨b, pad, rfl, rfl, hc⟩
    · simp at hp
    · refine ⟨_, rfl, fun j u hu => (h.own.bk 0 rfl).at j u ?_⟩
      rw [List.getElem?_append_left (List.getElem?_eq_some_iff.1 hu).1]
      exact hu
  · have hM : OF w0 a R cs := by
      rcases q.2 with ⟨rfl, _⟩ | ⟨b, pad, rfl, _⟩
      · exact h
      · exact h.tail
    obtain ⟨zl, ez, hzl⟩ := zero_rows zs.toArray (cap - (n + 1))
    rw [ez, show (vs.toArray ++ v.toArray ++ zl.toArray) = ((vs ++ v) ++ zl).toArray by simp]
    have kb : Bel a (a.drew.alloc (.cells ((vs ++ v) ++ zl).toArray t)) := (Bel.refl a).drew.alloc _
    refine hK (some (a.heap.size, t, (vs ++ v) ++ zl)) _ _ _ ((hM.call (Bel.refl a).drew).new t _) ⟨by rw [List.length_append, ln, hv, e1], Or.inr ⟨_, zl, rfl, rfl, ?_⟩⟩ (Mk.bel kb)
    rw [List.length_append, ln, hv, hzl, ← e1, show zs.toArray.size = k by simpa using hz, ← Nat.add_mul, show n + 1 + (cap - (n + 1)) = cap by omega]
variable {w : World} {gP gm lo hi : Nat} {us : List Us}
theorem pts_app {zs : List Value} (hz : zs.length = k) (P : Pts w0 w gP gm lo hi us (o.toList ++ R) cs) (q : RV t k o A n c vs) {v : List Value} (hv : v.length = k) (h1 : v.all one1 = true) {g0 : Nat} (hB : At w ⟨g0, 0, .none⟩ v)
    (hm : (n + 1) * bytes ≤ 140737488355328) (hn : n + 1 ≤ 9223372036854775807) {K : Option Addr → Nat → World → Prop}
    (hK : ∀ (o' : Option Blk) A' c' (wb : World), Pts w0 wb gP gm lo hi us (o'.toList ++ R) cs → RV t k o' A' (n + 1) c' (vs ++ v) → K A' c' wb) : AppE w k bytes t zs A n c (some ⟨g0, 0, .none⟩) 1 K :=
  rv_appM hz (R := R ++ PX gP gm lo hi us) (by rw [← List.append_assoc]; exact P.front) q hv h1 hB hm hn (fun o' A' c' wb H q' m => hK o' A' c' wb (P.turn (by rw [List.append_assoc]; exact H) m) q')
end

/-! ### lists of ports -/
abbrev ppd (x : Int × Int) : List Value := [.int .u8 x.1, .int .u16 x.2]
def pps (l : List (Int × Int)) : List Value := l.flatMap ppd
theorem pps_len : ∀ l : List (Int × Int), (pps l).length = l.length * 2
  | [] => rfl
  | x :: l => by
    unfold pps
    rw [List.flatMap_cons, List.length_append]
    have := pps_len l
    unfold pps at this
    rw [this]
    simp
    omega
theorem pps_app (l : List (Int × Int)) (x : Int × Int) : pps (l ++ [x]) = pps l ++ ppd x := by simp [pps]
def Pls (w : World) (A : Option Addr) (n : Nat) (l : List (Int × Int)) : Prop := l.length = n ∧ (0 < n → ∃ a, A = some a ∧ ∀ i, i < n → At w (a.add (i * 2)) (ppd (l.getD i (0, 0))))
theorem Pls.bel {w w' : World} {A : Option Addr} {n : Nat} {l : List (Int × Int)} (h : Pls w A n l) (k : Bel w w') : Pls w' A n l :=
  ⟨h.1, fun hn => let ⟨a, e, hc⟩ := h.2 hn; ⟨a, e, fun i hi => (hc i hi).bel k⟩⟩
theorem Pls.rd {w : World} {A : Option Addr} {n : Nat} {l : List (Int × Int)} (h : Pls w A n l) {i : Nat} (hi : i < n) : ∃ a, A = some a ∧ At w (a.add (i * 2)) (ppd (l.getD i (0, 0))) := by
  obtain ⟨a, e, hc⟩ := h.2 (by omega)
  exact ⟨a, e, hc i hi⟩
theorem RV.pls {w : World} {t : TypeId} {o : Option Blk} {A : Option Addr} {n c : Nat} {l : List (Int × Int)} (q : RV t 2 o A n c (pps l)) (h : ∀ x ∈ o.toList, Bk w x.1 x.2.1 x.2.2) : Pls w A n l := by
  have hl := q.1
  rw [pps_len] at hl
  have hl2 : l.length = n := by omega
  refine ⟨hl2, fun hn => ?_⟩
  rcases q.2 with ⟨rfl, rfl, rfl, h4⟩ | ⟨b, pad, rfl, rfl, hc⟩
  · have := congrArg List.length h4
    rw [pps_len] at this
    have e : l.length * 2 = 0 := this
    omega
  · refine ⟨_, rfl, fun i hi j v hv => ?_⟩
    have hb : Bk w b t (pps l ++ pad) := h (b, t, pps l ++ pad) (List.mem_singleton.2 rfl)
    rw [add_blk, add_blk, Nat.zero_add]
    refine hb.cell (i * 2 + j) ?_
    have hj : j < 2 := (List.getElem?_eq_some_iff.1 hv).1
    rw [List.getElem?_append_left (by rw [pps_len]; omega)]
    have e : l[i]? = some (l.getD i (0, 0)) := by
      rw [List.getD_eq_getElem?_getD, List.getElem?_eq_getElem (by omega)]
      rfl
    rw [show (pps l)[i * 2 + j]? = _ from fm_get ppd (fun _ => rfl) l i j e hj]
    exact hv
theorem eqV_pp (a b c d : Int) : eqV [.int .u8 a, .int .u16 b] [.int .u8 c, .int .u16 d] = decide (((a, b) : Int × Int) = (c, d)) := by
  by_cases h1 : a = c <;> by_cases h2 : b = d <;> simp [eqV, h1, h2]
section
variable {w : World} {A : Option Addr} {n c : Nat} {l : List (Int × Int)} (h : Pls w A n l) (hn : n ≤ 2000000000000)
include h hn
theorem has_l {x : Int × Int} {g : Nat} {t : TypeId} : ∀ (q i : Nat) (wa : World), n - i < q → i ≤ n → (∀ y ∈ l.take i, y ≠ x) → Own w wa [(g, t, ppd x)] → weftlaw23_has.L1 q A n c g (i : Int) wa (Ret (.bool (decide (x ∈ l))) w) := by
  have hl := h.1
  intro q
  induction q with
  | zero => intro i wa hq; omega
  | succ q ih =>
    intro i wa hq hi hx H
    unfold weftlaw23_has.L1; intros
    rw [weftlaw23_has.l1_eq]
    refine ifD (fun h1 => ?_) (fun h1 => ?_)
    · have hi2 : i < n := by omega
      refine draws (fun w' => Own w w' [(g, t, ppd x)]) H.drew fun w2 e2 => ?_
      have H2 : Own w w2 [(g, t, ppd x)] := by rw [e2]; exact H.drew
      obtain ⟨a, ea, hat⟩ := h.rd hi2
      refine ⟨a, ea, ⟨by omega, by omega⟩, _, _, ⟨rfl, fun w' h => hat.bel h.bel⟩, _, _, ⟨rfl, fun w' h => (h.bk 0 rfl).at⟩, ?_⟩
      rw [eqV_pp]
      refine ifB (fun h2 => ?_) (fun h2 => ?_)
      · have e : l.getD i (0, 0) = x := of_decide_eq_true h2
        have hm : x ∈ l := by
          rw [← e, List.getD_eq_getElem?_getD, List.getElem?_eq_getElem (by omega)]
          exact List.getElem_mem _
        rw [show decide (x ∈ l) = true from decide_eq_true hm]
        exact ⟨rfl, H2.bel⟩
      · refine let_as ((i + 1 : Nat) : Int) (by rw [w64 (by omega) (by omega)]; omega) ?_
        refine ih (i + 1) w2 (by omega) (by omega) (fun y hy => ?_) H2 ..
        rw [← take_snoc (d := ((0, 0) : Int × Int)) (by omega : i < l.length)] at hy
        rcases List.mem_append.1 hy with hy | hy
        · exact hx y hy
        · rw [List.mem_singleton.1 hy]
          exact fun e => of_decide_eq_false h2 e
    · have e : i = n := by omega
      subst e
      rw [List.take_of_length_le (by omega)] at hx
      rw [show decide (x ∈ l) = false from decide_eq_false fun hm => hx x hm rfl]
      exact ⟨rfl, H.bel⟩
theorem has_cc (x : Int × Int) : Calls Tryd.prog 13 #[.slice A n c, .agg #[.int .u8 x.1, .int .u16 x.2]] w (Ret (.bool (decide (x ∈ l))) w) := by
  refine weftlaw23_has.run ?_
  unfold weftlaw23_has.s
  refine own_new (l := ppd x) (Own.refl w) fun g w1 H => ?_
  refine ⟨n + 1, ?_⟩
  have k : weftlaw23_has.L1 (n + 1) A n c g 0 w1 (Ret (.bool (decide (x ∈ l))) w) := has_l (c := c) h hn (n + 1) 0 w1 (by omega) (by omega) (fun y hy => by simp at hy) H
  exact k ..
theorem count_l {p : Int} : ∀ (q i : Nat), n - i < q → i ≤ n → weftlaw23_count.L1 q A n c p ((l.take i).countP (fun x => decide (x.1 = p)) : Int) (i : Int) w (Ret (.int .i64 (l.countP (fun x => decide (x.1 = p)) : Int)) w) := by
  have hl := h.1
  intro q
  induction q with
  | zero => intro i hq; omega
  | succ q ih =>
    intro i hq hi
    have hle : (l.take i).countP (fun x => decide (x.1 = p)) ≤ i := Nat.le_trans List.countP_le_length (by simp; omega)
    unfold weftlaw23_count.L1; intros
    rw [weftlaw23_count.l1_eq]
    refine ifD (fun h1 => ?_) (fun h1 => ?_)
    · have hi2 : i < n := by omega
      obtain ⟨a, ea, hat⟩ := h.rd hi2
      have e1 : (l.take (i + 1)).countP (fun x => decide (x.1 = p)) = (l.take i).countP (fun x => decide (x.1 = p)) + (if (l.getD i (0, 0)).1 = p then 1 else 0) := by
        rw [← take_snoc (d := ((0, 0) : Int × Int)) (by omega : i < l.length), List.countP_append]
        congr 1
        simp [List.countP_cons]
      refine ⟨a, ea, ⟨by omega, by omega⟩, (l.getD i (0, 0)).1, by have := hat 0 _ rfl; rwa [addr_add_zero] at this, ?_⟩
      refine ifE (fun h2 => ?_) (fun h2 => ?_)
      · rw [if_pos h2] at e1
        refine let_as (((l.take (i + 1)).countP (fun x => decide (x.1 = p)) : Nat) : Int) (by rw [w64 (by omega) (by omega), e1]; omega) ?_
        refine let_as ((i + 1 : Nat) : Int) (by rw [w64 (by omega) (by omega)]; omega) ?_
        exact ih (i + 1) (by omega) (by omega) ..
      · rw [if_neg h2] at e1
        replace e1 : (l.take (i + 1)).countP (fun x => decide (x.1 = p)) = (l.take i).countP (fun x => decide (x.1 = p)) := e1
        refine let_as ((i + 1 : Nat) : Int) (by rw [w64 (by omega) (by omega)]; omega) ?_
        rw [← e1]
        exact ih (i + 1) (by omega) (by omega) ..
    · have e : i = n := by omega
      subst e
      rw [List.take_of_length_le (by omega)]
      exact ⟨rfl, Bel.refl w⟩
theorem count_c (p : Int) : Calls Tryd.prog 12 #[.slice A n c, .int .u8 p] w (Ret (.int .i64 (l.countP (fun x => decide (x.1 = p)) : Int)) w) := by
  refine weftlaw23_count.run ?_
  unfold weftlaw23_count.s
  refine ⟨n + 1, ?_⟩
  have k : weftlaw23_count.L1 (n + 1) A n c p 0 0 w (Ret (.int .i64 (l.countP (fun x => decide (x.1 = p)) : Int)) w) := by
    have := count_l (c := c) (p := p) h hn (n + 1) 0 (by omega) (by omega)
    simpa using this
  exact k ..
end
end Go.Proofs.YtphbdmafchjjeaaDoorS
