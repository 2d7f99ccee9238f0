/- Package weftlaw7: untouched, from its copies on: all answers are what they were, are marked, and hold their marks.
   Conditions: each list lies in a block of its own and fills it. -/
import Derived.Test.YtphbdmafchjjeaaSMemA
import Derived.Test.YtphbdmafchjjeaaSFM1
namespace Go.Proofs.YtphbdmafchjjeaaS
open Go Go.RowKit Go.Proofs Go.Proofs.YtphbdmafchjjeaaX
set_option maxRecDepth 100000
set_option linter.unusedVariables false
set_option linter.unusedSectionVars false
set_option linter.unusedSimpArgs false

theorem blk_cell {w0 w : World} {L : List Blk} (h : Own w0 w L) {p : Bl} (hp : blk p ∈ L) {k : Nat} (hk : k < p.2.length) : w.cell? ((⟨p.1, 0, none⟩ : Addr).add k) = some (.int .u8 (p.2.getD k 0)) := by
  obtain ⟨a, e, hc⟩ := (blk_by h hp).2 (by omega)
  injection e with e
  subst e
  exact hc k hk
theorem map_at {α β : Type} {f : α → β} {l : List α} {i : Nat} {x : α} (h : l[i]? = some x) : (l.map f)[i]? = some (f x) := by
  rw [List.getElem?_map, h]
  rfl
theorem at_lt {α : Type} {l : List α} {i n : Nat} (hn : l.length = n) (h : i < n) : ∃ x, l[i]? = some x := ⟨l[i]'(by omega), List.getElem?_eq_getElem (by omega)⟩

/-! ### all hold their marks -/
section
variable {w0 : World} {L : List Blk} {oL oM : Option Blk} {AL AM : Option Addr} {N cL cM : Nat} {bs : List Bl}
  (qL : RV 29 1 oL AL N cL (bs.map blv)) (qM : RV 29 1 oM AM N cM (bs.map blv)) (hL : Has oL L) (hM : Has oM L) (hb : ∀ p ∈ bs, blk p ∈ L)
  (hc : ∀ i p, bs[i]? = some p → p.2 = patL i p.2.length) (hn : ∀ p ∈ bs, p.2.length ≤ 1000000) (hl : bs.length = N) (hN : N ≤ 1000000)
include qL qM hL hM hb hc hn hl hN
theorem unt_l11 {i : Nat} {p : Bl} (hp : bs[i]? = some p) {m0 : Nat} (rest : ∀ w', Own w0 w' L → weftlaw7_untouched.L9 m0 AL N cL AM N cM ((i + 1 : Nat) : Int) w' (Yes w0)) : ∀ (q k : Nat) (w : World), p.2.length - k < q → k ≤ p.2.length → Own w0 w L →
    weftlaw7_untouched.L11 m0 q AL N cL AM N cM (i : Int) (k : Int) w (Yes w0) := by
  have hi : i < N := by have := (List.getElem?_eq_some_iff.1 hp).1; omega
  have pm := List.mem_of_getElem? hp
  have pn := hn p pm
  obtain ⟨aM, eM, rM⟩ := rv_at qM hi (map_at hp)
  obtain ⟨aL, eL, rL⟩ := rv_at qL hi (map_at hp)
  intro q
  induction q with
  | zero => intro k w h; omega
  | succ q ih =>
    intro k w hq hk H
    unfold weftlaw7_untouched.L11; intros
    rw [weftlaw7_untouched.l11_eq]
    refine ⟨aM, eM, ⟨by omega, by omega⟩, _, _, _, rM H hM, ?_⟩
    refine ifD (fun h => ?_) (fun h => ?_)
    · have hk2 : k < p.2.length := by omega
      have ep : p.2.getD k 0 = patB i k := by
        rw [hc i p hp]
        exact patL_get hk2
      refine draws (fun w' => Own w0 w' L) H.drew fun w2 e2 => ?_
      have H2 : Own w0 w2 L := by rw [e2]; exact H.drew
      refine ⟨aM, eM, ⟨by omega, by omega⟩, _, _, _, fun w' h => rM h hM, ?_⟩
      refine ⟨_, rfl, ⟨by omega, by omega⟩, p.2.getD k 0, fun w' h => blk_cell h (hb p pm) hk2, ?_⟩
      refine call_of (pat_c w2 (by omega) (by omega)) ?_
      rintro e w3 ⟨rfl, k3⟩
      have H3 := H2.call k3
      refine ⟨_, rfl, H3, ?_⟩
      refine ifN (fun h => absurd ep h) (fun _ => ?_)
      refine ⟨aL, eL, ⟨by omega, by omega⟩, _, _, _, fun w' h => rL h hL, ?_⟩
      refine ifT (by omega) ?_
      refine ⟨aL, eL, ⟨by omega, by omega⟩, _, _, _, fun w' h => rL h hL, ?_⟩
      refine ⟨_, rfl, ⟨by omega, by omega⟩, p.2.getD k 0, fun w' h => blk_cell h (hb p pm) hk2, ?_⟩
      refine call_of (pat_c w3 (by omega) (by omega)) ?_
      rintro e w4 ⟨rfl, k4⟩
      have H4 := H3.call k4
      refine ⟨_, rfl, H4, ?_⟩
      refine ifN (fun h => absurd ep h) (fun _ => ?_)
      refine let_as ((k + 1 : Nat) : Int) (by rw [w64 (by omega) (by omega)]; omega) ?_
      exact ih (k + 1) w4 (by omega) (by omega) H4 ..
    · refine let_as ((i + 1 : Nat) : Int) (by rw [w64 (by omega) (by omega)]; omega) ?_
      exact rest w H ..
theorem unt_l9 : ∀ (q i : Nat) (w : World), N - i < q → i ≤ N → Own w0 w L → weftlaw7_untouched.L9 q AL N cL AM N cM (i : Int) w (Yes w0) := by
  intro q
  induction q with
  | zero => intro i w h; omega
  | succ q ih =>
    intro i w hq hi H
    unfold weftlaw7_untouched.L9; intros
    rw [weftlaw7_untouched.l9_eq]
    refine ifD (fun h => ?_) (fun h => ⟨rfl, H.bel⟩)
    obtain ⟨p, hp⟩ := at_lt hl (i := i) (by omega)
    refine ⟨p.2.length + 1, ?_⟩
    have k := unt_l11 qL qM hL hM hb hc hn hl hN hp (m0 := q) (fun w' h => ih (i + 1) w' (by omega) (by omega) h) (p.2.length + 1) 0 w (by omega) (by omega) H
    exact k ..
end

/-! ### there is no room behind their ends -/
section
variable {w0 : World} {R0 : List Blk} {oL : Option Blk} {AL : Option Addr} {N cL : Nat} {bs : List Bl}
  (qL : RV 29 1 oL AL N cL (bs.map blv)) (hL : Has oL R0) (hb : ∀ p ∈ bs, blk p ∈ R0)
  (hc : ∀ i p, bs[i]? = some p → p.2 = patL i p.2.length) (hn : ∀ p ∈ bs, p.2.length ≤ 1000000) (hl : bs.length = N) (hN : N ≤ 1000000)
include qL hL hb hc hn hl hN
theorem unt_l7 : ∀ (q i : Nat) (w : World) (oM : Option Blk) (AM : Option Addr) (cM : Nat), N - i < q → i ≤ N → OF w0 w (oM.toList ++ R0) [] → RV 29 1 oM AM i cM ((bs.take i).map blv) →
    weftlaw7_untouched.L7 q AL N cL AM i cM (i : Int) w (Yes w0) := by
  intro q
  induction q with
  | zero => intro i w oM AM cM h; omega
  | succ q ih =>
    intro i w oM AM cM hq hi H qM
    unfold weftlaw7_untouched.L7; intros
    rw [weftlaw7_untouched.l7_eq]
    have hL2 : ∀ o : Option Blk, Has oL (o.toList ++ R0) := fun o p hp => List.mem_append.2 (Or.inr (hL p hp))
    refine ifD (fun h => ?_) (fun h => ?_)
    · have hi2 : i < N := by omega
      obtain ⟨p, hp⟩ := at_lt hl hi2
      obtain ⟨aL, eL, rL⟩ := rv_at qL hi2 (map_at hp)
      refine ⟨aL, eL, ⟨by omega, by omega⟩, _, _, _, rL H.own (hL2 _), ?_⟩
      refine ⟨0 + 1, ?_⟩
      have k8 : weftlaw7_untouched.L8 q (0 + 1) AL N cL AM i cM (i : Int) (some ⟨p.1, 0, none⟩) p.2.length p.2.length 0 w (Yes w0) := by
        unfold weftlaw7_untouched.L8; intros
        rw [weftlaw7_untouched.l8_eq]
        refine ⟨aL, eL, ⟨by omega, by omega⟩, _, _, _, rL H.own (hL2 _), ?_⟩
        refine ifF (by omega) ?_
        refine let_as w.heap.size rfl (let_as (w.alloc (.cells [blv p].toArray 29)) rfl ?_)
        refine rv_apps (v := [blv p]) (m := 1) (H.call ((Bel.refl w).alloc _)) qM rfl (by decide) rfl (Bk.new w _ _).at (by omega) (by omega) fun oM' AM' cM' wb H' qM' => ?_
        refine let_as ((i + 1 : Nat) : Int) (by rw [w64 (by omega) (by omega)]; omega) ?_
        have e : (bs.take i).map blv ++ [blv p] = (bs.take (i + 1)).map blv := by
          rw [List.take_add_one, hp]
          simp
        rw [e] at qM'
        exact ih (i + 1) wb oM' AM' cM' (by omega) (by omega) H' qM' ..
      exact k8 ..
    · have e : i = N := by omega
      subst e
      rw [List.take_of_length_le (by omega)] at qM
      refine ⟨i + 1, ?_⟩
      have k := unt_l9 qL qM (hL2 oM) (fun p hp => List.mem_append.2 (Or.inl hp)) (fun p hp => List.mem_append.2 (Or.inr (hb p hp))) hc hn hl hN (i + 1) 0 w (by omega) (by omega) H.own
      exact k ..
end

/-! ### all are marked -/
/-- A copy. -/
structure Wc where
  A : Option Addr
  n : Nat
  c : Nat
  l : List Int
abbrev Wc.v (x : Wc) : Value := .slice x.A x.n x.c
abbrev Wc.lst (x : Wc) : Lst := (x.A, x.n, x.l)
def Wok (cs : List Lst) (ws : List Wc) (i : Nat) (todo : List Bl) : Prop := ∀ (k : Nat) (p : Bl), todo[k]? = some p → ∃ x, ws[i + k]? = some x ∧ x.l = p.2 ∧ x.lst ∈ cs
theorem Wok.next {cs : List Lst} {ws : List Wc} {i : Nat} {p : Bl} {todo : List Bl} (h : Wok cs ws i (p :: todo)) : Wok cs ws (i + 1) todo := fun k q hq => by
  have := h (k + 1) q (by simpa using hq)
  rwa [show i + 1 + k = i + (k + 1) by omega]
section
variable {w0 : World} {oL oW : Option Blk} {AL AW : Option Addr} {N cL cW : Nat} {vs : List Value} {ws : List Wc} {cs : List Lst}
  (qL : RV 29 1 oL AL N cL vs) (qW : RV 29 1 oW AW N cW (ws.map Wc.v)) (hN : N ≤ 1000000)
include qL qW hN
theorem unt_l10 {M : List Blk} {g i n : Nat} (hi : i < N) (hv : vs[i]? = some (.slice (some ⟨g, 0, none⟩) n n)) (hL : Has oL M) (hn : n ≤ 1000000) {m0 : Nat}
    (rest : ∀ w', OF w0 w' ((g, 5, bv (patL i n)) :: M) cs → weftlaw7_untouched.L5 m0 AL N cL AW N cW none 0 0 ((i + 1 : Nat) : Int) w' (Yes w0)) :
    ∀ (t : List Int) (q k : Nat) (w : World), t.length < q → k + t.length = n → OF w0 w ((g, 5, bv (patL i k ++ t)) :: M) cs → weftlaw7_untouched.L10 m0 q AL N cL AW N cW none 0 0 (i : Int) (k : Int) w (Yes w0) := by
  obtain ⟨aL, eL, rL⟩ := rv_at qL hi hv
  have hL2 : ∀ p : Blk, Has oL (p :: M) := fun p x hx => List.mem_cons_of_mem _ (hL x hx)
  intro t
  induction t with
  | nil =>
    intro q k w hq hk H
    obtain ⟨q, rfl⟩ : ∃ k, q = k + 1 := ⟨q - 1, by simp at hq; omega⟩
    unfold weftlaw7_untouched.L10; intros
    rw [weftlaw7_untouched.l10_eq]
    have e : k = n := by simpa using hk
    subst e
    refine ⟨aL, eL, ⟨by omega, by omega⟩, _, _, _, rL H.own (hL2 _), ?_⟩
    refine ifF (by omega) ?_
    refine let_as ((i + 1 : Nat) : Int) (by rw [w64 (by omega) (by omega)]; omega) ?_
    rw [List.append_nil] at H
    exact rest w H ..
  | cons y t ih =>
    intro q k w hq hk H
    simp only [List.length_cons] at hq hk
    obtain ⟨q, rfl⟩ : ∃ k, q = k + 1 := ⟨q - 1, by omega⟩
    unfold weftlaw7_untouched.L10; intros
    rw [weftlaw7_untouched.l10_eq]
    refine ⟨aL, eL, ⟨by omega, by omega⟩, _, _, _, rL H.own (hL2 _), ?_⟩
    refine ifT (by omega) ?_
    refine draws (fun w' => OF w0 w' ((g, 5, bv (patL i k ++ y :: t)) :: M) cs) (H.call (Bel.refl w).drew) fun w2 e2 => ?_
    have H2 : OF w0 w2 ((g, 5, bv (patL i k ++ y :: t)) :: M) cs := by rw [e2]; exact H.call (Bel.refl w).drew
    refine ⟨aL, eL, ⟨by omega, by omega⟩, _, _, _, fun w' h => rL h.own (hL2 _), ?_⟩
    refine call_of (pat_c w2 (by omega) (by omega)) ?_
    rintro e w3 ⟨rfl, k3⟩
    have H3 := H2.call k3
    refine ⟨_, rfl, H3, ?_⟩
    refine ⟨_, rfl, ⟨by omega, by omega⟩, ?_⟩
    rw [add_blk, Nat.zero_add, Int.toNat_natCast]
    refine of_set 0 H3 rfl (by rw [bv_len, List.length_append, patL_len, List.length_cons]; omega) fun w4 H4 => ?_
    replace H4 : OF w0 w4 ((g, 5, (bv (patL i k ++ y :: t)).set k (.int .u8 (patB i k))) :: M) cs := H4
    rw [bv_set, set_next _ _ _ _ (patL_len i k), patL_snoc] at H4
    refine let_as ((k + 1 : Nat) : Int) (by rw [w64 (by omega) (by omega)]; omega) ?_
    exact ih q (k + 1) w4 (by omega) (by omega) H4 ..
theorem unt_l6 {L : List Blk} {i : Nat} {done todo : List Bl} (hd : done.length = i) (hv : (done ++ todo).map blv = vs) (hlen : done.length + todo.length = N) (hw : Wok cs ws i todo) (hL : Has oL L) (hW : Has oW L) (hb : ∀ p ∈ todo, blk p ∈ L) (hn : ∀ p ∈ todo, p.2.length ≤ 1000000) {m0 : Nat}
    (rest : ∀ w', OF w0 w' L cs → weftlaw7_untouched.J6 m0 AL N cL AW N cW none 0 0 (i : Int) w' (Yes w0)) : ∀ (q j : Nat) (w : World), N - j < q → i ≤ j → j ≤ N → OF w0 w L cs →
    weftlaw7_untouched.L6 m0 q AL N cL AW N cW none 0 0 (i : Int) (j : Int) w (Yes w0) := by
  intro q
  induction q with
  | zero => intro j w h; omega
  | succ q ih =>
    intro j w hq hij hj H
    unfold weftlaw7_untouched.L6; intros
    rw [weftlaw7_untouched.l6_eq]
    refine ifD (fun h => ?_) (fun h => ?_)
    · refine let_as ((i + 24 : Nat) : Int) (by rw [w64 (by omega) (by omega)]; omega) ?_
      refine ifD (fun h2 => ?_) (fun h2 => ?_)
      · have hj2 : j < N := by omega
        obtain ⟨p, hp⟩ := at_lt (l := todo) (n := N - i) (i := j - i) (by omega) (by omega)
        have hp2 : (done ++ todo)[j]? = some p := by rw [List.getElem?_append_right (by omega), hd]; exact hp
        obtain ⟨x, hx, ex, hxc⟩ := hw (j - i) p hp
        rw [show i + (j - i) = j by omega] at hx
        have pm := List.mem_of_getElem? hp
        have pn := hn p pm
        obtain ⟨aL, eL, rL⟩ := rv_at qL hj2 (by rw [← hv]; exact map_at hp2)
        obtain ⟨aW, eW, rW⟩ := rv_at qW hj2 (map_at hx)
        refine ⟨?_⟩
        have k5 : weftlaw7_untouched.J5 m0 q AL N cL AW N cW none 0 0 (i : Int) (j : Int) w (Yes w0) := by
          unfold weftlaw7_untouched.J5; intros
          rw [weftlaw7_untouched.j5_eq]
          refine draws (fun w' => OF w0 w' L cs) (H.call (Bel.refl w).drew) fun w2 e2 => ?_
          have H2 : OF w0 w2 L cs := by rw [e2]; exact H.call (Bel.refl w).drew
          refine ⟨aL, eL, ⟨by omega, by omega⟩, _, _, _, fun w' h => rL h.own hL, ?_⟩
          refine ⟨aW, eW, ⟨by omega, by omega⟩, _, _, _, fun w' h => rW h.own hW, ?_⟩
          have yb := (H2.fz _ hxc).1
          have yb2 : By w2 x.A x.n p.2 := by rw [← ex]; exact yb
          refine call_of (same_t (blk_by H2.own (hb p pm)) yb2 (by omega)) ?_
          rintro e w3 ⟨rfl, k3⟩
          have H3 := H2.call k3
          refine ⟨_, rfl, H3, ?_⟩
          refine ifNot (fun h => by cases h) (fun _ => ?_)
          refine let_as ((j + 1 : Nat) : Int) (by rw [w64 (by omega) (by omega)]; omega) ?_
          exact ih (j + 1) w3 (by omega) (by omega) (by omega) H3 ..
        exact k5 ..
      · exact ⟨rest w H ..⟩
    · exact ⟨rest w H ..⟩
theorem unt_l5 : ∀ (todo done : List Bl) (q i : Nat) (w : World), todo.length < q → done.length = i → done.length + todo.length = N → (done ++ todo).map blv = vs → Wok cs ws i todo → (∀ j p, done[j]? = some p → p.2 = patL j p.2.length) → (∀ p ∈ done ++ todo, p.2.length ≤ 1000000) →
    OF w0 w (oL.toList ++ (oW.toList ++ (done ++ todo).map blk)) cs → weftlaw7_untouched.L5 q AL N cL AW N cW none 0 0 (i : Int) w (Yes w0) := by
  intro todo
  induction todo with
  | nil =>
    intro done q i w hq hd hlen hv hw hc hn H
    obtain ⟨q, rfl⟩ : ∃ k, q = k + 1 := ⟨q - 1, by simp at hq; omega⟩
    simp only [List.length_nil, Nat.add_zero] at hlen
    rw [List.append_nil] at hv H hn
    unfold weftlaw7_untouched.L5; intros
    rw [weftlaw7_untouched.l5_eq]
    refine ifF (by omega) ?_
    refine ⟨N + 1, ?_⟩
    subst hv
    have H0 : OF w0 w ((none : Option Blk).toList ++ (oL.toList ++ (oW.toList ++ done.map blk))) [] := ⟨H.own, fun x hx => by cases hx⟩
    have k := unt_l7 qL (R0 := oL.toList ++ (oW.toList ++ done.map blk)) (fun p hp => List.mem_append.2 (Or.inl hp)) (fun p hp => List.mem_append.2 (Or.inr (List.mem_append.2 (Or.inr (List.mem_map.2 ⟨p, hp, rfl⟩))))) hc hn hlen hN (N + 1) 0 w none none 0 (by omega) (by omega) H0 RV.none
    exact k ..
  | cons p todo ih =>
    intro done q i w hq hd hlen hv hw hc hn H
    obtain ⟨q, rfl⟩ : ∃ k, q = k + 1 := ⟨q - 1, by omega⟩
    simp only [List.length_cons] at hq hlen
    unfold weftlaw7_untouched.L5; intros
    rw [weftlaw7_untouched.l5_eq]
    refine ifT (by omega) ?_
    refine ⟨N + 1, ?_⟩
    have hp : (done ++ p :: todo)[i]? = some p := by rw [List.getElem?_append_right (by omega), hd, Nat.sub_self]; rfl
    have hL : Has oL (oL.toList ++ (oW.toList ++ (done ++ p :: todo).map blk)) := fun x hx => List.mem_append.2 (Or.inl hx)
    have hW : Has oW (oL.toList ++ (oW.toList ++ (done ++ p :: todo).map blk)) := fun x hx => List.mem_append.2 (Or.inr (List.mem_append.2 (Or.inl hx)))
    have pn := hn p (by simp)
    have pe : (oL.toList ++ (oW.toList ++ (done ++ p :: todo).map blk)).Perm (blk p :: (oL.toList ++ (oW.toList ++ (done ++ todo).map blk))) := by
      refine (List.Perm.append_left _ (List.Perm.append_left _ ?_)).trans ((List.Perm.append_left _ List.perm_middle).trans List.perm_middle)
      rw [List.map_append, List.map_append, List.map_cons]
      exact List.perm_middle
    have k6 := unt_l6 qL qW hN (L := oL.toList ++ (oW.toList ++ (done ++ p :: todo).map blk)) (i := i) (done := done) (todo := p :: todo) hd hv (by simp only [List.length_cons]; omega) hw hL hW (fun x hx => List.mem_append.2 (Or.inr (List.mem_append.2 (Or.inr (List.mem_map.2 ⟨x, List.mem_append.2 (Or.inr hx), rfl⟩))))) (fun x hx => hn x (List.mem_append.2 (Or.inr hx))) (m0 := q) (cs := cs) (w0 := w0) (fun w' H' => by
      unfold weftlaw7_untouched.J6; intros
      rw [weftlaw7_untouched.j6_eq]
      refine ⟨p.2.length + 1, ?_⟩
      have k10 := unt_l10 qL qW hN (cs := cs) (w0 := w0) (M := oL.toList ++ (oW.toList ++ (done ++ todo).map blk)) (g := p.1) (i := i) (n := p.2.length) (by omega) (by rw [← hv]; exact map_at hp) (fun x hx => List.mem_append.2 (Or.inl hx)) pn (m0 := q) (fun w2 H2 => by
        have e1 : (done ++ [(p.1, patL i p.2.length)]) ++ todo = done ++ (p.1, patL i p.2.length) :: todo := by simp
        refine ih (done ++ [(p.1, patL i p.2.length)]) q (i + 1) w2 (by omega) (by simp [hd]) (by simp; omega) ?_ hw.next (fun j x hx => ?_) (fun x hx => ?_) ?_
        · rw [e1, ← hv]
          simp [blv, patL_len]
        · by_cases hj : j < done.length
          · rw [List.getElem?_append_left hj] at hx
            exact hc j x hx
          · rw [List.getElem?_append_right (by omega)] at hx
            have hj0 : j - done.length = 0 := by
              have := (List.getElem?_eq_some_iff.1 hx).1
              simpa using this
            rw [hj0] at hx
            simp only [List.getElem?_cons_zero, Option.some.injEq] at hx
            have ej : j = i := by omega
            subst ej
            rw [← hx]
            show patL _ _ = patL _ (patL _ _).length
            rw [patL_len]
        · rw [e1] at hx
          rcases List.mem_append.1 hx with hx | hx
          · exact hn x (List.mem_append.2 (Or.inl hx))
          · rcases List.mem_cons.1 hx with rfl | hx
            · show (patL i p.2.length).length ≤ _
              rw [patL_len]
              exact pn
            · exact hn x (List.mem_append.2 (Or.inr (List.mem_cons_of_mem _ hx)))
        · rw [e1]
          refine H2.perm (List.Perm.symm ?_)
          refine (List.Perm.append_left _ (List.Perm.append_left _ ?_)).trans ((List.Perm.append_left _ List.perm_middle).trans List.perm_middle)
          rw [List.map_append, List.map_append, List.map_cons]
          exact List.perm_middle) p.2 (p.2.length + 1) 0 w' (by omega) (by omega) (H'.perm pe)
      exact k10 ..) (N + 1) i w (by omega) (Nat.le_refl _) (by omega) H
    exact k6 ..
end
end Go.Proofs.YtphbdmafchjjeaaS
