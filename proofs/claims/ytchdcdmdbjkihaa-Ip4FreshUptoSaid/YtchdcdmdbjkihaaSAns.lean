/- What a call answers, with its lists' rooms.
   Conditions: none. -/
import Derived.Test.YtchdcdmdbjkihaaSKeepD
import Derived.Test.YtchdcdmdbjkihaaSPk
namespace Go.Proofs.YtchdcdmdbjkihaaS
open Go Go.RowKit Go.Proofs Go.Proofs.YtchdcdmdbjkihaaX
set_option linter.unusedVariables false
set_option linter.unusedSectionVars false

/-- An answer's two lists. -/
structure Two (w w' : World) (A : Option Addr) (n c : Nat) (B : Option Addr) (m d : Nat) : Prop where
  r : Rm2 w' A c B d
  a : Fre w A
  b : Fre w B
  nc : n ≤ c
  md : m ≤ d
  n9 : n ≤ 1000000000
  m9 : m ≤ 1000000000
theorem rm2_one {w : World} {A : Option Addr} {c : Nat} (h : Rm w A c) : Rm2 w A c none 0 := ⟨h, Rm.nil w, fun x y _ e => by cases e⟩
theorem two_nil (w w' : World) : Two w w' none 0 0 none 0 0 := ⟨Rm2.none (Rm.nil _), Fre.nil w, Fre.nil w, Nat.le_refl _, Nat.le_refl _, Nat.zero_le _, Nat.zero_le _⟩
section
variable {w0 a b w : World} {R R' L : List Blk} {g : Nat} {Zb : Int} {A B : Option Addr} {c d : Nat}
theorem Hold.perm (h : Hold w0 a g R Zb A c B d) (p : R.Perm R') : Hold w0 a g R' Zb A c B d := h.mapR fun Q cs H => H.perm (p.append_left Q)
theorem Hold.tail {p : Blk} (h : Hold w0 a g (p :: R) Zb A c B d) : Hold w0 a g R Zb A c B d := h.mapR fun Q cs H => (H.perm List.perm_middle).tail
theorem Hold.join (h : Hold w0 a g R Zb A c B d) (k : Own a b L) : Hold w0 b g (L ++ R) Zb A c B d := h.mapR fun Q cs H => (H.join k).perm (List.perm_append_comm_assoc _ _ _)
theorem Hold.over (h : Hold w0 a g R Zb A c B d) (k : Nat) {g' : Nat} {t : TypeId} {l l' : List Value} (hk : R[k]? = some (g', t, l)) (hb : But g' a b) (hn : Bk b g' t l') : Hold w0 b g (R.set k (g', t, l')) Zb A c B d := h.mapR fun Q cs H => by
  have := H.over (Q.length + k) (g := g') (t := t) (l := l) (by rw [List.getElem?_append_right (by omega), show Q.length + k - Q.length = k by omega]; exact hk) hb hn
  rwa [List.set_append_right _ _ (by omega), show Q.length + k - Q.length = k by omega] at this
theorem hold_set (k : Nat) {g' i : Nat} {t : TypeId} {l : List Value} {v : Value} {K : World → Prop} (h : Hold w0 a g R Zb A c B d) (hk : R[k]? = some (g', t, l)) (hi : i < l.length) (hn : ∀ w1, Hold w0 w1 g (R.set k (g', t, l.set i v)) Zb A c B d → K w1) :
    MayC a ⟨g', i, none⟩ ∧ Let (a.setCell ⟨g', i, none⟩ v) K :=
  ⟨(h.own.bk k hk).may hi, hn _ (h.over k hk (But.set a g' i v) ((h.own.bk k hk).set i v))⟩
theorem hold_new {t : TypeId} {l : List Value} {K : Nat → World → Prop} (h : Hold w0 a g R Zb A c B d) (hk : ∀ g' w1, Hold w0 w1 g ((g', t, l) :: R) Zb A c B d → K g' w1) : Let a.heap.size fun g' => Let (a.alloc (.cells l.toArray t)) (K g') :=
  hk _ _ (h.mapR fun Q cs H => (H.new t l).perm List.perm_middle.symm)
theorem hold_newB {t : TypeId} {l : List Value} {K : Nat → World → Prop} (h : Hold w0 a g R Zb A c B d) (hk : ∀ g' w1, Hold w0 w1 g ((g', t, l) :: R) Zb A c B d → Bel a w1 → K g' w1) : Let a.heap.size fun g' => Let (a.alloc (.cells l.toArray t)) (K g') :=
  hk _ _ (h.mapR fun Q cs H => (H.new t l).perm List.perm_middle.symm) ((Bel.refl a).alloc _)
theorem hold_put (k : Nat) {g' o n : Nat} {t : TypeId} {l vs : List Value} {K : World → Prop} (h : Hold w0 a g R Zb A c B d) (hk : R[k]? = some (g', t, l)) (hn : vs.length = n) (hi : o + n ≤ l.length) (hw : ∀ w1, Hold w0 w1 g (R.set k (g', t, splice l o vs)) Zb A c B d → K w1) :
    May a ⟨g', o, none⟩ n ∧ Let (putCells a ⟨g', o, none⟩ vs 0) K := by
  have hp := Bk.put (t := t) (o := o) vs a l 0 (h.own.bk k hk) (by omega)
  rw [Nat.add_zero] at hp
  exact ⟨(h.own.bk k hk).mayN hi, hw _ (h.over k hk hp.2 hp.1)⟩
theorem set_room {l : List Int} {k : Nat} {y : Int} (h : k < l.length) : (l ++ rm).set k y = l.set k y ++ rm := by rw [List.set_append_left _ _ h]
theorem getD_room {l : List Int} {k : Nat} (h : k < l.length) : (l ++ rm).getD k 0 = l.getD k 0 := by rw [List.getD_eq_getElem?_getD, List.getD_eq_getElem?_getD, List.getElem?_append_left h]
theorem room_by {w0 w : World} {L : List Blk} (h : Own w0 w L) (k : Nat) {gx : Nat} {l : List Int} (hk : L[k]? = some (gx, 5, bv (l ++ rm))) {n : Nat} (hl : l.length = n) : By w (some ⟨gx, 0, none⟩) n l ∧ By w (some ⟨gx, 0, none⟩) (n + 64) (l ++ rm) := by
  have hw := (h.bk k hk).by
  rw [List.length_append, rm_len, hl] at hw
  refine ⟨?_, hw⟩
  have := hw.take (k := n) (by omega)
  rwa [List.take_left' hl] at this
theorem bset {l : List Int} (h : Bytes l) (j : Nat) {y : Int} (hy : 0 ≤ y ∧ y ≤ 255) : Bytes (l.set j y) := fun z hz => by
  rcases List.mem_or_eq_of_mem_set hz with hz | rfl
  · exact h z hz
  · exact hy
end
end Go.Proofs.YtchdcdmdbjkihaaS
