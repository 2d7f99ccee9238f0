/- Growing lists of records; several lists of bytes of one's own.
   Conditions: none; every statement is proved here. -/
import Derived.Test.YtphbdmafchjjeaaDoorHSList
namespace Go.Proofs.YtphbdmafchjjeaaDoorS
open Go Go.RowKit Go.Proofs Go.Proofs.YtphbdmafchjjeaaDoorX
set_option linter.unusedVariables false
set_option linter.unusedSectionVars false
set_option linter.unusedSimpArgs false

abbrev Blk := Nat × TypeId × List Value

/-! ### a growing list of records -/
/-- n records of k cells each with their room, or nothing yet. -/
def RV (t : TypeId) (k : Nat) (o : Option Blk) (A : Option Addr) (n c : Nat) (vs : List Value) : Prop :=
  vs.length = n * k ∧ ((o = none ∧ A = none ∧ c = 0 ∧ vs = []) ∨ ∃ b pad, o = some (b, t, vs ++ pad) ∧ A = some ⟨b, 0, none⟩ ∧ c * k = vs.length + pad.length)
theorem RV.none {t : TypeId} {k : Nat} : RV t k none none 0 0 [] := ⟨by simp, Or.inl ⟨rfl, rfl, rfl, rfl⟩⟩
theorem zero_rows (zs : Array Value) (j : Nat) : ∃ l : List Value, Builtin.zeroCells zs j = l.toArray ∧ l.length = j * zs.size := ⟨(Builtin.zeroCells zs j).toList, by simp, by simp [Builtin.zeroCells]⟩
section
variable {w0 a : World} {R : List Blk} {cs : List Lst} {t : TypeId} {k bytes : Nat} {o : Option Blk} {A : Option Addr} {n c : Nat} {vs : List Value}
theorem rv_app {zs : List Value} (hz : zs.length = k) (h : OF w0 a (o.toList ++ R) cs) (q : RV t k o A n c vs) {v : List Value} (hv : v.length = k) (h1 : v.all one1 = true) {g0 : Nat} (hB : At a ⟨g0, 0, .none⟩ v)
    (hm : (n + 1) * bytes ≤ 140737488355328) (hn : n + 1 ≤ 9223372036854775807) {K : Option Addr → Nat → World → Prop}
    (hK : ∀ (o' : Option Blk) A' c' (wb : World), OF w0 wb (o'.toList ++ R) cs → RV t k o' A' (n + 1) c' (vs ++ v) → K A' c' wb) : AppE a k bytes t zs A n c (some ⟨g0, 0, .none⟩) 1 K := by
  have ln := q.1
  have e1 : (n + 1) * k = n * k + k := Nat.succ_mul n k
  refine ⟨v, by rw [hv, Nat.one_mul], h1, fun _ => ⟨_, rfl, hB⟩, fun hfit => ?_, fun hlt => ⟨vs, ln, fun hp => ?_, ⟨hm, hn⟩, fun cap h2 h3 => ?_⟩⟩
  · rcases q.2 with ⟨rfl, rfl, rfl, rfl⟩ | ⟨b, pad, rfl, rfl, hc⟩
    · omega
    · have e : ((some (⟨b, 0, .none⟩ : Addr)).map (·.add (n * k))) = some ⟨b, n * k, .none⟩ := by simp [add_blk]
      rw [e]
      have hle : (n + 1) * k ≤ c * k := Nat.mul_le_mul_right k hfit
      have hlen : (vs ++ pad).length = c * k := by rw [List.length_append, hc]
      have hp0 : n * k + v.length ≤ (vs ++ pad).length := by rw [hlen, hv]; omega
      refine ⟨fun _ => ⟨_, rfl, (h.own.bk 0 rfl).mayN hp0⟩, ?_⟩
      have hp := Bk.put (t := t) (o := n * k) v a (vs ++ pad) 0 (h.own.bk 0 rfl) (by rw [Nat.add_zero]; exact hp0)
      rw [Nat.add_zero, splice_at _ _ _ ln] at hp
      refine hK (some (b, t, (vs ++ v) ++ pad.drop v.length)) _ _ _ ?_ ⟨by rw [List.length_append, ln, hv, e1], Or.inr ⟨b, pad.drop v.length, rfl, rfl, ?_⟩⟩
      · have := h.over 0 rfl hp.2 hp.1
        rw [List.append_assoc]
        exact this
      · rw [hc, List.length_append, List.length_drop]
        omega
  · rcases q.2 with ⟨rfl, rfl, rfl, rfl⟩ | ⟨b, pad, rfl, rfl, hc⟩
    · simp at hp
    · refine ⟨_, rfl, fun j u hu => (h.own.bk 0 rfl).at j u ?_⟩
      rw [List.getElem?_append_left (List.getElem?_eq_some_iff.1 hu).1]
      exact hu
  · have hM : OF w0 a R cs := by
      rcases q.2 with ⟨rfl, _⟩ | ⟨b, pad, rfl, _⟩
      · exact h
      · exact h.tail
    obtain ⟨zl, ez, hzl⟩ := zero_rows zs.toArray (cap - (n + 1))
    rw [ez, show (vs.toArray ++ v.toArray ++ zl.toArray) = ((vs ++ v) ++ zl).toArray by simp]
    refine hK (some (a.heap.size, t, (vs ++ v) ++ zl)) _ _ _ ((hM.call (Bel.refl a).drew).new t _) ⟨by rw [List.length_append, ln, hv, e1], Or.inr ⟨_, zl, rfl, rfl, ?_⟩⟩
    rw [List.length_append, ln, hv, hzl, ← e1, show zs.toArray.size = k by simpa using hz, ← Nat.add_mul, show n + 1 + (cap - (n + 1)) = cap by omega]
theorem RV.rd (h : Own w0 a (o.toList ++ R)) (q : RV t k o A n c vs) {i : Nat} (hi : i < n) (hk : 0 < k) {u : List Value} (hu : ∀ j x, u[j]? = some x → vs[i * k + j]? = some x) : ∃ b, A = some ⟨b, 0, .none⟩ ∧ At a ⟨b, i * k, .none⟩ u := by
  have ln := q.1
  rcases q.2 with ⟨rfl, rfl, rfl, rfl⟩ | ⟨b, pad, rfl, rfl, hc⟩
  · have : 0 < n * k := Nat.mul_pos (by omega) hk
    simp at ln
    omega
  · refine ⟨b, rfl, fun j x hx => ?_⟩
    rw [add_blk]
    have := hu j x hx
    exact (h.bk 0 rfl).cell _ (by rw [List.getElem?_append_left (List.getElem?_eq_some_iff.1 this).1]; exact this)
end
/-- Lists of one length, one behind another. -/
theorem fm_get {α : Type} (f : α → List Value) {k : Nat} (hf : ∀ e, (f e).length = k) : ∀ (es : List α) (i j : Nat) {e : α}, es[i]? = some e → j < k → (es.flatMap f)[i * k + j]? = (f e)[j]?
  | [], i, j, e, h, _ => by simp at h
  | x :: es, 0, j, e, h, hj => by
    simp only [List.getElem?_cons_zero, Option.some.injEq] at h
    subst h
    rw [List.flatMap_cons, Nat.zero_mul, Nat.zero_add, List.getElem?_append_left (by rw [hf]; exact hj)]
  | x :: es, i + 1, j, e, h, hj => by
    rw [List.getElem?_cons_succ] at h
    have := fm_get f hf es i j h hj
    rw [List.flatMap_cons, List.getElem?_append_right (by rw [hf, Nat.succ_mul]; omega), hf, show (i + 1) * k + j - k = i * k + j by rw [Nat.succ_mul]; omega]
    exact this
theorem fm_at {α : Type} (f : α → List Value) {k : Nat} (hf : ∀ e, (f e).length = k) {es : List α} {i : Nat} {e : α} (h : es[i]? = some e) : ∀ j x, (f e)[j]? = some x → (es.flatMap f)[i * k + j]? = some x := fun j x hx => by
  rw [fm_get f hf es i j h (by rw [← hf e]; exact (List.getElem?_eq_some_iff.1 hx).1)]
  exact hx

/-! ### several lists of bytes of one's own -/
structure LC where
  A : Option Addr
  n : Nat
  c : Nat
  l : List Int
abbrev LC.val (x : LC) : Value := .slice x.A x.n x.c
abbrev Bls (os : List (Option Blk)) : List Blk := os.flatMap Option.toList
def SLs (os : List (Option Blk)) (ls : List LC) : Prop := os.length = ls.length ∧ ∀ (i : Nat) (o : Option Blk) (x : LC), os[i]? = some o → ls[i]? = some x → SL o x.A x.n x.c x.l
theorem erase_perm {α : Type} : ∀ (l : List α) (i : Nat) (h : i < l.length), (l[i] :: l.eraseIdx i).Perm l
  | [], i, h => absurd h (Nat.not_lt_zero i)
  | x :: l, 0, _ => List.Perm.refl _
  | x :: l, i + 1, h => by
    have := erase_perm l i (by simpa using h)
    exact (List.Perm.swap _ _ _).trans (this.cons x)
theorem bls_erase {os : List (Option Blk)} {i : Nat} {o : Option Blk} (h : os[i]? = some o) : (Bls os).Perm (o.toList ++ Bls (os.eraseIdx i)) := by
  obtain ⟨hi, rfl⟩ := List.getElem?_eq_some_iff.1 h
  have := (erase_perm os i hi).symm.flatMap_right Option.toList
  rw [List.flatMap_cons] at this
  exact this
theorem bls_set {os : List (Option Blk)} {i : Nat} (hi : i < os.length) (o : Option Blk) : (Bls (os.set i o)).Perm (o.toList ++ Bls (os.eraseIdx i)) := by
  have := bls_erase (os := os.set i o) (i := i) (o := o) (by rw [List.getElem?_set_self hi])
  rwa [List.eraseIdx_set_eq] at this
theorem SLs.cons {os : List (Option Blk)} {ls : List LC} {o : Option Blk} {x : LC} (h : SL o x.A x.n x.c x.l) (k : SLs os ls) : SLs (o :: os) (x :: ls) := by
  refine ⟨by simp [k.1], fun i o' x' ho hx => ?_⟩
  cases i with
  | zero =>
    simp only [List.getElem?_cons_zero, Option.some.injEq] at ho hx
    subst ho hx
    exact h
  | succ i => exact k.2 i o' x' (by simpa using ho) (by simpa using hx)
theorem SLs.nil : SLs [] [] := ⟨rfl, fun i o x h => by simp at h⟩
section
variable {w0 a : World} {R : List Blk} {cs : List Lst} {os : List (Option Blk)} {ls : List LC} {i : Nat} {x : LC}
theorem SLs.by (h : Own w0 a (Bls os ++ R)) (k : SLs os ls) (hx : ls[i]? = some x) : By a x.A x.n x.l ∧ x.n ≤ x.c := by
  have hi : i < os.length := by rw [k.1]; exact (List.getElem?_eq_some_iff.1 hx).1
  have ho : os[i]? = some os[i] := List.getElem?_eq_getElem hi
  refine SL.by (M := Bls (os.eraseIdx i) ++ R) (h.perm ?_) (k.2 i _ x ho hx)
  rw [← List.append_assoc]
  exact (bls_erase ho).append_right R
theorem SLs.len (k : SLs os ls) (hx : ls[i]? = some x) : x.l.length = x.n := by
  have hi : i < os.length := by rw [k.1]; exact (List.getElem?_eq_some_iff.1 hx).1
  exact (k.2 i _ x (List.getElem?_eq_getElem hi) hx).1
/-- A byte of one of them is written. -/
theorem sls_byte (H : OF w0 a (Bls os ++ R) cs) (k : SLs os ls) (hx : ls[i]? = some x) {j : Nat} (hj : j < x.n) : ∃ b, x.A = some ⟨b, 0, none⟩ ∧ ∀ {y : Int} {K : World → Prop},
    (∀ w1 (os' : List (Option Blk)), OF w0 w1 (Bls os' ++ R) cs → SLs os' (ls.set i ⟨x.A, x.n, x.c, x.l.set j y⟩) → K w1) → MayC a ⟨b, j, none⟩ ∧ Let (a.setCell ⟨b, j, none⟩ (.int .u8 y)) K := by
  have hil : i < ls.length := (List.getElem?_eq_some_iff.1 hx).1
  have hi : i < os.length := by rw [k.1]; exact hil
  have ho : os[i]? = some os[i] := List.getElem?_eq_getElem hi
  have sl := k.2 i _ x ho hx
  have hn := sl.1
  rcases sl.2 with ⟨_, _, _, e⟩ | ⟨b, pad, e, hA, hc⟩
  · rw [e] at hn
    simp at hn
    omega
  refine ⟨b, hA, fun {y K} hK => ?_⟩
  have p := bls_erase ho
  rw [e] at p
  have H1 : OF w0 a ((b, 5, bv (x.l ++ pad)) :: (Bls (os.eraseIdx i) ++ R)) cs := H.perm (p.append_right R)
  refine of_set 0 H1 rfl (by rw [bv_len, List.length_append]; omega) fun w1 H2 => ?_
  have e2 : (bv (x.l ++ pad)).set j (.int .u8 y) = bv (x.l.set j y ++ pad) := by rw [bv_set, List.set_append_left _ _ (by omega)]
  have H3 : OF w0 w1 ((b, 5, (bv (x.l ++ pad)).set j (.int .u8 y)) :: (Bls (os.eraseIdx i) ++ R)) cs := H2
  rw [e2] at H3
  refine hK w1 (os.set i (some (b, 5, bv (x.l.set j y ++ pad)))) (H3.perm ((bls_set hi (some (b, 5, bv (x.l.set j y ++ pad)))).symm.append_right R)) ⟨by simp [k.1], fun i' o' x' h1 h2 => ?_⟩
  by_cases hii : i' = i
  · subst hii
    rw [List.getElem?_set_self hi] at h1
    rw [List.getElem?_set_self hil] at h2
    injection h1 with h1
    injection h2 with h2
    subst h1 h2
    exact ⟨by rw [List.length_set]; exact hn, Or.inr ⟨b, pad, rfl, hA, by rw [List.length_set]; exact hc⟩⟩
  · rw [List.getElem?_set_ne (by omega)] at h1 h2
    exact k.2 i' o' x' h1 h2
theorem of_put {L : List Blk} (k : Nat) {g o n : Nat} {t : TypeId} {l vs : List Value} {K : World → Prop} (h : OF w0 a L cs) (hk : L[k]? = some (g, t, l)) (hn : vs.length = n) (hi : o + n ≤ l.length) (hw : ∀ w1, OF w0 w1 (L.set k (g, t, splice l o vs)) cs → K w1) :
    May a ⟨g, o, none⟩ n ∧ Let (putCells a ⟨g, o, none⟩ vs 0) K := by
  have hp := Bk.put (t := t) (o := o) vs a l 0 (h.own.bk k hk) (by omega)
  rw [Nat.add_zero] at hp
  exact ⟨(h.own.bk k hk).mayN hi, hw _ (h.over k hk hp.2 hp.1)⟩
/-- A new record, written at once. -/
theorem of_mk {L : List Blk} {t : TypeId} {n : Nat} (l : List Value) {vs : List Value} {K : Nat → World → Prop} (h : OF w0 a L cs) (hl : l.length = n) (hv : vs.length = n) (hk : ∀ g w1, OF w0 w1 ((g, t, vs) :: L) cs → K g w1) :
    Let a.heap.size fun g => Let (a.alloc (.cells l.toArray t)) fun w2 => May w2 ⟨g, 0, none⟩ n ∧ Let (putCells w2 ⟨g, 0, none⟩ vs 0) (K g) :=
  of_put 0 (h.new t l) rfl hv (by omega) fun w1 H => by
    rw [splice_all _ _ (by omega)] at H
    exact hk _ w1 H
end
/-- What stands in a growing list of records. -/
theorem RV.rdb {t : TypeId} {k : Nat} {o : Option Blk} {A : Option Addr} {n c : Nat} {vs : List Value} (q : RV t k o A n c vs) {i : Nat} (hi : i < n) (hk : 0 < k) : ∃ b, A = some ⟨b, 0, .none⟩ ∧ ∀ {w0 a : World} {R : List Blk} {u : List Value}, Own w0 a (o.toList ++ R) → (∀ j x, u[j]? = some x → vs[i * k + j]? = some x) → At a ⟨b, i * k, .none⟩ u := by
  have ln := q.1
  rcases q.2 with ⟨rfl, rfl, rfl, rfl⟩ | ⟨b, pad, rfl, rfl, hc⟩
  · have : 0 < n * k := Nat.mul_pos (by omega) hk
    simp at ln
    omega
  · refine ⟨b, rfl, fun h hu j x hx => ?_⟩
    rw [add_blk]
    have := hu j x hx
    exact (h.bk 0 rfl).cell _ (by rw [List.getElem?_append_left (List.getElem?_eq_some_iff.1 this).1]; exact this)
theorem xor8 {x y : Int} (hx : 0 ≤ x ∧ x ≤ 255) (hy : 0 ≤ y ∧ y ≤ 255) : 0 ≤ Go.bits .xor .u8 x y ∧ Go.bits .xor .u8 x y ≤ 255 := by
  rw [u8_xor x y (by omega) (by omega) (by omega) (by omega)]
  have := Nat.xor_lt_two_pow (x := x.toNat) (y := y.toNat) (n := 8) (by omega) (by omega)
  omega
end Go.Proofs.YtphbdmafchjjeaaDoorS
