/- Memory of one's own beside lists of bytes that only are read; a growing list of lists.
   Conditions: none; every statement is proved here. -/
import Derived.Test.YtphbdmafchjjeaaDoorHSBuf
namespace Go.Proofs.YtphbdmafchjjeaaDoorS
open Go Go.RowKit Go.Proofs Go.Proofs.YtphbdmafchjjeaaDoorX
set_option linter.unusedVariables false
set_option linter.unusedSectionVars false
set_option linter.unusedSimpArgs false

theorem Own.perm {w a : World} {L M : List (Nat × TypeId × List Value)} (h : Own w a L) (p : L.Perm M) : Own w a M :=
  ⟨h.bel, fun k g t l hk => by
    obtain ⟨i, hi⟩ := List.mem_iff_getElem?.1 (p.symm.subset (List.mem_of_getElem? hk))
    exact h.own i g t l hi, (p.map Prod.fst).nodup_iff.1 h.one⟩
theorem By.lt {w : World} {A : Option Addr} {n : Nat} {l : List Int} (h : By w A n l) : 0 < n → ∀ a, A = some a → a.block < w.heap.size := fun hn a e => by
  obtain ⟨b, e2, hc⟩ := h.2 hn
  rw [e] at e2
  injection e2 with e2
  subst e2
  have := World.block_lt_of_cell? w _ (hc 0 hn)
  rw [addr_add_zero] at this
  exact this
/-- A list of bytes: where it lies, its length, the bytes. -/
abbrev Lst := Option Addr × Nat × List Int
/-- Memory of one's own, L; lists, cs, that lie beside it. -/
structure OF (w0 w : World) (L : List (Nat × TypeId × List Value)) (cs : List Lst) : Prop where
  own : Own w0 w L
  fz : ∀ x ∈ cs, By w x.1 x.2.1 x.2.2 ∧ (0 < x.2.1 → ∀ a, x.1 = some a → ∀ p ∈ L, a.block ≠ p.1)
section
variable {w0 a b : World} {L M : List (Nat × TypeId × List Value)} {cs : List Lst}
theorem OF.call (h : OF w0 a L cs) (k : Bel a b) : OF w0 b L cs := ⟨h.own.call k, fun x hx => ⟨(h.fz x hx).1.bel k, (h.fz x hx).2⟩⟩
theorem OF.perm (h : OF w0 a L cs) (p : L.Perm M) : OF w0 a M cs := ⟨h.own.perm p, fun x hx => ⟨(h.fz x hx).1, fun hn c e q hq => (h.fz x hx).2 hn c e q (p.symm.subset hq)⟩⟩
theorem OF.less (h : OF w0 a (L ++ M) cs) : OF w0 a M cs := ⟨h.own.less, fun x hx => ⟨(h.fz x hx).1, fun hn c e q hq => (h.fz x hx).2 hn c e q (List.mem_append.2 (Or.inr hq))⟩⟩
theorem OF.tail {p : Nat × TypeId × List Value} (h : OF w0 a (p :: M) cs) : OF w0 a M cs := OF.less (L := [p]) h
theorem OF.new (h : OF w0 a L cs) (t : TypeId) (l : List Value) : OF w0 (a.alloc (.cells l.toArray t)) ((a.heap.size, t, l) :: L) cs :=
  ⟨h.own.new t l, fun x hx => ⟨(h.fz x hx).1.bel ((Bel.refl a).alloc _), fun hn c e q hq => by
    rcases List.mem_cons.1 hq with rfl | hq
    · have := (h.fz x hx).1.lt hn c e
      exact fun e2 => by rw [e2] at this; exact Nat.lt_irrefl _ this
    · exact (h.fz x hx).2 hn c e q hq⟩⟩
theorem OF.over (h : OF w0 a L cs) (k : Nat) {g : Nat} {t : TypeId} {l l' : List Value} (hk : L[k]? = some (g, t, l)) (hb : But g a b) (hn : Bk b g t l') : OF w0 b (L.set k (g, t, l')) cs :=
  ⟨h.own.over k hk hb hn, fun x hx => ⟨(h.fz x hx).1.but1 hb (fun hn c e => (h.fz x hx).2 hn c e _ (List.mem_of_getElem? hk)), fun hn c e q hq => by
    rcases List.mem_or_eq_of_mem_set hq with hq | rfl
    · exact (h.fz x hx).2 hn c e q hq
    · exact (h.fz x hx).2 hn c e (g, t, l) (List.mem_of_getElem? hk)⟩⟩
theorem OF.add (h : OF w0 a L cs) {x : Lst} (y : By a x.1 x.2.1 x.2.2) (z : 0 < x.2.1 → ∀ c, x.1 = some c → ∀ p ∈ L, c.block ≠ p.1) : OF w0 a L (x :: cs) :=
  ⟨h.own, fun u hu => by
    rcases List.mem_cons.1 hu with rfl | hu
    · exact ⟨y, z⟩
    · exact h.fz u hu⟩
/-- What came since is none of one's own blocks. -/
theorem OF.new_ne (h : OF w0 a L cs) {A : Option Addr} (hf : Fre a A) : ∀ c, A = some c → ∀ p ∈ L, c.block ≠ p.1 := fun c e p hp => by
  obtain ⟨i, hi⟩ := List.mem_iff_getElem?.1 hp
  have := (h.own.bk i (g := p.1) (t := p.2.1) (l := p.2.2) hi).lt
  have := hf c e
  omega
end

/-! ### a growing list of lists -/
def LBuf (w0 wa : World) (M : List (Nat × TypeId × List Value)) (cs : List Lst) (A : Option Addr) (n c : Nat) (vs : List Value) : Prop :=
  vs.length = n ∧ ((A = none ∧ c = 0 ∧ vs = [] ∧ OF w0 wa M cs) ∨ ∃ g pad, A = some ⟨g, 0, none⟩ ∧ c = vs.length + pad.length ∧ OF w0 wa ((g, 41, vs ++ pad) :: M) cs)
section
variable {w0 wa : World} {M : List (Nat × TypeId × List Value)} {cs : List Lst} {A : Option Addr} {n c : Nat} {vs : List Value}
theorem LBuf.call {wb : World} (h : LBuf w0 wa M cs A n c vs) (k : Bel wa wb) : LBuf w0 wb M cs A n c vs := by
  refine ⟨h.1, ?_⟩
  rcases h.2 with ⟨h1, h2, h3, h4⟩ | ⟨g, pad, h1, h2, h3⟩
  · exact Or.inl ⟨h1, h2, h3, h4.call k⟩
  · exact Or.inr ⟨g, pad, h1, h2, h3.call k⟩
theorem zero_slices (k : Nat) : Builtin.zeroCells #[Value.slice none 0 0] k = (List.replicate k (Value.slice none 0 0)).toArray := by
  apply Array.ext
  · simp [Builtin.zeroCells]
  · intro i h1 h2
    simp [Builtin.zeroCells, Nat.mod_one]
/-- An append of one list to it. -/
theorem lbuf_app (h : LBuf w0 wa M cs A n c vs) {v : Value} (hv : one1 v = true) {g0 : Nat} (hB : At wa ⟨g0, 0, none⟩ [v]) (hm : n + 1 ≤ 100000000000) {K : Option Addr → Nat → World → Prop}
    (hK : ∀ A' c' (wb : World), LBuf w0 wb M cs A' (n + 1) c' (vs ++ [v]) → K A' c' wb) : AppE wa 1 24 41 [.slice none 0 0] A n c (some ⟨g0, 0, none⟩) 1 K := by
  have ln := h.1
  refine ⟨[v], rfl, by simp [hv], fun _ => ⟨_, rfl, hB⟩, fun hfit => ?_, fun hlt => ⟨vs, by omega, fun hp => ?_, ⟨by omega, by omega⟩, fun cap h2 h3 => ?_⟩⟩
  · rcases h.2 with ⟨rfl, rfl, rfl, h4⟩ | ⟨g, pad, rfl, hc, h3⟩
    · simp at ln
      omega
    · have e : ((some (⟨g, 0, none⟩ : Addr)).map (·.add (n * 1))) = some ⟨g, n, none⟩ := by simp [add_blk]
      rw [e]
      have hlen : (vs ++ pad).length = n + pad.length := by rw [List.length_append, ln]
      refine ⟨fun _ => ⟨_, rfl, (h3.own.bk 0 rfl).mayN (by rw [hlen]; simp; omega)⟩, ?_⟩
      have hp := Bk.put (t := 41) (o := n) [v] wa (vs ++ pad) 0 (h3.own.bk 0 rfl) (by rw [hlen]; simp; omega)
      rw [Nat.add_zero, splice_at _ _ _ ln] at hp
      refine hK _ _ _ ⟨by rw [List.length_append, ln]; rfl, Or.inr ⟨g, pad.drop 1, rfl, by simp; omega, ?_⟩⟩
      have := h3.over 0 rfl hp.2 hp.1
      rw [List.append_assoc]
      exact this
  · rcases h.2 with ⟨rfl, rfl, rfl, h4⟩ | ⟨g, pad, rfl, hc, h3⟩
    · simp at hp
    · refine ⟨_, rfl, fun j u hu => (h3.own.bk 0 rfl).at j u ?_⟩
      rw [List.getElem?_append_left (List.getElem?_eq_some_iff.1 hu).1]
      exact hu
  · have hM : OF w0 wa M cs := by
      rcases h.2 with ⟨_, _, _, h4⟩ | ⟨g, pad, _, _, h4⟩
      · exact h4
      · exact h4.tail
    have e : (vs.toArray ++ [v].toArray ++ Builtin.zeroCells #[Value.slice none 0 0] (cap - (n + 1))) = (vs ++ [v] ++ List.replicate (cap - (n + 1)) (Value.slice none 0 0)).toArray := by
      rw [zero_slices]
      simp
    have e2 : wa.drew.alloc (.cells (vs.toArray ++ [v].toArray ++ Builtin.zeroCells [Value.slice none 0 0].toArray (cap - (n + 1))) 41) = wa.drew.alloc (.cells (vs ++ [v] ++ List.replicate (cap - (n + 1)) (Value.slice none 0 0)).toArray 41) := congrArg (fun x => wa.drew.alloc (.cells x 41)) e
    rw [e2]
    refine hK _ _ _ ⟨by rw [List.length_append, ln]; rfl, Or.inr ⟨_, List.replicate (cap - (n + 1)) (Value.slice none 0 0), rfl, by simp [ln]; omega, ?_⟩⟩
    exact (hM.call (Bel.refl wa).drew).new 41 _
/-! ### blocks that may be there -/
/-- A list of lists with its room, or nothing yet. -/
def SV (o : Option (Nat × TypeId × List Value)) (A : Option Addr) (n c : Nat) (vs : List Value) : Prop := vs.length = n ∧ ((o = none ∧ A = none ∧ c = 0 ∧ vs = []) ∨ ∃ b pad, o = some (b, 41, vs ++ pad) ∧ A = some ⟨b, 0, none⟩ ∧ c = vs.length + pad.length)
/-- A list of bytes of one's own with its room, or nothing. -/
def SL (o : Option (Nat × TypeId × List Value)) (A : Option Addr) (n c : Nat) (l : List Int) : Prop := l.length = n ∧ ((o = none ∧ A = none ∧ c = 0 ∧ l = []) ∨ ∃ b pad, o = some (b, 5, bv (l ++ pad)) ∧ A = some ⟨b, 0, none⟩ ∧ c = l.length + pad.length)
theorem SV.none : SV none none 0 0 [] := ⟨rfl, Or.inl ⟨rfl, rfl, rfl, rfl⟩⟩
theorem SL.none : SL none none 0 0 [] := ⟨rfl, Or.inl ⟨rfl, rfl, rfl, rfl⟩⟩
end
theorem sv_lbuf {w0 a : World} {M : List (Nat × TypeId × List Value)} {cs : List Lst} {o : Option (Nat × TypeId × List Value)} {A : Option Addr} {n c : Nat} {vs : List Value} (h : OF w0 a (o.toList ++ M) cs) (k : SV o A n c vs) : LBuf w0 a M cs A n c vs := by
  refine ⟨k.1, ?_⟩
  rcases k.2 with ⟨rfl, h1, h2, h3⟩ | ⟨b, pad, rfl, h1, h2⟩
  · exact Or.inl ⟨h1, h2, h3, h⟩
  · exact Or.inr ⟨b, pad, h1, h2, h⟩
theorem lbuf_sv {w0 a : World} {M : List (Nat × TypeId × List Value)} {cs : List Lst} {A : Option Addr} {n c : Nat} {vs : List Value} (h : LBuf w0 a M cs A n c vs) : ∃ o : Option (Nat × TypeId × List Value), OF w0 a (o.toList ++ M) cs ∧ SV o A n c vs := by
  rcases h.2 with ⟨h1, h2, h3, h4⟩ | ⟨g, pad, h1, h2, h3⟩
  · exact ⟨.none, h4, h.1, Or.inl ⟨rfl, h1, h2, h3⟩⟩
  · exact ⟨some (g, 41, vs ++ pad), h3, h.1, Or.inr ⟨g, pad, rfl, h1, h2⟩⟩
theorem SL.by {w0 a : World} {M : List (Nat × TypeId × List Value)} {o : Option (Nat × TypeId × List Value)} {A : Option Addr} {n c : Nat} {l : List Int} (h : Own w0 a (o.toList ++ M)) (k : SL o A n c l) : By a A n l ∧ n ≤ c := by
  have hn := k.1
  rcases k.2 with ⟨rfl, rfl, rfl, rfl⟩ | ⟨b, pad, rfl, rfl, rfl⟩
  · simp at hn
    subst hn
    exact ⟨By.nil _ _, Nat.le_refl _⟩
  · have := (h.bk 0 rfl).by.take (k := n) (by simp; omega)
    rw [List.take_left' hn] at this
    exact ⟨this, by omega⟩
theorem buf_sl {w a : World} {A : Option Addr} {n c : Nat} {l : List Int} (h : Buf w a [] A n c l) : ∃ o : Option (Nat × TypeId × List Value), Own w a (o.toList ++ []) ∧ SL o A n c l := by
  rcases h.2 with ⟨h1, h2, h3, h4⟩ | ⟨g, pad, h1, h2, h3⟩
  · exact ⟨.none, h4, h.1, Or.inl ⟨rfl, h1, h2, h3⟩⟩
  · exact ⟨some (g, 5, bv (l ++ pad)), h3, h.1, Or.inr ⟨g, pad, rfl, h1, h2.1⟩⟩
section
variable {w0 a : World} {L R : List (Nat × TypeId × List Value)} {cs : List Lst} {p : Nat × TypeId × List Value}
theorem OF.join {b : World} (h : OF w0 a R cs) (k : Own a b L) : OF w0 b (L ++ R) cs :=
  ⟨Own.join h.own k, fun x hx => ⟨(h.fz x hx).1.bel k.bel, fun hn c e q hq => by
    rcases List.mem_append.1 hq with hq | hq
    · obtain ⟨i, hi⟩ := List.mem_iff_getElem?.1 hq
      have h1 := k.ge i (g := q.1) (t := q.2.1) (l := q.2.2) hi
      have h2 := (h.fz x hx).1.lt hn c e
      omega
    · exact (h.fz x hx).2 hn c e q hq⟩⟩
/-- A cell of a block of one's own is written. -/
theorem of_set (k : Nat) {g i : Nat} {t : TypeId} {l : List Value} {v : Value} {K : World → Prop} (h : OF w0 a L cs) (hk : L[k]? = some (g, t, l)) (hi : i < l.length) (hn : ∀ w1, OF w0 w1 (L.set k (g, t, l.set i v)) cs → K w1) :
    MayC a ⟨g, i, none⟩ ∧ Let (a.setCell ⟨g, i, none⟩ v) K :=
  ⟨(h.own.bk k hk).may hi, hn _ (h.over k hk (But.set a g i v) ((h.own.bk k hk).set i v))⟩
/-- An append to a list of lists that stands right behind the head. -/
theorem app_at {o : Option (Nat × TypeId × List Value)} {A : Option Addr} {n c : Nat} {vs : List Value} (h : OF w0 a (p :: (o.toList ++ R)) cs) (k : SV o A n c vs) {v : Value} (hv : one1 v = true) {g0 : Nat} (hB : At a ⟨g0, 0, none⟩ [v]) (hm : n + 1 ≤ 100000000000) {K : Option Addr → Nat → World → Prop}
    (hK : ∀ (o' : Option (Nat × TypeId × List Value)) A' c' (wb : World), OF w0 wb (p :: (o'.toList ++ R)) cs → SV o' A' (n + 1) c' (vs ++ [v]) → K A' c' wb) : AppE a 1 24 41 [.slice .none 0 0] A n c (some ⟨g0, 0, .none⟩) 1 K := by
  have h1 : OF w0 a (o.toList ++ (p :: R)) cs := h.perm List.perm_middle.symm
  refine lbuf_app (sv_lbuf h1 k) hv hB hm fun A' c' wb q => ?_
  obtain ⟨o', h2, k2⟩ := lbuf_sv q
  exact hK o' A' c' wb (h2.perm List.perm_middle) k2
end
end Go.Proofs.YtphbdmafchjjeaaDoorS
