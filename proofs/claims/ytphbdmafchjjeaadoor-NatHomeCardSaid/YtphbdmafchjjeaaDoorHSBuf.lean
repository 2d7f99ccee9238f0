/- A list of bytes of one's own that grows.
   Conditions: none; every theorem here speaks of any program. -/
import Derived.Test.YtphbdmafchjjeaaDoorHSLib
namespace Go.Proofs.YtphbdmafchjjeaaDoorS
open Go Go.RowKit Go.Proofs.YtphbdmafchjjeaaDoorX
set_option linter.unusedVariables false
set_option linter.unusedSimpArgs false

/-- A[:n:c] with these bytes: nothing yet, or a block that came since. -/
def Buf (w wa : World) (M : List (Nat × TypeId × List Value)) (A : Option Addr) (n c : Nat) (l : List Int) : Prop :=
  l.length = n ∧ ((A = none ∧ c = 0 ∧ l = [] ∧ Own w wa M) ∨ ∃ g pad, A = some ⟨g, 0, none⟩ ∧ (c = l.length + pad.length ∧ c ≤ 9223372036854775807) ∧ Own w wa ((g, 5, bv (l ++ pad)) :: M))
section
variable {w wa : World} {M : List (Nat × TypeId × List Value)} {A : Option Addr} {n c : Nat} {l : List Int}
theorem Buf.nil (h : Own w wa M) : Buf w wa M none 0 0 [] := ⟨rfl, Or.inl ⟨rfl, rfl, rfl, h⟩⟩
theorem Buf.own (h : Buf w wa M A n c l) : Own w wa M := by
  rcases h.2 with ⟨_, _, _, h⟩ | ⟨g, pad, _, _, h⟩
  · exact h
  · exact h.tail
theorem Buf.len (h : Buf w wa M A n c l) : l.length = n := h.1
theorem Buf.le (h : Buf w wa M A n c l) : n ≤ c := by
  obtain ⟨h1, ⟨_, h2, h3, _⟩ | ⟨g, pad, _, h2, _⟩⟩ := h
  · rw [h3] at h1; simp at h1; omega
  · omega
theorem Buf.call {wb : World} (h : Buf w wa M A n c l) (k : Bel wa wb) : Buf w wb M A n c l := by
  refine ⟨h.1, ?_⟩
  rcases h.2 with ⟨h1, h2, h3, h4⟩ | ⟨g, pad, h1, h2, h3⟩
  · exact Or.inl ⟨h1, h2, h3, h4.call k⟩
  · exact Or.inr ⟨g, pad, h1, h2, h3.call k⟩
theorem Buf.by (h : Buf w wa M A n c l) : By wa A n l := by
  obtain ⟨h0, ⟨h1, h2, h3, h4⟩ | ⟨g, pad, h1, h2, h3⟩⟩ := h
  · subst h3; subst h0; exact By.nil _ _
  · subst h1
    have := (h3.bk 0 rfl).by.take (k := n) (by simp; omega)
    rwa [List.take_left' h0] at this
theorem Buf.fre (h : Buf w wa M A n c l) : Fre w A := by
  rcases h.2 with ⟨h1, _, _, _⟩ | ⟨g, pad, h1, _, h3⟩
  · rw [h1]; exact Fre.nil w
  · rw [h1]; exact Fre.mk (h3.ge 0 rfl)
theorem putO_nil (w : World) (A : Option Addr) : putO w A [] = w := by cases A <;> rfl
/-- An append to it. -/
theorem buf_app (h : Buf w wa M A n c l) {B : Option Addr} {m : Nat} {b : List Int} (hb : By wa B m b) (hm : n + m ≤ 100000000000000) {K : Option Addr → Nat → World → Prop}
    (hK : ∀ A' c' wb, Buf w wb M A' (n + m) c' (l ++ b) → K A' c' wb) : AppE wa 1 1 5 [.int .u8 0] A n c B m K := by
  have lb := hb.len
  have ln := h.len
  have hle := h.le
  have hby := h.by
  refine ⟨bv b, by rw [bv_len]; omega, bv_one _, hb.at, fun hfit => ?_, fun hlt => ⟨bv l, by rw [bv_len]; omega, hby.at, ⟨by omega, by omega⟩, fun cap h2 h3 => ?_⟩⟩
  · rcases h.2 with ⟨rfl, rfl, rfl, h4⟩ | ⟨g, pad, rfl, hc, h3⟩
    · have hb0 : b = [] := List.eq_nil_of_length_eq_zero (by simp at ln; omega)
      subst hb0
      refine ⟨fun h => by simp [bv] at h, ?_⟩
      rw [show bv [] = [] from rfl, putO_nil]
      exact hK _ _ _ ⟨by simp at ln lb ⊢; omega, Or.inl ⟨rfl, rfl, rfl, h4⟩⟩
    · have e : ((some (⟨g, 0, none⟩ : Addr)).map (·.add (n * 1))) = some ⟨g, n, none⟩ := by simp [add_blk]
      rw [e]
      have hlen : (bv (l ++ pad)).length = n + pad.length := by simp [bv, ln]
      refine ⟨fun _ => ⟨_, rfl, (h3.bk 0 rfl).mayN (by rw [bv_len]; omega)⟩, ?_⟩
      have hp := Bk.put (t := 5) (o := n) (bv b) wa (bv (l ++ pad)) 0 (h3.bk 0 rfl) (by rw [bv_len]; omega)
      rw [Nat.add_zero, bv_splice, splice_at _ _ _ ln] at hp
      refine hK _ _ _ ⟨by rw [List.length_append]; omega, Or.inr ⟨g, pad.drop b.length, rfl, ⟨by rw [List.length_append, List.length_drop]; omega, by omega⟩, ?_⟩⟩
      have := h3.over 0 rfl hp.2 hp.1
      rw [List.append_assoc]
      exact this
  · have e : ((bv l).toArray ++ (bv b).toArray ++ Builtin.zeroCells #[.int .u8 0] (cap - (n + m))) = (bv (l ++ b ++ List.replicate (cap - (n + m)) 0)).toArray := by
      rw [zero_bytes]
      simp [bv]
    have e2 : wa.drew.alloc (.cells ((bv l).toArray ++ (bv b).toArray ++ Builtin.zeroCells [Value.int .u8 0].toArray (cap - (n + m))) 5) = wa.drew.alloc (.cells (bv (l ++ b ++ List.replicate (cap - (n + m)) 0)).toArray 5) := congrArg (fun x => wa.drew.alloc (.cells x 5)) e
    rw [e2]
    refine hK _ _ _ ⟨by rw [List.length_append]; omega, Or.inr ⟨_, List.replicate (cap - (n + m)) 0, rfl, ⟨by rw [List.length_append, List.length_replicate]; omega, by omega⟩, ?_⟩⟩
    exact h.own.drew.new 5 _
/-- An append of listed bytes. -/
theorem buf_lit (h : Buf w wa M A n c l) {m : Nat} (b : List Int) (hb : b.length = m) (hm : n + m ≤ 100000000000000) {K : Nat → Option Addr → Nat → World → Prop}
    (hK : ∀ {g : Nat} A' c' wb, Buf w wb M A' (n + m) c' (l ++ b) → K g A' c' wb) : Let wa.heap.size fun g => Let (wa.alloc (.cells (bv b).toArray 5)) fun w4 => AppE w4 1 1 5 [.int .u8 0] A n c (some ⟨g, 0, none⟩) m (K g) := by
  subst hb
  exact buf_app (h.call ((Bel.refl wa).alloc _)) (Bk.new wa 5 (bv b)).by hm hK
end
/-! ### blocks of a call's own beside those that stood -/
theorem Own.join {w a b : World} {L M : List (Nat × TypeId × List Value)} (h : Own w a M) (k : Own a b L) : Own w b (L ++ M) := by
  refine ⟨h.bel.trans k.bel, fun i g t l hi => ?_, ?_⟩
  · by_cases hl : i < L.length
    · rw [List.getElem?_append_left hl] at hi
      exact ⟨k.bk i hi, Nat.le_trans h.bel.size (k.ge i hi)⟩
    · rw [List.getElem?_append_right (by omega)] at hi
      exact ⟨(h.bk _ hi).bel k.bel, h.ge _ hi⟩
  · rw [List.map_append]
    refine List.nodup_append.2 ⟨k.one, h.one, fun x hx y hy e => ?_⟩
    obtain ⟨p, hp, rfl⟩ := List.mem_map.1 hx
    obtain ⟨q, hq, rfl⟩ := List.mem_map.1 hy
    obtain ⟨i, hi⟩ := List.mem_iff_getElem?.1 hp
    obtain ⟨j, hj⟩ := List.mem_iff_getElem?.1 hq
    have h1 := k.ge i (g := p.1) (t := p.2.1) (l := p.2.2) hi
    have h2 := (h.bk j (g := q.1) (t := q.2.1) (l := q.2.2) hj).lt
    omega
theorem Own.head {w a : World} {p : Nat × TypeId × List Value} {M : List (Nat × TypeId × List Value)} (h : Own w a (p :: M)) : Own w a [p] := by
  refine ⟨h.bel, fun k g t l hk => ?_, by simp⟩
  cases k with
  | zero => exact h.own 0 g t l (by simpa using hk)
  | succ k => simp at hk
/-- The first two change places. -/
theorem Own.swap {w a : World} {p q : Nat × TypeId × List Value} {M : List (Nat × TypeId × List Value)} (h : Own w a (p :: q :: M)) : Own w a (q :: p :: M) := by
  refine ⟨h.bel, fun k g t l hk => ?_, ?_⟩
  · match k, hk with
    | 0, hk => exact h.own 1 g t l (by simpa using hk)
    | 1, hk => exact h.own 0 g t l (by simpa using hk)
    | k + 2, hk => exact h.own (k + 2) g t l (by simpa using hk)
  · have := h.one
    simp only [List.map_cons, List.nodup_cons, List.mem_cons, not_or] at this ⊢
    exact ⟨⟨fun e => this.1.1 e.symm, this.2.1⟩, this.1.2, this.2.2⟩
section
variable {w wa wb : World} {M : List (Nat × TypeId × List Value)} {A : Option Addr} {n c : Nat} {l : List Int}
theorem Buf.join (h : Own w wa M) (k : Buf wa wb [] A n c l) : Buf w wb M A n c l := by
  refine ⟨k.1, ?_⟩
  rcases k.2 with ⟨h1, h2, h3, h4⟩ | ⟨g, pad, h1, h2, h3⟩
  · exact Or.inl ⟨h1, h2, h3, h.call h4.bel⟩
  · exact Or.inr ⟨g, pad, h1, h2, h.join h3⟩
theorem Buf.alone (h : Buf w wa M A n c l) : Buf w wa [] A n c l := by
  refine ⟨h.1, ?_⟩
  rcases h.2 with ⟨h1, h2, h3, h4⟩ | ⟨g, pad, h1, h2, h3⟩
  · exact Or.inl ⟨h1, h2, h3, Own.less (L := M) (by rwa [List.append_nil])⟩
  · exact Or.inr ⟨g, pad, h1, h2, h3.head⟩
theorem Buf.full {g : Nat} (h : Own w wa ((g, 5, bv l) :: M)) (hn : l.length = n) (hm : n ≤ 9223372036854775807 := by omega) : Buf w wa M (some ⟨g, 0, none⟩) n n l := ⟨hn, Or.inr ⟨g, [], rfl, ⟨by simp [hn], hm⟩, by rwa [List.append_nil]⟩⟩
theorem Buf.rm (h : Buf w wa M A n c l) : Rm wa A c := by
  rcases h.2 with ⟨h1, h2, _, _⟩ | ⟨g, pad, h1, h2, h3⟩
  · exact Or.inl ⟨h1, h2⟩
  · exact Or.inr ⟨g, 0, _, h1, h3.bk 0 rfl, by rw [List.length_append]; omega, h2.2⟩
end
/-- A list of one's own is answered. -/
def RetBuf (w : World) (l : List Int) (e : Ending) (w' : World) : Prop := ∃ A c, e = .returned (.slice A l.length c) ∧ Buf w w' [] A l.length c l

/-! ### parts of records -/
theorem at_mid {w : World} {g o : Nat} {t : TypeId} (pre : List Value) {mid post : List Value} (h : Bk w g t (pre ++ (mid ++ post))) (ho : pre.length = o) : At w ⟨g, o, none⟩ mid := fun j u hu => by
  have hj : j < mid.length := (List.getElem?_eq_some_iff.1 hu).1
  rw [add_blk]
  refine h.cell (o + j) ?_
  rw [List.getElem?_append_right (by omega), show o + j - pre.length = j by omega, List.getElem?_append_left hj]
  exact hu
/-- A new record, written at once. -/
theorem own_mk {w a : World} {L : List (Nat × TypeId × List Value)} {t : TypeId} {n : Nat} (l : List Value) {vs : List Value} {K : Nat → World → Prop} (h : Own w a L) (hl : l.length = n) (hv : vs.length = n)
    (hk : ∀ g w1, Own w w1 ((g, t, vs) :: L) → Bel a w1 → a.heap.size ≤ g → K g w1) :
    Let a.heap.size fun g => Let (a.alloc (.cells l.toArray t)) fun w0 => May w0 ⟨g, 0, none⟩ n ∧ Let (putCells w0 ⟨g, 0, none⟩ vs 0) (K g) :=
  own_newC h fun g w0 H k0 hg => own_putB 0 H rfl hv (by omega) fun w1 H u => by
    rw [splice_all _ _ (by omega)] at H
    exact hk g w1 H (But.bel k0 hg u) hg
end Go.Proofs.YtphbdmafchjjeaaDoorS
