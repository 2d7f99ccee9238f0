/- Package weftlaw7: lists of one's own that are written; its functions fill, full, longer, pat; what is opened of sealed bytes lies in a block of its own.
   Conditions: the arguments are as a row's arguments are. -/
import Derived.Test.YtphbdmafchjjeaaSScr
import Derived.Test.YtphbdmafchjjeaaSTLawT
import Derived.Test.YtphbdmafchjjeaaSFM
namespace Go.Proofs.YtphbdmafchjjeaaS
open Go Go.RowKit Go.Proofs Go.Proofs.YtphbdmafchjjeaaX
set_option maxRecDepth 100000
set_option linter.unusedVariables false
set_option linter.unusedSectionVars false
set_option linter.unusedSimpArgs false

theorem own_mem {w0 w : World} {L : List Blk} (h : Own w0 w L) {p : Blk} (hp : p ∈ L) : Bk w p.1 p.2.1 p.2.2 := by
  obtain ⟨i, hi⟩ := List.mem_iff_getElem?.1 hp
  exact h.bk i (g := p.1) (t := p.2.1) (l := p.2.2) hi
/-- A list that was answered, in a block of its own. -/
abbrev Bl := Nat × List Int
abbrev blk (p : Bl) : Blk := (p.1, 5, bv p.2)
abbrev blv (p : Bl) : Value := .slice (some ⟨p.1, 0, none⟩) p.2.length p.2.length
theorem blk_by {w0 w : World} {L : List Blk} (h : Own w0 w L) {p : Bl} (hp : blk p ∈ L) : By w (some ⟨p.1, 0, none⟩) p.2.length p.2 := Bk.by (own_mem h hp)
def Has (o : Option Blk) (L : List Blk) : Prop := ∀ p ∈ o.toList, p ∈ L
theorem rv_at {t : TypeId} {o : Option Blk} {A : Option Addr} {n c : Nat} {vs : List Value} (q : RV t 1 o A n c vs) {i : Nat} (hi : i < n) {v : Value} (hv : vs[i]? = some v) :
    ∃ a, A = some a ∧ ∀ {w0 w : World} {L : List Blk}, Own w0 w L → Has o L → w.cell? (a.add i) = some v := by
  have ln := q.1
  rcases q.2 with ⟨rfl, rfl, rfl, rfl⟩ | ⟨b, pad, rfl, rfl, hc⟩
  · simp at hv
  · refine ⟨_, rfl, fun H h => ?_⟩
    have k := own_mem H (h _ (by simp : (b, t, vs ++ pad) ∈ (some (b, t, vs ++ pad)).toList))
    rw [add_blk, Nat.zero_add]
    refine k.cell i ?_
    rw [List.getElem?_append_left (List.getElem?_eq_some_iff.1 hv).1]
    exact hv
section
variable {w0 a : World} {R : List Blk} {cs : List Lst} {t : TypeId} {bytes : Nat} {o : Option Blk} {A : Option Addr} {n c : Nat} {vs : List Value}
theorem rv_apps {z : Value} (h : OF w0 a (o.toList ++ R) cs) (q : RV t 1 o A n c vs) {m : Nat} {v : List Value} (hv : v.length = m) (h0 : 0 < m) (h1 : v.all one1 = true) {g0 : Nat} (hB : At a ⟨g0, 0, .none⟩ v)
    (hm : (n + m) * bytes ≤ 140737488355328) (hn : n + m ≤ 9223372036854775807) {K : Option Addr → Nat → World → Prop}
    (hK : ∀ (o' : Option Blk) A' c' (wb : World), OF w0 wb (o'.toList ++ R) cs → RV t 1 o' A' (n + m) c' (vs ++ v) → K A' c' wb) : AppE a 1 bytes t [z] A n c (some ⟨g0, 0, .none⟩) m K := by
  have ln := q.1
  rw [Nat.mul_one] at ln
  refine ⟨v, by rw [hv, Nat.mul_one], h1, fun _ => ⟨_, rfl, hB⟩, fun hfit => ?_, fun hlt => ⟨vs, by rw [ln, Nat.mul_one], fun hp => ?_, ⟨hm, hn⟩, fun cap h2 h3 => ?_⟩⟩
  · rcases q.2 with ⟨rfl, rfl, rfl, rfl⟩ | ⟨b, pad, rfl, rfl, hc⟩
    · omega
    · have e : ((some (⟨b, 0, .none⟩ : Addr)).map (·.add (n * 1))) = some ⟨b, n, .none⟩ := by simp [add_blk]
      rw [e]
      rw [Nat.mul_one] at hc
      have hp0 : n + v.length ≤ (vs ++ pad).length := by rw [List.length_append]; omega
      refine ⟨fun _ => ⟨_, rfl, (h.own.bk 0 rfl).mayN hp0⟩, ?_⟩
      have hp := Bk.put (t := t) (o := n) v a (vs ++ pad) 0 (h.own.bk 0 rfl) (by rw [Nat.add_zero]; exact hp0)
      rw [Nat.add_zero, splice_at _ _ _ ln] at hp
      refine hK (some (b, t, (vs ++ v) ++ pad.drop v.length)) _ _ _ ?_ ⟨by rw [List.length_append]; omega, Or.inr ⟨b, pad.drop v.length, rfl, rfl, ?_⟩⟩
      · have := h.over 0 rfl hp.2 hp.1
        rw [List.append_assoc]
        exact this
      · rw [List.length_append] at hp0
        rw [List.length_append, List.length_drop]
        omega
  · rcases q.2 with ⟨rfl, rfl, rfl, rfl⟩ | ⟨b, pad, rfl, rfl, hc⟩
    · simp at hp
    · refine ⟨_, rfl, fun j u hu => (h.own.bk 0 rfl).at j u ?_⟩
      rw [List.getElem?_append_left (List.getElem?_eq_some_iff.1 hu).1]
      exact hu
  · have hM : OF w0 a R cs := by
      rcases q.2 with ⟨rfl, _⟩ | ⟨b, pad, rfl, _⟩
      · exact h
      · exact h.tail
    obtain ⟨zl, ez, hzl⟩ := zero_rows [z].toArray (cap - (n + m))
    rw [ez, show (vs.toArray ++ v.toArray ++ zl.toArray) = ((vs ++ v) ++ zl).toArray by simp]
    refine hK (some (a.heap.size, t, (vs ++ v) ++ zl)) _ _ _ ((hM.call (Bel.refl a).drew).new t _) ⟨by rw [List.length_append]; omega, Or.inr ⟨_, zl, rfl, rfl, ?_⟩⟩
    rw [List.length_append, ln, hv, hzl]
    simp
    omega
end

/-! ### the law's small functions -/
def patB (i k : Nat) : Int := IntKind.u8.wrap (Int.fdiv (1 + (i : Int)) (2 ^ (min (8 * ((k : Int) % 3)).toNat 64)))
theorem pat_c (w : World) {i k : Nat} (hi : i ≤ 1000000000) (hk : k ≤ 1000000000) : Calls Try.prog 17 #[.int .i64 (i : Int), .int .i64 (k : Int)] w (Ret (.int .u8 (patB i k)) w) := by
  refine weftlaw7_pat.run ?_
  unfold weftlaw7_pat.s
  refine let_as (1 + (i : Int)) (w64 (by omega) (by omega)) ?_
  refine let_as ((k : Int) % 3) (tm (by omega)) ?_
  refine let_as (8 * ((k : Int) % 3)) (w64 (by omega) (by omega)) ?_
  refine ⟨by omega, ?_⟩
  exact let_as _ rfl (let_as (patB i k) rfl ⟨rfl, Bel.refl w⟩)
/-- n bytes of the mark of the i-th list. -/
def patL (i n : Nat) : List Int := (List.range n).map (patB i)
theorem patL_len (i n : Nat) : (patL i n).length = n := by simp [patL]
theorem patL_get {i n k : Nat} (h : k < n) : (patL i n).getD k 0 = patB i k := by
  simp [patL, List.getD_eq_getElem?_getD, h]
theorem patL_snoc (i n : Nat) : patL i n ++ [patB i n] = patL i (n + 1) := by simp [patL, List.range_succ]
theorem set_next {α : Type} (u : List α) (y x : α) (t : List α) {k : Nat} (h : u.length = k) : (u ++ y :: t).set k x = (u ++ [x]) ++ t := by
  subst h
  rw [List.set_append_right _ _ (Nat.le_refl _), Nat.sub_self, List.set_cons_zero, List.append_assoc]
  rfl
theorem fill_l {w0 : World} {R : List Blk} {cs : List Lst} {g : Nat} {x : Int} : ∀ (t : List Int) (q i : Nat) (w : World), t.length < q → i + t.length ≤ 1000000000 → OF w0 w ((g, 5, bv (List.replicate i x ++ t)) :: R) cs →
    weftlaw7_fill.L1 q (some ⟨g, 0, none⟩) (i + t.length) (i + t.length) x (i : Int) w (fun e w' => e = .returned (.tuple #[]) ∧ OF w0 w' ((g, 5, bv (List.replicate (i + t.length) x)) :: R) cs) := by
  intro t
  induction t with
  | nil =>
    intro q i w hq hi H
    obtain ⟨q, rfl⟩ : ∃ k, q = k + 1 := ⟨q - 1, by simp at hq; omega⟩
    unfold weftlaw7_fill.L1; intros
    rw [weftlaw7_fill.l1_eq]
    refine ifF (by simp) ?_
    rw [List.append_nil] at H
    exact ⟨rfl, H⟩
  | cons y t ih =>
    intro q i w hq hi H
    simp only [List.length_cons] at hq hi ⊢
    obtain ⟨q, rfl⟩ : ∃ k, q = k + 1 := ⟨q - 1, by omega⟩
    unfold weftlaw7_fill.L1; intros
    rw [weftlaw7_fill.l1_eq]
    refine ifT (by omega) ?_
    refine ⟨_, rfl, ⟨by omega, by omega⟩, ?_⟩
    rw [add_blk, Nat.zero_add, Int.toNat_natCast]
    refine of_set 0 H rfl (by rw [bv_len, List.length_append, List.length_replicate, List.length_cons]; omega) fun w1 H => ?_
    refine let_as ((i + 1 : Nat) : Int) (by rw [w64 (by omega) (by omega)]; omega) ?_
    replace H : OF w0 w1 ((g, 5, (bv (List.replicate i x ++ y :: t)).set i (.int .u8 x)) :: R) cs := H
    rw [bv_set, set_next _ _ _ _ (by simp), ← List.replicate_succ'] at H
    have k := ih q (i + 1) w1 (by omega) (by omega) H
    rw [show i + 1 + t.length = i + (t.length + 1) by omega] at k
    exact k ..
theorem fill_t {w0 w : World} {R : List Blk} {cs : List Lst} {g n : Nat} {l : List Int} (x : Int) (hn : l.length = n) (hl : n ≤ 1000000000) (H : OF w0 w ((g, 5, bv l) :: R) cs) :
    Calls Try.prog 14 #[.slice (some ⟨g, 0, none⟩) n n, .int .u8 x] w (fun e w' => e = .returned (.tuple #[]) ∧ OF w0 w' ((g, 5, bv (List.replicate n x)) :: R) cs) := by
  subst hn
  refine weftlaw7_fill.run ?_
  unfold weftlaw7_fill.s
  refine ⟨l.length + 1, ?_⟩
  have k := fill_l (g := g) (x := x) (R := R) (cs := cs) (w0 := w0) l (l.length + 1) 0 w (by omega) (by omega) H
  rw [Nat.zero_add] at k
  exact k ..
theorem rep_get {n i : Nat} {x : Int} (h : i < n) : (List.replicate n x).getD i 0 = x := by
  simp [List.getD_eq_getElem?_getD, h]
theorem full_l {w : World} {A : Option Addr} {n c : Nat} {x : Int} (hA : By w A n (List.replicate n x)) (hn : n ≤ 1000000000) : ∀ (q i : Nat), n - i < q → i ≤ n → weftlaw7_full.L1 q A n c x (i : Int) w (Yes w) := by
  intro q
  induction q with
  | zero => intro i h; omega
  | succ q ih =>
    intro i hq hi
    unfold weftlaw7_full.L1; intros
    rw [weftlaw7_full.l1_eq]
    refine ifD (fun h => ?_) (fun h => ⟨rfl, Bel.refl w⟩)
    refine hA.rd (by omega) (by omega) fun _ => ?_
    rw [Int.toNat_natCast, rep_get (by omega)]
    refine ifN (fun h => absurd rfl h) (fun _ => ?_)
    refine let_as ((i + 1 : Nat) : Int) (by rw [w64 (by omega) (by omega)]; omega) ?_
    exact ih (i + 1) (by omega) (by omega) ..
theorem full_t {w : World} {A : Option Addr} {n c : Nat} {x : Int} (hA : By w A n (List.replicate n x)) (hn : n ≤ 1000000000) : Calls Try.prog 16 #[.slice A n c, .int .u8 x] w (Yes w) := by
  refine weftlaw7_full.run ?_
  unfold weftlaw7_full.s
  refine ⟨n + 1, ?_⟩
  have k := full_l (c := c) hA hn (n + 1) 0 (by omega) (by omega)
  exact k ..
/-- Where there is no room nothing is appended. -/
theorem longer_0 (w : World) (A : Option Addr) (n c : Nat) (x : Int) : Calls Try.prog 15 #[.slice A n c, .int .u8 x, .int .i64 0] w (Ret (.slice A n c) w) := by
  refine weftlaw7_longer.run ?_
  unfold weftlaw7_longer.s
  refine ⟨0 + 1, ?_⟩
  have k : weftlaw7_longer.L1 (0 + 1) A n c x 0 0 w (Ret (.slice A n c) w) := by
    unfold weftlaw7_longer.L1; intros
    rw [weftlaw7_longer.l1_eq]
    exact ifF (by decide) ⟨rfl, Bel.refl w⟩
  exact k ..
section
variable {o : Ot} {f : Fr} (ho : o.Fine) (hf : f.Fine) (h : sErr o f = 0)
include ho hf h
theorem own_openO {w w' : World} {e : Ending} (k : RetOpO w (pkOf (sOut o f)) (oBad (sOut o f)) e w') : ∃ g, e = .returned (.tuple #[.agg (ov o).toArray, .agg (fv f (some ⟨g, 0, none⟩) f.body.length f.body.length).toArray, .int .i64 0]) ∧ Own w w' [(g, 5, bv f.body)] := by
  have hz := sErr_zero h
  have c8 : (0 : Int) ≤ 8 ∧ (8 : Int) ≤ 255 := by decide
  have c0 : (0 : Int) ≤ 0 ∧ (0 : Int) ≤ 255 := by decide
  obtain ⟨q1, q2, q3⟩ := gPk_open ho hf ⟨hz.1, hz.2.1⟩ hz.2.2 c8 c0 c0 c0 c0 ho.sp []
  obtain ⟨q4, _⟩ := gPk_reads ho hf hz.2.2 c8 c0 c0 c0 c0 []
  rw [List.append_nil] at q1 q4
  rw [sOut_eq ho hf h, q1, q4, if_neg (by decide)] at k
  obtain ⟨g, e1, H⟩ := k.2 rfl
  rw [q2, q3] at e1
  rw [q3] at H
  exact ⟨g, e1, H⟩
end
end Go.Proofs.YtphbdmafchjjeaaS
