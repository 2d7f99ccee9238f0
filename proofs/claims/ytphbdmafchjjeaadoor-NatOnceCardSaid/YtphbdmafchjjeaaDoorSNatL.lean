/- Package weftlaw23: backs, without, tied.
   Conditions: the backends' fields are of their kinds; the lists are short. -/
import Derived.Test.YtphbdmafchjjeaaDoorSNatK
namespace Go.Proofs.YtphbdmafchjjeaaDoorS
open Go Go.RowKit Go.Proofs Go.Proofs.YtphbdmafchjjeaaDoorX
set_option maxRecDepth 100000
set_option linter.unusedVariables false
set_option linter.unusedSectionVars false
set_option linter.unusedSimpArgs false

/-! ### lists of backends -/
abbrev bkd (x : Int × Int) : List Value := [.int .u32 x.1, .int .u16 x.2]
def bvs (l : List (Int × Int)) : List Value := l.flatMap bkd
theorem bvs_len : ∀ l : List (Int × Int), (bvs l).length = l.length * 2
  | [] => rfl
  | x :: l => by
    unfold bvs
    rw [List.flatMap_cons, List.length_append]
    have := bvs_len l
    unfold bvs at this
    rw [this]
    simp
    omega
theorem bvs_app (a b : List (Int × Int)) : bvs (a ++ b) = bvs a ++ bvs b := by simp [bvs]
theorem bvs_one (x : Int × Int) : bvs [x] = bkd x := by simp [bvs]
theorem bvs_get : ∀ (l : List (Int × Int)) (i : Nat), i < l.length → ∀ j v, (bkd (l.getD i (0, 0)))[j]? = some v → (bvs l)[i * 2 + j]? = some v
  | [], i, hi => by simp at hi
  | x :: l, 0, hi => fun j v hv => by
    have hj : j < 2 := (List.getElem?_eq_some_iff.1 hv).1
    unfold bvs
    rw [List.flatMap_cons, Nat.zero_mul, Nat.zero_add, List.getElem?_append_left hj]
    exact hv
  | x :: l, i + 1, hi => fun j v hv => by
    have := bvs_get l i (by simpa using hi) j v (by simpa using hv)
    unfold bvs
    rw [List.flatMap_cons, List.getElem?_append_right (by simp; omega)]
    unfold bvs at this
    rw [← this]
    congr 1
    simp
    omega
theorem bks_bk {w : World} {g : Nat} {t : TypeId} {l : List (Int × Int)} {pad : List Value} (h : Bk w g t (bvs l ++ pad)) : Bks w (some ⟨g, 0, none⟩) l.length l := by
  refine ⟨rfl, fun _ => ⟨_, rfl, fun i hi j v hv => ?_⟩⟩
  rw [add_blk, add_blk, Nat.zero_add]
  refine h.cell (i * 2 + j) ?_
  have hj : j < 2 := (List.getElem?_eq_some_iff.1 hv).1
  rw [List.getElem?_append_left (by rw [bvs_len]; omega)]
  exact bvs_get l i hi j v hv
/-- A growing list of backends of one's own. -/
def BL (w0 w : World) (M : List Blk) (A : Option Addr) (n c : Nat) (l : List (Int × Int)) : Prop := ∃ o : Option Blk, OF w0 w (o.toList ++ M) [] ∧ RV 28 2 o A n c (bvs l) ∧ l.length = n
section
variable {w0 w w' : World} {M : List Blk} {A : Option Addr} {n c : Nat} {l : List (Int × Int)}
theorem BL.nil (h : Own w0 w M) : BL w0 w M none 0 0 [] := ⟨none, ⟨h, fun x hx => by cases hx⟩, RV.none, rfl⟩
theorem BL.call (h : BL w0 w M A n c l) (k : Bel w w') : BL w0 w' M A n c l := let ⟨o, h1, h2, h3⟩ := h; ⟨o, h1.call k, h2, h3⟩
theorem BL.own (h : BL w0 w M A n c l) : Own w0 w M := by
  obtain ⟨o, h1, _⟩ := h
  exact h1.own.less
theorem BL.bks (h : BL w0 w M A n c l) : Bks w A n l ∧ n ≤ c := by
  obtain ⟨o, h1, q, h3⟩ := h
  subst h3
  rcases q.2 with ⟨rfl, rfl, rfl, h4⟩ | ⟨b, pad, rfl, rfl, hc⟩
  · have := congrArg List.length h4
    rw [bvs_len] at this
    have : l = [] := List.eq_nil_of_length_eq_zero (by
      have e : l.length * 2 = 0 := this
      omega)
    subst this
    exact ⟨⟨rfl, fun h => by simp at h⟩, Nat.le_refl _⟩
  · refine ⟨bks_bk (h1.own.bk 0 rfl), ?_⟩
    rw [bvs_len] at hc
    omega
theorem bl_app (h : BL w0 w M A n c l) {x : Int × Int} {g0 : Nat} (hB : At w ⟨g0, 0, none⟩ (bkd x)) (hn : n ≤ 1000000) {K : Option Addr → Nat → World → Prop} (hK : ∀ A' c' wb, BL w0 wb M A' (n + 1) c' (l ++ [x]) → K A' c' wb) :
    AppE w 2 8 28 [.int .u32 0, .int .u16 0] A n c (some ⟨g0, 0, .none⟩) 1 K := by
  obtain ⟨o, h1, q, h3⟩ := h
  refine rv_app (bytes := 8) (zs := [.int .u32 0, .int .u16 0]) rfl h1 q (v := bkd x) rfl rfl hB (by omega) (by omega) fun o' A' c' wb H' q' => ?_
  refine hK A' c' wb ⟨o', H', by rw [bvs_app, bvs_one]; exact q', by rw [List.length_append, h3]; rfl⟩
end
theorem Bks.rd {w : World} {A : Option Addr} {n : Nat} {l : List (Int × Int)} (h : Bks w A n l) {i : Nat} (hi : i < n) : ∃ a, A = some a ∧ At w (a.add (i * 2)) (bkd (l.getD i (0, 0))) := by
  obtain ⟨a, e, hc⟩ := h.2 (by omega)
  exact ⟨a, e, hc i hi⟩
theorem At.bel {w w' : World} {a : Addr} {l : List Value} (h : At w a l) (k : Bel w w') : At w' a l := fun j v hv => k.cellb (h j v hv)
theorem take_snoc {α : Type} {l : List α} {i : Nat} {d : α} (h : i < l.length) : l.take i ++ [l.getD i d] = l.take (i + 1) := by
  rw [List.take_succ_eq_append_getElem h, List.getD_eq_getElem?_getD, List.getElem?_eq_getElem h]
  rfl
/-- A list of backends is answered, in memory of its own. -/
def RetBL (w : World) (l : List (Int × Int)) (e : Ending) (w' : World) : Prop := ∃ A c, e = .returned (.slice A l.length c) ∧ BL w w' [] A l.length c l
section
variable {w : World} {A : Option Addr} {n c : Nat} {l : List (Int × Int)} (h : Bks w A n l) (hn : n ≤ 500000)
include h hn
theorem backs_l : ∀ (q i : Nat) (wa : World) (B : Option Addr) (d : Nat), n - i < q → i ≤ n → BL w wa [] B i d (l.take i) → weftlaw23_backs.L1 q A n c B i d (i : Int) wa (RetBL w l) := by
  have hl := h.1
  intro q
  induction q with
  | zero => intro i wa B d hq; omega
  | succ q ih =>
    intro i wa B d hq hi b
    unfold weftlaw23_backs.L1; intros
    rw [weftlaw23_backs.l1_eq]
    refine ifD (fun h1 => ?_) (fun h1 => ?_)
    · obtain ⟨a, ea, hat⟩ := h.rd (i := i) (by omega)
      have hat2 := hat.bel b.own.bel
      refine ⟨a, ea, ⟨by omega, by omega⟩, _, _, ⟨rfl, hat2⟩, ?_⟩
      refine let_as wa.heap.size rfl (let_as (wa.alloc (.cells (bkd (l.getD i (0, 0))).toArray 28)) rfl ?_)
      refine bl_app (b.call ((Bel.refl wa).alloc _)) (Bk.new wa _ _).at (by omega) fun A' c' wb b' => ?_
      refine let_as ((i + 1 : Nat) : Int) (by rw [w64 (by omega) (by omega)]; omega) ?_
      rw [take_snoc (by omega)] at b'
      exact ih (i + 1) wb A' c' (by omega) (by omega) b' ..
    · have e : i = n := by omega
      subst e
      rw [List.take_of_length_le (by omega)] at b
      refine ⟨B, d, by rw [hl], ?_⟩
      rw [hl]
      exact b
theorem backs_c : Calls Tryd.prog 23 #[.slice A n c] w (RetBL w l) := by
  refine weftlaw23_backs.run ?_
  unfold weftlaw23_backs.s
  refine ⟨n + 1, ?_⟩
  have k := backs_l (c := c) h hn (n + 1) 0 w none 0 (by omega) (by omega) (BL.nil (Own.refl w))
  exact k ..
theorem without_l {out : Nat} : ∀ (q i : Nat) (wa : World) (B : Option Addr) (d : Nat), n - i < q → i ≤ n → BL w wa [] B ((l.take i).eraseIdx out).length d ((l.take i).eraseIdx out) → weftlaw23_without.L1 q A n c (out : Int) B ((l.take i).eraseIdx out).length d (i : Int) wa (RetBL w (l.eraseIdx out)) := by
  have hl := h.1
  intro q
  induction q with
  | zero => intro i wa B d hq; omega
  | succ q ih =>
    intro i wa B d hq hi b
    unfold weftlaw23_without.L1; intros
    rw [weftlaw23_without.l1_eq]
    refine ifD (fun h1 => ?_) (fun h1 => ?_)
    · have hi2 : i < n := by omega
      have lt : (l.take i).length = i := by rw [List.length_take]; omega
      refine ifN (fun h2 => ?_) (fun h2 => ?_)
      · obtain ⟨a, ea, hat⟩ := h.rd (i := i) hi2
        have hat2 := hat.bel b.own.bel
        refine ⟨a, ea, ⟨by omega, by omega⟩, _, _, ⟨rfl, hat2⟩, ?_⟩
        refine let_as wa.heap.size rfl (let_as (wa.alloc (.cells (bkd (l.getD i (0, 0))).toArray 28)) rfl ?_)
        have hle : ((l.take i).eraseIdx out).length ≤ i := Nat.le_trans (List.length_eraseIdx_le _ _) (by omega)
        refine bl_app (b.call ((Bel.refl wa).alloc _)) (Bk.new wa _ _).at (by omega) fun A' c' wb b' => ?_
        refine let_as ((i + 1 : Nat) : Int) (by rw [w64 (by omega) (by omega)]; omega) ?_
        have e : (l.take i).eraseIdx out ++ [l.getD i (0, 0)] = (l.take (i + 1)).eraseIdx out := by
          rw [← take_snoc (d := ((0, 0) : Int × Int)) (by omega : i < l.length)]
          by_cases ho : out < i
          · rw [List.eraseIdx_append_of_lt_length (by omega)]
          · rw [List.eraseIdx_append_of_length_le (by omega), List.eraseIdx_of_length_le (by omega)]
            congr 1
            rw [lt, List.eraseIdx_of_length_le (by simp; omega)]
        have el : ((l.take i).eraseIdx out).length + 1 = ((l.take (i + 1)).eraseIdx out).length := by rw [← e, List.length_append]; rfl
        rw [e] at b'
        rw [el] at b' ⊢
        exact ih (i + 1) wb A' c' (by omega) (by omega) b' ..
      · refine let_as ((i + 1 : Nat) : Int) (by rw [w64 (by omega) (by omega)]; omega) ?_
        have ho : out = i := by omega
        have e : (l.take i).eraseIdx out = (l.take (i + 1)).eraseIdx out := by
          rw [← take_snoc (d := ((0, 0) : Int × Int)) (by omega : i < l.length), List.eraseIdx_append_of_length_le (by omega), List.eraseIdx_of_length_le (by omega), lt, ho, Nat.sub_self]
          simp
        rw [e] at b ⊢
        exact ih (i + 1) wa B d (by omega) (by omega) b ..
    · have e : i = n := by omega
      subst e
      rw [List.take_of_length_le (by omega)] at b ⊢
      exact ⟨B, d, rfl, b⟩
theorem without_c (out : Nat) : Calls Tryd.prog 25 #[.slice A n c, .int .i64 (out : Int)] w (RetBL w (l.eraseIdx out)) := by
  refine weftlaw23_without.run ?_
  unfold weftlaw23_without.s
  refine ⟨n + 1, ?_⟩
  have k := without_l (c := c) (out := out) h hn (n + 1) 0 w none 0 (by omega) (by omega) (by simpa using BL.nil (Own.refl w))
  simp only [List.take_zero, List.eraseIdx_nil, List.length_nil] at k
  exact k ..
end

/-! ### tied -/
abbrev wtV (t : Tp) (x : Int × Int) : Int := weightV t x.1 x.2
/-- No two that are not the same have the same weight. -/
def Unt (t : Tp) (l : List (Int × Int)) : Prop := ∀ x ∈ l, ∀ y ∈ l, wtV t x = wtV t y → x = y
def FineB (l : List (Int × Int)) : Prop := ∀ x ∈ l, (0 ≤ x.1 ∧ x.1 ≤ 4294967295) ∧ (0 ≤ x.2 ∧ x.2 ≤ 65535)
theorem eqV_bk (a b c d : Int) : eqV [.int .u32 a, .int .u16 b] [.int .u32 c, .int .u16 d] = decide (((a, b) : Int × Int) = (c, d)) := by
  by_cases h1 : a = c <;> by_cases h2 : b = d <;> simp [eqV, h1, h2]
def uws (t : Tp) (l : List (Int × Int)) : List Value := l.map fun x => .int .u64 (wtV t x)
def RetTd (w0 : World) (t : Tp) (l : List (Int × Int)) (e : Ending) (w' : World) : Prop := Bel w0 w' ∧ ∃ b, e = .returned (.bool b) ∧ (b = false → Unt t l)
section
variable {w0 : World} {t : Tp} {A : Option Addr} {n c : Nat} {l : List (Int × Int)}
/-- Up to place i no two are tied. -/
def UntTo (t : Tp) (l : List (Int × Int)) (i : Nat) : Prop := ∀ a b, a < i → b < a → wtV t (l.getD a (0, 0)) = wtV t (l.getD b (0, 0)) → l.getD a (0, 0) = l.getD b (0, 0)
theorem UntTo.all (h : UntTo t l l.length) : Unt t l := fun x hx y hy e => by
  obtain ⟨i, hi⟩ := List.mem_iff_getElem?.1 hx
  obtain ⟨j, hj⟩ := List.mem_iff_getElem?.1 hy
  have li := (List.getElem?_eq_some_iff.1 hi).1
  have lj := (List.getElem?_eq_some_iff.1 hj).1
  have ei : l.getD i (0, 0) = x := by rw [List.getD_eq_getElem?_getD, hi]; rfl
  have ej : l.getD j (0, 0) = y := by rw [List.getD_eq_getElem?_getD, hj]; rfl
  rcases Nat.lt_trichotomy i j with h1 | h1 | h1
  · have := h j i lj h1 (by rw [ei, ej]; exact e.symm)
    rw [ei, ej] at this
    exact this.symm
  · subst h1
    rw [ei] at ej
    exact ej
  · have := h i j li h1 (by rw [ei, ej]; exact e)
    rw [ei, ej] at this
    exact this
theorem tied_l3 {wb : World} (hA : Bks wb A n l) (hn : n ≤ 1000) {B : Option Addr} {d : Nat} (hB : ∀ j, j < n → ∃ a, B = some a ∧ wb.cell? (a.add j) = some (.int .u64 (wtV t (l.getD j (0, 0))))) {i m0 : Nat} (hi : i < n) (k0 : Bel w0 wb) (hU : UntTo t l i)
    (rest : ∀ w, Bel wb w → UntTo t l (i + 1) → weftlaw23_tied.L2 m0 A n c B n d ((i + 1 : Nat) : Int) w (RetTd w0 t l)) : ∀ (q j : Nat) (w : World), i - j < q → j ≤ i → Bel wb w → (∀ b, b < j → wtV t (l.getD i (0, 0)) = wtV t (l.getD b (0, 0)) → l.getD i (0, 0) = l.getD b (0, 0)) →
    weftlaw23_tied.L3 m0 q A n c B n d (i : Int) (j : Int) w (RetTd w0 t l) := by
  intro q
  induction q with
  | zero => intro j w hq; omega
  | succ q ih =>
    intro j w hq hj k hu
    unfold weftlaw23_tied.L3; intros
    rw [weftlaw23_tied.l3_eq]
    refine ifD (fun h1 => ?_) (fun h1 => ?_)
    · have hj2 : j < i := by omega
      refine draws (fun w' => Bel wb w') k.drew fun w2 e2 => ?_
      have k2 : Bel wb w2 := by rw [e2]; exact k.drew
      obtain ⟨a, ea, ca⟩ := hB i hi
      obtain ⟨a2, ea2, ca2⟩ := hB j (by omega)
      refine ⟨a, ea, ⟨by omega, by omega⟩, wtV t (l.getD i (0, 0)), fun w' h => h.cellb ca, ?_⟩
      refine ⟨a2, ea2, ⟨by omega, by omega⟩, wtV t (l.getD j (0, 0)), fun w' h => h.cellb ca2, ?_⟩
      have next : (wtV t (l.getD i (0, 0)) = wtV t (l.getD j (0, 0)) → l.getD i (0, 0) = l.getD j (0, 0)) → ∀ b, b < j + 1 → wtV t (l.getD i (0, 0)) = wtV t (l.getD b (0, 0)) → l.getD i (0, 0) = l.getD b (0, 0) := fun h b hb => by
        by_cases e : b = j
        · rw [e]; exact h
        · exact hu b (by omega)
      refine ifE (fun h2 => ?_) (fun h2 => ?_)
      · obtain ⟨a3, ea3, ha3⟩ := hA.rd hi
        obtain ⟨a4, ea4, ha4⟩ := hA.rd (i := j) (by omega)
        refine ⟨a3, ea3, ⟨by omega, by omega⟩, _, _, ⟨rfl, fun w' h => ha3.bel h⟩, ?_⟩
        refine ⟨a4, ea4, ⟨by omega, by omega⟩, _, _, ⟨rfl, fun w' h => ha4.bel h⟩, ?_⟩
        rw [eqV_bk]
        refine ifNot (fun _ => ⟨Bel.trans k0 k2, true, rfl, fun h => by cases h⟩) (fun h3 => ?_)
        refine let_as ((j + 1 : Nat) : Int) (by rw [w64 (by omega) (by omega)]; omega) ?_
        exact ih (j + 1) w2 (by omega) (by omega) k2 (next fun _ => of_decide_eq_true h3) ..
      · refine let_as ((j + 1 : Nat) : Int) (by rw [w64 (by omega) (by omega)]; omega) ?_
        exact ih (j + 1) w2 (by omega) (by omega) k2 (next fun h => absurd h h2) ..
    · have e : j = i := by omega
      subst e
      refine let_as ((j + 1 : Nat) : Int) (by rw [w64 (by omega) (by omega)]; omega) ?_
      refine rest w k (fun a b ha hb => ?_) ..
      by_cases e : a = j
      · rw [e] at hb ⊢
        exact hu b hb
      · exact hU a b (by omega) hb
theorem tied_l2 {wb : World} (hA : Bks wb A n l) (hn : n ≤ 1000) {B : Option Addr} {d : Nat} (hB : ∀ j, j < n → ∃ a, B = some a ∧ wb.cell? (a.add j) = some (.int .u64 (wtV t (l.getD j (0, 0))))) (k0 : Bel w0 wb) : ∀ (q i : Nat) (w : World), n - i < q → i ≤ n → Bel wb w → UntTo t l i →
    weftlaw23_tied.L2 q A n c B n d (i : Int) w (RetTd w0 t l) := by
  have hl := hA.1
  intro q
  induction q with
  | zero => intro i w hq; omega
  | succ q ih =>
    intro i w hq hi k hU
    unfold weftlaw23_tied.L2; intros
    rw [weftlaw23_tied.l2_eq]
    refine ifD (fun h1 => ?_) (fun h1 => ?_)
    · refine ⟨i + 1, ?_⟩
      have kk := tied_l3 (c := c) (d := d) hA hn hB (by omega : i < n) k0 hU (m0 := q) (fun w' k' hU' => ih (i + 1) w' (by omega) (by omega) k' hU') (i + 1) 0 w (by omega) (by omega) k (fun b hb => by omega)
      exact kk ..
    · have e : i = l.length := by omega
      rw [e] at hU
      exact ⟨Bel.trans k0 k, false, rfl, fun _ => hU.all⟩
theorem bks_mem {w : World} {L : List Blk} {o : Option Blk} (H : Own w0 w L) (hL : ∀ x ∈ o.toList, x ∈ L) (q : RV 28 2 o A n c (bvs l)) (hl : l.length = n) : Bks w A n l := by
  subst hl
  rcases q.2 with ⟨rfl, rfl, rfl, h4⟩ | ⟨b, pad, rfl, rfl, hc⟩
  · have := congrArg List.length h4
    rw [bvs_len] at this
    have : l = [] := List.eq_nil_of_length_eq_zero (by
      have e : l.length * 2 = 0 := this
      omega)
    subst this
    exact ⟨rfl, fun h => by simp at h⟩
  · exact bks_bk (memB H (hL _ (by simp : (b, 28, bvs l ++ pad) ∈ (some (b, 28, bvs l ++ pad)).toList)))
theorem uws_get {j : Nat} (hj : j < l.length) : (uws t l)[j]? = some (.int .u64 (wtV t (l.getD j (0, 0)))) := by
  have e : l[j]? = some (l.getD j (0, 0)) := by rw [List.getD_eq_getElem?_getD, List.getElem?_eq_getElem hj]; rfl
  generalize l.getD j (0, 0) = x at e
  unfold uws
  rw [List.getElem?_map, e]
  rfl
theorem uws_rd {w : World} {o : Option Blk} {M : List Blk} (H : Own w0 w (o.toList ++ M)) {B : Option Addr} {d : Nat} (q : RV 68 1 o B n d (uws t l)) (hl : l.length = n) : ∀ j, j < n → ∃ a, B = some a ∧ w.cell? (a.add j) = some (.int .u64 (wtV t (l.getD j (0, 0)))) := fun j hj => by
  have e := uws_get (t := t) (by omega : j < l.length)
  generalize wtV t (l.getD j (0, 0)) = x at e ⊢
  obtain ⟨b, eb, hat⟩ := q.rd H hj (by decide) (u := [Value.int .u64 x]) (fun k v hx => by
    have hk : k = 0 := by
      have := (List.getElem?_eq_some_iff.1 hx).1
      simpa using this
    subst hk
    simp only [List.getElem?_cons_zero, Option.some.injEq] at hx
    rw [← hx, Nat.mul_one, Nat.add_zero]
    exact e)
  refine ⟨_, eb, ?_⟩
  have := hat 0 _ rfl
  rw [add_blk, Nat.mul_one, Nat.add_zero] at this
  rw [add_blk, Nat.zero_add]
  exact this
theorem uws_snoc {i : Nat} (hi : i < l.length) : uws t (l.take i) ++ [Value.int .u64 (wtV t (l.getD i (0, 0)))] = uws t (l.take (i + 1)) := by
  rw [← take_snoc (d := ((0, 0) : Int × Int)) hi]
  generalize l.getD i (0, 0) = x
  unfold uws
  rw [List.map_append]
  rfl
end
end Go.Proofs.YtphbdmafchjjeaaDoorS
