/- Words to show what SKit's statements ask: memory of one's own, bytes that are read, numbers.
   Conditions: none; every theorem here speaks of any program. -/
import Derived.Test.YtphbdmafchjjeaaDoorHSKit
import Derived.Test.YtphbdmafchjjeaaDoorHXMath
namespace Go.Proofs.YtphbdmafchjjeaaDoorS
open Go Go.RowKit Go.Proofs.YtphbdmafchjjeaaDoorX
set_option linter.unusedVariables false
set_option linter.unusedSimpArgs false

/-! ### tests -/
section
variable {c : Prop} [Decidable c] {X Y : Prop}
theorem ifD (h : c → X) (k : ¬ c → Y) : if decide c = true then X else Y := by
  by_cases hc : c
  · rw [if_pos (decide_eq_true hc)]; exact h hc
  · rw [if_neg (by simpa using hc)]; exact k hc
theorem ifT (hc : c) (h : X) : if decide c = true then X else Y := by rw [if_pos (decide_eq_true hc)]; exact h
theorem ifF (hc : ¬ c) (h : Y) : if decide c = true then X else Y := by rw [if_neg (by simpa using hc)]; exact h
end
section
variable {x y : Int} {b : Bool} {X Y : Prop}
theorem ifE (h : x = y → X) (k : x ≠ y → Y) : if (x == y) = true then X else Y := by
  by_cases hc : x = y
  · rw [if_pos (by simpa using hc)]; exact h hc
  · rw [if_neg (by simpa using hc)]; exact k hc
theorem ifN (h : x ≠ y → X) (k : x = y → Y) : if (x != y) = true then X else Y := by
  by_cases hc : x = y
  · rw [if_neg (by simpa using hc)]; exact k hc
  · rw [if_pos (by simpa using hc)]; exact h hc
theorem ifB (h : b = true → X) (k : b = false → Y) : if b = true then X else Y := by
  cases b
  · rw [if_neg (by decide)]; exact k rfl
  · rw [if_pos rfl]; exact h rfl
theorem ifNot (h : b = false → X) (k : b = true → Y) : if (!b) = true then X else Y := by
  cases b
  · rw [if_pos (by decide)]; exact h rfl
  · rw [if_neg (by decide)]; exact k rfl
end
theorem bne_d (x y : Int) : (x != y) = decide (x ≠ y) := by by_cases h : x = y <;> simp [h]
theorem beq_d (x y : Int) : (x == y) = decide (x = y) := by by_cases h : x = y <;> simp [h]
/-- A call's answer, told. -/
theorem call_of {P : Program} {f : FuncId} {args : Array Value} {w : World} {R R' : Ending → World → Prop} (h : Calls P f args w R) (k : ∀ e w', R e w' → R' e w') : Calls P f args w R' := h.mono k

/-! ### what a call leaves -/
/-- A call's answer, all that stood being as it was. -/
abbrev Ret (v : Value) (w : World) : Ending → World → Prop := fun e w' => e = .returned v ∧ Below w.heap.size w w'
/-- All that stood stands as it was. -/
abbrev Bel (w w' : World) : Prop := Below w.heap.size w w'
theorem Bel.refl (w : World) : Bel w w := Below.refl _ _
theorem Bel.trans {a b c : World} (h : Bel a b) (k : Bel b c) : Bel a c :=
  ⟨k.os.trans h.os, k.tape.trans h.tape, k.output.trans h.output, Nat.le_trans h.size k.size, fun i hi => (k.block i (Nat.lt_of_lt_of_le hi h.size)).trans (h.block i hi)⟩
theorem Bel.drew {a b : World} (h : Bel a b) : Bel a b.drew := ⟨h.os, h.tape, h.output, h.size, h.block⟩
theorem Bel.alloc {a b : World} (h : Bel a b) (o : Obj) : Bel a (b.alloc o) := Below.alloc h h.size o
theorem Bel.cellb {w w' : World} (h : Bel w w') {a : Addr} {v : Value} (hc : w.cell? a = some v) : w'.cell? a = some v := (h.cell (World.block_lt_of_cell? w a hc)).trans hc
/-- All but the block g stands as it was. -/
structure But (g : Nat) (w w' : World) : Prop where
  os : w'.os = w.os
  tape : w'.tape = w.tape
  output : w'.output = w.output
  size : w.heap.size ≤ w'.heap.size
  block : ∀ i, i < w.heap.size → i ≠ g → w'.heap[i]? = w.heap[i]?
theorem But.refl (g : Nat) (w : World) : But g w w := ⟨rfl, rfl, rfl, Nat.le_refl _, fun _ _ _ => rfl⟩
theorem But.trans {g : Nat} {a b c : World} (h : But g a b) (k : But g b c) : But g a c :=
  ⟨k.os.trans h.os, k.tape.trans h.tape, k.output.trans h.output, Nat.le_trans h.size k.size, fun i hi hg => (k.block i (Nat.lt_of_lt_of_le hi h.size) hg).trans (h.block i hi hg)⟩
theorem Bel.but {a b : World} (h : Bel a b) (g : Nat) : But g a b := ⟨h.os, h.tape, h.output, h.size, fun i hi _ => h.block i hi⟩
theorem But.set (w : World) (g i : Nat) (v : Value) : But g w (w.setCell ⟨g, i, none⟩ v) :=
  ⟨rfl, rfl, rfl, by simp, fun k _ hk => Below.heap_setCell w ⟨g, i, none⟩ v k (fun e => hk e)⟩
theorem But.bel {g : Nat} {a b c : World} (h : Bel a b) (hg : a.heap.size ≤ g) (k : But g b c) : Bel a c :=
  ⟨k.os.trans h.os, k.tape.trans h.tape, k.output.trans h.output, Nat.le_trans h.size k.size, fun i hi => (k.block i (Nat.lt_of_lt_of_le hi h.size) (by omega)).trans (h.block i hi)⟩

/-! ### blocks -/
/-- A block of cells, none of them frozen. -/
def Bk (w : World) (g : Nat) (t : TypeId) (l : List Value) : Prop := w.heap[g]? = some (.cells l.toArray t (0, 0))
theorem Bk.lt {w : World} {g : Nat} {t : TypeId} {l : List Value} (h : Bk w g t l) : g < w.heap.size := (Array.getElem?_eq_some_iff.1 h).1
theorem Bk.cell {w : World} {g : Nat} {t : TypeId} {l : List Value} (h : Bk w g t l) (i : Nat) {v : Value} (hv : l[i]? = some v) : w.cell? ⟨g, i, none⟩ = some v := by
  rw [cell_of_row w g i _ t (0, 0) h]
  simpa using hv
theorem Bk.free {w : World} {g : Nat} {t : TypeId} {l : List Value} (h : Bk w g t l) (i : Nat) : w.frozen? ⟨g, i, none⟩ = false := by
  unfold World.frozen?
  rw [h]
  simp
theorem Bk.new (w : World) (t : TypeId) (l : List Value) : Bk (w.alloc (.cells l.toArray t)) w.heap.size t l := heap_alloc_new w _
theorem Bk.but {w w' : World} {g g' : Nat} {t : TypeId} {l : List Value} (h : Bk w g t l) (k : But g' w w') (hg : g ≠ g') : Bk w' g t l := (k.block g h.lt hg).trans h
theorem Bk.bel {w w' : World} {g : Nat} {t : TypeId} {l : List Value} (h : Bk w g t l) (k : Bel w w') : Bk w' g t l := (k.block g h.lt).trans h
theorem Bk.may {w : World} {g : Nat} {t : TypeId} {l : List Value} (h : Bk w g t l) {i : Nat} (hi : i < l.length) : MayC w ⟨g, i, none⟩ :=
  ⟨⟨l[i], h.cell i (List.getElem?_eq_getElem hi)⟩, h.free i⟩
theorem Bk.set {w : World} {g : Nat} {t : TypeId} {l : List Value} (h : Bk w g t l) (i : Nat) (v : Value) : Bk (w.setCell ⟨g, i, none⟩ v) g t (l.set i v) := by
  unfold Bk at *
  simp [World.setCell, Array.getElem?_modify, h]
theorem add_blk (g o j : Nat) : (⟨g, o, none⟩ : Addr).add j = ⟨g, o + j, none⟩ := by unfold Addr.add; split <;> simp_all
theorem Bk.at {w : World} {g : Nat} {t : TypeId} {l : List Value} (h : Bk w g t l) : At w ⟨g, 0, none⟩ l := fun j u hu => by
  rw [add_blk, Nat.zero_add]
  exact h.cell j hu
/-- What is written over a part of a list. -/
def splice {α : Type} (l : List α) (o : Nat) (vs : List α) : List α := l.take o ++ vs ++ l.drop (o + vs.length)
theorem splice_nil {α : Type} (l : List α) (o : Nat) : splice l o [] = l := by simp [splice]
theorem splice_cons {α : Type} (l : List α) (o : Nat) (v : α) (vs : List α) (h : o < l.length) : splice (l.set o v) (o + 1) vs = splice l o (v :: vs) := by
  unfold splice
  have e1 : (l.set o v).take (o + 1) = l.take o ++ [v] := by
    rw [List.take_set, List.take_succ_eq_append_getElem h, List.set_append_right _ _ (by simp; omega)]
    simp [List.length_take, Nat.min_eq_left (Nat.le_of_lt h)]
  have e2 : (l.set o v).drop (o + 1 + vs.length) = l.drop (o + (v :: vs).length) := by
    rw [List.drop_set_of_lt (by omega)]
    simp [Nat.add_assoc, Nat.add_comm 1]
  rw [e1, e2]
  simp
theorem splice_len {α : Type} (l vs : List α) (o : Nat) (h : o + vs.length ≤ l.length) : (splice l o vs).length = l.length := by
  unfold splice
  simp
  omega
theorem Bk.put {g : Nat} {t : TypeId} {o : Nat} : ∀ (vs : List Value) (w : World) (l : List Value) (j : Nat), Bk w g t l → o + j + vs.length ≤ l.length →
    Bk (putCells w ⟨g, o, none⟩ vs j) g t (splice l (o + j) vs) ∧ But g w (putCells w ⟨g, o, none⟩ vs j)
  | [], w, l, j, h, _ => by rw [splice_nil]; exact ⟨h, But.refl g w⟩
  | v :: vs, w, l, j, h, hl => by
    simp only [List.length_cons] at hl
    have ih := Bk.put (t := t) (o := o) vs (w.setCell ⟨g, o + j, none⟩ v) (l.set (o + j) v) (j + 1) (h.set _ v) (by simp; omega)
    rw [← splice_cons l (o + j) v vs (by omega), Nat.add_assoc o j 1]
    simp only [putCells, add_blk]
    exact ⟨ih.1, (But.set w g (o + j) v).trans ih.2⟩
theorem Bk.mayN {w : World} {g : Nat} {t : TypeId} {l : List Value} (h : Bk w g t l) {o n : Nat} (hn : o + n ≤ l.length) : May w ⟨g, o, none⟩ n := fun j hj => by
  rw [add_blk]
  exact h.may (by omega)
theorem splice_at {α : Type} (a b v : List α) {o : Nat} (h : a.length = o) : splice (a ++ b) o v = a ++ (v ++ b.drop v.length) := by
  unfold splice
  rw [List.take_left' h, List.drop_append, List.drop_eq_nil_of_le (by omega), List.nil_append, List.append_assoc, show o + v.length - a.length = v.length by omega]
theorem splice_all {α : Type} (l vs : List α) (h : vs.length = l.length) : splice l 0 vs = vs := by simp [splice, h]

/-! ### bytes that are read -/
/-- The slice A[:n] holds these bytes. -/
def By (w : World) (A : Option Addr) (n : Nat) (l : List Int) : Prop :=
  l.length = n ∧ (0 < n → ∃ a, A = some a ∧ ∀ i, i < n → w.cell? (a.add i) = some (.int .u8 (l.getD i 0)))
theorem By.len {w : World} {A : Option Addr} {n : Nat} {l : List Int} (h : By w A n l) : l.length = n := h.1
theorem By.bel {w w' : World} {A : Option Addr} {n : Nat} {l : List Int} (h : By w A n l) (k : Bel w w') : By w' A n l :=
  ⟨h.1, fun hn => let ⟨a, e, hc⟩ := h.2 hn; ⟨a, e, fun i hi => k.cellb (hc i hi)⟩⟩
theorem By.nil (w : World) (A : Option Addr) : By w A 0 [] := ⟨rfl, fun h => by omega⟩
theorem By.rd {w : World} {A : Option Addr} {n : Nat} {l : List Int} (h : By w A n l) {i : Int} (h0 : 0 ≤ i) (h1 : i < (n : Int)) {K : Addr → Int → Prop} (hk : ∀ a, K a (l.getD i.toNat 0)) :
    ∃ a : Addr, A = some a ∧ (0 ≤ i ∧ i < (n : Int)) ∧ (∃ x : Int, w.cell? (a.add i.toNat) = some (.int .u8 x) ∧ K a x) := by
  obtain ⟨a, e, hc⟩ := h.2 (by omega)
  exact ⟨a, e, ⟨h0, h1⟩, _, hc _ (by omega), hk a⟩
theorem By.rdS {w : World} {A : Option Addr} {n : Nat} {l : List Int} (h : By w A n l) {S : World → Prop} (hS : ∀ w', S w' → Bel w w') {i : Int} (h0 : 0 ≤ i) (h1 : i < (n : Int)) {K : Addr → Int → Prop} (hk : ∀ a, K a (l.getD i.toNat 0)) :
    ∃ a : Addr, A = some a ∧ (0 ≤ i ∧ i < (n : Int)) ∧ (∃ x : Int, (∀ w', S w' → w'.cell? (a.add i.toNat) = some (.int .u8 x)) ∧ K a x) := by
  obtain ⟨a, e, hc⟩ := h.2 (by omega)
  exact ⟨a, e, ⟨h0, h1⟩, _, fun w' hw' => (hS w' hw').cellb (hc _ (by omega)), hk a⟩
/-- a literal index -/
theorem By.rdk {w : World} {A : Option Addr} {n : Nat} {l : List Int} (h : By w A n l) (i : Nat) {j : Int} (hj : j = i) (h1 : i < n) {K : Addr → Int → Prop} (hk : ∀ a, K a (l.getD i 0)) :
    ∃ a : Addr, A = some a ∧ (0 ≤ j ∧ j < (n : Int)) ∧ (∃ x : Int, w.cell? (a.add i) = some (.int .u8 x) ∧ K a x) := by
  obtain ⟨a, e, hc⟩ := h.2 (by omega)
  exact ⟨a, e, ⟨by omega, by omega⟩, _, hc _ h1, hk a⟩
theorem By.rd0 {w : World} {A : Option Addr} {n : Nat} {l : List Int} (h : By w A n l) (h1 : 0 < n) {K : Addr → Int → Prop} (hk : ∀ a, K a (l.getD 0 0)) :
    ∃ a : Addr, A = some a ∧ (0 ≤ (0 : Int) ∧ (0 : Int) < (n : Int)) ∧ (∃ x : Int, w.cell? a = some (.int .u8 x) ∧ K a x) := by
  obtain ⟨a, e, hc⟩ := h.2 (by omega)
  exact ⟨a, e, ⟨by omega, by omega⟩, _, by have := hc 0 h1; rwa [addr_add_zero] at this, hk a⟩
theorem By.rdkS {w : World} {A : Option Addr} {n : Nat} {l : List Int} (h : By w A n l) {S : World → Prop} (hS : ∀ w', S w' → Bel w w') (i : Nat) {j : Int} (hj : j = i) (h1 : i < n) {K : Addr → Int → Prop} (hk : ∀ a, K a (l.getD i 0)) :
    ∃ a : Addr, A = some a ∧ (0 ≤ j ∧ j < (n : Int)) ∧ (∃ x : Int, (∀ w', S w' → w'.cell? (a.add i) = some (.int .u8 x)) ∧ K a x) := by
  obtain ⟨a, e, hc⟩ := h.2 (by omega)
  exact ⟨a, e, ⟨by omega, by omega⟩, _, fun w' hw' => (hS w' hw').cellb (hc _ h1), hk a⟩
theorem By.rd0S {w : World} {A : Option Addr} {n : Nat} {l : List Int} (h : By w A n l) {S : World → Prop} (hS : ∀ w', S w' → Bel w w') (h1 : 0 < n) {K : Addr → Int → Prop} (hk : ∀ a, K a (l.getD 0 0)) :
    ∃ a : Addr, A = some a ∧ (0 ≤ (0 : Int) ∧ (0 : Int) < (n : Int)) ∧ (∃ x : Int, (∀ w', S w' → w'.cell? a = some (.int .u8 x)) ∧ K a x) := by
  obtain ⟨a, e, hc⟩ := h.2 (by omega)
  exact ⟨a, e, ⟨by omega, by omega⟩, _, fun w' hw' => (hS w' hw').cellb (by have := hc 0 h1; rwa [addr_add_zero] at this), hk a⟩
def bv (l : List Int) : List Value := l.map (Value.int .u8)
theorem bv_len (l : List Int) : (bv l).length = l.length := by simp [bv]
theorem bv_get (l : List Int) (i : Nat) (h : i < l.length) : (bv l)[i]? = some (.int .u8 (l.getD i 0)) := by
  simp [bv, List.getElem?_map, List.getElem?_eq_getElem h, List.getD_eq_getElem?_getD]
theorem bv_one (l : List Int) : (bv l).all one1 = true := by simp [bv, one1]
/-- A block of bytes. -/
theorem Bk.by {w : World} {g : Nat} {t : TypeId} {l : List Int} (h : Bk w g t (bv l)) : By w (some ⟨g, 0, none⟩) l.length l :=
  ⟨rfl, fun _ => ⟨_, rfl, fun i hi => by rw [add_blk, Nat.zero_add]; exact h.cell i (bv_get l i hi)⟩⟩
theorem By.part {w : World} {g o n : Nat} {t : TypeId} {l : List Int} (h : Bk w g t (bv l)) (hn : o + n ≤ l.length) : By w (some ⟨g, o, none⟩) n ((l.drop o).take n) := by
  refine ⟨by simp; omega, fun _ => ⟨_, rfl, fun i hi => ?_⟩⟩
  rw [add_blk, h.cell (o + i) (bv_get l (o + i) (by omega))]
  simp [List.getD_eq_getElem?_getD, List.getElem?_take, hi, List.getElem?_drop]
theorem By.at {w : World} {A : Option Addr} {n : Nat} {l : List Int} (h : By w A n l) : Rd w A (bv l) := fun hp => by
  rw [bv_len] at hp
  obtain ⟨a, e, hc⟩ := h.2 (by rw [← h.1]; exact hp)
  refine ⟨a, e, fun j u hu => ?_⟩
  have hj : j < l.length := by
    have := (List.getElem?_eq_some_iff.1 hu).1
    simpa [bv] using this
  rw [bv_get l j hj] at hu
  injection hu with hu
  subst hu
  exact hc j (by rw [← h.1]; exact hj)
/-- a cut -/
theorem By.take {w : World} {A : Option Addr} {n : Nat} {l : List Int} (h : By w A n l) {k : Nat} (hk : k ≤ n) : By w A k (l.take k) := by
  refine ⟨by rw [List.length_take, h.1]; omega, fun hp => ?_⟩
  obtain ⟨a, e, hc⟩ := h.2 (by omega)
  refine ⟨a, e, fun i hi => ?_⟩
  rw [hc i (by omega)]
  simp [List.getD_eq_getElem?_getD, hi]
theorem add_add (a : Addr) (i j : Nat) : (a.add i).add j = a.add (i + j) := by
  unfold Addr.add
  by_cases h1 : i = 0 <;> by_cases h2 : j = 0 <;> simp [h1, h2, Nat.add_assoc]
theorem By.cut {w : World} {A : Option Addr} {n : Nat} {l : List Int} (h : By w A n l) {k m : Nat} (hk : k ≤ n) (hm : n ≤ m) : By w (cutA A k m 1) (n - k) (l.drop k) := by
  refine ⟨by rw [List.length_drop, h.1], fun hp => ?_⟩
  obtain ⟨a, rfl, hc⟩ := h.2 (by omega)
  have e : cutA (some a) k m 1 = some (a.add k) := by
    unfold cutA
    rw [if_neg (by omega)]
    simp [mulS]
  refine ⟨_, e, fun i hi => ?_⟩
  rw [add_add, hc (k + i) (by omega)]
  simp [List.getD_eq_getElem?_getD, List.getElem?_drop]
theorem By.mid {w : World} {A : Option Addr} {n : Nat} {l : List Int} (h : By w A n l) {k j m : Nat} (hk : k ≤ j) (hj : j ≤ n) (hm : n ≤ m) : By w (cutA A k m 1) (j - k) ((l.take j).drop k) := (h.take hj).cut hk (by omega)

/-- Not in memory that stood. -/
def Fre (w : World) (A : Option Addr) : Prop := ∀ a, A = some a → w.heap.size ≤ a.block
theorem Fre.nil (w : World) : Fre w none := fun a h => by cases h
theorem Fre.mk {w : World} {g o : Nat} (h : w.heap.size ≤ g) : Fre w (some ⟨g, o, none⟩) := fun a e => by injection e with e; subst e; exact h
theorem Fre.le {w w' : World} {A : Option Addr} (h : Fre w' A) (k : Bel w w') : Fre w A := fun a e => Nat.le_trans k.size (h a e)
theorem By.but1 {w w' : World} {A : Option Addr} {n g : Nat} {l : List Int} (h : By w A n l) (k : But g w w') (hg : 0 < n → ∀ a, A = some a → a.block ≠ g) : By w' A n l := by
  refine ⟨h.1, fun hn => ?_⟩
  obtain ⟨a, e, hc⟩ := h.2 hn
  refine ⟨a, e, fun i hi => ?_⟩
  have hb : ∀ j, (a.add j).block = a.block := fun j => by unfold Addr.add; split <;> rfl
  have hlt := World.block_lt_of_cell? w _ (hc i hi)
  exact (World.cell?_of_block (w := w) (k.block _ hlt (by rw [hb]; exact hg hn a e))).trans (hc i hi)
theorem By.but {w w' : World} {A : Option Addr} {n g : Nat} {l : List Int} (h : By w A n l) (k : But g w w') (hg : ∀ a, A = some a → a.block ≠ g) : By w' A n l := h.but1 k fun _ => hg
/-- What is read lies in memory that stands. -/
theorem By.newer {w : World} {A : Option Addr} {n g : Nat} {l : List Int} (h : By w A n l) (hg : w.heap.size ≤ g) : 0 < n → ∀ a, A = some a → a.block ≠ g := fun hn a e => by
  obtain ⟨b, e2, hc⟩ := h.2 hn
  rw [e] at e2
  injection e2 with e2
  subst e2
  have := World.block_lt_of_cell? w _ (hc 0 hn)
  rw [addr_add_zero] at this
  omega

/-! ### a region that draws -/
theorem draws {w : World} {K : (World → Prop) → World → Prop} (S : World → Prop) (hS : S w.drew) (h : ∀ w2, w2 = w.drew → K S w2) : ∃ S : World → Prop, S w.drew ∧ Let w.drew (K S) := ⟨S, hS, h _ rfl⟩
/-- One that only reads what stood. -/
theorem drawsR {w : World} {K : (World → Prop) → World → Prop} (h : ∀ w2, Bel w w2 → K (fun w' => Bel w w') w2) : ∃ S : World → Prop, S w.drew ∧ Let w.drew (K S) := ⟨_, (Bel.refl w).drew, h _ (Bel.refl w).drew⟩

/-! ### memory of one's own -/
/-- What stood in w is as it was; these blocks came since, each with these cells. -/
structure Own (w w' : World) (L : List (Nat × TypeId × List Value)) : Prop where
  bel : Bel w w'
  own : ∀ (k g : Nat) (t : TypeId) (l : List Value), L[k]? = some (g, t, l) → Bk w' g t l ∧ w.heap.size ≤ g
  one : (L.map Prod.fst).Nodup
theorem Own.refl (w : World) : Own w w [] := ⟨Bel.refl w, fun k g t l h => by simp at h, by simp⟩
theorem Own.call {w a b : World} {L : List (Nat × TypeId × List Value)} (h : Own w a L) (k : Bel a b) : Own w b L :=
  ⟨h.bel.trans k, fun i g t l hi => ⟨(h.own i g t l hi).1.bel k, (h.own i g t l hi).2⟩, h.one⟩
theorem Own.drew {w a : World} {L : List (Nat × TypeId × List Value)} (h : Own w a L) : Own w a.drew L := h.call (Bel.refl a).drew
theorem Own.new {w a : World} {L : List (Nat × TypeId × List Value)} (h : Own w a L) (t : TypeId) (l : List Value) : Own w (a.alloc (.cells l.toArray t)) ((a.heap.size, t, l) :: L) := by
  refine ⟨h.bel.alloc _, fun k g t' l' hk => ?_, ?_⟩
  · cases k with
    | zero =>
      simp only [List.getElem?_cons_zero, Option.some.injEq, Prod.mk.injEq] at hk
      obtain ⟨rfl, rfl, rfl⟩ := hk
      exact ⟨Bk.new a _ _, h.bel.size⟩
    | succ k =>
      have := h.own k g t' l' (by simpa using hk)
      exact ⟨this.1.bel ((Bel.refl a).alloc _), this.2⟩
  · simp only [List.map_cons, List.nodup_cons]
    refine ⟨fun hm => ?_, h.one⟩
    obtain ⟨p, hp, e⟩ := List.mem_map.1 hm
    obtain ⟨k, hk⟩ := List.mem_iff_getElem?.1 hp
    have := (h.own k p.1 p.2.1 p.2.2 hk).1.lt
    omega
theorem Own.bk {w a : World} {L : List (Nat × TypeId × List Value)} (h : Own w a L) (k : Nat) {g : Nat} {t : TypeId} {l : List Value} (hk : L[k]? = some (g, t, l)) : Bk a g t l := (h.own k g t l hk).1
theorem Own.ge {w a : World} {L : List (Nat × TypeId × List Value)} (h : Own w a L) (k : Nat) {g : Nat} {t : TypeId} {l : List Value} (hk : L[k]? = some (g, t, l)) : w.heap.size ≤ g := (h.own k g t l hk).2
theorem Own.ne {w a : World} {L : List (Nat × TypeId × List Value)} (h : Own w a L) {i j : Nat} {p q : Nat × TypeId × List Value} (hi : L[i]? = some p) (hj : L[j]? = some q) (hij : i ≠ j) : p.1 ≠ q.1 := by
  intro e
  have h1 : (L.map Prod.fst)[i]? = some p.1 := by simp [hi]
  have h2 : (L.map Prod.fst)[j]? = some q.1 := by simp [hj]
  have hli := (List.getElem?_eq_some_iff.1 h1).1
  exact hij ((List.getElem?_inj hli h.one).1 (by rw [h1, h2, e]))
/-- One block is written. -/
theorem Own.over {w a b : World} {L : List (Nat × TypeId × List Value)} (h : Own w a L) (k : Nat) {g : Nat} {t : TypeId} {l l' : List Value} (hk : L[k]? = some (g, t, l)) (hb : But g a b) (hn : Bk b g t l') : Own w b (L.set k (g, t, l')) := by
  have hkl := (List.getElem?_eq_some_iff.1 hk).1
  refine ⟨But.bel h.bel (h.ge k hk) hb, fun i g' t' x hi => ?_, ?_⟩
  · by_cases e : k = i
    · subst e
      rw [List.getElem?_set_self hkl] at hi
      injection hi with hi
      injection hi with h1 h2
      injection h2 with h2 h3
      subst h1 h2 h3
      exact ⟨hn, h.ge k hk⟩
    · rw [List.getElem?_set_ne e] at hi
      exact ⟨(h.bk i hi).but hb (h.ne hi hk (Ne.symm e)), h.ge i hi⟩
  · have : (L.set k (g, t, l')).map Prod.fst = L.map Prod.fst := by
      rw [List.map_set]
      have hq : (L.map Prod.fst)[k]? = some g := by simp [hk]
      have := (List.getElem?_eq_some_iff.1 hq).2
      conv => rhs; rw [← List.set_getElem_self (as := L.map Prod.fst) (i := k) (by simpa using hkl)]
      rw [this]
    rw [this]
    exact h.one
theorem Own.less {w a : World} {L M : List (Nat × TypeId × List Value)} (h : Own w a (L ++ M)) : Own w a M :=
  ⟨h.bel, fun k g t l hk => h.own (L.length + k) g t l (by rw [List.getElem?_append_right (by omega)]; simpa using hk), by
    have := h.one
    rw [List.map_append] at this
    exact (List.nodup_append.1 this).2.1⟩
theorem Own.tail {w a : World} {p : Nat × TypeId × List Value} {M : List (Nat × TypeId × List Value)} (h : Own w a (p :: M)) : Own w a M := Own.less (L := [p]) h
theorem Own.cell {w a : World} {L : List (Nat × TypeId × List Value)} (h : Own w a L) (k i : Nat) {g : Nat} {t : TypeId} {l : List Value} {v : Value} (hk : L[k]? = some (g, t, l)) (hv : l[i]? = some v) : a.cell? ⟨g, i, none⟩ = some v := (h.bk k hk).cell i hv

section
variable {w a : World} {L : List (Nat × TypeId × List Value)}
/-- The goal's next step makes a block. -/
theorem own_new {t : TypeId} {l : List Value} {K : Nat → World → Prop} (h : Own w a L) (hk : ∀ g w1, Own w w1 ((g, t, l) :: L) → K g w1) : Let a.heap.size fun g => Let (a.alloc (.cells l.toArray t)) (K g) := hk _ _ (h.new t l)
theorem own_newB {t : TypeId} {l : List Value} {K : Nat → World → Prop} (h : Own w a L) (hk : ∀ g w1, Own w w1 ((g, t, l) :: L) → Bel a w1 → K g w1) : Let a.heap.size fun g => Let (a.alloc (.cells l.toArray t)) (K g) := hk _ _ (h.new t l) ((Bel.refl a).alloc _)
theorem own_newC {t : TypeId} {l : List Value} {K : Nat → World → Prop} (h : Own w a L) (hk : ∀ g w1, Own w w1 ((g, t, l) :: L) → Bel a w1 → a.heap.size ≤ g → K g w1) : Let a.heap.size fun g => Let (a.alloc (.cells l.toArray t)) (K g) := hk _ _ (h.new t l) ((Bel.refl a).alloc _) (Nat.le_refl _)
/-- .. writes a cell. -/
theorem own_set (k : Nat) {g i : Nat} {t : TypeId} {l : List Value} {v : Value} {K : World → Prop} (h : Own w a L) (hk : L[k]? = some (g, t, l)) (hi : i < l.length) (hn : ∀ w1, Own w w1 (L.set k (g, t, l.set i v)) → K w1) :
    MayC a ⟨g, i, none⟩ ∧ Let (a.setCell ⟨g, i, none⟩ v) K :=
  ⟨(h.bk k hk).may hi, hn _ (h.over k hk (But.set a g i v) ((h.bk k hk).set i v))⟩
theorem own_setB (k : Nat) {g i : Nat} {t : TypeId} {l : List Value} {v : Value} {K : World → Prop} (h : Own w a L) (hk : L[k]? = some (g, t, l)) (hi : i < l.length) (hn : ∀ w1, Own w w1 (L.set k (g, t, l.set i v)) → But g a w1 → K w1) :
    MayC a ⟨g, i, none⟩ ∧ Let (a.setCell ⟨g, i, none⟩ v) K :=
  ⟨(h.bk k hk).may hi, hn _ (h.over k hk (But.set a g i v) ((h.bk k hk).set i v)) (But.set a g i v)⟩
/-- .. writes several. -/
theorem own_put (k : Nat) {g o n : Nat} {t : TypeId} {l vs : List Value} {K : World → Prop} (h : Own w a L) (hk : L[k]? = some (g, t, l)) (hn : vs.length = n) (hi : o + n ≤ l.length) (hw : ∀ w1, Own w w1 (L.set k (g, t, splice l o vs)) → K w1) :
    May a ⟨g, o, none⟩ n ∧ Let (putCells a ⟨g, o, none⟩ vs 0) K := by
  have hp := Bk.put (t := t) (o := o) vs a l 0 (h.bk k hk) (by omega)
  rw [Nat.add_zero] at hp
  exact ⟨(h.bk k hk).mayN hi, hw _ (h.over k hk hp.2 hp.1)⟩
theorem own_putB (k : Nat) {g o n : Nat} {t : TypeId} {l vs : List Value} {K : World → Prop} (h : Own w a L) (hk : L[k]? = some (g, t, l)) (hn : vs.length = n) (hi : o + n ≤ l.length) (hw : ∀ w1, Own w w1 (L.set k (g, t, splice l o vs)) → But g a w1 → K w1) :
    May a ⟨g, o, none⟩ n ∧ Let (putCells a ⟨g, o, none⟩ vs 0) K := by
  have hp := Bk.put (t := t) (o := o) vs a l 0 (h.bk k hk) (by omega)
  rw [Nat.add_zero] at hp
  exact ⟨(h.bk k hk).mayN hi, hw _ (h.over k hk hp.2 hp.1) hp.2⟩
theorem Own.old {w a : World} {L : List (Nat × TypeId × List Value)} (h : Own w a L) (k : Nat) {p : Nat × TypeId × List Value} (hk : L[k]? = some p) {A : Option Addr} (hf : Fre a A) : ∀ b, A = some b → b.block ≠ p.1 := fun b e he => by
  have := (h.bk k (g := p.1) (t := p.2.1) (l := p.2.2) hk).lt
  have := hf b e
  omega
end

/-! ### append, copy -/
theorem bv_rep (n : Nat) : List.replicate n (Value.int .u8 0) = bv (List.replicate n 0) := by simp [bv]
theorem bv_app (a b : List Int) : bv a ++ bv b = bv (a ++ b) := by simp [bv]
theorem bv_splice (l vs : List Int) (o : Nat) : splice (bv l) o (bv vs) = bv (splice l o vs) := by simp [splice, bv]
theorem bv_set (l : List Int) (i : Nat) (x : Int) : (bv l).set i (.int .u8 x) = bv (l.set i x) := by simp [bv]
theorem zero_bytes (n : Nat) : Builtin.zeroCells #[.int .u8 0] n = (bv (List.replicate n 0)).toArray := by
  apply Array.ext
  · simp [Builtin.zeroCells, bv]
  · intro i h1 h2
    simp [Builtin.zeroCells, bv, Nat.mod_one]
theorem cut0 (g k m : Nat) (h : k < m) : cutA (some ⟨g, 0, none⟩) k m 1 = some ⟨g, k, none⟩ := by
  unfold cutA
  rw [if_neg (by omega)]
  simp [mulS, add_blk]
section
variable {w a : World} {L : List (Nat × TypeId × List Value)}
theorem copy_nil {D A : Option Addr} {sn dn : Nat} {K : World → Prop} (h : sn = 0 ∨ dn = 0) (k : K a) : CopyE a D dn A sn K := by
  refine ⟨[], by simp; omega, rfl, fun h => by simp at h, fun h => by simp at h, ?_⟩
  have : putO a D [] = a := by cases D <;> rfl
  rw [this]
  exact k
/-- A copy into one's own block. -/
theorem own_copy (k : Nat) {g o dn sn : Nat} {t : TypeId} {l : List Value} {A : Option Addr} {b : List Int} {K : World → Prop} (h : Own w a L) (hk : L[k]? = some (g, t, l)) (hb : By a A sn b) (hl : o + min sn dn ≤ l.length)
    (hn : ∀ w1, Own w w1 (L.set k (g, t, splice l o (bv (b.take (min sn dn))))) → K w1) : CopyE a (some ⟨g, o, none⟩) dn A sn K := by
  have hlen := hb.len
  have hv : (bv (b.take (min sn dn))).length = min sn dn := by simp [bv]; omega
  refine ⟨bv (b.take (min sn dn)), hv, bv_one _, (hb.take (Nat.min_le_left ..)).at, fun _ => ⟨_, rfl, (h.bk k hk).mayN (by omega)⟩, ?_⟩
  have hp := Bk.put (t := t) (o := o) (bv (b.take (min sn dn))) a l 0 (h.bk k hk) (by omega)
  rw [Nat.add_zero] at hp
  exact hn _ (h.over k hk hp.2 hp.1)
/-- An append to nothing, or to a full slice. -/
theorem app_full {A B : Option Addr} {n c m : Nat} {b0 b : List Int} {K : Option Addr → Nat → World → Prop} (h : Own w a L) (ha : By a A n b0) (hc : n = c) (hb : By a B m b) (hm : n + m ≤ 100000000000000)
    (h0 : m = 0 → K A c a) (h1 : ∀ g cap a', n + m ≤ cap ∧ cap ≤ 9223372036854775807 → Bel a a' → a.heap.size ≤ g → Own w a' ((g, 5, bv (b0 ++ b ++ List.replicate (cap - (n + m)) 0)) :: L) → K (some ⟨g, 0, none⟩) cap a') : AppE a 1 1 5 [.int .u8 0] A n c B m K := by
  have l0 := ha.len
  have lb := hb.len
  refine ⟨bv b, by rw [bv_len]; omega, bv_one _, hb.at, fun hle => ?_, fun hlt => ⟨bv b0, by rw [bv_len]; omega, ha.at, ⟨by omega, by omega⟩, fun cap h2 h3 => ?_⟩⟩
  · have hb0 : b = [] := List.eq_nil_of_length_eq_zero (by omega)
    subst hb0
    refine ⟨fun h => by simp [bv] at h, ?_⟩
    have : ∀ D, putO a D (bv []) = a := fun D => by cases D <;> rfl
    rw [this]
    exact h0 (by omega)
  · refine h1 _ cap _ ⟨h2, h3⟩ ((Bel.refl a).drew.alloc _) (Nat.le_refl _) ?_
    have e : ((bv b0).toArray ++ (bv b).toArray ++ Builtin.zeroCells #[.int .u8 0] (cap - (n + m))) = (bv (b0 ++ b ++ List.replicate (cap - (n + m)) 0)).toArray := by
      rw [zero_bytes]
      simp [bv]
    have e2 : a.drew.alloc (.cells ((bv b0).toArray ++ (bv b).toArray ++ Builtin.zeroCells [Value.int .u8 0].toArray (cap - (n + m))) 5) = a.drew.alloc (.cells (bv (b0 ++ b ++ List.replicate (cap - (n + m)) 0)).toArray 5) := congrArg (fun x => a.drew.alloc (.cells x 5)) e
    rw [e2]
    exact h.drew.new 5 _
/-- All the room of a list lies in a block of bytes. -/
def Rm (w : World) (A : Option Addr) (c : Nat) : Prop := (A = none ∧ c = 0) ∨ ∃ g f X, A = some ⟨g, f, none⟩ ∧ Bk w g 5 (bv X) ∧ (f + c ≤ X.length ∧ c ≤ 9223372036854775807)
theorem Rm.nil (w : World) : Rm w none 0 := Or.inl ⟨rfl, rfl⟩
theorem Rm.le {w : World} {A : Option Addr} {c : Nat} (h : Rm w A c) : c ≤ 9223372036854775807 := by
  rcases h with ⟨_, rfl⟩ | ⟨_, _, _, _, _, h⟩
  · exact Nat.zero_le _
  · exact h.2
theorem Rm.bel {w w' : World} {A : Option Addr} {c : Nat} (h : Rm w A c) (k : Bel w w') : Rm w' A c := by
  rcases h with h | ⟨g, f, X, e, hb, hl⟩
  · exact Or.inl h
  · exact Or.inr ⟨g, f, X, e, hb.bel k, hl⟩
theorem Rm.but {w w' : World} {A : Option Addr} {c g : Nat} (h : Rm w A c) (k : But g w w') (hg : ∀ a, A = some a → a.block ≠ g) : Rm w' A c := by
  rcases h with h | ⟨g', f, X, e, hb, hl⟩
  · exact Or.inl h
  · exact Or.inr ⟨g', f, X, e, hb.but k (hg _ e), hl⟩
/-- Two lists' rooms; in one block the one lies behind the other. -/
structure Rm2 (w : World) (A : Option Addr) (c : Nat) (B : Option Addr) (d : Nat) : Prop where
  a : Rm w A c
  b : Rm w B d
  ap : ∀ x y, A = some x → B = some y → x.block = y.block → x.off + c ≤ y.off ∨ d = 0
theorem Rm2.bel {w w' : World} {A B : Option Addr} {c d : Nat} (h : Rm2 w A c B d) (k : Bel w w') : Rm2 w' A c B d := ⟨h.a.bel k, h.b.bel k, h.ap⟩
theorem Rm2.but {w w' : World} {A B : Option Addr} {c d g : Nat} (h : Rm2 w A c B d) (k : But g w w') (ha : ∀ a, A = some a → a.block ≠ g) (hb : ∀ a, B = some a → a.block ≠ g) : Rm2 w' A c B d := ⟨h.a.but k ha, h.b.but k hb, h.ap⟩
theorem Rm2.none {w : World} {B : Option Addr} {d : Nat} (h : Rm w B d) : Rm2 w none 0 B d := ⟨Rm.nil w, h, fun x y e => by cases e⟩
/-- .. of which one asks the bytes alone. -/
theorem app_byR {A B : Option Addr} {n c m : Nat} {b0 b : List Int} {K : Option Addr → Nat → World → Prop} (h : Own w a L) (ha : By a A n b0) (hc : n = c) (hb : By a B m b) (hm : n + m ≤ 100000000000000)
    (h1 : ∀ A' cap a', n + m ≤ cap → Own w a' L → Bel a a' → By a' A' (n + m) (b0 ++ b) → ((A' = A ∧ cap = c) ∨ (Fre a A' ∧ Rm a' A' cap)) → K A' cap a') : AppE a 1 1 5 [.int .u8 0] A n c B m K := by
  have l0 := ha.len
  have lb := hb.len
  refine app_full h ha hc hb hm (fun e => ?_) fun g cap a' h2 k2 hg H => ?_
  · have hb0 : b = [] := List.eq_nil_of_length_eq_zero (by omega)
    subst hb0
    subst e
    exact h1 A c a (by omega) h (Bel.refl a) (by simpa using ha) (Or.inl ⟨rfl, rfl⟩)
  · refine h1 _ cap a' h2.1 H.tail k2 ?_ (Or.inr ⟨Fre.mk hg, Or.inr ⟨_, _, _, rfl, H.bk 0 rfl, by rw [List.length_append, List.length_append, List.length_replicate]; omega, h2.2⟩⟩)
    have := (H.bk 0 rfl).by.take (k := n + m) (by simp; omega)
    rwa [List.take_append_of_le_length (by simp; omega), List.take_of_length_le (by simp; omega)] at this
theorem app_by {A B : Option Addr} {n c m : Nat} {b0 b : List Int} {K : Option Addr → Nat → World → Prop} (h : Own w a L) (ha : By a A n b0) (hc : n = c) (hb : By a B m b) (hm : n + m ≤ 100000000000000)
    (h1 : ∀ A' cap a', n + m ≤ cap → Own w a' L → Bel a a' → By a' A' (n + m) (b0 ++ b) → (A' = A ∨ Fre a A') → K A' cap a') : AppE a 1 1 5 [.int .u8 0] A n c B m K :=
  app_byR h ha hc hb hm fun A' cap a' g1 g2 g3 g4 g5 => h1 A' cap a' g1 g2 g3 g4 (g5.imp And.left And.left)
end

/-! ### a header's record -/
def hv (a0 a1 : Int) (a2 a3 : Bool) (a4 a5 a6 a7 a8 : Int) (A : Option Addr) (n c : Nat) : List Value := [.int .u8 a0, .int .u16 a1, .bool a2, .bool a3, .int .i64 a4, .int .u8 a5, .int .u8 a6, .int .u32 a7, .int .u32 a8, .slice A n c]
def hz : List Value := hv 0 0 false false 0 0 0 0 0 none 0 0
theorem ld_head {w : World} {g : Nat} {t : TypeId} {a0 a1 : Int} {a2 a3 : Bool} {a4 a5 a6 a7 a8 : Int} {A : Option Addr} {n c : Nat} (h : Bk w g t (hv a0 a1 a2 a3 a4 a5 a6 a7 a8 A n c))
    {K : Int → Int → Bool → Bool → Int → Int → Int → Int → Int → Option Addr → Nat → Nat → Prop} (k : K a0 a1 a2 a3 a4 a5 a6 a7 a8 A n c) :
    ∃ x0 : Int, ∃ x1 : Int, ∃ x2 : Bool, ∃ x3 : Bool, ∃ x4 : Int, ∃ x5 : Int, ∃ x6 : Int, ∃ x7 : Int, ∃ x8 : Int, ∃ (B : Option Addr) (m d : Nat),
      (10 = 10 ∧ At w ⟨g, 0, none⟩ [.int .u8 x0, .int .u16 x1, .bool x2, .bool x3, .int .i64 x4, .int .u8 x5, .int .u8 x6, .int .u32 x7, .int .u32 x8, .slice B m d]) ∧ K x0 x1 x2 x3 x4 x5 x6 x7 x8 B m d :=
  ⟨_, _, _, _, _, _, _, _, _, _, _, _, ⟨rfl, h.at⟩, k⟩

theorem ld_head10 {w : World} {g : Nat} {t : TypeId} {a0 a1 : Int} {a2 a3 : Bool} {a4 a5 a6 a7 a8 : Int} {A : Option Addr} {n c : Nat} {l : List Value} (h : Bk w g t (hv a0 a1 a2 a3 a4 a5 a6 a7 a8 A n c ++ l))
    {K : Int → Int → Bool → Bool → Int → Int → Int → Int → Int → Option Addr → Nat → Nat → Prop} (k : K a0 a1 a2 a3 a4 a5 a6 a7 a8 A n c) :
    ∃ x0 : Int, ∃ x1 : Int, ∃ x2 : Bool, ∃ x3 : Bool, ∃ x4 : Int, ∃ x5 : Int, ∃ x6 : Int, ∃ x7 : Int, ∃ x8 : Int, ∃ (B : Option Addr) (m d : Nat),
      (10 = 10 ∧ At w ⟨g, 0, none⟩ [.int .u8 x0, .int .u16 x1, .bool x2, .bool x3, .int .i64 x4, .int .u8 x5, .int .u8 x6, .int .u32 x7, .int .u32 x8, .slice B m d]) ∧ K x0 x1 x2 x3 x4 x5 x6 x7 x8 B m d := by
  refine ⟨_, _, _, _, _, _, _, _, _, _, _, _, ⟨rfl, fun j u hu => ?_⟩, k⟩
  have hj : j < 10 := (List.getElem?_eq_some_iff.1 hu).1
  rw [add_blk, Nat.zero_add]
  refine h.cell j ?_
  rw [List.getElem?_append_left hj]
  exact hu
/-- .. a packet's record .. -/
theorem ld_pkt {w : World} {g : Nat} {t : TypeId} {a0 a1 : Int} {a2 a3 : Bool} {a4 a5 a6 a7 a8 : Int} {A : Option Addr} {n c : Nat} {B : Option Addr} {m d : Nat} (h : Bk w g t (hv a0 a1 a2 a3 a4 a5 a6 a7 a8 A n c ++ [.slice B m d]))
    {K : Int → Int → Bool → Bool → Int → Int → Int → Int → Int → Option Addr → Nat → Nat → Option Addr → Nat → Nat → Prop} (k : K a0 a1 a2 a3 a4 a5 a6 a7 a8 A n c B m d) :
    ∃ x0 : Int, ∃ x1 : Int, ∃ x2 : Bool, ∃ x3 : Bool, ∃ x4 : Int, ∃ x5 : Int, ∃ x6 : Int, ∃ x7 : Int, ∃ x8 : Int, ∃ (C : Option Addr) (i j : Nat), ∃ (D : Option Addr) (i' j' : Nat),
      (11 = 11 ∧ At w ⟨g, 0, none⟩ [.int .u8 x0, .int .u16 x1, .bool x2, .bool x3, .int .i64 x4, .int .u8 x5, .int .u8 x6, .int .u32 x7, .int .u32 x8, .slice C i j, .slice D i' j']) ∧ K x0 x1 x2 x3 x4 x5 x6 x7 x8 C i j D i' j' :=
  ⟨_, _, _, _, _, _, _, _, _, _, _, _, _, _, _, ⟨rfl, h.at⟩, k⟩
/-- .. a message's record -/
def mv (a0 a1 a2 : Int) (A : Option Addr) (n c : Nat) : List Value := [.int .u8 a0, .int .u8 a1, .int .u32 a2, .slice A n c]
theorem ld_msg {w : World} {g : Nat} {t : TypeId} {a0 a1 a2 : Int} {A : Option Addr} {n c : Nat} (h : Bk w g t (mv a0 a1 a2 A n c)) {K : Int → Int → Int → Option Addr → Nat → Nat → Prop} (k : K a0 a1 a2 A n c) :
    ∃ x0 : Int, ∃ x1 : Int, ∃ x2 : Int, ∃ (C : Option Addr) (i j : Nat), (4 = 4 ∧ At w ⟨g, 0, none⟩ [.int .u8 x0, .int .u8 x1, .int .u32 x2, .slice C i j]) ∧ K x0 x1 x2 C i j :=
  ⟨_, _, _, _, _, _, ⟨rfl, h.at⟩, k⟩

section
variable {w a : World} {L : List (Nat × TypeId × List Value)}
/-- The goal's next step writes a record over and reads it back. -/
theorem put_pkt (k : Nat) {g : Nat} {t : TypeId} {l : List Value} (h : Own w a L) (hk : L[k]? = some (g, t, l)) (hl : l.length = 11) {a0 a1 : Int} {a2 a3 : Bool} {a4 a5 a6 a7 a8 : Int} {A : Option Addr} {n c : Nat} {B : Option Addr} {m d : Nat}
    {K : World → Int → Int → Bool → Bool → Int → Int → Int → Int → Int → Option Addr → Nat → Nat → Option Addr → Nat → Nat → Prop}
    (hK : ∀ w1, Own w w1 (L.set k (g, t, hv a0 a1 a2 a3 a4 a5 a6 a7 a8 A n c ++ [.slice B m d])) → But g a w1 → K w1 a0 a1 a2 a3 a4 a5 a6 a7 a8 A n c B m d) :
    May a ⟨g, 0, none⟩ 11 ∧ Let (putCells a ⟨g, 0, none⟩ [.int .u8 a0, .int .u16 a1, .bool a2, .bool a3, .int .i64 a4, .int .u8 a5, .int .u8 a6, .int .u32 a7, .int .u32 a8, .slice A n c, .slice B m d] 0) fun w1 =>
      ∃ x0 : Int, ∃ x1 : Int, ∃ x2 : Bool, ∃ x3 : Bool, ∃ x4 : Int, ∃ x5 : Int, ∃ x6 : Int, ∃ x7 : Int, ∃ x8 : Int, ∃ (C : Option Addr) (i j : Nat), ∃ (D : Option Addr) (i' j' : Nat),
      (11 = 11 ∧ At w1 ⟨g, 0, none⟩ [.int .u8 x0, .int .u16 x1, .bool x2, .bool x3, .int .i64 x4, .int .u8 x5, .int .u8 x6, .int .u32 x7, .int .u32 x8, .slice C i j, .slice D i' j']) ∧ K w1 x0 x1 x2 x3 x4 x5 x6 x7 x8 C i j D i' j' := by
  refine own_putB k h hk rfl (by omega) fun w1 H hb => ?_
  rw [splice_all _ _ (by rw [hl]; rfl)] at H
  have hkl := (List.getElem?_eq_some_iff.1 hk).1
  exact ld_pkt (H.bk k (List.getElem?_set_self hkl)) (hK w1 H hb)
theorem put_head (k : Nat) {g : Nat} {t : TypeId} {l : List Value} (h : Own w a L) (hk : L[k]? = some (g, t, l)) (hl : l.length = 10) {a0 a1 : Int} {a2 a3 : Bool} {a4 a5 a6 a7 a8 : Int} {A : Option Addr} {n c : Nat}
    {K : World → Int → Int → Bool → Bool → Int → Int → Int → Int → Int → Option Addr → Nat → Nat → Prop}
    (hK : ∀ w1, Own w w1 (L.set k (g, t, hv a0 a1 a2 a3 a4 a5 a6 a7 a8 A n c)) → But g a w1 → K w1 a0 a1 a2 a3 a4 a5 a6 a7 a8 A n c) :
    May a ⟨g, 0, none⟩ 10 ∧ Let (putCells a ⟨g, 0, none⟩ [.int .u8 a0, .int .u16 a1, .bool a2, .bool a3, .int .i64 a4, .int .u8 a5, .int .u8 a6, .int .u32 a7, .int .u32 a8, .slice A n c] 0) fun w1 =>
      ∃ x0 : Int, ∃ x1 : Int, ∃ x2 : Bool, ∃ x3 : Bool, ∃ x4 : Int, ∃ x5 : Int, ∃ x6 : Int, ∃ x7 : Int, ∃ x8 : Int, ∃ (C : Option Addr) (i j : Nat),
      (10 = 10 ∧ At w1 ⟨g, 0, none⟩ [.int .u8 x0, .int .u16 x1, .bool x2, .bool x3, .int .i64 x4, .int .u8 x5, .int .u8 x6, .int .u32 x7, .int .u32 x8, .slice C i j]) ∧ K w1 x0 x1 x2 x3 x4 x5 x6 x7 x8 C i j := by
  refine own_putB k h hk rfl (by omega) fun w1 H hb => ?_
  rw [splice_all _ _ (by rw [hl]; rfl)] at H
  have hkl := (List.getElem?_eq_some_iff.1 hk).1
  exact ld_head (H.bk k (List.getElem?_set_self hkl)) (hK w1 H hb)
theorem put_msg (k : Nat) {g : Nat} {t : TypeId} {l : List Value} (h : Own w a L) (hk : L[k]? = some (g, t, l)) (hl : l.length = 4) {a0 a1 a2 : Int} {A : Option Addr} {n c : Nat} {K : World → Int → Int → Int → Option Addr → Nat → Nat → Prop}
    (hK : ∀ w1, Own w w1 (L.set k (g, t, mv a0 a1 a2 A n c)) → But g a w1 → K w1 a0 a1 a2 A n c) :
    May a ⟨g, 0, none⟩ 4 ∧ Let (putCells a ⟨g, 0, none⟩ [.int .u8 a0, .int .u8 a1, .int .u32 a2, .slice A n c] 0) fun w1 =>
      ∃ x0 : Int, ∃ x1 : Int, ∃ x2 : Int, ∃ (C : Option Addr) (i j : Nat), (4 = 4 ∧ At w1 ⟨g, 0, none⟩ [.int .u8 x0, .int .u8 x1, .int .u32 x2, .slice C i j]) ∧ K w1 x0 x1 x2 C i j := by
  refine own_putB k h hk rfl (by omega) fun w1 H hb => ?_
  rw [splice_all _ _ (by rw [hl]; rfl)] at H
  have hkl := (List.getElem?_eq_some_iff.1 hk).1
  exact ld_msg (H.bk k (List.getElem?_set_self hkl)) (hK w1 H hb)
/-- The second block is forgotten. -/
theorem Own.drop1 {p q : Nat × TypeId × List Value} {M : List (Nat × TypeId × List Value)} (h : Own w a (p :: q :: M)) : Own w a (p :: M) := by
  refine ⟨h.bel, fun k g t l hk => ?_, ?_⟩
  · cases k with
    | zero => exact h.own 0 g t l hk
    | succ k => exact h.own (k + 2) g t l (by simpa using hk)
  · have := h.one
    simp only [List.map_cons, List.nodup_cons, List.mem_cons, not_or] at this ⊢
    exact ⟨this.1.2, this.2.2⟩
/-- An append to a full block of one's own. -/
theorem app_own {B : Option Addr} {g n m : Nat} {b0 b : List Int} {M : List (Nat × TypeId × List Value)} {K : Option Addr → Nat → World → Prop} (h : Own w a ((g, 5, bv b0) :: M)) (hc : b0.length = n) (hb : By a B m b) (hm : n + m ≤ 100000000000000)
    (h1 : ∀ g' cap a', n + m ≤ cap ∧ cap ≤ 9223372036854775807 → Own w a' ((g', 5, bv (b0 ++ b ++ List.replicate (cap - (n + m)) 0)) :: M) → K (some ⟨g', 0, none⟩) cap a') : AppE a 1 1 5 [.int .u8 0] (some ⟨g, 0, none⟩) n n B m K := by
  have lb := hb.len
  subst hc
  refine app_full h (h.bk 0 rfl).by rfl hb hm (fun e => ?_) fun g' cap a' h2 k2 hg H => h1 g' cap a' h2 H.drop1
  have e2 : b = [] := List.eq_nil_of_length_eq_zero (by omega)
  subst e2
  subst e
  refine h1 g _ a (by omega) ?_
  simpa using h
end

/-! ### numbers -/
theorem w64 {i : Int} (h0 : -9223372036854775808 ≤ i) (h1 : i ≤ 9223372036854775807) : IntKind.i64.wrap i = i := by
  rw [IntKind.wrap_i64]; omega
theorem w8 {i : Int} (h0 : 0 ≤ i) (h1 : i ≤ 255) : IntKind.u8.wrap i = i := by rw [IntKind.wrap_u8]; omega
theorem w16 {i : Int} (h0 : 0 ≤ i) (h1 : i ≤ 65535) : IntKind.u16.wrap i = i := u16_small h0 h1
theorem w32 {i : Int} (h0 : 0 ≤ i) (h1 : i ≤ 4294967295) : IntKind.u32.wrap i = i := by rw [IntKind.wrap_u32]; omega
theorem wu64 {i : Int} (h0 : 0 ≤ i) (h1 : i ≤ 18446744073709551615) : IntKind.u64.wrap i = i := u64_small h0 h1
theorem fd (x : Int) {b : Int} (h : 0 ≤ b) : Int.fdiv x b = x / b := Int.fdiv_eq_ediv_of_nonneg x h
theorem td {x b : Int} (h : 0 ≤ x) : Int.tdiv x b = x / b := Int.tdiv_eq_ediv_of_nonneg h
theorem tm {x b : Int} (h : 0 ≤ x) : Int.tmod x b = x % b := Int.tmod_eq_emod_of_nonneg h
end Go.Proofs.YtphbdmafchjjeaaDoorS
