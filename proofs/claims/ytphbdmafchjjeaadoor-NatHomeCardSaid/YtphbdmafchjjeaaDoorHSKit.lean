/- A small walker of its own: what a piece of code comes to, told as a plain statement that the kernel itself computes out of the code.
   Conditions: none; every theorem here speaks of any program. -/
import Derived.Deep.RegionHeld3
import Derived.Laws.AppendOwn
import Derived.Laws.MakeOwn
import Derived.Laws.IdiomCopy
import Derived.Below
import Derived.ChangeKeysEq
import Derived.KernelRfl
namespace Go.Proofs.YtphbdmafchjjeaaDoorS
open Go

/-! ### slots as a list -/
abbrev St := List Value
def act (s : St) : Act := ⟨s.toArray, []⟩
abbrev ev (s : St) : Operand → Value
  | .tmp t => s.getD t undef
  | .const v => v
  | .global g => .pointer (some ⟨g, 0, none⟩)
  | .func f => .func (.func f) #[] #[]
abbrev putS (s : St) (d : Option Tmp) (v : Value) : St :=
  match d with
  | some d => s.set d v
  | none => s
theorem ev_eq (s : St) : (act s).eval = ev s := by
  funext o
  cases o <;> simp [Act.eval, ev, act]
theorem put_eq (s : St) (d : Option Tmp) (v : Value) : (act s).put d v = act (putS s d v) := by
  cases d <;> simp [Act.put, act, putS]

/-! ### typed values -/
inductive Ty where
  | int (k : IntKind) | bool | str | slice | ptr | map | iface | other
def tyLeaves (P : Program) : Nat → TypeId → List Ty
  | 0, _ => [.other]
  | f + 1, t =>
    match P.underlying t with
    | some (.int k) => [.int k]
    | some .bool => [.bool]
    | some .string => [.str]
    | some (.slice _) => [.slice]
    | some (.pointer _) => [.ptr]
    | some (.map _ _) => [.map]
    | some (.struct fs) => fs.toList.flatMap fun x => tyLeaves P f x.type
    | some (.array n e) => (List.replicate n (tyLeaves P f e)).flatten
    | _ => [.other]
def isAggB (P : Program) (t : TypeId) : Bool :=
  match P.underlying t with
  | some (.struct _) => true
  | some (.array _ _) => true
  | _ => false
def sizeB (P : Program) (t : TypeId) : Nat :=
  match P.info? t with
  | some i => i.size
  | none => 0
/-- There are values of these kinds with .. -/
abbrev TVs : List Ty → (List Value → Prop) → Prop
  | [], K => K []
  | .int k :: ts, K => ∃ x : Int, TVs ts fun vs => K (.int k x :: vs)
  | .bool :: ts, K => ∃ b : Bool, TVs ts fun vs => K (.bool b :: vs)
  | .str :: ts, K => ∃ b : ByteArray, TVs ts fun vs => K (.string b :: vs)
  | .slice :: ts, K => ∃ (A : Option Addr) (n c : Nat), TVs ts fun vs => K (.slice A n c :: vs)
  | .ptr :: ts, K => ∃ A : Option Addr, TVs ts fun vs => K (.pointer A :: vs)
  | .map :: ts, K => ∃ r : Option Nat, TVs ts fun vs => K (.map r :: vs)
  | .iface :: ts, K => ∃ v : Value, TVs ts fun vs => K (v :: vs)
  | .other :: ts, K => ∃ v : Value, TVs ts fun vs => K (v :: vs)
theorem TVs_ex : ∀ (ts : List Ty) (K : List Value → Prop), TVs ts K → ∃ vs, K vs
  | [], K, h => ⟨[], h⟩
  | t :: ts, K, h => by
    cases t <;> simp only [TVs] at h
    case slice => obtain ⟨A, n, c, h⟩ := h; obtain ⟨vs, h⟩ := TVs_ex ts _ h; exact ⟨_, h⟩
    all_goals (obtain ⟨x, h⟩ := h; obtain ⟨vs, h⟩ := TVs_ex ts _ h; exact ⟨_, h⟩)
abbrev one? (K : Value → Prop) : List Value → Prop
  | [v] => K v
  | _ => False
theorem one?_ex {K : Value → Prop} {vs : List Value} (h : one? K vs) : ∃ v, vs = [v] ∧ K v := by
  match vs, h with
  | [v], h => exact ⟨v, rfl, h⟩
/-- There is a value of this type with .. -/
abbrev TV (P : Program) (t : TypeId) (K : Value → Prop) : Prop :=
  match isAggB P t with
  | true => TVs (tyLeaves P 9 t) fun vs => K (.agg vs.toArray)
  | false => TVs (tyLeaves P 9 t) (one? K)
theorem TV_ex {P : Program} {t : TypeId} {K : Value → Prop} (h : TV P t K) : ∃ v, K v := by
  unfold TV at h
  split at h
  · obtain ⟨vs, h⟩ := TVs_ex _ _ h; exact ⟨_, h⟩
  · obtain ⟨vs, h⟩ := TVs_ex _ _ h; obtain ⟨v, _, h⟩ := one?_ex h; exact ⟨v, h⟩
abbrev TVt (P : Program) : List TypeId → (List Value → Prop) → Prop
  | [], K => K []
  | t :: ts, K => TV P t fun v => TVt P ts fun vs => K (v :: vs)
theorem TVt_ex {P : Program} : ∀ (ts : List TypeId) (K : List Value → Prop), TVt P ts K → ∃ vs, K vs
  | [], _, h => ⟨[], h⟩
  | _ :: ts, _, h => by
    obtain ⟨v, h⟩ := TV_ex h
    obtain ⟨vs, h⟩ := TVt_ex ts _ h
    exact ⟨_, h⟩
/-- A call's answer: one value, or a tuple. -/
abbrev TVr (P : Program) (ts : List TypeId) (K : Value → Prop) : Prop :=
  match ts with
  | [t] => TV P t K
  | ts => TVt P ts fun vs => K (.tuple vs.toArray)
theorem TVr_ex {P : Program} {ts : List TypeId} {K : Value → Prop} (h : TVr P ts K) : ∃ v, K v := by
  unfold TVr at h
  split at h
  · exact TV_ex h
  · obtain ⟨vs, h⟩ := TVt_ex _ _ h; exact ⟨_, h⟩

/-! ### memory: what is read, what is written -/
/-- These cells stand from that address on. -/
def At (w : World) (a : Addr) (vs : List Value) : Prop := ∀ j u, vs[j]? = some u → w.cell? (a.add j) = some u
/-- A load: 'C a v' says that cell a holds v, 'Cs a vs' that the cells from a on hold vs. -/
abbrev ldR (P : Program) (t : TypeId) (p : Value) (C : Addr → Value → Prop) (Cs : Addr → List Value → Prop) (K : Value → Prop) : Prop :=
  match P.underlying t, p with
  | some _, .pointer (some a) =>
    match isAggB P t with
    | true => TVs (tyLeaves P 9 t) fun vs => (vs.length = sizeB P t ∧ Cs a vs) ∧ K (.agg vs.toArray)
    | false => TVs (tyLeaves P 9 t) (one? fun v => C a v ∧ K v)
  | _, _ => False
/-- under a check that a computation decides -/
abbrev chk (b : Bool) (p : Prop) : Prop :=
  match b with
  | true => p
  | false => False
theorem chk_ok {b : Bool} {p : Prop} (h : chk b p) : b = true ∧ p := by
  cases b with
  | true => exact ⟨rfl, h⟩
  | false => exact h.elim
def one1 : Value → Bool
  | .agg _ => false
  | .tuple _ => false
  | _ => true
/-- The cells from a on may be written. -/
def May (w : World) (a : Addr) (n : Nat) : Prop := ∀ j, j < n → (∃ u, w.cell? (a.add j) = some u) ∧ w.frozen? (a.add j) = false
def MayC (w : World) (a : Addr) : Prop := (∃ u, w.cell? a = some u) ∧ w.frozen? a = false
def putCells (w : World) (a : Addr) : List Value → Nat → World
  | [], _ => w
  | v :: vs, j => putCells (w.setCell (a.add j) v) a vs (j + 1)
abbrev stR (P : Program) (t : TypeId) (p x : Value) (w : World) (K : World → Prop) : Prop :=
  match p with
  | .pointer (some a) =>
    match x with
    | .agg cs => chk (Nat.blt 0 cs.size && Nat.beq cs.size (sizeB P t) && cs.toList.all one1) (May w a cs.size ∧ K (putCells w a cs.toList 0))
    | v => chk (Nat.beq 1 (sizeB P t) && one1 v) (MayC w a ∧ K (w.setCell a v))
  | _ => False

section
variable {P : Program} {w : World}
theorem info_of_size {t : TypeId} {n : Nat} (h : n = sizeB P t) (hn : 0 < n) : ∃ i, P.info? t = some i ∧ i.size = n := by
  unfold sizeB at h
  split at h
  · exact ⟨_, ‹_›, h.symm⟩
  · omega
theorem run_sizeOf {t : TypeId} {i : TypeInfo} (hi : P.info? t = some i) : (sizeOf t).run P w = .ok i.size w := by
  simp [sizeOf, typeInfo, hi]
theorem run_isAgg {t : TypeId} {d : TypeDesc} (h : P.underlying t = some d) : (isAgg t).run P w = .ok (isAggB P t) w := by
  cases d <;> simp [isAgg, isAggB, run_underlying h, h]
theorem isAgg_desc {t : TypeId} (h : isAggB P t = true) : ∃ d, P.underlying t = some d := by
  unfold isAggB at h
  split at h <;> first | exact ⟨_, ‹_›⟩ | cases h
theorem und_info {t : TypeId} {d : TypeDesc} (h : P.underlying t = some d) : ∃ i, P.info? t = some i := by
  unfold Program.underlying at h
  split at h
  · exact ⟨_, ‹_›⟩
  · exact ⟨_, ‹_›⟩
  · cases h
/-- a load's soundness -/
theorem ldR_run {t : TypeId} {p : Value} {K : Value → Prop} {C : Addr → Value → Prop} {Cs : Addr → List Value → Prop} (h : ldR P t p C Cs K) :
    ∃ v, (∀ w, (∀ a v, C a v → w.cell? a = some v) → (∀ a vs, Cs a vs → At w a vs) → (Instr.loadAt t p).run P w = .ok v w) ∧ K v := by
  unfold ldR at h
  split at h
  · rename_i d a hd
    split at h
    · rename_i hg
      obtain ⟨vs, ⟨hl, hc⟩, hk⟩ := TVs_ex _ _ h
      obtain ⟨i, hi⟩ := und_info hd
      have hs : i.size = vs.length := by rw [hl]; simp [sizeB, hi]
      refine ⟨_, fun w _ h2 => ?_, hk⟩
      simp [Instr.loadAt, Instr.sureAddr, loadVar, run_isAgg hd, hg, run_sizeOf hi, hs, run_loadCells_list w a vs (h2 _ _ hc)]
    · rename_i hg
      obtain ⟨vs, h⟩ := TVs_ex _ _ h
      obtain ⟨v, rfl, hc, hk⟩ := one?_ex h
      refine ⟨v, fun w h1 _ => ?_, hk⟩
      simp [Instr.loadAt, Instr.sureAddr, loadVar, run_isAgg hd, hg, run_load, h1 _ _ hc]
  · exact h.elim
theorem cell_set_some {a b : Addr} {v u : Value} (h : w.cell? b = some u) : ∃ u', (w.setCell a v).cell? b = some u' := by
  by_cases e : a = b
  · subst e; exact ⟨v, World.cell?_setCell_same w a v h⟩
  · exact ⟨u, by rw [World.cell?_setCell_other w a b v e]; exact h⟩
theorem storeCells_run {a : Addr} : ∀ (vs : List Value) (j : Nat) (w : World), (vs.all one1) = true → (∀ i, i < vs.length → (∃ u, w.cell? (a.add (j + i)) = some u) ∧ w.frozen? (a.add (j + i)) = false) →
    (storeCells a vs j).run P w = .ok () (putCells w a vs j)
  | [], j, w, _, _ => by simp [storeCells, putCells]
  | v :: vs, j, w, h1, h => by
    simp only [List.all_cons, Bool.and_eq_true] at h1
    obtain ⟨⟨u, hu⟩, hf⟩ := h 0 (by simp)
    rw [Nat.add_zero] at hu hf
    have ih := storeCells_run (a := a) vs (j + 1) (w.setCell (a.add j) v) h1.2 (fun i hi => by
      have := h (i + 1) (by simpa using hi)
      rw [show j + (i + 1) = j + 1 + i by omega] at this
      obtain ⟨⟨u', hu'⟩, hf'⟩ := this
      exact ⟨cell_set_some hu', by rw [World.frozen?_setCell]; exact hf'⟩)
    have hs : (store (a.add j) v).run P w = .ok () (w.setCell (a.add j) v) := by
      cases v <;> first | (simp [one1] at h1; done) | simp [store, Sem.run, hu, hf]
    simp only [storeCells, Sem.run_bind, hs, Result.andThen, ih, putCells]
theorem addr_add_zero (a : Addr) : a.add 0 = a := by simp [Addr.add]
theorem stR_run {t : TypeId} {p x : Value} {K : World → Prop} (h : stR P t p x w K) : ∃ w', (Instr.storeAt t p x).run P w = .ok () w' ∧ K w' := by
  unfold stR at h
  split at h
  · rename_i a
    split at h
    · rename_i cs
      obtain ⟨hc, h⟩ := chk_ok h
      simp only [Bool.and_eq_true] at hc
      obtain ⟨⟨h0, hs⟩, h1⟩ := hc
      replace hs := Nat.eq_of_beq_eq_true hs
      replace h0 : 0 < cs.size := Nat.le_of_ble_eq_true h0
      obtain ⟨hm, hk⟩ := h
      refine ⟨_, ?_, hk⟩
      have hr := storeCells_run (P := P) (a := a) cs.toList 0 w h1 (fun i hi => by rw [Nat.zero_add]; exact hm i (by simpa using hi))
      obtain ⟨i, hi, hz⟩ := info_of_size hs h0
      simp [Instr.storeAt, Instr.sureAddr, storeVar, run_sizeOf hi, Value.cells, hz, hr]
    · rename_i v hv
      obtain ⟨hc, h⟩ := chk_ok h
      simp only [Bool.and_eq_true] at hc
      obtain ⟨hs, h1⟩ := hc
      replace hs := Nat.eq_of_beq_eq_true hs
      obtain ⟨⟨⟨u, hu⟩, hf⟩, hk⟩ := h
      refine ⟨_, ?_, hk⟩
      obtain ⟨i, hi, hz⟩ := info_of_size hs (by omega)
      have hr := storeCells_run (P := P) (a := a) [x] 0 w (by simpa using h1) (fun i hi => by
        have : i = 0 := by simpa using hi
        subst this
        rw [Nat.zero_add, addr_add_zero]; exact ⟨⟨u, hu⟩, hf⟩)
      have hc : x.cells = #[x] := by cases x <;> first | rfl | exact (hv _ rfl).elim
      have hp : putCells w a [x] 0 = w.setCell a x := by simp [putCells, addr_add_zero]
      rw [hp] at hr
      simp [Instr.storeAt, Instr.sureAddr, storeVar, run_sizeOf hi, hc, hz, hr]
  · exact h.elim
end

/-! ### single operations -/
abbrev mulS (n s : Nat) : Nat := if s = 1 then n else n * s
theorem mulS_eq (n s : Nat) : mulS n s = n * s := by unfold mulS; split <;> simp_all
/-- an index: the element's address -/
abbrev ixR (P : Program) (t : TypeId) (x i : Value) (K : Value → Prop) : Prop :=
  match P.underlying t with
  | some (.slice e) =>
    match P.info? e with
    | some j =>
      match x, i with
      | .slice A n _, .int _ i => ∃ a, A = some a ∧ (0 ≤ i ∧ i < (n : Int)) ∧ K (.pointer (some (a.add (mulS i.toNat j.size))))
      | _, _ => False
    | none => False
  | some (.array len e) =>
    match P.info? e with
    | some j =>
      match x, i with
      | .pointer (some a), .int _ i => (0 ≤ i ∧ i < (len : Int)) ∧ K (.pointer (some (a.add (mulS i.toNat j.size))))
      | _, _ => False
    | none => False
  | _ => False
section
variable {P : Program} {w : World}
theorem ixR_run {t : TypeId} {x i : Value} {K : Value → Prop} (h : ixR P t x i K) : ∃ v, (∀ w, (Instr.indexAt t x i).run P w = .ok v w) ∧ K v := by
  unfold ixR at h
  split at h
  · rename_i e he
    split at h
    · rename_i j hj
      split at h
      · rename_i A n c k i
        obtain ⟨a, rfl, hi, hk⟩ := h
        refine ⟨_, fun w => ?_, hk⟩
        simp [Instr.indexAt, asIntOf, run_underlying he, run_sizeOf hj, hi, mulS_eq]
      · exact h.elim
    · exact h.elim
  · rename_i len e he
    split at h
    · rename_i j hj
      split at h
      · rename_i a k i
        obtain ⟨hi, hk⟩ := h
        refine ⟨_, fun w => ?_, hk⟩
        simp [Instr.indexAt, asIntOf, Instr.sureAddr, run_underlying he, run_sizeOf hj, hi, mulS_eq]
      · exact h.elim
    · exact h.elim
  · exact h.elim
end
/-- a pointer that is none of nil -/
abbrev ncR (x : Value) (K : Value → Prop) : Prop :=
  match x with
  | .pointer A => ∃ a, A = some a ∧ K (.pointer (some a))
  | _ => False
/-- cuts -/
abbrev bnd (v : Option Value) (y d : Nat) (K : Nat → Prop) : Prop :=
  match v with
  | none => K d
  | some (.int _ i) => (0 ≤ i ∧ i ≤ (y : Int)) ∧ K i.toNat
  | some _ => False
def cutA (A : Option Addr) (l m s : Nat) : Option Addr := if m = l then A else A.map (·.add (mulS l s))
abbrev lowA (lo : Option Value) (A B : Option Addr) : Option Addr :=
  match lo with
  | none => A
  | some _ => B
abbrev slR (P : Program) (t : TypeId) (x : Value) (lo hi mx : Option Value) (K : Value → Prop) : Prop :=
  match P.underlying t with
  | some (.slice e) =>
    match P.info? e with
    | some j =>
      match x with
      | .slice A n c => bnd mx c c fun m => bnd hi m n fun h => bnd lo h 0 fun l => K (.slice (lowA lo A (cutA A l m j.size)) (h - l) (m - l))
      | _ => False
    | none => False
  | some (.array len e) =>
    match P.info? e with
    | some j =>
      match x with
      | .pointer (some a) => bnd mx len len fun m => bnd hi m len fun h => bnd lo h 0 fun l => K (.slice (lowA lo (some a) (cutA (some a) l m j.size)) (h - l) (m - l))
      | _ => False
    | none => False
  | _ => False
section
variable {P : Program} {w : World}
theorem bnd_run {v : Value} {y d : Nat} {K : Nat → Prop} (code : Go.BoundsCode) (h : bnd (some v) y d K) : ∃ i, (∀ w, (Instr.sliceBound v y code).run P w = .ok i w) ∧ K i := by
  unfold bnd at h
  split at h
  · rename_i h0; cases h0
  · rename_i k i he
    injection he with he
    subst he
    obtain ⟨hi, hk⟩ := h
    exact ⟨_, fun w => by simp [Instr.sliceBound, asIntOf, hi], hk⟩
  · exact h.elim
theorem bounds_run {b : Bool} {n c : Nat} {lo hi mx : Option Value} {K : Nat → Nat → Nat → Prop} (hm : hi = none → mx = none)
    (h : bnd mx c c fun m => bnd hi m n fun h => bnd lo h 0 fun l => K l h m) : ∃ l h m, (∀ w, (Instr.sliceBounds b n c lo hi mx).run P w = .ok (l, h, m) w) ∧ K l h m := by
  unfold Instr.sliceBounds
  cases mx with
  | none =>
    have h : bnd hi c n fun h => bnd lo h 0 fun l => K l h c := h
    cases hi with
    | none =>
      have h : bnd lo n 0 fun l => K l n c := h
      cases lo with
      | none => exact ⟨0, n, c, fun w => by simp, h⟩
      | some lo =>
        obtain ⟨l, hl, hk⟩ := bnd_run (P := P) .sliceB h
        exact ⟨l, n, c, fun w => by simp [hl], hk⟩
    | some hi =>
      obtain ⟨h1, hh, h⟩ := bnd_run (P := P) (if b = true then .sliceAcap else .sliceAlen) h
      cases lo with
      | none => exact ⟨0, h1, c, fun w => by simp [hh], h⟩
      | some lo =>
        obtain ⟨l, hl, hk⟩ := bnd_run (P := P) .sliceB h
        exact ⟨l, h1, c, fun w => by simp [hh, hl], hk⟩
  | some mx =>
    cases hi with
    | none => cases hm rfl
    | some hi =>
      obtain ⟨m, hmm, h⟩ := bnd_run (P := P) (if b = true then .slice3Acap else .slice3Alen) h
      obtain ⟨h1, hh, h⟩ := bnd_run (P := P) .slice3B h
      cases lo with
      | none => exact ⟨0, h1, m, fun w => by simp [hmm, hh], h⟩
      | some lo =>
        obtain ⟨l, hl, hk⟩ := bnd_run (P := P) .slice3C h
        exact ⟨l, h1, m, fun w => by simp [hmm, hh, hl], hk⟩
theorem slR_run {t : TypeId} {x : Value} {lo hi mx : Option Value} {K : Value → Prop} (hm : hi = none → mx = none) (h : slR P t x lo hi mx K) :
    ∃ v, (∀ w, (Instr.sliceAt t x lo hi mx).run P w = .ok v w) ∧ K v := by
  have key : ∀ (A : Option Addr) (z l h m : Nat), (lo = none → l = 0) → (if m = l then A else A.map (·.add (l * z))) = (lowA lo A (cutA A l m z)) := by
    intro A z l h m hl
    cases lo with
    | none =>
      rw [hl rfl]
      cases A <;> simp [addr_add_zero, lowA]
    | some _ => simp [cutA, mulS_eq, lowA]
  have hl0 : ∀ (n c : Nat) (K' : Nat → Nat → Nat → Prop), (bnd mx c c fun m => bnd hi m n fun h => bnd lo h 0 fun l => K' l h m) → (bnd mx c c fun m => bnd hi m n fun h => bnd lo h 0 fun l => (lo = none → l = 0) ∧ K' l h m) := by
    intro n c K' h
    have hb : ∀ (v : Option Value) (y d : Nat) (X Y : Nat → Prop), (∀ i, (v = none → i = d) → X i → Y i) → bnd v y d X → bnd v y d Y := by
      intro v y d X Y hxy hx
      unfold bnd at *
      split at hx
      · exact hxy _ (fun _ => rfl) hx
      · exact ⟨hx.1, hxy _ (fun h => by cases h) hx.2⟩
      · exact hx.elim
    exact hb _ _ _ _ _ (fun m _ h => hb _ _ _ _ _ (fun h' _ h => hb _ _ _ _ _ (fun l hl h => ⟨hl, h⟩) h) h) h
  unfold slR at h
  split at h
  · rename_i e he
    split at h
    · rename_i j hj
      split at h
      · rename_i A n c
        obtain ⟨l, h1, m, hr, hl, hk⟩ := bounds_run (P := P) (b := true) hm (hl0 n c _ h)
        refine ⟨_, fun w => ?_, hk⟩
        simp [Instr.sliceAt, Instr.slice, run_underlying he, hr, run_sizeOf hj, key A j.size l h1 m hl]
      · exact h.elim
    · exact h.elim
  · rename_i len e he
    split at h
    · rename_i j hj
      split at h
      · rename_i a
        obtain ⟨l, h1, m, hr, hl, hk⟩ := bounds_run (P := P) (b := false) hm (hl0 len len _ h)
        refine ⟨_, fun w => ?_, hk⟩
        have hkey := key (some a) j.size l h1 m hl
        simp only [Option.map_some] at hkey
        have hsome : (if m = l then some a else some (a.add (l * j.size))) = some (if m = l then a else a.add (l * j.size)) := by split <;> rfl
        rw [hsome] at hkey
        simp [Instr.sliceAt, Instr.sureAddr, run_underlying he, hr, run_sizeOf hj, hkey]
      · exact h.elim
    · exact h.elim
  · exact h.elim
end

/-! ### the generic operation -/
abbrev semW (P : Program) : Sem Next → World → (Value → World → Prop) → Prop
  | .pure (.value v), w, K => K v w
  | .pure .skip, w, K => K undef w
  | .new o k, w, K => semW P (k w.heap.size) (w.alloc o) K
  | .program k, w, K => semW P (k P) w K
  | .mark _ k, w, K => semW P k w K
  | _, _, _ => False
/-- What an operation that ended so is asked. -/
def Fin (K : Value → World → Prop) : Result Next → Prop
  | .ok (.value v) w => K v w
  | .ok .skip w => K undef w
  | _ => False
theorem semW_run {P : Program} : ∀ (s : Sem Next) (w : World) (K : Value → World → Prop), semW P s w K → Fin K (s.run P w) := by
  intro s
  induction s with
  | pure n => intro w K h; cases n <;> first | exact h | exact h.elim
  | new o k ih => intro w K h; exact ih _ _ _ h
  | program k ih => intro w K h; exact ih _ _ _ h
  | mark m k ih => intro w K h; exact ih _ _ h
  | _ => intro w K h; exact h.elim
/-- make([]T, l, c), an element being one cell -/
def zeroRow : List Value → Nat → Array Value
  | [z], n => (List.replicate n z).toArray
  | _, _ => #[]
abbrev mkR (P : Program) (t : TypeId) (l c : Value) (w : World) (K : Value → World → Prop) : Prop :=
  match P.underlying t with
  | some (.slice e) =>
    match P.info? e, l, c with
    | some i, .int _ l, .int _ c =>
      match i.zero with
      | some z => chk (Nat.beq i.size 1 && Nat.beq z.cells.size 1) ((0 ≤ l ∧ l ≤ c ∧ c ≤ 9223372036854775807 ∧ (i.bytes : Int) * c ≤ 281474976710656) ∧
          K (.slice (some ⟨w.heap.size, 0, none⟩) l.toNat c.toNat) (w.alloc (.cells (zeroRow z.cells.toList c.toNat) e)))
      | none => False
    | _, _, _ => False
  | _ => False
theorem mkR_run {P : Program} {w : World} {t : TypeId} {l c : Value} {K : Value → World → Prop} (h : mkR P t l c w K) : ∃ v w', (Instr.makeSlice t l c).run P w = .ok v w' ∧ K v w' := by
  unfold mkR at h
  split at h
  · rename_i e he
    split at h
    · rename_i i _ l _ c hi
      split at h
      · rename_i z hz
        obtain ⟨hc, h⟩ := chk_ok h
        simp only [Bool.and_eq_true] at hc
        obtain ⟨hs, hzs⟩ := hc
        replace hs := Nat.eq_of_beq_eq_true hs
        replace hzs := Nat.eq_of_beq_eq_true hzs
        obtain ⟨⟨h0, h1, h2, h3⟩, hk⟩ := h
        refine ⟨_, _, ?_, hk⟩
        have wl : IntKind.i64.wrap l = l := by unfold IntKind.wrap; simp [IntKind.bits, IntKind.signed]; omega
        have wc : IntKind.i64.wrap c = c := by unfold IntKind.wrap; simp [IntKind.bits, IntKind.signed]; omega
        obtain ⟨z0, hz0⟩ : ∃ z0, z.cells = #[z0] := by
          have := Array.size_eq_one_iff.1 hzs
          exact this
        have hrow : (Array.range c.toNat).map (fun j => (#[z0] : Array Value)[j % 1]!) = (List.replicate c.toNat z0).toArray := by
          apply Array.ext
          · simp
          · intro j h1 h2
            simp [Nat.mod_one]
        have hm : madeCells z.cells (c.toNat * i.size) = zeroRow z.cells.toList c.toNat := by
          rw [hs, Nat.mul_one, hz0]
          simp only [madeCells, zeroRow]
          exact hrow
        rw [run_make (P := P) w t e i z he hi hz _ _ l c h0 h1 h3 h2, hm]
      · exact h.elim
    · exact h.elim
  · exact h.elim

/-! ### append and copy -/
def putO (w : World) (A : Option Addr) (vs : List Value) : World :=
  match A with
  | some a => putCells w a vs 0
  | none => w
def Rd (w : World) (A : Option Addr) (vs : List Value) : Prop := 0 < vs.length → ∃ a, A = some a ∧ At w a vs
def Wr (w : World) (A : Option Addr) (n : Nat) : Prop := 0 < n → ∃ a, A = some a ∧ May w a n
/-- append(A[:n:c], B[:m]..), elements of 'size' cells -/
def AppE (w : World) (size bytes : Nat) (e : TypeId) (zs : List Value) (A : Option Addr) (n c : Nat) (B : Option Addr) (m : Nat) (K : Option Addr → Nat → World → Prop) : Prop :=
  ∃ vs : List Value, vs.length = m * size ∧ vs.all one1 = true ∧ Rd w B vs ∧
    (n + m ≤ c → Wr w (A.map (·.add (n * size))) vs.length ∧ K A c (putO w (A.map (·.add (n * size))) vs)) ∧
    (c < n + m → ∃ old : List Value, old.length = n * size ∧ Rd w A old ∧ ((n + m) * bytes ≤ 140737488355328 ∧ n + m ≤ 9223372036854775807) ∧
      ∀ cap, n + m ≤ cap → cap ≤ 9223372036854775807 → K (some ⟨w.heap.size, 0, none⟩) cap (w.drew.alloc (.cells (old.toArray ++ vs.toArray ++ Builtin.zeroCells zs.toArray (cap - (n + m))) e)))
abbrev apR (P : Program) (ts : List TypeId) (args : List Value) (w : World) (K : Value → World → Prop) : Prop :=
  match ts, args with
  | [t, t2], [.slice A n c, .slice B m _] =>
    match P.underlying t, P.underlying t2 with
    | some (.slice e), some (.slice _) =>
      match P.info? e with
      | some i =>
        match i.zero with
        | some z => AppE w i.size i.bytes e z.cells.toList A n c B m fun A' c' w' => K (.slice A' (n + m) c') w'
        | none => False
      | none => False
    | _, _ => False
  | _, _ => False
/-- copy(D[:dn], A[:sn]), elements of one cell -/
def CopyE (w : World) (D : Option Addr) (dn : Nat) (A : Option Addr) (sn : Nat) (K : World → Prop) : Prop :=
  ∃ vs : List Value, vs.length = min sn dn ∧ vs.all one1 = true ∧ Rd w A vs ∧ Wr w D vs.length ∧ K (putO w D vs)
abbrev cpR (P : Program) (ts : List TypeId) (args : List Value) (w : World) (K : Value → World → Prop) : Prop :=
  match ts, args with
  | [t, _], [.slice D dn _, .slice A sn _] =>
    match P.underlying t with
    | some (.slice e) => chk (Nat.beq 1 (sizeB P e)) (CopyE w D dn A sn fun w' => K (.int .i64 ((min sn dn : Nat) : Int)) w')
    | _ => False
  | _, _ => False
section
variable {P : Program} {w : World}
theorem firstCells_run {vs : List Value} {A : Option Addr} {l c size n : Nat} (hl : vs.length = n * size) (h : Rd w A vs) :
    (Builtin.firstCells size n (.slice A l c)).run P w = .ok vs.toArray w := by
  cases vs with
  | nil =>
    cases A with
    | none => exact run_firstCells_none ..
    | some a => exact run_firstCells_some w size n a l c [] hl (by simp)
  | cons v vs =>
    obtain ⟨a, ea, hat⟩ := h (by simp)
    subst ea
    exact run_firstCells_some w size n a l c _ hl hat
theorem storeO_run {A : Option Addr} {vs : List Value} (h1 : vs.all one1 = true) (h : Wr w A vs.length) :
    (match A with | some a => storeCells a vs | none => (pure () : Sem Unit)).run P w = .ok () (putO w A vs) := by
  cases A with
  | none =>
    cases vs with
    | nil => simp [putO]
    | cons v vs => obtain ⟨a, e, _⟩ := h (by simp); cases e
  | some a =>
    refine storeCells_run (a := a) vs 0 w h1 (fun i hi => ?_)
    obtain ⟨a', e, hm⟩ := h (by omega)
    injection e with e
    subst e
    rw [Nat.zero_add]
    exact hm i hi
theorem apR_run {ts : Array TypeId} {ty : TypeId} {args : Array Value} {K : Value → World → Prop} (h : apR P ts.toList args.toList w K) :
    ∃ v w', (Builtin.append_ ts ty args).run P w = .ok v w' ∧ K v w' := by
  unfold apR at h
  split at h
  · rename_i t t2 A n c B m d hts hargs
    have ets : ts = #[t, t2] := by rw [← hts]
    have eargs : args = #[.slice A n c, .slice B m d] := by rw [← hargs]
    subst ets
    subst eargs
    split at h
    · rename_i e e2 he he2
      split at h
      · rename_i i hi
        split at h
        · rename_i z hz
          obtain ⟨vs, hl, h1, hB, hin, hout⟩ := h
          have hf := firstCells_run (P := P) (l := m) (c := d) hl hB
          by_cases hr : n + m ≤ c
          · obtain ⟨hw, hk⟩ := hin hr
            refine ⟨_, _, ?_, hk⟩
            have hs := storeO_run (P := P) h1 hw
            cases A with
            | none =>
              simp at hs
              simp [Builtin.append_, run_underlying he, run_underlying he2, sizeOf, typeInfo, hi, Builtin.lenOf, hr, hf, putO]
            | some a =>
              simp only [Option.map_some] at hs
              simp [Builtin.append_, run_underlying he, run_underlying he2, sizeOf, typeInfo, hi, Builtin.lenOf, hr, hf, hs]
          · obtain ⟨old, ho, hA, ⟨hb, h63⟩, hk⟩ := hout (by omega)
            have hfo := firstCells_run (P := P) (w := w.drew) (l := n) (c := c) ho (fun h => let ⟨a, e, hh⟩ := hA h; ⟨a, e, hh⟩)
            have hfn := firstCells_run (P := P) (w := w.drew) (l := m) (c := d) hl (fun h => let ⟨a, e, hh⟩ := hB h; ⟨a, e, hh⟩)
            have hg := growslice_fits (need := n + m) (old := c) (bytes := i.bytes) (by omega) hb
            have hcap := hk (grownCap w (n + m) c e) (grownCap_ge w (n + m) c e) (by have := grownCap_le_maxLen w (n + m) c e (by simp only [maxLen]; omega); simpa only [maxLen] using this)
            refine ⟨_, _, ?_, hcap⟩
            have hn : ¬ (n + m ≤ c) := by omega
            have h63' : ¬ (9223372036854775807 < ((n : Int) + (m : Int))) := by omega
            have h48' : ¬ (281474976710656 < Builtin.nextslicecap (n + m) c * i.bytes) := by omega
            simp [Builtin.append_, run_underlying he, run_underlying he2, sizeOf, typeInfo, zeroValue, hi, hz, Builtin.lenOf, hn, h63', h48', Question.forced, hfn, hfo, newRow, grownCap]
            congr 2
            apply Array.ext'
            simp [List.append_assoc, Question.cut]
        · exact h.elim
      · exact h.elim
    · exact h.elim
  · exact h.elim
theorem cpR_run {ts : Array TypeId} {ty : TypeId} {args : Array Value} {K : Value → World → Prop} (h : cpR P ts.toList args.toList w K) :
    ∃ v w', (Builtin.copy_ ts ty args).run P w = .ok v w' ∧ K v w' := by
  unfold cpR at h
  split at h
  · rename_i t t2 D dn dc A sn sc hts hargs
    have ets : ts = #[t, t2] := by rw [← hts]
    have eargs : args = #[.slice D dn dc, .slice A sn sc] := by rw [← hargs]
    subst ets
    subst eargs
    split at h
    · rename_i e he
      obtain ⟨hsz, h⟩ := chk_ok h
      replace hsz := Nat.eq_of_beq_eq_true hsz
      obtain ⟨vs, hl, h1, hA, hW, hk⟩ := h
      obtain ⟨i, hi, hs⟩ := info_of_size (P := P) hsz (by omega)
      refine ⟨_, _, ?_, hk⟩
      have hf := firstCells_run (P := P) (l := sn) (c := sc) (size := 1) (n := Nat.min sn dn) (by rw [hl, Nat.mul_one]) hA
      have hst := storeO_run (P := P) h1 hW
      have hl' : Nat.min sn dn = vs.length := by rw [hl]
      rw [hl'] at hf
      cases D with
      | none =>
        simp [Builtin.copy_, run_underlying he, Builtin.lenOf, sizeOf, typeInfo, hi, hs, hf, putO, goInt, hl']
      | some a =>
        simp only at hst
        simp [Builtin.copy_, run_underlying he, Builtin.lenOf, sizeOf, typeInfo, hi, hs, hf, hst, goInt, hl']
    · exact h.elim
  · exact h.elim
end

/-! ### arrays and structs of numbers compared -/
def eqV : List Value → List Value → Bool
  | .int _ a :: xs, .int _ b :: ys => (a == b) && eqV xs ys
  | .bool a :: xs, .bool b :: ys => (a == b) && eqV xs ys
  | _, _ => true
def isIntT (P : Program) (t : TypeId) : Bool :=
  match P.underlying t with
  | some (.int _) => true
  | _ => false
def isBoolT (P : Program) (t : TypeId) : Bool :=
  match P.underlying t with
  | some .bool => true
  | _ => false
/-- The cells fit, one type after another. -/
def fitV (P : Program) : List TypeId → List Value → List Value → Bool
  | [], [], [] => true
  | t :: ts, .int k _ :: xs, .int j _ :: ys => isIntT P t && decide (k = j) && fitV P ts xs ys
  | t :: ts, .bool _ :: xs, .bool _ :: ys => isBoolT P t && fitV P ts xs ys
  | _, _, _ => false
def offsB : List Field → Nat → Bool
  | [], _ => true
  | f :: fs, k => Nat.beq f.offset k && (f.name != "_") && offsB fs (k + 1)
def okEq (P : Program) (t : TypeId) (xs ys : List Value) : Bool :=
  match P.underlying t with
  | some (.array n e) => Nat.beq (P.cellsOf e) 1 && (P.info? e).isSome && fitV P (List.replicate n e) xs ys && !(P.eqGuardType P.depth t)
  | some (.struct fs) => offsB fs.toList 0 && !(P.stoodInHeld t) && fitV P (fs.toList.map (·.type)) xs ys && !(P.eqGuardType P.depth t)
  | _ => false
abbrev isEqA (op : BinOp) (x y : Value) : Bool :=
  match op, x, y with
  | .eql, .agg _, .agg _ => true
  | .neq, .agg _, .agg _ => true
  | _, _, _ => false
abbrev eqR (P : Program) (op : BinOp) (t : TypeId) (x y : Value) (K : Value → Prop) : Prop :=
  match op, x, y with
  | .eql, .agg xs, .agg ys => chk (okEq P t xs.toList ys.toList) (K (.bool (eqV xs.toList ys.toList)))
  | .neq, .agg xs, .agg ys => chk (okEq P t xs.toList ys.toList) (K (.bool (!(eqV xs.toList ys.toList))))
  | _, _, _ => False
section
variable {P : Program} {w : World}
theorem drop_head {xs : Array Value} {k : Nat} {a : Value} {r : List Value} (h : xs.toList.drop k = a :: r) : xs[k]? = some a ∧ xs.toList.drop (k + 1) = r := by
  constructor
  · have h0 := congrArg (·[0]?) h
    simp only [List.getElem?_cons_zero, List.getElem?_drop, Nat.add_zero] at h0
    simpa using h0
  · rw [← List.drop_drop, h]
    rfl
/-- one cell of both -/
theorem eq_cell {t : TypeId} {ts : List TypeId} {xs ys : Array Value} {k d : Nat} {X Y : List Value} (hx : xs.toList.drop k = X) (hy : ys.toList.drop k = Y) (h : fitV P (t :: ts) X Y = true) :
    ∃ (a b : Value) (r : Bool) (X' Y' : List Value), (part t xs k).run P w = .ok a w ∧ (part t ys k).run P w = .ok b w ∧ (Op.equalIn (d + 1) t a b).run P w = .ok r w ∧ eqV X Y = (r && eqV X' Y') ∧ xs.toList.drop (k + 1) = X' ∧ ys.toList.drop (k + 1) = Y' ∧ fitV P ts X' Y' = true := by
  unfold fitV at h
  split at h
  · rename_i e; cases e
  · rename_i t' ts' q x X' j y Y' e
    injection e with e1 e2
    subst e1 e2
    simp only [Bool.and_eq_true, decide_eq_true_eq] at h
    obtain ⟨⟨h1, rfl⟩, h2⟩ := h
    obtain ⟨g1, d1⟩ := drop_head hx
    obtain ⟨g2, d2⟩ := drop_head hy
    unfold isIntT at h1
    split at h1
    · rename_i z hz
      have hp : P.plainKey t = true := by unfold Program.plainKey; rw [hz]
      exact ⟨_, _, _, X', Y', run_part_plain w hp g1, run_part_plain w hp g2, run_equalIn_int w d t q z x y hz, by rw [eqV], d1, d2, h2⟩
    · cases h1
  · rename_i t' ts' x X' y Y' e
    injection e with e1 e2
    subst e1 e2
    simp only [Bool.and_eq_true] at h
    obtain ⟨h1, h2⟩ := h
    obtain ⟨g1, d1⟩ := drop_head hx
    obtain ⟨g2, d2⟩ := drop_head hy
    unfold isBoolT at h1
    split at h1
    · rename_i hz
      have hp : P.plainKey t = true := by unfold Program.plainKey; rw [hz]
      exact ⟨_, _, _, X', Y', run_part_plain w hp g1, run_part_plain w hp g2, run_equalIn_bool w d t x y hz, by rw [eqV], d1, d2, h2⟩
    · cases h1
  · cases h
theorem eqItems_run {e : TypeId} {xs ys : Array Value} {d : Nat} : ∀ (m k : Nat), fitV P (List.replicate m e) (xs.toList.drop k) (ys.toList.drop k) = true →
    (Op.eqItems (d + 1) e 1 xs ys (List.range' k m)).run P w = .ok (eqV (xs.toList.drop k) (ys.toList.drop k)) w := by
  intro m
  induction m with
  | zero =>
    intro k h
    unfold fitV at h
    split at h
    · rename_i h1 h2 h3
      rw [h2, h3]
      simp [Op.eqItems, eqV]
    · rename_i e1 _ _; cases e1
    · rename_i e1 _ _; cases e1
    · cases h
  | succ m ih =>
    intro k h
    rw [List.replicate_succ] at h
    obtain ⟨a, b, r, X', Y', p1, p2, p3, p4, d1, d2, h2⟩ := eq_cell (w := w) (d := d) rfl rfl h
    rw [List.range'_succ]
    simp only [Op.eqItems, Nat.mul_one, Sem.run_bind, p1, p2, p3, Result.andThen_ok, p4]
    cases r
    · simp
    · have := ih (k + 1) (by rw [d1, d2]; exact h2)
      rw [d1, d2] at this
      simpa using this
theorem eqFields_run {xs ys : Array Value} {d : Nat} : ∀ (fs : List Field) (k : Nat), offsB fs k = true → fitV P (fs.map (·.type)) (xs.toList.drop k) (ys.toList.drop k) = true →
    (Op.eqFields (d + 1) xs ys fs).run P w = .ok (eqV (xs.toList.drop k) (ys.toList.drop k)) w := by
  intro fs
  induction fs with
  | nil =>
    intro k _ h
    unfold fitV at h
    split at h
    · rename_i h1 h2 h3
      rw [h2, h3]
      simp [Op.eqFields, eqV]
    · rename_i e1 _ _; cases e1
    · rename_i e1 _ _; cases e1
    · cases h
  | cons f fs ih =>
    intro k ho h
    simp only [offsB, Bool.and_eq_true] at ho
    obtain ⟨⟨h1, hn⟩, h3⟩ := ho
    have hn : f.name ≠ "_" := by simpa using hn
    have h1 := Nat.eq_of_beq_eq_true h1
    rw [List.map_cons] at h
    obtain ⟨a, b, r, X', Y', p1, p2, p3, p4, d1, d2, h2⟩ := eq_cell (w := w) (d := d) rfl rfl h
    simp only [Op.eqFields, hn, ne_eq, not_false_eq_true, if_true, h1, Sem.run_bind, p1, p2, p3, Result.andThen_ok, p4]
    cases r
    · simp
    · have := ih (k + 1) h3 (by rw [d1, d2]; exact h2)
      rw [d1, d2] at this
      simpa using this
theorem okEq_run {t : TypeId} {xs ys : Array Value} (h : okEq P t xs.toList ys.toList = true) : (Op.equalIn 10000 t (.agg xs) (.agg ys)).run P w = .ok (eqV xs.toList ys.toList) w ∧ P.eqGuardType P.depth t = false := by
  unfold okEq at h
  split at h
  · rename_i n e ht
    simp only [Bool.and_eq_true, Bool.not_eq_true'] at h
    obtain ⟨⟨⟨h1, h2⟩, h3⟩, h4⟩ := h
    have h1 := Nat.eq_of_beq_eq_true h1
    obtain ⟨i, hi⟩ := Option.isSome_iff_exists.1 h2
    refine ⟨?_, h4⟩
    have k := run_equalIn_array (P := P) (w := w) 9999 xs ys ht hi
    rw [h1, List.range_eq_range'] at k
    have g := eqItems_run (P := P) (w := w) (d := 9998) (xs := xs) (ys := ys) n 0 (by simpa using h3)
    rw [List.drop_zero, List.drop_zero] at g
    exact k.trans g
  · rename_i fs ht
    simp only [Bool.and_eq_true, Bool.not_eq_true'] at h
    obtain ⟨⟨⟨h1, h2⟩, h3⟩, h4⟩ := h
    refine ⟨?_, h4⟩
    have hf : P.fieldsOf t = fs := by unfold Program.fieldsOf; rw [ht]
    have k := run_equalIn_struct (P := P) w 9999 t xs ys (by rw [hf]; exact ht) h2
    rw [hf] at k
    have g := eqFields_run (P := P) (w := w) (d := 9998) (xs := xs) (ys := ys) fs.toList 0 h1 (by simpa using h3)
    rw [List.drop_zero, List.drop_zero] at g
    exact k.trans g
  · cases h
theorem eqR_run {op : BinOp} {t : TypeId} {x y : Value} {ox oy : Operand} {K : Value → Prop} (h : eqR P op t x y K) : ∃ v, (∀ w, (binOp op t x y).run P w = .ok v w ∧ (eqGuard op t ox oy x y).run P w = .ok () w) ∧ K v := by
  unfold eqR at h
  split at h
  · obtain ⟨hc, hk⟩ := chk_ok h
    refine ⟨_, fun w => ?_, hk⟩
    obtain ⟨h1, h2⟩ := okEq_run (w := w) hc
    exact ⟨by rw [run_eql_struct, h1]; rfl, run_eqGuard_agg w .eql t ox oy _ _ h2⟩
  · obtain ⟨hc, hk⟩ := chk_ok h
    refine ⟨_, fun w => ?_, hk⟩
    obtain ⟨h1, h2⟩ := okEq_run (w := w) hc
    exact ⟨by rw [run_neq_struct, h1]; rfl, run_eqGuard_agg w .neq t ox oy _ _ h2⟩
  · exact h.elim
end

/-! ### an operation -/
/-- The functions that a call enters. -/
structure Ents (P : Program) (E : Nat → Bool) : Prop where
  enter : ∀ f args w, E f = true → (callFunc f args).run P w = .ok (.enter f args) w
abbrev isConst? : Operand → Bool
  | .const _ => true
  | _ => false
/-! ### an element of an array that lies in no memory; maps; calls through an interface -/
abbrev ixvR (P : Program) (t : TypeId) (x i : Value) (K : Value → Prop) : Prop :=
  match P.underlying t with
  | some (.array len e) =>
    match P.underlying e with
    | some _ =>
      match isAggB P e, x, i with
      | false, .agg cs, .int _ i => chk (Nat.beq 1 (sizeB P e)) ((0 ≤ i ∧ i < (len : Int)) ∧ TVs (tyLeaves P 9 e) (one? fun v => cs.toList[i.toNat]? = some v ∧ K v))
      | _, _, _ => False
    | none => False
  | _ => False
/-- What a map holds; none: nothing. -/
def MapAt (w : World) (r : Option Nat) (es : Array MapEntry) (c : Nat) : Prop :=
  match r with
  | none => es = #[]
  | some r => w.heap[r]? = some (.map es c)
/-- A map's entries that are written anew. -/
def putMap (w : World) (r : Nat) (es : Array MapEntry) (c : Nat) : World := { w with heap := w.heap.setIfInBounds r (.map es c) }
abbrev zeroB (P : Program) (t : TypeId) : Value :=
  match P.info? t with
  | some i =>
    match i.zero with
    | some z => z
    | none => undef
  | none => undef
abbrev okV : Bool → Value → Bool → Value
  | true, v, b => .tuple #[v, .bool b]
  | false, v, _ => v
abbrev lkR (P : Program) (t : TypeId) (x i : Value) (ok : Bool) (w : World) (K : Value → Prop) : Prop :=
  match P.underlying t with
  | some (.map kt et) =>
    match P.underlying kt, x, i with
    | some (.int kk), .map r, .int k i => chk (decide (k = kk) && (match P.info? et with | some j => j.zero.isSome | none => false))
        (∃ (es : Array MapEntry) (c : Nat) (q : Option (Nat × Value)), MapAt w r es c ∧ Instr.findNow (.int kk) (.int kk i) es.toList 0 = some q ∧
          TV P et fun v => (q.map Prod.snd).getD (zeroB P et) = v ∧ K (okV ok v q.isSome))
    | _, _, _ => False
  | _ => False
abbrev muR (P : Program) (t : TypeId) (x i v : Value) (w : World) (K : Value → World → Prop) : Prop :=
  match P.underlying t with
  | some (.map kt _) =>
    match P.underlying kt, x, i with
    | some (.int kk), .map r, .int k i => chk (decide (k = kk))
        (∃ (r' : Nat) (es : Array MapEntry) (c : Nat), r = some r' ∧ MapAt w (some r') es c ∧ Instr.findNow (.int kk) (.int kk i) es.toList 0 = some none ∧
          K undef (putMap w r' (es.push { key := .int kk i, val := v, born := c }) (c + 1)))
    | _, _, _ => False
  | _ => False
/-- an operation that comes to a call -/
abbrev entW (P : Program) : Sem Next → Option (FuncId × Array Value)
  | .pure (.enter f as) => some (f, as)
  | .program k => entW P (k P)
  | .mark _ k => entW P k
  | _ => none
/-- a pointer compared with nil -/
abbrev npR (op : BinOp) (x y : Value) (K : Value → Prop) : Prop :=
  match op, x, y with
  | .eql, .pointer A, .pointer none => K (.bool A.isNone)
  | .eql, .pointer none, .pointer B => K (.bool B.isNone)
  | .neq, .pointer A, .pointer none => K (.bool (!A.isNone))
  | .neq, .pointer none, .pointer B => K (.bool (!B.isNone))
  | _, _, _ => False
abbrev isPtrT (P : Program) (t : TypeId) : Bool :=
  match P.underlying t with
  | some (.pointer _) => true
  | _ => false
abbrev isNp (op : BinOp) (x y : Value) : Bool :=
  match op, x, y with
  | .eql, .pointer _, .pointer _ => true
  | .neq, .pointer _, .pointer _ => true
  | _, _, _ => false
abbrev invR (P : Program) (x : Option (FuncId × Array Value)) (w : World) (K : Value → World → Prop) : Prop :=
  match x with
  | some (f, as) => Calls P f as w fun e w' => TVr P (match P.funcs[f]? with | some fn => fn.resultTypes.toList | none => []) fun v => e = .returned v ∧ K v w'
  | none => False
section
variable {P : Program} {w : World}
theorem ixvR_run {t : TypeId} {x i : Value} {K : Value → Prop} (h : ixvR P t x i K) : ∃ v, (∀ w, (Instr.index t x i).run P w = .ok v w) ∧ K v := by
  unfold ixvR at h
  split at h
  · rename_i len e he
    split at h
    · rename_i d hd
      split at h
      · rename_i cs k i hg
        obtain ⟨hs, hi, h⟩ := chk_ok h
        replace hs := Nat.eq_of_beq_eq_true hs
        obtain ⟨j, hj, hz⟩ := info_of_size hs (by omega)
        obtain ⟨vs, h⟩ := TVs_ex _ _ h
        obtain ⟨v, rfl, hc, hk⟩ := one?_ex h
        refine ⟨v, fun w => ?_, hk⟩
        have hc' : cs[i.toNat]? = some v := by simpa using hc
        simp [Instr.index, asIntOf, run_underlying he, hi, run_sizeOf hj, hz, part, run_isAgg hd, hg, hc']
      · exact h.elim
    · exact h.elim
  · exact h.elim
theorem findKey_now {kt : TypeId} {kk : IntKind} (hk : P.underlying kt = some (.int kk)) {i : Int} {es : List MapEntry} {q : Option (Nat × Value)} (h : Instr.findNow (.int kk) (.int kk i) es 0 = some q) : (Instr.findKey kt (.int kk i) es).run P w = .ok q w := by
  simp [Instr.findKey, run_underlying hk, h]
theorem checkKey_int {kt : TypeId} {kk : IntKind} (hk : P.underlying kt = some (.int kk)) (b : Bool) (i : Int) : (Instr.checkKey b 10000 kt (.int kk i)).run P w = .ok () w := by
  have key : ∀ n, (Instr.checkKey b (n + 1) kt (.int kk i)).run P w = .ok () w := fun n => by
    unfold Instr.checkKey
    simp [run_underlying hk]
  exact key 9999
theorem getObj_map {r : Nat} {es : Array MapEntry} {c : Nat} (hb : w.heap[r]? = some (.map es c)) : (getObj r).run P w = .ok (.map es c) w := by simp [getObj, Sem.run, hb]
theorem setObj_map {r : Nat} {es : Array MapEntry} {c : Nat} (o : Obj) (hb : w.heap[r]? = some (.map es c)) : (setObj r o).run P w = .ok () { w with heap := w.heap.setIfInBounds r o } := by simp [setObj, Sem.run, hb]
theorem lkR_run {t : TypeId} {x i : Value} {ok : Bool} {K : Value → Prop} (h : lkR P t x i ok w K) : ∃ v, (Instr.lookup t x i ok).run P w = .ok v w ∧ K v := by
  unfold lkR at h
  split at h
  · rename_i kt et ht
    split at h
    · rename_i kk r k i hk
      obtain ⟨hc, es, c, q, hm, hf, h2⟩ := chk_ok h
      clear h
      simp only [Bool.and_eq_true, decide_eq_true_eq] at hc
      obtain ⟨rfl, hz⟩ := hc
      obtain ⟨v, hv, hk2⟩ := TV_ex h2
      refine ⟨_, ?_, hk2⟩
      split at hz
      · rename_i j hj
        cases hzz : j.zero with
        | none => rw [hzz] at hz; cases hz
        | some z =>
          have e0 : zeroB P et = z := by unfold zeroB; rw [hj]; simp only; rw [hzz]
          rw [e0] at hv
          have hzv : (zeroValue et).run P w = .ok z w := by simp [zeroValue, typeInfo, hj, hzz]
          unfold MapAt at hm
          cases r with
          | none =>
            simp only at hm
            subst hm
            have hf' : Instr.findNow (.int k) (.int k i) [] 0 = some q := hf
            have q1 := findKey_now (P := P) (w := w) hk hf'
            have q2 := checkKey_int (P := P) (w := w) hk true i
            cases q with
            | none =>
              simp only [Option.map_none, Option.getD_none] at hv
              subst hv
              cases ok <;> simp [Instr.lookup, run_underlying ht, q1, q2, hzv, okV, Result.andThen]
            | some p =>
              simp only [Option.map_some, Option.getD_some] at hv
              subst hv
              cases ok <;> simp [Instr.lookup, run_underlying ht, q1, q2, okV, Result.andThen]
          | some r =>
            simp only at hm
            have h0 := getObj_map (P := P) hm
            have q1 := findKey_now (P := P) (w := w) hk hf
            have q2 := checkKey_int (P := P) (w := w) hk es.isEmpty i
            cases q with
            | none =>
              simp only [Option.map_none, Option.getD_none] at hv
              subst hv
              cases ok <;> simp [Instr.lookup, run_underlying ht, h0, q1, q2, hzv, okV, Result.andThen]
            | some p =>
              simp only [Option.map_some, Option.getD_some] at hv
              subst hv
              cases ok <;> simp [Instr.lookup, run_underlying ht, h0, q1, q2, okV, Result.andThen]
      · cases hz
    · exact h.elim
  · exact h.elim
theorem muR_run {t : TypeId} {x i v : Value} {K : Value → World → Prop} (h : muR P t x i v w K) : ∃ w', (Instr.mapUpdate t x i v).run P w = .ok () w' ∧ K undef w' := by
  unfold muR at h
  split at h
  · rename_i kt et ht
    split at h
    · rename_i kk r k i hk
      obtain ⟨hc, r', es, c, rfl, hm, hf, h2⟩ := chk_ok h
      clear h
      have hc := of_decide_eq_true hc
      subst hc
      replace hm : w.heap[r']? = some (.map es c) := hm
      refine ⟨_, ?_, h2⟩
      simp [Instr.mapUpdate, run_underlying ht, getObj_map hm, checkKey_int hk, findKey_now hk hf, setObj_map _ hm, putMap]
    · exact h.elim
  · exact h.elim
theorem npR_run {op : BinOp} {t : TypeId} {x y : Value} {ox oy : Operand} {K : Value → Prop} (h : chk (isPtrT P t) (npR op x y K)) : ∃ v, (∀ w, (do eqGuard op t ox oy x y; binOp op t x y : Sem Value).run P w = .ok v w) ∧ K v := by
  obtain ⟨ht, h⟩ := chk_ok h
  unfold isPtrT at ht
  split at ht
  · rename_i e he
    have key1 : ∀ (A : Option Addr) (w : World), (Op.equal t (.pointer A) (.pointer none)).run P w = .ok A.isNone w := fun A w => by
      have : ∀ d, (Op.equalIn (d + 1) t (.pointer A) (.pointer none)).run P w = .ok A.isNone w := fun d => by
        unfold Op.equalIn
        cases A <;> simp [run_underlying he]
      exact this 9999
    have key2 : ∀ (A : Option Addr) (w : World), (Op.equal t (.pointer none) (.pointer A)).run P w = .ok A.isNone w := fun A w => by
      have : ∀ d, (Op.equalIn (d + 1) t (.pointer none) (.pointer A)).run P w = .ok A.isNone w := fun d => by
        unfold Op.equalIn
        cases A <;> simp [run_underlying he]
      exact this 9999
    unfold npR at h
    split at h
    · exact ⟨_, fun w => by simp [eqGuard, binOp, key1], h⟩
    · exact ⟨_, fun w => by simp [eqGuard, binOp, key2], h⟩
    · exact ⟨_, fun w => by simp [eqGuard, binOp, key1], h⟩
    · exact ⟨_, fun w => by simp [eqGuard, binOp, key2], h⟩
    · exact h.elim
  · cases ht
theorem entW_run : ∀ (s : Sem Next) (f : FuncId) (as : Array Value), entW P s = some (f, as) → ∀ w, s.run P w = .ok (.enter f as) w := by
  intro s
  induction s with
  | pure n => intro f as h w; cases n <;> simp [entW] at h; obtain ⟨rfl, rfl⟩ := h; rfl
  | program k ih => intro f as h w; exact ih _ _ _ h w
  | mark m k ih => intro f as h w; exact ih _ _ h w
  | _ => intro f as h; simp [entW] at h
end

/-! ### the generic operation, further -/
/-- '/', '%', '<<', '>>' whose right side is no constant -/
abbrev dvR (op : BinOp) (x y : Value) (K : Value → Prop) : Prop :=
  match op, x, y with
  | .quo, .int k a, .int j b => chk (decide (k = j)) (b ≠ 0 ∧ K (.int k (k.wrap (a.tdiv b))))
  | .rem, .int k a, .int j b => chk (decide (k = j)) (b ≠ 0 ∧ K (.int k (a.tmod b)))
  | .shl, .int k a, .int _ b => 0 ≤ b ∧ K (.int k (k.wrap (a * 2 ^ (min b.toNat k.bits))))
  | .shr, .int k a, .int _ b => 0 ≤ b ∧ K (.int k (a.fdiv (2 ^ (min b.toNat k.bits))))
  | _, _, _ => False
abbrev isDv : BinOp → Bool
  | .quo => true
  | .rem => true
  | .shl => true
  | .shr => true
  | _ => false
/-- The special builtins; the others are run as they are. -/
abbrev biR (P : Program) (b : Builtin) (ts : Array TypeId) (ty : TypeId) (args : List Value) (w : World) (K : Value → World → Prop) : Prop :=
  match b with
  | .append => apR P ts.toList args w K
  | .copy => cpR P ts.toList args w K
  | .len => semW P (do pure (.value (← Builtin.len_ ts ty args.toArray))) w K
  | .cap => semW P (do pure (.value (← Builtin.cap_ ts ty args.toArray))) w K
  | .min => semW P (do pure (.value (← Builtin.min_ ts ty args.toArray))) w K
  | .max => semW P (do pure (.value (← Builtin.max_ ts ty args.toArray))) w K
  | _ => False
abbrev caR (P : Program) (E : Nat → Bool) (c : Call) (ty : TypeId) (s : St) (w : World) (K : Value → World → Prop) : Prop :=
  match c.callee with
  | .value (.func f) => chk (E f) (Calls P f (c.args.toList.map (ev s)).toArray w fun e w' =>
      TVr P (match P.funcs[f]? with | some fn => fn.resultTypes.toList | none => []) fun v => e = .returned v ∧ K v w')
  | .builtin b => biR P b c.argTypes ty (c.args.toList.map (ev s)) w K
  | _ => False
/-- The type at which a comparison stands. -/
abbrev eqT (o : Oper) : TypeId :=
  match o.op with
  | .binOp _ t _ _ _ => t
  | _ => 0
abbrev okMx : Option Operand → Option Operand → Bool
  | none, some _ => false
  | _, _ => true
/-- One operation; 'C', 'Cs' say what loads read. -/
abbrev opR (P : Program) (E : Nat → Bool) (o : Oper) (s : St) (C : Addr → Value → Prop) (Cs : Addr → List Value → Prop) (w : World) (K : Value → World → Prop) : Prop :=
  match o.op with
  | .load t a => ldR P t (ev s a) C Cs fun v => K v w
  | .store t a x => stR P t (ev s a) (ev s x) w (K undef)
  | .indexAddr t x i => ixR P t (ev s x) (ev s i) fun v => K v w
  | .nilCheck x => ncR (ev s x) fun v => K v w
  | .slice t x lo hi mx =>
    chk (okMx hi mx) (slR P t (ev s x) (lo.map (ev s)) (hi.map (ev s)) (mx.map (ev s)) fun v => K v w)
  | .makeSlice t l c => mkR P t (ev s l) (ev s c) w K
  | .index t x i => ixvR P t (ev s x) (ev s i) fun v => K v w
  | .lookup t x i ok => lkR P t (ev s x) (ev s i) ok w fun v => K v w
  | .mapUpdate t m k x => muR P t (ev s m) (ev s k) (ev s x) w K
  | .binOp op _ x y _ =>
    match isDv op && !isConst? y with
    | true => dvR op (ev s x) (ev s y) fun v => K v w
    | false =>
      match isEqA op (ev s x) (ev s y) with
      | true => eqR P op (eqT o) (ev s x) (ev s y) fun v => K v w
      | false =>
        match isNp op (ev s x) (ev s y) with
        | true => chk (isPtrT P (eqT o)) (npR op (ev s x) (ev s y) fun v => K v w)
        | false => semW P (execOp (ev s) o) w K
  | .call c =>
    match c.callee with
    | .invoke _ _ => invR P (entW P (execOp (ev s) o)) w K
    | _ => caR P E c o.type s w K
  | .defer _ => False
  | _ => semW P (execOp (ev s) o) w K
section
variable {P : Program} {E : Nat → Bool} {w : World}
theorem dvR_run {op : BinOp} {t : TypeId} {x y : Value} {K : Value → Prop} (h : dvR op x y K) : ∃ v, (∀ w, (binOp op t x y).run P w = .ok v w) ∧ K v := by
  unfold dvR at h
  split at h
  · obtain ⟨e, h0, hk⟩ := chk_ok h
    have e := of_decide_eq_true e
    subst e; exact ⟨_, fun w => by simp [binOp, Op.intDiv, h0], hk⟩
  · obtain ⟨e, h0, hk⟩ := chk_ok h
    have e := of_decide_eq_true e
    subst e; exact ⟨_, fun w => by simp [binOp, Op.intDiv, h0], hk⟩
  · obtain ⟨h0, hk⟩ := h; exact ⟨_, fun w => by simp [binOp, Op.shift, Int.not_lt.2 h0], hk⟩
  · obtain ⟨h0, hk⟩ := h; exact ⟨_, fun w => by simp [binOp, Op.shift, Int.not_lt.2 h0], hk⟩
  · exact h.elim
end

section
variable {P : Program} {E : Nat → Bool} {w : World} {o : Oper} {s : St} {K : Value → World → Prop} {next : Act → World → Prop} {Q : Exit → Act → World → Prop}
theorem upon_value {v : Value} {w' : World} (hr : (execOp (ev s) o).run P w = .ok (.value v) w') (h : next (act (putS s o.dst v)) w') : o.wp P (act s) w next Q := by
  unfold Oper.wp
  rw [ev_eq, hr, Oper.upon_value, put_eq]
  exact h
theorem upon_skip {w' : World} (hr : (execOp (ev s) o).run P w = .ok .skip w') (h : next (act (putS s o.dst undef)) w') : o.wp P (act s) w next Q := by
  unfold Oper.wp
  rw [ev_eq, hr, Oper.upon_skip, put_eq]
  exact h
theorem semW_wp (h : semW P (execOp (ev s) o) w K) (hK : ∀ v w', K v w' → next (act (putS s o.dst v)) w') : o.wp P (act s) w next Q := by
  have hf := semW_run _ _ _ h
  cases hr : (execOp (ev s) o).run P w with
  | halt x w' => rw [hr] at hf; exact hf.elim
  | ok n w' =>
    rw [hr] at hf
    cases n <;> first | exact hf.elim | exact upon_value hr (hK _ _ hf) | exact upon_skip hr (hK _ _ hf)
theorem map_args (f : Operand → Value) (xs : Array Operand) : xs.map f = (xs.toList.map f).toArray := Array.ext' (by simp)
theorem semV_run {x : Sem Value} (h : semW P (x >>= fun v => pure (Next.value v)) w K) : ∃ v w', x.run P w = .ok v w' ∧ K v w' := by
  have hf := semW_run _ _ _ h
  have hb : (x >>= fun v => (pure (Next.value v) : Sem Next)).run P w = (x.run P w).andThen fun v w' => .ok (.value v) w' := Sem.run_bind ..
  rw [hb] at hf
  cases hr : x.run P w with
  | halt y w' => rw [hr] at hf; exact hf.elim
  | ok v w' => rw [hr] at hf; exact ⟨v, w', rfl, hf⟩
theorem opR_wp (hE : Ents P E) (h : opR P E o s (fun a v => w.cell? a = some v) (At w) w K) (hK : ∀ v w', K v w' → next (act (putS s o.dst v)) w') : o.wp P (act s) w next Q := by
  unfold opR at h
  split at h
  · rename_i t a ho
    obtain ⟨v, hr, hk⟩ := ldR_run h
    exact upon_value (by simp [execOp, ho, hr w (fun _ _ h => h) (fun _ _ h => h)]) (hK _ _ hk)
  · rename_i t a x ho
    obtain ⟨w', hr, hk⟩ := stR_run h
    exact upon_skip (by simp [execOp, ho, hr]) (hK _ _ hk)
  · rename_i t x i ho
    obtain ⟨v, hr, hk⟩ := ixR_run h
    exact upon_value (by simp [execOp, ho, hr]) (hK _ _ hk)
  · rename_i x ho
    unfold ncR at h
    split at h
    · rename_i A hx
      obtain ⟨a, rfl, hk⟩ := h
      exact upon_value (by simp [execOp, ho, hx]) (hK _ _ hk)
    · exact h.elim
  · rename_i t x lo hi mx ho
    obtain ⟨hmx, h⟩ := chk_ok h
    have hm : hi.map (ev s) = none → mx.map (ev s) = none := by
      cases hi <;> cases mx <;> simp_all [okMx]
    obtain ⟨v, hr, hk⟩ := slR_run hm h
    exact upon_value (by simp [execOp, ho, hr]) (hK _ _ hk)
  · rename_i t l c ho
    obtain ⟨v, w', hr, hk⟩ := mkR_run h
    exact upon_value (by simp [execOp, ho, hr]) (hK _ _ hk)
  · rename_i t x i ho
    obtain ⟨v, hr, hk⟩ := ixvR_run h
    exact upon_value (by simp [execOp, ho, hr]) (hK _ _ hk)
  · rename_i t x i ok ho
    obtain ⟨v, hr, hk⟩ := lkR_run h
    exact upon_value (by simp [execOp, ho, hr]) (hK _ _ hk)
  · rename_i t m k x ho
    obtain ⟨w', hr, hk⟩ := muR_run h
    exact upon_skip (by simp [execOp, ho, hr]) (hK _ _ hk)
  · rename_i op t x y u ho
    split at h
    · rename_i hc
      obtain ⟨v, hr, hk⟩ := dvR_run (P := P) (t := t) h
      refine upon_value (v := v) (w' := w) ?_ (hK _ _ hk)
      have hg : (eqGuard op t x y (ev s x) (ev s y)).run P w = .ok () w := by
        have hop : isDv op = true := by
          rw [Bool.and_eq_true] at hc
          exact hc.1
        cases op <;> first | (simp [isDv] at hop; done) | simp [eqGuard]
      simp [execOp, ho, hr, hg]
    · split at h
      · obtain ⟨v, hr, hk⟩ := eqR_run (ox := x) (oy := y) h
        have e : eqT o = t := by unfold eqT; rw [ho]
        rw [e] at hr
        exact upon_value (v := v) (w' := w) (by simp [execOp, ho, (hr w).1, (hr w).2]) (hK _ _ hk)
      · split at h
        · obtain ⟨v, hr, hk⟩ := npR_run (ox := x) (oy := y) h
          have e : eqT o = t := by unfold eqT; rw [ho]
          rw [e] at hr
          have hr := hr w
          exact upon_value (v := v) (w' := w) (by simp only [execOp, ho, Sem.run_bind] at hr ⊢; simp [hr]) (hK _ _ hk)
        · exact semW_wp h hK
  · rename_i c ho
    split at h
    · rename_i rc nm hc
      unfold invR at h
      split at h
      · rename_i f as hen
        have hr := entW_run _ _ _ hen w
        unfold Oper.wp
        rw [ev_eq, hr, Oper.upon_enter]
        refine h.mono fun e w' he => ?_
        obtain ⟨v, rfl, hk⟩ := TVr_ex he
        show next ((act s).put o.dst v) w'
        rw [put_eq]
        exact hK _ _ hk
      · exact h.elim
    unfold caR at h
    split at h
    · rename_i f hf
      obtain ⟨he, h⟩ := chk_ok h
      have hr : (execOp (ev s) o).run P w = .ok (.enter f (c.args.toList.map (ev s)).toArray) w := by
        have := hE.enter f (c.args.toList.map (ev s)).toArray w he
        rw [← map_args] at this ⊢
        simp [execOp, ho, resolve, hf, Deferred.ofValue, invoke, this]
      unfold Oper.wp
      rw [ev_eq, hr, Oper.upon_enter]
      refine h.mono fun e w' he => ?_
      obtain ⟨v, rfl, hk⟩ := TVr_ex he
      show next ((act s).put o.dst v) w'
      rw [put_eq]
      exact hK _ _ hk
    · rename_i b hb
      unfold biR at h
      have hex : ∀ {v : Value} {w' : World} {x : Sem Value}, (execOp (ev s) o = do pure (.value (← x))) → x.run P w = .ok v w' → (execOp (ev s) o).run P w = .ok (.value v) w' := by
        intro v w' x hx hr
        rw [hx]
        simp [hr]
      split at h
      · obtain ⟨v, w', hr, hk⟩ := apR_run (ty := o.type) (ts := c.argTypes) (args := c.args.map (ev s)) (by simpa using h)
        exact upon_value (by simp [execOp, ho, resolve, hb, invoke, builtin, hr]) (hK _ _ hk)
      · obtain ⟨v, w', hr, hk⟩ := cpR_run (ty := o.type) (ts := c.argTypes) (args := c.args.map (ev s)) (by simpa using h)
        exact upon_value (by simp [execOp, ho, resolve, hb, invoke, builtin, hr]) (hK _ _ hk)
      · obtain ⟨v, w', hr, hk⟩ := semV_run h
        rw [← map_args] at hr
        exact upon_value (by simp [execOp, ho, resolve, hb, invoke, builtin, hr]) (hK _ _ hk)
      · obtain ⟨v, w', hr, hk⟩ := semV_run h
        rw [← map_args] at hr
        exact upon_value (by simp [execOp, ho, resolve, hb, invoke, builtin, hr]) (hK _ _ hk)
      · obtain ⟨v, w', hr, hk⟩ := semV_run h
        rw [← map_args] at hr
        exact upon_value (by simp [execOp, ho, resolve, hb, invoke, builtin, hr]) (hK _ _ hk)
      · obtain ⟨v, w', hr, hk⟩ := semV_run h
        rw [← map_args] at hr
        exact upon_value (by simp [execOp, ho, resolve, hb, invoke, builtin, hr]) (hK _ _ hk)
      · exact h.elim
    · exact h.elim
  · exact h.elim
  · exact semW_wp h hK
end

/-! ### an operation that only reads: told of every world that meets 'S' -/
abbrev pureW (P : Program) : Sem Next → Option Value
  | .pure (.value v) => some v
  | .program k => pureW P (k P)
  | _ => none
theorem pureW_run {P : Program} : ∀ (s : Sem Next) (v : Value), pureW P s = some v → ∀ w, s.run P w = .ok (.value v) w := by
  intro s
  induction s with
  | pure n => intro v h w; cases n <;> simp [pureW] at h; subst h; rfl
  | program k ih => intro v h w; exact ih _ _ h w
  | _ => intro v h; simp [pureW] at h
abbrev someK (x : Option Value) (K : Value → Prop) : Prop :=
  match x with
  | some v => K v
  | none => False
theorem someK_ex {x : Option Value} {K : Value → Prop} (h : someK x K) : ∃ v, x = some v ∧ K v := by
  cases x with
  | none => exact h.elim
  | some v => exact ⟨v, rfl, h⟩
abbrev opT (P : Program) (o : Oper) (s : St) (C : Addr → Value → Prop) (Cs : Addr → List Value → Prop) (K : Value → Prop) : Prop :=
  match o.op with
  | .load t a => ldR P t (ev s a) C Cs K
  | .indexAddr t x i => ixR P t (ev s x) (ev s i) K
  | .nilCheck x => ncR (ev s x) K
  | .slice t x lo hi mx =>
    chk (okMx hi mx) (slR P t (ev s x) (lo.map (ev s)) (hi.map (ev s)) (mx.map (ev s)) K)
  | .index t x i => ixvR P t (ev s x) (ev s i) K
  | .binOp op _ x y _ =>
    match isDv op && !isConst? y with
    | true => dvR op (ev s x) (ev s y) K
    | false =>
      match isEqA op (ev s x) (ev s y) with
      | true => eqR P op (eqT o) (ev s x) (ev s y) K
      | false => someK (pureW P (execOp (ev s) o)) K
  | .call c =>
    match c.callee with
    | .builtin .len => someK (pureW P (Builtin.len_ c.argTypes o.type (c.args.toList.map (ev s)).toArray >>= fun v => pure (Next.value v))) K
    | .builtin .cap => someK (pureW P (Builtin.cap_ c.argTypes o.type (c.args.toList.map (ev s)).toArray >>= fun v => pure (Next.value v))) K
    | .builtin .min => someK (pureW P (Builtin.min_ c.argTypes o.type (c.args.toList.map (ev s)).toArray >>= fun v => pure (Next.value v))) K
    | .builtin .max => someK (pureW P (Builtin.max_ c.argTypes o.type (c.args.toList.map (ev s)).toArray >>= fun v => pure (Next.value v))) K
    | _ => False
  | _ => someK (pureW P (execOp (ev s) o)) K
theorem opT_run {P : Program} {o : Oper} {s : St} {C : Addr → Value → Prop} {Cs : Addr → List Value → Prop} {K : Value → Prop} (h : opT P o s C Cs K) :
    ∃ v, (∀ w, (∀ a v, C a v → w.cell? a = some v) → (∀ a vs, Cs a vs → At w a vs) → (execOp (ev s) o).run P w = .ok (.value v) w) ∧ K v := by
  have gen : ∀ {K : Value → Prop}, someK (pureW P (execOp (ev s) o)) K → ∃ v, (∀ w, (∀ a v, C a v → w.cell? a = some v) → (∀ a vs, Cs a vs → At w a vs) → (execOp (ev s) o).run P w = .ok (.value v) w) ∧ K v := by
    intro K h
    obtain ⟨v, hv, hk⟩ := someK_ex h
    exact ⟨v, fun w _ _ => pureW_run _ _ hv w, hk⟩
  unfold opT at h
  split at h
  · rename_i t a ho
    obtain ⟨v, hr, hk⟩ := ldR_run h
    exact ⟨v, fun w h1 h2 => by simp [execOp, ho, hr w h1 h2], hk⟩
  · rename_i t x i ho
    obtain ⟨v, hr, hk⟩ := ixR_run h
    exact ⟨v, fun w _ _ => by simp [execOp, ho, hr], hk⟩
  · rename_i x ho
    unfold ncR at h
    split at h
    · rename_i A hx
      obtain ⟨a, rfl, hk⟩ := h
      exact ⟨_, fun w _ _ => by simp [execOp, ho, hx], hk⟩
    · exact h.elim
  · rename_i t x lo hi mx ho
    obtain ⟨hmx, h⟩ := chk_ok h
    have hm : hi.map (ev s) = none → mx.map (ev s) = none := by
      cases hi <;> cases mx <;> simp_all [okMx]
    obtain ⟨v, hr, hk⟩ := slR_run hm h
    exact ⟨v, fun w _ _ => by simp [execOp, ho, hr], hk⟩
  · rename_i t x i ho
    obtain ⟨v, hr, hk⟩ := ixvR_run h
    exact ⟨v, fun w _ _ => by simp [execOp, ho, hr], hk⟩
  · rename_i op t x y u ho
    split at h
    · rename_i hc
      obtain ⟨v, hr, hk⟩ := dvR_run (P := P) (t := t) h
      refine ⟨v, fun w _ _ => ?_, hk⟩
      have hg : (eqGuard op t x y (ev s x) (ev s y)).run P w = .ok () w := by
        have hop : isDv op = true := by
          rw [Bool.and_eq_true] at hc
          exact hc.1
        cases op <;> first | (simp [isDv] at hop; done) | simp [eqGuard]
      simp [execOp, ho, hr, hg]
    · split at h
      · obtain ⟨v, hr, hk⟩ := eqR_run (ox := x) (oy := y) h
        have e : eqT o = t := by unfold eqT; rw [ho]
        rw [e] at hr
        exact ⟨v, fun w _ _ => by simp [execOp, ho, (hr w).1, (hr w).2], hk⟩
      · exact gen h
  · rename_i c ho
    split at h
    all_goals first | exact h.elim | skip
    all_goals
      rename_i hb
      obtain ⟨v, hv, hk⟩ := someK_ex h
      refine ⟨v, fun w _ _ => ?_, hk⟩
      have hr := pureW_run _ _ hv w
      rw [← map_args] at hr
      simpa [execOp, ho, resolve, hb, invoke, builtin] using hr
  · exact gen h

/-! ### regions -/
/-- Is operation i's answer a guard of another? -/
def isGd (ops : List Oper) (i : Nat) : Bool := ops.any fun o => match o.guard with
  | some (j, _) => Nat.beq j i
  | none => false
/-- A guard is told apart at once. -/
abbrev splitB (b : Bool) (v : Value) (K : Value → Prop) : Prop :=
  match b, v with
  | true, .bool c => if c = true then K (.bool true) else K (.bool false)
  | _, v => K v
theorem splitB_ok {b : Bool} {v : Value} {K : Value → Prop} (h : splitB b v K) : K v := by
  unfold splitB at h
  split at h
  · rename_i c
    cases c <;> simpa using h
  · exact h
/-- A list's spine is worked out ahead. -/
def forceL : List Value → (List Value → Prop) → Prop
  | [], K => K []
  | x :: l, K => forceL l fun l' => K (x :: l')
theorem forceL_eq : ∀ (l : List Value) (K : List Value → Prop), forceL l K = K l
  | [], K => rfl
  | x :: l, K => by unfold forceL; rw [forceL_eq l]
def runO (P : Program) (E : Nat → Bool) (ops : Array Oper) : List Oper → Nat → St → World → (St → World → Prop) → Prop
  | [], _, s, w, K => K s w
  | o :: l, i, s, w, K =>
    match Region.wanted o (yielded ops s.toArray) with
    | true => opR P E o s (fun a v => w.cell? a = some v) (At w) w fun v w' => splitB (isGd ops.toList i) v fun v => forceL (putS s o.dst v) fun s => runO P E ops l (i + 1) s w' K
    | false => forceL (putS s o.dst undef) fun s => runO P E ops l (i + 1) s w K
/-- The order of a drawing region's operations: one that only reads; one alone; one of two, whichever comes first; one that ends the region, behind which S need not hold. -/
inductive Od where
  | nil
  | tk (i : Nat) (l : Od)
  | on (i : Nat) (l : Od)
  | two (i j : Nat) (l r : Od)
  | tri (i j k : Nat) (l m r : Od)
  | last (i : Nat)
def Od.len : Od → Nat
  | .nil => 0
  | .tk _ l => l.len + 1
  | .on _ l => l.len + 1
  | .two _ _ l _ => l.len + 1
  | .tri _ _ _ l _ _ => l.len + 1
  | .last _ => 1
def runD (P : Program) (E : Nat → Bool) (ops : Array Oper) (S : World → Prop) : Od → St → World → (St → World → Prop) → Prop
  | .nil, s, w, K => K s w
  | .tk i l, s, w, K =>
    match ops.toList[i]? with
    | none => False
    | some o =>
      match Region.wanted o (yielded ops s.toArray) with
      | false => runD P E ops S l (putS s o.dst undef) w K
      | true => opT P o s (fun a v => ∀ w', S w' → w'.cell? a = some v) (fun a vs => ∀ w', S w' → At w' a vs) fun v => splitB (isGd ops.toList i) v fun v => runD P E ops S l (putS s o.dst v) w K
  | .on i l, s, w, K =>
    match ops.toList[i]? with
    | none => False
    | some o =>
      match Region.wanted o (yielded ops s.toArray) with
      | false => runD P E ops S l (putS s o.dst undef) w K
      | true => opR P E o s (fun a v => w.cell? a = some v) (At w) w fun v w' => S w' ∧ splitB (isGd ops.toList i) v fun v => runD P E ops S l (putS s o.dst v) w' K
  | .two i j l r, s, w, K =>
    (match ops.toList[i]? with
    | none => False
    | some o =>
      match Region.wanted o (yielded ops s.toArray) with
      | false => runD P E ops S l (putS s o.dst undef) w K
      | true => opR P E o s (fun a v => w.cell? a = some v) (At w) w fun v w' => S w' ∧ splitB (isGd ops.toList i) v fun v => runD P E ops S l (putS s o.dst v) w' K) ∧
    (match ops.toList[j]? with
    | none => False
    | some o =>
      match Region.wanted o (yielded ops s.toArray) with
      | false => runD P E ops S r (putS s o.dst undef) w K
      | true => opR P E o s (fun a v => w.cell? a = some v) (At w) w fun v w' => S w' ∧ splitB (isGd ops.toList j) v fun v => runD P E ops S r (putS s o.dst v) w' K)
  | .tri i j k l m r, s, w, K =>
    (match ops.toList[i]? with
    | none => False
    | some o =>
      match Region.wanted o (yielded ops s.toArray) with
      | false => runD P E ops S l (putS s o.dst undef) w K
      | true => opR P E o s (fun a v => w.cell? a = some v) (At w) w fun v w' => S w' ∧ splitB (isGd ops.toList i) v fun v => runD P E ops S l (putS s o.dst v) w' K) ∧
    (match ops.toList[j]? with
    | none => False
    | some o =>
      match Region.wanted o (yielded ops s.toArray) with
      | false => runD P E ops S m (putS s o.dst undef) w K
      | true => opR P E o s (fun a v => w.cell? a = some v) (At w) w fun v w' => S w' ∧ splitB (isGd ops.toList j) v fun v => runD P E ops S m (putS s o.dst v) w' K) ∧
    (match ops.toList[k]? with
    | none => False
    | some o =>
      match Region.wanted o (yielded ops s.toArray) with
      | false => runD P E ops S r (putS s o.dst undef) w K
      | true => opR P E o s (fun a v => w.cell? a = some v) (At w) w fun v w' => S w' ∧ splitB (isGd ops.toList k) v fun v => runD P E ops S r (putS s o.dst v) w' K)
  | .last i, s, w, K =>
    match ops.toList[i]? with
    | none => False
    | some o =>
      match Region.wanted o (yielded ops s.toArray) with
      | false => K (putS s o.dst undef) w
      | true => opR P E o s (fun a v => w.cell? a = some v) (At w) w fun v w' => K (putS s o.dst v) w'
/-- It waits for another one. -/
def waits1 (ops : Array Oper) (j k : Nat) : Bool :=
  match ops.toList[j]? with
  | none => false
  | some o => o.after.toList.any fun e => Region.binds .any e && Nat.beq e.on k
/-- It waits for another one, through n at most. -/
def waitsN (ops : Array Oper) : Nat → Nat → Nat → Bool
  | 0, j, k => waits1 ops j k
  | n + 1, j, k =>
    waits1 ops j k ||
      match ops.toList[j]? with
      | none => false
      | some o => o.after.toList.any fun e => Region.binds .any e && waitsN ops n e.on k
/-- It waits for all others, or for one that waits for them, and so on. -/
def waitsAll (ops : Array Oper) (j : Nat) : Bool :=
  match ops.toList[j]? with
  | none => false
  | some _ => (List.range ops.size).all fun k => Nat.beq k j || waitsN ops 3 j k
/-- What is done waited for nothing that is not. -/
def Closed (ops : Array Oper) (listed : Array Bool) : Prop := ∀ (m : Nat) (om : Oper), ops[m]? = some om → listed.getD m false = true → ∀ e ∈ om.after, Region.binds .any e = true → listed.getD e.on false = true
theorem waits1_ex {ops : Array Oper} {j k : Nat} (h : waits1 ops j k = true) : ∃ o, ops[j]? = some o ∧ ∃ e ∈ o.after, Region.binds .any e = true ∧ e.on = k := by
  unfold waits1 at h
  split at h
  · cases h
  · rename_i om hom
    obtain ⟨e2, he2, h7⟩ := List.any_eq_true.1 h
    simp only [Bool.and_eq_true] at h7
    exact ⟨om, by simpa using hom, e2, by simpa using he2, h7.1, Nat.eq_of_beq_eq_true h7.2⟩
theorem waitsN_ex {ops : Array Oper} {n j k : Nat} (h : waitsN ops (n + 1) j k = true) : waits1 ops j k = true ∨ ∃ o, ops[j]? = some o ∧ ∃ e ∈ o.after, Region.binds .any e = true ∧ waitsN ops n e.on k = true := by
  unfold waitsN at h
  rw [Bool.or_eq_true] at h
  rcases h with h | h
  · exact Or.inl h
  · right
    split at h
    · cases h
    · rename_i om hom
      obtain ⟨e2, he2, h7⟩ := List.any_eq_true.1 h
      simp only [Bool.and_eq_true] at h7
      exact ⟨om, by simpa using hom, e2, by simpa using he2, h7.1, h7.2⟩
theorem waitsN_listed {ops : Array Oper} {listed : Array Bool} (h : Closed ops listed) : ∀ (n j k : Nat), listed.getD j false = true → waitsN ops n j k = true → listed.getD k false = true
  | 0, j, k, hj, hw => by
    obtain ⟨o, ho, e, he, hb, rfl⟩ := waits1_ex (by unfold waitsN at hw; exact hw)
    exact h j o ho hj e he hb
  | n + 1, j, k, hj, hw => by
    rcases waitsN_ex hw with hw | ⟨o, ho, e, he, hb, hw⟩
    · obtain ⟨o, ho, e, he, hb, rfl⟩ := waits1_ex hw
      exact h j o ho hj e he hb
    · exact waitsN_listed h n e.on k (h j o ho hj e he hb) hw
theorem Closed.set {ops : Array Oper} {listed : Array Bool} (h : Closed ops listed) {j : Nat} (hj : j ∈ Region.ready .any ops listed) : Closed ops (listed.setIfInBounds j true) := by
  intro m om hm hl e he hb
  rcases Decidable.em (j = m) with rfl | hjm
  · obtain ⟨_, oj, hoj, hall⟩ := mem_ready.1 hj
    rw [hm] at hoj
    injection hoj with hoj
    subst hoj
    exact getD_set_true (hall e he hb)
  · rw [getD_set_ne false hjm] at hl
    exact getD_set_true (h m om hm hl e he hb)
theorem Closed.none (ops : Array Oper) (n : Nat) : Closed ops (Array.replicate n false) := by
  intro m om hm hl
  rcases Nat.lt_or_ge m n with h | h
  · simp [h] at hl
  · simp [h] at hl
def chkD (ops : Array Oper) : Od → Array Bool → Bool
  | .nil, listed => (Region.ready .any ops listed).isEmpty
  | .tk i l, listed => (Region.ready .any ops listed).contains i && Region.free .any ops listed i && chkD ops l (listed.setIfInBounds i true)
  | .on i l, listed => (Region.ready .any ops listed == [i]) && chkD ops l (listed.setIfInBounds i true)
  | .two i j l r, listed => (Region.ready .any ops listed == [i, j]) && Nat.beq l.len r.len && chkD ops l (listed.setIfInBounds i true) && chkD ops r (listed.setIfInBounds j true)
  | .tri i j k l m r, listed => (Region.ready .any ops listed == [i, j, k]) && (Nat.beq l.len m.len && Nat.beq l.len r.len) && chkD ops l (listed.setIfInBounds i true) && chkD ops m (listed.setIfInBounds j true) && chkD ops r (listed.setIfInBounds k true)
  | .last i, listed => (Region.ready .any ops listed == [i]) && waitsAll ops i && (Region.ready .any ops (listed.setIfInBounds i true)).isEmpty
/-- Whatever order is picked, S holding behind every operation but one that waits for all others. -/
def anyK (P : Program) (ops : Array Oper) (Q : Exit → Act → World → Prop) (S : World → Prop) : Nat → Array Bool → Act → World → Prop
  | 0, listed, a, w => Region.ready .any ops listed = [] ∧ Q .normal a w
  | n + 1, listed, a, w => (Region.ready .any ops listed = [] → Q .normal a w) ∧
    ∀ i, i ∈ Region.ready .any ops listed → wpOp P ops Q i (fun a' w' => (waitsAll ops i = false → S w') ∧ anyK P ops Q S n (listed.setIfInBounds i true) a' w') a w
theorem anyK_any {P : Program} {ops : Array Oper} {Q : Exit → Act → World → Prop} {S : World → Prop} : ∀ (n : Nat) (listed : Array Bool) (a : Act) (w : World), anyK P ops Q S n listed a w → wpAny P .any ops Q n listed a w
  | 0, _, _, _, h => h
  | n + 1, _, _, _, h => ⟨h.1, fun i hi => wpOp_mono (fun a' w' k => anyK_any n _ a' w' k.2) (h.2 i hi)⟩
/-- One that yields its value in every world that meets S may come first. -/
theorem anyK_take {P : Program} {ops : Array Oper} {Q : Exit → Act → World → Prop} {S : World → Prop} {i : Nat} {o : Oper} {v : Value} (ho : ops[i]? = some o) (hs : Region.noSelect ops = true)
    (hQ : ∀ c a w, Q (.panic c) (a.put o.dst v) w → Q (.panic c) a w) : ∀ (n : Nat) (listed : Array Bool) (a : Act) (w : World),
      (∀ (j : Nat) (oj : Oper), ops[j]? = some oj → j ≠ i → listed.getD j true = false → (∀ e ∈ oj.after, Region.binds .any e = true → e.on ≠ i) → o.apart ops oj = true) → Closed ops listed →
      i ∈ Region.ready .any ops listed → YieldsIf P ops S o v a → S w → anyK P ops Q S n (listed.setIfInBounds i true) (a.put o.dst v) w → anyK P ops Q S (n + 1) listed a w := by
  have hsel := Region.noSelect_spec hs
  intro n
  induction n with
  | zero =>
    intro listed a w _ _ hr hy hS H
    refine ⟨fun h => (by rw [h] at hr; cases hr), fun j hj => ?_⟩
    rcases Decidable.em (j = i) with rfl | hji
    · exact hy.wpOp ho hS ⟨fun _ => hS, H⟩
    · have h2 := ready_mono hj hji
      rw [H.1] at h2
      cases h2
  | succ n ih =>
    intro listed a w hfree hcl hr hy hS H
    refine ⟨fun h => (by rw [h] at hr; cases hr), fun j hj => ?_⟩
    rcases Decidable.em (j = i) with rfl | hji
    · exact hy.wpOp ho hS ⟨fun _ => hS, H⟩
    · obtain ⟨hjun, oj, hoj, hall⟩ := mem_ready.1 hj
      have hun : listed.getD i true = false := (mem_ready.1 hr).1
      have hnot : ∀ e ∈ oj.after, Region.binds .any e = true → e.on ≠ i := fun e he hb heq => by
        have h1 := hall e he hb
        rw [heq] at h1
        rcases Nat.lt_or_ge i listed.size with h' | h'
        · simp [h'] at hun h1; rw [hun] at h1; cases h1
        · simp [Array.getElem?_eq_none h'] at h1
      have h2 := wpOp_putIf hoj (hfree j oj hoj hji hjun hnot) (fun cs b => hsel i o cs b ho) (fun cs b => hsel j oj cs b hoj) hQ hy (H.2 j (ready_mono hj hji))
      have hri := ready_mono hr (Ne.symm hji)
      refine wpOp_mono (fun a' w' k => ?_) h2
      have hnw : waitsAll ops j = false := by
        cases hw : waitsAll ops j with
        | false => rfl
        | true =>
          unfold waitsAll at hw
          have hoj' : ops.toList[j]? = some oj := by simpa using hoj
          rw [hoj'] at hw
          have hsz : i < ops.size := (Array.getElem?_eq_some_iff.1 ho).1
          have h3 := List.all_eq_true.1 hw i (List.mem_range.2 hsz)
          rw [show Nat.beq i j = false by
            cases hb : Nat.beq i j with
            | false => rfl
            | true => exact absurd (Nat.eq_of_beq_eq_true hb) (Ne.symm hji), Bool.false_or] at h3
          have h8 : listed.getD i false = true := by
            rcases waitsN_ex h3 with h4 | ⟨o2, ho2, e, he, hb, h4⟩
            · obtain ⟨o2, ho2, e, he, hb, e2⟩ := waits1_ex h4
              rw [hoj] at ho2
              injection ho2 with ho2
              subst ho2
              exact absurd e2 (hnot e he hb)
            · rw [hoj] at ho2
              injection ho2 with ho2
              subst ho2
              exact waitsN_listed hcl 2 e.on i (hall e he hb) h4
          rcases Nat.lt_or_ge i listed.size with h' | h'
          · simp [h'] at hun h8; rw [hun] at h8; cases h8
          · simp [Array.getElem?_eq_none h'] at h8
      have hS' : S w' := k.2.1 hnw
      refine ⟨fun _ => hS', ih (listed.setIfInBounds j true) a' w' (fun m om hm hmi hmu hno => ?_) (hcl.set hj) hri k.1 hS' ?_⟩
      · refine hfree m om hm hmi ?_ hno
        rcases Decidable.em (j = m) with rfl | hjm
        · exact hjun
        · rw [getD_set_ne true hjm] at hmu; exact hmu
      · rw [Array.setIfInBounds_comm _ _ hji]
        exact k.2.2

section
variable {P : Program} {E : Nat → Bool} {ops : Array Oper}
theorem runO_ok (hE : Ents P E) {Q : Exit → Act → World → Prop} {K : St → World → Prop} (hQ : ∀ s w, K s w → Q .normal (act s) w) :
    ∀ (l : List Oper) (i : Nat) (s : St) (w : World), runO P E ops l i s w K → wpList P ops Q l (act s) w := by
  intro l
  induction l with
  | nil => intro i s w h; exact hQ _ _ h
  | cons o l ih =>
    intro i s w h
    unfold runO at h
    unfold wpList
    split at h
    · rename_i hw
      rw [if_pos (by exact hw)]
      exact .inl (opR_wp hE h fun v w' hv => ih _ _ _ (Eq.mp (forceL_eq _ _) (splitB_ok hv)))
    · rename_i hw
      rw [if_neg (by intro h2; rw [show yielded ops (act s).tmps = yielded ops s.toArray from rfl, hw] at h2; cases h2), put_eq]
      exact ih _ _ _ (Eq.mp (forceL_eq _ _) h)
theorem runD_ok (hE : Ents P E) (hs : Region.noSelect ops = true) {S : World → Prop} {Q : Exit → Act → World → Prop} {K : St → World → Prop} (hQ : ∀ s w, K s w → Q .normal (act s) w) :
    ∀ (l : Od) (listed : Array Bool) (s : St) (w : World), S w → Closed ops listed → chkD ops l listed = true → runD P E ops S l s w K → anyK P ops (NoPanic Q) S l.len listed (act s) w := by
  intro l
  induction l with
  | nil =>
    intro listed s w hS hcl hc h
    exact ⟨by simpa [chkD] using hc, NoPanic.normal (hQ _ _ h)⟩
  | tk i l ih =>
    intro listed s w hS hcl hc h
    unfold runD at h
    split at h
    · exact h.elim
    · rename_i o ho
      have ho' : ops[i]? = some o := by simpa using ho
      split at h
      · rename_i hw
        simp only [chkD, Bool.and_eq_true] at hc
        obtain ⟨⟨hr, hf⟩, hc⟩ := hc
        refine anyK_take (v := undef) ho' hs (fun c a w h => h.elim) _ _ _ _ (Region.free_spec ho' hf) hcl (by simpa using hr) (.inr ⟨hw, rfl⟩) hS ?_
        rw [put_eq]
        exact ih _ _ _ hS (hcl.set (by simpa using hr)) hc h
      · rename_i hw
        simp only [chkD, Bool.and_eq_true] at hc
        obtain ⟨⟨hr, hf⟩, hc⟩ := hc
        obtain ⟨v, hv, hk⟩ := opT_run h
        refine anyK_take (v := v) ho' hs (fun c a w h => h.elim) _ _ _ _ (Region.free_spec ho' hf) hcl (by simpa using hr) (.inl ⟨hw, fun w' hS' => ?_⟩) hS ?_
        · rw [ev_eq]
          exact hv w' (fun a v h => h w' hS') (fun a vs h => h w' hS')
        · rw [put_eq]
          exact ih _ _ _ hS (hcl.set (by simpa using hr)) hc (splitB_ok hk)
  | on i l ih =>
    intro listed s w hS hcl hc h
    simp only [chkD, Bool.and_eq_true, beq_iff_eq] at hc
    obtain ⟨hr, hc⟩ := hc
    refine ⟨fun h0 => (by rw [hr] at h0; cases h0), fun j hj => ?_⟩
    rw [hr] at hj
    have hj : j = i := by simpa using hj
    subst hj
    unfold runD at h
    split at h
    · exact h.elim
    · rename_i o ho
      have ho' : ops[j]? = some o := by simpa using ho
      unfold wpOp
      simp only [ho']
      split at h
      · rename_i hw
        rw [if_neg (by intro h2; rw [show yielded ops (act s).tmps = yielded ops s.toArray from rfl, hw] at h2; cases h2), put_eq]
        exact ⟨fun _ => hS, ih _ _ _ hS (hcl.set (by rw [hr]; simp)) hc h⟩
      · rename_i hw
        rw [if_pos (by exact hw)]
        exact .inl (opR_wp hE h fun v w' hv => ⟨fun _ => hv.1, ih _ _ _ hv.1 (hcl.set (by rw [hr]; simp)) hc (splitB_ok hv.2)⟩)
  | two i j l r ihl ihr =>
    intro listed s w hS hcl hc h
    simp only [chkD, Bool.and_eq_true, beq_iff_eq] at hc
    obtain ⟨⟨⟨hr, hlen⟩, hcl'⟩, hcr⟩ := hc
    have hlen := Nat.eq_of_beq_eq_true hlen
    refine ⟨fun h0 => (by rw [hr] at h0; cases h0), fun k hk => ?_⟩
    rw [hr] at hk
    unfold runD at h
    obtain ⟨h1, h2⟩ := h
    have hk : k = i ∨ k = j := by simpa using hk
    rcases hk with rfl | rfl
    · split at h1
      · exact h1.elim
      · rename_i o ho
        have ho' : ops[k]? = some o := by simpa using ho
        unfold wpOp
        simp only [ho']
        split at h1
        · rename_i hw
          rw [if_neg (by intro h2; rw [show yielded ops (act s).tmps = yielded ops s.toArray from rfl, hw] at h2; cases h2), put_eq]
          exact ⟨fun _ => hS, ihl _ _ _ hS (hcl.set (by rw [hr]; simp)) hcl' h1⟩
        · rename_i hw
          rw [if_pos (by exact hw)]
          exact .inl (opR_wp hE h1 fun v w' hv => ⟨fun _ => hv.1, ihl _ _ _ hv.1 (hcl.set (by rw [hr]; simp)) hcl' (splitB_ok hv.2)⟩)
    · split at h2
      · exact h2.elim
      · rename_i o ho
        have ho' : ops[k]? = some o := by simpa using ho
        unfold wpOp
        simp only [ho']
        split at h2
        · rename_i hw
          rw [if_neg (by intro h2; rw [show yielded ops (act s).tmps = yielded ops s.toArray from rfl, hw] at h2; cases h2), put_eq, hlen]
          exact ⟨fun _ => hS, ihr _ _ _ hS (hcl.set (by rw [hr]; simp)) hcr h2⟩
        · rename_i hw
          rw [if_pos (by exact hw), hlen]
          exact .inl (opR_wp hE h2 fun v w' hv => ⟨fun _ => hv.1, ihr _ _ _ hv.1 (hcl.set (by rw [hr]; simp)) hcr (splitB_ok hv.2)⟩)
  | tri i j k l m r ihl ihm ihr =>
    intro listed s w hS hcl hc h
    simp only [chkD, Bool.and_eq_true, beq_iff_eq] at hc
    obtain ⟨⟨⟨⟨hr, hlen, hlen2⟩, hcl'⟩, hcm⟩, hcr⟩ := hc
    have hlen := Nat.eq_of_beq_eq_true hlen
    have hlen2 := Nat.eq_of_beq_eq_true hlen2
    refine ⟨fun h0 => (by rw [hr] at h0; cases h0), fun z hz => ?_⟩
    rw [hr] at hz
    unfold runD at h
    obtain ⟨h1, h2', h3⟩ := h
    have hz : z = i ∨ z = j ∨ z = k := by simpa using hz
    rcases hz with rfl | rfl | rfl
    · split at h1
      · exact h1.elim
      · rename_i o ho
        have ho' : ops[z]? = some o := by simpa using ho
        unfold wpOp
        simp only [ho']
        split at h1
        · rename_i hw
          rw [if_neg (by intro h2; rw [show yielded ops (act s).tmps = yielded ops s.toArray from rfl, hw] at h2; cases h2), put_eq]
          exact ⟨fun _ => hS, ihl _ _ _ hS (hcl.set (by rw [hr]; simp)) hcl' h1⟩
        · rename_i hw
          rw [if_pos (by exact hw)]
          exact .inl (opR_wp hE h1 fun v w' hv => ⟨fun _ => hv.1, ihl _ _ _ hv.1 (hcl.set (by rw [hr]; simp)) hcl' (splitB_ok hv.2)⟩)
    · split at h2'
      · exact h2'.elim
      · rename_i o ho
        have ho' : ops[z]? = some o := by simpa using ho
        unfold wpOp
        simp only [ho']
        split at h2'
        · rename_i hw
          rw [if_neg (by intro h2; rw [show yielded ops (act s).tmps = yielded ops s.toArray from rfl, hw] at h2; cases h2), put_eq, hlen]
          exact ⟨fun _ => hS, ihm _ _ _ hS (hcl.set (by rw [hr]; simp)) hcm h2'⟩
        · rename_i hw
          rw [if_pos (by exact hw), hlen]
          exact .inl (opR_wp hE h2' fun v w' hv => ⟨fun _ => hv.1, ihm _ _ _ hv.1 (hcl.set (by rw [hr]; simp)) hcm (splitB_ok hv.2)⟩)
    · split at h3
      · exact h3.elim
      · rename_i o ho
        have ho' : ops[z]? = some o := by simpa using ho
        unfold wpOp
        simp only [ho']
        split at h3
        · rename_i hw
          rw [if_neg (by intro h2; rw [show yielded ops (act s).tmps = yielded ops s.toArray from rfl, hw] at h2; cases h2), put_eq, hlen2]
          exact ⟨fun _ => hS, ihr _ _ _ hS (hcl.set (by rw [hr]; simp)) hcr h3⟩
        · rename_i hw
          rw [if_pos (by exact hw), hlen2]
          exact .inl (opR_wp hE h3 fun v w' hv => ⟨fun _ => hv.1, ihr _ _ _ hv.1 (hcl.set (by rw [hr]; simp)) hcr (splitB_ok hv.2)⟩)
  | last i =>
    intro listed s w hS hcl hc h
    simp only [chkD, Bool.and_eq_true, beq_iff_eq] at hc
    obtain ⟨⟨hr, hw⟩, hz⟩ := hc
    refine ⟨fun h0 => (by rw [hr] at h0; cases h0), fun j hj => ?_⟩
    rw [hr] at hj
    have hj : j = i := by simpa using hj
    subst hj
    have nw : ¬ waitsAll ops j = false := by rw [hw]; decide
    have hz' : Region.ready .any ops (listed.setIfInBounds j true) = [] := by simpa using hz
    unfold runD at h
    split at h
    · exact h.elim
    · rename_i o ho
      have ho' : ops[j]? = some o := by simpa using ho
      unfold wpOp
      simp only [ho']
      split at h
      · rename_i hw'
        rw [if_neg (by intro h2; rw [show yielded ops (act s).tmps = yielded ops s.toArray from rfl, hw'] at h2; cases h2), put_eq]
        exact ⟨fun hx => absurd hx nw, hz', NoPanic.normal (hQ _ _ h)⟩
      · rename_i hw'
        rw [if_pos (by exact hw')]
        exact .inl (opR_wp hE h fun v w' hv => ⟨fun hx => absurd hx nw, hz', NoPanic.normal (hQ _ _ hv)⟩)
end

/-! ### code -/
/-- A word that stands above 'Calls', so that the kernel unfolds what bears it ahead of a call. -/
def high {α : Sort _} (x : α) : α := (fun (_ : Program → FuncId → Array Value → World → (Ending → World → Prop) → Prop) => x) Calls
def thenQ (K : St → World → Prop) (Q : Exit → St → World → Prop) (e : Exit) (s : St) (w : World) : Prop :=
  high (match e with
    | .normal => K s w
    | e => Q e s w)
def inBlk (id : Nat) (Q : Exit → St → World → Prop) (e : Exit) (s : St) (w : World) : Prop :=
  high (match e with
    | .exit j =>
      match Nat.beq j id with
      | true => Q .normal s w
      | false => Q (.exit j) s w
    | e => Q e s w)
/-- n rounds of a loop at most. -/
def iter (B : (St → World → Prop) → St → World → Prop) : Nat → St → World → Prop
  | 0, _, _ => False
  | n + 1, s, w => B (iter B n) s w
/-- Where several ways meet again. -/
structure Leaf (p : Prop) : Prop where
  out : p
abbrev lf (b : Bool) (p : Prop) : Prop :=
  match b with
  | true => Leaf p
  | false => p
theorem lf_ok {b : Bool} {p : Prop} (h : lf b p) : p := by
  cases b with
  | true => exact h.out
  | false => exact h
/-- 'J': the places (paths, the last step first) that are pieces of their own. -/
def runC (P : Program) (E : Nat → Bool) (ords : Nat → Od) (J : List Nat → Bool) : List Nat → Code → St → World → (Exit → St → World → Prop) → Prop
  | _, .skip, s, w, Q => Q .normal s w
  | _, .region id ops d, s, w, Q =>
    match d with
    | false => runO P E ops ops.toList 0 s w (Q .normal)
    | true => chk (Region.noSelect ops && Nat.beq (ords id).len ops.size && chkD ops (ords id) (Array.replicate ops.size false)) (∃ S : World → Prop, S w.drew ∧ runD P E ops S (ords id) s w.drew (Q .normal))
  | p, .seq x y, s, w, Q => runC P E ords J (0 :: p) x s w (thenQ (fun s w => lf (J (1 :: p)) (runC P E ords J (1 :: p) y s w Q)) Q)
  | p, .cond c x y, s, w, Q =>
    match ev s c with
    | .bool b => if b = true then runC P E ords J (0 :: p) x s w Q else runC P E ords J (1 :: p) y s w Q
    | _ => False
  | p, .block id c, s, w, Q => runC P E ords J (0 :: p) c s w (inBlk id Q)
  | p, .loop c, s, w, Q => ∃ n, iter (fun X s w => runC P E ords J (0 :: p) c s w (thenQ X Q)) n s w
  | _, .exit id, s, w, Q => Q (.exit id) s w
  | _, .ret, s, w, Q => Q .ret s w
  | _, _, _, _, _ => False
def lift (Q : Exit → St → World → Prop) (e : Exit) (a : Act) (w : World) : Prop := ∃ s, a = act s ∧ Q e s w
theorem runC_ok {P : Program} {E : Nat → Bool} {ords : Nat → Od} {J : List Nat → Bool} (hE : Ents P E) (hm : P.follows .mixedOrders = true) :
    ∀ (c : Code) (p : List Nat) (s : St) (w : World) (Q : Exit → St → World → Prop), runC P E ords J p c s w Q → c.wp P (lift Q) (act s) w := by
  intro c
  induction c with
  | skip => intro p s w Q h; exact wp_skip ⟨s, rfl, h⟩
  | region id ops d =>
    intro p s w Q h
    cases d with
    | false => exact wp_region_list (runO_ok hE (K := Q .normal) (fun s w h => ⟨s, rfl, h⟩) _ _ _ _ h)
    | true =>
      unfold runC at h
      simp only at h
      obtain ⟨hc, h⟩ := chk_ok h
      obtain ⟨S, hS, h⟩ := h
      simp only [Bool.and_eq_true] at hc
      obtain ⟨⟨hs, hl⟩, hc⟩ := hc
      refine wp_region_noPanic (wp_region_any hm (anyK_any (S := S) _ _ _ _ ?_))
      have := runD_ok hE hs (Q := lift Q) (K := Q .normal) (fun s w h => ⟨s, rfl, h⟩) _ _ _ _ hS (Closed.none _ _) hc h
      rw [Nat.eq_of_beq_eq_true hl] at this
      exact this
  | seq x y ihx ihy =>
    intro p s w Q h
    refine wp_seq (Code.wp_mono ?_ (ihx _ _ _ _ h))
    rintro e a w ⟨s, rfl, h⟩
    cases e <;> first | exact ihy _ _ _ _ (lf_ok h) | exact ⟨s, rfl, h⟩
  | cond c x y ihx ihy =>
    intro p s w Q h
    unfold runC at h
    split at h
    · rename_i b hb
      refine wp_cond (t := b) (by rw [ev_eq]; exact hb) ?_
      cases b with
      | true => exact ihx _ _ _ _ (by simpa using h)
      | false => exact ihy _ _ _ _ (by simpa using h)
    · exact h.elim
  | block id c ih =>
    intro p s w Q h
    refine wp_block (Code.wp_mono ?_ (ih _ _ _ _ h))
    rintro e a w ⟨s, rfl, h⟩
    cases e with
    | exit j =>
      simp only [Exit.inBlock, inBlk] at h ⊢
      by_cases hj : j = id
      · subst hj
        rw [Nat.beq_refl j] at h
        rw [if_pos rfl]
        exact ⟨s, rfl, h⟩
      · have hb : Nat.beq j id = false := by
          cases hb : Nat.beq j id with
          | true => exact absurd (Nat.eq_of_beq_eq_true hb) hj
          | false => rfl
        rw [hb] at h
        rw [if_neg hj]
        exact ⟨s, rfl, h⟩
    | _ => exact ⟨s, rfl, h⟩
  | loop c ih =>
    intro p s w Q h
    obtain ⟨n, h⟩ := h
    have key : ∀ n s w, iter (fun X s w => runC P E ords J (0 :: p) c s w (thenQ X Q)) n s w → ∀ b k cs, ∃ e a' w', lift Q e a' w' ∧ Arrives P (lone (b.at (act s) (.code c :: .inLoop c :: k)) cs w) b k cs e a' w' := by
      intro n
      induction n with
      | zero => intro s w h; exact h.elim
      | succ n ihn =>
        intro s w h b k cs
        obtain ⟨e, a₁, w₁, ⟨s₁, rfl, hq⟩, harr⟩ := ih _ _ _ _ h b (.inLoop c :: k) cs
        cases e with
        | normal =>
          obtain ⟨e₂, a₂, w₂, hq₂, harr₂⟩ := ihn s₁ w₁ hq b k cs
          exact ⟨e₂, a₂, w₂, hq₂, .of_steps (Steps.trans harr (.one step_inLoop)) harr₂⟩
        | exit id => exact ⟨_, _, w₁, ⟨s₁, rfl, hq⟩, .pass (x := .inLoop c) rfl (fun _ _ => .inl (by simp)) harr⟩
        | goto l => exact ⟨_, _, w₁, ⟨s₁, rfl, hq⟩, .pass (x := .inLoop c) rfl (fun _ _ => .inl (by simp)) harr⟩
        | ret => exact ⟨_, _, w₁, ⟨s₁, rfl, hq⟩, .pass (x := .inLoop c) rfl (fun _ _ => .inl (by simp)) harr⟩
        | panic ch => exact ⟨_, _, w₁, ⟨s₁, rfl, hq⟩, .pass (x := .inLoop c) rfl (fun _ _ => .inl (by simp)) harr⟩
        | outgrown => exact ⟨_, _, w₁, ⟨s₁, rfl, hq⟩, .pass (x := .inLoop c) rfl (fun _ _ => .inl (by simp)) harr⟩
    intro b k cs
    obtain ⟨e, a', w', hq, harr⟩ := key n s w h b k cs
    exact ⟨e, a', w', hq, .of_steps (.one step_loop) harr⟩
  | exit id => intro p s w Q h; exact wp_exit ⟨s, rfl, h⟩
  | ret => intro p s w Q h; exact wp_ret ⟨s, rfl, h⟩
  | _ => intro p s w Q h; exact h.elim

/-! ### a function -/
abbrev resL (P : Program) : List ResultVar → St → World → (List Value → Prop) → Prop
  | [], _, _, K => K []
  | .tmp t :: l, s, w, K => resL P l s w fun vs => K (s.getD t undef :: vs)
  | .cell a t :: l, s, w, K => ldR P t (s.getD a undef) (fun a v => w.cell? a = some v) (At w) fun v => resL P l s w fun vs => K (v :: vs)
abbrev resV : List Value → Value
  | [v] => v
  | vs => .tuple vs.toArray
/-- What stands behind a function's end. -/
def retQ (P : Program) (fn : Func) (R : Ending → World → Prop) (e : Exit) (s : St) (w : World) : Prop :=
  high (match e with
    | .normal => resL P fn.results.toList s w fun vs => R (.returned (resV vs)) w
    | .ret => resL P fn.results.toList s w fun vs => R (.returned (resV vs)) w
    | _ => False)
section
variable {P : Program}
def resS (ts : Array Value) : ResultVar → Sem Value
  | .tmp t => pure (ts.getD t undef)
  | .cell a t => do loadVar t (← asAddr (ts.getD a undef))
theorem results_eq (fn : Func) (ts : Array Value) : results fn ts = (do
    let vs ← fn.results.mapM (resS ts)
    pure (if h : vs.size = 1 then vs[0] else .tuple vs)) := by
  unfold results
  congr 1
theorem getD_act (s : St) (t : Nat) : (act s).tmps.getD t undef = s.getD t undef := by simp [act]
theorem resL_run {w : World} {s : St} : ∀ (l : List ResultVar) (K : List Value → Prop), resL P l s w K →
    ∃ vs, (l.mapM (resS (act s).tmps)).run P w = .ok vs w ∧ K vs := by
  intro l
  induction l with
  | nil => intro K h; exact ⟨[], by simp, h⟩
  | cons x l ih =>
    intro K h
    cases x with
    | tmp t =>
      obtain ⟨vs, hr, hk⟩ := ih _ h
      exact ⟨_, by rw [List.mapM_cons]; simp only [resS, getD_act, pure_bind, Sem.run_bind, hr, Result.andThen, Sem.run_pure], hk⟩
    | cell a t =>
      have hp : ∃ b, s.getD a undef = .pointer (some b) := by
        simp only [resL] at h
        unfold ldR at h
        split at h
        · exact ⟨_, by assumption⟩
        · exact h.elim
      obtain ⟨b, hb⟩ := hp
      obtain ⟨v, hv, hk⟩ := ldR_run h
      obtain ⟨vs, hr, hk⟩ := ih _ hk
      have hl := hv w (fun _ _ h => h) (fun _ _ h => h)
      rw [hb] at hl
      have hl' : (loadVar t b).run P w = .ok v w := by simpa [Instr.loadAt, Instr.sureAddr] using hl
      refine ⟨v :: vs, ?_, hk⟩
      rw [List.mapM_cons]
      simp only [resS, getD_act, hb, asAddr, pure_bind, Sem.run_bind, hl', Result.andThen, hr, Sem.run_pure]
theorem retQ_post {fn : Func} {R : Ending → World → Prop} {e : Exit} {a : Act} {w : World} (h : lift (retQ P fn R) e a w) : bodyPost P fn R e a w := by
  obtain ⟨s, rfl, h⟩ := h
  have key : ∀ {K : List Value → Prop}, resL P fn.results.toList s w K → ∃ vs, (results fn (act s).tmps).run P w = .ok (resV vs) w ∧ K vs := by
    intro K h
    obtain ⟨vs, hr, hk⟩ := resL_run _ _ h
    refine ⟨vs, ?_, hk⟩
    rw [results_eq, Array.mapM_eq_mapM_toList]
    simp only [Sem.run_bind, Sem.run_map, hr, Result.andThen, Sem.run_pure]
    congr 1
    match vs with
    | [] => rfl
    | [v] => rfl
    | _ :: _ :: _ => simp [resV]
  cases e with
  | normal => obtain ⟨vs, hr, hk⟩ := key h; exact ⟨rfl, _, hr, hk⟩
  | ret => obtain ⟨vs, hr, hk⟩ := key h; exact ⟨rfl, _, hr, hk⟩
  | _ => exact h.elim
/-- **A call comes to what the code's statement says.** -/
theorem calls_of {E : Nat → Bool} {ords : Nat → Od} {J : List Nat → Bool} (hE : Ents P E) (hm : P.follows .mixedOrders = true) {f : FuncId} {fn : Func} {c : Code} {args : List Value} {w : World} {R : Ending → World → Prop}
    (hf : P.funcs[f]? = some fn) (hb : fn.body = some c) (h : runC P E ords J [] c (args ++ List.replicate (fn.ntmps - args.length) undef) w (retQ P fn R)) : Calls P f args.toArray w R := by
  refine calls_of_wp hf hb ?_
  have := Code.wp_mono (fun e a w h => retQ_post h) (runC_ok hE hm _ _ _ _ _ h)
  have e : (⟨args.toArray ++ Array.replicate (fn.ntmps - args.toArray.size) undef, []⟩ : Act) = act (args ++ List.replicate (fn.ntmps - args.length) undef) := by
    simp [act]
  rw [e]
  exact this
end

/-! ### parts of a function's code -/
def codeAt : List Nat → Code → Code
  | [], c => c
  | 0 :: p, .seq x _ => codeAt p x
  | 1 :: p, .seq _ y => codeAt p y
  | 0 :: p, .cond _ x _ => codeAt p x
  | 1 :: p, .cond _ _ y => codeAt p y
  | 0 :: p, .block _ c => codeAt p c
  | 0 :: p, .loop c => codeAt p c
  | _, _ => .skip
/-- What stands behind that part; 'ns': how many rounds are left in the loops around it; 'q': the way to the whole. -/
def contAt (P : Program) (E : Nat → Bool) (ords : Nat → Od) (J : List Nat → Bool) : List Nat → List Nat → List Nat → Code → (Exit → St → World → Prop) → (Exit → St → World → Prop)
  | [], _, _, _, Q => Q
  | 0 :: p, q, ns, .seq x y, Q => contAt P E ords J p (0 :: q) ns x (thenQ (fun s w => lf (J (1 :: q)) (runC P E ords J (1 :: q) y s w Q)) Q)
  | 1 :: p, q, ns, .seq _ y, Q => contAt P E ords J p (1 :: q) ns y Q
  | 0 :: p, q, ns, .cond _ x _, Q => contAt P E ords J p (0 :: q) ns x Q
  | 1 :: p, q, ns, .cond _ _ y, Q => contAt P E ords J p (1 :: q) ns y Q
  | 0 :: p, q, ns, .block id c, Q => contAt P E ords J p (0 :: q) ns c (inBlk id Q)
  | 0 :: p, q, n :: ns, .loop c, Q => contAt P E ords J p (0 :: q) ns c (thenQ (iter (fun X s w => runC P E ords J (0 :: q) c s w (thenQ X Q)) n) Q)
  | _, _, _, _, Q => Q
/-- A function's code. -/
def bodyOf (fn : Func) : Code := fn.body.getD .skip
/-- The part of fn's code at that place (p; r: the same the other way round), from these slots on. -/
def seg (P : Program) (E : Nat → Bool) (ords : Nat → Od) (J : List Nat → Bool) (fn : Func) (p r ns : List Nat) (s : St) (w : World) (R : Ending → World → Prop) : Prop :=
  runC P E ords J r (codeAt p (bodyOf fn)) s w (contAt P E ords J p [] ns (bodyOf fn) (retQ P fn R))
/-- The loop at that place, with n rounds left. -/
def lseg (P : Program) (E : Nat → Bool) (ords : Nat → Od) (J : List Nat → Bool) (fn : Func) (p r ns : List Nat) (n : Nat) (s : St) (w : World) (R : Ending → World → Prop) : Prop :=
  iter (fun X s w => runC P E ords J (0 :: r) (codeAt (p ++ [0]) (bodyOf fn)) s w (thenQ X (contAt P E ords J p [] ns (bodyOf fn) (retQ P fn R)))) n s w
theorem calls_seg {P : Program} {E : Nat → Bool} {ords : Nat → Od} {J : List Nat → Bool} (hE : Ents P E) (hm : P.follows .mixedOrders = true) {f : FuncId} {fn : Func} {args : List Value} {w : World} {R : Ending → World → Prop}
    (hf : P.funcs[f]? = some fn) (hb : fn.body.isSome = true) (h : seg P E ords J fn [] [] [] (args ++ List.replicate (fn.ntmps - args.length) undef) w R) : Calls P f args.toArray w R := by
  cases hc : fn.body with
  | none => rw [hc] at hb; cases hb
  | some c =>
    have : bodyOf fn = c := by simp [bodyOf, hc]
    refine calls_of hE hm (ords := ords) (J := J) hf hc ?_
    simpa [seg, codeAt, contAt, this] using h
/-- Which functions a call enters. -/
def entB (P : Program) (f : Nat) : Bool :=
  match P.funcs[f]? with
  | some fn => fn.body.isSome && !(fn.name == "runtime.NumGoroutine")
  | none => false
theorem ents_of {P : Program} {E : Nat → Bool} (h : ∀ f, E f = true → entB P f = true) : Ents P E where
  enter f args w he := by
    have := h f he
    unfold entB at this
    split at this
    · rename_i fn hf
      simp only [Bool.and_eq_true, Bool.not_eq_true'] at this
      obtain ⟨hb, hn⟩ := this
      have hn' : ¬ fn.name = "runtime.NumGoroutine" := by simpa using hn
      cases hbo : fn.body with
      | none => rw [hbo] at hb; cases hb
      | some c => simp [callFunc, program, Sem.run, hf, hn', hbo]
    · cases this

/-! ### words for the reader of such a statement -/
/-- x is v in what follows. -/
def Let {α : Type} (v : α) (K : α → Prop) : Prop := K v
theorem let_as {α : Type} {v : α} {K : α → Prop} (u : α) (h : v = u) (hk : K u) : Let v K := by
  subst h
  exact hk
theorem let_gen {α : Type} {v : α} {K : α → Prop} (h : ∀ x, x = v → K x) : Let v K := h _ rfl
theorem let_id {α : Type} {v : α} {K : α → Prop} (hk : K v) : Let v K := hk
end Go.Proofs.YtphbdmafchjjeaaDoorS
