/- Words that this session's printed texts lean on: a copy into a row of the call's own, a literal of slices that is only read.
   Conditions: none; every statement is proved here. -/
import Derived.Test.YtmjhfkjnnpnoaaaQFWWords
import Derived.Test.YtmjhfkjnnpnoaaaQFWLast
import Derived.Test.YtmjhfkjnnpnoaaaQFWMore
import Derived.Laws.CopyOwn
namespace Go.Proofs.YtmjhfkjnnpnoaaaX
open Go.RowKit Go.Proofs.YtmjhfkjnnpnoaaaW.PrintWords Go.Proofs.YtmjhfkjnnpnoaaaW.PrintLast Go.Proofs.YtmjhfkjnnpnoaaaW.PrintMore

section
variable {P : Program} {o : Oper} {a : Act} {W : World}
variable {ops : Array Oper} {rest : List Oper} {Q : Exit → Act → World → Prop} {Kc : Act → World → Prop}
/-- What is told of a literal whose elements are only read. -/
def Lits {α : Type} (d : Kd α) (w : World) (v : Value) (xs : List α) : Prop := ∃ A c, v = .slice A xs.length c ∧ xs.length ≤ c ∧ d.C w A xs.length xs
theorem lits_C {α : Type} (d : Kd α) (e : TypeId) {xs : List α} {inner : List Value} (hrep : Reps (d.K W) d.sz xs inner) (hm : xs.length ≤ 9223372036854775807) :
    Lits d (W.alloc (.cells inner.toArray e)) (.slice (some ⟨W.heap.size, 0, none⟩) xs.length xs.length) xs := by
  refine ⟨_, _, rfl, Nat.le_refl _, rfl, hm, fun _ => ⟨_, rfl, fun j p hj => ?_⟩⟩
  have hp := hrep.2 j p hj
  refine ⟨_, d.K_len hp, d.K_below (below_alloc (Below.refl _ _) _) hp, fun i u hu => ?_⟩
  rw [add_plain, blk_cell (blk_new W _), List.getElem?_toArray]
  have hi : i < d.sz := by
    have := (List.getElem?_eq_some_iff.1 hu).1
    rw [List.length_take] at this
    omega
  rw [List.getElem?_take, if_pos hi, List.getElem?_drop] at hu
  exact hu
theorem lits_event {α : Type} (d : Kd α) (e : TypeId) (hgd : o.guard = none) {N : Tmp} (_hd : o.dst = some N) {xs : List α} {inner : List Value}
    (hrun : (execOp a.eval o).run P W = .ok (.value (.slice (some ⟨W.heap.size, 0, none⟩) xs.length xs.length)) (W.alloc (.cells inner.toArray e)))
    (hrep : Reps (d.K W) d.sz xs inner) (hm : xs.length ≤ 9223372036854775807)
    (h : ∀ v1 w1, Lits d w1 v1 xs → Below W.heap.size W w1 → wpList P ops Q rest (a.put o.dst v1) w1) : wpList P ops Q (o :: rest) a W :=
  Kd.event_run hgd hrun (h _ _ (lits_C d e hrep hm) (below_alloc (Below.refl _ _) _))
end
section
variable {P : Program}
end
/-! ### Two stores of a region, in either order -/
section
variable {P : Program} {md : Region.Mode} {ops : Array Oper} {Q : Exit → Act → World → Prop} {S : World → Prop} {ds : List Nat}
end
end Go.Proofs.YtmjhfkjnnpnoaaaX
