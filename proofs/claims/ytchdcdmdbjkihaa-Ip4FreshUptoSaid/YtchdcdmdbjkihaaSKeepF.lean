/- Package weftlaw3: answers kept one after another.
   Conditions: none. -/
import Derived.Test.YtchdcdmdbjkihaaSKeepE
namespace Go.Proofs.YtchdcdmdbjkihaaS
open Go Go.RowKit Go.Proofs Go.Proofs.YtchdcdmdbjkihaaX
set_option maxRecDepth 100000
set_option linter.unusedVariables false
set_option linter.unusedSectionVars false
set_option linter.unusedSimpArgs false

section
variable {w0 w : World} {R : List Blk} {oA : Option Blk} {AL : Option Addr} {k cL : Nat} {P : List Blk} {vs : List Rt}
theorem got_app (xs : List Rt) {j : Nat} (hj : xs.length = j) (h0 : 0 < j) (H : OF w0 w (oA.toList ++ (P ++ R)) []) (qA : RV 30 1 oA AL k cL (vs.map Rt.v)) (hk : vs.length = k) (hin : ∀ x ∈ vs ++ xs, InP P x) (hpw : (vs ++ xs).Pairwise fun x y => Apt x.A x.c y.A y.c) (hb : k + j ≤ 100000000)
    {K : Nat → Option Addr → Nat → World → Prop} (hK : ∀ gg oA' A' c' wb, Got w0 wb R oA' A' (k + j) c' P (vs ++ xs) → K gg A' c' wb) :
    Let w.heap.size fun gg => Let (w.alloc (.cells (xs.map Rt.v).toArray 30)) fun w2 => AppE w2 1 24 30 [.slice none 0 0] AL k cL (some ⟨gg, 0, none⟩) j (K gg) := by
  refine rv_appm (m := j) (v := xs.map Rt.v) (H.call ((Bel.refl w).alloc _)) qA (by rw [List.length_map]; exact hj) h0 (List.all_eq_true.2 fun v hv => ?_) (Bk.new w _ _).at (by omega) (by omega) fun oA' A' c' wb H' q' => ?_
  · obtain ⟨x, _, rfl⟩ := List.mem_map.1 hv
    rfl
  · refine hK _ oA' A' c' wb ⟨H', by rw [List.map_append]; exact q', by rw [List.length_append]; omega, hin, hpw⟩
theorem Got.drop {p : Blk} (h : Got w0 w (p :: R) oA AL k cL P vs) : Got w0 w R oA AL k cL P vs := by
  refine ⟨?_, h.2⟩
  have H := h.1
  have e : (oA.toList ++ (P ++ (p :: R))).Perm (p :: (oA.toList ++ (P ++ R))) := (List.Perm.append_left _ List.perm_middle).trans List.perm_middle
  exact (H.perm e).tail
theorem got_push {p : Blk} {cs : List Lst} (H : OF w0 w (p :: (oA.toList ++ (P ++ R))) cs) : OF w0 w (oA.toList ++ (P ++ (p :: R))) cs :=
  H.perm (List.perm_middle.symm.trans (List.Perm.append_left _ List.perm_middle.symm))
theorem pw1 {x : Rt} (h : vs.Pairwise fun x y => Apt x.A x.c y.A y.c) (h1 : ∀ y ∈ vs, Apt y.A y.c x.A x.c) : (vs ++ [x]).Pairwise fun x y => Apt x.A x.c y.A y.c :=
  List.pairwise_append.2 ⟨h, List.pairwise_singleton _ _, fun y hy z hz => by rw [List.mem_singleton.1 hz]; exact h1 y hy⟩
theorem pw2 {x y : Rt} (h : vs.Pairwise fun x y => Apt x.A x.c y.A y.c) (h1 : ∀ z ∈ vs, Apt z.A z.c x.A x.c) (h2 : ∀ z ∈ vs, Apt z.A z.c y.A y.c) (h3 : Apt x.A x.c y.A y.c) : (vs ++ [x, y]).Pairwise fun x y => Apt x.A x.c y.A y.c :=
  List.pairwise_append.2 ⟨h, by simpa using h3, fun u hu z hz => by
    rcases List.mem_cons.1 hz with rfl | hz
    · exact h1 u hu
    · rw [List.mem_singleton.1 hz]; exact h2 u hu⟩
theorem in1 {x : Rt} (h : ∀ x ∈ vs, InP P x) (h1 : InP P x) : ∀ y ∈ vs ++ [x], InP P y := fun y hy => by
  rcases List.mem_append.1 hy with hy | hy
  · exact h y hy
  · rw [List.mem_singleton.1 hy]; exact h1
theorem in2 {x y : Rt} (h : ∀ x ∈ vs, InP P x) (h1 : InP P x) (h2 : InP P y) : ∀ z ∈ vs ++ [x, y], InP P z := fun z hz => by
  rcases List.mem_append.1 hz with hz | hz
  · exact h z hz
  · rcases List.mem_cons.1 hz with rfl | hz
    · exact h1
    · rw [List.mem_singleton.1 hz]; exact h2
end
end Go.Proofs.YtchdcdmdbjkihaaS
