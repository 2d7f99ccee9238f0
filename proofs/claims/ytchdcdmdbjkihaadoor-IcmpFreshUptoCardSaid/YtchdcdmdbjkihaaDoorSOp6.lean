/- Package weftlaw6: steps as a row's argument holds them.
   Conditions: none. -/
import Derived.Test.YtchdcdmdbjkihaaDoorSScr
import Derived.Test.YtchdcdmdbjkihaaDoorSLawE
namespace Go.Proofs.YtchdcdmdbjkihaaDoorS
open Go Go.RowKit Go.Proofs Go.Proofs.YtchdcdmdbjkihaaDoorX
set_option maxRecDepth 100000
set_option linter.unusedVariables false
set_option linter.unusedSectionVars false
set_option linter.unusedSimpArgs false

theorem own_of {w a : World} {L : List Blk} (h : Own w a L) : OF w a L [] := ⟨h, fun x hx => by cases hx⟩
def zop : Op6 := ⟨0, [], icz, pz, 0, 0, 0, 0⟩

structure Op6.Sm (o : Op6) : Prop where
  b : o.b.length ≤ 1000000000
  q : o.q.body.length ≤ 1000000000
  lo : o.p.opts.length ≤ 1000000000
  lb : o.p.body.length ≤ 1000000000
/-- The bytes of list i become these. -/
def upd (o : Op6) (i : Nat) (l : List Int) : Op6 :=
  match i with
  | 0 => { o with b := l }
  | 1 => { o with q := { o.q with body := l } }
  | 2 => { o with p := { o.p with body := l } }
  | _ => { o with p := { o.p with opts := l } }
theorem upd_ov (o : Op6) (i : Nat) (l : List Int) (Z : Option Addr) (zn zc : Nat) (C : Option Addr) (cn cc : Nat) (A : Option Addr) (n c : Nat) (B : Option Addr) (m d : Nat) : ov (upd o i l) Z zn zc C cn cc A n c B m d = ov o Z zn zc C cn cc A n c B m d := by
  match i with
  | 0 => rfl
  | 1 => rfl
  | 2 => rfl
  | i + 3 => rfl
theorem bset {l : List Int} (h : Bytes l) (j : Nat) {y : Int} (hy : 0 ≤ y ∧ y ≤ 255) : Bytes (l.set j y) := fun z hz => by
  rcases List.mem_or_eq_of_mem_set hz with hz | rfl
  · exact h z hz
  · exact hy
/-- The slice A[:n] holds steps. -/
def ScrS (w : World) (A : Option Addr) (n : Nat) : Prop := 0 < n → ∃ a, A = some a ∧ ∀ i, i < n → ∃ (o : Op6) (Z : Option Addr) (zn zc : Nat) (C : Option Addr) (cn cc : Nat) (A : Option Addr) (n c : Nat) (B : Option Addr) (m d : Nat),
  At w (a.add (i * 21)) (ov o Z zn zc C cn cc A n c B m d) ∧ o.Fine ∧ OpAt w o Z zn zc C cn cc A n c B m d ∧ o.Sm
theorem At.bel6 {w w' : World} {a : Addr} {l : List Value} (h : At w a l) (k : Bel w w') : At w' a l := fun j u hu => k.cellb (h j u hu)
end Go.Proofs.YtchdcdmdbjkihaaDoorS
