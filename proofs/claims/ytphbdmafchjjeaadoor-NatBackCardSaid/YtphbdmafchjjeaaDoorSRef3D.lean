/- What read and Peek of package weftref3 answer.
   Conditions: bytes are 0 to 255; lists are no longer than memory lets. -/
import Derived.Test.YtphbdmafchjjeaaDoorSRef3F
namespace Go.Proofs.YtphbdmafchjjeaaDoorS
open Go Go.RowKit Go.Proofs Go.Proofs.YtphbdmafchjjeaaDoorX
set_option maxRecDepth 100000
set_option linter.unusedVariables false
set_option linter.unusedSimpArgs false

theorem at_head {w : World} {g : Nat} {t : TypeId} {a0 a1 : Int} {a2 a3 : Bool} {a4 a5 a6 a7 a8 : Int} {A : Option Addr} {n c : Nat} {l : List Value} (h : Bk w g t (hv a0 a1 a2 a3 a4 a5 a6 a7 a8 A n c ++ l)) :
    At w ⟨g, 0, none⟩ [.int .u8 a0, .int .u16 a1, .bool a2, .bool a3, .int .i64 a4, .int .u8 a5, .int .u8 a6, .int .u32 a7, .int .u32 a8, .slice A n c] := fun j u hu => by
  have hj : j < 10 := (List.getElem?_eq_some_iff.1 hu).1
  rw [add_blk, Nat.zero_add]
  refine h.cell j ?_
  rw [List.getElem?_append_left hj]
  exact hu
theorem RetRd.no {w0 w w' : World} {whole : Bool} {b : List Int} {k : Int} (h : bad whole b = k) (hk : k ≠ 0) (hb : Bel w0 w') : RetRd w0 whole b (.returned (.tuple #[.agg (pb pz none 0 0 none 0 0).toArray, .int .i64 k])) w' := by
  refine ⟨hb, ?_⟩
  rw [if_neg (by rw [h]; exact hk), h]
end Go.Proofs.YtphbdmafchjjeaaDoorS
