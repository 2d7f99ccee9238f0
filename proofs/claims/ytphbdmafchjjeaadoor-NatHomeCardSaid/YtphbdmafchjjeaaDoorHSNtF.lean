/- Package nat: TurnFault: its last part.
   Conditions: bytes are 0 to 255; a packet's and a tuple's fields are of their kinds. -/
import Derived.Test.YtphbdmafchjjeaaDoorHSNtEM
namespace Go.Proofs.YtphbdmafchjjeaaDoorS
open Go Go.RowKit Go.Proofs Go.Proofs.YtphbdmafchjjeaaDoorX
set_option maxRecDepth 100000
set_option linter.unusedVariables false
set_option linter.unusedSectionVars false
set_option linter.unusedSimpArgs false

theorem cut_in {g o l m : Nat} (h : m ≠ l) : cutA (some (⟨g, o, none⟩ : Addr)) l m 1 = some ⟨g, o + l, none⟩ := by
  unfold cutA
  rw [if_neg h]
  simp [mulS, add_blk]
theorem part_eq {pre b post : List Int} {o i j : Nat} (ho : pre.length = o) (h : i + j ≤ b.length) : ((pre ++ (b ++ post)).drop (o + i)).take j = (b.take (i + j)).drop i := by
  rw [← List.drop_drop, List.drop_left' ho, List.drop_append_of_le_length (by omega), List.take_append_of_le_length (by rw [List.length_drop]; omega), List.drop_take, Nat.add_sub_cancel_left]
def RetTF (w0 : World) (p : Pk) (u : Tp) (src dst : Int) (e : Ending) (w' : World) : Prop := Bel w0 w' ∧ RetPk w0 (tfO p u src dst) (tfE p u) e w'
/-- What must hold of a fault that is turned. -/
structure Tf (p : Pk) (u : Tp) : Prop where
  h : p.Fine
  hu : u.Fine
  he : tfE p u = 0
  l1 : 20 ≤ hlen (tfB p)
  l2 : 8 ≤ (tfQ p).length
  l3 : hlen (tfB p) + (tfQ p).length ≤ (tfB p).length
  l4 : (tfB p).length ≤ 65507
  bb : Bytes (tfB p)
  sf : (tfS p).Fine
theorem Tf.len4 {p : Pk} {u : Tp} (t : Tf p u) : (tf4 p u).length = (tfB p).length := by
  have h1 := t.l3
  have h2 := tf3_len p u
  unfold tf4
  rw [List.length_append, List.length_append, carV_len, List.length_take, List.length_take, List.length_drop, List.length_drop, h2]
  omega
theorem Tf.bytes4 {p : Pk} {u : Tp} (t : Tf p u) (hc : Bytes (carV (((tf3 p u).drop (hlen (tfB p))).take (tfQ p).length) (tfS p).proto (tfS p) u false)) : Bytes (tf4 p u) := by
  have h3 := tf3_bytes t.bb t.hu
  unfold tf4
  exact (h3.take _).append (hc.append (h3.drop _))
end Go.Proofs.YtphbdmafchjjeaaDoorS
