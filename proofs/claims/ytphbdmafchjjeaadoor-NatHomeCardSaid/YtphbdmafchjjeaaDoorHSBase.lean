/- The program's functions that a call enters; its follow-list.
   Conditions: none. -/
import Derived.Test.YtphbdmafchjjeaaDoorProg
import Derived.Test.YtphbdmafchjjeaaDoorHSKit
namespace Go.Proofs.YtphbdmafchjjeaaDoorS
open Go Go.Proofs
def extE : List Nat := [104, 106, 107]
def entE (f : Nat) : Bool := (Nat.ble 3 f && Nat.ble f 88) || extE.any (Nat.beq f)
theorem ent_all : ((List.range 89).all fun f => !(Nat.ble 3 f) || entB Tryd.prog f) = true := by kernel_rfl
theorem ext_all : (extE.all fun f => entB Tryd.prog f) = true := by kernel_rfl
theorem ents : Ents Tryd.prog entE := ents_of fun f h => by
  simp only [entE, Bool.or_eq_true, Bool.and_eq_true] at h
  rcases h with h | h
  · have h1 := Nat.le_of_ble_eq_true h.1
    have h2 := Nat.le_of_ble_eq_true h.2
    have h3 := List.all_eq_true.1 ent_all f (List.mem_range.2 (by omega))
    rw [h.1] at h3
    simpa using h3
  · obtain ⟨g, hg, hf⟩ := List.any_eq_true.1 h
    have := Nat.eq_of_beq_eq_true hf
    subst this
    exact List.all_eq_true.1 ext_all _ hg
theorem mixed : Tryd.prog.follows .mixedOrders = true := by kernel_rfl
end Go.Proofs.YtphbdmafchjjeaaDoorS
