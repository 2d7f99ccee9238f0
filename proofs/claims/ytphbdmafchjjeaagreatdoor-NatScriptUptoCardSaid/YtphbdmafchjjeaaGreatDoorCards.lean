/-
  DERIVED. GIVEN WITH THE SEED: THE CARDS: each row of YtphbdmafchjjeaaGreatDoorRows.lean that lists a variable, with what it lists TIED to the program's text (the seventh form; the later family's looks); each row that meets fmt, with fmt's text TOLD by the authors' own Lean function (tested against real Go, not proved from fmt's source: count such statements apart). THE CARD IS WHAT COUNTS. Prove the row's statement (the work); the ties are given (YtphbdmafchjjeaaGreatDoorTie.lean); close each card by the builder's one call (the guide's Derived/Test/ToyasCard.lean, 'card_holds'). Laid BY PROGRAM, IN A SANDBOX (cutbox-door.mjs). By AI agents, Wed Nov 11 2026. No macro, syntax, notation, axiom, sorry.
-/
import Derived.Test.YtphbdmafchjjeaaGreatDoorRows
import GoSem.ClaimSeven
namespace Go.Proofs.YtphbdmafchjjeaaGreatDoor
namespace Rows

/-- THE TIED CARD OF 'weftlaw23.NatAll'. -/
def natAllCard : Claim7 := { stood := { row := natAllRow, standIns := [], harness := (true, "982723fd182a43b2479d1bccacc912410729afe83d6cc75fa898336cf5eafb67"), looks := false }, kinds := [], alts := [], laidByText := true, laidKinds := [.data, .data], laidTests := true, laidLooks := .later }
def NatAllCardSaid : Prop := Claim7.holds Tryz.pinned (.plain (OpenSpec.ofChange natAllSpec)) natAllCard

/-- THE TIED CARD OF 'weftlaw23.NatScript'. -/
def natScriptCard : Claim7 := { stood := { row := natScriptRow, standIns := [], harness := (true, "982723fd182a43b2479d1bccacc912410729afe83d6cc75fa898336cf5eafb67"), looks := false }, kinds := [], alts := [], laidByText := true, laidKinds := [.data, .data], laidTests := true, laidLooks := .later }
def NatScriptCardSaid : Prop := Claim7.holds Tryz.pinned (.plain (OpenSpec.ofChange natScriptSpec)) natScriptCard

/-- THE SECOND FORM's CARD OF 'weftlaw23.NatAll'. -/
def natAllUptoCard : Claim7 := { stood := { row := natAllUptoRow, standIns := [], harness := (true, "982723fd182a43b2479d1bccacc912410729afe83d6cc75fa898336cf5eafb67"), looks := false }, kinds := [], alts := [], laidByText := true, laidKinds := [.data, .data], laidTests := true, laidLooks := .later }
def NatAllUptoCardSaid : Prop := Claim7.holds Tryz.pinned (.plain (OpenSpec.upto natAllSpec)) natAllUptoCard

/-- THE SECOND FORM's CARD OF 'weftlaw23.NatScript'. -/
def natScriptUptoCard : Claim7 := { stood := { row := natScriptUptoRow, standIns := [], harness := (true, "982723fd182a43b2479d1bccacc912410729afe83d6cc75fa898336cf5eafb67"), looks := false }, kinds := [], alts := [], laidByText := true, laidKinds := [.data, .data], laidTests := true, laidLooks := .later }
def NatScriptUptoCardSaid : Prop := Claim7.holds Tryz.pinned (.plain (OpenSpec.upto natScriptSpec)) natScriptUptoCard
end Rows
end Go.Proofs.YtphbdmafchjjeaaGreatDoor
