/-
  DERIVED. GIVEN WITH THE SEED: THE CARDS: each row of YtphbdmafchjjeaaDoorRows.lean that lists a variable, with what it lists TIED to the program's text (the seventh form; the later family's looks); each row that meets fmt, with fmt's text TOLD by the authors' own Lean function (tested against real Go, not proved from fmt's source: count such statements apart). THE CARD IS WHAT COUNTS. Prove the row's statement (the work); the ties are given (YtphbdmafchjjeaaDoorTie.lean); close each card by the builder's one call (the guide's Derived/Test/ToyasCard.lean, 'card_holds'). Laid BY PROGRAM, IN A SANDBOX (cutbox-door.mjs). By AI agents, Wed Nov 11 2026. No macro, syntax, notation, axiom, sorry.
-/
import Derived.Test.YtphbdmafchjjeaaDoorRows
import GoSem.ClaimSeven
namespace Go.Proofs.YtphbdmafchjjeaaDoor
namespace Rows

/-- THE TIED CARD OF 'weftlaw23.NatMoves'. -/
def natMovesCard : Claim7 := { stood := { row := natMovesRow, standIns := [], harness := (true, "05d3eee01da3469231f68af38eadf10ceab0b13efeb002b3822d2bd5f33ae681"), looks := false }, kinds := [], alts := [], laidByText := true, laidKinds := [.data], laidTests := true, laidLooks := .later }
def NatMovesCardSaid : Prop := Claim7.holds Tryd.pinned (.plain (OpenSpec.ofChange natMovesSpec)) natMovesCard

/-- THE TIED CARD OF 'weftlaw23.NatOnce'. -/
def natOnceCard : Claim7 := { stood := { row := natOnceRow, standIns := [], harness := (true, "05d3eee01da3469231f68af38eadf10ceab0b13efeb002b3822d2bd5f33ae681"), looks := false }, kinds := [], alts := [], laidByText := true, laidKinds := [.data], laidTests := true, laidLooks := .later }
def NatOnceCardSaid : Prop := Claim7.holds Tryd.pinned (.plain (OpenSpec.ofChange natOnceSpec)) natOnceCard

/-- THE TIED CARD OF 'weftlaw23.NatBack'. -/
def natBackCard : Claim7 := { stood := { row := natBackRow, standIns := [], harness := (true, "05d3eee01da3469231f68af38eadf10ceab0b13efeb002b3822d2bd5f33ae681"), looks := false }, kinds := [], alts := [], laidByText := true, laidKinds := [.data], laidTests := true, laidLooks := .later }
def NatBackCardSaid : Prop := Claim7.holds Tryd.pinned (.plain (OpenSpec.ofChange natBackSpec)) natBackCard

/-- THE TIED CARD OF 'weftlaw23.NatHome'. -/
def natHomeCard : Claim7 := { stood := { row := natHomeRow, standIns := [], harness := (true, "05d3eee01da3469231f68af38eadf10ceab0b13efeb002b3822d2bd5f33ae681"), looks := false }, kinds := [], alts := [], laidByText := true, laidKinds := [.data, .data, .data, .data], laidTests := true, laidLooks := .later }
def NatHomeCardSaid : Prop := Claim7.holds Tryd.pinned (.plain (OpenSpec.ofChange natHomeSpec)) natHomeCard

/-- THE SECOND FORM's CARD OF 'weftlaw23.NatMoves'. -/
def natMovesUptoCard : Claim7 := { stood := { row := natMovesUptoRow, standIns := [], harness := (true, "05d3eee01da3469231f68af38eadf10ceab0b13efeb002b3822d2bd5f33ae681"), looks := false }, kinds := [], alts := [], laidByText := true, laidKinds := [.data], laidTests := true, laidLooks := .later }
def NatMovesUptoCardSaid : Prop := Claim7.holds Tryd.pinned (.plain (OpenSpec.upto natMovesSpec)) natMovesUptoCard

/-- THE SECOND FORM's CARD OF 'weftlaw23.NatOnce'. -/
def natOnceUptoCard : Claim7 := { stood := { row := natOnceUptoRow, standIns := [], harness := (true, "05d3eee01da3469231f68af38eadf10ceab0b13efeb002b3822d2bd5f33ae681"), looks := false }, kinds := [], alts := [], laidByText := true, laidKinds := [.data], laidTests := true, laidLooks := .later }
def NatOnceUptoCardSaid : Prop := Claim7.holds Tryd.pinned (.plain (OpenSpec.upto natOnceSpec)) natOnceUptoCard

/-- THE SECOND FORM's CARD OF 'weftlaw23.NatBack'. -/
def natBackUptoCard : Claim7 := { stood := { row := natBackUptoRow, standIns := [], harness := (true, "05d3eee01da3469231f68af38eadf10ceab0b13efeb002b3822d2bd5f33ae681"), looks := false }, kinds := [], alts := [], laidByText := true, laidKinds := [.data], laidTests := true, laidLooks := .later }
def NatBackUptoCardSaid : Prop := Claim7.holds Tryd.pinned (.plain (OpenSpec.upto natBackSpec)) natBackUptoCard

/-- THE SECOND FORM's CARD OF 'weftlaw23.NatHome'. -/
def natHomeUptoCard : Claim7 := { stood := { row := natHomeUptoRow, standIns := [], harness := (true, "05d3eee01da3469231f68af38eadf10ceab0b13efeb002b3822d2bd5f33ae681"), looks := false }, kinds := [], alts := [], laidByText := true, laidKinds := [.data, .data, .data, .data], laidTests := true, laidLooks := .later }
def NatHomeUptoCardSaid : Prop := Claim7.holds Tryd.pinned (.plain (OpenSpec.upto natHomeSpec)) natHomeUptoCard
end Rows
end Go.Proofs.YtphbdmafchjjeaaDoor
