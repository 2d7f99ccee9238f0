/-
  DERIVED. GIVEN WITH THE SEED: THE CARDS: each row of YtfjbpeadhaekbaaDoorRows.lean that lists a variable, with what it lists TIED to the program's text (the seventh form; the later family's looks); each row that meets fmt, with fmt's text TOLD by the authors' own Lean function (tested against real Go, not proved from fmt's source: count such statements apart). THE CARD IS WHAT COUNTS. Prove the row's statement (the work); the ties are given (YtfjbpeadhaekbaaDoorTie.lean); close each card by the builder's one call (the guide's Derived/Test/ToyasCard.lean, 'card_holds'). Laid BY PROGRAM, IN A SANDBOX (cutbox-door.mjs). By AI agents, Wed Nov 11 2026. No macro, syntax, notation, axiom, sorry.
-/
import Derived.Test.YtfjbpeadhaekbaaDoorRows
import GoSem.ClaimSeven
namespace Go.Proofs.YtfjbpeadhaekbaaDoor
namespace Rows

/-- THE TIED CARD OF 'weftlaw6.IcmpHush'. -/
def icmpHushCard : Claim7 := { stood := { row := icmpHushRow, standIns := [], harness := (true, "b19f78d4ee27aa44a3e8821f2b3850f859915df4bbe36771b5dbeefacad20334"), looks := false }, kinds := [], alts := [], laidByText := true, laidKinds := [.data, .data, .data], laidTests := true, laidLooks := .later }
def IcmpHushCardSaid : Prop := Claim7.holds Tryd.pinned (.plain (OpenSpec.ofChange icmpHushSpec)) icmpHushCard

/-- THE TIED CARD OF 'weftlaw6.IcmpNoStorm'. -/
def icmpNoStormCard : Claim7 := { stood := { row := icmpNoStormRow, standIns := [], harness := (true, "b19f78d4ee27aa44a3e8821f2b3850f859915df4bbe36771b5dbeefacad20334"), looks := false }, kinds := [], alts := [], laidByText := true, laidKinds := [.data, .data, .data], laidTests := true, laidLooks := .later }
def IcmpNoStormCardSaid : Prop := Claim7.holds Tryd.pinned (.plain (OpenSpec.ofChange icmpNoStormSpec)) icmpNoStormCard

/-- THE TIED CARD OF 'weftlaw6.IcmpAboutFault'. -/
def icmpAboutFaultCard : Claim7 := { stood := { row := icmpAboutFaultRow, standIns := [], harness := (true, "b19f78d4ee27aa44a3e8821f2b3850f859915df4bbe36771b5dbeefacad20334"), looks := false }, kinds := [], alts := [], laidByText := true, laidKinds := [.data, .data, .data], laidTests := true, laidLooks := .later }
def IcmpAboutFaultCardSaid : Prop := Claim7.holds Tryd.pinned (.plain (OpenSpec.ofChange icmpAboutFaultSpec)) icmpAboutFaultCard

/-- THE TIED CARD OF 'weftlaw6.IcmpParses'. -/
def icmpParsesCard : Claim7 := { stood := { row := icmpParsesRow, standIns := [], harness := (true, "b19f78d4ee27aa44a3e8821f2b3850f859915df4bbe36771b5dbeefacad20334"), looks := false }, kinds := [], alts := [], laidByText := true, laidKinds := [.data, .data, .data], laidTests := true, laidLooks := .later }
def IcmpParsesCardSaid : Prop := Claim7.holds Tryd.pinned (.plain (OpenSpec.ofChange icmpParsesSpec)) icmpParsesCard

/-- THE TIED CARD OF 'weftlaw6.IcmpBuilds'. -/
def icmpBuildsCard : Claim7 := { stood := { row := icmpBuildsRow, standIns := [], harness := (true, "b19f78d4ee27aa44a3e8821f2b3850f859915df4bbe36771b5dbeefacad20334"), looks := false }, kinds := [], alts := [], laidByText := true, laidKinds := [.data, .data, .data], laidTests := true, laidLooks := .later }
def IcmpBuildsCardSaid : Prop := Claim7.holds Tryd.pinned (.plain (OpenSpec.ofChange icmpBuildsSpec)) icmpBuildsCard

/-- THE TIED CARD OF 'weftlaw6.IcmpFaults'. -/
def icmpFaultsCard : Claim7 := { stood := { row := icmpFaultsRow, standIns := [], harness := (true, "b19f78d4ee27aa44a3e8821f2b3850f859915df4bbe36771b5dbeefacad20334"), looks := false }, kinds := [], alts := [], laidByText := true, laidKinds := [.data, .data, .data], laidTests := true, laidLooks := .later }
def IcmpFaultsCardSaid : Prop := Claim7.holds Tryd.pinned (.plain (OpenSpec.ofChange icmpFaultsSpec)) icmpFaultsCard

/-- THE TIED CARD OF 'weftlaw6.IcmpEchoes'. -/
def icmpEchoesCard : Claim7 := { stood := { row := icmpEchoesRow, standIns := [], harness := (true, "b19f78d4ee27aa44a3e8821f2b3850f859915df4bbe36771b5dbeefacad20334"), looks := false }, kinds := [], alts := [], laidByText := true, laidKinds := [.data, .data, .data], laidTests := true, laidLooks := .later }
def IcmpEchoesCardSaid : Prop := Claim7.holds Tryd.pinned (.plain (OpenSpec.ofChange icmpEchoesSpec)) icmpEchoesCard

/-- THE TIED CARD OF 'weftlaw6.IcmpAbouts'. -/
def icmpAboutsCard : Claim7 := { stood := { row := icmpAboutsRow, standIns := [], harness := (true, "b19f78d4ee27aa44a3e8821f2b3850f859915df4bbe36771b5dbeefacad20334"), looks := false }, kinds := [], alts := [], laidByText := true, laidKinds := [.data, .data, .data], laidTests := true, laidLooks := .later }
def IcmpAboutsCardSaid : Prop := Claim7.holds Tryd.pinned (.plain (OpenSpec.ofChange icmpAboutsSpec)) icmpAboutsCard

/-- THE TIED CARD OF 'weftlaw6.IcmpAll'. -/
def icmpAllCard : Claim7 := { stood := { row := icmpAllRow, standIns := [], harness := (true, "b19f78d4ee27aa44a3e8821f2b3850f859915df4bbe36771b5dbeefacad20334"), looks := false }, kinds := [], alts := [], laidByText := true, laidKinds := [.data, .data, .data], laidTests := true, laidLooks := .later }
def IcmpAllCardSaid : Prop := Claim7.holds Tryd.pinned (.plain (OpenSpec.ofChange icmpAllSpec)) icmpAllCard

/-- THE TIED CARD OF 'weftlaw6.IcmpEchoBack'. -/
def icmpEchoBackCard : Claim7 := { stood := { row := icmpEchoBackRow, standIns := [], harness := (true, "b19f78d4ee27aa44a3e8821f2b3850f859915df4bbe36771b5dbeefacad20334"), looks := false }, kinds := [], alts := [], laidByText := true, laidKinds := [.data, .data, .data], laidTests := true, laidLooks := .later }
def IcmpEchoBackCardSaid : Prop := Claim7.holds Tryd.pinned (.plain (OpenSpec.ofChange icmpEchoBackSpec)) icmpEchoBackCard

/-- THE TIED CARD OF 'weftlaw6.IcmpFresh'. -/
def icmpFreshCard : Claim7 := { stood := { row := icmpFreshRow, standIns := [], harness := (true, "b19f78d4ee27aa44a3e8821f2b3850f859915df4bbe36771b5dbeefacad20334"), looks := false }, kinds := [], alts := [], laidByText := true, laidKinds := [.data, .data, .data], laidTests := true, laidLooks := .later }
def IcmpFreshCardSaid : Prop := Claim7.holds Tryd.pinned (.plain (OpenSpec.ofChange icmpFreshSpec)) icmpFreshCard

/-- THE TIED CARD OF 'weftlaw6.IcmpScript'. -/
def icmpScriptCard : Claim7 := { stood := { row := icmpScriptRow, standIns := [], harness := (true, "b19f78d4ee27aa44a3e8821f2b3850f859915df4bbe36771b5dbeefacad20334"), looks := false }, kinds := [], alts := [], laidByText := true, laidKinds := [.data, .data, .data], laidTests := true, laidLooks := .later }
def IcmpScriptCardSaid : Prop := Claim7.holds Tryd.pinned (.plain (OpenSpec.ofChange icmpScriptSpec)) icmpScriptCard

/-- THE SECOND FORM's CARD OF 'weftlaw6.IcmpHush'. -/
def icmpHushUptoCard : Claim7 := { stood := { row := icmpHushUptoRow, standIns := [], harness := (true, "b19f78d4ee27aa44a3e8821f2b3850f859915df4bbe36771b5dbeefacad20334"), looks := false }, kinds := [], alts := [], laidByText := true, laidKinds := [.data, .data, .data], laidTests := true, laidLooks := .later }
def IcmpHushUptoCardSaid : Prop := Claim7.holds Tryd.pinned (.plain (OpenSpec.upto icmpHushSpec)) icmpHushUptoCard

/-- THE SECOND FORM's CARD OF 'weftlaw6.IcmpNoStorm'. -/
def icmpNoStormUptoCard : Claim7 := { stood := { row := icmpNoStormUptoRow, standIns := [], harness := (true, "b19f78d4ee27aa44a3e8821f2b3850f859915df4bbe36771b5dbeefacad20334"), looks := false }, kinds := [], alts := [], laidByText := true, laidKinds := [.data, .data, .data], laidTests := true, laidLooks := .later }
def IcmpNoStormUptoCardSaid : Prop := Claim7.holds Tryd.pinned (.plain (OpenSpec.upto icmpNoStormSpec)) icmpNoStormUptoCard

/-- THE SECOND FORM's CARD OF 'weftlaw6.IcmpAboutFault'. -/
def icmpAboutFaultUptoCard : Claim7 := { stood := { row := icmpAboutFaultUptoRow, standIns := [], harness := (true, "b19f78d4ee27aa44a3e8821f2b3850f859915df4bbe36771b5dbeefacad20334"), looks := false }, kinds := [], alts := [], laidByText := true, laidKinds := [.data, .data, .data], laidTests := true, laidLooks := .later }
def IcmpAboutFaultUptoCardSaid : Prop := Claim7.holds Tryd.pinned (.plain (OpenSpec.upto icmpAboutFaultSpec)) icmpAboutFaultUptoCard

/-- THE SECOND FORM's CARD OF 'weftlaw6.IcmpParses'. -/
def icmpParsesUptoCard : Claim7 := { stood := { row := icmpParsesUptoRow, standIns := [], harness := (true, "b19f78d4ee27aa44a3e8821f2b3850f859915df4bbe36771b5dbeefacad20334"), looks := false }, kinds := [], alts := [], laidByText := true, laidKinds := [.data, .data, .data], laidTests := true, laidLooks := .later }
def IcmpParsesUptoCardSaid : Prop := Claim7.holds Tryd.pinned (.plain (OpenSpec.upto icmpParsesSpec)) icmpParsesUptoCard

/-- THE SECOND FORM's CARD OF 'weftlaw6.IcmpBuilds'. -/
def icmpBuildsUptoCard : Claim7 := { stood := { row := icmpBuildsUptoRow, standIns := [], harness := (true, "b19f78d4ee27aa44a3e8821f2b3850f859915df4bbe36771b5dbeefacad20334"), looks := false }, kinds := [], alts := [], laidByText := true, laidKinds := [.data, .data, .data], laidTests := true, laidLooks := .later }
def IcmpBuildsUptoCardSaid : Prop := Claim7.holds Tryd.pinned (.plain (OpenSpec.upto icmpBuildsSpec)) icmpBuildsUptoCard

/-- THE SECOND FORM's CARD OF 'weftlaw6.IcmpFaults'. -/
def icmpFaultsUptoCard : Claim7 := { stood := { row := icmpFaultsUptoRow, standIns := [], harness := (true, "b19f78d4ee27aa44a3e8821f2b3850f859915df4bbe36771b5dbeefacad20334"), looks := false }, kinds := [], alts := [], laidByText := true, laidKinds := [.data, .data, .data], laidTests := true, laidLooks := .later }
def IcmpFaultsUptoCardSaid : Prop := Claim7.holds Tryd.pinned (.plain (OpenSpec.upto icmpFaultsSpec)) icmpFaultsUptoCard

/-- THE SECOND FORM's CARD OF 'weftlaw6.IcmpEchoes'. -/
def icmpEchoesUptoCard : Claim7 := { stood := { row := icmpEchoesUptoRow, standIns := [], harness := (true, "b19f78d4ee27aa44a3e8821f2b3850f859915df4bbe36771b5dbeefacad20334"), looks := false }, kinds := [], alts := [], laidByText := true, laidKinds := [.data, .data, .data], laidTests := true, laidLooks := .later }
def IcmpEchoesUptoCardSaid : Prop := Claim7.holds Tryd.pinned (.plain (OpenSpec.upto icmpEchoesSpec)) icmpEchoesUptoCard

/-- THE SECOND FORM's CARD OF 'weftlaw6.IcmpAbouts'. -/
def icmpAboutsUptoCard : Claim7 := { stood := { row := icmpAboutsUptoRow, standIns := [], harness := (true, "b19f78d4ee27aa44a3e8821f2b3850f859915df4bbe36771b5dbeefacad20334"), looks := false }, kinds := [], alts := [], laidByText := true, laidKinds := [.data, .data, .data], laidTests := true, laidLooks := .later }
def IcmpAboutsUptoCardSaid : Prop := Claim7.holds Tryd.pinned (.plain (OpenSpec.upto icmpAboutsSpec)) icmpAboutsUptoCard

/-- THE SECOND FORM's CARD OF 'weftlaw6.IcmpAll'. -/
def icmpAllUptoCard : Claim7 := { stood := { row := icmpAllUptoRow, standIns := [], harness := (true, "b19f78d4ee27aa44a3e8821f2b3850f859915df4bbe36771b5dbeefacad20334"), looks := false }, kinds := [], alts := [], laidByText := true, laidKinds := [.data, .data, .data], laidTests := true, laidLooks := .later }
def IcmpAllUptoCardSaid : Prop := Claim7.holds Tryd.pinned (.plain (OpenSpec.upto icmpAllSpec)) icmpAllUptoCard

/-- THE SECOND FORM's CARD OF 'weftlaw6.IcmpEchoBack'. -/
def icmpEchoBackUptoCard : Claim7 := { stood := { row := icmpEchoBackUptoRow, standIns := [], harness := (true, "b19f78d4ee27aa44a3e8821f2b3850f859915df4bbe36771b5dbeefacad20334"), looks := false }, kinds := [], alts := [], laidByText := true, laidKinds := [.data, .data, .data], laidTests := true, laidLooks := .later }
def IcmpEchoBackUptoCardSaid : Prop := Claim7.holds Tryd.pinned (.plain (OpenSpec.upto icmpEchoBackSpec)) icmpEchoBackUptoCard

/-- THE SECOND FORM's CARD OF 'weftlaw6.IcmpFresh'. -/
def icmpFreshUptoCard : Claim7 := { stood := { row := icmpFreshUptoRow, standIns := [], harness := (true, "b19f78d4ee27aa44a3e8821f2b3850f859915df4bbe36771b5dbeefacad20334"), looks := false }, kinds := [], alts := [], laidByText := true, laidKinds := [.data, .data, .data], laidTests := true, laidLooks := .later }
def IcmpFreshUptoCardSaid : Prop := Claim7.holds Tryd.pinned (.plain (OpenSpec.upto icmpFreshSpec)) icmpFreshUptoCard

/-- THE SECOND FORM's CARD OF 'weftlaw6.IcmpScript'. -/
def icmpScriptUptoCard : Claim7 := { stood := { row := icmpScriptUptoRow, standIns := [], harness := (true, "b19f78d4ee27aa44a3e8821f2b3850f859915df4bbe36771b5dbeefacad20334"), looks := false }, kinds := [], alts := [], laidByText := true, laidKinds := [.data, .data, .data], laidTests := true, laidLooks := .later }
def IcmpScriptUptoCardSaid : Prop := Claim7.holds Tryd.pinned (.plain (OpenSpec.upto icmpScriptSpec)) icmpScriptUptoCard
end Rows
end Go.Proofs.YtfjbpeadhaekbaaDoor
