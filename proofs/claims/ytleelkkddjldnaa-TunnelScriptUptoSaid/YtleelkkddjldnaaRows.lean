/-
  No cell of these rows narrows 'for every input' (looked for: loops, veiled, ifaces, maps, wideKeys, modest, calm, conditions, laid).
  DERIVED. THE GIVEN ROWS OF THIS SEAT. 10 by the template 'for every input the law returns true; each argument reads behind the call as it read before'; 0 by the template 'total and deterministic' (their statements: YtleelkkddjldnaaTotals.lean).
  GIVEN WITH THE SEED: the statements are not yours to turn. If you find one false, say at which input.
  Laid BY PROGRAM, IN A SANDBOX (cutbox-rows.mjs): the forced cells as the released guide's own fill.sh prints them over the translation 0cb9a6c59ce03cc3… (all of the seat's roots in one cut). By AI agents, Wed Nov 11 2026. No macro, syntax, notation, axiom, sorry.
-/
import Derived.Test.YtleelkkddjldnaaChecked
import GoSem.Claim
import GoSem.ClaimJoined
import GoSem.ClaimMapViews
import Derived.JoinedTies
import Derived.KernelRfl
namespace Go.Proofs.Ytleelkkddjldnaa
/- THE CELL 'sum', in the pinned program and in every row, IS THE sha256 OF THE DUMP (.gsa) THAT YtleelkkddjldnaaProg.lean LOADS. Nothing in Lean hashes anything: it is a label: what it is worth is what the hold of that sum in a sandbox is worth. -/
noncomputable def Try.pinned : Pinned := { name := "ytleelkkddjldnaa", sum := "0cb9a6c59ce03cc3ab163fba2f7dfbbf1bbe418a875f2ed870458d2495a6fdbe", checked := Try.checked }
namespace Rows
def none {H : Type} : Left H := { results := [], args := [] }

/-- 'weftlaw7.TunnelDatagrams': WHATEVER THE INPUT: true; the input reads as it did. -/
def tunnelDatagramsSpec : ChangeSpec := { name := "tunnelDatagrams", fn := fun _ => fun
  | [d] => { results := [.lit (.bool true)], args := [d] }
  | _ => none }
def tunnelDatagramsRow : OpenClaim := { program := "ytleelkkddjldnaa", sum := "0cb9a6c59ce03cc3ab163fba2f7dfbbf1bbe418a875f2ed870458d2495a6fdbe", func := "weft/weftlaw7.TunnelDatagrams", spec := "tunnelDatagrams", apart := false }
def TunnelDatagramsSaid : Prop := tunnelDatagramsRow.holds Try.pinned (OpenSpec.ofChange tunnelDatagramsSpec)

/-- ITS FALSE NEIGHBOUR: 'it returns false'. Refute it at one input. -/
def tunnelDatagramsWrong : ChangeSpec := { name := "tunnelDatagrams", fn := fun _ => fun
  | [d] => { results := [.lit (.bool false)], args := [d] }
  | _ => none }
def TunnelDatagramsWrongFalsely : Prop := tunnelDatagramsRow.holds Try.pinned (OpenSpec.ofChange tunnelDatagramsWrong)

/-- 'weftlaw7.TunnelSums': WHATEVER THE INPUT: true; the input reads as it did. -/
def tunnelSumsSpec : ChangeSpec := { name := "tunnelSums", fn := fun _ => fun
  | [d1, d2, d3, d4, d5] => { results := [.lit (.bool true)], args := [d1, d2, d3, d4, d5] }
  | _ => none }
def tunnelSumsRow : OpenClaim := { program := "ytleelkkddjldnaa", sum := "0cb9a6c59ce03cc3ab163fba2f7dfbbf1bbe418a875f2ed870458d2495a6fdbe", func := "weft/weftlaw7.TunnelSums", spec := "tunnelSums", apart := false }
def TunnelSumsSaid : Prop := tunnelSumsRow.holds Try.pinned (OpenSpec.ofChange tunnelSumsSpec)

/-- ITS FALSE NEIGHBOUR: 'it returns false'. Refute it at one input. -/
def tunnelSumsWrong : ChangeSpec := { name := "tunnelSums", fn := fun _ => fun
  | [d1, d2, d3, d4, d5] => { results := [.lit (.bool false)], args := [d1, d2, d3, d4, d5] }
  | _ => none }
def TunnelSumsWrongFalsely : Prop := tunnelSumsRow.holds Try.pinned (OpenSpec.ofChange tunnelSumsWrong)

/-- 'weftlaw7.TunnelFrames': WHATEVER THE INPUT: true; the input reads as it did. -/
def tunnelFramesSpec : ChangeSpec := { name := "tunnelFrames", fn := fun _ => fun
  | [d1, d2] => { results := [.lit (.bool true)], args := [d1, d2] }
  | _ => none }
def tunnelFramesRow : OpenClaim := { program := "ytleelkkddjldnaa", sum := "0cb9a6c59ce03cc3ab163fba2f7dfbbf1bbe418a875f2ed870458d2495a6fdbe", func := "weft/weftlaw7.TunnelFrames", spec := "tunnelFrames", apart := false }
def TunnelFramesSaid : Prop := tunnelFramesRow.holds Try.pinned (OpenSpec.ofChange tunnelFramesSpec)

/-- ITS FALSE NEIGHBOUR: 'it returns false'. Refute it at one input. -/
def tunnelFramesWrong : ChangeSpec := { name := "tunnelFrames", fn := fun _ => fun
  | [d1, d2] => { results := [.lit (.bool false)], args := [d1, d2] }
  | _ => none }
def TunnelFramesWrongFalsely : Prop := tunnelFramesRow.holds Try.pinned (OpenSpec.ofChange tunnelFramesWrong)

/-- 'weftlaw7.TunnelSeals': WHATEVER THE INPUT: true; the input reads as it did. -/
def tunnelSealsSpec : ChangeSpec := { name := "tunnelSeals", fn := fun _ => fun
  | [d1, d2] => { results := [.lit (.bool true)], args := [d1, d2] }
  | _ => none }
def tunnelSealsRow : OpenClaim := { program := "ytleelkkddjldnaa", sum := "0cb9a6c59ce03cc3ab163fba2f7dfbbf1bbe418a875f2ed870458d2495a6fdbe", func := "weft/weftlaw7.TunnelSeals", spec := "tunnelSeals", apart := false }
def TunnelSealsSaid : Prop := tunnelSealsRow.holds Try.pinned (OpenSpec.ofChange tunnelSealsSpec)

/-- ITS FALSE NEIGHBOUR: 'it returns false'. Refute it at one input. -/
def tunnelSealsWrong : ChangeSpec := { name := "tunnelSeals", fn := fun _ => fun
  | [d1, d2] => { results := [.lit (.bool false)], args := [d1, d2] }
  | _ => none }
def TunnelSealsWrongFalsely : Prop := tunnelSealsRow.holds Try.pinned (OpenSpec.ofChange tunnelSealsWrong)

/-- 'weftlaw7.TunnelFlows': WHATEVER THE INPUT: true; the input reads as it did. -/
def tunnelFlowsSpec : ChangeSpec := { name := "tunnelFlows", fn := fun _ => fun
  | [d] => { results := [.lit (.bool true)], args := [d] }
  | _ => none }
def tunnelFlowsRow : OpenClaim := { program := "ytleelkkddjldnaa", sum := "0cb9a6c59ce03cc3ab163fba2f7dfbbf1bbe418a875f2ed870458d2495a6fdbe", func := "weft/weftlaw7.TunnelFlows", spec := "tunnelFlows", apart := false }
def TunnelFlowsSaid : Prop := tunnelFlowsRow.holds Try.pinned (OpenSpec.ofChange tunnelFlowsSpec)

/-- ITS FALSE NEIGHBOUR: 'it returns false'. Refute it at one input. -/
def tunnelFlowsWrong : ChangeSpec := { name := "tunnelFlows", fn := fun _ => fun
  | [d] => { results := [.lit (.bool false)], args := [d] }
  | _ => none }
def TunnelFlowsWrongFalsely : Prop := tunnelFlowsRow.holds Try.pinned (OpenSpec.ofChange tunnelFlowsWrong)

/-- 'weftlaw7.TunnelOpens': WHATEVER THE INPUT: true; the input reads as it did. -/
def tunnelOpensSpec : ChangeSpec := { name := "tunnelOpens", fn := fun _ => fun
  | [d] => { results := [.lit (.bool true)], args := [d] }
  | _ => none }
def tunnelOpensRow : OpenClaim := { program := "ytleelkkddjldnaa", sum := "0cb9a6c59ce03cc3ab163fba2f7dfbbf1bbe418a875f2ed870458d2495a6fdbe", func := "weft/weftlaw7.TunnelOpens", spec := "tunnelOpens", apart := false }
def TunnelOpensSaid : Prop := tunnelOpensRow.holds Try.pinned (OpenSpec.ofChange tunnelOpensSpec)

/-- ITS FALSE NEIGHBOUR: 'it returns false'. Refute it at one input. -/
def tunnelOpensWrong : ChangeSpec := { name := "tunnelOpens", fn := fun _ => fun
  | [d] => { results := [.lit (.bool false)], args := [d] }
  | _ => none }
def TunnelOpensWrongFalsely : Prop := tunnelOpensRow.holds Try.pinned (OpenSpec.ofChange tunnelOpensWrong)

/-- 'weftlaw7.TunnelThere': WHATEVER THE INPUT: true; the input reads as it did. -/
def tunnelThereSpec : ChangeSpec := { name := "tunnelThere", fn := fun _ => fun
  | [d1, d2, d3] => { results := [.lit (.bool true)], args := [d1, d2, d3] }
  | _ => none }
def tunnelThereRow : OpenClaim := { program := "ytleelkkddjldnaa", sum := "0cb9a6c59ce03cc3ab163fba2f7dfbbf1bbe418a875f2ed870458d2495a6fdbe", func := "weft/weftlaw7.TunnelThere", spec := "tunnelThere", apart := false }
def TunnelThereSaid : Prop := tunnelThereRow.holds Try.pinned (OpenSpec.ofChange tunnelThereSpec)

/-- ITS FALSE NEIGHBOUR: 'it returns false'. Refute it at one input. -/
def tunnelThereWrong : ChangeSpec := { name := "tunnelThere", fn := fun _ => fun
  | [d1, d2, d3] => { results := [.lit (.bool false)], args := [d1, d2, d3] }
  | _ => none }
def TunnelThereWrongFalsely : Prop := tunnelThereRow.holds Try.pinned (OpenSpec.ofChange tunnelThereWrong)

/-- 'weftlaw7.TunnelReserved': WHATEVER THE INPUT: true; the input reads as it did. -/
def tunnelReservedSpec : ChangeSpec := { name := "tunnelReserved", fn := fun _ => fun
  | [d1, d2, d3, d4] => { results := [.lit (.bool true)], args := [d1, d2, d3, d4] }
  | _ => none }
def tunnelReservedRow : OpenClaim := { program := "ytleelkkddjldnaa", sum := "0cb9a6c59ce03cc3ab163fba2f7dfbbf1bbe418a875f2ed870458d2495a6fdbe", func := "weft/weftlaw7.TunnelReserved", spec := "tunnelReserved", apart := false }
def TunnelReservedSaid : Prop := tunnelReservedRow.holds Try.pinned (OpenSpec.ofChange tunnelReservedSpec)

/-- ITS FALSE NEIGHBOUR: 'it returns false'. Refute it at one input. -/
def tunnelReservedWrong : ChangeSpec := { name := "tunnelReserved", fn := fun _ => fun
  | [d1, d2, d3, d4] => { results := [.lit (.bool false)], args := [d1, d2, d3, d4] }
  | _ => none }
def TunnelReservedWrongFalsely : Prop := tunnelReservedRow.holds Try.pinned (OpenSpec.ofChange tunnelReservedWrong)

/-- 'weftlaw7.TunnelMemory': WHATEVER THE INPUT: true; the input reads as it did. -/
def tunnelMemorySpec : ChangeSpec := { name := "tunnelMemory", fn := fun _ => fun
  | [d1, d2, d3, d4] => { results := [.lit (.bool true)], args := [d1, d2, d3, d4] }
  | _ => none }
def tunnelMemoryRow : OpenClaim := { program := "ytleelkkddjldnaa", sum := "0cb9a6c59ce03cc3ab163fba2f7dfbbf1bbe418a875f2ed870458d2495a6fdbe", func := "weft/weftlaw7.TunnelMemory", spec := "tunnelMemory", apart := false }
def TunnelMemorySaid : Prop := tunnelMemoryRow.holds Try.pinned (OpenSpec.ofChange tunnelMemorySpec)

/-- ITS FALSE NEIGHBOUR: 'it returns false'. Refute it at one input. -/
def tunnelMemoryWrong : ChangeSpec := { name := "tunnelMemory", fn := fun _ => fun
  | [d1, d2, d3, d4] => { results := [.lit (.bool false)], args := [d1, d2, d3, d4] }
  | _ => none }
def TunnelMemoryWrongFalsely : Prop := tunnelMemoryRow.holds Try.pinned (OpenSpec.ofChange tunnelMemoryWrong)

/-- 'weftlaw7.TunnelScript': WHATEVER THE INPUT: true; the input reads as it did. -/
def tunnelScriptSpec : ChangeSpec := { name := "tunnelScript", fn := fun _ => fun
  | [d] => { results := [.lit (.bool true)], args := [d] }
  | _ => none }
def tunnelScriptRow : OpenClaim := { program := "ytleelkkddjldnaa", sum := "0cb9a6c59ce03cc3ab163fba2f7dfbbf1bbe418a875f2ed870458d2495a6fdbe", func := "weft/weftlaw7.TunnelScript", spec := "tunnelScript", apart := false }
def TunnelScriptSaid : Prop := tunnelScriptRow.holds Try.pinned (OpenSpec.ofChange tunnelScriptSpec)

/-- ITS FALSE NEIGHBOUR: 'it returns false'. Refute it at one input. -/
def tunnelScriptWrong : ChangeSpec := { name := "tunnelScript", fn := fun _ => fun
  | [d] => { results := [.lit (.bool false)], args := [d] }
  | _ => none }
def TunnelScriptWrongFalsely : Prop := tunnelScriptRow.holds Try.pinned (OpenSpec.ofChange tunnelScriptWrong)

/- THE SECOND FORM. 'bulk': how many values and letters a reading holds, each counted each time it is reached (what is shared counts as often as it is met; a slice's spare places count too). A statement '..UptoSaid' is the law's where the arguments, and the package variables that the reading takes, are together of bulk at most 1048576: NARROWER than '..Said'. Prove '..Said' where nothing that the law and all that it calls make is longer than what came in: it says more and counts as full. Else prove '..UptoSaid'. A law counts once. -/
mutual
def uptoBulk {H : Type} : DataW H → Nat
  | .lit (.string bytes) => bytes.length + 1
  | .lit _ => 1
  | .nil => 1
  | .ptr d => uptoBulk d + 1
  | .slice elems spare => uptoBulkAll elems + uptoBulkAll spare + 1
  | .agg parts => uptoBulkAll parts + 1
  | .iface _ d => uptoBulk d + 1
  | .map entries => uptoBulkEntries entries + 1
  | .held _ => 1
def uptoBulkAll {H : Type} : List (DataW H) → Nat
  | [] => 0
  | d :: r => uptoBulk d + uptoBulkAll r
def uptoBulkEntries {H : Type} : List (Lit × DataW H) → Nat
  | [] => 0
  | x :: r => uptoBulkEntry x + uptoBulkEntries r
def uptoBulkEntry {H : Type} : Lit × DataW H → Nat
  | (.string bytes, d) => bytes.length + uptoBulk d + 1
  | (_, d) => uptoBulk d + 1
 end
def uptoSmall : (H : Type) → List (DataW H) → Bool := fun _ ds => decide (uptoBulkAll ds ≤ 1048576)
def OpenSpec.upto (s : _root_.Go.ChangeSpec) : _root_.Go.OpenSpec := { _root_.Go.OpenSpec.ofChange s with cond := some uptoSmall }

/-- 'weftlaw7.TunnelDatagrams', WHERE WHAT IT READS IS OF BULK AT MOST 1048576: true; the input reads as it did. -/
def tunnelDatagramsUptoRow : OpenClaim := { program := "ytleelkkddjldnaa", sum := "0cb9a6c59ce03cc3ab163fba2f7dfbbf1bbe418a875f2ed870458d2495a6fdbe", func := "weft/weftlaw7.TunnelDatagrams", spec := "tunnelDatagrams", apart := false, narrowed := true }
def TunnelDatagramsUptoSaid : Prop := tunnelDatagramsUptoRow.holds Try.pinned (OpenSpec.upto tunnelDatagramsSpec)

/-- 'weftlaw7.TunnelSums', WHERE WHAT IT READS IS OF BULK AT MOST 1048576: true; the input reads as it did. -/
def tunnelSumsUptoRow : OpenClaim := { program := "ytleelkkddjldnaa", sum := "0cb9a6c59ce03cc3ab163fba2f7dfbbf1bbe418a875f2ed870458d2495a6fdbe", func := "weft/weftlaw7.TunnelSums", spec := "tunnelSums", apart := false, narrowed := true }
def TunnelSumsUptoSaid : Prop := tunnelSumsUptoRow.holds Try.pinned (OpenSpec.upto tunnelSumsSpec)

/-- 'weftlaw7.TunnelFrames', WHERE WHAT IT READS IS OF BULK AT MOST 1048576: true; the input reads as it did. -/
def tunnelFramesUptoRow : OpenClaim := { program := "ytleelkkddjldnaa", sum := "0cb9a6c59ce03cc3ab163fba2f7dfbbf1bbe418a875f2ed870458d2495a6fdbe", func := "weft/weftlaw7.TunnelFrames", spec := "tunnelFrames", apart := false, narrowed := true }
def TunnelFramesUptoSaid : Prop := tunnelFramesUptoRow.holds Try.pinned (OpenSpec.upto tunnelFramesSpec)

/-- 'weftlaw7.TunnelSeals', WHERE WHAT IT READS IS OF BULK AT MOST 1048576: true; the input reads as it did. -/
def tunnelSealsUptoRow : OpenClaim := { program := "ytleelkkddjldnaa", sum := "0cb9a6c59ce03cc3ab163fba2f7dfbbf1bbe418a875f2ed870458d2495a6fdbe", func := "weft/weftlaw7.TunnelSeals", spec := "tunnelSeals", apart := false, narrowed := true }
def TunnelSealsUptoSaid : Prop := tunnelSealsUptoRow.holds Try.pinned (OpenSpec.upto tunnelSealsSpec)

/-- 'weftlaw7.TunnelFlows', WHERE WHAT IT READS IS OF BULK AT MOST 1048576: true; the input reads as it did. -/
def tunnelFlowsUptoRow : OpenClaim := { program := "ytleelkkddjldnaa", sum := "0cb9a6c59ce03cc3ab163fba2f7dfbbf1bbe418a875f2ed870458d2495a6fdbe", func := "weft/weftlaw7.TunnelFlows", spec := "tunnelFlows", apart := false, narrowed := true }
def TunnelFlowsUptoSaid : Prop := tunnelFlowsUptoRow.holds Try.pinned (OpenSpec.upto tunnelFlowsSpec)

/-- 'weftlaw7.TunnelOpens', WHERE WHAT IT READS IS OF BULK AT MOST 1048576: true; the input reads as it did. -/
def tunnelOpensUptoRow : OpenClaim := { program := "ytleelkkddjldnaa", sum := "0cb9a6c59ce03cc3ab163fba2f7dfbbf1bbe418a875f2ed870458d2495a6fdbe", func := "weft/weftlaw7.TunnelOpens", spec := "tunnelOpens", apart := false, narrowed := true }
def TunnelOpensUptoSaid : Prop := tunnelOpensUptoRow.holds Try.pinned (OpenSpec.upto tunnelOpensSpec)

/-- 'weftlaw7.TunnelThere', WHERE WHAT IT READS IS OF BULK AT MOST 1048576: true; the input reads as it did. -/
def tunnelThereUptoRow : OpenClaim := { program := "ytleelkkddjldnaa", sum := "0cb9a6c59ce03cc3ab163fba2f7dfbbf1bbe418a875f2ed870458d2495a6fdbe", func := "weft/weftlaw7.TunnelThere", spec := "tunnelThere", apart := false, narrowed := true }
def TunnelThereUptoSaid : Prop := tunnelThereUptoRow.holds Try.pinned (OpenSpec.upto tunnelThereSpec)

/-- 'weftlaw7.TunnelReserved', WHERE WHAT IT READS IS OF BULK AT MOST 1048576: true; the input reads as it did. -/
def tunnelReservedUptoRow : OpenClaim := { program := "ytleelkkddjldnaa", sum := "0cb9a6c59ce03cc3ab163fba2f7dfbbf1bbe418a875f2ed870458d2495a6fdbe", func := "weft/weftlaw7.TunnelReserved", spec := "tunnelReserved", apart := false, narrowed := true }
def TunnelReservedUptoSaid : Prop := tunnelReservedUptoRow.holds Try.pinned (OpenSpec.upto tunnelReservedSpec)

/-- 'weftlaw7.TunnelMemory', WHERE WHAT IT READS IS OF BULK AT MOST 1048576: true; the input reads as it did. -/
def tunnelMemoryUptoRow : OpenClaim := { program := "ytleelkkddjldnaa", sum := "0cb9a6c59ce03cc3ab163fba2f7dfbbf1bbe418a875f2ed870458d2495a6fdbe", func := "weft/weftlaw7.TunnelMemory", spec := "tunnelMemory", apart := false, narrowed := true }
def TunnelMemoryUptoSaid : Prop := tunnelMemoryUptoRow.holds Try.pinned (OpenSpec.upto tunnelMemorySpec)

/-- 'weftlaw7.TunnelScript', WHERE WHAT IT READS IS OF BULK AT MOST 1048576: true; the input reads as it did. -/
def tunnelScriptUptoRow : OpenClaim := { program := "ytleelkkddjldnaa", sum := "0cb9a6c59ce03cc3ab163fba2f7dfbbf1bbe418a875f2ed870458d2495a6fdbe", func := "weft/weftlaw7.TunnelScript", spec := "tunnelScript", apart := false, narrowed := true }
def TunnelScriptUptoSaid : Prop := tunnelScriptUptoRow.holds Try.pinned (OpenSpec.upto tunnelScriptSpec)

end Rows
end Go.Proofs.Ytleelkkddjldnaa
