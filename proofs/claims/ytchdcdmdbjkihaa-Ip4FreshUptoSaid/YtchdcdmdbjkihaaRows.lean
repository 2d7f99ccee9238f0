/-
  No cell of these rows narrows 'for every input' (looked for: loops, veiled, ifaces, maps, wideKeys, modest, calm, conditions, laid).
  DERIVED. THE GIVEN ROWS OF THIS SEAT. 4 by the template 'for every input the law returns true; each argument reads behind the call as it read before'; 0 by the template 'total and deterministic' (their statements: YtchdcdmdbjkihaaTotals.lean).
  GIVEN WITH THE SEED: the statements are not yours to turn. If you find one false, say at which input.
  Laid BY PROGRAM, IN A SANDBOX (cutbox-rows.mjs): the forced cells as the released guide's own fill.sh prints them over the translation 16b9fe43ff43001c… (all of the seat's roots in one cut). By AI agents, Wed Nov 11 2026. No macro, syntax, notation, axiom, sorry.
-/
import Derived.Test.YtchdcdmdbjkihaaChecked
import GoSem.Claim
import GoSem.ClaimJoined
import GoSem.ClaimMapViews
import Derived.JoinedTies
import Derived.KernelRfl
namespace Go.Proofs.Ytchdcdmdbjkihaa
/- THE CELL 'sum', in the pinned program and in every row, IS THE sha256 OF THE DUMP (.gsa) THAT YtchdcdmdbjkihaaProg.lean LOADS. Nothing in Lean hashes anything: it is a label: what it is worth is what the hold of that sum in a sandbox is worth. -/
noncomputable def Try.pinned : Pinned := { name := "ytchdcdmdbjkihaa", sum := "16b9fe43ff43001c49d72c4c02fed0cbdcce1544267967372a62d25929ee8033", checked := Try.checked }
namespace Rows
def none {H : Type} : Left H := { results := [], args := [] }

/-- 'weftlaw3.Ip4All': WHATEVER THE INPUT: true; the input reads as it did. -/
def ip4AllSpec : ChangeSpec := { name := "ip4All", fn := fun _ => fun
  | [d] => { results := [.lit (.bool true)], args := [d] }
  | _ => none }
def ip4AllRow : OpenClaim := { program := "ytchdcdmdbjkihaa", sum := "16b9fe43ff43001c49d72c4c02fed0cbdcce1544267967372a62d25929ee8033", func := "weft/weftlaw3.Ip4All", spec := "ip4All", apart := false }
def Ip4AllSaid : Prop := ip4AllRow.holds Try.pinned (OpenSpec.ofChange ip4AllSpec)

/-- ITS FALSE NEIGHBOUR: 'it returns false'. Refute it at one input. -/
def ip4AllWrong : ChangeSpec := { name := "ip4All", fn := fun _ => fun
  | [d] => { results := [.lit (.bool false)], args := [d] }
  | _ => none }
def Ip4AllWrongFalsely : Prop := ip4AllRow.holds Try.pinned (OpenSpec.ofChange ip4AllWrong)

/-- 'weftlaw3.Ip4Fresh': WHATEVER THE INPUT: true; the input reads as it did. -/
def ip4FreshSpec : ChangeSpec := { name := "ip4Fresh", fn := fun _ => fun
  | [d] => { results := [.lit (.bool true)], args := [d] }
  | _ => none }
def ip4FreshRow : OpenClaim := { program := "ytchdcdmdbjkihaa", sum := "16b9fe43ff43001c49d72c4c02fed0cbdcce1544267967372a62d25929ee8033", func := "weft/weftlaw3.Ip4Fresh", spec := "ip4Fresh", apart := false }
def Ip4FreshSaid : Prop := ip4FreshRow.holds Try.pinned (OpenSpec.ofChange ip4FreshSpec)

/-- ITS FALSE NEIGHBOUR: 'it returns false'. Refute it at one input. -/
def ip4FreshWrong : ChangeSpec := { name := "ip4Fresh", fn := fun _ => fun
  | [d] => { results := [.lit (.bool false)], args := [d] }
  | _ => none }
def Ip4FreshWrongFalsely : Prop := ip4FreshRow.holds Try.pinned (OpenSpec.ofChange ip4FreshWrong)

/-- 'weftlaw3.Ip4Script': WHATEVER THE INPUT: true; the input reads as it did. -/
def ip4ScriptSpec : ChangeSpec := { name := "ip4Script", fn := fun _ => fun
  | [d1, d2] => { results := [.lit (.bool true)], args := [d1, d2] }
  | _ => none }
def ip4ScriptRow : OpenClaim := { program := "ytchdcdmdbjkihaa", sum := "16b9fe43ff43001c49d72c4c02fed0cbdcce1544267967372a62d25929ee8033", func := "weft/weftlaw3.Ip4Script", spec := "ip4Script", apart := false }
def Ip4ScriptSaid : Prop := ip4ScriptRow.holds Try.pinned (OpenSpec.ofChange ip4ScriptSpec)

/-- ITS FALSE NEIGHBOUR: 'it returns false'. Refute it at one input. -/
def ip4ScriptWrong : ChangeSpec := { name := "ip4Script", fn := fun _ => fun
  | [d1, d2] => { results := [.lit (.bool false)], args := [d1, d2] }
  | _ => none }
def Ip4ScriptWrongFalsely : Prop := ip4ScriptRow.holds Try.pinned (OpenSpec.ofChange ip4ScriptWrong)

/-- 'weftlaw7.TunnelMemory': WHATEVER THE INPUT: true; the input reads as it did. -/
def tunnelMemorySpec : ChangeSpec := { name := "tunnelMemory", fn := fun _ => fun
  | [d1, d2, d3, d4] => { results := [.lit (.bool true)], args := [d1, d2, d3, d4] }
  | _ => none }
def tunnelMemoryRow : OpenClaim := { program := "ytchdcdmdbjkihaa", sum := "16b9fe43ff43001c49d72c4c02fed0cbdcce1544267967372a62d25929ee8033", func := "weft/weftlaw7.TunnelMemory", spec := "tunnelMemory", apart := false }
def TunnelMemorySaid : Prop := tunnelMemoryRow.holds Try.pinned (OpenSpec.ofChange tunnelMemorySpec)

/-- ITS FALSE NEIGHBOUR: 'it returns false'. Refute it at one input. -/
def tunnelMemoryWrong : ChangeSpec := { name := "tunnelMemory", fn := fun _ => fun
  | [d1, d2, d3, d4] => { results := [.lit (.bool false)], args := [d1, d2, d3, d4] }
  | _ => none }
def TunnelMemoryWrongFalsely : Prop := tunnelMemoryRow.holds Try.pinned (OpenSpec.ofChange tunnelMemoryWrong)

/- THE SECOND FORM. 'bulk': how many values and letters a reading holds, each counted each time it is reached (what is shared counts as often as it is met; a slice's spare places count too). A statement '..UptoSaid' is the law's where the arguments, and the package variables that the reading takes, are together of bulk at most 1048576: NARROWER than '..Said'. Prove '..Said' where nothing that the law and all that it calls make is longer than what came in: it says more and counts as full. Else prove '..UptoSaid'. A law counts once. -/
mutual
def uptoBulk {H : Type} : DataW H → Nat
  | .lit (.string bytes) => bytes.length + 1
  | .lit _ => 1
  | .nil => 1
  | .ptr d => uptoBulk d + 1
  | .slice elems spare => uptoBulkAll elems + uptoBulkAll spare + 1
  | .agg parts => uptoBulkAll parts + 1
  | .iface _ d => uptoBulk d + 1
  | .map entries => uptoBulkEntries entries + 1
  | .held _ => 1
def uptoBulkAll {H : Type} : List (DataW H) → Nat
  | [] => 0
  | d :: r => uptoBulk d + uptoBulkAll r
def uptoBulkEntries {H : Type} : List (Lit × DataW H) → Nat
  | [] => 0
  | x :: r => uptoBulkEntry x + uptoBulkEntries r
def uptoBulkEntry {H : Type} : Lit × DataW H → Nat
  | (.string bytes, d) => bytes.length + uptoBulk d + 1
  | (_, d) => uptoBulk d + 1
 end
def uptoSmall : (H : Type) → List (DataW H) → Bool := fun _ ds => decide (uptoBulkAll ds ≤ 1048576)
def OpenSpec.upto (s : _root_.Go.ChangeSpec) : _root_.Go.OpenSpec := { _root_.Go.OpenSpec.ofChange s with cond := some uptoSmall }

/-- 'weftlaw3.Ip4All', WHERE WHAT IT READS IS OF BULK AT MOST 1048576: true; the input reads as it did. -/
def ip4AllUptoRow : OpenClaim := { program := "ytchdcdmdbjkihaa", sum := "16b9fe43ff43001c49d72c4c02fed0cbdcce1544267967372a62d25929ee8033", func := "weft/weftlaw3.Ip4All", spec := "ip4All", apart := false, narrowed := true }
def Ip4AllUptoSaid : Prop := ip4AllUptoRow.holds Try.pinned (OpenSpec.upto ip4AllSpec)

/-- 'weftlaw3.Ip4Fresh', WHERE WHAT IT READS IS OF BULK AT MOST 1048576: true; the input reads as it did. -/
def ip4FreshUptoRow : OpenClaim := { program := "ytchdcdmdbjkihaa", sum := "16b9fe43ff43001c49d72c4c02fed0cbdcce1544267967372a62d25929ee8033", func := "weft/weftlaw3.Ip4Fresh", spec := "ip4Fresh", apart := false, narrowed := true }
def Ip4FreshUptoSaid : Prop := ip4FreshUptoRow.holds Try.pinned (OpenSpec.upto ip4FreshSpec)

/-- 'weftlaw3.Ip4Script', WHERE WHAT IT READS IS OF BULK AT MOST 1048576: true; the input reads as it did. -/
def ip4ScriptUptoRow : OpenClaim := { program := "ytchdcdmdbjkihaa", sum := "16b9fe43ff43001c49d72c4c02fed0cbdcce1544267967372a62d25929ee8033", func := "weft/weftlaw3.Ip4Script", spec := "ip4Script", apart := false, narrowed := true }
def Ip4ScriptUptoSaid : Prop := ip4ScriptUptoRow.holds Try.pinned (OpenSpec.upto ip4ScriptSpec)

/-- 'weftlaw7.TunnelMemory', WHERE WHAT IT READS IS OF BULK AT MOST 1048576: true; the input reads as it did. -/
def tunnelMemoryUptoRow : OpenClaim := { program := "ytchdcdmdbjkihaa", sum := "16b9fe43ff43001c49d72c4c02fed0cbdcce1544267967372a62d25929ee8033", func := "weft/weftlaw7.TunnelMemory", spec := "tunnelMemory", apart := false, narrowed := true }
def TunnelMemoryUptoSaid : Prop := tunnelMemoryUptoRow.holds Try.pinned (OpenSpec.upto tunnelMemorySpec)

end Rows
end Go.Proofs.Ytchdcdmdbjkihaa
