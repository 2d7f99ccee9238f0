/-
  No cell of these rows narrows 'for every input' (looked for: loops, veiled, ifaces, maps, wideKeys, modest, calm, conditions, laid).
  DERIVED. THE GIVEN ROWS OF THIS SEAT. 12 by the template 'for every input the law returns true; each argument reads behind the call as it read before'; 0 by the template 'total and deterministic' (their statements: YtbacmhegalncjaaTotals.lean).
  GIVEN WITH THE SEED: the statements are not yours to turn. If you find one false, say at which input.
  Laid BY PROGRAM, IN A SANDBOX (cutbox-rows.mjs): the forced cells as the released guide's own fill.sh prints them over the translation e5a4bce0c585eb8a… (all of the seat's roots in one cut). By AI agents, Wed Nov 11 2026. No macro, syntax, notation, axiom, sorry.
-/
import Derived.Test.YtbacmhegalncjaaChecked
import GoSem.Claim
import GoSem.ClaimJoined
import GoSem.ClaimMapViews
import Derived.JoinedTies
import Derived.KernelRfl
namespace Go.Proofs.Ytbacmhegalncjaa
/- THE CELL 'sum', in the pinned program and in every row, IS THE sha256 OF THE DUMP (.gsa) THAT YtbacmhegalncjaaProg.lean LOADS. Nothing in Lean hashes anything: it is a label: what it is worth is what the hold of that sum in a sandbox is worth. -/
noncomputable def Try.pinned : Pinned := { name := "ytbacmhegalncjaa", sum := "e5a4bce0c585eb8ae56c15103487c9c03969b9b85a72484c84493b4ff8ebc416", checked := Try.checked }
namespace Rows
def none {H : Type} : Left H := { results := [], args := [] }

/-- 'weftlaw3.Ip4SumJoins': WHATEVER THE INPUT: true; the input reads as it did. -/
def ip4SumJoinsSpec : ChangeSpec := { name := "ip4SumJoins", fn := fun _ => fun
  | [d1, d2] => { results := [.lit (.bool true)], args := [d1, d2] }
  | _ => none }
def ip4SumJoinsRow : OpenClaim := { program := "ytbacmhegalncjaa", sum := "e5a4bce0c585eb8ae56c15103487c9c03969b9b85a72484c84493b4ff8ebc416", func := "weft/weftlaw3.Ip4SumJoins", spec := "ip4SumJoins", apart := false }
def Ip4SumJoinsSaid : Prop := ip4SumJoinsRow.holds Try.pinned (OpenSpec.ofChange ip4SumJoinsSpec)

/-- ITS FALSE NEIGHBOUR: 'it returns false'. Refute it at one input. -/
def ip4SumJoinsWrong : ChangeSpec := { name := "ip4SumJoins", fn := fun _ => fun
  | [d1, d2] => { results := [.lit (.bool false)], args := [d1, d2] }
  | _ => none }
def Ip4SumJoinsWrongFalsely : Prop := ip4SumJoinsRow.holds Try.pinned (OpenSpec.ofChange ip4SumJoinsWrong)

/-- 'weftlaw3.Ip4AdjustSum': WHATEVER THE INPUT: true; the input reads as it did. -/
def ip4AdjustSumSpec : ChangeSpec := { name := "ip4AdjustSum", fn := fun _ => fun
  | [d1, d2, d3] => { results := [.lit (.bool true)], args := [d1, d2, d3] }
  | _ => none }
def ip4AdjustSumRow : OpenClaim := { program := "ytbacmhegalncjaa", sum := "e5a4bce0c585eb8ae56c15103487c9c03969b9b85a72484c84493b4ff8ebc416", func := "weft/weftlaw3.Ip4AdjustSum", spec := "ip4AdjustSum", apart := false }
def Ip4AdjustSumSaid : Prop := ip4AdjustSumRow.holds Try.pinned (OpenSpec.ofChange ip4AdjustSumSpec)

/-- ITS FALSE NEIGHBOUR: 'it returns false'. Refute it at one input. -/
def ip4AdjustSumWrong : ChangeSpec := { name := "ip4AdjustSum", fn := fun _ => fun
  | [d1, d2, d3] => { results := [.lit (.bool false)], args := [d1, d2, d3] }
  | _ => none }
def Ip4AdjustSumWrongFalsely : Prop := ip4AdjustSumRow.holds Try.pinned (OpenSpec.ofChange ip4AdjustSumWrong)

/-- 'weftlaw3.Ip4CopiedOnce': WHATEVER THE INPUT: true; the input reads as it did. -/
def ip4CopiedOnceSpec : ChangeSpec := { name := "ip4CopiedOnce", fn := fun _ => fun
  | [d] => { results := [.lit (.bool true)], args := [d] }
  | _ => none }
def ip4CopiedOnceRow : OpenClaim := { program := "ytbacmhegalncjaa", sum := "e5a4bce0c585eb8ae56c15103487c9c03969b9b85a72484c84493b4ff8ebc416", func := "weft/weftlaw3.Ip4CopiedOnce", spec := "ip4CopiedOnce", apart := false }
def Ip4CopiedOnceSaid : Prop := ip4CopiedOnceRow.holds Try.pinned (OpenSpec.ofChange ip4CopiedOnceSpec)

/-- ITS FALSE NEIGHBOUR: 'it returns false'. Refute it at one input. -/
def ip4CopiedOnceWrong : ChangeSpec := { name := "ip4CopiedOnce", fn := fun _ => fun
  | [d] => { results := [.lit (.bool false)], args := [d] }
  | _ => none }
def Ip4CopiedOnceWrongFalsely : Prop := ip4CopiedOnceRow.holds Try.pinned (OpenSpec.ofChange ip4CopiedOnceWrong)

/-- 'weftlaw3.Ip4ParsesBack': WHATEVER THE INPUT: true; the input reads as it did. -/
def ip4ParsesBackSpec : ChangeSpec := { name := "ip4ParsesBack", fn := fun _ => fun
  | [d] => { results := [.lit (.bool true)], args := [d] }
  | _ => none }
def ip4ParsesBackRow : OpenClaim := { program := "ytbacmhegalncjaa", sum := "e5a4bce0c585eb8ae56c15103487c9c03969b9b85a72484c84493b4ff8ebc416", func := "weft/weftlaw3.Ip4ParsesBack", spec := "ip4ParsesBack", apart := false }
def Ip4ParsesBackSaid : Prop := ip4ParsesBackRow.holds Try.pinned (OpenSpec.ofChange ip4ParsesBackSpec)

/-- ITS FALSE NEIGHBOUR: 'it returns false'. Refute it at one input. -/
def ip4ParsesBackWrong : ChangeSpec := { name := "ip4ParsesBack", fn := fun _ => fun
  | [d] => { results := [.lit (.bool false)], args := [d] }
  | _ => none }
def Ip4ParsesBackWrongFalsely : Prop := ip4ParsesBackRow.holds Try.pinned (OpenSpec.ofChange ip4ParsesBackWrong)

/-- 'weftlaw3.Ip4FlipTold': WHATEVER THE INPUT: true; the input reads as it did. -/
def ip4FlipToldSpec : ChangeSpec := { name := "ip4FlipTold", fn := fun _ => fun
  | [d1, d2] => { results := [.lit (.bool true)], args := [d1, d2] }
  | _ => none }
def ip4FlipToldRow : OpenClaim := { program := "ytbacmhegalncjaa", sum := "e5a4bce0c585eb8ae56c15103487c9c03969b9b85a72484c84493b4ff8ebc416", func := "weft/weftlaw3.Ip4FlipTold", spec := "ip4FlipTold", apart := false }
def Ip4FlipToldSaid : Prop := ip4FlipToldRow.holds Try.pinned (OpenSpec.ofChange ip4FlipToldSpec)

/-- ITS FALSE NEIGHBOUR: 'it returns false'. Refute it at one input. -/
def ip4FlipToldWrong : ChangeSpec := { name := "ip4FlipTold", fn := fun _ => fun
  | [d1, d2] => { results := [.lit (.bool false)], args := [d1, d2] }
  | _ => none }
def Ip4FlipToldWrongFalsely : Prop := ip4FlipToldRow.holds Try.pinned (OpenSpec.ofChange ip4FlipToldWrong)

/-- 'weftlaw3.Ip4BuildsBack': WHATEVER THE INPUT: true; the input reads as it did. -/
def ip4BuildsBackSpec : ChangeSpec := { name := "ip4BuildsBack", fn := fun _ => fun
  | [d1, d2] => { results := [.lit (.bool true)], args := [d1, d2] }
  | _ => none }
def ip4BuildsBackRow : OpenClaim := { program := "ytbacmhegalncjaa", sum := "e5a4bce0c585eb8ae56c15103487c9c03969b9b85a72484c84493b4ff8ebc416", func := "weft/weftlaw3.Ip4BuildsBack", spec := "ip4BuildsBack", apart := false }
def Ip4BuildsBackSaid : Prop := ip4BuildsBackRow.holds Try.pinned (OpenSpec.ofChange ip4BuildsBackSpec)

/-- ITS FALSE NEIGHBOUR: 'it returns false'. Refute it at one input. -/
def ip4BuildsBackWrong : ChangeSpec := { name := "ip4BuildsBack", fn := fun _ => fun
  | [d1, d2] => { results := [.lit (.bool false)], args := [d1, d2] }
  | _ => none }
def Ip4BuildsBackWrongFalsely : Prop := ip4BuildsBackRow.holds Try.pinned (OpenSpec.ofChange ip4BuildsBackWrong)

/-- 'weftlaw3.Ip4PeeksFront': WHATEVER THE INPUT: true; the input reads as it did. -/
def ip4PeeksFrontSpec : ChangeSpec := { name := "ip4PeeksFront", fn := fun _ => fun
  | [d1, d2] => { results := [.lit (.bool true)], args := [d1, d2] }
  | _ => none }
def ip4PeeksFrontRow : OpenClaim := { program := "ytbacmhegalncjaa", sum := "e5a4bce0c585eb8ae56c15103487c9c03969b9b85a72484c84493b4ff8ebc416", func := "weft/weftlaw3.Ip4PeeksFront", spec := "ip4PeeksFront", apart := false }
def Ip4PeeksFrontSaid : Prop := ip4PeeksFrontRow.holds Try.pinned (OpenSpec.ofChange ip4PeeksFrontSpec)

/-- ITS FALSE NEIGHBOUR: 'it returns false'. Refute it at one input. -/
def ip4PeeksFrontWrong : ChangeSpec := { name := "ip4PeeksFront", fn := fun _ => fun
  | [d1, d2] => { results := [.lit (.bool false)], args := [d1, d2] }
  | _ => none }
def Ip4PeeksFrontWrongFalsely : Prop := ip4PeeksFrontRow.holds Try.pinned (OpenSpec.ofChange ip4PeeksFrontWrong)

/-- 'weftlaw3.Ip4AgeWalk': WHATEVER THE INPUT: true; the input reads as it did. -/
def ip4AgeWalkSpec : ChangeSpec := { name := "ip4AgeWalk", fn := fun _ => fun
  | [d1, d2] => { results := [.lit (.bool true)], args := [d1, d2] }
  | _ => none }
def ip4AgeWalkRow : OpenClaim := { program := "ytbacmhegalncjaa", sum := "e5a4bce0c585eb8ae56c15103487c9c03969b9b85a72484c84493b4ff8ebc416", func := "weft/weftlaw3.Ip4AgeWalk", spec := "ip4AgeWalk", apart := false }
def Ip4AgeWalkSaid : Prop := ip4AgeWalkRow.holds Try.pinned (OpenSpec.ofChange ip4AgeWalkSpec)

/-- ITS FALSE NEIGHBOUR: 'it returns false'. Refute it at one input. -/
def ip4AgeWalkWrong : ChangeSpec := { name := "ip4AgeWalk", fn := fun _ => fun
  | [d1, d2] => { results := [.lit (.bool false)], args := [d1, d2] }
  | _ => none }
def Ip4AgeWalkWrongFalsely : Prop := ip4AgeWalkRow.holds Try.pinned (OpenSpec.ofChange ip4AgeWalkWrong)

/-- 'weftlaw3.Ip4TwoZeros': WHATEVER THE INPUT: true; the input reads as it did. -/
def ip4TwoZerosSpec : ChangeSpec := { name := "ip4TwoZeros", fn := fun _ => fun
  | [d] => { results := [.lit (.bool true)], args := [d] }
  | _ => none }
def ip4TwoZerosRow : OpenClaim := { program := "ytbacmhegalncjaa", sum := "e5a4bce0c585eb8ae56c15103487c9c03969b9b85a72484c84493b4ff8ebc416", func := "weft/weftlaw3.Ip4TwoZeros", spec := "ip4TwoZeros", apart := false }
def Ip4TwoZerosSaid : Prop := ip4TwoZerosRow.holds Try.pinned (OpenSpec.ofChange ip4TwoZerosSpec)

/-- ITS FALSE NEIGHBOUR: 'it returns false'. Refute it at one input. -/
def ip4TwoZerosWrong : ChangeSpec := { name := "ip4TwoZeros", fn := fun _ => fun
  | [d] => { results := [.lit (.bool false)], args := [d] }
  | _ => none }
def Ip4TwoZerosWrongFalsely : Prop := ip4TwoZerosRow.holds Try.pinned (OpenSpec.ofChange ip4TwoZerosWrong)

/-- 'weftlaw3.Ip4Fresh': WHATEVER THE INPUT: true; the input reads as it did. -/
def ip4FreshSpec : ChangeSpec := { name := "ip4Fresh", fn := fun _ => fun
  | [d] => { results := [.lit (.bool true)], args := [d] }
  | _ => none }
def ip4FreshRow : OpenClaim := { program := "ytbacmhegalncjaa", sum := "e5a4bce0c585eb8ae56c15103487c9c03969b9b85a72484c84493b4ff8ebc416", func := "weft/weftlaw3.Ip4Fresh", spec := "ip4Fresh", apart := false }
def Ip4FreshSaid : Prop := ip4FreshRow.holds Try.pinned (OpenSpec.ofChange ip4FreshSpec)

/-- ITS FALSE NEIGHBOUR: 'it returns false'. Refute it at one input. -/
def ip4FreshWrong : ChangeSpec := { name := "ip4Fresh", fn := fun _ => fun
  | [d] => { results := [.lit (.bool false)], args := [d] }
  | _ => none }
def Ip4FreshWrongFalsely : Prop := ip4FreshRow.holds Try.pinned (OpenSpec.ofChange ip4FreshWrong)

/-- 'weftlaw3.Ip4Apart': WHATEVER THE INPUT: true; the input reads as it did. -/
def ip4ApartSpec : ChangeSpec := { name := "ip4Apart", fn := fun _ => fun
  | [d] => { results := [.lit (.bool true)], args := [d] }
  | _ => none }
def ip4ApartRow : OpenClaim := { program := "ytbacmhegalncjaa", sum := "e5a4bce0c585eb8ae56c15103487c9c03969b9b85a72484c84493b4ff8ebc416", func := "weft/weftlaw3.Ip4Apart", spec := "ip4Apart", apart := false }
def Ip4ApartSaid : Prop := ip4ApartRow.holds Try.pinned (OpenSpec.ofChange ip4ApartSpec)

/-- ITS FALSE NEIGHBOUR: 'it returns false'. Refute it at one input. -/
def ip4ApartWrong : ChangeSpec := { name := "ip4Apart", fn := fun _ => fun
  | [d] => { results := [.lit (.bool false)], args := [d] }
  | _ => none }
def Ip4ApartWrongFalsely : Prop := ip4ApartRow.holds Try.pinned (OpenSpec.ofChange ip4ApartWrong)

/-- 'weftlaw3.Ip4Script': WHATEVER THE INPUT: true; the input reads as it did. -/
def ip4ScriptSpec : ChangeSpec := { name := "ip4Script", fn := fun _ => fun
  | [d1, d2] => { results := [.lit (.bool true)], args := [d1, d2] }
  | _ => none }
def ip4ScriptRow : OpenClaim := { program := "ytbacmhegalncjaa", sum := "e5a4bce0c585eb8ae56c15103487c9c03969b9b85a72484c84493b4ff8ebc416", func := "weft/weftlaw3.Ip4Script", spec := "ip4Script", apart := false }
def Ip4ScriptSaid : Prop := ip4ScriptRow.holds Try.pinned (OpenSpec.ofChange ip4ScriptSpec)

/-- ITS FALSE NEIGHBOUR: 'it returns false'. Refute it at one input. -/
def ip4ScriptWrong : ChangeSpec := { name := "ip4Script", fn := fun _ => fun
  | [d1, d2] => { results := [.lit (.bool false)], args := [d1, d2] }
  | _ => none }
def Ip4ScriptWrongFalsely : Prop := ip4ScriptRow.holds Try.pinned (OpenSpec.ofChange ip4ScriptWrong)

/- THE SECOND FORM. 'bulk': how many values and letters a reading holds, each counted each time it is reached (what is shared counts as often as it is met; a slice's spare places count too). A statement '..UptoSaid' is the law's where the arguments, and the package variables that the reading takes, are together of bulk at most 1048576: NARROWER than '..Said'. Prove '..Said' where nothing that the law and all that it calls make is longer than what came in: it says more and counts as full. Else prove '..UptoSaid'. A law counts once. -/
mutual
def uptoBulk {H : Type} : DataW H → Nat
  | .lit (.string bytes) => bytes.length + 1
  | .lit _ => 1
  | .nil => 1
  | .ptr d => uptoBulk d + 1
  | .slice elems spare => uptoBulkAll elems + uptoBulkAll spare + 1
  | .agg parts => uptoBulkAll parts + 1
  | .iface _ d => uptoBulk d + 1
  | .map entries => uptoBulkEntries entries + 1
  | .held _ => 1
def uptoBulkAll {H : Type} : List (DataW H) → Nat
  | [] => 0
  | d :: r => uptoBulk d + uptoBulkAll r
def uptoBulkEntries {H : Type} : List (Lit × DataW H) → Nat
  | [] => 0
  | x :: r => uptoBulkEntry x + uptoBulkEntries r
def uptoBulkEntry {H : Type} : Lit × DataW H → Nat
  | (.string bytes, d) => bytes.length + uptoBulk d + 1
  | (_, d) => uptoBulk d + 1
 end
def uptoSmall : (H : Type) → List (DataW H) → Bool := fun _ ds => decide (uptoBulkAll ds ≤ 1048576)
def OpenSpec.upto (s : _root_.Go.ChangeSpec) : _root_.Go.OpenSpec := { _root_.Go.OpenSpec.ofChange s with cond := some uptoSmall }

/-- 'weftlaw3.Ip4SumJoins', WHERE WHAT IT READS IS OF BULK AT MOST 1048576: true; the input reads as it did. -/
def ip4SumJoinsUptoRow : OpenClaim := { program := "ytbacmhegalncjaa", sum := "e5a4bce0c585eb8ae56c15103487c9c03969b9b85a72484c84493b4ff8ebc416", func := "weft/weftlaw3.Ip4SumJoins", spec := "ip4SumJoins", apart := false, narrowed := true }
def Ip4SumJoinsUptoSaid : Prop := ip4SumJoinsUptoRow.holds Try.pinned (OpenSpec.upto ip4SumJoinsSpec)

/-- 'weftlaw3.Ip4AdjustSum', WHERE WHAT IT READS IS OF BULK AT MOST 1048576: true; the input reads as it did. -/
def ip4AdjustSumUptoRow : OpenClaim := { program := "ytbacmhegalncjaa", sum := "e5a4bce0c585eb8ae56c15103487c9c03969b9b85a72484c84493b4ff8ebc416", func := "weft/weftlaw3.Ip4AdjustSum", spec := "ip4AdjustSum", apart := false, narrowed := true }
def Ip4AdjustSumUptoSaid : Prop := ip4AdjustSumUptoRow.holds Try.pinned (OpenSpec.upto ip4AdjustSumSpec)

/-- 'weftlaw3.Ip4CopiedOnce', WHERE WHAT IT READS IS OF BULK AT MOST 1048576: true; the input reads as it did. -/
def ip4CopiedOnceUptoRow : OpenClaim := { program := "ytbacmhegalncjaa", sum := "e5a4bce0c585eb8ae56c15103487c9c03969b9b85a72484c84493b4ff8ebc416", func := "weft/weftlaw3.Ip4CopiedOnce", spec := "ip4CopiedOnce", apart := false, narrowed := true }
def Ip4CopiedOnceUptoSaid : Prop := ip4CopiedOnceUptoRow.holds Try.pinned (OpenSpec.upto ip4CopiedOnceSpec)

/-- 'weftlaw3.Ip4ParsesBack', WHERE WHAT IT READS IS OF BULK AT MOST 1048576: true; the input reads as it did. -/
def ip4ParsesBackUptoRow : OpenClaim := { program := "ytbacmhegalncjaa", sum := "e5a4bce0c585eb8ae56c15103487c9c03969b9b85a72484c84493b4ff8ebc416", func := "weft/weftlaw3.Ip4ParsesBack", spec := "ip4ParsesBack", apart := false, narrowed := true }
def Ip4ParsesBackUptoSaid : Prop := ip4ParsesBackUptoRow.holds Try.pinned (OpenSpec.upto ip4ParsesBackSpec)

/-- 'weftlaw3.Ip4FlipTold', WHERE WHAT IT READS IS OF BULK AT MOST 1048576: true; the input reads as it did. -/
def ip4FlipToldUptoRow : OpenClaim := { program := "ytbacmhegalncjaa", sum := "e5a4bce0c585eb8ae56c15103487c9c03969b9b85a72484c84493b4ff8ebc416", func := "weft/weftlaw3.Ip4FlipTold", spec := "ip4FlipTold", apart := false, narrowed := true }
def Ip4FlipToldUptoSaid : Prop := ip4FlipToldUptoRow.holds Try.pinned (OpenSpec.upto ip4FlipToldSpec)

/-- 'weftlaw3.Ip4BuildsBack', WHERE WHAT IT READS IS OF BULK AT MOST 1048576: true; the input reads as it did. -/
def ip4BuildsBackUptoRow : OpenClaim := { program := "ytbacmhegalncjaa", sum := "e5a4bce0c585eb8ae56c15103487c9c03969b9b85a72484c84493b4ff8ebc416", func := "weft/weftlaw3.Ip4BuildsBack", spec := "ip4BuildsBack", apart := false, narrowed := true }
def Ip4BuildsBackUptoSaid : Prop := ip4BuildsBackUptoRow.holds Try.pinned (OpenSpec.upto ip4BuildsBackSpec)

/-- 'weftlaw3.Ip4PeeksFront', WHERE WHAT IT READS IS OF BULK AT MOST 1048576: true; the input reads as it did. -/
def ip4PeeksFrontUptoRow : OpenClaim := { program := "ytbacmhegalncjaa", sum := "e5a4bce0c585eb8ae56c15103487c9c03969b9b85a72484c84493b4ff8ebc416", func := "weft/weftlaw3.Ip4PeeksFront", spec := "ip4PeeksFront", apart := false, narrowed := true }
def Ip4PeeksFrontUptoSaid : Prop := ip4PeeksFrontUptoRow.holds Try.pinned (OpenSpec.upto ip4PeeksFrontSpec)

/-- 'weftlaw3.Ip4AgeWalk', WHERE WHAT IT READS IS OF BULK AT MOST 1048576: true; the input reads as it did. -/
def ip4AgeWalkUptoRow : OpenClaim := { program := "ytbacmhegalncjaa", sum := "e5a4bce0c585eb8ae56c15103487c9c03969b9b85a72484c84493b4ff8ebc416", func := "weft/weftlaw3.Ip4AgeWalk", spec := "ip4AgeWalk", apart := false, narrowed := true }
def Ip4AgeWalkUptoSaid : Prop := ip4AgeWalkUptoRow.holds Try.pinned (OpenSpec.upto ip4AgeWalkSpec)

/-- 'weftlaw3.Ip4TwoZeros', WHERE WHAT IT READS IS OF BULK AT MOST 1048576: true; the input reads as it did. -/
def ip4TwoZerosUptoRow : OpenClaim := { program := "ytbacmhegalncjaa", sum := "e5a4bce0c585eb8ae56c15103487c9c03969b9b85a72484c84493b4ff8ebc416", func := "weft/weftlaw3.Ip4TwoZeros", spec := "ip4TwoZeros", apart := false, narrowed := true }
def Ip4TwoZerosUptoSaid : Prop := ip4TwoZerosUptoRow.holds Try.pinned (OpenSpec.upto ip4TwoZerosSpec)

/-- 'weftlaw3.Ip4Fresh', WHERE WHAT IT READS IS OF BULK AT MOST 1048576: true; the input reads as it did. -/
def ip4FreshUptoRow : OpenClaim := { program := "ytbacmhegalncjaa", sum := "e5a4bce0c585eb8ae56c15103487c9c03969b9b85a72484c84493b4ff8ebc416", func := "weft/weftlaw3.Ip4Fresh", spec := "ip4Fresh", apart := false, narrowed := true }
def Ip4FreshUptoSaid : Prop := ip4FreshUptoRow.holds Try.pinned (OpenSpec.upto ip4FreshSpec)

/-- 'weftlaw3.Ip4Apart', WHERE WHAT IT READS IS OF BULK AT MOST 1048576: true; the input reads as it did. -/
def ip4ApartUptoRow : OpenClaim := { program := "ytbacmhegalncjaa", sum := "e5a4bce0c585eb8ae56c15103487c9c03969b9b85a72484c84493b4ff8ebc416", func := "weft/weftlaw3.Ip4Apart", spec := "ip4Apart", apart := false, narrowed := true }
def Ip4ApartUptoSaid : Prop := ip4ApartUptoRow.holds Try.pinned (OpenSpec.upto ip4ApartSpec)

/-- 'weftlaw3.Ip4Script', WHERE WHAT IT READS IS OF BULK AT MOST 1048576: true; the input reads as it did. -/
def ip4ScriptUptoRow : OpenClaim := { program := "ytbacmhegalncjaa", sum := "e5a4bce0c585eb8ae56c15103487c9c03969b9b85a72484c84493b4ff8ebc416", func := "weft/weftlaw3.Ip4Script", spec := "ip4Script", apart := false, narrowed := true }
def Ip4ScriptUptoSaid : Prop := ip4ScriptUptoRow.holds Try.pinned (OpenSpec.upto ip4ScriptSpec)

end Rows
end Go.Proofs.Ytbacmhegalncjaa
