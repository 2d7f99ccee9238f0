/-
  No cell of these rows narrows 'for every input' (looked for: loops, veiled, ifaces, maps, wideKeys, modest, calm, conditions, laid).
  DERIVED. THE GIVEN ROWS OF THIS SEAT. 10 by the template 'for every input the law returns true; each argument reads behind the call as it read before'; 0 by the template 'total and deterministic' (their statements: YtmjhfkjnnpnoaaaTotals.lean).
  GIVEN WITH THE SEED: the statements are not yours to turn. If you find one false, say at which input.
  Laid BY PROGRAM, IN A SANDBOX (cutbox-rows.mjs): the forced cells as the released guide's own fill.sh prints them over the translation 6cefcc3c80f8e392… (all of the seat's roots in one cut). By AI agents, Wed Nov 11 2026. No macro, syntax, notation, axiom, sorry.
-/
import Derived.Test.YtmjhfkjnnpnoaaaChecked
import GoSem.Claim
import GoSem.ClaimJoined
import GoSem.ClaimMapViews
import Derived.JoinedTies
import Derived.KernelRfl
namespace Go.Proofs.Ytmjhfkjnnpnoaaa
/- THE CELL 'sum', in the pinned program and in every row, IS THE sha256 OF THE DUMP (.gsa) THAT YtmjhfkjnnpnoaaaProg.lean LOADS. Nothing in Lean hashes anything: it is a label: what it is worth is what the hold of that sum in a sandbox is worth. -/
noncomputable def Try.pinned : Pinned := { name := "ytmjhfkjnnpnoaaa", sum := "6cefcc3c80f8e3929e81d99df895c3632c865c8854bf41ac276f03e6ee6fbf63", checked := Try.checked }
namespace Rows
def none {H : Type} : Left H := { results := [], args := [] }

/-- 'weftlaw6.IcmpThereBack': WHATEVER THE INPUT: true; the input reads as it did. -/
def icmpThereBackSpec : ChangeSpec := { name := "icmpThereBack", fn := fun _ => fun
  | [d1, d2] => { results := [.lit (.bool true)], args := [d1, d2] }
  | _ => none }
def icmpThereBackRow : OpenClaim := { program := "ytmjhfkjnnpnoaaa", sum := "6cefcc3c80f8e3929e81d99df895c3632c865c8854bf41ac276f03e6ee6fbf63", func := "weft/weftlaw6.IcmpThereBack", spec := "icmpThereBack", apart := false }
def IcmpThereBackSaid : Prop := icmpThereBackRow.holds Try.pinned (OpenSpec.ofChange icmpThereBackSpec)

/-- ITS FALSE NEIGHBOUR: 'it returns false'. Refute it at one input. -/
def icmpThereBackWrong : ChangeSpec := { name := "icmpThereBack", fn := fun _ => fun
  | [d1, d2] => { results := [.lit (.bool false)], args := [d1, d2] }
  | _ => none }
def IcmpThereBackWrongFalsely : Prop := icmpThereBackRow.holds Try.pinned (OpenSpec.ofChange icmpThereBackWrong)

/-- 'weftlaw6.IcmpFlipTold': WHATEVER THE INPUT: true; the input reads as it did. -/
def icmpFlipToldSpec : ChangeSpec := { name := "icmpFlipTold", fn := fun _ => fun
  | [d1, d2] => { results := [.lit (.bool true)], args := [d1, d2] }
  | _ => none }
def icmpFlipToldRow : OpenClaim := { program := "ytmjhfkjnnpnoaaa", sum := "6cefcc3c80f8e3929e81d99df895c3632c865c8854bf41ac276f03e6ee6fbf63", func := "weft/weftlaw6.IcmpFlipTold", spec := "icmpFlipTold", apart := false }
def IcmpFlipToldSaid : Prop := icmpFlipToldRow.holds Try.pinned (OpenSpec.ofChange icmpFlipToldSpec)

/-- ITS FALSE NEIGHBOUR: 'it returns false'. Refute it at one input. -/
def icmpFlipToldWrong : ChangeSpec := { name := "icmpFlipTold", fn := fun _ => fun
  | [d1, d2] => { results := [.lit (.bool false)], args := [d1, d2] }
  | _ => none }
def IcmpFlipToldWrongFalsely : Prop := icmpFlipToldRow.holds Try.pinned (OpenSpec.ofChange icmpFlipToldWrong)

/-- 'weftlaw3.Ip4Sums': WHATEVER THE INPUT: true; the input reads as it did. -/
def ip4SumsSpec : ChangeSpec := { name := "ip4Sums", fn := fun _ => fun
  | [d] => { results := [.lit (.bool true)], args := [d] }
  | _ => none }
def ip4SumsRow : OpenClaim := { program := "ytmjhfkjnnpnoaaa", sum := "6cefcc3c80f8e3929e81d99df895c3632c865c8854bf41ac276f03e6ee6fbf63", func := "weft/weftlaw3.Ip4Sums", spec := "ip4Sums", apart := false }
def Ip4SumsSaid : Prop := ip4SumsRow.holds Try.pinned (OpenSpec.ofChange ip4SumsSpec)

/-- ITS FALSE NEIGHBOUR: 'it returns false'. Refute it at one input. -/
def ip4SumsWrong : ChangeSpec := { name := "ip4Sums", fn := fun _ => fun
  | [d] => { results := [.lit (.bool false)], args := [d] }
  | _ => none }
def Ip4SumsWrongFalsely : Prop := ip4SumsRow.holds Try.pinned (OpenSpec.ofChange ip4SumsWrong)

/-- 'weftlaw3.Ip4Adjusts': WHATEVER THE INPUT: true; the input reads as it did. -/
def ip4AdjustsSpec : ChangeSpec := { name := "ip4Adjusts", fn := fun _ => fun
  | [d] => { results := [.lit (.bool true)], args := [d] }
  | _ => none }
def ip4AdjustsRow : OpenClaim := { program := "ytmjhfkjnnpnoaaa", sum := "6cefcc3c80f8e3929e81d99df895c3632c865c8854bf41ac276f03e6ee6fbf63", func := "weft/weftlaw3.Ip4Adjusts", spec := "ip4Adjusts", apart := false }
def Ip4AdjustsSaid : Prop := ip4AdjustsRow.holds Try.pinned (OpenSpec.ofChange ip4AdjustsSpec)

/-- ITS FALSE NEIGHBOUR: 'it returns false'. Refute it at one input. -/
def ip4AdjustsWrong : ChangeSpec := { name := "ip4Adjusts", fn := fun _ => fun
  | [d] => { results := [.lit (.bool false)], args := [d] }
  | _ => none }
def Ip4AdjustsWrongFalsely : Prop := ip4AdjustsRow.holds Try.pinned (OpenSpec.ofChange ip4AdjustsWrong)

/-- 'weftlaw3.Ip4Parses': WHATEVER THE INPUT: true; the input reads as it did. -/
def ip4ParsesSpec : ChangeSpec := { name := "ip4Parses", fn := fun _ => fun
  | [d] => { results := [.lit (.bool true)], args := [d] }
  | _ => none }
def ip4ParsesRow : OpenClaim := { program := "ytmjhfkjnnpnoaaa", sum := "6cefcc3c80f8e3929e81d99df895c3632c865c8854bf41ac276f03e6ee6fbf63", func := "weft/weftlaw3.Ip4Parses", spec := "ip4Parses", apart := false }
def Ip4ParsesSaid : Prop := ip4ParsesRow.holds Try.pinned (OpenSpec.ofChange ip4ParsesSpec)

/-- ITS FALSE NEIGHBOUR: 'it returns false'. Refute it at one input. -/
def ip4ParsesWrong : ChangeSpec := { name := "ip4Parses", fn := fun _ => fun
  | [d] => { results := [.lit (.bool false)], args := [d] }
  | _ => none }
def Ip4ParsesWrongFalsely : Prop := ip4ParsesRow.holds Try.pinned (OpenSpec.ofChange ip4ParsesWrong)

/-- 'weftlaw3.Ip4Peeks': WHATEVER THE INPUT: true; the input reads as it did. -/
def ip4PeeksSpec : ChangeSpec := { name := "ip4Peeks", fn := fun _ => fun
  | [d] => { results := [.lit (.bool true)], args := [d] }
  | _ => none }
def ip4PeeksRow : OpenClaim := { program := "ytmjhfkjnnpnoaaa", sum := "6cefcc3c80f8e3929e81d99df895c3632c865c8854bf41ac276f03e6ee6fbf63", func := "weft/weftlaw3.Ip4Peeks", spec := "ip4Peeks", apart := false }
def Ip4PeeksSaid : Prop := ip4PeeksRow.holds Try.pinned (OpenSpec.ofChange ip4PeeksSpec)

/-- ITS FALSE NEIGHBOUR: 'it returns false'. Refute it at one input. -/
def ip4PeeksWrong : ChangeSpec := { name := "ip4Peeks", fn := fun _ => fun
  | [d] => { results := [.lit (.bool false)], args := [d] }
  | _ => none }
def Ip4PeeksWrongFalsely : Prop := ip4PeeksRow.holds Try.pinned (OpenSpec.ofChange ip4PeeksWrong)

/-- 'weftlaw3.Ip4Builds': WHATEVER THE INPUT: true; the input reads as it did. -/
def ip4BuildsSpec : ChangeSpec := { name := "ip4Builds", fn := fun _ => fun
  | [d] => { results := [.lit (.bool true)], args := [d] }
  | _ => none }
def ip4BuildsRow : OpenClaim := { program := "ytmjhfkjnnpnoaaa", sum := "6cefcc3c80f8e3929e81d99df895c3632c865c8854bf41ac276f03e6ee6fbf63", func := "weft/weftlaw3.Ip4Builds", spec := "ip4Builds", apart := false }
def Ip4BuildsSaid : Prop := ip4BuildsRow.holds Try.pinned (OpenSpec.ofChange ip4BuildsSpec)

/-- ITS FALSE NEIGHBOUR: 'it returns false'. Refute it at one input. -/
def ip4BuildsWrong : ChangeSpec := { name := "ip4Builds", fn := fun _ => fun
  | [d] => { results := [.lit (.bool false)], args := [d] }
  | _ => none }
def Ip4BuildsWrongFalsely : Prop := ip4BuildsRow.holds Try.pinned (OpenSpec.ofChange ip4BuildsWrong)

/-- 'weftlaw3.Ip4Ages': WHATEVER THE INPUT: true; the input reads as it did. -/
def ip4AgesSpec : ChangeSpec := { name := "ip4Ages", fn := fun _ => fun
  | [d] => { results := [.lit (.bool true)], args := [d] }
  | _ => none }
def ip4AgesRow : OpenClaim := { program := "ytmjhfkjnnpnoaaa", sum := "6cefcc3c80f8e3929e81d99df895c3632c865c8854bf41ac276f03e6ee6fbf63", func := "weft/weftlaw3.Ip4Ages", spec := "ip4Ages", apart := false }
def Ip4AgesSaid : Prop := ip4AgesRow.holds Try.pinned (OpenSpec.ofChange ip4AgesSpec)

/-- ITS FALSE NEIGHBOUR: 'it returns false'. Refute it at one input. -/
def ip4AgesWrong : ChangeSpec := { name := "ip4Ages", fn := fun _ => fun
  | [d] => { results := [.lit (.bool false)], args := [d] }
  | _ => none }
def Ip4AgesWrongFalsely : Prop := ip4AgesRow.holds Try.pinned (OpenSpec.ofChange ip4AgesWrong)

/-- 'weftlaw3.Ip4Copies': WHATEVER THE INPUT: true; the input reads as it did. -/
def ip4CopiesSpec : ChangeSpec := { name := "ip4Copies", fn := fun _ => fun
  | [d] => { results := [.lit (.bool true)], args := [d] }
  | _ => none }
def ip4CopiesRow : OpenClaim := { program := "ytmjhfkjnnpnoaaa", sum := "6cefcc3c80f8e3929e81d99df895c3632c865c8854bf41ac276f03e6ee6fbf63", func := "weft/weftlaw3.Ip4Copies", spec := "ip4Copies", apart := false }
def Ip4CopiesSaid : Prop := ip4CopiesRow.holds Try.pinned (OpenSpec.ofChange ip4CopiesSpec)

/-- ITS FALSE NEIGHBOUR: 'it returns false'. Refute it at one input. -/
def ip4CopiesWrong : ChangeSpec := { name := "ip4Copies", fn := fun _ => fun
  | [d] => { results := [.lit (.bool false)], args := [d] }
  | _ => none }
def Ip4CopiesWrongFalsely : Prop := ip4CopiesRow.holds Try.pinned (OpenSpec.ofChange ip4CopiesWrong)

/-- 'weftlaw3.Ip4All': WHATEVER THE INPUT: true; the input reads as it did. -/
def ip4AllSpec : ChangeSpec := { name := "ip4All", fn := fun _ => fun
  | [d] => { results := [.lit (.bool true)], args := [d] }
  | _ => none }
def ip4AllRow : OpenClaim := { program := "ytmjhfkjnnpnoaaa", sum := "6cefcc3c80f8e3929e81d99df895c3632c865c8854bf41ac276f03e6ee6fbf63", func := "weft/weftlaw3.Ip4All", spec := "ip4All", apart := false }
def Ip4AllSaid : Prop := ip4AllRow.holds Try.pinned (OpenSpec.ofChange ip4AllSpec)

/-- ITS FALSE NEIGHBOUR: 'it returns false'. Refute it at one input. -/
def ip4AllWrong : ChangeSpec := { name := "ip4All", fn := fun _ => fun
  | [d] => { results := [.lit (.bool false)], args := [d] }
  | _ => none }
def Ip4AllWrongFalsely : Prop := ip4AllRow.holds Try.pinned (OpenSpec.ofChange ip4AllWrong)

/- THE SECOND FORM. 'bulk': how many values and letters a reading holds, each counted each time it is reached (what is shared counts as often as it is met; a slice's spare places count too). A statement '..UptoSaid' is the law's where the arguments, and the package variables that the reading takes, are together of bulk at most 1048576: NARROWER than '..Said'. Prove '..Said' where nothing that the law and all that it calls make is longer than what came in: it says more and counts as full. Else prove '..UptoSaid'. A law counts once. -/
mutual
def uptoBulk {H : Type} : DataW H → Nat
  | .lit (.string bytes) => bytes.length + 1
  | .lit _ => 1
  | .nil => 1
  | .ptr d => uptoBulk d + 1
  | .slice elems spare => uptoBulkAll elems + uptoBulkAll spare + 1
  | .agg parts => uptoBulkAll parts + 1
  | .iface _ d => uptoBulk d + 1
  | .map entries => uptoBulkEntries entries + 1
  | .held _ => 1
def uptoBulkAll {H : Type} : List (DataW H) → Nat
  | [] => 0
  | d :: r => uptoBulk d + uptoBulkAll r
def uptoBulkEntries {H : Type} : List (Lit × DataW H) → Nat
  | [] => 0
  | x :: r => uptoBulkEntry x + uptoBulkEntries r
def uptoBulkEntry {H : Type} : Lit × DataW H → Nat
  | (.string bytes, d) => bytes.length + uptoBulk d + 1
  | (_, d) => uptoBulk d + 1
 end
def uptoSmall : (H : Type) → List (DataW H) → Bool := fun _ ds => decide (uptoBulkAll ds ≤ 1048576)
def OpenSpec.upto (s : _root_.Go.ChangeSpec) : _root_.Go.OpenSpec := { _root_.Go.OpenSpec.ofChange s with cond := some uptoSmall }

/-- 'weftlaw6.IcmpThereBack', WHERE WHAT IT READS IS OF BULK AT MOST 1048576: true; the input reads as it did. -/
def icmpThereBackUptoRow : OpenClaim := { program := "ytmjhfkjnnpnoaaa", sum := "6cefcc3c80f8e3929e81d99df895c3632c865c8854bf41ac276f03e6ee6fbf63", func := "weft/weftlaw6.IcmpThereBack", spec := "icmpThereBack", apart := false, narrowed := true }
def IcmpThereBackUptoSaid : Prop := icmpThereBackUptoRow.holds Try.pinned (OpenSpec.upto icmpThereBackSpec)

/-- 'weftlaw6.IcmpFlipTold', WHERE WHAT IT READS IS OF BULK AT MOST 1048576: true; the input reads as it did. -/
def icmpFlipToldUptoRow : OpenClaim := { program := "ytmjhfkjnnpnoaaa", sum := "6cefcc3c80f8e3929e81d99df895c3632c865c8854bf41ac276f03e6ee6fbf63", func := "weft/weftlaw6.IcmpFlipTold", spec := "icmpFlipTold", apart := false, narrowed := true }
def IcmpFlipToldUptoSaid : Prop := icmpFlipToldUptoRow.holds Try.pinned (OpenSpec.upto icmpFlipToldSpec)

/-- 'weftlaw3.Ip4Sums', WHERE WHAT IT READS IS OF BULK AT MOST 1048576: true; the input reads as it did. -/
def ip4SumsUptoRow : OpenClaim := { program := "ytmjhfkjnnpnoaaa", sum := "6cefcc3c80f8e3929e81d99df895c3632c865c8854bf41ac276f03e6ee6fbf63", func := "weft/weftlaw3.Ip4Sums", spec := "ip4Sums", apart := false, narrowed := true }
def Ip4SumsUptoSaid : Prop := ip4SumsUptoRow.holds Try.pinned (OpenSpec.upto ip4SumsSpec)

/-- 'weftlaw3.Ip4Adjusts', WHERE WHAT IT READS IS OF BULK AT MOST 1048576: true; the input reads as it did. -/
def ip4AdjustsUptoRow : OpenClaim := { program := "ytmjhfkjnnpnoaaa", sum := "6cefcc3c80f8e3929e81d99df895c3632c865c8854bf41ac276f03e6ee6fbf63", func := "weft/weftlaw3.Ip4Adjusts", spec := "ip4Adjusts", apart := false, narrowed := true }
def Ip4AdjustsUptoSaid : Prop := ip4AdjustsUptoRow.holds Try.pinned (OpenSpec.upto ip4AdjustsSpec)

/-- 'weftlaw3.Ip4Parses', WHERE WHAT IT READS IS OF BULK AT MOST 1048576: true; the input reads as it did. -/
def ip4ParsesUptoRow : OpenClaim := { program := "ytmjhfkjnnpnoaaa", sum := "6cefcc3c80f8e3929e81d99df895c3632c865c8854bf41ac276f03e6ee6fbf63", func := "weft/weftlaw3.Ip4Parses", spec := "ip4Parses", apart := false, narrowed := true }
def Ip4ParsesUptoSaid : Prop := ip4ParsesUptoRow.holds Try.pinned (OpenSpec.upto ip4ParsesSpec)

/-- 'weftlaw3.Ip4Peeks', WHERE WHAT IT READS IS OF BULK AT MOST 1048576: true; the input reads as it did. -/
def ip4PeeksUptoRow : OpenClaim := { program := "ytmjhfkjnnpnoaaa", sum := "6cefcc3c80f8e3929e81d99df895c3632c865c8854bf41ac276f03e6ee6fbf63", func := "weft/weftlaw3.Ip4Peeks", spec := "ip4Peeks", apart := false, narrowed := true }
def Ip4PeeksUptoSaid : Prop := ip4PeeksUptoRow.holds Try.pinned (OpenSpec.upto ip4PeeksSpec)

/-- 'weftlaw3.Ip4Builds', WHERE WHAT IT READS IS OF BULK AT MOST 1048576: true; the input reads as it did. -/
def ip4BuildsUptoRow : OpenClaim := { program := "ytmjhfkjnnpnoaaa", sum := "6cefcc3c80f8e3929e81d99df895c3632c865c8854bf41ac276f03e6ee6fbf63", func := "weft/weftlaw3.Ip4Builds", spec := "ip4Builds", apart := false, narrowed := true }
def Ip4BuildsUptoSaid : Prop := ip4BuildsUptoRow.holds Try.pinned (OpenSpec.upto ip4BuildsSpec)

/-- 'weftlaw3.Ip4Ages', WHERE WHAT IT READS IS OF BULK AT MOST 1048576: true; the input reads as it did. -/
def ip4AgesUptoRow : OpenClaim := { program := "ytmjhfkjnnpnoaaa", sum := "6cefcc3c80f8e3929e81d99df895c3632c865c8854bf41ac276f03e6ee6fbf63", func := "weft/weftlaw3.Ip4Ages", spec := "ip4Ages", apart := false, narrowed := true }
def Ip4AgesUptoSaid : Prop := ip4AgesUptoRow.holds Try.pinned (OpenSpec.upto ip4AgesSpec)

/-- 'weftlaw3.Ip4Copies', WHERE WHAT IT READS IS OF BULK AT MOST 1048576: true; the input reads as it did. -/
def ip4CopiesUptoRow : OpenClaim := { program := "ytmjhfkjnnpnoaaa", sum := "6cefcc3c80f8e3929e81d99df895c3632c865c8854bf41ac276f03e6ee6fbf63", func := "weft/weftlaw3.Ip4Copies", spec := "ip4Copies", apart := false, narrowed := true }
def Ip4CopiesUptoSaid : Prop := ip4CopiesUptoRow.holds Try.pinned (OpenSpec.upto ip4CopiesSpec)

/-- 'weftlaw3.Ip4All', WHERE WHAT IT READS IS OF BULK AT MOST 1048576: true; the input reads as it did. -/
def ip4AllUptoRow : OpenClaim := { program := "ytmjhfkjnnpnoaaa", sum := "6cefcc3c80f8e3929e81d99df895c3632c865c8854bf41ac276f03e6ee6fbf63", func := "weft/weftlaw3.Ip4All", spec := "ip4All", apart := false, narrowed := true }
def Ip4AllUptoSaid : Prop := ip4AllUptoRow.holds Try.pinned (OpenSpec.upto ip4AllSpec)

end Rows
end Go.Proofs.Ytmjhfkjnnpnoaaa
