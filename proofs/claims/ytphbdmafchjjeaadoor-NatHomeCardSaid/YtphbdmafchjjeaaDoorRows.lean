/-
  NARROWER THAN 'FOR EVERY INPUT', by the rows' own cells (each row's printed sentence says how): NatMoves: laid · NatOnce: laid · NatBack: laid · NatHome: laid.
  DERIVED. THE GIVEN ROWS OF THIS SEAT. 4 by the template 'for every input the law returns true; each argument reads behind the call as it read before'; 0 by the template 'total and deterministic' (their statements: YtphbdmafchjjeaaDoorTotals.lean).
  GIVEN WITH THE SEED: the statements are not yours to turn. If you find one false, say at which input.
  Laid BY PROGRAM, IN A SANDBOX (cutbox-rows.mjs): the forced cells as the released guide's own fill.sh prints them over the translation 140a14eef1f6c515… (all of the seat's roots in one cut). By AI agents, Wed Nov 11 2026. No macro, syntax, notation, axiom, sorry.
-/
import Derived.Test.YtphbdmafchjjeaaDoorChecked
import GoSem.Claim
import GoSem.ClaimJoined
import GoSem.ClaimMapViews
import Derived.JoinedTies
import Derived.KernelRfl
namespace Go.Proofs.YtphbdmafchjjeaaDoor
/- THE CELL 'sum', in the pinned program and in every row, IS THE sha256 OF THE DUMP (.gsa) THAT YtphbdmafchjjeaaDoorProg.lean LOADS. Nothing in Lean hashes anything: it is a label: what it is worth is what the hold of that sum in a sandbox is worth. -/
noncomputable def Tryd.pinned : Pinned := { name := "ytphbdmafchjjeaadoor", sum := "140a14eef1f6c51550a1d23009cd2a1cb096c594d9d757f2735950d5cd700347", checked := Tryd.checked }
namespace Rows
def none {H : Type} : Left H := { results := [], args := [] }

/- WHAT THE LISTED PACKAGE-LEVEL VARIABLES READ AS WHEN THE CALL BEGINS. Each datum BY PROGRAM (the guide's laid-datum.mjs) off the statement by which the dump's own 'gosem.cut.vars' lays the variable. In a bare row this is a premise. The card (YtphbdmafchjjeaaDoorCards.lean) ties it to the program's text. -/
def laid_math_bits_deBruijn64tab {H : Type} : DataW H := .agg [.lit (.int .u8 0), .lit (.int .u8 1), .lit (.int .u8 56), .lit (.int .u8 2), .lit (.int .u8 57), .lit (.int .u8 49), .lit (.int .u8 28), .lit (.int .u8 3), .lit (.int .u8 61), .lit (.int .u8 58), .lit (.int .u8 42), .lit (.int .u8 50), .lit (.int .u8 38), .lit (.int .u8 29), .lit (.int .u8 17), .lit (.int .u8 4), .lit (.int .u8 62), .lit (.int .u8 47), .lit (.int .u8 59), .lit (.int .u8 36), .lit (.int .u8 45), .lit (.int .u8 43), .lit (.int .u8 51), .lit (.int .u8 22), .lit (.int .u8 53), .lit (.int .u8 39), .lit (.int .u8 33), .lit (.int .u8 30), .lit (.int .u8 24), .lit (.int .u8 18), .lit (.int .u8 12), .lit (.int .u8 5), .lit (.int .u8 63), .lit (.int .u8 55), .lit (.int .u8 48), .lit (.int .u8 27), .lit (.int .u8 60), .lit (.int .u8 41), .lit (.int .u8 37), .lit (.int .u8 16), .lit (.int .u8 46), .lit (.int .u8 35), .lit (.int .u8 44), .lit (.int .u8 21), .lit (.int .u8 52), .lit (.int .u8 32), .lit (.int .u8 23), .lit (.int .u8 11), .lit (.int .u8 54), .lit (.int .u8 26), .lit (.int .u8 40), .lit (.int .u8 15), .lit (.int .u8 34), .lit (.int .u8 20), .lit (.int .u8 31), .lit (.int .u8 10), .lit (.int .u8 25), .lit (.int .u8 14), .lit (.int .u8 19), .lit (.int .u8 9), .lit (.int .u8 13), .lit (.int .u8 8), .lit (.int .u8 7), .lit (.int .u8 6)]
def laid_weft_addr_classes {H : Type} : DataW H := .slice [.agg [.agg [.lit (.int .u32 0), .lit (.int .i64 8)], .lit (.int .i64 1)], .agg [.agg [.lit (.int .u32 2130706432), .lit (.int .i64 8)], .lit (.int .i64 2)], .agg [.agg [.lit (.int .u32 3758096384), .lit (.int .i64 4)], .lit (.int .i64 3)], .agg [.agg [.lit (.int .u32 4026531840), .lit (.int .i64 4)], .lit (.int .i64 4)]] []
def laid_weft_icmp_codes {H : Type} : DataW H := .agg [.lit (.int .u8 0), .lit (.int .u8 0), .lit (.int .u8 0), .lit (.int .u8 16), .lit (.int .u8 0), .lit (.int .u8 0), .lit (.int .u8 0), .lit (.int .u8 0), .lit (.int .u8 0), .lit (.int .u8 0), .lit (.int .u8 0), .lit (.int .u8 2), .lit (.int .u8 3)]
def laid_weft_icmp_faults {H : Type} : DataW H := .agg [.lit (.bool false), .lit (.bool false), .lit (.bool false), .lit (.bool true), .lit (.bool true), .lit (.bool true), .lit (.bool false), .lit (.bool false), .lit (.bool false), .lit (.bool false), .lit (.bool false), .lit (.bool true), .lit (.bool true)]

/-- 'weftlaw23.NatMoves': WHATEVER THE INPUT: true; the input reads as it did. -/
def natMovesSpec : ChangeSpec := { name := "natMoves", fn := fun _ => fun
  | [d1, d2, d3, d4] => { results := [.lit (.bool true)], args := [d1, d2, d3, d4] }
  | _ => none }
def natMovesRow : OpenClaim := { program := "ytphbdmafchjjeaadoor", sum := "140a14eef1f6c51550a1d23009cd2a1cb096c594d9d757f2735950d5cd700347", func := "weft/weftlaw23.NatMoves", spec := "natMoves", unfollowed := true, recurses := true, named := ["math/bits.deBruijn64tab"], apart := false, laid := [("math/bits.deBruijn64tab", laid_math_bits_deBruijn64tab)] }
def NatMovesSaid : Prop := natMovesRow.holds Tryd.pinned (OpenSpec.ofChange natMovesSpec)

/-- ITS FALSE NEIGHBOUR: 'it returns false'. Refute it at one input. -/
def natMovesWrong : ChangeSpec := { name := "natMoves", fn := fun _ => fun
  | [d1, d2, d3, d4] => { results := [.lit (.bool false)], args := [d1, d2, d3, d4] }
  | _ => none }
def NatMovesWrongFalsely : Prop := natMovesRow.holds Tryd.pinned (OpenSpec.ofChange natMovesWrong)

/-- 'weftlaw23.NatOnce': WHATEVER THE INPUT: true; the input reads as it did. -/
def natOnceSpec : ChangeSpec := { name := "natOnce", fn := fun _ => fun
  | [d1, d2, d3] => { results := [.lit (.bool true)], args := [d1, d2, d3] }
  | _ => none }
def natOnceRow : OpenClaim := { program := "ytphbdmafchjjeaadoor", sum := "140a14eef1f6c51550a1d23009cd2a1cb096c594d9d757f2735950d5cd700347", func := "weft/weftlaw23.NatOnce", spec := "natOnce", unfollowed := true, recurses := true, named := ["math/bits.deBruijn64tab"], apart := false, laid := [("math/bits.deBruijn64tab", laid_math_bits_deBruijn64tab)] }
def NatOnceSaid : Prop := natOnceRow.holds Tryd.pinned (OpenSpec.ofChange natOnceSpec)

/-- ITS FALSE NEIGHBOUR: 'it returns false'. Refute it at one input. -/
def natOnceWrong : ChangeSpec := { name := "natOnce", fn := fun _ => fun
  | [d1, d2, d3] => { results := [.lit (.bool false)], args := [d1, d2, d3] }
  | _ => none }
def NatOnceWrongFalsely : Prop := natOnceRow.holds Tryd.pinned (OpenSpec.ofChange natOnceWrong)

/-- 'weftlaw23.NatBack': WHATEVER THE INPUT: true; the input reads as it did. -/
def natBackSpec : ChangeSpec := { name := "natBack", fn := fun _ => fun
  | [d1, d2] => { results := [.lit (.bool true)], args := [d1, d2] }
  | _ => none }
def natBackRow : OpenClaim := { program := "ytphbdmafchjjeaadoor", sum := "140a14eef1f6c51550a1d23009cd2a1cb096c594d9d757f2735950d5cd700347", func := "weft/weftlaw23.NatBack", spec := "natBack", unfollowed := true, recurses := true, named := ["math/bits.deBruijn64tab"], apart := false, laid := [("math/bits.deBruijn64tab", laid_math_bits_deBruijn64tab)] }
def NatBackSaid : Prop := natBackRow.holds Tryd.pinned (OpenSpec.ofChange natBackSpec)

/-- ITS FALSE NEIGHBOUR: 'it returns false'. Refute it at one input. -/
def natBackWrong : ChangeSpec := { name := "natBack", fn := fun _ => fun
  | [d1, d2] => { results := [.lit (.bool false)], args := [d1, d2] }
  | _ => none }
def NatBackWrongFalsely : Prop := natBackRow.holds Tryd.pinned (OpenSpec.ofChange natBackWrong)

/-- 'weftlaw23.NatHome': WHATEVER THE INPUT: true; the input reads as it did. -/
def natHomeSpec : ChangeSpec := { name := "natHome", fn := fun _ => fun
  | [d1, d2, d3, d4, d5, d6, d7] => { results := [.lit (.bool true)], args := [d1, d2, d3, d4, d5, d6, d7] }
  | _ => none }
def natHomeRow : OpenClaim := { program := "ytphbdmafchjjeaadoor", sum := "140a14eef1f6c51550a1d23009cd2a1cb096c594d9d757f2735950d5cd700347", func := "weft/weftlaw23.NatHome", spec := "natHome", unfollowed := true, recurses := true, named := ["math/bits.deBruijn64tab", "weft/icmp.codes", "weft/addr.classes", "weft/icmp.faults"], apart := false, laid := [("math/bits.deBruijn64tab", laid_math_bits_deBruijn64tab), ("weft/addr.classes", laid_weft_addr_classes), ("weft/icmp.codes", laid_weft_icmp_codes), ("weft/icmp.faults", laid_weft_icmp_faults)] }
def NatHomeSaid : Prop := natHomeRow.holds Tryd.pinned (OpenSpec.ofChange natHomeSpec)

/-- ITS FALSE NEIGHBOUR: 'it returns false'. Refute it at one input. -/
def natHomeWrong : ChangeSpec := { name := "natHome", fn := fun _ => fun
  | [d1, d2, d3, d4, d5, d6, d7] => { results := [.lit (.bool false)], args := [d1, d2, d3, d4, d5, d6, d7] }
  | _ => none }
def NatHomeWrongFalsely : Prop := natHomeRow.holds Tryd.pinned (OpenSpec.ofChange natHomeWrong)

/- THE SECOND FORM. 'bulk': how many values and letters a reading holds, each counted each time it is reached (what is shared counts as often as it is met; a slice's spare places count too). A statement '..UptoSaid' is the law's where the arguments, and the package variables that the reading takes, are together of bulk at most 1048576: NARROWER than '..Said'. Prove '..Said' where nothing that the law and all that it calls make is longer than what came in: it says more and counts as full. Else prove '..UptoSaid'. A law counts once. -/
mutual
def uptoBulk {H : Type} : DataW H → Nat
  | .lit (.string bytes) => bytes.length + 1
  | .lit _ => 1
  | .nil => 1
  | .ptr d => uptoBulk d + 1
  | .slice elems spare => uptoBulkAll elems + uptoBulkAll spare + 1
  | .agg parts => uptoBulkAll parts + 1
  | .iface _ d => uptoBulk d + 1
  | .map entries => uptoBulkEntries entries + 1
  | .held _ => 1
def uptoBulkAll {H : Type} : List (DataW H) → Nat
  | [] => 0
  | d :: r => uptoBulk d + uptoBulkAll r
def uptoBulkEntries {H : Type} : List (Lit × DataW H) → Nat
  | [] => 0
  | x :: r => uptoBulkEntry x + uptoBulkEntries r
def uptoBulkEntry {H : Type} : Lit × DataW H → Nat
  | (.string bytes, d) => bytes.length + uptoBulk d + 1
  | (_, d) => uptoBulk d + 1
 end
def uptoSmall : (H : Type) → List (DataW H) → Bool := fun _ ds => decide (uptoBulkAll ds ≤ 1048576)
def OpenSpec.upto (s : _root_.Go.ChangeSpec) : _root_.Go.OpenSpec := { _root_.Go.OpenSpec.ofChange s with cond := some uptoSmall }

/-- 'weftlaw23.NatMoves', WHERE WHAT IT READS IS OF BULK AT MOST 1048576: true; the input reads as it did. -/
def natMovesUptoRow : OpenClaim := { program := "ytphbdmafchjjeaadoor", sum := "140a14eef1f6c51550a1d23009cd2a1cb096c594d9d757f2735950d5cd700347", func := "weft/weftlaw23.NatMoves", spec := "natMoves", unfollowed := true, recurses := true, named := ["math/bits.deBruijn64tab"], apart := false, laid := [("math/bits.deBruijn64tab", laid_math_bits_deBruijn64tab)], narrowed := true }
def NatMovesUptoSaid : Prop := natMovesUptoRow.holds Tryd.pinned (OpenSpec.upto natMovesSpec)

/-- 'weftlaw23.NatOnce', WHERE WHAT IT READS IS OF BULK AT MOST 1048576: true; the input reads as it did. -/
def natOnceUptoRow : OpenClaim := { program := "ytphbdmafchjjeaadoor", sum := "140a14eef1f6c51550a1d23009cd2a1cb096c594d9d757f2735950d5cd700347", func := "weft/weftlaw23.NatOnce", spec := "natOnce", unfollowed := true, recurses := true, named := ["math/bits.deBruijn64tab"], apart := false, laid := [("math/bits.deBruijn64tab", laid_math_bits_deBruijn64tab)], narrowed := true }
def NatOnceUptoSaid : Prop := natOnceUptoRow.holds Tryd.pinned (OpenSpec.upto natOnceSpec)

/-- 'weftlaw23.NatBack', WHERE WHAT IT READS IS OF BULK AT MOST 1048576: true; the input reads as it did. -/
def natBackUptoRow : OpenClaim := { program := "ytphbdmafchjjeaadoor", sum := "140a14eef1f6c51550a1d23009cd2a1cb096c594d9d757f2735950d5cd700347", func := "weft/weftlaw23.NatBack", spec := "natBack", unfollowed := true, recurses := true, named := ["math/bits.deBruijn64tab"], apart := false, laid := [("math/bits.deBruijn64tab", laid_math_bits_deBruijn64tab)], narrowed := true }
def NatBackUptoSaid : Prop := natBackUptoRow.holds Tryd.pinned (OpenSpec.upto natBackSpec)

/-- 'weftlaw23.NatHome', WHERE WHAT IT READS IS OF BULK AT MOST 1048576: true; the input reads as it did. -/
def natHomeUptoRow : OpenClaim := { program := "ytphbdmafchjjeaadoor", sum := "140a14eef1f6c51550a1d23009cd2a1cb096c594d9d757f2735950d5cd700347", func := "weft/weftlaw23.NatHome", spec := "natHome", unfollowed := true, recurses := true, named := ["math/bits.deBruijn64tab", "weft/icmp.codes", "weft/addr.classes", "weft/icmp.faults"], apart := false, laid := [("math/bits.deBruijn64tab", laid_math_bits_deBruijn64tab), ("weft/addr.classes", laid_weft_addr_classes), ("weft/icmp.codes", laid_weft_icmp_codes), ("weft/icmp.faults", laid_weft_icmp_faults)], narrowed := true }
def NatHomeUptoSaid : Prop := natHomeUptoRow.holds Tryd.pinned (OpenSpec.upto natHomeSpec)

end Rows
end Go.Proofs.YtphbdmafchjjeaaDoor
