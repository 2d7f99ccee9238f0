/-
  NARROWER THAN 'FOR EVERY INPUT', by the rows' own cells (each row's printed sentence says how): IcmpHush: laid · IcmpNoStorm: laid · IcmpAboutFault: laid · IcmpParses: laid · IcmpBuilds: laid · IcmpFaults: laid · IcmpEchoes: laid · IcmpAbouts: laid · IcmpAll: laid · IcmpEchoBack: laid · IcmpFresh: laid · IcmpScript: laid.
  DERIVED. THE GIVEN ROWS OF THIS SEAT. 12 by the template 'for every input the law returns true; each argument reads behind the call as it read before'; 0 by the template 'total and deterministic' (their statements: YtfjbpeadhaekbaaDoorTotals.lean).
  GIVEN WITH THE SEED: the statements are not yours to turn. If you find one false, say at which input.
  Laid BY PROGRAM, IN A SANDBOX (cutbox-rows.mjs): the forced cells as the released guide's own fill.sh prints them over the translation 82eb2246d4596099… (all of the seat's roots in one cut). By AI agents, Wed Nov 11 2026. No macro, syntax, notation, axiom, sorry.
-/
import Derived.Test.YtfjbpeadhaekbaaDoorChecked
import GoSem.Claim
import GoSem.ClaimJoined
import GoSem.ClaimMapViews
import Derived.JoinedTies
import Derived.KernelRfl
namespace Go.Proofs.YtfjbpeadhaekbaaDoor
/- THE CELL 'sum', in the pinned program and in every row, IS THE sha256 OF THE DUMP (.gsa) THAT YtfjbpeadhaekbaaDoorProg.lean LOADS. Nothing in Lean hashes anything: it is a label: what it is worth is what the hold of that sum in a sandbox is worth. -/
noncomputable def Tryd.pinned : Pinned := { name := "ytfjbpeadhaekbaadoor", sum := "82eb2246d4596099399dca37a7200342a2209320162908cc164990076f8661f7", checked := Tryd.checked }
namespace Rows
def none {H : Type} : Left H := { results := [], args := [] }

/- WHAT THE LISTED PACKAGE-LEVEL VARIABLES READ AS WHEN THE CALL BEGINS. Each datum BY PROGRAM (the guide's laid-datum.mjs) off the statement by which the dump's own 'gosem.cut.vars' lays the variable. In a bare row this is a premise. The card (YtfjbpeadhaekbaaDoorCards.lean) ties it to the program's text. -/
def laid_weft_addr_classes {H : Type} : DataW H := .slice [.agg [.agg [.lit (.int .u32 0), .lit (.int .i64 8)], .lit (.int .i64 1)], .agg [.agg [.lit (.int .u32 2130706432), .lit (.int .i64 8)], .lit (.int .i64 2)], .agg [.agg [.lit (.int .u32 3758096384), .lit (.int .i64 4)], .lit (.int .i64 3)], .agg [.agg [.lit (.int .u32 4026531840), .lit (.int .i64 4)], .lit (.int .i64 4)]] []
def laid_weft_icmp_codes {H : Type} : DataW H := .agg [.lit (.int .u8 0), .lit (.int .u8 0), .lit (.int .u8 0), .lit (.int .u8 16), .lit (.int .u8 0), .lit (.int .u8 0), .lit (.int .u8 0), .lit (.int .u8 0), .lit (.int .u8 0), .lit (.int .u8 0), .lit (.int .u8 0), .lit (.int .u8 2), .lit (.int .u8 3)]
def laid_weft_icmp_faults {H : Type} : DataW H := .agg [.lit (.bool false), .lit (.bool false), .lit (.bool false), .lit (.bool true), .lit (.bool true), .lit (.bool true), .lit (.bool false), .lit (.bool false), .lit (.bool false), .lit (.bool false), .lit (.bool false), .lit (.bool true), .lit (.bool true)]

/-- 'weftlaw6.IcmpHush': WHATEVER THE INPUT: true; the input reads as it did. -/
def icmpHushSpec : ChangeSpec := { name := "icmpHush", fn := fun _ => fun
  | [d] => { results := [.lit (.bool true)], args := [d] }
  | _ => none }
def icmpHushRow : OpenClaim := { program := "ytfjbpeadhaekbaadoor", sum := "82eb2246d4596099399dca37a7200342a2209320162908cc164990076f8661f7", func := "weft/weftlaw6.IcmpHush", spec := "icmpHush", named := ["weft/icmp.codes", "weft/addr.classes", "weft/icmp.faults"], apart := false, laid := [("weft/addr.classes", laid_weft_addr_classes), ("weft/icmp.codes", laid_weft_icmp_codes), ("weft/icmp.faults", laid_weft_icmp_faults)] }
def IcmpHushSaid : Prop := icmpHushRow.holds Tryd.pinned (OpenSpec.ofChange icmpHushSpec)

/-- ITS FALSE NEIGHBOUR: 'it returns false'. Refute it at one input. -/
def icmpHushWrong : ChangeSpec := { name := "icmpHush", fn := fun _ => fun
  | [d] => { results := [.lit (.bool false)], args := [d] }
  | _ => none }
def IcmpHushWrongFalsely : Prop := icmpHushRow.holds Tryd.pinned (OpenSpec.ofChange icmpHushWrong)

/-- 'weftlaw6.IcmpNoStorm': WHATEVER THE INPUT: true; the input reads as it did. -/
def icmpNoStormSpec : ChangeSpec := { name := "icmpNoStorm", fn := fun _ => fun
  | [d1, d2, d3, d4, d5] => { results := [.lit (.bool true)], args := [d1, d2, d3, d4, d5] }
  | _ => none }
def icmpNoStormRow : OpenClaim := { program := "ytfjbpeadhaekbaadoor", sum := "82eb2246d4596099399dca37a7200342a2209320162908cc164990076f8661f7", func := "weft/weftlaw6.IcmpNoStorm", spec := "icmpNoStorm", named := ["weft/icmp.codes", "weft/addr.classes", "weft/icmp.faults"], apart := false, laid := [("weft/addr.classes", laid_weft_addr_classes), ("weft/icmp.codes", laid_weft_icmp_codes), ("weft/icmp.faults", laid_weft_icmp_faults)] }
def IcmpNoStormSaid : Prop := icmpNoStormRow.holds Tryd.pinned (OpenSpec.ofChange icmpNoStormSpec)

/-- ITS FALSE NEIGHBOUR: 'it returns false'. Refute it at one input. -/
def icmpNoStormWrong : ChangeSpec := { name := "icmpNoStorm", fn := fun _ => fun
  | [d1, d2, d3, d4, d5] => { results := [.lit (.bool false)], args := [d1, d2, d3, d4, d5] }
  | _ => none }
def IcmpNoStormWrongFalsely : Prop := icmpNoStormRow.holds Tryd.pinned (OpenSpec.ofChange icmpNoStormWrong)

/-- 'weftlaw6.IcmpAboutFault': WHATEVER THE INPUT: true; the input reads as it did. -/
def icmpAboutFaultSpec : ChangeSpec := { name := "icmpAboutFault", fn := fun _ => fun
  | [d1, d2, d3, d4, d5] => { results := [.lit (.bool true)], args := [d1, d2, d3, d4, d5] }
  | _ => none }
def icmpAboutFaultRow : OpenClaim := { program := "ytfjbpeadhaekbaadoor", sum := "82eb2246d4596099399dca37a7200342a2209320162908cc164990076f8661f7", func := "weft/weftlaw6.IcmpAboutFault", spec := "icmpAboutFault", named := ["weft/icmp.codes", "weft/addr.classes", "weft/icmp.faults"], apart := false, laid := [("weft/addr.classes", laid_weft_addr_classes), ("weft/icmp.codes", laid_weft_icmp_codes), ("weft/icmp.faults", laid_weft_icmp_faults)] }
def IcmpAboutFaultSaid : Prop := icmpAboutFaultRow.holds Tryd.pinned (OpenSpec.ofChange icmpAboutFaultSpec)

/-- ITS FALSE NEIGHBOUR: 'it returns false'. Refute it at one input. -/
def icmpAboutFaultWrong : ChangeSpec := { name := "icmpAboutFault", fn := fun _ => fun
  | [d1, d2, d3, d4, d5] => { results := [.lit (.bool false)], args := [d1, d2, d3, d4, d5] }
  | _ => none }
def IcmpAboutFaultWrongFalsely : Prop := icmpAboutFaultRow.holds Tryd.pinned (OpenSpec.ofChange icmpAboutFaultWrong)

/-- 'weftlaw6.IcmpParses': WHATEVER THE INPUT: true; the input reads as it did. -/
def icmpParsesSpec : ChangeSpec := { name := "icmpParses", fn := fun _ => fun
  | [d] => { results := [.lit (.bool true)], args := [d] }
  | _ => none }
def icmpParsesRow : OpenClaim := { program := "ytfjbpeadhaekbaadoor", sum := "82eb2246d4596099399dca37a7200342a2209320162908cc164990076f8661f7", func := "weft/weftlaw6.IcmpParses", spec := "icmpParses", named := ["weft/icmp.codes", "weft/addr.classes", "weft/icmp.faults"], apart := false, laid := [("weft/addr.classes", laid_weft_addr_classes), ("weft/icmp.codes", laid_weft_icmp_codes), ("weft/icmp.faults", laid_weft_icmp_faults)] }
def IcmpParsesSaid : Prop := icmpParsesRow.holds Tryd.pinned (OpenSpec.ofChange icmpParsesSpec)

/-- ITS FALSE NEIGHBOUR: 'it returns false'. Refute it at one input. -/
def icmpParsesWrong : ChangeSpec := { name := "icmpParses", fn := fun _ => fun
  | [d] => { results := [.lit (.bool false)], args := [d] }
  | _ => none }
def IcmpParsesWrongFalsely : Prop := icmpParsesRow.holds Tryd.pinned (OpenSpec.ofChange icmpParsesWrong)

/-- 'weftlaw6.IcmpBuilds': WHATEVER THE INPUT: true; the input reads as it did. -/
def icmpBuildsSpec : ChangeSpec := { name := "icmpBuilds", fn := fun _ => fun
  | [d] => { results := [.lit (.bool true)], args := [d] }
  | _ => none }
def icmpBuildsRow : OpenClaim := { program := "ytfjbpeadhaekbaadoor", sum := "82eb2246d4596099399dca37a7200342a2209320162908cc164990076f8661f7", func := "weft/weftlaw6.IcmpBuilds", spec := "icmpBuilds", named := ["weft/icmp.codes", "weft/addr.classes", "weft/icmp.faults"], apart := false, laid := [("weft/addr.classes", laid_weft_addr_classes), ("weft/icmp.codes", laid_weft_icmp_codes), ("weft/icmp.faults", laid_weft_icmp_faults)] }
def IcmpBuildsSaid : Prop := icmpBuildsRow.holds Tryd.pinned (OpenSpec.ofChange icmpBuildsSpec)

/-- ITS FALSE NEIGHBOUR: 'it returns false'. Refute it at one input. -/
def icmpBuildsWrong : ChangeSpec := { name := "icmpBuilds", fn := fun _ => fun
  | [d] => { results := [.lit (.bool false)], args := [d] }
  | _ => none }
def IcmpBuildsWrongFalsely : Prop := icmpBuildsRow.holds Tryd.pinned (OpenSpec.ofChange icmpBuildsWrong)

/-- 'weftlaw6.IcmpFaults': WHATEVER THE INPUT: true; the input reads as it did. -/
def icmpFaultsSpec : ChangeSpec := { name := "icmpFaults", fn := fun _ => fun
  | [d] => { results := [.lit (.bool true)], args := [d] }
  | _ => none }
def icmpFaultsRow : OpenClaim := { program := "ytfjbpeadhaekbaadoor", sum := "82eb2246d4596099399dca37a7200342a2209320162908cc164990076f8661f7", func := "weft/weftlaw6.IcmpFaults", spec := "icmpFaults", named := ["weft/icmp.codes", "weft/addr.classes", "weft/icmp.faults"], apart := false, laid := [("weft/addr.classes", laid_weft_addr_classes), ("weft/icmp.codes", laid_weft_icmp_codes), ("weft/icmp.faults", laid_weft_icmp_faults)] }
def IcmpFaultsSaid : Prop := icmpFaultsRow.holds Tryd.pinned (OpenSpec.ofChange icmpFaultsSpec)

/-- ITS FALSE NEIGHBOUR: 'it returns false'. Refute it at one input. -/
def icmpFaultsWrong : ChangeSpec := { name := "icmpFaults", fn := fun _ => fun
  | [d] => { results := [.lit (.bool false)], args := [d] }
  | _ => none }
def IcmpFaultsWrongFalsely : Prop := icmpFaultsRow.holds Tryd.pinned (OpenSpec.ofChange icmpFaultsWrong)

/-- 'weftlaw6.IcmpEchoes': WHATEVER THE INPUT: true; the input reads as it did. -/
def icmpEchoesSpec : ChangeSpec := { name := "icmpEchoes", fn := fun _ => fun
  | [d] => { results := [.lit (.bool true)], args := [d] }
  | _ => none }
def icmpEchoesRow : OpenClaim := { program := "ytfjbpeadhaekbaadoor", sum := "82eb2246d4596099399dca37a7200342a2209320162908cc164990076f8661f7", func := "weft/weftlaw6.IcmpEchoes", spec := "icmpEchoes", named := ["weft/icmp.codes", "weft/addr.classes", "weft/icmp.faults"], apart := false, laid := [("weft/addr.classes", laid_weft_addr_classes), ("weft/icmp.codes", laid_weft_icmp_codes), ("weft/icmp.faults", laid_weft_icmp_faults)] }
def IcmpEchoesSaid : Prop := icmpEchoesRow.holds Tryd.pinned (OpenSpec.ofChange icmpEchoesSpec)

/-- ITS FALSE NEIGHBOUR: 'it returns false'. Refute it at one input. -/
def icmpEchoesWrong : ChangeSpec := { name := "icmpEchoes", fn := fun _ => fun
  | [d] => { results := [.lit (.bool false)], args := [d] }
  | _ => none }
def IcmpEchoesWrongFalsely : Prop := icmpEchoesRow.holds Tryd.pinned (OpenSpec.ofChange icmpEchoesWrong)

/-- 'weftlaw6.IcmpAbouts': WHATEVER THE INPUT: true; the input reads as it did. -/
def icmpAboutsSpec : ChangeSpec := { name := "icmpAbouts", fn := fun _ => fun
  | [d] => { results := [.lit (.bool true)], args := [d] }
  | _ => none }
def icmpAboutsRow : OpenClaim := { program := "ytfjbpeadhaekbaadoor", sum := "82eb2246d4596099399dca37a7200342a2209320162908cc164990076f8661f7", func := "weft/weftlaw6.IcmpAbouts", spec := "icmpAbouts", named := ["weft/icmp.codes", "weft/addr.classes", "weft/icmp.faults"], apart := false, laid := [("weft/addr.classes", laid_weft_addr_classes), ("weft/icmp.codes", laid_weft_icmp_codes), ("weft/icmp.faults", laid_weft_icmp_faults)] }
def IcmpAboutsSaid : Prop := icmpAboutsRow.holds Tryd.pinned (OpenSpec.ofChange icmpAboutsSpec)

/-- ITS FALSE NEIGHBOUR: 'it returns false'. Refute it at one input. -/
def icmpAboutsWrong : ChangeSpec := { name := "icmpAbouts", fn := fun _ => fun
  | [d] => { results := [.lit (.bool false)], args := [d] }
  | _ => none }
def IcmpAboutsWrongFalsely : Prop := icmpAboutsRow.holds Tryd.pinned (OpenSpec.ofChange icmpAboutsWrong)

/-- 'weftlaw6.IcmpAll': WHATEVER THE INPUT: true; the input reads as it did. -/
def icmpAllSpec : ChangeSpec := { name := "icmpAll", fn := fun _ => fun
  | [d] => { results := [.lit (.bool true)], args := [d] }
  | _ => none }
def icmpAllRow : OpenClaim := { program := "ytfjbpeadhaekbaadoor", sum := "82eb2246d4596099399dca37a7200342a2209320162908cc164990076f8661f7", func := "weft/weftlaw6.IcmpAll", spec := "icmpAll", named := ["weft/icmp.codes", "weft/addr.classes", "weft/icmp.faults"], apart := false, laid := [("weft/addr.classes", laid_weft_addr_classes), ("weft/icmp.codes", laid_weft_icmp_codes), ("weft/icmp.faults", laid_weft_icmp_faults)] }
def IcmpAllSaid : Prop := icmpAllRow.holds Tryd.pinned (OpenSpec.ofChange icmpAllSpec)

/-- ITS FALSE NEIGHBOUR: 'it returns false'. Refute it at one input. -/
def icmpAllWrong : ChangeSpec := { name := "icmpAll", fn := fun _ => fun
  | [d] => { results := [.lit (.bool false)], args := [d] }
  | _ => none }
def IcmpAllWrongFalsely : Prop := icmpAllRow.holds Tryd.pinned (OpenSpec.ofChange icmpAllWrong)

/-- 'weftlaw6.IcmpEchoBack': WHATEVER THE INPUT: true; the input reads as it did. -/
def icmpEchoBackSpec : ChangeSpec := { name := "icmpEchoBack", fn := fun _ => fun
  | [d1, d2] => { results := [.lit (.bool true)], args := [d1, d2] }
  | _ => none }
def icmpEchoBackRow : OpenClaim := { program := "ytfjbpeadhaekbaadoor", sum := "82eb2246d4596099399dca37a7200342a2209320162908cc164990076f8661f7", func := "weft/weftlaw6.IcmpEchoBack", spec := "icmpEchoBack", named := ["weft/addr.classes", "weft/icmp.faults", "weft/icmp.codes"], apart := false, laid := [("weft/addr.classes", laid_weft_addr_classes), ("weft/icmp.codes", laid_weft_icmp_codes), ("weft/icmp.faults", laid_weft_icmp_faults)] }
def IcmpEchoBackSaid : Prop := icmpEchoBackRow.holds Tryd.pinned (OpenSpec.ofChange icmpEchoBackSpec)

/-- ITS FALSE NEIGHBOUR: 'it returns false'. Refute it at one input. -/
def icmpEchoBackWrong : ChangeSpec := { name := "icmpEchoBack", fn := fun _ => fun
  | [d1, d2] => { results := [.lit (.bool false)], args := [d1, d2] }
  | _ => none }
def IcmpEchoBackWrongFalsely : Prop := icmpEchoBackRow.holds Tryd.pinned (OpenSpec.ofChange icmpEchoBackWrong)

/-- 'weftlaw6.IcmpFresh': WHATEVER THE INPUT: true; the input reads as it did. -/
def icmpFreshSpec : ChangeSpec := { name := "icmpFresh", fn := fun _ => fun
  | [d] => { results := [.lit (.bool true)], args := [d] }
  | _ => none }
def icmpFreshRow : OpenClaim := { program := "ytfjbpeadhaekbaadoor", sum := "82eb2246d4596099399dca37a7200342a2209320162908cc164990076f8661f7", func := "weft/weftlaw6.IcmpFresh", spec := "icmpFresh", named := ["weft/icmp.codes", "weft/addr.classes", "weft/icmp.faults"], apart := false, laid := [("weft/addr.classes", laid_weft_addr_classes), ("weft/icmp.codes", laid_weft_icmp_codes), ("weft/icmp.faults", laid_weft_icmp_faults)] }
def IcmpFreshSaid : Prop := icmpFreshRow.holds Tryd.pinned (OpenSpec.ofChange icmpFreshSpec)

/-- ITS FALSE NEIGHBOUR: 'it returns false'. Refute it at one input. -/
def icmpFreshWrong : ChangeSpec := { name := "icmpFresh", fn := fun _ => fun
  | [d] => { results := [.lit (.bool false)], args := [d] }
  | _ => none }
def IcmpFreshWrongFalsely : Prop := icmpFreshRow.holds Tryd.pinned (OpenSpec.ofChange icmpFreshWrong)

/-- 'weftlaw6.IcmpScript': WHATEVER THE INPUT: true; the input reads as it did. -/
def icmpScriptSpec : ChangeSpec := { name := "icmpScript", fn := fun _ => fun
  | [d1, d2] => { results := [.lit (.bool true)], args := [d1, d2] }
  | _ => none }
def icmpScriptRow : OpenClaim := { program := "ytfjbpeadhaekbaadoor", sum := "82eb2246d4596099399dca37a7200342a2209320162908cc164990076f8661f7", func := "weft/weftlaw6.IcmpScript", spec := "icmpScript", named := ["weft/icmp.codes", "weft/addr.classes", "weft/icmp.faults"], apart := false, laid := [("weft/addr.classes", laid_weft_addr_classes), ("weft/icmp.codes", laid_weft_icmp_codes), ("weft/icmp.faults", laid_weft_icmp_faults)] }
def IcmpScriptSaid : Prop := icmpScriptRow.holds Tryd.pinned (OpenSpec.ofChange icmpScriptSpec)

/-- ITS FALSE NEIGHBOUR: 'it returns false'. Refute it at one input. -/
def icmpScriptWrong : ChangeSpec := { name := "icmpScript", fn := fun _ => fun
  | [d1, d2] => { results := [.lit (.bool false)], args := [d1, d2] }
  | _ => none }
def IcmpScriptWrongFalsely : Prop := icmpScriptRow.holds Tryd.pinned (OpenSpec.ofChange icmpScriptWrong)

/- THE SECOND FORM. 'bulk': how many values and letters a reading holds, each counted each time it is reached (what is shared counts as often as it is met; a slice's spare places count too). A statement '..UptoSaid' is the law's where the arguments, and the package variables that the reading takes, are together of bulk at most 1048576: NARROWER than '..Said'. Prove '..Said' where nothing that the law and all that it calls make is longer than what came in: it says more and counts as full. Else prove '..UptoSaid'. A law counts once. -/
mutual
def uptoBulk {H : Type} : DataW H → Nat
  | .lit (.string bytes) => bytes.length + 1
  | .lit _ => 1
  | .nil => 1
  | .ptr d => uptoBulk d + 1
  | .slice elems spare => uptoBulkAll elems + uptoBulkAll spare + 1
  | .agg parts => uptoBulkAll parts + 1
  | .iface _ d => uptoBulk d + 1
  | .map entries => uptoBulkEntries entries + 1
  | .held _ => 1
def uptoBulkAll {H : Type} : List (DataW H) → Nat
  | [] => 0
  | d :: r => uptoBulk d + uptoBulkAll r
def uptoBulkEntries {H : Type} : List (Lit × DataW H) → Nat
  | [] => 0
  | x :: r => uptoBulkEntry x + uptoBulkEntries r
def uptoBulkEntry {H : Type} : Lit × DataW H → Nat
  | (.string bytes, d) => bytes.length + uptoBulk d + 1
  | (_, d) => uptoBulk d + 1
 end
def uptoSmall : (H : Type) → List (DataW H) → Bool := fun _ ds => decide (uptoBulkAll ds ≤ 1048576)
def OpenSpec.upto (s : _root_.Go.ChangeSpec) : _root_.Go.OpenSpec := { _root_.Go.OpenSpec.ofChange s with cond := some uptoSmall }

/-- 'weftlaw6.IcmpHush', WHERE WHAT IT READS IS OF BULK AT MOST 1048576: true; the input reads as it did. -/
def icmpHushUptoRow : OpenClaim := { program := "ytfjbpeadhaekbaadoor", sum := "82eb2246d4596099399dca37a7200342a2209320162908cc164990076f8661f7", func := "weft/weftlaw6.IcmpHush", spec := "icmpHush", named := ["weft/icmp.codes", "weft/addr.classes", "weft/icmp.faults"], apart := false, laid := [("weft/addr.classes", laid_weft_addr_classes), ("weft/icmp.codes", laid_weft_icmp_codes), ("weft/icmp.faults", laid_weft_icmp_faults)], narrowed := true }
def IcmpHushUptoSaid : Prop := icmpHushUptoRow.holds Tryd.pinned (OpenSpec.upto icmpHushSpec)

/-- 'weftlaw6.IcmpNoStorm', WHERE WHAT IT READS IS OF BULK AT MOST 1048576: true; the input reads as it did. -/
def icmpNoStormUptoRow : OpenClaim := { program := "ytfjbpeadhaekbaadoor", sum := "82eb2246d4596099399dca37a7200342a2209320162908cc164990076f8661f7", func := "weft/weftlaw6.IcmpNoStorm", spec := "icmpNoStorm", named := ["weft/icmp.codes", "weft/addr.classes", "weft/icmp.faults"], apart := false, laid := [("weft/addr.classes", laid_weft_addr_classes), ("weft/icmp.codes", laid_weft_icmp_codes), ("weft/icmp.faults", laid_weft_icmp_faults)], narrowed := true }
def IcmpNoStormUptoSaid : Prop := icmpNoStormUptoRow.holds Tryd.pinned (OpenSpec.upto icmpNoStormSpec)

/-- 'weftlaw6.IcmpAboutFault', WHERE WHAT IT READS IS OF BULK AT MOST 1048576: true; the input reads as it did. -/
def icmpAboutFaultUptoRow : OpenClaim := { program := "ytfjbpeadhaekbaadoor", sum := "82eb2246d4596099399dca37a7200342a2209320162908cc164990076f8661f7", func := "weft/weftlaw6.IcmpAboutFault", spec := "icmpAboutFault", named := ["weft/icmp.codes", "weft/addr.classes", "weft/icmp.faults"], apart := false, laid := [("weft/addr.classes", laid_weft_addr_classes), ("weft/icmp.codes", laid_weft_icmp_codes), ("weft/icmp.faults", laid_weft_icmp_faults)], narrowed := true }
def IcmpAboutFaultUptoSaid : Prop := icmpAboutFaultUptoRow.holds Tryd.pinned (OpenSpec.upto icmpAboutFaultSpec)

/-- 'weftlaw6.IcmpParses', WHERE WHAT IT READS IS OF BULK AT MOST 1048576: true; the input reads as it did. -/
def icmpParsesUptoRow : OpenClaim := { program := "ytfjbpeadhaekbaadoor", sum := "82eb2246d4596099399dca37a7200342a2209320162908cc164990076f8661f7", func := "weft/weftlaw6.IcmpParses", spec := "icmpParses", named := ["weft/icmp.codes", "weft/addr.classes", "weft/icmp.faults"], apart := false, laid := [("weft/addr.classes", laid_weft_addr_classes), ("weft/icmp.codes", laid_weft_icmp_codes), ("weft/icmp.faults", laid_weft_icmp_faults)], narrowed := true }
def IcmpParsesUptoSaid : Prop := icmpParsesUptoRow.holds Tryd.pinned (OpenSpec.upto icmpParsesSpec)

/-- 'weftlaw6.IcmpBuilds', WHERE WHAT IT READS IS OF BULK AT MOST 1048576: true; the input reads as it did. -/
def icmpBuildsUptoRow : OpenClaim := { program := "ytfjbpeadhaekbaadoor", sum := "82eb2246d4596099399dca37a7200342a2209320162908cc164990076f8661f7", func := "weft/weftlaw6.IcmpBuilds", spec := "icmpBuilds", named := ["weft/icmp.codes", "weft/addr.classes", "weft/icmp.faults"], apart := false, laid := [("weft/addr.classes", laid_weft_addr_classes), ("weft/icmp.codes", laid_weft_icmp_codes), ("weft/icmp.faults", laid_weft_icmp_faults)], narrowed := true }
def IcmpBuildsUptoSaid : Prop := icmpBuildsUptoRow.holds Tryd.pinned (OpenSpec.upto icmpBuildsSpec)

/-- 'weftlaw6.IcmpFaults', WHERE WHAT IT READS IS OF BULK AT MOST 1048576: true; the input reads as it did. -/
def icmpFaultsUptoRow : OpenClaim := { program := "ytfjbpeadhaekbaadoor", sum := "82eb2246d4596099399dca37a7200342a2209320162908cc164990076f8661f7", func := "weft/weftlaw6.IcmpFaults", spec := "icmpFaults", named := ["weft/icmp.codes", "weft/addr.classes", "weft/icmp.faults"], apart := false, laid := [("weft/addr.classes", laid_weft_addr_classes), ("weft/icmp.codes", laid_weft_icmp_codes), ("weft/icmp.faults", laid_weft_icmp_faults)], narrowed := true }
def IcmpFaultsUptoSaid : Prop := icmpFaultsUptoRow.holds Tryd.pinned (OpenSpec.upto icmpFaultsSpec)

/-- 'weftlaw6.IcmpEchoes', WHERE WHAT IT READS IS OF BULK AT MOST 1048576: true; the input reads as it did. -/
def icmpEchoesUptoRow : OpenClaim := { program := "ytfjbpeadhaekbaadoor", sum := "82eb2246d4596099399dca37a7200342a2209320162908cc164990076f8661f7", func := "weft/weftlaw6.IcmpEchoes", spec := "icmpEchoes", named := ["weft/icmp.codes", "weft/addr.classes", "weft/icmp.faults"], apart := false, laid := [("weft/addr.classes", laid_weft_addr_classes), ("weft/icmp.codes", laid_weft_icmp_codes), ("weft/icmp.faults", laid_weft_icmp_faults)], narrowed := true }
def IcmpEchoesUptoSaid : Prop := icmpEchoesUptoRow.holds Tryd.pinned (OpenSpec.upto icmpEchoesSpec)

/-- 'weftlaw6.IcmpAbouts', WHERE WHAT IT READS IS OF BULK AT MOST 1048576: true; the input reads as it did. -/
def icmpAboutsUptoRow : OpenClaim := { program := "ytfjbpeadhaekbaadoor", sum := "82eb2246d4596099399dca37a7200342a2209320162908cc164990076f8661f7", func := "weft/weftlaw6.IcmpAbouts", spec := "icmpAbouts", named := ["weft/icmp.codes", "weft/addr.classes", "weft/icmp.faults"], apart := false, laid := [("weft/addr.classes", laid_weft_addr_classes), ("weft/icmp.codes", laid_weft_icmp_codes), ("weft/icmp.faults", laid_weft_icmp_faults)], narrowed := true }
def IcmpAboutsUptoSaid : Prop := icmpAboutsUptoRow.holds Tryd.pinned (OpenSpec.upto icmpAboutsSpec)

/-- 'weftlaw6.IcmpAll', WHERE WHAT IT READS IS OF BULK AT MOST 1048576: true; the input reads as it did. -/
def icmpAllUptoRow : OpenClaim := { program := "ytfjbpeadhaekbaadoor", sum := "82eb2246d4596099399dca37a7200342a2209320162908cc164990076f8661f7", func := "weft/weftlaw6.IcmpAll", spec := "icmpAll", named := ["weft/icmp.codes", "weft/addr.classes", "weft/icmp.faults"], apart := false, laid := [("weft/addr.classes", laid_weft_addr_classes), ("weft/icmp.codes", laid_weft_icmp_codes), ("weft/icmp.faults", laid_weft_icmp_faults)], narrowed := true }
def IcmpAllUptoSaid : Prop := icmpAllUptoRow.holds Tryd.pinned (OpenSpec.upto icmpAllSpec)

/-- 'weftlaw6.IcmpEchoBack', WHERE WHAT IT READS IS OF BULK AT MOST 1048576: true; the input reads as it did. -/
def icmpEchoBackUptoRow : OpenClaim := { program := "ytfjbpeadhaekbaadoor", sum := "82eb2246d4596099399dca37a7200342a2209320162908cc164990076f8661f7", func := "weft/weftlaw6.IcmpEchoBack", spec := "icmpEchoBack", named := ["weft/addr.classes", "weft/icmp.faults", "weft/icmp.codes"], apart := false, laid := [("weft/addr.classes", laid_weft_addr_classes), ("weft/icmp.codes", laid_weft_icmp_codes), ("weft/icmp.faults", laid_weft_icmp_faults)], narrowed := true }
def IcmpEchoBackUptoSaid : Prop := icmpEchoBackUptoRow.holds Tryd.pinned (OpenSpec.upto icmpEchoBackSpec)

/-- 'weftlaw6.IcmpFresh', WHERE WHAT IT READS IS OF BULK AT MOST 1048576: true; the input reads as it did. -/
def icmpFreshUptoRow : OpenClaim := { program := "ytfjbpeadhaekbaadoor", sum := "82eb2246d4596099399dca37a7200342a2209320162908cc164990076f8661f7", func := "weft/weftlaw6.IcmpFresh", spec := "icmpFresh", named := ["weft/icmp.codes", "weft/addr.classes", "weft/icmp.faults"], apart := false, laid := [("weft/addr.classes", laid_weft_addr_classes), ("weft/icmp.codes", laid_weft_icmp_codes), ("weft/icmp.faults", laid_weft_icmp_faults)], narrowed := true }
def IcmpFreshUptoSaid : Prop := icmpFreshUptoRow.holds Tryd.pinned (OpenSpec.upto icmpFreshSpec)

/-- 'weftlaw6.IcmpScript', WHERE WHAT IT READS IS OF BULK AT MOST 1048576: true; the input reads as it did. -/
def icmpScriptUptoRow : OpenClaim := { program := "ytfjbpeadhaekbaadoor", sum := "82eb2246d4596099399dca37a7200342a2209320162908cc164990076f8661f7", func := "weft/weftlaw6.IcmpScript", spec := "icmpScript", named := ["weft/icmp.codes", "weft/addr.classes", "weft/icmp.faults"], apart := false, laid := [("weft/addr.classes", laid_weft_addr_classes), ("weft/icmp.codes", laid_weft_icmp_codes), ("weft/icmp.faults", laid_weft_icmp_faults)], narrowed := true }
def IcmpScriptUptoSaid : Prop := icmpScriptUptoRow.holds Tryd.pinned (OpenSpec.upto icmpScriptSpec)

end Rows
end Go.Proofs.YtfjbpeadhaekbaaDoor
