-- printed by a program of this session (wip/xprint), out of the translation; Lean checks it
import Derived.Test.YtbacmhegalncjaaProg
import Derived.Below
import Derived.Deep.Draws
import Derived.Deep.AppendLies
import Derived.Maps.AppendAt
import Derived.OwnWalk
import Derived.Laws.BytesArg
import Derived.Laws.MakeOwn
import Derived.Laws.OwnMore
import Derived.Deep.OwnRows
import Derived.Tactics
import Derived.Lib.ConvBytes
import Derived.Laws.Slices
import Derived.WalkKit
import Derived.KernelRfl
import Derived.RowKit3
import Derived.Deep.LoopGhost
import Derived.Deep.QuietTactic
import Derived.BigQuiet
import Derived.WideLaws
import Derived.Deep.DeepCutAuto
import Derived.Deep.CutBlock
import Derived.Deep.RegionHeld3
import Derived.Laws.Rows
import Derived.Lib.AppendStr
import Derived.ArgAppend
import Derived.Laws.IdiomCopy
import Derived.OrdersHeld
import Derived.Laws.BitsLemmas
import Derived.RowKit
import Derived.Test.YtbacmhegalncjaaQIWWords
import Derived.Test.YtbacmhegalncjaaQIWLast
import Derived.Test.YtbacmhegalncjaaQIWTab
import Derived.Test.YtbacmhegalncjaaQIWApart
import Derived.Test.YtbacmhegalncjaaQIWFoot
import Derived.Test.YtbacmhegalncjaaQIWKept
import Derived.Test.YtbacmhegalncjaaQIWShare
import Derived.Test.YtbacmhegalncjaaQIWN
import Derived.Laws.StructEq
import Derived.Test.YtbacmhegalncjaaQIWRepsOne
import Derived.Test.YtbacmhegalncjaaQIWMore
import Derived.Test.YtbacmhegalncjaaQIXWords
namespace Go.Proofs.Ytbacmhegalncjaa.XB
open Go.RowKit Go.Proofs.YtbacmhegalncjaaW.PrintWords Go.Proofs.YtbacmhegalncjaaW.PrintLast Go.Proofs.YtbacmhegalncjaaW.PrintMore Go.Proofs.YtbacmhegalncjaaX
attribute [local go_sem] max2_int min2_int max_two min_two max_three min_three max_four min_four   -- for this text's walks alone
set_option linter.unusedVariables false
set_option linter.unusedSimpArgs false

def errW : Option Int → Value
 | none => .nilIface
 | some c => .iface 0 (.int .i64 c)
theorem errW_none : errW none = .nilIface := rfl
theorem errW_some (c : Int) : errW (some c) = .iface 0 (.int .i64 c) := rfl

theorem info5 : (Try.prog.info? 5).map (fun i => (i.zero, i.size, i.bytes)) = some (some (.int .u8 0), 1, 1) := by kernel_rfl
-- the values' own types
def rd_L1 (xs : List (List Int)) (i : Int) : (List Int) := xs.getD i.toNat ([] : List Int)
theorem at_L1 {w : World} {A : Option Addr} {n : Nat} {xs : List (List Int)} (h : Kd.C (Kd.slice 5 (Kd.int .u8)) w A n xs) (i : Int) (h0 : 0 ≤ i) (h1 : i < n) : ∃ ad A0 c0, A = some ad ∧ w.cell? (ad.add i.toNat) = some (.slice A0 (rd_L1 xs i).length c0) ∧ (rd_L1 xs i).length ≤ c0 ∧ (Kd.int .u8).C w A0 (rd_L1 xs i).length (rd_L1 xs i) := by
 obtain ⟨ad, c, e, _, hK, hc0⟩ := Kd.C_get h ([] : List Int) i h0 h1
 have hc : ∀ j u, c[j]? = some u → w.cell? (ad.add (i.toNat * 1 + j)) = some u := hc0
 obtain ⟨A0, c0, rfl, l0, g0⟩ := hK
 exact ⟨ad, A0, c0, e, by have hq := hc 0 _ rfl; rwa [Nat.mul_one, Nat.add_zero] at hq, l0, g0⟩

/-! #### struct type 41 -/
structure S41 where
 f0 : Int
 f1 : Int
 f2 : Bool
 f3 : Bool
 f4 : Int
 f5 : Int
 f6 : Int
 f7 : Int
 f8 : Int
 f9 : (List Int)
def z41 : S41 := ⟨(0 : Int), (0 : Int), false, false, (0 : Int), (0 : Int), (0 : Int), (0 : Int), (0 : Int), ([] : List Int)⟩
def k41 : Kd S41 := Kd.iso (Kd.pair (Kd.int .u8) (Kd.pair (Kd.int .u16) (Kd.pair Kd.bool (Kd.pair Kd.bool (Kd.pair (Kd.int .i64) (Kd.pair (Kd.int .u8) (Kd.pair (Kd.int .u8) (Kd.pair (Kd.int .u32) (Kd.pair (Kd.int .u32) (Kd.slice 5 (Kd.int .u8))))))))))) (fun x : S41 => (x.f0, x.f1, x.f2, x.f3, x.f4, x.f5, x.f6, x.f7, x.f8, x.f9))
theorem k41_open {w : World} {x : S41} {cs : List Value} (h : k41.K w x cs) : ∃ A9 c9, cs = [.int .u8 x.f0, .int .u16 x.f1, .bool x.f2, .bool x.f3, .int .i64 x.f4, .int .u8 x.f5, .int .u8 x.f6, .int .u32 x.f7, .int .u32 x.f8, .slice A9 x.f9.length c9] ∧ x.f9.length ≤ c9 ∧ (Kd.int .u8).C w A9 x.f9.length x.f9 := by
 obtain ⟨_, _, rfl, rfl, ⟨_, _, rfl, rfl, ⟨_, _, rfl, rfl, ⟨_, _, rfl, rfl, ⟨_, _, rfl, rfl, ⟨_, _, rfl, rfl, ⟨_, _, rfl, rfl, ⟨_, _, rfl, rfl, ⟨_, _, rfl, rfl, ⟨A9, c9, rfl, l9, g9⟩⟩⟩⟩⟩⟩⟩⟩⟩⟩ := h
 exact ⟨A9, c9, rfl, l9, g9⟩
/-! #### struct type 43 -/
structure S43 where
 f0 : S41
 f1 : (List Int)
def z43 : S43 := ⟨z41, ([] : List Int)⟩
def k43 : Kd S43 := Kd.iso (Kd.pair k41 (Kd.slice 5 (Kd.int .u8))) (fun x : S43 => (x.f0, x.f1))
theorem k43_open {w : World} {x : S43} {cs : List Value} (h : k43.K w x cs) : ∃ A9 c9 A10 c10, cs = [.int .u8 x.f0.f0, .int .u16 x.f0.f1, .bool x.f0.f2, .bool x.f0.f3, .int .i64 x.f0.f4, .int .u8 x.f0.f5, .int .u8 x.f0.f6, .int .u32 x.f0.f7, .int .u32 x.f0.f8, .slice A9 x.f0.f9.length c9, .slice A10 x.f1.length c10] ∧ x.f0.f9.length ≤ c9 ∧ (Kd.int .u8).C w A9 x.f0.f9.length x.f0.f9 ∧ x.f1.length ≤ c10 ∧ (Kd.int .u8).C w A10 x.f1.length x.f1 := by
 obtain ⟨_, _, rfl, s0, ⟨A10, c10, rfl, l10, g10⟩⟩ := h
 obtain ⟨A9, c9, rfl, l9, g9⟩ := k41_open s0
 exact ⟨A9, c9, A10, c10, rfl, l9, g9, l10, g10⟩
/-! #### struct type 57 -/
structure S57 where
 f0 : Int
 f1 : (List Int)
 f2 : (List (List Int))
 f3 : Int
 f4 : Int
 f5 : Int
 f6 : S43
end Go.Proofs.Ytbacmhegalncjaa.XB
