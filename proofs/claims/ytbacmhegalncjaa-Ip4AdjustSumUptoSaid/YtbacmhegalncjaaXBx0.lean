-- printed by a program of this session (wip/xprint), out of the translation; Lean checks it
import Derived.Test.YtbacmhegalncjaaProg
import Derived.Below
import Derived.Deep.Draws
import Derived.Deep.AppendLies
import Derived.Maps.AppendAt
import Derived.OwnWalk
import Derived.Laws.BytesArg
import Derived.Laws.MakeOwn
import Derived.Laws.OwnMore
import Derived.Deep.OwnRows
import Derived.Tactics
import Derived.Lib.ConvBytes
import Derived.Laws.Slices
import Derived.WalkKit
import Derived.KernelRfl
import Derived.RowKit3
import Derived.Deep.LoopGhost
import Derived.Deep.QuietTactic
import Derived.BigQuiet
import Derived.WideLaws
import Derived.Deep.DeepCutAuto
import Derived.Deep.CutBlock
import Derived.Deep.RegionHeld3
import Derived.Laws.Rows
import Derived.Lib.AppendStr
import Derived.ArgAppend
import Derived.Laws.IdiomCopy
import Derived.OrdersHeld
import Derived.Laws.BitsLemmas
import Derived.RowKit
import Derived.Test.YtbacmhegalncjaaWWords
import Derived.Test.YtbacmhegalncjaaWLast
import Derived.Test.YtbacmhegalncjaaWTab
import Derived.Test.YtbacmhegalncjaaWFour
import Derived.Test.YtbacmhegalncjaaWQPut
import Derived.Test.YtbacmhegalncjaaWApart
import Derived.Test.YtbacmhegalncjaaWArr
import Derived.Test.YtbacmhegalncjaaWZeros
import Derived.Test.YtbacmhegalncjaaWFoot
import Derived.Test.YtbacmhegalncjaaWKept
import Derived.Test.YtbacmhegalncjaaWShare
import Derived.Test.YtbacmhegalncjaaWN
import Derived.Test.YtbacmhegalncjaaWFootNe
import Derived.Test.YtbacmhegalncjaaWAt
import Derived.Test.YtbacmhegalncjaaWEqStruct
import Derived.Test.YtbacmhegalncjaaWRepsOne
import Derived.Test.YtbacmhegalncjaaWInv
import Derived.Test.YtbacmhegalncjaaWInvWords
import Derived.Test.YtbacmhegalncjaaWGuard
import Derived.Test.YtbacmhegalncjaaWNEv
import Derived.Test.YtbacmhegalncjaaWMore
import Derived.Test.YtbacmhegalncjaaXWords
namespace Go.Proofs.Ytbacmhegalncjaa.XB
open Go.RowKit Go.Proofs.YtbacmhegalncjaaW.PrintWords Go.Proofs.YtbacmhegalncjaaW.PrintLast Go.Proofs.YtbacmhegalncjaaW.PrintMore Go.Proofs.YtbacmhegalncjaaX
attribute [local go_sem] max2_int min2_int max_two min_two max_three min_three max_four min_four   -- for this text's walks alone
set_option linter.unusedVariables false
set_option linter.unusedSimpArgs false



def errW : Option Int → Value
  | none => .nilIface
  | some c => .iface 0 (.int .i64 c)
theorem errW_none : errW none = .nilIface := rfl
theorem errW_some (c : Int) : errW (some c) = .iface 0 (.int .i64 c) := rfl

theorem info5 : (Try.prog.info? 5).map (fun i => (i.zero, i.size, i.bytes)) = some (some (.int .u8 0), 1, 1) := by kernel_rfl
theorem info24 : (Try.prog.info? 24).map (fun i => (i.zero, i.size, i.bytes)) = some (some (.slice none 0 0), 1, 24) := by kernel_rfl
-- the values' own types
def rd_L1 (xs : List (List Int)) (i : Int) : (List Int) := xs.getD i.toNat ([] : List Int)
theorem at_L1 {w : World} {A : Option Addr} {n : Nat} {xs : List (List Int)} (h : Kd.C (Kd.slice 5 (Kd.int .u8)) w A n xs) (i : Int) (h0 : 0 ≤ i) (h1 : i < n) : ∃ ad A0 c0, A = some ad ∧ w.cell? (ad.add i.toNat) = some (.slice A0 (rd_L1 xs i).length c0) ∧ (rd_L1 xs i).length ≤ c0 ∧ (Kd.int .u8).C w A0 (rd_L1 xs i).length (rd_L1 xs i) := by
  obtain ⟨ad, c, e, _, hK, hc0⟩ := Kd.C_get h ([] : List Int) i h0 h1
  have hc : ∀ j u, c[j]? = some u → w.cell? (ad.add (i.toNat * 1 + j)) = some u := hc0
  obtain ⟨A0, c0, rfl, l0, g0⟩ := hK
  exact ⟨ad, A0, c0, e, by have hq := hc 0 _ rfl; rwa [Nat.mul_one, Nat.add_zero] at hq, l0, g0⟩

def rd_L3 (xs : List (List (List Int))) (i : Int) : (List (List Int)) := xs.getD i.toNat ([] : List (List Int))
theorem at_L3 {w : World} {A : Option Addr} {n : Nat} {xs : List (List (List Int))} (h : Kd.C (Kd.slice 24 (Kd.slice 5 (Kd.int .u8))) w A n xs) (i : Int) (h0 : 0 ≤ i) (h1 : i < n) : ∃ ad A0 c0, A = some ad ∧ w.cell? (ad.add i.toNat) = some (.slice A0 (rd_L3 xs i).length c0) ∧ (rd_L3 xs i).length ≤ c0 ∧ (Kd.slice 5 (Kd.int .u8)).C w A0 (rd_L3 xs i).length (rd_L3 xs i) := by
  obtain ⟨ad, c, e, _, hK, hc0⟩ := Kd.C_get h ([] : List (List Int)) i h0 h1
  have hc : ∀ j u, c[j]? = some u → w.cell? (ad.add (i.toNat * 1 + j)) = some u := hc0
  obtain ⟨A0, c0, rfl, l0, g0⟩ := hK
  exact ⟨ad, A0, c0, e, by have hq := hc 0 _ rfl; rwa [Nat.mul_one, Nat.add_zero] at hq, l0, g0⟩

/-! #### struct type 41 -/
structure S41 where
  f0 : Int
  f1 : Int
  f2 : Bool
  f3 : Bool
  f4 : Int
  f5 : Int
  f6 : Int
  f7 : Int
  f8 : Int
  f9 : (List Int)
def z41 : S41 := ⟨(0 : Int), (0 : Int), false, false, (0 : Int), (0 : Int), (0 : Int), (0 : Int), (0 : Int), ([] : List Int)⟩
def k41 : Kd S41 := Kd.iso (Kd.pair (Kd.int .u8) (Kd.pair (Kd.int .u16) (Kd.pair Kd.bool (Kd.pair Kd.bool (Kd.pair (Kd.int .i64) (Kd.pair (Kd.int .u8) (Kd.pair (Kd.int .u8) (Kd.pair (Kd.int .u32) (Kd.pair (Kd.int .u32) (Kd.slice 5 (Kd.int .u8))))))))))) (fun x : S41 => (x.f0, x.f1, x.f2, x.f3, x.f4, x.f5, x.f6, x.f7, x.f8, x.f9))
theorem k41_open {w : World} {x : S41} {cs : List Value} (h : k41.K w x cs) : ∃ A9 c9, cs = [.int .u8 x.f0, .int .u16 x.f1, .bool x.f2, .bool x.f3, .int .i64 x.f4, .int .u8 x.f5, .int .u8 x.f6, .int .u32 x.f7, .int .u32 x.f8, .slice A9 x.f9.length c9] ∧ x.f9.length ≤ c9 ∧ (Kd.int .u8).C w A9 x.f9.length x.f9 := by
  obtain ⟨_, _, rfl, rfl, ⟨_, _, rfl, rfl, ⟨_, _, rfl, rfl, ⟨_, _, rfl, rfl, ⟨_, _, rfl, rfl, ⟨_, _, rfl, rfl, ⟨_, _, rfl, rfl, ⟨_, _, rfl, rfl, ⟨_, _, rfl, rfl, ⟨A9, c9, rfl, l9, g9⟩⟩⟩⟩⟩⟩⟩⟩⟩⟩ := h
  exact ⟨A9, c9, rfl, l9, g9⟩
theorem k41_openM {w : World} {base : Nat} {ok : Nat → Prop} {x : S41} {cs : List Value} (h : k41.M w base ok x cs) : ∃ v9, cs = [.int .u8 x.f0, .int .u16 x.f1, .bool x.f2, .bool x.f3, .int .i64 x.f4, .int .u8 x.f5, .int .u8 x.f6, .int .u32 x.f7, .int .u32 x.f8, v9] ∧ (Kd.int .u8).R 5 w base ok v9 x.f9 := by
  obtain ⟨_, _, rfl, rfl, ⟨_, _, rfl, rfl, ⟨_, _, rfl, rfl, ⟨_, _, rfl, rfl, ⟨_, _, rfl, rfl, ⟨_, _, rfl, rfl, ⟨_, _, rfl, rfl, ⟨_, _, rfl, rfl, ⟨_, _, rfl, rfl, ⟨v9, rfl, g9⟩⟩⟩⟩⟩⟩⟩⟩⟩⟩ := h
  exact ⟨v9, rfl, g9⟩
theorem k41_mk (w : World) (x : S41) {A9 : Option Addr} {c9 : Nat} (l9 : x.f9.length ≤ c9) (g9 : (Kd.int .u8).C w A9 x.f9.length x.f9) : k41.K w x [.int .u8 x.f0, .int .u16 x.f1, .bool x.f2, .bool x.f3, .int .i64 x.f4, .int .u8 x.f5, .int .u8 x.f6, .int .u32 x.f7, .int .u32 x.f8, .slice A9 x.f9.length c9] := ⟨[.int .u8 x.f0], [.int .u16 x.f1, .bool x.f2, .bool x.f3, .int .i64 x.f4, .int .u8 x.f5, .int .u8 x.f6, .int .u32 x.f7, .int .u32 x.f8, .slice A9 x.f9.length c9], rfl, rfl, ⟨[.int .u16 x.f1], [.bool x.f2, .bool x.f3, .int .i64 x.f4, .int .u8 x.f5, .int .u8 x.f6, .int .u32 x.f7, .int .u32 x.f8, .slice A9 x.f9.length c9], rfl, rfl, ⟨[.bool x.f2], [.bool x.f3, .int .i64 x.f4, .int .u8 x.f5, .int .u8 x.f6, .int .u32 x.f7, .int .u32 x.f8, .slice A9 x.f9.length c9], rfl, rfl, ⟨[.bool x.f3], [.int .i64 x.f4, .int .u8 x.f5, .int .u8 x.f6, .int .u32 x.f7, .int .u32 x.f8, .slice A9 x.f9.length c9], rfl, rfl, ⟨[.int .i64 x.f4], [.int .u8 x.f5, .int .u8 x.f6, .int .u32 x.f7, .int .u32 x.f8, .slice A9 x.f9.length c9], rfl, rfl, ⟨[.int .u8 x.f5], [.int .u8 x.f6, .int .u32 x.f7, .int .u32 x.f8, .slice A9 x.f9.length c9], rfl, rfl, ⟨[.int .u8 x.f6], [.int .u32 x.f7, .int .u32 x.f8, .slice A9 x.f9.length c9], rfl, rfl, ⟨[.int .u32 x.f7], [.int .u32 x.f8, .slice A9 x.f9.length c9], rfl, rfl, ⟨[.int .u32 x.f8], [.slice A9 x.f9.length c9], rfl, rfl, ⟨A9, c9, rfl, l9, g9⟩⟩⟩⟩⟩⟩⟩⟩⟩⟩
theorem k41_mkM (w : World) (base : Nat) (ok : Nat → Prop) (x : S41) {v9 : Value} (g9 : (Kd.int .u8).R 5 w base ok v9 x.f9) : k41.M w base ok x [.int .u8 x.f0, .int .u16 x.f1, .bool x.f2, .bool x.f3, .int .i64 x.f4, .int .u8 x.f5, .int .u8 x.f6, .int .u32 x.f7, .int .u32 x.f8, v9] := ⟨[.int .u8 x.f0], [.int .u16 x.f1, .bool x.f2, .bool x.f3, .int .i64 x.f4, .int .u8 x.f5, .int .u8 x.f6, .int .u32 x.f7, .int .u32 x.f8, v9], rfl, rfl, ⟨[.int .u16 x.f1], [.bool x.f2, .bool x.f3, .int .i64 x.f4, .int .u8 x.f5, .int .u8 x.f6, .int .u32 x.f7, .int .u32 x.f8, v9], rfl, rfl, ⟨[.bool x.f2], [.bool x.f3, .int .i64 x.f4, .int .u8 x.f5, .int .u8 x.f6, .int .u32 x.f7, .int .u32 x.f8, v9], rfl, rfl, ⟨[.bool x.f3], [.int .i64 x.f4, .int .u8 x.f5, .int .u8 x.f6, .int .u32 x.f7, .int .u32 x.f8, v9], rfl, rfl, ⟨[.int .i64 x.f4], [.int .u8 x.f5, .int .u8 x.f6, .int .u32 x.f7, .int .u32 x.f8, v9], rfl, rfl, ⟨[.int .u8 x.f5], [.int .u8 x.f6, .int .u32 x.f7, .int .u32 x.f8, v9], rfl, rfl, ⟨[.int .u8 x.f6], [.int .u32 x.f7, .int .u32 x.f8, v9], rfl, rfl, ⟨[.int .u32 x.f7], [.int .u32 x.f8, v9], rfl, rfl, ⟨[.int .u32 x.f8], [v9], rfl, rfl, ⟨v9, rfl, g9⟩⟩⟩⟩⟩⟩⟩⟩⟩⟩
theorem k41_openF {W : World} {ok : Nat → Prop} {x : S41} {cs : List Value} (h : Kd.FK k41 W ok x cs) : ∃ A9 c9, cs = [.int .u8 x.f0, .int .u16 x.f1, .bool x.f2, .bool x.f3, .int .i64 x.f4, .int .u8 x.f5, .int .u8 x.f6, .int .u32 x.f7, .int .u32 x.f8, .slice A9 x.f9.length c9] ∧ x.f9.length ≤ c9 ∧ Kd.F (Kd.int .u8) W ok A9 x.f9.length x.f9 := by
  obtain ⟨A9, c9, rfl, l9, _⟩ := k41_open (Kd.FK_now h)
  exact ⟨A9, c9, rfl, l9, (fun W' hW => by obtain ⟨A9_, c9_, he, l9_, g9_⟩ := k41_open (h W' hW); injection (Option.some.inj (show some (Value.slice A9 x.f9.length c9) = some (Value.slice A9_ x.f9.length c9_) from congrArg (fun l => l[9]?) he)) with ha_ _ _; rw [ha_]; exact g9_)⟩
theorem k41_mkF (W : World) (ok : Nat → Prop) (x : S41) {A9 : Option Addr} {c9 : Nat} (l9 : x.f9.length ≤ c9) (g9 : Kd.F (Kd.int .u8) W ok A9 x.f9.length x.f9) : Kd.FK k41 W ok x [.int .u8 x.f0, .int .u16 x.f1, .bool x.f2, .bool x.f3, .int .i64 x.f4, .int .u8 x.f5, .int .u8 x.f6, .int .u32 x.f7, .int .u32 x.f8, .slice A9 x.f9.length c9] := fun W2 hW => k41_mk W2 x l9 (g9 W2 hW)
def rd_T41 (xs : List S41) (i : Int) : S41 := xs.getD i.toNat z41
theorem at_T41 {w : World} {A : Option Addr} {n : Nat} {xs : List S41} (h : Kd.C k41 w A n xs) (i : Int) (h0 : 0 ≤ i) (h1 : i < n) : ∃ ad A9 c9, A = some ad ∧ w.cell? (ad.add (i.toNat * 10)) = some (.int .u8 (rd_T41 xs i).f0) ∧ w.cell? ⟨(ad.add (i.toNat * 10)).block, (ad.add (i.toNat * 10)).off + 1, none⟩ = some (.int .u16 (rd_T41 xs i).f1) ∧ w.cell? ⟨(ad.add (i.toNat * 10)).block, (ad.add (i.toNat * 10)).off + 2, none⟩ = some (.bool (rd_T41 xs i).f2) ∧ w.cell? ⟨(ad.add (i.toNat * 10)).block, (ad.add (i.toNat * 10)).off + 3, none⟩ = some (.bool (rd_T41 xs i).f3) ∧ w.cell? ⟨(ad.add (i.toNat * 10)).block, (ad.add (i.toNat * 10)).off + 4, none⟩ = some (.int .i64 (rd_T41 xs i).f4) ∧ w.cell? ⟨(ad.add (i.toNat * 10)).block, (ad.add (i.toNat * 10)).off + 5, none⟩ = some (.int .u8 (rd_T41 xs i).f5) ∧ w.cell? ⟨(ad.add (i.toNat * 10)).block, (ad.add (i.toNat * 10)).off + 6, none⟩ = some (.int .u8 (rd_T41 xs i).f6) ∧ w.cell? ⟨(ad.add (i.toNat * 10)).block, (ad.add (i.toNat * 10)).off + 7, none⟩ = some (.int .u32 (rd_T41 xs i).f7) ∧ w.cell? ⟨(ad.add (i.toNat * 10)).block, (ad.add (i.toNat * 10)).off + 8, none⟩ = some (.int .u32 (rd_T41 xs i).f8) ∧ w.cell? ⟨(ad.add (i.toNat * 10)).block, (ad.add (i.toNat * 10)).off + 9, none⟩ = some (.slice A9 (rd_T41 xs i).f9.length c9) ∧ (rd_T41 xs i).f9.length ≤ c9 ∧ (Kd.int .u8).C w A9 (rd_T41 xs i).f9.length (rd_T41 xs i).f9 := by
  obtain ⟨ad, c, e, _, hK, hc0⟩ := Kd.C_get h z41 i h0 h1
  have hc : ∀ j u, c[j]? = some u → w.cell? (ad.add (i.toNat * 10 + j)) = some u := hc0
  obtain ⟨A9, c9, rfl, l9, g9⟩ := k41_open hK
  exact ⟨ad, A9, c9, e, hc 0 _ rfl, by rw [← add_field _ _ 1 (by omega)]; exact hc 1 _ rfl, by rw [← add_field _ _ 2 (by omega)]; exact hc 2 _ rfl, by rw [← add_field _ _ 3 (by omega)]; exact hc 3 _ rfl, by rw [← add_field _ _ 4 (by omega)]; exact hc 4 _ rfl, by rw [← add_field _ _ 5 (by omega)]; exact hc 5 _ rfl, by rw [← add_field _ _ 6 (by omega)]; exact hc 6 _ rfl, by rw [← add_field _ _ 7 (by omega)]; exact hc 7 _ rfl, by rw [← add_field _ _ 8 (by omega)]; exact hc 8 _ rfl, by rw [← add_field _ _ 9 (by omega)]; exact hc 9 _ rfl, l9, g9⟩

/-! #### struct type 43 -/
structure S43 where
  f0 : S41
  f1 : (List Int)
def z43 : S43 := ⟨z41, ([] : List Int)⟩
def k43 : Kd S43 := Kd.iso (Kd.pair k41 (Kd.slice 5 (Kd.int .u8))) (fun x : S43 => (x.f0, x.f1))
theorem k43_open {w : World} {x : S43} {cs : List Value} (h : k43.K w x cs) : ∃ A9 c9 A10 c10, cs = [.int .u8 x.f0.f0, .int .u16 x.f0.f1, .bool x.f0.f2, .bool x.f0.f3, .int .i64 x.f0.f4, .int .u8 x.f0.f5, .int .u8 x.f0.f6, .int .u32 x.f0.f7, .int .u32 x.f0.f8, .slice A9 x.f0.f9.length c9, .slice A10 x.f1.length c10] ∧ x.f0.f9.length ≤ c9 ∧ (Kd.int .u8).C w A9 x.f0.f9.length x.f0.f9 ∧ x.f1.length ≤ c10 ∧ (Kd.int .u8).C w A10 x.f1.length x.f1 := by
  obtain ⟨_, _, rfl, s0, ⟨A10, c10, rfl, l10, g10⟩⟩ := h
  obtain ⟨A9, c9, rfl, l9, g9⟩ := k41_open s0
  exact ⟨A9, c9, A10, c10, rfl, l9, g9, l10, g10⟩
theorem k43_openM {w : World} {base : Nat} {ok : Nat → Prop} {x : S43} {cs : List Value} (h : k43.M w base ok x cs) : ∃ v9 v10, cs = [.int .u8 x.f0.f0, .int .u16 x.f0.f1, .bool x.f0.f2, .bool x.f0.f3, .int .i64 x.f0.f4, .int .u8 x.f0.f5, .int .u8 x.f0.f6, .int .u32 x.f0.f7, .int .u32 x.f0.f8, v9, v10] ∧ (Kd.int .u8).R 5 w base ok v9 x.f0.f9 ∧ (Kd.int .u8).R 5 w base ok v10 x.f1 := by
  obtain ⟨_, _, rfl, s0, ⟨v10, rfl, g10⟩⟩ := h
  obtain ⟨v9, rfl, g9⟩ := k41_openM s0
  exact ⟨v9, v10, rfl, g9, g10⟩
theorem k43_mk (w : World) (x : S43) {A9 : Option Addr} {c9 : Nat} (l9 : x.f0.f9.length ≤ c9) (g9 : (Kd.int .u8).C w A9 x.f0.f9.length x.f0.f9) {A10 : Option Addr} {c10 : Nat} (l10 : x.f1.length ≤ c10) (g10 : (Kd.int .u8).C w A10 x.f1.length x.f1) : k43.K w x [.int .u8 x.f0.f0, .int .u16 x.f0.f1, .bool x.f0.f2, .bool x.f0.f3, .int .i64 x.f0.f4, .int .u8 x.f0.f5, .int .u8 x.f0.f6, .int .u32 x.f0.f7, .int .u32 x.f0.f8, .slice A9 x.f0.f9.length c9, .slice A10 x.f1.length c10] := ⟨[.int .u8 x.f0.f0, .int .u16 x.f0.f1, .bool x.f0.f2, .bool x.f0.f3, .int .i64 x.f0.f4, .int .u8 x.f0.f5, .int .u8 x.f0.f6, .int .u32 x.f0.f7, .int .u32 x.f0.f8, .slice A9 x.f0.f9.length c9], [.slice A10 x.f1.length c10], rfl, (k41_mk w x.f0 l9 g9), ⟨A10, c10, rfl, l10, g10⟩⟩
theorem k43_mkM (w : World) (base : Nat) (ok : Nat → Prop) (x : S43) {v9 : Value} (g9 : (Kd.int .u8).R 5 w base ok v9 x.f0.f9) {v10 : Value} (g10 : (Kd.int .u8).R 5 w base ok v10 x.f1) : k43.M w base ok x [.int .u8 x.f0.f0, .int .u16 x.f0.f1, .bool x.f0.f2, .bool x.f0.f3, .int .i64 x.f0.f4, .int .u8 x.f0.f5, .int .u8 x.f0.f6, .int .u32 x.f0.f7, .int .u32 x.f0.f8, v9, v10] := ⟨[.int .u8 x.f0.f0, .int .u16 x.f0.f1, .bool x.f0.f2, .bool x.f0.f3, .int .i64 x.f0.f4, .int .u8 x.f0.f5, .int .u8 x.f0.f6, .int .u32 x.f0.f7, .int .u32 x.f0.f8, v9], [v10], rfl, (k41_mkM w base ok x.f0 g9), ⟨v10, rfl, g10⟩⟩
theorem k43_openF {W : World} {ok : Nat → Prop} {x : S43} {cs : List Value} (h : Kd.FK k43 W ok x cs) : ∃ A9 c9 A10 c10, cs = [.int .u8 x.f0.f0, .int .u16 x.f0.f1, .bool x.f0.f2, .bool x.f0.f3, .int .i64 x.f0.f4, .int .u8 x.f0.f5, .int .u8 x.f0.f6, .int .u32 x.f0.f7, .int .u32 x.f0.f8, .slice A9 x.f0.f9.length c9, .slice A10 x.f1.length c10] ∧ x.f0.f9.length ≤ c9 ∧ Kd.F (Kd.int .u8) W ok A9 x.f0.f9.length x.f0.f9 ∧ x.f1.length ≤ c10 ∧ Kd.F (Kd.int .u8) W ok A10 x.f1.length x.f1 := by
  obtain ⟨A9, c9, A10, c10, rfl, l9, _, l10, _⟩ := k43_open (Kd.FK_now h)
  exact ⟨A9, c9, A10, c10, rfl, l9, (fun W' hW => by obtain ⟨A9_, c9_, A10_, c10_, he, l9_, g9_, l10_, g10_⟩ := k43_open (h W' hW); injection (Option.some.inj (show some (Value.slice A9 x.f0.f9.length c9) = some (Value.slice A9_ x.f0.f9.length c9_) from congrArg (fun l => l[9]?) he)) with ha_ _ _; rw [ha_]; exact g9_), l10, (fun W' hW => by obtain ⟨A9_, c9_, A10_, c10_, he, l9_, g9_, l10_, g10_⟩ := k43_open (h W' hW); injection (Option.some.inj (show some (Value.slice A10 x.f1.length c10) = some (Value.slice A10_ x.f1.length c10_) from congrArg (fun l => l[10]?) he)) with ha_ _ _; rw [ha_]; exact g10_)⟩
theorem k43_mkF (W : World) (ok : Nat → Prop) (x : S43) {A9 : Option Addr} {c9 : Nat} (l9 : x.f0.f9.length ≤ c9) (g9 : Kd.F (Kd.int .u8) W ok A9 x.f0.f9.length x.f0.f9) {A10 : Option Addr} {c10 : Nat} (l10 : x.f1.length ≤ c10) (g10 : Kd.F (Kd.int .u8) W ok A10 x.f1.length x.f1) : Kd.FK k43 W ok x [.int .u8 x.f0.f0, .int .u16 x.f0.f1, .bool x.f0.f2, .bool x.f0.f3, .int .i64 x.f0.f4, .int .u8 x.f0.f5, .int .u8 x.f0.f6, .int .u32 x.f0.f7, .int .u32 x.f0.f8, .slice A9 x.f0.f9.length c9, .slice A10 x.f1.length c10] := fun W2 hW => k43_mk W2 x l9 (g9 W2 hW) l10 (g10 W2 hW)
def rd_T43 (xs : List S43) (i : Int) : S43 := xs.getD i.toNat z43
theorem at_T43 {w : World} {A : Option Addr} {n : Nat} {xs : List S43} (h : Kd.C k43 w A n xs) (i : Int) (h0 : 0 ≤ i) (h1 : i < n) : ∃ ad A9 c9 A10 c10, A = some ad ∧ w.cell? (ad.add (i.toNat * 11)) = some (.int .u8 (rd_T43 xs i).f0.f0) ∧ w.cell? ⟨(ad.add (i.toNat * 11)).block, (ad.add (i.toNat * 11)).off + 1, none⟩ = some (.int .u16 (rd_T43 xs i).f0.f1) ∧ w.cell? ⟨(ad.add (i.toNat * 11)).block, (ad.add (i.toNat * 11)).off + 2, none⟩ = some (.bool (rd_T43 xs i).f0.f2) ∧ w.cell? ⟨(ad.add (i.toNat * 11)).block, (ad.add (i.toNat * 11)).off + 3, none⟩ = some (.bool (rd_T43 xs i).f0.f3) ∧ w.cell? ⟨(ad.add (i.toNat * 11)).block, (ad.add (i.toNat * 11)).off + 4, none⟩ = some (.int .i64 (rd_T43 xs i).f0.f4) ∧ w.cell? ⟨(ad.add (i.toNat * 11)).block, (ad.add (i.toNat * 11)).off + 5, none⟩ = some (.int .u8 (rd_T43 xs i).f0.f5) ∧ w.cell? ⟨(ad.add (i.toNat * 11)).block, (ad.add (i.toNat * 11)).off + 6, none⟩ = some (.int .u8 (rd_T43 xs i).f0.f6) ∧ w.cell? ⟨(ad.add (i.toNat * 11)).block, (ad.add (i.toNat * 11)).off + 7, none⟩ = some (.int .u32 (rd_T43 xs i).f0.f7) ∧ w.cell? ⟨(ad.add (i.toNat * 11)).block, (ad.add (i.toNat * 11)).off + 8, none⟩ = some (.int .u32 (rd_T43 xs i).f0.f8) ∧ w.cell? ⟨(ad.add (i.toNat * 11)).block, (ad.add (i.toNat * 11)).off + 9, none⟩ = some (.slice A9 (rd_T43 xs i).f0.f9.length c9) ∧ w.cell? ⟨(ad.add (i.toNat * 11)).block, (ad.add (i.toNat * 11)).off + 10, none⟩ = some (.slice A10 (rd_T43 xs i).f1.length c10) ∧ (rd_T43 xs i).f0.f9.length ≤ c9 ∧ (Kd.int .u8).C w A9 (rd_T43 xs i).f0.f9.length (rd_T43 xs i).f0.f9 ∧ (rd_T43 xs i).f1.length ≤ c10 ∧ (Kd.int .u8).C w A10 (rd_T43 xs i).f1.length (rd_T43 xs i).f1 := by
  obtain ⟨ad, c, e, _, hK, hc0⟩ := Kd.C_get h z43 i h0 h1
  have hc : ∀ j u, c[j]? = some u → w.cell? (ad.add (i.toNat * 11 + j)) = some u := hc0
  obtain ⟨A9, c9, A10, c10, rfl, l9, g9, l10, g10⟩ := k43_open hK
  exact ⟨ad, A9, c9, A10, c10, e, hc 0 _ rfl, by rw [← add_field _ _ 1 (by omega)]; exact hc 1 _ rfl, by rw [← add_field _ _ 2 (by omega)]; exact hc 2 _ rfl, by rw [← add_field _ _ 3 (by omega)]; exact hc 3 _ rfl, by rw [← add_field _ _ 4 (by omega)]; exact hc 4 _ rfl, by rw [← add_field _ _ 5 (by omega)]; exact hc 5 _ rfl, by rw [← add_field _ _ 6 (by omega)]; exact hc 6 _ rfl, by rw [← add_field _ _ 7 (by omega)]; exact hc 7 _ rfl, by rw [← add_field _ _ 8 (by omega)]; exact hc 8 _ rfl, by rw [← add_field _ _ 9 (by omega)]; exact hc 9 _ rfl, by rw [← add_field _ _ 10 (by omega)]; exact hc 10 _ rfl, l9, g9, l10, g10⟩

/-! #### struct type 57 -/
structure S57 where
  f0 : Int
  f1 : (List Int)
  f2 : (List (List Int))
  f3 : Int
  f4 : Int
  f5 : Int
  f6 : S43
def z57 : S57 := ⟨(0 : Int), ([] : List Int), ([] : List (List Int)), (0 : Int), (0 : Int), (0 : Int), z43⟩
def k57 : Kd S57 := Kd.iso (Kd.pair (Kd.int .i64) (Kd.pair (Kd.slice 5 (Kd.int .u8)) (Kd.pair (Kd.slice 24 (Kd.slice 5 (Kd.int .u8))) (Kd.pair (Kd.int .u16) (Kd.pair (Kd.int .u16) (Kd.pair (Kd.int .u16) k43)))))) (fun x : S57 => (x.f0, x.f1, x.f2, x.f3, x.f4, x.f5, x.f6))
theorem k57_open {w : World} {x : S57} {cs : List Value} (h : k57.K w x cs) : ∃ A1 c1 A2 c2 A15 c15 A16 c16, cs = [.int .i64 x.f0, .slice A1 x.f1.length c1, .slice A2 x.f2.length c2, .int .u16 x.f3, .int .u16 x.f4, .int .u16 x.f5, .int .u8 x.f6.f0.f0, .int .u16 x.f6.f0.f1, .bool x.f6.f0.f2, .bool x.f6.f0.f3, .int .i64 x.f6.f0.f4, .int .u8 x.f6.f0.f5, .int .u8 x.f6.f0.f6, .int .u32 x.f6.f0.f7, .int .u32 x.f6.f0.f8, .slice A15 x.f6.f0.f9.length c15, .slice A16 x.f6.f1.length c16] ∧ x.f1.length ≤ c1 ∧ (Kd.int .u8).C w A1 x.f1.length x.f1 ∧ x.f2.length ≤ c2 ∧ (Kd.slice 5 (Kd.int .u8)).C w A2 x.f2.length x.f2 ∧ x.f6.f0.f9.length ≤ c15 ∧ (Kd.int .u8).C w A15 x.f6.f0.f9.length x.f6.f0.f9 ∧ x.f6.f1.length ≤ c16 ∧ (Kd.int .u8).C w A16 x.f6.f1.length x.f6.f1 := by
  obtain ⟨_, _, rfl, rfl, ⟨_, _, rfl, ⟨A1, c1, rfl, l1, g1⟩, ⟨_, _, rfl, ⟨A2, c2, rfl, l2, g2⟩, ⟨_, _, rfl, rfl, ⟨_, _, rfl, rfl, ⟨_, _, rfl, rfl, s6⟩⟩⟩⟩⟩⟩ := h
  obtain ⟨A15, c15, A16, c16, rfl, l15, g15, l16, g16⟩ := k43_open s6
  exact ⟨A1, c1, A2, c2, A15, c15, A16, c16, rfl, l1, g1, l2, g2, l15, g15, l16, g16⟩
theorem k57_openM {w : World} {base : Nat} {ok : Nat → Prop} {x : S57} {cs : List Value} (h : k57.M w base ok x cs) : ∃ v1 v2 v15 v16, cs = [.int .i64 x.f0, v1, v2, .int .u16 x.f3, .int .u16 x.f4, .int .u16 x.f5, .int .u8 x.f6.f0.f0, .int .u16 x.f6.f0.f1, .bool x.f6.f0.f2, .bool x.f6.f0.f3, .int .i64 x.f6.f0.f4, .int .u8 x.f6.f0.f5, .int .u8 x.f6.f0.f6, .int .u32 x.f6.f0.f7, .int .u32 x.f6.f0.f8, v15, v16] ∧ (Kd.int .u8).R 5 w base ok v1 x.f1 ∧ (Kd.slice 5 (Kd.int .u8)).R 24 w base ok v2 x.f2 ∧ (Kd.int .u8).R 5 w base ok v15 x.f6.f0.f9 ∧ (Kd.int .u8).R 5 w base ok v16 x.f6.f1 := by
  obtain ⟨_, _, rfl, rfl, ⟨_, _, rfl, ⟨v1, rfl, g1⟩, ⟨_, _, rfl, ⟨v2, rfl, g2⟩, ⟨_, _, rfl, rfl, ⟨_, _, rfl, rfl, ⟨_, _, rfl, rfl, s6⟩⟩⟩⟩⟩⟩ := h
  obtain ⟨v15, v16, rfl, g15, g16⟩ := k43_openM s6
  exact ⟨v1, v2, v15, v16, rfl, g1, g2, g15, g16⟩
theorem k57_mk (w : World) (x : S57) {A1 : Option Addr} {c1 : Nat} (l1 : x.f1.length ≤ c1) (g1 : (Kd.int .u8).C w A1 x.f1.length x.f1) {A2 : Option Addr} {c2 : Nat} (l2 : x.f2.length ≤ c2) (g2 : (Kd.slice 5 (Kd.int .u8)).C w A2 x.f2.length x.f2) {A15 : Option Addr} {c15 : Nat} (l15 : x.f6.f0.f9.length ≤ c15) (g15 : (Kd.int .u8).C w A15 x.f6.f0.f9.length x.f6.f0.f9) {A16 : Option Addr} {c16 : Nat} (l16 : x.f6.f1.length ≤ c16) (g16 : (Kd.int .u8).C w A16 x.f6.f1.length x.f6.f1) : k57.K w x [.int .i64 x.f0, .slice A1 x.f1.length c1, .slice A2 x.f2.length c2, .int .u16 x.f3, .int .u16 x.f4, .int .u16 x.f5, .int .u8 x.f6.f0.f0, .int .u16 x.f6.f0.f1, .bool x.f6.f0.f2, .bool x.f6.f0.f3, .int .i64 x.f6.f0.f4, .int .u8 x.f6.f0.f5, .int .u8 x.f6.f0.f6, .int .u32 x.f6.f0.f7, .int .u32 x.f6.f0.f8, .slice A15 x.f6.f0.f9.length c15, .slice A16 x.f6.f1.length c16] := ⟨[.int .i64 x.f0], [.slice A1 x.f1.length c1, .slice A2 x.f2.length c2, .int .u16 x.f3, .int .u16 x.f4, .int .u16 x.f5, .int .u8 x.f6.f0.f0, .int .u16 x.f6.f0.f1, .bool x.f6.f0.f2, .bool x.f6.f0.f3, .int .i64 x.f6.f0.f4, .int .u8 x.f6.f0.f5, .int .u8 x.f6.f0.f6, .int .u32 x.f6.f0.f7, .int .u32 x.f6.f0.f8, .slice A15 x.f6.f0.f9.length c15, .slice A16 x.f6.f1.length c16], rfl, rfl, ⟨[.slice A1 x.f1.length c1], [.slice A2 x.f2.length c2, .int .u16 x.f3, .int .u16 x.f4, .int .u16 x.f5, .int .u8 x.f6.f0.f0, .int .u16 x.f6.f0.f1, .bool x.f6.f0.f2, .bool x.f6.f0.f3, .int .i64 x.f6.f0.f4, .int .u8 x.f6.f0.f5, .int .u8 x.f6.f0.f6, .int .u32 x.f6.f0.f7, .int .u32 x.f6.f0.f8, .slice A15 x.f6.f0.f9.length c15, .slice A16 x.f6.f1.length c16], rfl, ⟨A1, c1, rfl, l1, g1⟩, ⟨[.slice A2 x.f2.length c2], [.int .u16 x.f3, .int .u16 x.f4, .int .u16 x.f5, .int .u8 x.f6.f0.f0, .int .u16 x.f6.f0.f1, .bool x.f6.f0.f2, .bool x.f6.f0.f3, .int .i64 x.f6.f0.f4, .int .u8 x.f6.f0.f5, .int .u8 x.f6.f0.f6, .int .u32 x.f6.f0.f7, .int .u32 x.f6.f0.f8, .slice A15 x.f6.f0.f9.length c15, .slice A16 x.f6.f1.length c16], rfl, ⟨A2, c2, rfl, l2, g2⟩, ⟨[.int .u16 x.f3], [.int .u16 x.f4, .int .u16 x.f5, .int .u8 x.f6.f0.f0, .int .u16 x.f6.f0.f1, .bool x.f6.f0.f2, .bool x.f6.f0.f3, .int .i64 x.f6.f0.f4, .int .u8 x.f6.f0.f5, .int .u8 x.f6.f0.f6, .int .u32 x.f6.f0.f7, .int .u32 x.f6.f0.f8, .slice A15 x.f6.f0.f9.length c15, .slice A16 x.f6.f1.length c16], rfl, rfl, ⟨[.int .u16 x.f4], [.int .u16 x.f5, .int .u8 x.f6.f0.f0, .int .u16 x.f6.f0.f1, .bool x.f6.f0.f2, .bool x.f6.f0.f3, .int .i64 x.f6.f0.f4, .int .u8 x.f6.f0.f5, .int .u8 x.f6.f0.f6, .int .u32 x.f6.f0.f7, .int .u32 x.f6.f0.f8, .slice A15 x.f6.f0.f9.length c15, .slice A16 x.f6.f1.length c16], rfl, rfl, ⟨[.int .u16 x.f5], [.int .u8 x.f6.f0.f0, .int .u16 x.f6.f0.f1, .bool x.f6.f0.f2, .bool x.f6.f0.f3, .int .i64 x.f6.f0.f4, .int .u8 x.f6.f0.f5, .int .u8 x.f6.f0.f6, .int .u32 x.f6.f0.f7, .int .u32 x.f6.f0.f8, .slice A15 x.f6.f0.f9.length c15, .slice A16 x.f6.f1.length c16], rfl, rfl, (k43_mk w x.f6 l15 g15 l16 g16)⟩⟩⟩⟩⟩⟩
theorem k57_mkM (w : World) (base : Nat) (ok : Nat → Prop) (x : S57) {v1 : Value} (g1 : (Kd.int .u8).R 5 w base ok v1 x.f1) {v2 : Value} (g2 : (Kd.slice 5 (Kd.int .u8)).R 24 w base ok v2 x.f2) {v15 : Value} (g15 : (Kd.int .u8).R 5 w base ok v15 x.f6.f0.f9) {v16 : Value} (g16 : (Kd.int .u8).R 5 w base ok v16 x.f6.f1) : k57.M w base ok x [.int .i64 x.f0, v1, v2, .int .u16 x.f3, .int .u16 x.f4, .int .u16 x.f5, .int .u8 x.f6.f0.f0, .int .u16 x.f6.f0.f1, .bool x.f6.f0.f2, .bool x.f6.f0.f3, .int .i64 x.f6.f0.f4, .int .u8 x.f6.f0.f5, .int .u8 x.f6.f0.f6, .int .u32 x.f6.f0.f7, .int .u32 x.f6.f0.f8, v15, v16] := ⟨[.int .i64 x.f0], [v1, v2, .int .u16 x.f3, .int .u16 x.f4, .int .u16 x.f5, .int .u8 x.f6.f0.f0, .int .u16 x.f6.f0.f1, .bool x.f6.f0.f2, .bool x.f6.f0.f3, .int .i64 x.f6.f0.f4, .int .u8 x.f6.f0.f5, .int .u8 x.f6.f0.f6, .int .u32 x.f6.f0.f7, .int .u32 x.f6.f0.f8, v15, v16], rfl, rfl, ⟨[v1], [v2, .int .u16 x.f3, .int .u16 x.f4, .int .u16 x.f5, .int .u8 x.f6.f0.f0, .int .u16 x.f6.f0.f1, .bool x.f6.f0.f2, .bool x.f6.f0.f3, .int .i64 x.f6.f0.f4, .int .u8 x.f6.f0.f5, .int .u8 x.f6.f0.f6, .int .u32 x.f6.f0.f7, .int .u32 x.f6.f0.f8, v15, v16], rfl, ⟨v1, rfl, g1⟩, ⟨[v2], [.int .u16 x.f3, .int .u16 x.f4, .int .u16 x.f5, .int .u8 x.f6.f0.f0, .int .u16 x.f6.f0.f1, .bool x.f6.f0.f2, .bool x.f6.f0.f3, .int .i64 x.f6.f0.f4, .int .u8 x.f6.f0.f5, .int .u8 x.f6.f0.f6, .int .u32 x.f6.f0.f7, .int .u32 x.f6.f0.f8, v15, v16], rfl, ⟨v2, rfl, g2⟩, ⟨[.int .u16 x.f3], [.int .u16 x.f4, .int .u16 x.f5, .int .u8 x.f6.f0.f0, .int .u16 x.f6.f0.f1, .bool x.f6.f0.f2, .bool x.f6.f0.f3, .int .i64 x.f6.f0.f4, .int .u8 x.f6.f0.f5, .int .u8 x.f6.f0.f6, .int .u32 x.f6.f0.f7, .int .u32 x.f6.f0.f8, v15, v16], rfl, rfl, ⟨[.int .u16 x.f4], [.int .u16 x.f5, .int .u8 x.f6.f0.f0, .int .u16 x.f6.f0.f1, .bool x.f6.f0.f2, .bool x.f6.f0.f3, .int .i64 x.f6.f0.f4, .int .u8 x.f6.f0.f5, .int .u8 x.f6.f0.f6, .int .u32 x.f6.f0.f7, .int .u32 x.f6.f0.f8, v15, v16], rfl, rfl, ⟨[.int .u16 x.f5], [.int .u8 x.f6.f0.f0, .int .u16 x.f6.f0.f1, .bool x.f6.f0.f2, .bool x.f6.f0.f3, .int .i64 x.f6.f0.f4, .int .u8 x.f6.f0.f5, .int .u8 x.f6.f0.f6, .int .u32 x.f6.f0.f7, .int .u32 x.f6.f0.f8, v15, v16], rfl, rfl, (k43_mkM w base ok x.f6 g15 g16)⟩⟩⟩⟩⟩⟩
theorem k57_openF {W : World} {ok : Nat → Prop} {x : S57} {cs : List Value} (h : Kd.FK k57 W ok x cs) : ∃ A1 c1 A2 c2 A15 c15 A16 c16, cs = [.int .i64 x.f0, .slice A1 x.f1.length c1, .slice A2 x.f2.length c2, .int .u16 x.f3, .int .u16 x.f4, .int .u16 x.f5, .int .u8 x.f6.f0.f0, .int .u16 x.f6.f0.f1, .bool x.f6.f0.f2, .bool x.f6.f0.f3, .int .i64 x.f6.f0.f4, .int .u8 x.f6.f0.f5, .int .u8 x.f6.f0.f6, .int .u32 x.f6.f0.f7, .int .u32 x.f6.f0.f8, .slice A15 x.f6.f0.f9.length c15, .slice A16 x.f6.f1.length c16] ∧ x.f1.length ≤ c1 ∧ Kd.F (Kd.int .u8) W ok A1 x.f1.length x.f1 ∧ x.f2.length ≤ c2 ∧ Kd.F (Kd.slice 5 (Kd.int .u8)) W ok A2 x.f2.length x.f2 ∧ x.f6.f0.f9.length ≤ c15 ∧ Kd.F (Kd.int .u8) W ok A15 x.f6.f0.f9.length x.f6.f0.f9 ∧ x.f6.f1.length ≤ c16 ∧ Kd.F (Kd.int .u8) W ok A16 x.f6.f1.length x.f6.f1 := by
  obtain ⟨A1, c1, A2, c2, A15, c15, A16, c16, rfl, l1, _, l2, _, l15, _, l16, _⟩ := k57_open (Kd.FK_now h)
  exact ⟨A1, c1, A2, c2, A15, c15, A16, c16, rfl, l1, (fun W' hW => by obtain ⟨A1_, c1_, A2_, c2_, A15_, c15_, A16_, c16_, he, l1_, g1_, l2_, g2_, l15_, g15_, l16_, g16_⟩ := k57_open (h W' hW); injection (Option.some.inj (show some (Value.slice A1 x.f1.length c1) = some (Value.slice A1_ x.f1.length c1_) from congrArg (fun l => l[1]?) he)) with ha_ _ _; rw [ha_]; exact g1_), l2, (fun W' hW => by obtain ⟨A1_, c1_, A2_, c2_, A15_, c15_, A16_, c16_, he, l1_, g1_, l2_, g2_, l15_, g15_, l16_, g16_⟩ := k57_open (h W' hW); injection (Option.some.inj (show some (Value.slice A2 x.f2.length c2) = some (Value.slice A2_ x.f2.length c2_) from congrArg (fun l => l[2]?) he)) with ha_ _ _; rw [ha_]; exact g2_), l15, (fun W' hW => by obtain ⟨A1_, c1_, A2_, c2_, A15_, c15_, A16_, c16_, he, l1_, g1_, l2_, g2_, l15_, g15_, l16_, g16_⟩ := k57_open (h W' hW); injection (Option.some.inj (show some (Value.slice A15 x.f6.f0.f9.length c15) = some (Value.slice A15_ x.f6.f0.f9.length c15_) from congrArg (fun l => l[15]?) he)) with ha_ _ _; rw [ha_]; exact g15_), l16, (fun W' hW => by obtain ⟨A1_, c1_, A2_, c2_, A15_, c15_, A16_, c16_, he, l1_, g1_, l2_, g2_, l15_, g15_, l16_, g16_⟩ := k57_open (h W' hW); injection (Option.some.inj (show some (Value.slice A16 x.f6.f1.length c16) = some (Value.slice A16_ x.f6.f1.length c16_) from congrArg (fun l => l[16]?) he)) with ha_ _ _; rw [ha_]; exact g16_)⟩
theorem k57_mkF (W : World) (ok : Nat → Prop) (x : S57) {A1 : Option Addr} {c1 : Nat} (l1 : x.f1.length ≤ c1) (g1 : Kd.F (Kd.int .u8) W ok A1 x.f1.length x.f1) {A2 : Option Addr} {c2 : Nat} (l2 : x.f2.length ≤ c2) (g2 : Kd.F (Kd.slice 5 (Kd.int .u8)) W ok A2 x.f2.length x.f2) {A15 : Option Addr} {c15 : Nat} (l15 : x.f6.f0.f9.length ≤ c15) (g15 : Kd.F (Kd.int .u8) W ok A15 x.f6.f0.f9.length x.f6.f0.f9) {A16 : Option Addr} {c16 : Nat} (l16 : x.f6.f1.length ≤ c16) (g16 : Kd.F (Kd.int .u8) W ok A16 x.f6.f1.length x.f6.f1) : Kd.FK k57 W ok x [.int .i64 x.f0, .slice A1 x.f1.length c1, .slice A2 x.f2.length c2, .int .u16 x.f3, .int .u16 x.f4, .int .u16 x.f5, .int .u8 x.f6.f0.f0, .int .u16 x.f6.f0.f1, .bool x.f6.f0.f2, .bool x.f6.f0.f3, .int .i64 x.f6.f0.f4, .int .u8 x.f6.f0.f5, .int .u8 x.f6.f0.f6, .int .u32 x.f6.f0.f7, .int .u32 x.f6.f0.f8, .slice A15 x.f6.f0.f9.length c15, .slice A16 x.f6.f1.length c16] := fun W2 hW => k57_mk W2 x l1 (g1 W2 hW) l2 (g2 W2 hW) l15 (g15 W2 hW) l16 (g16 W2 hW)
def rd_T57 (xs : List S57) (i : Int) : S57 := xs.getD i.toNat z57
theorem at_T57 {w : World} {A : Option Addr} {n : Nat} {xs : List S57} (h : Kd.C k57 w A n xs) (i : Int) (h0 : 0 ≤ i) (h1 : i < n) : ∃ ad A1 c1 A2 c2 A15 c15 A16 c16, A = some ad ∧ w.cell? (ad.add (i.toNat * 17)) = some (.int .i64 (rd_T57 xs i).f0) ∧ w.cell? ⟨(ad.add (i.toNat * 17)).block, (ad.add (i.toNat * 17)).off + 1, none⟩ = some (.slice A1 (rd_T57 xs i).f1.length c1) ∧ w.cell? ⟨(ad.add (i.toNat * 17)).block, (ad.add (i.toNat * 17)).off + 2, none⟩ = some (.slice A2 (rd_T57 xs i).f2.length c2) ∧ w.cell? ⟨(ad.add (i.toNat * 17)).block, (ad.add (i.toNat * 17)).off + 3, none⟩ = some (.int .u16 (rd_T57 xs i).f3) ∧ w.cell? ⟨(ad.add (i.toNat * 17)).block, (ad.add (i.toNat * 17)).off + 4, none⟩ = some (.int .u16 (rd_T57 xs i).f4) ∧ w.cell? ⟨(ad.add (i.toNat * 17)).block, (ad.add (i.toNat * 17)).off + 5, none⟩ = some (.int .u16 (rd_T57 xs i).f5) ∧ w.cell? ⟨(ad.add (i.toNat * 17)).block, (ad.add (i.toNat * 17)).off + 6, none⟩ = some (.int .u8 (rd_T57 xs i).f6.f0.f0) ∧ w.cell? ⟨(ad.add (i.toNat * 17)).block, (ad.add (i.toNat * 17)).off + 7, none⟩ = some (.int .u16 (rd_T57 xs i).f6.f0.f1) ∧ w.cell? ⟨(ad.add (i.toNat * 17)).block, (ad.add (i.toNat * 17)).off + 8, none⟩ = some (.bool (rd_T57 xs i).f6.f0.f2) ∧ w.cell? ⟨(ad.add (i.toNat * 17)).block, (ad.add (i.toNat * 17)).off + 9, none⟩ = some (.bool (rd_T57 xs i).f6.f0.f3) ∧ w.cell? ⟨(ad.add (i.toNat * 17)).block, (ad.add (i.toNat * 17)).off + 10, none⟩ = some (.int .i64 (rd_T57 xs i).f6.f0.f4) ∧ w.cell? ⟨(ad.add (i.toNat * 17)).block, (ad.add (i.toNat * 17)).off + 11, none⟩ = some (.int .u8 (rd_T57 xs i).f6.f0.f5) ∧ w.cell? ⟨(ad.add (i.toNat * 17)).block, (ad.add (i.toNat * 17)).off + 12, none⟩ = some (.int .u8 (rd_T57 xs i).f6.f0.f6) ∧ w.cell? ⟨(ad.add (i.toNat * 17)).block, (ad.add (i.toNat * 17)).off + 13, none⟩ = some (.int .u32 (rd_T57 xs i).f6.f0.f7) ∧ w.cell? ⟨(ad.add (i.toNat * 17)).block, (ad.add (i.toNat * 17)).off + 14, none⟩ = some (.int .u32 (rd_T57 xs i).f6.f0.f8) ∧ w.cell? ⟨(ad.add (i.toNat * 17)).block, (ad.add (i.toNat * 17)).off + 15, none⟩ = some (.slice A15 (rd_T57 xs i).f6.f0.f9.length c15) ∧ w.cell? ⟨(ad.add (i.toNat * 17)).block, (ad.add (i.toNat * 17)).off + 16, none⟩ = some (.slice A16 (rd_T57 xs i).f6.f1.length c16) ∧ (rd_T57 xs i).f1.length ≤ c1 ∧ (Kd.int .u8).C w A1 (rd_T57 xs i).f1.length (rd_T57 xs i).f1 ∧ (rd_T57 xs i).f2.length ≤ c2 ∧ (Kd.slice 5 (Kd.int .u8)).C w A2 (rd_T57 xs i).f2.length (rd_T57 xs i).f2 ∧ (rd_T57 xs i).f6.f0.f9.length ≤ c15 ∧ (Kd.int .u8).C w A15 (rd_T57 xs i).f6.f0.f9.length (rd_T57 xs i).f6.f0.f9 ∧ (rd_T57 xs i).f6.f1.length ≤ c16 ∧ (Kd.int .u8).C w A16 (rd_T57 xs i).f6.f1.length (rd_T57 xs i).f6.f1 := by
  obtain ⟨ad, c, e, _, hK, hc0⟩ := Kd.C_get h z57 i h0 h1
  have hc : ∀ j u, c[j]? = some u → w.cell? (ad.add (i.toNat * 17 + j)) = some u := hc0
  obtain ⟨A1, c1, A2, c2, A15, c15, A16, c16, rfl, l1, g1, l2, g2, l15, g15, l16, g16⟩ := k57_open hK
  exact ⟨ad, A1, c1, A2, c2, A15, c15, A16, c16, e, hc 0 _ rfl, by rw [← add_field _ _ 1 (by omega)]; exact hc 1 _ rfl, by rw [← add_field _ _ 2 (by omega)]; exact hc 2 _ rfl, by rw [← add_field _ _ 3 (by omega)]; exact hc 3 _ rfl, by rw [← add_field _ _ 4 (by omega)]; exact hc 4 _ rfl, by rw [← add_field _ _ 5 (by omega)]; exact hc 5 _ rfl, by rw [← add_field _ _ 6 (by omega)]; exact hc 6 _ rfl, by rw [← add_field _ _ 7 (by omega)]; exact hc 7 _ rfl, by rw [← add_field _ _ 8 (by omega)]; exact hc 8 _ rfl, by rw [← add_field _ _ 9 (by omega)]; exact hc 9 _ rfl, by rw [← add_field _ _ 10 (by omega)]; exact hc 10 _ rfl, by rw [← add_field _ _ 11 (by omega)]; exact hc 11 _ rfl, by rw [← add_field _ _ 12 (by omega)]; exact hc 12 _ rfl, by rw [← add_field _ _ 13 (by omega)]; exact hc 13 _ rfl, by rw [← add_field _ _ 14 (by omega)]; exact hc 14 _ rfl, by rw [← add_field _ _ 15 (by omega)]; exact hc 15 _ rfl, by rw [← add_field _ _ 16 (by omega)]; exact hc 16 _ rfl, l1, g1, l2, g2, l15, g15, l16, g16⟩

end Go.Proofs.Ytbacmhegalncjaa.XB
