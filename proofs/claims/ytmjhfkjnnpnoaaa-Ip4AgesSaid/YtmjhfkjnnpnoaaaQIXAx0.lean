-- printed by a program of this session (wip/xprint), out of the translation; Lean checks it
import Derived.Test.YtmjhfkjnnpnoaaaProg
import Derived.Below
import Derived.Deep.Draws
import Derived.Deep.AppendLies
import Derived.Maps.AppendAt
import Derived.OwnWalk
import Derived.Laws.BytesArg
import Derived.Laws.MakeOwn
import Derived.Laws.OwnMore
import Derived.Deep.OwnRows
import Derived.Tactics
import Derived.Lib.ConvBytes
import Derived.Laws.Slices
import Derived.WalkKit
import Derived.KernelRfl
import Derived.RowKit3
import Derived.Deep.LoopGhost
import Derived.Deep.QuietTactic
import Derived.BigQuiet
import Derived.WideLaws
import Derived.Deep.DeepCutAuto
import Derived.Deep.CutBlock
import Derived.Deep.RegionHeld3
import Derived.Laws.Rows
import Derived.Lib.AppendStr
import Derived.ArgAppend
import Derived.Laws.IdiomCopy
import Derived.OrdersHeld
import Derived.Laws.BitsLemmas
import Derived.RowKit
import Derived.Test.YtmjhfkjnnpnoaaaQIWWords
import Derived.Test.YtmjhfkjnnpnoaaaQIWLast
import Derived.Test.YtmjhfkjnnpnoaaaQIWTab
import Derived.Test.YtmjhfkjnnpnoaaaQIWApart
import Derived.Test.YtmjhfkjnnpnoaaaQIWFoot
import Derived.Test.YtmjhfkjnnpnoaaaQIWKept
import Derived.Test.YtmjhfkjnnpnoaaaQIWShare
import Derived.Test.YtmjhfkjnnpnoaaaQIWN
import Derived.Laws.StructEq
import Derived.Test.YtmjhfkjnnpnoaaaQIWRepsOne
import Derived.Test.YtmjhfkjnnpnoaaaQIWGuard
import Derived.Test.YtmjhfkjnnpnoaaaQIWMore
import Derived.Test.YtmjhfkjnnpnoaaaQIXWords
namespace Go.Proofs.Ytmjhfkjnnpnoaaa.XA
open Go.RowKit Go.Proofs.YtmjhfkjnnpnoaaaW.PrintWords Go.Proofs.YtmjhfkjnnpnoaaaW.PrintLast Go.Proofs.YtmjhfkjnnpnoaaaW.PrintMore Go.Proofs.YtmjhfkjnnpnoaaaX
attribute [local go_sem] max2_int min2_int max_two min_two max_three min_three max_four min_four   -- for this text's walks alone
set_option linter.unusedVariables false
set_option linter.unusedSimpArgs false

def errW : Option Int → Value
  | none => .nilIface
  | some c => .iface 0 (.int .i64 c)
theorem errW_none : errW none = .nilIface := rfl
theorem errW_some (c : Int) : errW (some c) = .iface 0 (.int .i64 c) := rfl

theorem info5 : (Try.prog.info? 5).map (fun i => (i.zero, i.size, i.bytes)) = some (some (.int .u8 0), 1, 1) := by kernel_rfl
-- the values' own types
def rd_L1 (xs : List (List Int)) (i : Int) : (List Int) := xs.getD i.toNat ([] : List Int)
theorem at_L1 {w : World} {A : Option Addr} {n : Nat} {xs : List (List Int)} (h : Kd.C (Kd.slice 5 (Kd.int .u8)) w A n xs) (i : Int) (h0 : 0 ≤ i) (h1 : i < n) : ∃ ad A0 c0, A = some ad ∧ w.cell? (ad.add i.toNat) = some (.slice A0 (rd_L1 xs i).length c0) ∧ (rd_L1 xs i).length ≤ c0 ∧ (Kd.int .u8).C w A0 (rd_L1 xs i).length (rd_L1 xs i) := by
  obtain ⟨ad, c, e, _, hK, hc0⟩ := Kd.C_get h ([] : List Int) i h0 h1
  have hc : ∀ j u, c[j]? = some u → w.cell? (ad.add (i.toNat * 1 + j)) = some u := hc0
  obtain ⟨A0, c0, rfl, l0, g0⟩ := hK
  exact ⟨ad, A0, c0, e, by have hq := hc 0 _ rfl; rwa [Nat.mul_one, Nat.add_zero] at hq, l0, g0⟩

/-! #### struct type 25 -/
structure S25 where
  f0 : Int
  f1 : Int
  f2 : Int
  f3 : (List Int)
/-! #### struct type 31 -/
structure S31 where
  f0 : Int
  f1 : Int
  f2 : Bool
  f3 : Bool
  f4 : Int
  f5 : Int
  f6 : Int
  f7 : Int
  f8 : Int
  f9 : (List Int)
def z31 : S31 := ⟨(0 : Int), (0 : Int), false, false, (0 : Int), (0 : Int), (0 : Int), (0 : Int), (0 : Int), ([] : List Int)⟩
def k31 : Kd S31 := Kd.iso (Kd.pair (Kd.int .u8) (Kd.pair (Kd.int .u16) (Kd.pair Kd.bool (Kd.pair Kd.bool (Kd.pair (Kd.int .i64) (Kd.pair (Kd.int .u8) (Kd.pair (Kd.int .u8) (Kd.pair (Kd.int .u32) (Kd.pair (Kd.int .u32) (Kd.slice 5 (Kd.int .u8))))))))))) (fun x : S31 => (x.f0, x.f1, x.f2, x.f3, x.f4, x.f5, x.f6, x.f7, x.f8, x.f9))
theorem k31_open {w : World} {x : S31} {cs : List Value} (h : k31.K w x cs) : ∃ A9 c9, cs = [.int .u8 x.f0, .int .u16 x.f1, .bool x.f2, .bool x.f3, .int .i64 x.f4, .int .u8 x.f5, .int .u8 x.f6, .int .u32 x.f7, .int .u32 x.f8, .slice A9 x.f9.length c9] ∧ x.f9.length ≤ c9 ∧ (Kd.int .u8).C w A9 x.f9.length x.f9 := by
  obtain ⟨_, _, rfl, rfl, ⟨_, _, rfl, rfl, ⟨_, _, rfl, rfl, ⟨_, _, rfl, rfl, ⟨_, _, rfl, rfl, ⟨_, _, rfl, rfl, ⟨_, _, rfl, rfl, ⟨_, _, rfl, rfl, ⟨_, _, rfl, rfl, ⟨A9, c9, rfl, l9, g9⟩⟩⟩⟩⟩⟩⟩⟩⟩⟩ := h
  exact ⟨A9, c9, rfl, l9, g9⟩
/-! #### struct type 33 -/
structure S33 where
  f0 : S31
  f1 : (List Int)
def z33 : S33 := ⟨z31, ([] : List Int)⟩
def k33 : Kd S33 := Kd.iso (Kd.pair k31 (Kd.slice 5 (Kd.int .u8))) (fun x : S33 => (x.f0, x.f1))
theorem k33_open {w : World} {x : S33} {cs : List Value} (h : k33.K w x cs) : ∃ A9 c9 A10 c10, cs = [.int .u8 x.f0.f0, .int .u16 x.f0.f1, .bool x.f0.f2, .bool x.f0.f3, .int .i64 x.f0.f4, .int .u8 x.f0.f5, .int .u8 x.f0.f6, .int .u32 x.f0.f7, .int .u32 x.f0.f8, .slice A9 x.f0.f9.length c9, .slice A10 x.f1.length c10] ∧ x.f0.f9.length ≤ c9 ∧ (Kd.int .u8).C w A9 x.f0.f9.length x.f0.f9 ∧ x.f1.length ≤ c10 ∧ (Kd.int .u8).C w A10 x.f1.length x.f1 := by
  obtain ⟨_, _, rfl, s0, ⟨A10, c10, rfl, l10, g10⟩⟩ := h
  obtain ⟨A9, c9, rfl, l9, g9⟩ := k31_open s0
  exact ⟨A9, c9, A10, c10, rfl, l9, g9, l10, g10⟩
/-! #### struct type 50 -/
structure S50 where
  f0 : Int
  f1 : (List Int)
  f2 : (List (List Int))
  f3 : Int
  f4 : Int
  f5 : Int
  f6 : S33
def z50 : S50 := ⟨(0 : Int), ([] : List Int), ([] : List (List Int)), (0 : Int), (0 : Int), (0 : Int), z33⟩
def k50 : Kd S50 := Kd.iso (Kd.pair (Kd.int .i64) (Kd.pair (Kd.slice 5 (Kd.int .u8)) (Kd.pair (Kd.slice 23 (Kd.slice 5 (Kd.int .u8))) (Kd.pair (Kd.int .u16) (Kd.pair (Kd.int .u16) (Kd.pair (Kd.int .u16) k33)))))) (fun x : S50 => (x.f0, x.f1, x.f2, x.f3, x.f4, x.f5, x.f6))
theorem k50_open {w : World} {x : S50} {cs : List Value} (h : k50.K w x cs) : ∃ A1 c1 A2 c2 A15 c15 A16 c16, cs = [.int .i64 x.f0, .slice A1 x.f1.length c1, .slice A2 x.f2.length c2, .int .u16 x.f3, .int .u16 x.f4, .int .u16 x.f5, .int .u8 x.f6.f0.f0, .int .u16 x.f6.f0.f1, .bool x.f6.f0.f2, .bool x.f6.f0.f3, .int .i64 x.f6.f0.f4, .int .u8 x.f6.f0.f5, .int .u8 x.f6.f0.f6, .int .u32 x.f6.f0.f7, .int .u32 x.f6.f0.f8, .slice A15 x.f6.f0.f9.length c15, .slice A16 x.f6.f1.length c16] ∧ x.f1.length ≤ c1 ∧ (Kd.int .u8).C w A1 x.f1.length x.f1 ∧ x.f2.length ≤ c2 ∧ (Kd.slice 5 (Kd.int .u8)).C w A2 x.f2.length x.f2 ∧ x.f6.f0.f9.length ≤ c15 ∧ (Kd.int .u8).C w A15 x.f6.f0.f9.length x.f6.f0.f9 ∧ x.f6.f1.length ≤ c16 ∧ (Kd.int .u8).C w A16 x.f6.f1.length x.f6.f1 := by
  obtain ⟨_, _, rfl, rfl, ⟨_, _, rfl, ⟨A1, c1, rfl, l1, g1⟩, ⟨_, _, rfl, ⟨A2, c2, rfl, l2, g2⟩, ⟨_, _, rfl, rfl, ⟨_, _, rfl, rfl, ⟨_, _, rfl, rfl, s6⟩⟩⟩⟩⟩⟩ := h
  obtain ⟨A15, c15, A16, c16, rfl, l15, g15, l16, g16⟩ := k33_open s6
  exact ⟨A1, c1, A2, c2, A15, c15, A16, c16, rfl, l1, g1, l2, g2, l15, g15, l16, g16⟩
def rd_T50 (xs : List S50) (i : Int) : S50 := xs.getD i.toNat z50
theorem at_T50 {w : World} {A : Option Addr} {n : Nat} {xs : List S50} (h : Kd.C k50 w A n xs) (i : Int) (h0 : 0 ≤ i) (h1 : i < n) : ∃ ad A1 c1 A2 c2 A15 c15 A16 c16, A = some ad ∧ w.cell? (ad.add (i.toNat * 17)) = some (.int .i64 (rd_T50 xs i).f0) ∧ w.cell? ⟨(ad.add (i.toNat * 17)).block, (ad.add (i.toNat * 17)).off + 1, none⟩ = some (.slice A1 (rd_T50 xs i).f1.length c1) ∧ w.cell? ⟨(ad.add (i.toNat * 17)).block, (ad.add (i.toNat * 17)).off + 2, none⟩ = some (.slice A2 (rd_T50 xs i).f2.length c2) ∧ w.cell? ⟨(ad.add (i.toNat * 17)).block, (ad.add (i.toNat * 17)).off + 3, none⟩ = some (.int .u16 (rd_T50 xs i).f3) ∧ w.cell? ⟨(ad.add (i.toNat * 17)).block, (ad.add (i.toNat * 17)).off + 4, none⟩ = some (.int .u16 (rd_T50 xs i).f4) ∧ w.cell? ⟨(ad.add (i.toNat * 17)).block, (ad.add (i.toNat * 17)).off + 5, none⟩ = some (.int .u16 (rd_T50 xs i).f5) ∧ w.cell? ⟨(ad.add (i.toNat * 17)).block, (ad.add (i.toNat * 17)).off + 6, none⟩ = some (.int .u8 (rd_T50 xs i).f6.f0.f0) ∧ w.cell? ⟨(ad.add (i.toNat * 17)).block, (ad.add (i.toNat * 17)).off + 7, none⟩ = some (.int .u16 (rd_T50 xs i).f6.f0.f1) ∧ w.cell? ⟨(ad.add (i.toNat * 17)).block, (ad.add (i.toNat * 17)).off + 8, none⟩ = some (.bool (rd_T50 xs i).f6.f0.f2) ∧ w.cell? ⟨(ad.add (i.toNat * 17)).block, (ad.add (i.toNat * 17)).off + 9, none⟩ = some (.bool (rd_T50 xs i).f6.f0.f3) ∧ w.cell? ⟨(ad.add (i.toNat * 17)).block, (ad.add (i.toNat * 17)).off + 10, none⟩ = some (.int .i64 (rd_T50 xs i).f6.f0.f4) ∧ w.cell? ⟨(ad.add (i.toNat * 17)).block, (ad.add (i.toNat * 17)).off + 11, none⟩ = some (.int .u8 (rd_T50 xs i).f6.f0.f5) ∧ w.cell? ⟨(ad.add (i.toNat * 17)).block, (ad.add (i.toNat * 17)).off + 12, none⟩ = some (.int .u8 (rd_T50 xs i).f6.f0.f6) ∧ w.cell? ⟨(ad.add (i.toNat * 17)).block, (ad.add (i.toNat * 17)).off + 13, none⟩ = some (.int .u32 (rd_T50 xs i).f6.f0.f7) ∧ w.cell? ⟨(ad.add (i.toNat * 17)).block, (ad.add (i.toNat * 17)).off + 14, none⟩ = some (.int .u32 (rd_T50 xs i).f6.f0.f8) ∧ w.cell? ⟨(ad.add (i.toNat * 17)).block, (ad.add (i.toNat * 17)).off + 15, none⟩ = some (.slice A15 (rd_T50 xs i).f6.f0.f9.length c15) ∧ w.cell? ⟨(ad.add (i.toNat * 17)).block, (ad.add (i.toNat * 17)).off + 16, none⟩ = some (.slice A16 (rd_T50 xs i).f6.f1.length c16) ∧ (rd_T50 xs i).f1.length ≤ c1 ∧ (Kd.int .u8).C w A1 (rd_T50 xs i).f1.length (rd_T50 xs i).f1 ∧ (rd_T50 xs i).f2.length ≤ c2 ∧ (Kd.slice 5 (Kd.int .u8)).C w A2 (rd_T50 xs i).f2.length (rd_T50 xs i).f2 ∧ (rd_T50 xs i).f6.f0.f9.length ≤ c15 ∧ (Kd.int .u8).C w A15 (rd_T50 xs i).f6.f0.f9.length (rd_T50 xs i).f6.f0.f9 ∧ (rd_T50 xs i).f6.f1.length ≤ c16 ∧ (Kd.int .u8).C w A16 (rd_T50 xs i).f6.f1.length (rd_T50 xs i).f6.f1 := by
  obtain ⟨ad, c, e, _, hK, hc0⟩ := Kd.C_get h z50 i h0 h1
  have hc : ∀ j u, c[j]? = some u → w.cell? (ad.add (i.toNat * 17 + j)) = some u := hc0
  obtain ⟨A1, c1, A2, c2, A15, c15, A16, c16, rfl, l1, g1, l2, g2, l15, g15, l16, g16⟩ := k50_open hK
  exact ⟨ad, A1, c1, A2, c2, A15, c15, A16, c16, e, hc 0 _ rfl, by rw [← add_field _ _ 1 (by omega)]; exact hc 1 _ rfl, by rw [← add_field _ _ 2 (by omega)]; exact hc 2 _ rfl, by rw [← add_field _ _ 3 (by omega)]; exact hc 3 _ rfl, by rw [← add_field _ _ 4 (by omega)]; exact hc 4 _ rfl, by rw [← add_field _ _ 5 (by omega)]; exact hc 5 _ rfl, by rw [← add_field _ _ 6 (by omega)]; exact hc 6 _ rfl, by rw [← add_field _ _ 7 (by omega)]; exact hc 7 _ rfl, by rw [← add_field _ _ 8 (by omega)]; exact hc 8 _ rfl, by rw [← add_field _ _ 9 (by omega)]; exact hc 9 _ rfl, by rw [← add_field _ _ 10 (by omega)]; exact hc 10 _ rfl, by rw [← add_field _ _ 11 (by omega)]; exact hc 11 _ rfl, by rw [← add_field _ _ 12 (by omega)]; exact hc 12 _ rfl, by rw [← add_field _ _ 13 (by omega)]; exact hc 13 _ rfl, by rw [← add_field _ _ 14 (by omega)]; exact hc 14 _ rfl, by rw [← add_field _ _ 15 (by omega)]; exact hc 15 _ rfl, by rw [← add_field _ _ 16 (by omega)]; exact hc 16 _ rfl, l1, g1, l2, g2, l15, g15, l16, g16⟩

end Go.Proofs.Ytmjhfkjnnpnoaaa.XA
