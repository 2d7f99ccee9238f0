-- printed by a program of this session (wip/xprint), out of the translation; Lean checks it
import Derived.Test.YtbacmhegalncjaaQIXBx0
import Derived.Test.YtbacmhegalncjaaQIXBx19
import Derived.Test.YtbacmhegalncjaaQIXBx20
import Derived.Test.YtbacmhegalncjaaQIXBx22
namespace Go.Proofs.Ytbacmhegalncjaa.XB
open Go.RowKit Go.Proofs.YtbacmhegalncjaaW.PrintWords Go.Proofs.YtbacmhegalncjaaW.PrintLast Go.Proofs.YtbacmhegalncjaaW.PrintMore Go.Proofs.YtbacmhegalncjaaX
theorem zqxb23_16 {P : Prop} (h : P := by first | omega | exact zod zqxb23_12) : P := h
theorem zqxb23_15 {P : Prop} (h : P := by repeat (first | (with_reducible first | exact HB.out | apply below_alloc | apply pw_below_drewN | apply below_drew1 | refine below_set ?_ GE1042.out) | exact HB.out)) : P := h
theorem zqxb23_14 {P : Prop} (h : P := by (try simp only [List.map_toArray, List.map_cons, List.map_nil]); first | done | (rw [show ((l0.take (t1013 : Int).toNat).drop 20).length = (t1013.toNat - 20) from (by rw [List.length_drop, List.length_take]; have h_ : (t1013 : Int) ≤ (l0.length : Int) := zod zqxb23_12; omega)] <;> rfl) | rfl | (simp only [List.length_drop, List.length_take]; rfl)) : P := h
theorem zqxb23_13 {P : Prop} (h : P := by (with_reducible repeat (first | apply Kd.R_alloc | apply Kd.R_drewN | apply Kd.R_drew)); exact (Kd.R_mono (Kd.R_far (p := ⟨gb1027, 9, none⟩) (Kd.R_far (p := ⟨gb1027, 8, none⟩) (Kd.R_far (p := ⟨gb1027, 7, none⟩) (Kd.R_far (p := ⟨gb1027, 6, none⟩) (Kd.R_far (p := ⟨gb1027, 5, none⟩) (Kd.R_far (p := ⟨gb1027, 4, none⟩) (Kd.R_far (p := ⟨gb1027, 3, none⟩) (Kd.R_far (p := ⟨gb1027, 2, none⟩) (Kd.R_far (p := ⟨gb1027, 1, none⟩) (Kd.R_far (p := ⟨gb1027, 0, none⟩) (Kd.R_types HO1037.out BK1027.out (by decide)) (fun _ hk => hk.2) (.int .u8 (rd l0 1))) (fun _ hk => hk.2) (.int .u16 (IntKind.u16.wrap (t1029)))) (fun _ hk => hk.2) (.bool ((wrap64 (Int.tdiv (wrap64 (Int.tdiv (wrap64 (rd l0 6)) 32)) 2)) == 1))) (fun _ hk => hk.2) (.bool ((Int.tmod (wrap64 (Int.tdiv (wrap64 (rd l0 6)) 32)) 2) == 1))) (fun _ hk => hk.2) (.int .i64 (wrap64 (8 * (Int.tmod t1025 8192))))) (fun _ hk => hk.2) (.int .u8 (rd l0 8))) (fun _ hk => hk.2) (.int .u8 (rd l0 9))) (fun _ hk => hk.2) (.int .u32 ((t1032) % 4294967296))) (fun _ hk => hk.2) (.int .u32 ((t1033) % 4294967296))) (fun _ hk => hk.2) (.slice Ao53 t1035.length co53)) (fun _ h_ => h_.1))) : P := h
theorem zqxb23_12 {P : Prop} (h : P := by first | (with_reducible assumption) | assumption) : P := h
theorem zqxb23_11 {P : Prop} (h : P := by repeat (first | (with_reducible first | exact HB.out | apply below_alloc | apply pw_below_drewN | apply below_drew1 | refine below_set ?_ GE1011.out | refine below_set ?_ GE1012.out | refine below_set ?_ GE1027.out) | exact HB.out)) : P := h
theorem zqxb23_10 {P : Prop} (h : P := by repeat (first | (with_reducible exact HR1020.out) | (with_reducible refine Kd.C_alloc ?_ _) | (with_reducible refine Kd.C_drewN ?_ _) | (with_reducible refine Kd.C_drew ?_) | exact HR1020.out)) : P := h
theorem zqxb23_9 {P : Prop} (h : P := by (try simp only [List.map_toArray, List.map_cons, List.map_nil]); first | done | rfl | (simp only [List.length_drop, List.length_take]; rfl)) : P := h
theorem zqxb23_8 {P : Prop} (h : P := by repeat (first | (with_reducible first | exact HB.out | apply below_alloc | apply pw_below_drewN | apply below_drew1) | exact HB.out)) : P := h
theorem zqxb23_7 {P : Prop} (h : P := by repeat (first | (with_reducible first | exact HB.out | apply below_alloc | apply pw_below_drewN | apply below_drew1 | refine below_set ?_ GE1011.out) | exact HB.out)) : P := h
theorem zqxb23_6 {P : Prop} (h : P := by repeat (first | (with_reducible first | exact HB.out | apply below_alloc | apply pw_below_drewN | apply below_drew1 | refine below_set ?_ GE1011.out | refine below_set ?_ GE1012.out) | exact HB.out)) : P := h
theorem zqxb23_5 {P : Prop} (h : P := by first | (with_reducible exact BK1012.out) | (with_reducible exact zdn BK1012.out _) | (with_reducible exact zdr BK1012.out) | ((with_reducible repeat (first | refine zdn ?_ _ | refine zdr ?_ | refine blk_alloc ?_ _)); exact BK1012.out)) : P := h
theorem zqxb23_4 {P : Prop} (h : P := by first | exact Nat.ne_of_lt (Nat.lt_of_lt_of_le (by have := World.block_lt_of_cell? _ _ hw1031_0; first | rwa [add_block] at this | exact this) GW1027.out) | (rw [add_block]; exact Nat.ne_of_lt (Nat.lt_of_lt_of_le (by have := World.block_lt_of_cell? _ _ hw1031_0; first | rwa [add_block] at this | exact this) GW1027.out)) | (show (Addr.add _ _).block ≠ _; rw [add_block]; exact Nat.ne_of_lt (Nat.lt_of_lt_of_le (by have := World.block_lt_of_cell? _ _ hw1031_0; first | rwa [add_block] at this | exact this) GW1027.out)) | (dsimp only; exact Nat.ne_of_lt (Nat.lt_of_lt_of_le (by have := World.block_lt_of_cell? _ _ hw1031_0; first | rwa [add_block] at this | exact this) GW1027.out))) : P := h
theorem zqxb23_3 {P : Prop} (h : P := by first | exact Nat.ne_of_lt (Nat.lt_of_lt_of_le (by have := World.block_lt_of_cell? _ _ hw1030_0; first | rwa [add_block] at this | exact this) GW1027.out) | (rw [add_block]; exact Nat.ne_of_lt (Nat.lt_of_lt_of_le (by have := World.block_lt_of_cell? _ _ hw1030_0; first | rwa [add_block] at this | exact this) GW1027.out)) | (show (Addr.add _ _).block ≠ _; rw [add_block]; exact Nat.ne_of_lt (Nat.lt_of_lt_of_le (by have := World.block_lt_of_cell? _ _ hw1030_0; first | rwa [add_block] at this | exact this) GW1027.out)) | (dsimp only; exact Nat.ne_of_lt (Nat.lt_of_lt_of_le (by have := World.block_lt_of_cell? _ _ hw1030_0; first | rwa [add_block] at this | exact this) GW1027.out))) : P := h
theorem zqxb23_2 {P : Prop} (h : P := by first | exact Nat.ne_of_lt (Nat.lt_of_lt_of_le (by have := World.block_lt_of_cell? _ _ hw1028_0; first | rwa [add_block] at this | exact this) GW1027.out) | (rw [add_block]; exact Nat.ne_of_lt (Nat.lt_of_lt_of_le (by have := World.block_lt_of_cell? _ _ hw1028_0; first | rwa [add_block] at this | exact this) GW1027.out)) | (show (Addr.add _ _).block ≠ _; rw [add_block]; exact Nat.ne_of_lt (Nat.lt_of_lt_of_le (by have := World.block_lt_of_cell? _ _ hw1028_0; first | rwa [add_block] at this | exact this) GW1027.out)) | (dsimp only; exact Nat.ne_of_lt (Nat.lt_of_lt_of_le (by have := World.block_lt_of_cell? _ _ hw1028_0; first | rwa [add_block] at this | exact this) GW1027.out))) : P := h
theorem zqxb23_1 {P : Prop} (h : P := by first | (with_reducible exact BK1011.out) | (with_reducible exact zdn BK1011.out _) | (with_reducible exact zdr BK1011.out) | ((with_reducible repeat (first | refine zdn ?_ _ | refine zdr ?_ | refine blk_alloc ?_ _)); exact BK1011.out)) : P := h
theorem zqxb23_0 {P : Prop} (h : P := by (with_reducible repeat (first | refine zdn ?_ _ | refine zdr ?_ | refine blk_alloc ?_ _)); refine blk_put (cs := #[.int .u8 0, .int .u16 0, .bool false, .bool false, .int .i64 0, .int .u8 0, .int .u8 0, .int .u32 0, .int .u32 0, .slice none 0 0, .slice none 0 0]) ?_ 10 _ rfl; (with_reducible repeat (first | refine zdn ?_ _ | refine zdr ?_ | refine blk_alloc ?_ _)); refine blk_put (cs := #[.int .u8 0, .int .u16 0, .bool false, .bool false, .int .i64 0, .int .u8 0, .int .u8 0, .int .u32 0, .int .u32 0, .slice none 0 0, .slice none 0 0]) ?_ 9 _ rfl; (with_reducible repeat (first | refine zdn ?_ _ | refine zdr ?_ | refine blk_alloc ?_ _)); refine blk_put (cs := #[.int .u8 0, .int .u16 0, .bool false, .bool false, .int .i64 0, .int .u8 0, .int .u8 0, .int .u32 0, .int .u32 0, .slice none 0 0, .slice none 0 0]) ?_ 8 _ rfl; (with_reducible repeat (first | refine zdn ?_ _ | refine zdr ?_ | refine blk_alloc ?_ _)); refine blk_put (cs := #[.int .u8 0, .int .u16 0, .bool false, .bool false, .int .i64 0, .int .u8 0, .int .u8 0, .int .u32 0, .int .u32 0, .slice none 0 0, .slice none 0 0]) ?_ 7 _ rfl; (with_reducible repeat (first | refine zdn ?_ _ | refine zdr ?_ | refine blk_alloc ?_ _)); refine blk_put (cs := #[.int .u8 0, .int .u16 0, .bool false, .bool false, .int .i64 0, .int .u8 0, .int .u8 0, .int .u32 0, .int .u32 0, .slice none 0 0, .slice none 0 0]) ?_ 6 _ rfl; (with_reducible repeat (first | refine zdn ?_ _ | refine zdr ?_ | refine blk_alloc ?_ _)); refine blk_put (cs := #[.int .u8 0, .int .u16 0, .bool false, .bool false, .int .i64 0, .int .u8 0, .int .u8 0, .int .u32 0, .int .u32 0, .slice none 0 0, .slice none 0 0]) ?_ 5 _ rfl; (with_reducible repeat (first | refine zdn ?_ _ | refine zdr ?_ | refine blk_alloc ?_ _)); refine blk_put (cs := #[.int .u8 0, .int .u16 0, .bool false, .bool false, .int .i64 0, .int .u8 0, .int .u8 0, .int .u32 0, .int .u32 0, .slice none 0 0, .slice none 0 0]) ?_ 4 _ rfl; (with_reducible repeat (first | refine zdn ?_ _ | refine zdr ?_ | refine blk_alloc ?_ _)); refine blk_put (cs := #[.int .u8 0, .int .u16 0, .bool false, .bool false, .int .i64 0, .int .u8 0, .int .u8 0, .int .u32 0, .int .u32 0, .slice none 0 0, .slice none 0 0]) ?_ 3 _ rfl; (with_reducible repeat (first | refine zdn ?_ _ | refine zdr ?_ | refine blk_alloc ?_ _)); refine blk_put (cs := #[.int .u8 0, .int .u16 0, .bool false, .bool false, .int .i64 0, .int .u8 0, .int .u8 0, .int .u32 0, .int .u32 0, .slice none 0 0, .slice none 0 0]) ?_ 2 _ rfl; (with_reducible repeat (first | refine zdn ?_ _ | refine zdr ?_ | refine blk_alloc ?_ _)); refine blk_put (cs := #[.int .u8 0, .int .u16 0, .bool false, .bool false, .int .i64 0, .int .u8 0, .int .u8 0, .int .u32 0, .int .u32 0, .slice none 0 0, .slice none 0 0]) ?_ 1 _ rfl; (with_reducible repeat (first | refine zdn ?_ _ | refine zdr ?_ | refine blk_alloc ?_ _)); refine blk_put (cs := #[.int .u8 0, .int .u16 0, .bool false, .bool false, .int .i64 0, .int .u8 0, .int .u8 0, .int .u32 0, .int .u32 0, .slice none 0 0, .slice none 0 0]) ?_ 0 _ rfl; first | (with_reducible exact BK1011.out) | (with_reducible exact zdn BK1011.out _) | (with_reducible exact zdr BK1011.out) | ((with_reducible repeat (first | refine zdn ?_ _ | refine zdr ?_ | refine blk_alloc ?_ _)); exact BK1011.out)) : P := h
attribute [local go_sem] max2_int min2_int max_two min_two max_three min_three max_four min_four   -- for this text's walks alone
set_option linter.unusedVariables false
set_option linter.unusedSimpArgs false

/-! ### weftref3_read: function 73 -/
def weftref3_read.j0 : Nat → List Int → Int → Int → Int → Int → Option (Int × Int × Bool × Bool × Int × Int × Int × Int × Int × List Int × List Int × Int)
 | 0, _, _, _, _, _ => none
 | k + 1, x0, x7, x8, x10, x11 => if 1 < (x0.length : Int) then ((weftref3_two.f x0 4).bind fun t1029 => (if 8 < (x0.length : Int) then (if 9 < (x0.length : Int) then ((weftref3_four.f x0 12).bind fun t1032 => ((weftref3_four.f x0 16).bind fun t1033 => (if 20 ≤ x7 then (if x7 ≤ (x0.length : Int) then ((weftref3_clone.f k ((x0.take (x7 : Int).toNat).drop 20)).bind fun t1035 => (if 0 ≤ x7 then (if x7 ≤ x8 then (if x8 ≤ (x0.length : Int) then ((weftref3_clone.f k ((x0.take (x8 : Int).toNat).drop (x7 : Int).toNat)).bind fun t1039 => (some (rd x0 1, IntKind.u16.wrap (t1029), ((wrap64 (Int.tdiv x10 2)) == 1), ((Int.tmod x10 2) == 1), x11, rd x0 8, rd x0 9, (t1032) % 4294967296, (t1033) % 4294967296, t1035, t1039, 0))) else (none)) else (none)) else (none))) else (none)) else (none)))) else (none)) else (none))) else (none)
def weftref3_read.f (k : Nat) (l0 : List Int) (a1 : Bool) : Option (Int × Int × Bool × Bool × Int × Int × Int × Int × Int × List Int × List Int × Int) := (weftref3_front.f l0 a1).bind fun bt1013 => (if bt1013.2.2 = 0 then (if 0 ≤ bt1013.1 then (if bt1013.1 ≤ (l0.length : Int) then ((weftref3_Sum.f k (([l0.take (bt1013.1 : Int).toNat] : List (List Int)))).bind fun t1021 => (if t1021 = 0 then (if 6 < (l0.length : Int) then (if (wrap64 (Int.tdiv (wrap64 (rd l0 6)) 32)) ≥ 4 then (some (0, 0, false, false, 0, 0, 0, 0, 0, ([] : List Int), ([] : List Int), 32)) else (if 20 ≤ bt1013.1 then ((weftref3_Area.f k ((l0.take (bt1013.1 : Int).toNat).drop 20)).bind fun t1024 => (if t1024 = true then ((weftref3_two.f l0 6).bind fun t1025 => ((weftref3_Piece.f (wrap64 (8 * (Int.tmod t1025 8192))) (wrap64 (bt1013.2.1 - bt1013.1)) ((Int.tmod (wrap64 (Int.tdiv (wrap64 (rd l0 6)) 32)) 2) == 1)).bind fun t1026 => (if t1026 = true then (if bt1013.2.1 > (l0.length : Int) then (weftref3_read.j0 k l0 bt1013.1 (l0.length : Int) (wrap64 (Int.tdiv (wrap64 (rd l0 6)) 32)) (wrap64 (8 * (Int.tmod t1025 8192)))) else (weftref3_read.j0 k l0 bt1013.1 bt1013.2.1 (wrap64 (Int.tdiv (wrap64 (rd l0 6)) 32)) (wrap64 (8 * (Int.tmod t1025 8192))))) else (some (0, 0, false, false, 0, 0, 0, 0, 0, ([] : List Int), ([] : List Int), 36))))) else (some (0, 0, false, false, 0, 0, 0, 0, 0, ([] : List Int), ([] : List Int), 34)))) else (none))) else (none)) else (some (0, 0, false, false, 0, 0, 0, 0, 0, ([] : List Int), ([] : List Int), 33)))) else (none)) else (none)) else (some (0, 0, false, false, 0, 0, 0, 0, 0, ([] : List Int), ([] : List Int), bt1013.2.2)))
def weftref3_read.T18 : Bool × List (List Nat × List Nat) := (true, [([], []), ([0], [0]), ([1], [1]), ([], []), ([3], [3]), ([4], [4]), ([], []), ([6], [6]), ([7], [7]), ([], []), ([9], [9]), ([10], [10]), ([], []), ([], []), ([13], [13]), ([14], [14]), ([], []), ([16], [16]), ([17], [17]), ([], []), ([19, 4], [19]), ([20], [20]), ([], []), ([22, 20], [22]), ([23], [23]), ([], []), ([], []), ([25, 26], [25, 26]), ([27, 23], [27]), ([2, 5, 8, 11, 12, 15, 18, 21, 24, 28], [2, 5, 8, 11, 12, 15, 18, 21, 24, 28]), ([0, 1, 2, 3, 4, 5, 6, 7, 8, 9, 10, 11, 12, 13, 14, 15, 16, 17, 18, 19, 20, 21, 22, 23, 24, 25, 26, 27, 28, 29], []), ([30, 29, 28, 0, 1, 2, 3, 4, 5, 6, 7, 8, 9, 10, 11, 12, 13, 14, 15, 16, 17, 18, 19, 20, 21, 22, 23, 24, 25, 26, 27, 28, 29], [29, 30])])
def weftref3_read.B18 : List Nat := [0, 1, 3, 0, 8, 24, 0, 64, 192, 0, 512, 1536, 0, 0, 8192, 24576, 0, 65536, 196608, 0, 524312, 1572888, 0, 5767192, 14155800, 0, 0, 100663296, 249036824, 536870911, 1073741823, 2147483647]
theorem weftref3_read.tab18 : rtab .any (opsOf Try.f73 18) = weftref3_read.T18 := by kernel_rfl
theorem weftref3_read.bits18 : waitsOk weftref3_read.T18.2 weftref3_read.B18 = true := by kernel_rfl
set_option maxHeartbeats 8000000 in
set_option maxRecDepth 100000 in
theorem weftref3_read.calls (k : Nat) (A0 : Option Addr) (c0 : Nat) (l0 : List Int) (a1 : Bool) (r1 : Int) (r2 : Int) (r3 : Bool) (r4 : Bool) (r5 : Int) (r6 : Int) (r7 : Int) (r8 : Int) (r9 : Int) (r10 : List Int) (r11 : List Int) (r12 : Int) (w : World) (hr0 : Kd.C (Kd.int .u8) w A0 l0.length l0) (hc0 : l0.length ≤ c0) (h : weftref3_read.f k l0 a1 = some (r1, r2, r3, r4, r5, r6, r7, r8, r9, r10, r11, r12)) :
  Calls Try.prog 73 #[.slice A0 l0.length c0, .bool a1] w fun e w' => ∃ v9_ v10_ : Value, e = .returned (.tuple #[.agg #[.int .u8 r1, .int .u16 r2, .bool r3, .bool r4, .int .i64 r5, .int .u8 r6, .int .u8 r7, .int .u32 r8, .int .u32 r9, v9_, v10_], .int .i64 r12]) ∧ Kd.R (Kd.int .u8) 5 w' w.heap.size (fun k_ => some k_ ≠ (v10_ : Value).ownBlock) v9_ r10 ∧ Kd.R (Kd.int .u8) 5 w' w.heap.size (fun k_ => some k_ ≠ (v9_ : Value).ownBlock) v10_ r11 ∧ Below w.heap.size w w' := by
 have hu43 := Try.underlying43
 have hu41 := Try.underlying41
 have HR0 := zam hr0
 have HC0 := zam hc0
 clear hr0 hc0
 have HB := zam (Below.refl w.heap.size w)
 have H : ((weftref3_front.f l0 a1).bind fun bt1013 => (if bt1013.2.2 = 0 then (if 0 ≤ bt1013.1 then (if bt1013.1 ≤ (l0.length : Int) then ((weftref3_Sum.f k (([l0.take (bt1013.1 : Int).toNat] : List (List Int)))).bind fun t1021 => (if t1021 = 0 then (if 6 < (l0.length : Int) then (if (wrap64 (Int.tdiv (wrap64 (rd l0 6)) 32)) ≥ 4 then (some (0, 0, false, false, 0, 0, 0, 0, 0, ([] : List Int), ([] : List Int), 32)) else (if 20 ≤ bt1013.1 then ((weftref3_Area.f k ((l0.take (bt1013.1 : Int).toNat).drop 20)).bind fun t1024 => (if t1024 = true then ((weftref3_two.f l0 6).bind fun t1025 => ((weftref3_Piece.f (wrap64 (8 * (Int.tmod t1025 8192))) (wrap64 (bt1013.2.1 - bt1013.1)) ((Int.tmod (wrap64 (Int.tdiv (wrap64 (rd l0 6)) 32)) 2) == 1)).bind fun t1026 => (if t1026 = true then (if bt1013.2.1 > (l0.length : Int) then (weftref3_read.j0 k l0 bt1013.1 (l0.length : Int) (wrap64 (Int.tdiv (wrap64 (rd l0 6)) 32)) (wrap64 (8 * (Int.tmod t1025 8192)))) else (weftref3_read.j0 k l0 bt1013.1 bt1013.2.1 (wrap64 (Int.tdiv (wrap64 (rd l0 6)) 32)) (wrap64 (8 * (Int.tmod t1025 8192))))) else (some (0, 0, false, false, 0, 0, 0, 0, 0, ([] : List Int), ([] : List Int), 36))))) else (some (0, 0, false, false, 0, 0, 0, 0, 0, ([] : List Int), ([] : List Int), 34)))) else (none))) else (none)) else (some (0, 0, false, false, 0, 0, 0, 0, 0, ([] : List Int), ([] : List Int), 33)))) else (none)) else (none)) else (some (0, 0, false, false, 0, 0, 0, 0, 0, ([] : List Int), ([] : List Int), bt1013.2.2)))) = some (r1, r2, r3, r4, r5, r6, r7, r8, r9, r10, r11, r12) := h
 clear h
 replace H := Option.bind_eq_some_iff.mp H
 obtain ⟨⟨t1013, t1014, t1015⟩, A30, H⟩ := H
 replace H : (if t1015 = 0 then (if 0 ≤ t1013 then (if t1013 ≤ (l0.length : Int) then ((weftref3_Sum.f k (([l0.take (t1013 : Int).toNat] : List (List Int)))).bind fun t1021 => (if t1021 = 0 then (if 6 < (l0.length : Int) then (if (wrap64 (Int.tdiv (wrap64 (rd l0 6)) 32)) ≥ 4 then (some (0, 0, false, false, 0, 0, 0, 0, 0, ([] : List Int), ([] : List Int), 32)) else (if 20 ≤ t1013 then ((weftref3_Area.f k ((l0.take (t1013 : Int).toNat).drop 20)).bind fun t1024 => (if t1024 = true then ((weftref3_two.f l0 6).bind fun t1025 => ((weftref3_Piece.f (wrap64 (8 * (Int.tmod t1025 8192))) (wrap64 (t1014 - t1013)) ((Int.tmod (wrap64 (Int.tdiv (wrap64 (rd l0 6)) 32)) 2) == 1)).bind fun t1026 => (if t1026 = true then (if t1014 > (l0.length : Int) then (weftref3_read.j0 k l0 t1013 (l0.length : Int) (wrap64 (Int.tdiv (wrap64 (rd l0 6)) 32)) (wrap64 (8 * (Int.tmod t1025 8192)))) else (weftref3_read.j0 k l0 t1013 t1014 (wrap64 (Int.tdiv (wrap64 (rd l0 6)) 32)) (wrap64 (8 * (Int.tmod t1025 8192))))) else (some (0, 0, false, false, 0, 0, 0, 0, 0, ([] : List Int), ([] : List Int), 36))))) else (some (0, 0, false, false, 0, 0, 0, 0, 0, ([] : List Int), ([] : List Int), 34)))) else (none))) else (none)) else (some (0, 0, false, false, 0, 0, 0, 0, 0, ([] : List Int), ([] : List Int), 33)))) else (none)) else (none)) else (some (0, 0, false, false, 0, 0, 0, 0, 0, ([] : List Int), ([] : List Int), t1015))) = some (r1, r2, r3, r4, r5, r6, r7, r8, r9, r10, r11, r12) := H
 have A3 := zam A30
 clear A30
 by_cases c4 : t1015 = 0
 ·
  rw [if_pos c4] at H
  have c4b0 : (t1015 == 0) = true := beq_iff_eq.mpr c4
  have c4b1 : (t1015 != 0) = false := bne_eq_false_iff_eq.mpr c4
  clear c4
  by_cases c5 : 0 ≤ t1013
  ·
   rw [if_pos c5] at H
   have c5b0 := eq_true c5
   have c5b1 : decide (0 ≤ t1013) = true := decide_eq_true c5
   clear c5
   by_cases c6 : t1013 ≤ (l0.length : Int)
   ·
    rw [if_pos c6] at H
    have c6b0 := eq_true c6
    have c6b1 : decide (t1013 ≤ (l0.length : Int)) = true := decide_eq_true c6
    clear c6
    obtain ⟨y1017, hy1017⟩ : ∃ y_ : List (List Int), y_ = (([l0.take (t1013 : Int).toNat] : List (List Int))) := ⟨_, rfl⟩
    replace H : ((weftref3_Sum.f k y1017).bind fun t1021 => (if t1021 = 0 then (if 6 < (l0.length : Int) then (if (wrap64 (Int.tdiv (wrap64 (rd l0 6)) 32)) ≥ 4 then (some (0, 0, false, false, 0, 0, 0, 0, 0, ([] : List Int), ([] : List Int), 32)) else (if 20 ≤ t1013 then ((weftref3_Area.f k ((l0.take (t1013 : Int).toNat).drop 20)).bind fun t1024 => (if t1024 = true then ((weftref3_two.f l0 6).bind fun t1025 => ((weftref3_Piece.f (wrap64 (8 * (Int.tmod t1025 8192))) (wrap64 (t1014 - t1013)) ((Int.tmod (wrap64 (Int.tdiv (wrap64 (rd l0 6)) 32)) 2) == 1)).bind fun t1026 => (if t1026 = true then (if t1014 > (l0.length : Int) then (weftref3_read.j0 k l0 t1013 (l0.length : Int) (wrap64 (Int.tdiv (wrap64 (rd l0 6)) 32)) (wrap64 (8 * (Int.tmod t1025 8192)))) else (weftref3_read.j0 k l0 t1013 t1014 (wrap64 (Int.tdiv (wrap64 (rd l0 6)) 32)) (wrap64 (8 * (Int.tmod t1025 8192))))) else (some (0, 0, false, false, 0, 0, 0, 0, 0, ([] : List Int), ([] : List Int), 36))))) else (some (0, 0, false, false, 0, 0, 0, 0, 0, ([] : List Int), ([] : List Int), 34)))) else (none))) else (none)) else (some (0, 0, false, false, 0, 0, 0, 0, 0, ([] : List Int), ([] : List Int), 33)))) = some (r1, r2, r3, r4, r5, r6, r7, r8, r9, r10, r11, r12) := by first | (rw [hy1017]; with_reducible exact H) | (have H2_ := (Option.bind_some _ _).symm.trans H; rw [hy1017]; with_reducible exact H2_) | (have H2_ := (Option.bind_some _ _).symm.trans H; with_reducible exact H2_) | with_reducible exact H | (rw [hy1017]; exact H) | exact H
    have Ny1017 := zam hy1017
    clear hy1017
    replace H := Option.bind_eq_some_iff.mp H
    obtain ⟨t1021, A70, H⟩ := H
    replace H : (if t1021 = 0 then (if 6 < (l0.length : Int) then (if (wrap64 (Int.tdiv (wrap64 (rd l0 6)) 32)) ≥ 4 then (some (0, 0, false, false, 0, 0, 0, 0, 0, ([] : List Int), ([] : List Int), 32)) else (if 20 ≤ t1013 then ((weftref3_Area.f k ((l0.take (t1013 : Int).toNat).drop 20)).bind fun t1024 => (if t1024 = true then ((weftref3_two.f l0 6).bind fun t1025 => ((weftref3_Piece.f (wrap64 (8 * (Int.tmod t1025 8192))) (wrap64 (t1014 - t1013)) ((Int.tmod (wrap64 (Int.tdiv (wrap64 (rd l0 6)) 32)) 2) == 1)).bind fun t1026 => (if t1026 = true then (if t1014 > (l0.length : Int) then (weftref3_read.j0 k l0 t1013 (l0.length : Int) (wrap64 (Int.tdiv (wrap64 (rd l0 6)) 32)) (wrap64 (8 * (Int.tmod t1025 8192)))) else (weftref3_read.j0 k l0 t1013 t1014 (wrap64 (Int.tdiv (wrap64 (rd l0 6)) 32)) (wrap64 (8 * (Int.tmod t1025 8192))))) else (some (0, 0, false, false, 0, 0, 0, 0, 0, ([] : List Int), ([] : List Int), 36))))) else (some (0, 0, false, false, 0, 0, 0, 0, 0, ([] : List Int), ([] : List Int), 34)))) else (none))) else (none)) else (some (0, 0, false, false, 0, 0, 0, 0, 0, ([] : List Int), ([] : List Int), 33))) = some (r1, r2, r3, r4, r5, r6, r7, r8, r9, r10, r11, r12) := H
    have A7 := zam A70
    clear A70
    by_cases c8 : t1021 = 0
    ·
     rw [if_pos c8] at H
     have c8b0 : (t1021 == 0) = true := beq_iff_eq.mpr c8
     have c8b1 : (t1021 != 0) = false := bne_eq_false_iff_eq.mpr c8
     clear c8
     by_cases c9 : 6 < (l0.length : Int)
     ·
      rw [if_pos c9] at H
      have c9b0 : decide (6 < (l0.length : Int)) = true := decide_eq_true c9
      have c9b1 : decide (6 < l0.length) = true := decide_eq_true (by omega)
      clear c9
      by_cases c10 : (wrap64 (Int.tdiv (wrap64 (rd l0 6)) 32)) ≥ 4
      ·
       rw [if_pos c10] at H
       have c10b0 : decide (4 ≤ (wrap64 (Int.tdiv (wrap64 (rd l0 6)) 32))) = true := decide_eq_true c10
       clear c10
       simp only [Option.some.injEq, Prod.mk.injEq] at H
       obtain ⟨rfl, rfl, rfl, rfl, rfl, rfl, rfl, rfl, rfl, rfl, rfl, rfl⟩ := H
       go_enter Try.func73, Try.ntmps73
       go_wp2_with (first | ((with_reducible refine gate_dst (N := 4) rfl ?_); refine box_event ?hg (N := 4) ?hd (cs := #[.int .u8 0, .int .u16 0, .bool false, .bool false, .int .i64 0, .int .u8 0, .int .u8 0, .int .u32 0, .int .u32 0, .slice none 0 0, .slice none 0 0]) (t := 43) ?hr ?_; (case hd => rfl); (case hg => rfl); (case hr => first | (go_simp; done) | (go_simp; rfl)); intro gb1011 hg w11 hbox hb; have n0_ := zam (below_step zqxb23_8 hb); have n1_ := zam (hbox); have n2_ := zam ((by rw [hg]; exact (below_size zqxb23_8) : w.heap.size ≤ gb1011)); have n3_ := zam ((by rw [hg]; exact (below_size zqxb23_8) : w.heap.size ≤ gb1011)); clear HB; have HB := n0_; have BK1011 := n1_; have GW1011 := n2_; have GE1011 := n3_; clear n0_ n1_ n2_ n3_; clear hb hbox hg) | ((with_reducible refine gate_dst (N := 6) rfl ?_); refine box_event ?hg (N := 6) ?hd (cs := #[.int .u8 0, .int .u16 0, .bool false, .bool false, .int .i64 0, .int .u8 0, .int .u8 0, .int .u32 0, .int .u32 0, .slice none 0 0, .slice none 0 0]) (t := 43) ?hr ?_; (case hd => rfl); (case hg => rfl); (case hr => first | (go_simp; done) | (go_simp; rfl)); intro gb1012 hg w12 hbox hb; have n0_ := zam (blk_below (g := gb1011) (o := .cells #[.int .u8 0, .int .u16 0, .bool false, .bool false, .int .i64 0, .int .u8 0, .int .u8 0, .int .u32 0, .int .u32 0, .slice none 0 0, .slice none 0 0] 43 (0, 0)) zqxb23_1 hb); have n1_ := zam (below_step zqxb23_7 hb); have n2_ := zam (hbox); have n3_ := zam ((by rw [hg]; exact (below_size zqxb23_7) : w.heap.size ≤ gb1012)); have n4_ := zam ((by rw [hg]; exact (below_size zqxb23_7) : w.heap.size ≤ gb1012)); have n5_ := zam ((by rw [hg]; exact Nat.ne_of_lt (blk_lt (g := gb1011) (o := .cells #[.int .u8 0, .int .u16 0, .bool false, .bool false, .int .i64 0, .int .u8 0, .int .u8 0, .int .u32 0, .int .u32 0, .slice none 0 0, .slice none 0 0] 43 (0, 0)) zqxb23_1) : gb1011 ≠ gb1012)); have n6_ := zam ((by rw [hg]; exact Nat.ne_of_gt (blk_lt (g := gb1011) (o := .cells #[.int .u8 0, .int .u16 0, .bool false, .bool false, .int .i64 0, .int .u8 0, .int .u8 0, .int .u32 0, .int .u32 0, .slice none 0 0, .slice none 0 0] 43 (0, 0)) zqxb23_1) : gb1012 ≠ gb1011)); clear BK1011; clear HB; have BK1011 := n0_; have HB := n1_; have BK1012 := n2_; have GW1012 := n3_; have GE1012 := n4_; have NB1011_1012 := n5_; have NB1012_1011 := n6_; clear n0_ n1_ n2_ n3_ n4_ n5_ n6_; clear hb hbox hg) | ((with_reducible refine gate_callee (f := 81) rfl ?_); refine goesL_ (some 16) rfl rfl Try.func81 (by kernel_rfl) rfl #[.slice A0 l0.length c0, .bool a1] rfl zqxb23_9 ?_; (with_reducible refine (weftref3_front.calls _ _ l0 a1 t1013 t1014 t1015 _ ?side1 ?side2 A3.out).mono ?_); (case side1 => repeat (first | exact (Kd.C_below HR0.out HB.out) | (with_reducible refine Kd.C_alloc ?_ _) | (with_reducible refine Kd.C_drewN ?_ _) | (with_reducible refine Kd.C_drew ?_))); (case side2 => exact HC0.out); rintro e w' ⟨rfl, ⟨nd, rfl⟩⟩; refine ⟨_, rfl, ?_⟩; (try (rw [drewN_self w12]; generalize hq_ : World.drewN w12 _ = w12; have n0_ : Aside0 (w12.heap[gb1011]? = some (.cells #[.int .u8 0, .int .u16 0, .bool false, .bool false, .int .i64 0, .int .u8 0, .int .u8 0, .int .u32 0, .int .u32 0, .slice none 0 0, .slice none 0 0] 43 (0, 0))) := ⟨by rw [← hq_]; exact zqxb23_1⟩; have n1_ : Aside0 (w12.heap[gb1012]? = some (.cells #[.int .u8 0, .int .u16 0, .bool false, .bool false, .int .i64 0, .int .u8 0, .int .u8 0, .int .u32 0, .int .u32 0, .slice none 0 0, .slice none 0 0] 43 (0, 0))) := ⟨by rw [← hq_]; exact zqxb23_5⟩; have n2_ : Aside0 (Below w.heap.size w w12) := ⟨by rw [← hq_]; exact zqxb23_6⟩; clear BK1011 BK1012 HB hq_; have BK1011 := n0_; have BK1012 := n1_; have HB := n2_; clear n0_ n1_ n2_)); obtain ⟨i013, hi013, _, hsz13, _⟩ := info_parts info5; obtain ⟨hcut13, hA13, hC13⟩ := print_take_of (P := Try.prog) (Value.int .u8) 0 24 5 .i64 Try.underlying24 hi013 hsz13 A0 c0 l0 t1013 (zod zqxb23_12) (zod zqxb23_12) HC0.out; have HR1016 := zam (Kd.C_of_reads (h1 := fun _ => rfl) (hA13 _ (Kd.reads_of_C HR0.out))); have HC1016 := zam hC13; clear hA13 hC13 hi013 hsz13) | ((with_reducible refine gate_dst (N := 27) rfl ?_); refine lits_event (Kd.slice 5 (Kd.int .u8)) 24 ?hg (N := 27) ?hd (xs := ([l0.take (t1013 : Int).toNat] : List (List Int))) (inner := [.slice A0 (l0.take (t1013 : Int).toNat).length c0]) ?hr ?hp (by simp) ?_; (case hd => rfl); (case hg => rfl); (case hr => first | (go_simp; done) | (go_simp; rfl)); (case hp => exact (Reps.one (show Kd.K (Kd.slice 5 (Kd.int .u8)) _ (l0.take (t1013 : Int).toNat) [.slice A0 (l0.take (t1013 : Int).toNat).length c0] from by refine ⟨_, _, rfl, ?_, ?_⟩; (· exact HC1016.out); (· repeat (first | exact (Kd.C_below HR1016.out HB.out) | (with_reducible refine Kd.C_alloc ?_ _) | (with_reducible refine Kd.C_drewN ?_ _) | (with_reducible refine Kd.C_drew ?_)))) (Reps.none _ _))); intro v15_ w14 hL_ hb; (first | rw [← Ny1017.out] at hL_ | (simp only [Int.reduceToNat] at hL_; rw [← Ny1017.out] at hL_)); obtain ⟨A15, c15, rfl, hlr_, hlc_⟩ := hL_; have n0_ := zam (blk_below (g := gb1011) (o := .cells #[.int .u8 0, .int .u16 0, .bool false, .bool false, .int .i64 0, .int .u8 0, .int .u8 0, .int .u32 0, .int .u32 0, .slice none 0 0, .slice none 0 0] 43 (0, 0)) zqxb23_1 hb); have n1_ := zam (blk_below (g := gb1012) (o := .cells #[.int .u8 0, .int .u16 0, .bool false, .bool false, .int .i64 0, .int .u8 0, .int .u8 0, .int .u32 0, .int .u32 0, .slice none 0 0, .slice none 0 0] 43 (0, 0)) zqxb23_5 hb); have n2_ := zam (below_step zqxb23_6 hb); have n3_ := zam (hlc_); have n4_ := zam (hlr_); clear BK1011; clear BK1012; clear HB; have BK1011 := n0_; have BK1012 := n1_; have HB := n2_; have HR1020 := n3_; have HC1020 := n4_; clear n0_ n1_ n2_ n3_ n4_; clear hb hlr_ hlc_) | ((with_reducible refine gate_callee (f := 56) rfl ?_); refine goesL_ (some 28) rfl rfl Try.func56 (by kernel_rfl) rfl #[.slice A15 y1017.length c15] rfl zqxb23_9 ?_; (with_reducible refine (weftref3_Sum.calls k _ _ y1017 t1021 _ ?side1 ?side2 A7.out).mono ?_); (case side1 => repeat (first | exact zqxb23_10 | (with_reducible refine Kd.C_alloc ?_ _) | (with_reducible refine Kd.C_drewN ?_ _) | (with_reducible refine Kd.C_drew ?_))); (case side2 => exact HC1020.out); rintro e w16 ⟨rfl, hb⟩; refine ⟨_, rfl, ?_⟩; have n0_ := zam (blk_below (g := gb1011) (o := .cells #[.int .u8 0, .int .u16 0, .bool false, .bool false, .int .i64 0, .int .u8 0, .int .u8 0, .int .u32 0, .int .u32 0, .slice none 0 0, .slice none 0 0] 43 (0, 0)) zqxb23_1 hb); have n1_ := zam (blk_below (g := gb1012) (o := .cells #[.int .u8 0, .int .u16 0, .bool false, .bool false, .int .i64 0, .int .u8 0, .int .u8 0, .int .u32 0, .int .u32 0, .slice none 0 0, .slice none 0 0] 43 (0, 0)) zqxb23_5 hb); have n2_ := zam (Kd.C_below zqxb23_10 hb); have n3_ := zam (below_step zqxb23_6 hb); clear BK1011; clear BK1012; clear HR1020; clear HB; have BK1011 := n0_; have BK1012 := n1_; have HR1020 := n2_; have HB := n3_; clear n0_ n1_ n2_ n3_; (try clear hb); (try clear hb2); (try clear hk); (try clear hi); have p1022 : 0 ≤ (6 : Int) := (by omega); have q1022 : 6 < (l0.length : Int) := zod zqxb23_12; obtain ⟨ad1022, e1022, hx1022_0⟩ := Kd.at_int HR0.out 6 p1022 q1022; cases e1022; (try simp only [show (6 : Int).toNat = 6 from rfl, Nat.reduceMul, Nat.reduceEqDiff, Go.Addr.add, ↓reduceIte] at hx1022_0); have qi1022 : (6 < l0.length) = True := eq_true (by omega); (try rw [show ((6 : Int)).toNat = 6 from rfl] at hx1022_0); replace hx1022_0 := (HB.out.cell (World.block_lt_of_cell? w _ hx1022_0)).trans hx1022_0; replace p1022 := eq_true p1022; replace q1022 := eq_true q1022; have hnb17 := NB1012_1011.out; have hnc17 := NB1011_1012.out; have hcz18_0 : w16.cell? ⟨gb1012, 0, none⟩ = some (.int .u8 0) := (zbc BK1012.out 0).trans rfl; have hcz18_1 : w16.cell? ⟨gb1012, 1, none⟩ = some (.int .u16 0) := (zbc BK1012.out 1).trans rfl; have hcz18_2 : w16.cell? ⟨gb1012, 2, none⟩ = some (.bool false) := (zbc BK1012.out 2).trans rfl; have hcz18_3 : w16.cell? ⟨gb1012, 3, none⟩ = some (.bool false) := (zbc BK1012.out 3).trans rfl; have hcz18_4 : w16.cell? ⟨gb1012, 4, none⟩ = some (.int .i64 0) := (zbc BK1012.out 4).trans rfl; have hcz18_5 : w16.cell? ⟨gb1012, 5, none⟩ = some (.int .u8 0) := (zbc BK1012.out 5).trans rfl; have hcz18_6 : w16.cell? ⟨gb1012, 6, none⟩ = some (.int .u8 0) := (zbc BK1012.out 6).trans rfl; have hcz18_7 : w16.cell? ⟨gb1012, 7, none⟩ = some (.int .u32 0) := (zbc BK1012.out 7).trans rfl; have hcz18_8 : w16.cell? ⟨gb1012, 8, none⟩ = some (.int .u32 0) := (zbc BK1012.out 8).trans rfl; have hcz18_9 : w16.cell? ⟨gb1012, 9, none⟩ = some (.slice none 0 0) := (zbc BK1012.out 9).trans rfl; have hcz18_10 : w16.cell? ⟨gb1012, 10, none⟩ = some (.slice none 0 0) := (zbc BK1012.out 10).trans rfl; have hfz18_0 := zbf BK1012.out 0; have hfz18_1 := zbf BK1012.out 1; have hfz18_2 := zbf BK1012.out 2; have hfz18_3 := zbf BK1012.out 3; have hfz18_4 := zbf BK1012.out 4; have hfz18_5 := zbf BK1012.out 5; have hfz18_6 := zbf BK1012.out 6; have hfz18_7 := zbf BK1012.out 7; have hfz18_8 := zbf BK1012.out 8; have hfz18_9 := zbf BK1012.out 9; have hfz18_10 := zbf BK1012.out 10; have hcz19_0 : w16.cell? ⟨gb1011, 0, none⟩ = some (.int .u8 0) := (zbc BK1011.out 0).trans rfl; have hcz19_1 : w16.cell? ⟨gb1011, 1, none⟩ = some (.int .u16 0) := (zbc BK1011.out 1).trans rfl; have hcz19_2 : w16.cell? ⟨gb1011, 2, none⟩ = some (.bool false) := (zbc BK1011.out 2).trans rfl; have hcz19_3 : w16.cell? ⟨gb1011, 3, none⟩ = some (.bool false) := (zbc BK1011.out 3).trans rfl; have hcz19_4 : w16.cell? ⟨gb1011, 4, none⟩ = some (.int .i64 0) := (zbc BK1011.out 4).trans rfl; have hcz19_5 : w16.cell? ⟨gb1011, 5, none⟩ = some (.int .u8 0) := (zbc BK1011.out 5).trans rfl; have hcz19_6 : w16.cell? ⟨gb1011, 6, none⟩ = some (.int .u8 0) := (zbc BK1011.out 6).trans rfl; have hcz19_7 : w16.cell? ⟨gb1011, 7, none⟩ = some (.int .u32 0) := (zbc BK1011.out 7).trans rfl; have hcz19_8 : w16.cell? ⟨gb1011, 8, none⟩ = some (.int .u32 0) := (zbc BK1011.out 8).trans rfl; have hcz19_9 : w16.cell? ⟨gb1011, 9, none⟩ = some (.slice none 0 0) := (zbc BK1011.out 9).trans rfl; have hcz19_10 : w16.cell? ⟨gb1011, 10, none⟩ = some (.slice none 0 0) := (zbc BK1011.out 10).trans rfl; have hfz19_0 := zbf BK1011.out 0; have hfz19_1 := zbf BK1011.out 1; have hfz19_2 := zbf BK1011.out 2; have hfz19_3 := zbf BK1011.out 3; have hfz19_4 := zbf BK1011.out 4; have hfz19_5 := zbf BK1011.out 5; have hfz19_6 := zbf BK1011.out 6; have hfz19_7 := zbf BK1011.out 7; have hfz19_8 := zbf BK1011.out 8; have hfz19_9 := zbf BK1011.out 9; have hfz19_10 := zbf BK1011.out 10))
       refine bodyPost_ret (results_ct rfl _ _ gb1011 43 #[.int .u8 0, .int .u16 0, .bool false, .bool false, .int .i64 0, .int .u8 0, .int .u8 0, .int .u32 0, .int .u32 0, .slice none 0 0, .slice none 0 0] (0, 0) _ rfl zqxb23_0 Try.underlying43 rfl (by kernel_rfl)) rfl ?_
       exact ⟨_, _, by first | rfl | (simp [errW_none, errW_some] <;> rfl) | (simp [*, errW_none, errW_some] <;> rfl), by first | exact Kd.R_nil _ _ _ _ _ | exact Kd.N_nil _ _ _ _ _ | exact Kd.V_nil _ _ _ _ _ | exact Kd.Q_nil _ _ _ _ _ | exact Kd.S_nil _ _ _ _ _, by first | exact Kd.R_nil _ _ _ _ _ | exact Kd.N_nil _ _ _ _ _ | exact Kd.V_nil _ _ _ _ _ | exact Kd.Q_nil _ _ _ _ _ | exact Kd.S_nil _ _ _ _ _, by repeat (first | (with_reducible first | exact HB.out | apply below_alloc | apply pw_below_drewN | apply below_drew1 | refine below_set ?_ GE1011.out | refine below_set ?_ GE1012.out) | exact HB.out)⟩
      ·
       rw [if_neg c10] at H
       have c10b0 : decide (4 ≤ (wrap64 (Int.tdiv (wrap64 (rd l0 6)) 32))) = false := decide_eq_false c10
       clear c10
       by_cases c20 : 20 ≤ t1013
       ·
        rw [if_pos c20] at H
        have c20b0 := eq_true c20
        have c20b1 : decide (20 ≤ t1013) = true := decide_eq_true c20
        clear c20
        have c21b0 := eq_true (zod zqxb23_12 : t1013 ≤ (l0.length : Int))
        replace H := Option.bind_eq_some_iff.mp H
        obtain ⟨t1024, A220, H⟩ := H
        replace H : (if t1024 = true then ((weftref3_two.f l0 6).bind fun t1025 => ((weftref3_Piece.f (wrap64 (8 * (Int.tmod t1025 8192))) (wrap64 (t1014 - t1013)) ((Int.tmod (wrap64 (Int.tdiv (wrap64 (rd l0 6)) 32)) 2) == 1)).bind fun t1026 => (if t1026 = true then (if t1014 > (l0.length : Int) then (weftref3_read.j0 k l0 t1013 (l0.length : Int) (wrap64 (Int.tdiv (wrap64 (rd l0 6)) 32)) (wrap64 (8 * (Int.tmod t1025 8192)))) else (weftref3_read.j0 k l0 t1013 t1014 (wrap64 (Int.tdiv (wrap64 (rd l0 6)) 32)) (wrap64 (8 * (Int.tmod t1025 8192))))) else (some (0, 0, false, false, 0, 0, 0, 0, 0, ([] : List Int), ([] : List Int), 36))))) else (some (0, 0, false, false, 0, 0, 0, 0, 0, ([] : List Int), ([] : List Int), 34))) = some (r1, r2, r3, r4, r5, r6, r7, r8, r9, r10, r11, r12) := H
        have A22 := zam A220
        clear A220
        by_cases c23 : t1024 = true
        ·
         subst c23
         have H1 : ((weftref3_two.f l0 6).bind fun t1025 => ((weftref3_Piece.f (wrap64 (8 * (Int.tmod t1025 8192))) (wrap64 (t1014 - t1013)) ((Int.tmod (wrap64 (Int.tdiv (wrap64 (rd l0 6)) 32)) 2) == 1)).bind fun t1026 => (if t1026 = true then (if t1014 > (l0.length : Int) then (weftref3_read.j0 k l0 t1013 (l0.length : Int) (wrap64 (Int.tdiv (wrap64 (rd l0 6)) 32)) (wrap64 (8 * (Int.tmod t1025 8192)))) else (weftref3_read.j0 k l0 t1013 t1014 (wrap64 (Int.tdiv (wrap64 (rd l0 6)) 32)) (wrap64 (8 * (Int.tmod t1025 8192))))) else (some (0, 0, false, false, 0, 0, 0, 0, 0, ([] : List Int), ([] : List Int), 36))))) = some (r1, r2, r3, r4, r5, r6, r7, r8, r9, r10, r11, r12) := by rw [if_pos rfl] at H; exact H
         clear H
         have H := H1
         clear H1
         replace H := Option.bind_eq_some_iff.mp H
         obtain ⟨t1025, A240, H⟩ := H
         replace H : ((weftref3_Piece.f (wrap64 (8 * (Int.tmod t1025 8192))) (wrap64 (t1014 - t1013)) ((Int.tmod (wrap64 (Int.tdiv (wrap64 (rd l0 6)) 32)) 2) == 1)).bind fun t1026 => (if t1026 = true then (if t1014 > (l0.length : Int) then (weftref3_read.j0 k l0 t1013 (l0.length : Int) (wrap64 (Int.tdiv (wrap64 (rd l0 6)) 32)) (wrap64 (8 * (Int.tmod t1025 8192)))) else (weftref3_read.j0 k l0 t1013 t1014 (wrap64 (Int.tdiv (wrap64 (rd l0 6)) 32)) (wrap64 (8 * (Int.tmod t1025 8192))))) else (some (0, 0, false, false, 0, 0, 0, 0, 0, ([] : List Int), ([] : List Int), 36)))) = some (r1, r2, r3, r4, r5, r6, r7, r8, r9, r10, r11, r12) := H
         have A24 := zam A240
         clear A240
         replace H := Option.bind_eq_some_iff.mp H
         obtain ⟨t1026, A250, H⟩ := H
         replace H : (if t1026 = true then (if t1014 > (l0.length : Int) then (weftref3_read.j0 k l0 t1013 (l0.length : Int) (wrap64 (Int.tdiv (wrap64 (rd l0 6)) 32)) (wrap64 (8 * (Int.tmod t1025 8192)))) else (weftref3_read.j0 k l0 t1013 t1014 (wrap64 (Int.tdiv (wrap64 (rd l0 6)) 32)) (wrap64 (8 * (Int.tmod t1025 8192))))) else (some (0, 0, false, false, 0, 0, 0, 0, 0, ([] : List Int), ([] : List Int), 36))) = some (r1, r2, r3, r4, r5, r6, r7, r8, r9, r10, r11, r12) := H
         have A25 := zam A250
         clear A250
         by_cases c26 : t1026 = true
         ·
          subst c26
          have H1 : (if t1014 > (l0.length : Int) then (weftref3_read.j0 k l0 t1013 (l0.length : Int) (wrap64 (Int.tdiv (wrap64 (rd l0 6)) 32)) (wrap64 (8 * (Int.tmod t1025 8192)))) else (weftref3_read.j0 k l0 t1013 t1014 (wrap64 (Int.tdiv (wrap64 (rd l0 6)) 32)) (wrap64 (8 * (Int.tmod t1025 8192))))) = some (r1, r2, r3, r4, r5, r6, r7, r8, r9, r10, r11, r12) := by rw [if_pos rfl] at H; exact H
          clear H
          have H := H1
          clear H1
          have HC27 := zam H
          clear H
          go_enter Try.func73, Try.ntmps73
          go_upto_if 62 with (first | ((with_reducible refine gate_dst (N := 4) rfl ?_); refine box_event ?hg (N := 4) ?hd (cs := #[.int .u8 0, .int .u16 0, .bool false, .bool false, .int .i64 0, .int .u8 0, .int .u8 0, .int .u32 0, .int .u32 0, .slice none 0 0, .slice none 0 0]) (t := 43) ?hr ?_; (case hd => rfl); (case hg => rfl); (case hr => first | (go_simp; done) | (go_simp; rfl)); intro gb1011 hg w28 hbox hb; have n0_ := zam (below_step zqxb23_8 hb); have n1_ := zam (hbox); have n2_ := zam ((by rw [hg]; exact (below_size zqxb23_8) : w.heap.size ≤ gb1011)); have n3_ := zam ((by rw [hg]; exact (below_size zqxb23_8) : w.heap.size ≤ gb1011)); clear HB; have HB := n0_; have BK1011 := n1_; have GW1011 := n2_; have GE1011 := n3_; clear n0_ n1_ n2_ n3_; clear hb hbox hg) | ((with_reducible refine gate_dst (N := 6) rfl ?_); refine box_event ?hg (N := 6) ?hd (cs := #[.int .u8 0, .int .u16 0, .bool false, .bool false, .int .i64 0, .int .u8 0, .int .u8 0, .int .u32 0, .int .u32 0, .slice none 0 0, .slice none 0 0]) (t := 43) ?hr ?_; (case hd => rfl); (case hg => rfl); (case hr => first | (go_simp; done) | (go_simp; rfl)); intro gb1012 hg w29 hbox hb; have n0_ := zam (blk_below (g := gb1011) (o := .cells #[.int .u8 0, .int .u16 0, .bool false, .bool false, .int .i64 0, .int .u8 0, .int .u8 0, .int .u32 0, .int .u32 0, .slice none 0 0, .slice none 0 0] 43 (0, 0)) zqxb23_1 hb); have n1_ := zam (below_step zqxb23_7 hb); have n2_ := zam (hbox); have n3_ := zam ((by rw [hg]; exact (below_size zqxb23_7) : w.heap.size ≤ gb1012)); have n4_ := zam ((by rw [hg]; exact (below_size zqxb23_7) : w.heap.size ≤ gb1012)); have n5_ := zam ((by rw [hg]; exact Nat.ne_of_lt (blk_lt (g := gb1011) (o := .cells #[.int .u8 0, .int .u16 0, .bool false, .bool false, .int .i64 0, .int .u8 0, .int .u8 0, .int .u32 0, .int .u32 0, .slice none 0 0, .slice none 0 0] 43 (0, 0)) zqxb23_1) : gb1011 ≠ gb1012)); have n6_ := zam ((by rw [hg]; exact Nat.ne_of_gt (blk_lt (g := gb1011) (o := .cells #[.int .u8 0, .int .u16 0, .bool false, .bool false, .int .i64 0, .int .u8 0, .int .u8 0, .int .u32 0, .int .u32 0, .slice none 0 0, .slice none 0 0] 43 (0, 0)) zqxb23_1) : gb1012 ≠ gb1011)); clear BK1011; clear HB; have BK1011 := n0_; have HB := n1_; have BK1012 := n2_; have GW1012 := n3_; have GE1012 := n4_; have NB1011_1012 := n5_; have NB1012_1011 := n6_; clear n0_ n1_ n2_ n3_ n4_ n5_ n6_; clear hb hbox hg) | ((with_reducible refine gate_callee (f := 81) rfl ?_); refine goesL_ (some 16) rfl rfl Try.func81 (by kernel_rfl) rfl #[.slice A0 l0.length c0, .bool a1] rfl zqxb23_9 ?_; (with_reducible refine (weftref3_front.calls _ _ l0 a1 t1013 t1014 t1015 _ ?side1 ?side2 A3.out).mono ?_); (case side1 => repeat (first | exact (Kd.C_below HR0.out HB.out) | (with_reducible refine Kd.C_alloc ?_ _) | (with_reducible refine Kd.C_drewN ?_ _) | (with_reducible refine Kd.C_drew ?_))); (case side2 => exact HC0.out); rintro e w' ⟨rfl, ⟨nd, rfl⟩⟩; refine ⟨_, rfl, ?_⟩; obtain ⟨i030, hi030, _, hsz30, _⟩ := info_parts info5; obtain ⟨hcut30, hA30, hC30⟩ := print_take_of (P := Try.prog) (Value.int .u8) 0 24 5 .i64 Try.underlying24 hi030 hsz30 A0 c0 l0 t1013 (zod zqxb23_12) (zod zqxb23_12) HC0.out; have HR1016 := zam (Kd.C_of_reads (h1 := fun _ => rfl) (hA30 _ (Kd.reads_of_C HR0.out))); have HC1016 := zam hC30; clear hA30 hC30 hi030 hsz30) | ((with_reducible refine gate_dst (N := 27) rfl ?_); refine lits_event (Kd.slice 5 (Kd.int .u8)) 24 ?hg (N := 27) ?hd (xs := ([l0.take (t1013 : Int).toNat] : List (List Int))) (inner := [.slice A0 (l0.take (t1013 : Int).toNat).length c0]) ?hr ?hp (by simp) ?_; (case hd => rfl); (case hg => rfl); (case hr => first | (go_simp; done) | (go_simp; rfl)); (case hp => exact (Reps.one (show Kd.K (Kd.slice 5 (Kd.int .u8)) _ (l0.take (t1013 : Int).toNat) [.slice A0 (l0.take (t1013 : Int).toNat).length c0] from by refine ⟨_, _, rfl, ?_, ?_⟩; (· exact HC1016.out); (· repeat (first | exact (Kd.C_below HR1016.out zqxb23_6) | (with_reducible refine Kd.C_alloc ?_ _) | (with_reducible refine Kd.C_drewN ?_ _) | (with_reducible refine Kd.C_drew ?_)))) (Reps.none _ _))); intro v32_ w31 hL_ hb; (first | rw [← Ny1017.out] at hL_ | (simp only [Int.reduceToNat] at hL_; rw [← Ny1017.out] at hL_)); obtain ⟨A32, c32, rfl, hlr_, hlc_⟩ := hL_; have n0_ := zam (blk_below (g := gb1011) (o := .cells #[.int .u8 0, .int .u16 0, .bool false, .bool false, .int .i64 0, .int .u8 0, .int .u8 0, .int .u32 0, .int .u32 0, .slice none 0 0, .slice none 0 0] 43 (0, 0)) zqxb23_1 hb); have n1_ := zam (blk_below (g := gb1012) (o := .cells #[.int .u8 0, .int .u16 0, .bool false, .bool false, .int .i64 0, .int .u8 0, .int .u8 0, .int .u32 0, .int .u32 0, .slice none 0 0, .slice none 0 0] 43 (0, 0)) zqxb23_5 hb); have n2_ := zam (below_step zqxb23_6 hb); have n3_ := zam (hlc_); have n4_ := zam (hlr_); clear BK1011; clear BK1012; clear HB; have BK1011 := n0_; have BK1012 := n1_; have HB := n2_; have HR1020 := n3_; have HC1020 := n4_; clear n0_ n1_ n2_ n3_ n4_; clear hb hlr_ hlc_) | ((with_reducible refine gate_callee (f := 56) rfl ?_); refine goesL_ (some 28) rfl rfl Try.func56 (by kernel_rfl) rfl #[.slice A32 y1017.length c32] rfl zqxb23_9 ?_; (with_reducible refine (weftref3_Sum.calls k _ _ y1017 t1021 _ ?side1 ?side2 A7.out).mono ?_); (case side1 => repeat (first | exact zqxb23_10 | (with_reducible refine Kd.C_alloc ?_ _) | (with_reducible refine Kd.C_drewN ?_ _) | (with_reducible refine Kd.C_drew ?_))); (case side2 => exact HC1020.out); rintro e w33 ⟨rfl, hb⟩; refine ⟨_, rfl, ?_⟩; have n0_ := zam (blk_below (g := gb1011) (o := .cells #[.int .u8 0, .int .u16 0, .bool false, .bool false, .int .i64 0, .int .u8 0, .int .u8 0, .int .u32 0, .int .u32 0, .slice none 0 0, .slice none 0 0] 43 (0, 0)) zqxb23_1 hb); have n1_ := zam (blk_below (g := gb1012) (o := .cells #[.int .u8 0, .int .u16 0, .bool false, .bool false, .int .i64 0, .int .u8 0, .int .u8 0, .int .u32 0, .int .u32 0, .slice none 0 0, .slice none 0 0] 43 (0, 0)) zqxb23_5 hb); have n2_ := zam (Kd.C_below zqxb23_10 hb); have n3_ := zam (below_step zqxb23_6 hb); clear BK1011; clear BK1012; clear HR1020; clear HB; have BK1011 := n0_; have BK1012 := n1_; have HR1020 := n2_; have HB := n3_; clear n0_ n1_ n2_ n3_; (try clear hb); (try clear hb2); (try clear hk); (try clear hi); have p1022 : 0 ≤ (6 : Int) := (by omega); have q1022 : 6 < (l0.length : Int) := zod zqxb23_12; obtain ⟨ad1022, e1022, hx1022_0⟩ := Kd.at_int HR0.out 6 p1022 q1022; cases e1022; (try simp only [show (6 : Int).toNat = 6 from rfl, Nat.reduceMul, Nat.reduceEqDiff, Go.Addr.add, ↓reduceIte] at hx1022_0); have qi1022 : (6 < l0.length) = True := eq_true (by omega); (try rw [show ((6 : Int)).toNat = 6 from rfl] at hx1022_0); replace hx1022_0 := (HB.out.cell (World.block_lt_of_cell? w _ hx1022_0)).trans hx1022_0; replace p1022 := eq_true p1022; replace q1022 := eq_true q1022; obtain ⟨i034, hi034, _, hsz34, _⟩ := info_parts info5; obtain ⟨A34, hcut34, hA34, hC34⟩ := print_mid_of (P := Try.prog) (Value.int .u8) 0 24 5 .i64 .i64 Try.underlying24 hi034 hsz34 (some ad1022) c0 l0 20 t1013 (by omega) zqxb23_16 (zod zqxb23_12) HC0.out; have HR1023 := zam (Kd.C_of_reads (h1 := fun _ => rfl) (hA34 _ (Kd.reads_of_C HR0.out))); have HC1023 := zam hC34; clear hA34 hC34 hi034 hsz34) | ((with_reducible refine gate_callee (f := 74) rfl ?_); refine goesL_ (some 42) rfl rfl Try.func74 (by kernel_rfl) rfl #[.slice A34 ((l0.take (t1013 : Int).toNat).drop 20).length (c0 - 20)] rfl zqxb23_14 ?_; (with_reducible refine (weftref3_Area.calls k _ _ ((l0.take (t1013 : Int).toNat).drop 20) true _ ?side1 ?side2 A22.out).mono ?_); (case side1 => repeat (first | exact (Kd.C_below HR1023.out HB.out) | (with_reducible refine Kd.C_alloc ?_ _) | (with_reducible refine Kd.C_drewN ?_ _) | (with_reducible refine Kd.C_drew ?_))); (case side2 => exact HC1023.out); rintro e w' ⟨rfl, ⟨nd, rfl⟩⟩; refine ⟨_, rfl, ?_⟩) | ((with_reducible refine gate_callee (f := 82) rfl ?_); refine goesL_ (some 46) rfl rfl Try.func82 (by kernel_rfl) rfl #[.slice (some ad1022) l0.length c0, .int .i64 6] rfl zqxb23_9 ?_; (with_reducible refine (weftref3_two.calls _ _ l0 6 t1025 _ ?side1 ?side2 A24.out).mono ?_); (case side1 => repeat (first | exact (Kd.C_below HR0.out zqxb23_6) | (with_reducible refine Kd.C_alloc ?_ _) | (with_reducible refine Kd.C_drewN ?_ _) | (with_reducible refine Kd.C_drew ?_))); (case side2 => exact HC0.out); rintro e w' ⟨rfl, ⟨nd, rfl⟩⟩; refine ⟨_, rfl, ?_⟩) | ((with_reducible refine gate_callee (f := 79) rfl ?_); refine goesL_ (some 56) rfl rfl Try.func79 (by kernel_rfl) rfl #[.int .i64 (wrap64 (8 * (Int.tmod t1025 8192))), .int .i64 (wrap64 (t1014 - t1013)), .bool ((Int.tmod (wrap64 (Int.tdiv (wrap64 (rd l0 6)) 32)) 2) == 1)] rfl zqxb23_9 ?_; (with_reducible refine (weftref3_Piece.calls (wrap64 (8 * (Int.tmod t1025 8192))) (wrap64 (t1014 - t1013)) ((Int.tmod (wrap64 (Int.tdiv (wrap64 (rd l0 6)) 32)) 2) == 1) true _ A25.out).mono ?_); rintro e w' ⟨rfl, ⟨nd, rfl⟩⟩; refine ⟨_, rfl, ?_⟩))
          (try simp only [Act.put, List.setIfInBounds_toArray, List.set_cons_zero, List.set_cons_succ])
          go_cut [8] (fun v8 wc => ∃ (kq : Nat) (x8_26 : Int), v8 = .int .i64 x8_26 ∧ Aside0 (weftref3_read.j0 kq l0 t1013 x8_26 (wrap64 (Int.tdiv (wrap64 (rd l0 6)) 32)) (wrap64 (8 * (Int.tmod t1025 8192))) = some (r1, r2, r3, r4, r5, r6, r7, r8, r9, r10, r11, r12)) ∧ Aside0 (kq ≤ k) ∧ Aside0 (wc.heap[gb1011]? = some (.cells #[.int .u8 0, .int .u16 0, .bool false, .bool false, .int .i64 0, .int .u8 0, .int .u8 0, .int .u32 0, .int .u32 0, (.slice none 0 0), (.slice none 0 0)] 43 (0, 0))) ∧ Aside0 (wc.heap[gb1012]? = some (.cells #[.int .u8 0, .int .u16 0, .bool false, .bool false, .int .i64 0, .int .u8 0, .int .u8 0, .int .u32 0, .int .u32 0, (.slice none 0 0), (.slice none 0 0)] 43 (0, 0))) ∧ Aside0 (Below w.heap.size w wc))
          case first =>
           have H := HC27.out
           clear HC27
           by_cases c35 : t1014 > (l0.length : Int)
           ·
            rw [if_pos c35] at H
            have c35b0 : decide ((l0.length : Int) < t1014) = true := decide_eq_true c35
            clear c35
            (first | rw [c35b0] | (simp only [i64_w, i32_w]; rw [c35b0]) | skip)
            have H' := zam H
            clear H
            go_wp2
            go_meet
            case rel => exact ⟨_, ((l0.length : Int)), (by first | rfl | (simp; done) | (simp [*]; done)), H', ⟨by first | omega | exact Nat.le_refl _⟩, ⟨by first | (with_reducible exact BK1011.out) | (with_reducible exact zdn BK1011.out _) | (with_reducible exact zdr BK1011.out) | ((with_reducible repeat (first | refine zdn ?_ _ | refine zdr ?_ | refine blk_alloc ?_ _)); exact BK1011.out)⟩, ⟨by first | (with_reducible exact BK1012.out) | (with_reducible exact zdn BK1012.out _) | (with_reducible exact zdr BK1012.out) | ((with_reducible repeat (first | refine zdn ?_ _ | refine zdr ?_ | refine blk_alloc ?_ _)); exact BK1012.out)⟩, ⟨by repeat (first | (with_reducible first | exact HB.out | apply below_alloc | apply pw_below_drewN | apply below_drew1 | refine below_set ?_ GE1011.out | refine below_set ?_ GE1012.out) | exact HB.out)⟩⟩
           ·
            rw [if_neg c35] at H
            have c35b0 : decide ((l0.length : Int) < t1014) = false := decide_eq_false c35
            clear c35
            (first | rw [c35b0] | (simp only [i64_w, i32_w]; rw [c35b0]) | skip)
            have H' := zam H
            clear H
            go_wp2
            go_meet
            case rel => exact ⟨_, (t1014), (by first | rfl | (simp; done) | (simp [*]; done)), H', ⟨by first | omega | exact Nat.le_refl _⟩, ⟨by first | (with_reducible exact BK1011.out) | (with_reducible exact zdn BK1011.out _) | (with_reducible exact zdr BK1011.out) | ((with_reducible repeat (first | refine zdn ?_ _ | refine zdr ?_ | refine blk_alloc ?_ _)); exact BK1011.out)⟩, ⟨by first | (with_reducible exact BK1012.out) | (with_reducible exact zdn BK1012.out _) | (with_reducible exact zdr BK1012.out) | ((with_reducible repeat (first | refine zdn ?_ _ | refine zdr ?_ | refine blk_alloc ?_ _)); exact BK1012.out)⟩, ⟨by repeat (first | (with_reducible first | exact HB.out | apply below_alloc | apply pw_below_drewN | apply below_drew1 | refine below_set ?_ GE1011.out | refine below_set ?_ GE1012.out) | exact HB.out)⟩⟩
          case rest =>
           clear HC27
           try clear c1
           try clear p1
           try clear q1
           try clear hx1
           try clear qi1
           try clear c2
           try clear p2
           try clear c3
           try clear c4
           try clear c4b0
           try clear c4b1
           try clear c5
           try clear c5b0
           try clear c5b1
           try clear c6
           try clear c6b0
           try clear c6b1
           try clear p6
           try clear c7
           try clear c8
           try clear c8b0
           try clear c8b1
           try clear c9
           try clear c9b0
           try clear c9b1
           try clear c10
           try clear c10b0
           try clear p10
           try clear q10
           try clear hx10
           try clear qi10
           try clear c15
           try clear c17
           try clear c20
           try clear c20b0
           try clear c20b1
           try clear c21
           try clear c21b0
           try clear c23
           try clear c26
           try clear c32
           try clear c35
           try clear c35b0
           try clear hcz18_0
           try clear hcz18_1
           try clear hcz18_10
           try clear hcz18_2
           try clear hcz18_3
           try clear hcz18_4
           try clear hcz18_5
           try clear hcz18_6
           try clear hcz18_7
           try clear hcz18_8
           try clear hcz18_9
           try clear hcz19_0
           try clear hcz19_1
           try clear hcz19_10
           try clear hcz19_2
           try clear hcz19_3
           try clear hcz19_4
           try clear hcz19_5
           try clear hcz19_6
           try clear hcz19_7
           try clear hcz19_8
           try clear hcz19_9
           try clear hfz18_0
           try clear hfz18_1
           try clear hfz18_10
           try clear hfz18_2
           try clear hfz18_3
           try clear hfz18_4
           try clear hfz18_5
           try clear hfz18_6
           try clear hfz18_7
           try clear hfz18_8
           try clear hfz18_9
           try clear hfz19_0
           try clear hfz19_1
           try clear hfz19_10
           try clear hfz19_2
           try clear hfz19_3
           try clear hfz19_4
           try clear hfz19_5
           try clear hfz19_6
           try clear hfz19_7
           try clear hfz19_8
           try clear hfz19_9
           try clear hx1022_0
           try clear p1022
           try clear q1022
           obtain ⟨kq, x8_26, rfl, HA, HJ26, BK1011, BK1012, HB⟩ := hcut
           cases kq with
           | zero => exact absurd HA.out (by simp [weftref3_read.j0])
           | succ kj26 =>
            have H := HA.out
            clear HA
            simp only [weftref3_read.j0] at H
            by_cases c36 : 1 < (l0.length : Int)
            ·
             rw [if_pos c36] at H
             have c36b0 : decide (1 < (l0.length : Int)) = true := decide_eq_true c36
             have c36b1 : decide (1 < l0.length) = true := decide_eq_true (by omega)
             clear c36
             replace H := Option.bind_eq_some_iff.mp H
             obtain ⟨t1029, A370, H⟩ := H
             replace H : (if 8 < (l0.length : Int) then (if 9 < (l0.length : Int) then ((weftref3_four.f l0 12).bind fun t1032 => ((weftref3_four.f l0 16).bind fun t1033 => (if 20 ≤ t1013 then (if t1013 ≤ (l0.length : Int) then ((weftref3_clone.f kj26 ((l0.take (t1013 : Int).toNat).drop 20)).bind fun t1035 => (if 0 ≤ t1013 then (if t1013 ≤ x8_26 then (if x8_26 ≤ (l0.length : Int) then ((weftref3_clone.f kj26 ((l0.take (x8_26 : Int).toNat).drop (t1013 : Int).toNat)).bind fun t1039 => (some (rd l0 1, IntKind.u16.wrap (t1029), ((wrap64 (Int.tdiv (wrap64 (Int.tdiv (wrap64 (rd l0 6)) 32)) 2)) == 1), ((Int.tmod (wrap64 (Int.tdiv (wrap64 (rd l0 6)) 32)) 2) == 1), (wrap64 (8 * (Int.tmod t1025 8192))), rd l0 8, rd l0 9, (t1032) % 4294967296, (t1033) % 4294967296, t1035, t1039, 0))) else (none)) else (none)) else (none))) else (none)) else (none)))) else (none)) else (none)) = some (r1, r2, r3, r4, r5, r6, r7, r8, r9, r10, r11, r12) := H
             have A37 := zam A370
             clear A370
             by_cases c38 : 8 < (l0.length : Int)
             ·
              rw [if_pos c38] at H
              have c38b0 : decide (8 < (l0.length : Int)) = true := decide_eq_true c38
              have c38b1 : decide (8 < l0.length) = true := decide_eq_true (by omega)
              clear c38
              by_cases c39 : 9 < (l0.length : Int)
              ·
               rw [if_pos c39] at H
               have c39b0 : decide (9 < (l0.length : Int)) = true := decide_eq_true c39
               have c39b1 : decide (9 < l0.length) = true := decide_eq_true (by omega)
               clear c39
               replace H := Option.bind_eq_some_iff.mp H
               obtain ⟨t1032, A400, H⟩ := H
               replace H : ((weftref3_four.f l0 16).bind fun t1033 => (if 20 ≤ t1013 then (if t1013 ≤ (l0.length : Int) then ((weftref3_clone.f kj26 ((l0.take (t1013 : Int).toNat).drop 20)).bind fun t1035 => (if 0 ≤ t1013 then (if t1013 ≤ x8_26 then (if x8_26 ≤ (l0.length : Int) then ((weftref3_clone.f kj26 ((l0.take (x8_26 : Int).toNat).drop (t1013 : Int).toNat)).bind fun t1039 => (some (rd l0 1, IntKind.u16.wrap (t1029), ((wrap64 (Int.tdiv (wrap64 (Int.tdiv (wrap64 (rd l0 6)) 32)) 2)) == 1), ((Int.tmod (wrap64 (Int.tdiv (wrap64 (rd l0 6)) 32)) 2) == 1), (wrap64 (8 * (Int.tmod t1025 8192))), rd l0 8, rd l0 9, (t1032) % 4294967296, (t1033) % 4294967296, t1035, t1039, 0))) else (none)) else (none)) else (none))) else (none)) else (none))) = some (r1, r2, r3, r4, r5, r6, r7, r8, r9, r10, r11, r12) := H
               have A40 := zam A400
               clear A400
               replace H := Option.bind_eq_some_iff.mp H
               obtain ⟨t1033, A410, H⟩ := H
               replace H : (if 20 ≤ t1013 then (if t1013 ≤ (l0.length : Int) then ((weftref3_clone.f kj26 ((l0.take (t1013 : Int).toNat).drop 20)).bind fun t1035 => (if 0 ≤ t1013 then (if t1013 ≤ x8_26 then (if x8_26 ≤ (l0.length : Int) then ((weftref3_clone.f kj26 ((l0.take (x8_26 : Int).toNat).drop (t1013 : Int).toNat)).bind fun t1039 => (some (rd l0 1, IntKind.u16.wrap (t1029), ((wrap64 (Int.tdiv (wrap64 (Int.tdiv (wrap64 (rd l0 6)) 32)) 2)) == 1), ((Int.tmod (wrap64 (Int.tdiv (wrap64 (rd l0 6)) 32)) 2) == 1), (wrap64 (8 * (Int.tmod t1025 8192))), rd l0 8, rd l0 9, (t1032) % 4294967296, (t1033) % 4294967296, t1035, t1039, 0))) else (none)) else (none)) else (none))) else (none)) else (none)) = some (r1, r2, r3, r4, r5, r6, r7, r8, r9, r10, r11, r12) := H
               have A41 := zam A410
               clear A410
               by_cases c42 : 20 ≤ t1013
               ·
                rw [if_pos c42] at H
                have c42b0 := eq_true c42
                have c42b1 : decide (20 ≤ t1013) = true := decide_eq_true c42
                clear c42
                by_cases c43 : t1013 ≤ (l0.length : Int)
                ·
                 rw [if_pos c43] at H
                 have c43b0 := eq_true c43
                 have c43b1 : decide (t1013 ≤ (l0.length : Int)) = true := decide_eq_true c43
                 clear c43
                 replace H := Option.bind_eq_some_iff.mp H
                 obtain ⟨t1035, A440, H⟩ := H
                 replace H : (if 0 ≤ t1013 then (if t1013 ≤ x8_26 then (if x8_26 ≤ (l0.length : Int) then ((weftref3_clone.f kj26 ((l0.take (x8_26 : Int).toNat).drop (t1013 : Int).toNat)).bind fun t1039 => (some (rd l0 1, IntKind.u16.wrap (t1029), ((wrap64 (Int.tdiv (wrap64 (Int.tdiv (wrap64 (rd l0 6)) 32)) 2)) == 1), ((Int.tmod (wrap64 (Int.tdiv (wrap64 (rd l0 6)) 32)) 2) == 1), (wrap64 (8 * (Int.tmod t1025 8192))), rd l0 8, rd l0 9, (t1032) % 4294967296, (t1033) % 4294967296, t1035, t1039, 0))) else (none)) else (none)) else (none)) = some (r1, r2, r3, r4, r5, r6, r7, r8, r9, r10, r11, r12) := H
                 have A44 := zam A440
                 clear A440
                 by_cases c45 : 0 ≤ t1013
                 ·
                  rw [if_pos c45] at H
                  have c45b0 := eq_true c45
                  have c45b1 : decide (0 ≤ t1013) = true := decide_eq_true c45
                  clear c45
                  by_cases c46 : t1013 ≤ x8_26
                  ·
                   rw [if_pos c46] at H
                   have c46b0 := eq_true c46
                   have c46b1 : decide (t1013 ≤ x8_26) = true := decide_eq_true c46
                   clear c46
                   by_cases c47 : x8_26 ≤ (l0.length : Int)
                   ·
                    rw [if_pos c47] at H
                    have c47b0 := eq_true c47
                    have c47b1 : decide (x8_26 ≤ (l0.length : Int)) = true := decide_eq_true c47
                    clear c47
                    replace H := Option.bind_eq_some_iff.mp H
                    obtain ⟨t1039, A480, H⟩ := H
                    replace H : (some (rd l0 1, IntKind.u16.wrap (t1029), ((wrap64 (Int.tdiv (wrap64 (Int.tdiv (wrap64 (rd l0 6)) 32)) 2)) == 1), ((Int.tmod (wrap64 (Int.tdiv (wrap64 (rd l0 6)) 32)) 2) == 1), (wrap64 (8 * (Int.tmod t1025 8192))), rd l0 8, rd l0 9, (t1032) % 4294967296, (t1033) % 4294967296, t1035, t1039, 0)) = some (r1, r2, r3, r4, r5, r6, r7, r8, r9, r10, r11, r12) := H
                    have A48 := zam A480
                    clear A480
                    simp only [Option.some.injEq, Prod.mk.injEq] at H
                    obtain ⟨rfl, rfl, rfl, rfl, rfl, rfl, rfl, rfl, rfl, rfl, rfl, rfl⟩ := H
                    try go_wp2_with (first | ((with_reducible refine gate_dst (N := 12) rfl ?_); refine box_event ?hg (N := 12) ?hd (cs := #[.int .u8 0, .int .u16 0, .bool false, .bool false, .int .i64 0, .int .u8 0, .int .u8 0, .int .u32 0, .int .u32 0, .slice none 0 0, .slice none 0 0]) (t := 43) ?hr ?_; (case hd => rfl); (case hg => rfl); (case hr => first | (go_simp; done) | (go_simp; rfl)); intro gb1027 hg w49 hbox hb; have n0_ := zam (blk_below (g := gb1011) (o := .cells #[.int .u8 0, .int .u16 0, .bool false, .bool false, .int .i64 0, .int .u8 0, .int .u8 0, .int .u32 0, .int .u32 0, .slice none 0 0, .slice none 0 0] 43 (0, 0)) zqxb23_1 hb); have n1_ := zam (blk_below (g := gb1012) (o := .cells #[.int .u8 0, .int .u16 0, .bool false, .bool false, .int .i64 0, .int .u8 0, .int .u8 0, .int .u32 0, .int .u32 0, .slice none 0 0, .slice none 0 0] 43 (0, 0)) zqxb23_5 hb); have n2_ := zam (below_step zqxb23_6 hb); have n3_ := zam (hbox); have n4_ := zam ((by rw [hg]; exact (below_size zqxb23_6) : w.heap.size ≤ gb1027)); have n5_ := zam ((by rw [hg]; exact (below_size zqxb23_6) : w.heap.size ≤ gb1027)); have n6_ := zam ((by rw [hg]; exact Nat.ne_of_lt (blk_lt (g := gb1011) (o := .cells #[.int .u8 0, .int .u16 0, .bool false, .bool false, .int .i64 0, .int .u8 0, .int .u8 0, .int .u32 0, .int .u32 0, .slice none 0 0, .slice none 0 0] 43 (0, 0)) zqxb23_1) : gb1011 ≠ gb1027)); have n7_ := zam ((by rw [hg]; exact Nat.ne_of_gt (blk_lt (g := gb1011) (o := .cells #[.int .u8 0, .int .u16 0, .bool false, .bool false, .int .i64 0, .int .u8 0, .int .u8 0, .int .u32 0, .int .u32 0, .slice none 0 0, .slice none 0 0] 43 (0, 0)) zqxb23_1) : gb1027 ≠ gb1011)); have n8_ := zam ((by rw [hg]; exact Nat.ne_of_lt (blk_lt (g := gb1012) (o := .cells #[.int .u8 0, .int .u16 0, .bool false, .bool false, .int .i64 0, .int .u8 0, .int .u8 0, .int .u32 0, .int .u32 0, .slice none 0 0, .slice none 0 0] 43 (0, 0)) zqxb23_5) : gb1012 ≠ gb1027)); have n9_ := zam ((by rw [hg]; exact Nat.ne_of_gt (blk_lt (g := gb1012) (o := .cells #[.int .u8 0, .int .u16 0, .bool false, .bool false, .int .i64 0, .int .u8 0, .int .u8 0, .int .u32 0, .int .u32 0, .slice none 0 0, .slice none 0 0] 43 (0, 0)) zqxb23_5) : gb1027 ≠ gb1012)); clear BK1011; clear BK1012; clear HB; have BK1011 := n0_; have BK1012 := n1_; have HB := n2_; have BK1027 := n3_; have GW1027 := n4_; have GE1027 := n5_; have NB1011_1027 := n6_; have NB1027_1011 := n7_; have NB1012_1027 := n8_; have NB1027_1012 := n9_; clear n0_ n1_ n2_ n3_ n4_ n5_ n6_ n7_ n8_ n9_; clear hb hbox hg))
                    have n0_ := zam (zdr BK1011.out)
                    have n1_ := zam (zdr BK1012.out)
                    have n2_ := zam (zdr BK1027.out)
                    have n3_ := zam (below_drew1 HB.out)
                    clear BK1011
                    clear BK1012
                    clear BK1027
                    clear HB
                    have BK1011 := n0_
                    have BK1012 := n1_
                    have BK1027 := n2_
                    have HB := n3_
                    clear n0_ n1_ n2_ n3_
                    have p1028 : 0 ≤ (1 : Int) := (by omega)
                    have q1028 : 1 < (l0.length : Int) := zod zqxb23_12
                    obtain ⟨ad1028, e1028, hx1028_0⟩ := Kd.at_int HR0.out 1 p1028 q1028
                    have hw1028_0 := hx1028_0
                    (try rw [show ((1 : Int)).toNat = 1 from rfl] at hw1028_0)
                    (try rw [show 1 * 1 = 1 from rfl] at hw1028_0)
                    (try simp only [Nat.reduceMul, Nat.reduceEqDiff, Go.Addr.add, ↓reduceIte] at hw1028_0)
                    obtain rfl : ad1022 = ad1028 := (by injection e1028)
                    (try simp only [show (1 : Int).toNat = 1 from rfl, Nat.reduceMul, Nat.reduceEqDiff, Go.Addr.add, ↓reduceIte] at hx1028_0)
                    have qi1028 : (1 < l0.length) = True := eq_true (by omega)
                    (try rw [show ((1 : Int)).toNat = 1 from rfl] at hx1028_0)
                    replace hx1028_0 := (HB.out.cell (World.block_lt_of_cell? w _ hx1028_0)).trans hx1028_0
                    replace p1028 := eq_true p1028
                    replace q1028 := eq_true q1028
                    have p1030 : 0 ≤ (8 : Int) := (by omega)
                    have q1030 : 8 < (l0.length : Int) := zod zqxb23_12
                    obtain ⟨ad1030, e1030, hx1030_0⟩ := Kd.at_int HR0.out 8 p1030 q1030
                    have hw1030_0 := hx1030_0
                    (try rw [show ((8 : Int)).toNat = 8 from rfl] at hw1030_0)
                    (try rw [show 8 * 1 = 8 from rfl] at hw1030_0)
                    (try simp only [Nat.reduceMul, Nat.reduceEqDiff, Go.Addr.add, ↓reduceIte] at hw1030_0)
                    obtain rfl : ad1022 = ad1030 := (by injection e1030)
                    (try simp only [show (8 : Int).toNat = 8 from rfl, Nat.reduceMul, Nat.reduceEqDiff, Go.Addr.add, ↓reduceIte] at hx1030_0)
                    have qi1030 : (8 < l0.length) = True := eq_true (by omega)
                    (try rw [show ((8 : Int)).toNat = 8 from rfl] at hx1030_0)
                    replace hx1030_0 := (HB.out.cell (World.block_lt_of_cell? w _ hx1030_0)).trans hx1030_0
                    replace p1030 := eq_true p1030
                    replace q1030 := eq_true q1030
                    have p1031 : 0 ≤ (9 : Int) := (by omega)
                    have q1031 : 9 < (l0.length : Int) := zod zqxb23_12
                    obtain ⟨ad1031, e1031, hx1031_0⟩ := Kd.at_int HR0.out 9 p1031 q1031
                    have hw1031_0 := hx1031_0
                    (try rw [show ((9 : Int)).toNat = 9 from rfl] at hw1031_0)
                    (try rw [show 9 * 1 = 9 from rfl] at hw1031_0)
                    (try simp only [Nat.reduceMul, Nat.reduceEqDiff, Go.Addr.add, ↓reduceIte] at hw1031_0)
                    obtain rfl : ad1022 = ad1031 := (by injection e1031)
                    (try simp only [show (9 : Int).toNat = 9 from rfl, Nat.reduceMul, Nat.reduceEqDiff, Go.Addr.add, ↓reduceIte] at hx1031_0)
                    have qi1031 : (9 < l0.length) = True := eq_true (by omega)
                    (try rw [show ((9 : Int)).toNat = 9 from rfl] at hx1031_0)
                    replace hx1031_0 := (HB.out.cell (World.block_lt_of_cell? w _ hx1031_0)).trans hx1031_0
                    replace p1031 := eq_true p1031
                    replace q1031 := eq_true q1031
                    obtain ⟨i051, hi051, _, hsz51, _⟩ := info_parts info5
                    obtain ⟨A51, hcut51, hA51, hC51⟩ := print_mid_of (P := Try.prog) (Value.int .u8) 0 24 5 .i64 .i64 Try.underlying24 hi051 hsz51 (some ad1022) c0 l0 20 t1013 (by omega) zqxb23_16 (zod zqxb23_12) HC0.out
                    have HR1034 := zam (Kd.C_of_reads (h1 := fun _ => rfl) (hA51 _ (Kd.reads_of_C HR0.out)))
                    have HC1034 := zam hC51
                    clear hA51 hC51 hi051 hsz51
                    (try clear hcut34)
                    refine start_ (n := 32) (S := fun w' => w'.cell? ⟨ad1022.block, ad1022.off + 1, none⟩ = some (.int .u8 (rd l0 1)) ∧ w'.cell? ⟨ad1022.block, ad1022.off + 8, none⟩ = some (.int .u8 (rd l0 8)) ∧ w'.cell? ⟨ad1022.block, ad1022.off + 9, none⟩ = some (.int .u8 (rd l0 9))) (ds := []) #[false, false, false, false, false, false, false, false, false, false, false, false, false, false, false, false, false, false, false, false, false, false, false, false, false, false, false, false, false, false, false, false] (by kernel_rfl) rfl rfl ⟨((HB.out.cell (World.block_lt_of_cell? w _ hw1028_0)).trans hw1028_0), ((HB.out.cell (World.block_lt_of_cell? w _ hw1030_0)).trans hw1030_0), ((HB.out.cell (World.block_lt_of_cell? w _ hw1031_0)).trans hw1031_0)⟩ (fun hHeld => ?_); refine with_tabW weftref3_read.tab18 weftref3_read.bits18 (fun HT_ HW_ => ?_)
                    generalize w49.drew = w50 at BK1011 BK1012 BK1027 HB HR1034 hx1028_0 hx1030_0 hx1031_0 hHeld ⊢
                    refine pure_ (i := 0) (N := some 65) (v := ?_) (a' := ?_) #[true, false, false, false, false, false, false, false, false, false, false, false, false, false, false, false, false, false, false, false, false, false, false, false, false, false, false, false, false, false, false, false] rfl rfl (any_of HT_.out (by kernel_rfl)) (fun _ _ _ h => h) (Or.inl ⟨by rfl, ?_⟩) ?_ ?_
                    rotate_left
                    ·
                     intro w'
                     go_simp
                     with_reducible rfl
                    rotate_left
                    ·
                     simp only [Act.put, List.setIfInBounds_toArray, List.set_cons_zero, List.set_cons_succ, i64_w, i32_w, IntKind.wrap_u8, IntKind.wrap_u32]
                     rfl
                    refine pure_ (i := 1) (N := some 66) (v := ?_) (a' := ?_) #[true, true, false, false, false, false, false, false, false, false, false, false, false, false, false, false, false, false, false, false, false, false, false, false, false, false, false, false, false, false, false, false] rfl rfl (any_of HT_.out (by kernel_rfl)) (fun _ _ _ h => h) (Or.inl ⟨by rfl, ?_⟩) ?_ ?_
                    rotate_left
                    ·
                     intro w'
                     go_simp
                     with_reducible rfl
                    rotate_left
                    ·
                     simp only [Act.put, List.setIfInBounds_toArray, List.set_cons_zero, List.set_cons_succ, i64_w, i32_w, IntKind.wrap_u8, IntKind.wrap_u32]
                     rfl
                    refine pure_ (i := 3) (N := some 68) (v := ?_) (a' := ?_) #[true, true, false, true, false, false, false, false, false, false, false, false, false, false, false, false, false, false, false, false, false, false, false, false, false, false, false, false, false, false, false, false] rfl rfl (any_of HT_.out (by kernel_rfl)) (fun _ _ _ h => h) (Or.inl ⟨by rfl, ?_⟩) ?_ ?_
                    rotate_left
                    ·
                     intro w'
                     go_simp
                     with_reducible rfl
                    rotate_left
                    ·
                     simp only [Act.put, List.setIfInBounds_toArray, List.set_cons_zero, List.set_cons_succ, i64_w, i32_w, IntKind.wrap_u8, IntKind.wrap_u32]
                     rfl
                    refine pure_ (i := 6) (N := some 71) (v := ?_) (a' := ?_) #[true, true, false, true, false, false, true, false, false, false, false, false, false, false, false, false, false, false, false, false, false, false, false, false, false, false, false, false, false, false, false, false] rfl rfl (any_of HT_.out (by kernel_rfl)) (fun _ _ _ h => h) (Or.inl ⟨by rfl, ?_⟩) ?_ ?_
                    rotate_left
                    ·
                     intro w'
                     go_simp
                     with_reducible rfl
                    rotate_left
                    ·
                     simp only [Act.put, List.setIfInBounds_toArray, List.set_cons_zero, List.set_cons_succ, i64_w, i32_w, IntKind.wrap_u8, IntKind.wrap_u32]
                     rfl
                    refine pure_ (i := 7) (N := some 72) (v := ?_) (a' := ?_) #[true, true, false, true, false, false, true, true, false, false, false, false, false, false, false, false, false, false, false, false, false, false, false, false, false, false, false, false, false, false, false, false] rfl rfl (any_of HT_.out (by kernel_rfl)) (fun _ _ _ h => h) (Or.inl ⟨by rfl, ?_⟩) ?_ ?_
                    rotate_left
                    ·
                     intro w'
                     go_simp
                     with_reducible rfl
                    rotate_left
                    ·
                     simp only [Act.put, List.setIfInBounds_toArray, List.set_cons_zero, List.set_cons_succ, i64_w, i32_w, IntKind.wrap_u8, IntKind.wrap_u32]
                     rfl
                    refine pure_ (i := 8) (N := some 73) (v := ?_) (a' := ?_) #[true, true, false, true, false, false, true, true, true, false, false, false, false, false, false, false, false, false, false, false, false, false, false, false, false, false, false, false, false, false, false, false] rfl rfl (any_of HT_.out (by kernel_rfl)) (fun _ _ _ h => h) (Or.inl ⟨by rfl, ?_⟩) ?_ ?_
                    rotate_left
                    ·
                     intro w'
                     go_simp
                     with_reducible rfl
                    rotate_left
                    ·
                     simp only [Act.put, List.setIfInBounds_toArray, List.set_cons_zero, List.set_cons_succ, i64_w, i32_w, IntKind.wrap_u8, IntKind.wrap_u32]
                     rfl
                    refine pure_ (i := 9) (N := some 74) (v := ?_) (a' := ?_) #[true, true, false, true, false, false, true, true, true, true, false, false, false, false, false, false, false, false, false, false, false, false, false, false, false, false, false, false, false, false, false, false] rfl rfl (any_of HT_.out (by kernel_rfl)) (fun _ _ _ h => h) (Or.inl ⟨by rfl, ?_⟩) ?_ ?_
                    rotate_left
                    ·
                     intro w'
                     go_simp
                     with_reducible rfl
                    rotate_left
                    ·
                     simp only [Act.put, List.setIfInBounds_toArray, List.set_cons_zero, List.set_cons_succ, i64_w, i32_w, IntKind.wrap_u8, IntKind.wrap_u32]
                     rfl
                    refine pure_ (i := 10) (N := some 75) (v := ?_) (a' := ?_) #[true, true, false, true, false, false, true, true, true, true, true, false, false, false, false, false, false, false, false, false, false, false, false, false, false, false, false, false, false, false, false, false] rfl rfl (any_of HT_.out (by kernel_rfl)) (fun _ _ _ h => h) (Or.inl ⟨by rfl, ?_⟩) ?_ ?_
                    rotate_left
                    ·
                     intro w'
                     go_simp
                     with_reducible rfl
                    rotate_left
                    ·
                     simp only [Act.put, List.setIfInBounds_toArray, List.set_cons_zero, List.set_cons_succ, i64_w, i32_w, IntKind.wrap_u8, IntKind.wrap_u32]
                     rfl
                    refine pure_ (i := 11) (N := some 76) (v := ?_) (a' := ?_) #[true, true, false, true, false, false, true, true, true, true, true, true, false, false, false, false, false, false, false, false, false, false, false, false, false, false, false, false, false, false, false, false] rfl rfl (any_of HT_.out (by kernel_rfl)) (fun _ _ _ h => h) (Or.inl ⟨by rfl, ?_⟩) ?_ ?_
                    rotate_left
                    ·
                     intro w'
                     go_simp
                     with_reducible rfl
                    rotate_left
                    ·
                     simp only [Act.put, List.setIfInBounds_toArray, List.set_cons_zero, List.set_cons_succ, i64_w, i32_w, IntKind.wrap_u8, IntKind.wrap_u32]
                     rfl
                    refine pure_ (i := 12) (N := some 77) (v := ?_) (a' := ?_) #[true, true, false, true, false, false, true, true, true, true, true, true, true, false, false, false, false, false, false, false, false, false, false, false, false, false, false, false, false, false, false, false] rfl rfl (any_of HT_.out (by kernel_rfl)) (fun _ _ _ h => h) (Or.inl ⟨by rfl, ?_⟩) ?_ ?_
                    rotate_left
                    ·
                     intro w'
                     go_simp
                     with_reducible rfl
                    rotate_left
                    ·
                     simp only [Act.put, List.setIfInBounds_toArray, List.set_cons_zero, List.set_cons_succ, i64_w, i32_w, IntKind.wrap_u8, IntKind.wrap_u32]
                     rfl
                    refine pure_ (i := 13) (N := some 78) (v := ?_) (a' := ?_) #[true, true, false, true, false, false, true, true, true, true, true, true, true, true, false, false, false, false, false, false, false, false, false, false, false, false, false, false, false, false, false, false] rfl rfl (any_of HT_.out (by kernel_rfl)) (fun _ _ _ h => h) (Or.inl ⟨by rfl, ?_⟩) ?_ ?_
                    rotate_left
                    ·
                     intro w'
                     go_simp
                     with_reducible rfl
                    rotate_left
                    ·
                     simp only [Act.put, List.setIfInBounds_toArray, List.set_cons_zero, List.set_cons_succ, i64_w, i32_w, IntKind.wrap_u8, IntKind.wrap_u32]
                     rfl
                    refine pure_ (i := 14) (N := some 79) (v := ?_) (a' := ?_) #[true, true, false, true, false, false, true, true, true, true, true, true, true, true, true, false, false, false, false, false, false, false, false, false, false, false, false, false, false, false, false, false] rfl rfl (any_of HT_.out (by kernel_rfl)) (fun _ _ _ h => h) (Or.inl ⟨by rfl, ?_⟩) ?_ ?_
                    rotate_left
                    ·
                     intro w'
                     go_simp
                     with_reducible rfl
                    rotate_left
                    ·
                     simp only [Act.put, List.setIfInBounds_toArray, List.set_cons_zero, List.set_cons_succ, i64_w, i32_w, IntKind.wrap_u8, IntKind.wrap_u32]
                     rfl
                    refine pure_ (i := 16) (N := some 81) (v := ?_) (a' := ?_) #[true, true, false, true, false, false, true, true, true, true, true, true, true, true, true, false, true, false, false, false, false, false, false, false, false, false, false, false, false, false, false, false] rfl rfl (any_of HT_.out (by kernel_rfl)) (fun _ _ _ h => h) (Or.inl ⟨by rfl, ?_⟩) ?_ ?_
                    rotate_left
                    ·
                     intro w'
                     go_simp
                     with_reducible rfl
                    rotate_left
                    ·
                     simp only [Act.put, List.setIfInBounds_toArray, List.set_cons_zero, List.set_cons_succ, i64_w, i32_w, IntKind.wrap_u8, IntKind.wrap_u32]
                     rfl
                    refine pure_ (i := 17) (N := some 82) (v := ?_) (a' := ?_) #[true, true, false, true, false, false, true, true, true, true, true, true, true, true, true, false, true, true, false, false, false, false, false, false, false, false, false, false, false, false, false, false] rfl rfl (any_of HT_.out (by kernel_rfl)) (fun _ _ _ h => h) (Or.inl ⟨by rfl, ?_⟩) ?_ ?_
                    rotate_left
                    ·
                     intro w'
                     go_simp
                     with_reducible rfl
                    rotate_left
                    ·
                     simp only [Act.put, List.setIfInBounds_toArray, List.set_cons_zero, List.set_cons_succ, i64_w, i32_w, IntKind.wrap_u8, IntKind.wrap_u32]
                     rfl
                    refine pure_ (i := 19) (N := some 84) (v := ?_) (a' := ?_) #[true, true, false, true, false, false, true, true, true, true, true, true, true, true, true, false, true, true, false, true, false, false, false, false, false, false, false, false, false, false, false, false] rfl rfl (any_of HT_.out (by kernel_rfl)) (fun _ _ _ h => h) (Or.inl ⟨by rfl, ?_⟩) ?_ ?_
                    rotate_left
                    ·
                     intro w'
                     go_simp
                     with_reducible rfl
                    rotate_left
                    ·
                     simp only [Act.put, List.setIfInBounds_toArray, List.set_cons_zero, List.set_cons_succ, i64_w, i32_w, IntKind.wrap_u8, IntKind.wrap_u32]
                     rfl
                    refine pure_ (i := 22) (N := some 87) (v := ?_) (a' := ?_) #[true, true, false, true, false, false, true, true, true, true, true, true, true, true, true, false, true, true, false, true, false, false, true, false, false, false, false, false, false, false, false, false] rfl rfl (any_of HT_.out (by kernel_rfl)) (fun _ _ _ h => h) (Or.inl ⟨by rfl, ?_⟩) ?_ ?_
                    rotate_left
                    ·
                     intro w'
                     go_simp
                     with_reducible rfl
                    rotate_left
                    ·
                     simp only [Act.put, List.setIfInBounds_toArray, List.set_cons_zero, List.set_cons_succ, i64_w, i32_w, IntKind.wrap_u8, IntKind.wrap_u32]
                     rfl
                    refine pure_ (i := 25) (N := some 90) (v := ?_) (a' := ?_) #[true, true, false, true, false, false, true, true, true, true, true, true, true, true, true, false, true, true, false, true, false, false, true, false, false, true, false, false, false, false, false, false] rfl rfl (any_of HT_.out (by kernel_rfl)) (fun _ _ _ h => h) (Or.inl ⟨by rfl, ?_⟩) ?_ ?_
                    rotate_left
                    ·
                     intro w'
                     go_simp
                     with_reducible rfl
                    rotate_left
                    ·
                     simp only [Act.put, List.setIfInBounds_toArray, List.set_cons_zero, List.set_cons_succ, i64_w, i32_w, IntKind.wrap_u8, IntKind.wrap_u32]
                     rfl
                    refine pure_ (i := 26) (N := some 91) (v := ?_) (a' := ?_) #[true, true, false, true, false, false, true, true, true, true, true, true, true, true, true, false, true, true, false, true, false, false, true, false, false, true, true, false, false, false, false, false] rfl rfl (any_of HT_.out (by kernel_rfl)) (fun _ _ _ h => h) (Or.inl ⟨by rfl, ?_⟩) ?_ ?_
                    rotate_left
                    ·
                     intro w'
                     go_simp
                     with_reducible rfl
                    rotate_left
                    ·
                     simp only [Act.put, List.setIfInBounds_toArray, List.set_cons_zero, List.set_cons_succ, i64_w, i32_w, IntKind.wrap_u8, IntKind.wrap_u32]
                     rfl
                    refine pure_ (i := 27) (N := some 92) (v := ?_) (a' := ?_) #[true, true, false, true, false, false, true, true, true, true, true, true, true, true, true, false, true, true, false, true, false, false, true, false, false, true, true, true, false, false, false, false] rfl rfl (any_of HT_.out (by kernel_rfl)) (fun _ _ _ h => h) (Or.inl ⟨by rfl, ?_⟩) ?_ ?_
                    rotate_left
                    ·
                     intro w'
                     go_simp
                     with_reducible rfl
                    rotate_left
                    ·
                     simp only [Act.put, List.setIfInBounds_toArray, List.set_cons_zero, List.set_cons_succ, i64_w, i32_w, IntKind.wrap_u8, IntKind.wrap_u32]
                     rfl
                    refine take_ (i := 2) (N := some 67) (v := ?_) (a' := ?_) #[true, true, true, true, false, false, true, true, true, true, true, true, true, true, true, false, true, true, false, true, false, false, true, false, false, true, true, true, false, false, false, false] rfl rfl (take_ofW HT_.out HW_.out (by kernel_rfl)) (fun _ _ _ h => h) (Or.inl ⟨by rfl, ?_⟩) hHeld ?_ ?_
                    rotate_left
                    ·
                     rintro w' ⟨s0, s1, s2⟩
                     go_simp
                     with_reducible rfl
                    rotate_left
                    ·
                     simp only [Act.put, List.setIfInBounds_toArray, List.set_cons_zero, List.set_cons_succ, i64_w, i32_w, IntKind.wrap_u8, IntKind.wrap_u32]
                     rfl
                    refine take_ (i := 15) (N := some 80) (v := ?_) (a' := ?_) #[true, true, true, true, false, false, true, true, true, true, true, true, true, true, true, true, true, true, false, true, false, false, true, false, false, true, true, true, false, false, false, false] rfl rfl (take_ofW HT_.out HW_.out (by kernel_rfl)) (fun _ _ _ h => h) (Or.inl ⟨by rfl, ?_⟩) hHeld ?_ ?_
                    rotate_left
                    ·
                     rintro w' ⟨s0, s1, s2⟩
                     go_simp
                     with_reducible rfl
                    rotate_left
                    ·
                     simp only [Act.put, List.setIfInBounds_toArray, List.set_cons_zero, List.set_cons_succ, i64_w, i32_w, IntKind.wrap_u8, IntKind.wrap_u32]
                     rfl
                    refine take_ (i := 18) (N := some 83) (v := ?_) (a' := ?_) #[true, true, true, true, false, false, true, true, true, true, true, true, true, true, true, true, true, true, true, true, false, false, true, false, false, true, true, true, false, false, false, false] rfl rfl (take_ofW HT_.out HW_.out (by kernel_rfl)) (fun _ _ _ h => h) (Or.inl ⟨by rfl, ?_⟩) hHeld ?_ ?_
                    rotate_left
                    ·
                     rintro w' ⟨s0, s1, s2⟩
                     go_simp
                     with_reducible rfl
                    rotate_left
                    ·
                     simp only [Act.put, List.setIfInBounds_toArray, List.set_cons_zero, List.set_cons_succ, i64_w, i32_w, IntKind.wrap_u8, IntKind.wrap_u32]
                     rfl
                    refine one_ (i := 4) (N := some 69) #[true, true, true, true, true, false, true, true, true, true, true, true, true, true, true, true, true, true, true, true, false, false, true, false, false, true, true, true, false, false, false, false] rfl rfl (one_of HT_.out (by kernel_rfl)) (by decide) (fun K hK => ?_)
                    refine goes_ Try.func82 (by kernel_rfl) rfl #[.slice (some ad1022) l0.length c0, .int .i64 4] (by rfl) rfl rfl zqxb23_9 ?_
                    with_reducible refine (weftref3_two.calls _ _ l0 4 t1029 _ ?side1 ?side2 A37.out).mono ?_
                    (case side1 => repeat (first | exact (Kd.C_below HR0.out HB.out) | (with_reducible refine Kd.C_alloc ?_ _) | (with_reducible refine Kd.C_drewN ?_ _) | (with_reducible refine Kd.C_drew ?_)))
                    (case side2 => exact HC0.out)
                    rintro e w' ⟨rfl, ⟨nd, rfl⟩⟩
                    refine ⟨_, rfl, ?_⟩
                    refine hK.out _ _ ⟨((HB.out.cell (World.block_lt_of_cell? w _ hw1028_0)).trans hw1028_0), ((HB.out.cell (World.block_lt_of_cell? w _ hw1030_0)).trans hw1030_0), ((HB.out.cell (World.block_lt_of_cell? w _ hw1031_0)).trans hw1031_0)⟩ (fun hHeld => ?_)
                    clear hK K
                    refine norm_ (a' := ?_) ?_ ?_
                    rotate_left
                    ·
                     show Act.put _ (some 69) _ = _
                     simp only [Act.put, List.setIfInBounds_toArray, List.set_cons_zero, List.set_cons_succ, i64_w, i32_w, IntKind.wrap_u8, IntKind.wrap_u32]
                     rfl
                    refine pure_ (i := 5) (N := some 70) (v := ?_) (a' := ?_) #[true, true, true, true, true, true, true, true, true, true, true, true, true, true, true, true, true, true, true, true, false, false, true, false, false, true, true, true, false, false, false, false] rfl rfl (any_of HT_.out (by kernel_rfl)) (fun _ _ _ h => h) (Or.inl ⟨by rfl, ?_⟩) ?_ ?_
                    rotate_left
                    ·
                     intro w'
                     go_simp
                     with_reducible rfl
                    rotate_left
                    ·
                     simp only [Act.put, List.setIfInBounds_toArray, List.set_cons_zero, List.set_cons_succ, i64_w, i32_w, IntKind.wrap_u8, IntKind.wrap_u32]
                     rfl
                    refine one_ (i := 20) (N := some 85) #[true, true, true, true, true, true, true, true, true, true, true, true, true, true, true, true, true, true, true, true, true, false, true, false, false, true, true, true, false, false, false, false] rfl rfl (one_of HT_.out (by kernel_rfl)) (by decide) (fun K hK => ?_)
                    refine goes_ Try.func83 (by kernel_rfl) rfl #[.slice (some ad1022) l0.length c0, .int .i64 12] (by rfl) rfl rfl zqxb23_9 ?_
                    with_reducible refine (weftref3_four.calls _ _ l0 12 t1032 _ ?side1 ?side2 A40.out).mono ?_
                    (case side1 => repeat (first | exact (Kd.C_below HR0.out zqxb23_11) | (with_reducible refine Kd.C_alloc ?_ _) | (with_reducible refine Kd.C_drewN ?_ _) | (with_reducible refine Kd.C_drew ?_)))
                    (case side2 => exact HC0.out)
                    rintro e w' ⟨rfl, ⟨nd, rfl⟩⟩
                    refine ⟨_, rfl, ?_⟩
                    refine hK.out _ _ ⟨((HB.out.cell (World.block_lt_of_cell? w _ hw1028_0)).trans hw1028_0), ((HB.out.cell (World.block_lt_of_cell? w _ hw1030_0)).trans hw1030_0), ((HB.out.cell (World.block_lt_of_cell? w _ hw1031_0)).trans hw1031_0)⟩ (fun hHeld => ?_)
                    clear hK K
                    refine norm_ (a' := ?_) ?_ ?_
                    rotate_left
                    ·
                     show Act.put _ (some 85) _ = _
                     simp only [Act.put, List.setIfInBounds_toArray, List.set_cons_zero, List.set_cons_succ, i64_w, i32_w, IntKind.wrap_u8, IntKind.wrap_u32]
                     rfl
                    refine pure_ (i := 21) (N := some 86) (v := ?_) (a' := ?_) #[true, true, true, true, true, true, true, true, true, true, true, true, true, true, true, true, true, true, true, true, true, true, true, false, false, true, true, true, false, false, false, false] rfl rfl (any_of HT_.out (by kernel_rfl)) (fun _ _ _ h => h) (Or.inl ⟨by rfl, ?_⟩) ?_ ?_
                    rotate_left
                    ·
                     intro w'
                     go_simp
                     with_reducible rfl
                    rotate_left
                    ·
                     simp only [Act.put, List.setIfInBounds_toArray, List.set_cons_zero, List.set_cons_succ, i64_w, i32_w, IntKind.wrap_u8, IntKind.wrap_u32]
                     rfl
                    refine one_ (i := 23) (N := some 88) #[true, true, true, true, true, true, true, true, true, true, true, true, true, true, true, true, true, true, true, true, true, true, true, true, false, true, true, true, false, false, false, false] rfl rfl (one_of HT_.out (by kernel_rfl)) (by decide) (fun K hK => ?_)
                    refine goes_ Try.func83 (by kernel_rfl) rfl #[.slice (some ad1022) l0.length c0, .int .i64 16] (by rfl) rfl rfl zqxb23_9 ?_
                    with_reducible refine (weftref3_four.calls _ _ l0 16 t1033 _ ?side1 ?side2 A41.out).mono ?_
                    (case side1 => repeat (first | exact (Kd.C_below HR0.out zqxb23_11) | (with_reducible refine Kd.C_alloc ?_ _) | (with_reducible refine Kd.C_drewN ?_ _) | (with_reducible refine Kd.C_drew ?_)))
                    (case side2 => exact HC0.out)
                    rintro e w' ⟨rfl, ⟨nd, rfl⟩⟩
                    refine ⟨_, rfl, ?_⟩
                    refine hK.out _ _ ⟨((HB.out.cell (World.block_lt_of_cell? w _ hw1028_0)).trans hw1028_0), ((HB.out.cell (World.block_lt_of_cell? w _ hw1030_0)).trans hw1030_0), ((HB.out.cell (World.block_lt_of_cell? w _ hw1031_0)).trans hw1031_0)⟩ (fun hHeld => ?_)
                    clear hK K
                    refine norm_ (a' := ?_) ?_ ?_
                    rotate_left
                    ·
                     show Act.put _ (some 88) _ = _
                     simp only [Act.put, List.setIfInBounds_toArray, List.set_cons_zero, List.set_cons_succ, i64_w, i32_w, IntKind.wrap_u8, IntKind.wrap_u32]
                     rfl
                    refine pure_ (i := 24) (N := some 89) (v := ?_) (a' := ?_) #[true, true, true, true, true, true, true, true, true, true, true, true, true, true, true, true, true, true, true, true, true, true, true, true, true, true, true, true, false, false, false, false] rfl rfl (any_of HT_.out (by kernel_rfl)) (fun _ _ _ h => h) (Or.inl ⟨by rfl, ?_⟩) ?_ ?_
                    rotate_left
                    ·
                     intro w'
                     go_simp
                     with_reducible rfl
                    rotate_left
                    ·
                     simp only [Act.put, List.setIfInBounds_toArray, List.set_cons_zero, List.set_cons_succ, i64_w, i32_w, IntKind.wrap_u8, IntKind.wrap_u32]
                     rfl
                    refine one_ (i := 28) (N := some 93) #[true, true, true, true, true, true, true, true, true, true, true, true, true, true, true, true, true, true, true, true, true, true, true, true, true, true, true, true, true, false, false, false] rfl rfl (one_of HT_.out (by kernel_rfl)) (by decide) (fun K hK => ?_)
                    refine goes_ Try.func84 (by kernel_rfl) rfl #[.slice A51 ((l0.take (t1013 : Int).toNat).drop 20).length (c0 - 20)] (by rfl) rfl rfl zqxb23_14 ?_
                    with_reducible refine (weftref3_clone.calls kj26 _ _ ((l0.take (t1013 : Int).toNat).drop 20) t1035 _ ?side1 ?side2 A44.out).mono ?_
                    (case side1 => repeat (first | exact (Kd.C_below HR1034.out zqxb23_11) | (with_reducible refine Kd.C_alloc ?_ _) | (with_reducible refine Kd.C_drewN ?_ _) | (with_reducible refine Kd.C_drew ?_)))
                    (case side2 => exact HC1034.out)
                    rintro e w52 ⟨v1036, rfl, ho0, hb⟩
                    refine ⟨_, rfl, ?_⟩
                    have n0_ := zam (Kd.R_lower ho0 (below_size zqxb23_11))
                    have n1_ := zam (blk_below (g := gb1011) (o := .cells #[.int .u8 0, .int .u16 0, .bool false, .bool false, .int .i64 0, .int .u8 0, .int .u8 0, .int .u32 0, .int .u32 0, .slice none 0 0, .slice none 0 0] 43 (0, 0)) zqxb23_1 hb)
                    have n2_ := zam (blk_below (g := gb1012) (o := .cells #[.int .u8 0, .int .u16 0, .bool false, .bool false, .int .i64 0, .int .u8 0, .int .u8 0, .int .u32 0, .int .u32 0, .slice none 0 0, .slice none 0 0] 43 (0, 0)) zqxb23_5 hb)
                    have n3_ := zam (blk_below (g := gb1027) (o := .cells #[.int .u8 0, .int .u16 0, .bool false, .bool false, .int .i64 0, .int .u8 0, .int .u8 0, .int .u32 0, .int .u32 0, .slice none 0 0, .slice none 0 0] 43 (0, 0)) (by first | (with_reducible exact BK1027.out) | (with_reducible exact zdn BK1027.out _) | (with_reducible exact zdr BK1027.out) | ((with_reducible repeat (first | refine zdn ?_ _ | refine zdr ?_ | refine blk_alloc ?_ _)); exact BK1027.out)) hb)
                    have n4_ := zam (below_step zqxb23_11 hb)
                    clear BK1011
                    clear BK1012
                    clear BK1027
                    clear HB
                    have HO1037 := n0_
                    have BK1011 := n1_
                    have BK1012 := n2_
                    have BK1027 := n3_
                    have HB := n4_
                    clear n0_ n1_ n2_ n3_ n4_
                    (try clear hb)
                    (try clear hb2)
                    (try clear hk)
                    (try clear hi)
                    (try clear ho0)
                    obtain ⟨Ao53, co53, eo53⟩ := Kd.R_slice HO1037.out
                    (first | subst eo53 | (injection eo53 with f1_ f2_ f3_; have f4_ := f1_.symm; have f5_ := f3_.symm; clear f1_ f2_ f3_; subst f4_; subst f5_))
                    refine hK.out _ _ ⟨((HB.out.cell (World.block_lt_of_cell? w _ hw1028_0)).trans hw1028_0), ((HB.out.cell (World.block_lt_of_cell? w _ hw1030_0)).trans hw1030_0), ((HB.out.cell (World.block_lt_of_cell? w _ hw1031_0)).trans hw1031_0)⟩ (fun hHeld => ?_)
                    clear hK K
                    refine norm_ (a' := ?_) ?_ ?_
                    rotate_left
                    ·
                     show Act.put _ (some 93) _ = _
                     simp only [Act.put, List.setIfInBounds_toArray, List.set_cons_zero, List.set_cons_succ, i64_w, i32_w, IntKind.wrap_u8, IntKind.wrap_u32]
                     rfl
                    refine pure_ (i := 29) (N := some 94) (v := ?_) (a' := ?_) #[true, true, true, true, true, true, true, true, true, true, true, true, true, true, true, true, true, true, true, true, true, true, true, true, true, true, true, true, true, true, false, false] rfl rfl (any_of HT_.out (by kernel_rfl)) (fun _ _ _ h => h) (Or.inl ⟨by rfl, ?_⟩) ?_ ?_
                    rotate_left
                    ·
                     intro w'
                     go_simp
                     with_reducible rfl
                    rotate_left
                    ·
                     simp only [Act.put, List.setIfInBounds_toArray, List.set_cons_zero, List.set_cons_succ, i64_w, i32_w, IntKind.wrap_u8, IntKind.wrap_u32]
                     rfl
                    refine pure_ (i := 30) (N := some 95) (v := ?_) (a' := ?_) #[true, true, true, true, true, true, true, true, true, true, true, true, true, true, true, true, true, true, true, true, true, true, true, true, true, true, true, true, true, true, true, false] rfl rfl (any_of HT_.out (by kernel_rfl)) (fun _ _ _ h => h) (Or.inl ⟨by rfl, ?_⟩) ?_ ?_
                    rotate_left
                    ·
                     intro w'
                     go_simp
                     with_reducible rfl
                    rotate_left
                    ·
                     simp only [Act.put, List.setIfInBounds_toArray, List.set_cons_zero, List.set_cons_succ, i64_w, i32_w, IntKind.wrap_u8, IntKind.wrap_u32]
                     rfl
                    refine one_ (i := 31) (N := none) #[true, true, true, true, true, true, true, true, true, true, true, true, true, true, true, true, true, true, true, true, true, true, true, true, true, true, true, true, true, true, true, true] rfl rfl (one_of HT_.out (by kernel_rfl)) (by decide) (fun K hK => ?_)
                    have hs54 : w52.cell? ⟨gb1027, 0, none⟩ = some (.int .u8 0) := (zbc BK1027.out 0).trans rfl
                    have hfs54 := zbf BK1027.out 0
                    have hns54_0 := NB1011_1027.out
                    have hns54_1 := NB1012_1027.out
                    have hms54_0 := NB1027_1011.out
                    have hms54_1 := NB1027_1012.out
                    have hs55 : w52.cell? ⟨gb1027, 1, none⟩ = some (.int .u16 0) := (zbc BK1027.out 1).trans rfl
                    have hfs55 := zbf BK1027.out 1
                    have hns55_0 := NB1011_1027.out
                    have hns55_1 := NB1012_1027.out
                    have hms55_0 := NB1027_1011.out
                    have hms55_1 := NB1027_1012.out
                    have hs56 : w52.cell? ⟨gb1027, 2, none⟩ = some (.bool false) := (zbc BK1027.out 2).trans rfl
                    have hfs56 := zbf BK1027.out 2
                    have hns56_0 := NB1011_1027.out
                    have hns56_1 := NB1012_1027.out
                    have hms56_0 := NB1027_1011.out
                    have hms56_1 := NB1027_1012.out
                    have hs57 : w52.cell? ⟨gb1027, 3, none⟩ = some (.bool false) := (zbc BK1027.out 3).trans rfl
                    have hfs57 := zbf BK1027.out 3
                    have hns57_0 := NB1011_1027.out
                    have hns57_1 := NB1012_1027.out
                    have hms57_0 := NB1027_1011.out
                    have hms57_1 := NB1027_1012.out
                    have hs58 : w52.cell? ⟨gb1027, 4, none⟩ = some (.int .i64 0) := (zbc BK1027.out 4).trans rfl
                    have hfs58 := zbf BK1027.out 4
                    have hns58_0 := NB1011_1027.out
                    have hns58_1 := NB1012_1027.out
                    have hms58_0 := NB1027_1011.out
                    have hms58_1 := NB1027_1012.out
                    have hs59 : w52.cell? ⟨gb1027, 5, none⟩ = some (.int .u8 0) := (zbc BK1027.out 5).trans rfl
                    have hfs59 := zbf BK1027.out 5
                    have hns59_0 := NB1011_1027.out
                    have hns59_1 := NB1012_1027.out
                    have hms59_0 := NB1027_1011.out
                    have hms59_1 := NB1027_1012.out
                    have hs60 : w52.cell? ⟨gb1027, 6, none⟩ = some (.int .u8 0) := (zbc BK1027.out 6).trans rfl
                    have hfs60 := zbf BK1027.out 6
                    have hns60_0 := NB1011_1027.out
                    have hns60_1 := NB1012_1027.out
                    have hms60_0 := NB1027_1011.out
                    have hms60_1 := NB1027_1012.out
                    have hs61 : w52.cell? ⟨gb1027, 7, none⟩ = some (.int .u32 0) := (zbc BK1027.out 7).trans rfl
                    have hfs61 := zbf BK1027.out 7
                    have hns61_0 := NB1011_1027.out
                    have hns61_1 := NB1012_1027.out
                    have hms61_0 := NB1027_1011.out
                    have hms61_1 := NB1027_1012.out
                    have hs62 : w52.cell? ⟨gb1027, 8, none⟩ = some (.int .u32 0) := (zbc BK1027.out 8).trans rfl
                    have hfs62 := zbf BK1027.out 8
                    have hns62_0 := NB1011_1027.out
                    have hns62_1 := NB1012_1027.out
                    have hms62_0 := NB1027_1011.out
                    have hms62_1 := NB1027_1012.out
                    have hs63 : w52.cell? ⟨gb1027, 9, none⟩ = some (.slice none 0 0) := (zbc BK1027.out 9).trans rfl
                    have hfs63 := zbf BK1027.out 9
                    have hns63_0 := NB1011_1027.out
                    have hns63_1 := NB1012_1027.out
                    have hms63_0 := NB1027_1011.out
                    have hms63_1 := NB1027_1012.out
                    refine skip_ (w1 := ?_) (by rfl) rfl ?_ ?_
                    rotate_left
                    ·
                     go_simp
                     rfl
                    refine hK.out _ _ ⟨((cell_far (p := ⟨gb1027, _, none⟩) zqxb23_2 _).trans (((cell_far (p := ⟨gb1027, _, none⟩) zqxb23_2 _).trans (((cell_far (p := ⟨gb1027, _, none⟩) zqxb23_2 _).trans (((cell_far (p := ⟨gb1027, _, none⟩) zqxb23_2 _).trans (((cell_far (p := ⟨gb1027, _, none⟩) zqxb23_2 _).trans (((cell_far (p := ⟨gb1027, _, none⟩) zqxb23_2 _).trans (((cell_far (p := ⟨gb1027, _, none⟩) zqxb23_2 _).trans (((cell_far (p := ⟨gb1027, _, none⟩) zqxb23_2 _).trans (((cell_far (p := ⟨gb1027, _, none⟩) zqxb23_2 _).trans (((cell_far (p := ⟨gb1027, _, none⟩) zqxb23_2 _).trans (hHeld.1)))))))))))))))))))), ((cell_far (p := ⟨gb1027, _, none⟩) zqxb23_3 _).trans (((cell_far (p := ⟨gb1027, _, none⟩) zqxb23_3 _).trans (((cell_far (p := ⟨gb1027, _, none⟩) zqxb23_3 _).trans (((cell_far (p := ⟨gb1027, _, none⟩) zqxb23_3 _).trans (((cell_far (p := ⟨gb1027, _, none⟩) zqxb23_3 _).trans (((cell_far (p := ⟨gb1027, _, none⟩) zqxb23_3 _).trans (((cell_far (p := ⟨gb1027, _, none⟩) zqxb23_3 _).trans (((cell_far (p := ⟨gb1027, _, none⟩) zqxb23_3 _).trans (((cell_far (p := ⟨gb1027, _, none⟩) zqxb23_3 _).trans (((cell_far (p := ⟨gb1027, _, none⟩) zqxb23_3 _).trans (hHeld.2.1)))))))))))))))))))), ((cell_far (p := ⟨gb1027, _, none⟩) zqxb23_4 _).trans (((cell_far (p := ⟨gb1027, _, none⟩) zqxb23_4 _).trans (((cell_far (p := ⟨gb1027, _, none⟩) zqxb23_4 _).trans (((cell_far (p := ⟨gb1027, _, none⟩) zqxb23_4 _).trans (((cell_far (p := ⟨gb1027, _, none⟩) zqxb23_4 _).trans (((cell_far (p := ⟨gb1027, _, none⟩) zqxb23_4 _).trans (((cell_far (p := ⟨gb1027, _, none⟩) zqxb23_4 _).trans (((cell_far (p := ⟨gb1027, _, none⟩) zqxb23_4 _).trans (((cell_far (p := ⟨gb1027, _, none⟩) zqxb23_4 _).trans (((cell_far (p := ⟨gb1027, _, none⟩) zqxb23_4 _).trans (hHeld.2.2))))))))))))))))))))⟩ (fun hHeld => ?_)
                    clear hK K
                    refine done_ (done_of HT_.out (by kernel_rfl)) ?_
                    obtain ⟨i064, hi064, _, hsz64, _⟩ := info_parts info5
                    obtain ⟨A64, hcut64, hA64, hC64⟩ := print_mid_of (P := Try.prog) (Value.int .u8) 0 24 5 .i64 .i64 Try.underlying24 hi064 hsz64 (some ad1022) c0 l0 t1013 x8_26 (zod zqxb23_12) zqxb23_16 (zod zqxb23_12) HC0.out
                    have HR1038 := zam (Kd.C_of_reads (h1 := fun _ => rfl) (hA64 _ (Kd.reads_of_C HR0.out)))
                    have HC1038 := zam hC64
                    clear hA64 hC64 hi064 hsz64
                    try go_wp2_with (first | ((with_reducible refine gate_callee (f := 84) rfl ?_); refine goesL_ (some 100) rfl rfl Try.func84 (by kernel_rfl) rfl #[.slice A64 ((l0.take (x8_26 : Int).toNat).drop (t1013 : Int).toNat).length (c0 - t1013.toNat)] rfl (by (try simp only [List.map_toArray, List.map_cons, List.map_nil]); first | done | (rw [show ((l0.take (x8_26 : Int).toNat).drop (t1013 : Int).toNat).length = (x8_26.toNat - t1013.toNat) from (by rw [List.length_drop, List.length_take]; have h_ : (x8_26 : Int) ≤ (l0.length : Int) := zod zqxb23_12; omega)] <;> rfl) | rfl | (simp only [List.length_drop, List.length_take]; rfl)) ?_; (with_reducible refine (weftref3_clone.calls kj26 _ _ ((l0.take (x8_26 : Int).toNat).drop (t1013 : Int).toNat) t1039 _ ?side1 ?side2 A48.out).mono ?_); (case side1 => exact Kd.C_below HR1038.out zqxb23_11); (case side2 => exact HC1038.out); rintro e w65 ⟨v1040, rfl, ho0, hb⟩; refine ⟨_, rfl, ?_⟩; have n0_ := zam (Kd.R_elder' zqxb23_13 (Kd.R_base ho0) hb); have n1_ := zam (Kd.R_lower (Kd.R_new' ho0 (Kd.R_lt zqxb23_13)) (below_size zqxb23_11)); have n2_ := zam (blk_below (g := gb1011) (o := .cells #[.int .u8 0, .int .u16 0, .bool false, .bool false, .int .i64 0, .int .u8 0, .int .u8 0, .int .u32 0, .int .u32 0, .slice none 0 0, .slice none 0 0] 43 (0, 0)) (by (with_reducible repeat (first | refine zdn ?_ _ | refine zdr ?_ | refine blk_alloc ?_ _)); refine blk_far ?_ NB1011_1027.out _; (with_reducible repeat (first | refine zdn ?_ _ | refine zdr ?_ | refine blk_alloc ?_ _)); refine blk_far ?_ NB1011_1027.out _; (with_reducible repeat (first | refine zdn ?_ _ | refine zdr ?_ | refine blk_alloc ?_ _)); refine blk_far ?_ NB1011_1027.out _; (with_reducible repeat (first | refine zdn ?_ _ | refine zdr ?_ | refine blk_alloc ?_ _)); refine blk_far ?_ NB1011_1027.out _; (with_reducible repeat (first | refine zdn ?_ _ | refine zdr ?_ | refine blk_alloc ?_ _)); refine blk_far ?_ NB1011_1027.out _; (with_reducible repeat (first | refine zdn ?_ _ | refine zdr ?_ | refine blk_alloc ?_ _)); refine blk_far ?_ NB1011_1027.out _; (with_reducible repeat (first | refine zdn ?_ _ | refine zdr ?_ | refine blk_alloc ?_ _)); refine blk_far ?_ NB1011_1027.out _; (with_reducible repeat (first | refine zdn ?_ _ | refine zdr ?_ | refine blk_alloc ?_ _)); refine blk_far ?_ NB1011_1027.out _; (with_reducible repeat (first | refine zdn ?_ _ | refine zdr ?_ | refine blk_alloc ?_ _)); refine blk_far ?_ NB1011_1027.out _; (with_reducible repeat (first | refine zdn ?_ _ | refine zdr ?_ | refine blk_alloc ?_ _)); refine blk_far ?_ NB1011_1027.out _; first | (with_reducible exact BK1011.out) | (with_reducible exact zdn BK1011.out _) | (with_reducible exact zdr BK1011.out) | ((with_reducible repeat (first | refine zdn ?_ _ | refine zdr ?_ | refine blk_alloc ?_ _)); exact BK1011.out)) hb); have n3_ := zam (blk_below (g := gb1012) (o := .cells #[.int .u8 0, .int .u16 0, .bool false, .bool false, .int .i64 0, .int .u8 0, .int .u8 0, .int .u32 0, .int .u32 0, .slice none 0 0, .slice none 0 0] 43 (0, 0)) (by (with_reducible repeat (first | refine zdn ?_ _ | refine zdr ?_ | refine blk_alloc ?_ _)); refine blk_far ?_ NB1012_1027.out _; (with_reducible repeat (first | refine zdn ?_ _ | refine zdr ?_ | refine blk_alloc ?_ _)); refine blk_far ?_ NB1012_1027.out _; (with_reducible repeat (first | refine zdn ?_ _ | refine zdr ?_ | refine blk_alloc ?_ _)); refine blk_far ?_ NB1012_1027.out _; (with_reducible repeat (first | refine zdn ?_ _ | refine zdr ?_ | refine blk_alloc ?_ _)); refine blk_far ?_ NB1012_1027.out _; (with_reducible repeat (first | refine zdn ?_ _ | refine zdr ?_ | refine blk_alloc ?_ _)); refine blk_far ?_ NB1012_1027.out _; (with_reducible repeat (first | refine zdn ?_ _ | refine zdr ?_ | refine blk_alloc ?_ _)); refine blk_far ?_ NB1012_1027.out _; (with_reducible repeat (first | refine zdn ?_ _ | refine zdr ?_ | refine blk_alloc ?_ _)); refine blk_far ?_ NB1012_1027.out _; (with_reducible repeat (first | refine zdn ?_ _ | refine zdr ?_ | refine blk_alloc ?_ _)); refine blk_far ?_ NB1012_1027.out _; (with_reducible repeat (first | refine zdn ?_ _ | refine zdr ?_ | refine blk_alloc ?_ _)); refine blk_far ?_ NB1012_1027.out _; (with_reducible repeat (first | refine zdn ?_ _ | refine zdr ?_ | refine blk_alloc ?_ _)); refine blk_far ?_ NB1012_1027.out _; first | (with_reducible exact BK1012.out) | (with_reducible exact zdn BK1012.out _) | (with_reducible exact zdr BK1012.out) | ((with_reducible repeat (first | refine zdn ?_ _ | refine zdr ?_ | refine blk_alloc ?_ _)); exact BK1012.out)) hb); have n4_ := zam (blk_below (g := gb1027) (o := .cells #[.int .u8 (rd l0 1), .int .u16 (IntKind.u16.wrap (t1029)), .bool ((wrap64 (Int.tdiv (wrap64 (Int.tdiv (wrap64 (rd l0 6)) 32)) 2)) == 1), .bool ((Int.tmod (wrap64 (Int.tdiv (wrap64 (rd l0 6)) 32)) 2) == 1), .int .i64 (wrap64 (8 * (Int.tmod t1025 8192))), .int .u8 (rd l0 8), .int .u8 (rd l0 9), .int .u32 ((t1032) % 4294967296), .int .u32 ((t1033) % 4294967296), .slice Ao53 t1035.length co53, .slice none 0 0] 43 (0, 0)) (by (with_reducible repeat (first | refine zdn ?_ _ | refine zdr ?_ | refine blk_alloc ?_ _)); refine blk_put (cs := #[.int .u8 (rd l0 1), .int .u16 (IntKind.u16.wrap (t1029)), .bool ((wrap64 (Int.tdiv (wrap64 (Int.tdiv (wrap64 (rd l0 6)) 32)) 2)) == 1), .bool ((Int.tmod (wrap64 (Int.tdiv (wrap64 (rd l0 6)) 32)) 2) == 1), .int .i64 (wrap64 (8 * (Int.tmod t1025 8192))), .int .u8 (rd l0 8), .int .u8 (rd l0 9), .int .u32 ((t1032) % 4294967296), .int .u32 ((t1033) % 4294967296), .slice none 0 0, .slice none 0 0]) ?_ 9 _ rfl; (with_reducible repeat (first | refine zdn ?_ _ | refine zdr ?_ | refine blk_alloc ?_ _)); refine blk_put (cs := #[.int .u8 (rd l0 1), .int .u16 (IntKind.u16.wrap (t1029)), .bool ((wrap64 (Int.tdiv (wrap64 (Int.tdiv (wrap64 (rd l0 6)) 32)) 2)) == 1), .bool ((Int.tmod (wrap64 (Int.tdiv (wrap64 (rd l0 6)) 32)) 2) == 1), .int .i64 (wrap64 (8 * (Int.tmod t1025 8192))), .int .u8 (rd l0 8), .int .u8 (rd l0 9), .int .u32 ((t1032) % 4294967296), .int .u32 0, .slice none 0 0, .slice none 0 0]) ?_ 8 _ rfl; (with_reducible repeat (first | refine zdn ?_ _ | refine zdr ?_ | refine blk_alloc ?_ _)); refine blk_put (cs := #[.int .u8 (rd l0 1), .int .u16 (IntKind.u16.wrap (t1029)), .bool ((wrap64 (Int.tdiv (wrap64 (Int.tdiv (wrap64 (rd l0 6)) 32)) 2)) == 1), .bool ((Int.tmod (wrap64 (Int.tdiv (wrap64 (rd l0 6)) 32)) 2) == 1), .int .i64 (wrap64 (8 * (Int.tmod t1025 8192))), .int .u8 (rd l0 8), .int .u8 (rd l0 9), .int .u32 0, .int .u32 0, .slice none 0 0, .slice none 0 0]) ?_ 7 _ rfl; (with_reducible repeat (first | refine zdn ?_ _ | refine zdr ?_ | refine blk_alloc ?_ _)); refine blk_put (cs := #[.int .u8 (rd l0 1), .int .u16 (IntKind.u16.wrap (t1029)), .bool ((wrap64 (Int.tdiv (wrap64 (Int.tdiv (wrap64 (rd l0 6)) 32)) 2)) == 1), .bool ((Int.tmod (wrap64 (Int.tdiv (wrap64 (rd l0 6)) 32)) 2) == 1), .int .i64 (wrap64 (8 * (Int.tmod t1025 8192))), .int .u8 (rd l0 8), .int .u8 0, .int .u32 0, .int .u32 0, .slice none 0 0, .slice none 0 0]) ?_ 6 _ rfl; (with_reducible repeat (first | refine zdn ?_ _ | refine zdr ?_ | refine blk_alloc ?_ _)); refine blk_put (cs := #[.int .u8 (rd l0 1), .int .u16 (IntKind.u16.wrap (t1029)), .bool ((wrap64 (Int.tdiv (wrap64 (Int.tdiv (wrap64 (rd l0 6)) 32)) 2)) == 1), .bool ((Int.tmod (wrap64 (Int.tdiv (wrap64 (rd l0 6)) 32)) 2) == 1), .int .i64 (wrap64 (8 * (Int.tmod t1025 8192))), .int .u8 0, .int .u8 0, .int .u32 0, .int .u32 0, .slice none 0 0, .slice none 0 0]) ?_ 5 _ rfl; (with_reducible repeat (first | refine zdn ?_ _ | refine zdr ?_ | refine blk_alloc ?_ _)); refine blk_put (cs := #[.int .u8 (rd l0 1), .int .u16 (IntKind.u16.wrap (t1029)), .bool ((wrap64 (Int.tdiv (wrap64 (Int.tdiv (wrap64 (rd l0 6)) 32)) 2)) == 1), .bool ((Int.tmod (wrap64 (Int.tdiv (wrap64 (rd l0 6)) 32)) 2) == 1), .int .i64 0, .int .u8 0, .int .u8 0, .int .u32 0, .int .u32 0, .slice none 0 0, .slice none 0 0]) ?_ 4 _ rfl; (with_reducible repeat (first | refine zdn ?_ _ | refine zdr ?_ | refine blk_alloc ?_ _)); refine blk_put (cs := #[.int .u8 (rd l0 1), .int .u16 (IntKind.u16.wrap (t1029)), .bool ((wrap64 (Int.tdiv (wrap64 (Int.tdiv (wrap64 (rd l0 6)) 32)) 2)) == 1), .bool false, .int .i64 0, .int .u8 0, .int .u8 0, .int .u32 0, .int .u32 0, .slice none 0 0, .slice none 0 0]) ?_ 3 _ rfl; (with_reducible repeat (first | refine zdn ?_ _ | refine zdr ?_ | refine blk_alloc ?_ _)); refine blk_put (cs := #[.int .u8 (rd l0 1), .int .u16 (IntKind.u16.wrap (t1029)), .bool false, .bool false, .int .i64 0, .int .u8 0, .int .u8 0, .int .u32 0, .int .u32 0, .slice none 0 0, .slice none 0 0]) ?_ 2 _ rfl; (with_reducible repeat (first | refine zdn ?_ _ | refine zdr ?_ | refine blk_alloc ?_ _)); refine blk_put (cs := #[.int .u8 (rd l0 1), .int .u16 0, .bool false, .bool false, .int .i64 0, .int .u8 0, .int .u8 0, .int .u32 0, .int .u32 0, .slice none 0 0, .slice none 0 0]) ?_ 1 _ rfl; (with_reducible repeat (first | refine zdn ?_ _ | refine zdr ?_ | refine blk_alloc ?_ _)); refine blk_put (cs := #[.int .u8 0, .int .u16 0, .bool false, .bool false, .int .i64 0, .int .u8 0, .int .u8 0, .int .u32 0, .int .u32 0, .slice none 0 0, .slice none 0 0]) ?_ 0 _ rfl; first | (with_reducible exact BK1027.out) | (with_reducible exact zdn BK1027.out _) | (with_reducible exact zdr BK1027.out) | ((with_reducible repeat (first | refine zdn ?_ _ | refine zdr ?_ | refine blk_alloc ?_ _)); exact BK1027.out)) hb); have n5_ := zam (below_step zqxb23_11 hb); clear HO1037; clear BK1011; clear BK1012; clear BK1027; clear HB; have HO1037 := n0_; have HO1041 := n1_; have BK1011 := n2_; have BK1012 := n3_; have BK1027 := n4_; have HB := n5_; clear n0_ n1_ n2_ n3_ n4_ n5_; (try clear hb); (try clear hb2); (try clear hk); (try clear hi); (try clear ho0); obtain ⟨Ao66, co66, eo66⟩ := Kd.R_slice HO1041.out; subst eo66; have hnb67 := NB1027_1011.out; have hnc67 := NB1011_1027.out; have hnb68 := NB1027_1012.out; have hnc68 := NB1012_1027.out; have hcz69_0 : w65.cell? ⟨gb1027, 0, none⟩ = some (.int .u8 (rd l0 1)) := (zbc BK1027.out 0).trans rfl; have hcz69_1 : w65.cell? ⟨gb1027, 1, none⟩ = some (.int .u16 (IntKind.u16.wrap (t1029))) := (zbc BK1027.out 1).trans rfl; have hcz69_2 : w65.cell? ⟨gb1027, 2, none⟩ = some (.bool ((wrap64 (Int.tdiv (wrap64 (Int.tdiv (wrap64 (rd l0 6)) 32)) 2)) == 1)) := (zbc BK1027.out 2).trans rfl; have hcz69_3 : w65.cell? ⟨gb1027, 3, none⟩ = some (.bool ((Int.tmod (wrap64 (Int.tdiv (wrap64 (rd l0 6)) 32)) 2) == 1)) := (zbc BK1027.out 3).trans rfl; have hcz69_4 : w65.cell? ⟨gb1027, 4, none⟩ = some (.int .i64 (wrap64 (8 * (Int.tmod t1025 8192)))) := (zbc BK1027.out 4).trans rfl; have hcz69_5 : w65.cell? ⟨gb1027, 5, none⟩ = some (.int .u8 (rd l0 8)) := (zbc BK1027.out 5).trans rfl; have hcz69_6 : w65.cell? ⟨gb1027, 6, none⟩ = some (.int .u8 (rd l0 9)) := (zbc BK1027.out 6).trans rfl; have hcz69_7 : w65.cell? ⟨gb1027, 7, none⟩ = some (.int .u32 ((t1032) % 4294967296)) := (zbc BK1027.out 7).trans rfl; have hcz69_8 : w65.cell? ⟨gb1027, 8, none⟩ = some (.int .u32 ((t1033) % 4294967296)) := (zbc BK1027.out 8).trans rfl; have hcz69_9 : w65.cell? ⟨gb1027, 9, none⟩ = some (.slice Ao53 t1035.length co53) := (zbc BK1027.out 9).trans rfl; have hcz69_10 : w65.cell? ⟨gb1027, 10, none⟩ = some (.slice none 0 0) := (zbc BK1027.out 10).trans rfl; have hfz69_0 := zbf BK1027.out 0; have hfz69_1 := zbf BK1027.out 1; have hfz69_2 := zbf BK1027.out 2; have hfz69_3 := zbf BK1027.out 3; have hfz69_4 := zbf BK1027.out 4; have hfz69_5 := zbf BK1027.out 5; have hfz69_6 := zbf BK1027.out 6; have hfz69_7 := zbf BK1027.out 7; have hfz69_8 := zbf BK1027.out 8; have hfz69_9 := zbf BK1027.out 9; have hfz69_10 := zbf BK1027.out 10; have hnb70 := NB1011_1012.out; have hnc70 := NB1012_1011.out; have hcz71_0 : w65.cell? ⟨gb1011, 0, none⟩ = some (.int .u8 0) := (zbc BK1011.out 0).trans rfl; have hcz71_1 : w65.cell? ⟨gb1011, 1, none⟩ = some (.int .u16 0) := (zbc BK1011.out 1).trans rfl; have hcz71_2 : w65.cell? ⟨gb1011, 2, none⟩ = some (.bool false) := (zbc BK1011.out 2).trans rfl; have hcz71_3 : w65.cell? ⟨gb1011, 3, none⟩ = some (.bool false) := (zbc BK1011.out 3).trans rfl; have hcz71_4 : w65.cell? ⟨gb1011, 4, none⟩ = some (.int .i64 0) := (zbc BK1011.out 4).trans rfl; have hcz71_5 : w65.cell? ⟨gb1011, 5, none⟩ = some (.int .u8 0) := (zbc BK1011.out 5).trans rfl; have hcz71_6 : w65.cell? ⟨gb1011, 6, none⟩ = some (.int .u8 0) := (zbc BK1011.out 6).trans rfl; have hcz71_7 : w65.cell? ⟨gb1011, 7, none⟩ = some (.int .u32 0) := (zbc BK1011.out 7).trans rfl; have hcz71_8 : w65.cell? ⟨gb1011, 8, none⟩ = some (.int .u32 0) := (zbc BK1011.out 8).trans rfl; have hcz71_9 : w65.cell? ⟨gb1011, 9, none⟩ = some (.slice none 0 0) := (zbc BK1011.out 9).trans rfl; have hcz71_10 : w65.cell? ⟨gb1011, 10, none⟩ = some (.slice none 0 0) := (zbc BK1011.out 10).trans rfl; have hfz71_0 := zbf BK1011.out 0; have hfz71_1 := zbf BK1011.out 1; have hfz71_2 := zbf BK1011.out 2; have hfz71_3 := zbf BK1011.out 3; have hfz71_4 := zbf BK1011.out 4; have hfz71_5 := zbf BK1011.out 5; have hfz71_6 := zbf BK1011.out 6; have hfz71_7 := zbf BK1011.out 7; have hfz71_8 := zbf BK1011.out 8; have hfz71_9 := zbf BK1011.out 9; have hfz71_10 := zbf BK1011.out 10))
                    refine bodyPost_ret (results_ct rfl _ _ gb1011 43 #[.int .u8 (rd l0 1), .int .u16 (IntKind.u16.wrap (t1029)), .bool ((wrap64 (Int.tdiv (wrap64 (Int.tdiv (wrap64 (rd l0 6)) 32)) 2)) == 1), .bool ((Int.tmod (wrap64 (Int.tdiv (wrap64 (rd l0 6)) 32)) 2) == 1), .int .i64 (wrap64 (8 * (Int.tmod t1025 8192))), .int .u8 (rd l0 8), .int .u8 (rd l0 9), .int .u32 ((t1032) % 4294967296), .int .u32 ((t1033) % 4294967296), .slice Ao53 t1035.length co53, .slice Ao66 t1039.length co66] (0, 0) _ rfl (by (with_reducible repeat (first | refine zdn ?_ _ | refine zdr ?_ | refine blk_alloc ?_ _)); refine blk_put (cs := #[.int .u8 (rd l0 1), .int .u16 (IntKind.u16.wrap (t1029)), .bool ((wrap64 (Int.tdiv (wrap64 (Int.tdiv (wrap64 (rd l0 6)) 32)) 2)) == 1), .bool ((Int.tmod (wrap64 (Int.tdiv (wrap64 (rd l0 6)) 32)) 2) == 1), .int .i64 (wrap64 (8 * (Int.tmod t1025 8192))), .int .u8 (rd l0 8), .int .u8 (rd l0 9), .int .u32 ((t1032) % 4294967296), .int .u32 ((t1033) % 4294967296), .slice Ao53 t1035.length co53, .slice none 0 0]) ?_ 10 _ rfl; (with_reducible repeat (first | refine zdn ?_ _ | refine zdr ?_ | refine blk_alloc ?_ _)); refine blk_put (cs := #[.int .u8 (rd l0 1), .int .u16 (IntKind.u16.wrap (t1029)), .bool ((wrap64 (Int.tdiv (wrap64 (Int.tdiv (wrap64 (rd l0 6)) 32)) 2)) == 1), .bool ((Int.tmod (wrap64 (Int.tdiv (wrap64 (rd l0 6)) 32)) 2) == 1), .int .i64 (wrap64 (8 * (Int.tmod t1025 8192))), .int .u8 (rd l0 8), .int .u8 (rd l0 9), .int .u32 ((t1032) % 4294967296), .int .u32 ((t1033) % 4294967296), .slice none 0 0, .slice none 0 0]) ?_ 9 _ rfl; (with_reducible repeat (first | refine zdn ?_ _ | refine zdr ?_ | refine blk_alloc ?_ _)); refine blk_put (cs := #[.int .u8 (rd l0 1), .int .u16 (IntKind.u16.wrap (t1029)), .bool ((wrap64 (Int.tdiv (wrap64 (Int.tdiv (wrap64 (rd l0 6)) 32)) 2)) == 1), .bool ((Int.tmod (wrap64 (Int.tdiv (wrap64 (rd l0 6)) 32)) 2) == 1), .int .i64 (wrap64 (8 * (Int.tmod t1025 8192))), .int .u8 (rd l0 8), .int .u8 (rd l0 9), .int .u32 ((t1032) % 4294967296), .int .u32 0, .slice none 0 0, .slice none 0 0]) ?_ 8 _ rfl; (with_reducible repeat (first | refine zdn ?_ _ | refine zdr ?_ | refine blk_alloc ?_ _)); refine blk_put (cs := #[.int .u8 (rd l0 1), .int .u16 (IntKind.u16.wrap (t1029)), .bool ((wrap64 (Int.tdiv (wrap64 (Int.tdiv (wrap64 (rd l0 6)) 32)) 2)) == 1), .bool ((Int.tmod (wrap64 (Int.tdiv (wrap64 (rd l0 6)) 32)) 2) == 1), .int .i64 (wrap64 (8 * (Int.tmod t1025 8192))), .int .u8 (rd l0 8), .int .u8 (rd l0 9), .int .u32 0, .int .u32 0, .slice none 0 0, .slice none 0 0]) ?_ 7 _ rfl; (with_reducible repeat (first | refine zdn ?_ _ | refine zdr ?_ | refine blk_alloc ?_ _)); refine blk_put (cs := #[.int .u8 (rd l0 1), .int .u16 (IntKind.u16.wrap (t1029)), .bool ((wrap64 (Int.tdiv (wrap64 (Int.tdiv (wrap64 (rd l0 6)) 32)) 2)) == 1), .bool ((Int.tmod (wrap64 (Int.tdiv (wrap64 (rd l0 6)) 32)) 2) == 1), .int .i64 (wrap64 (8 * (Int.tmod t1025 8192))), .int .u8 (rd l0 8), .int .u8 0, .int .u32 0, .int .u32 0, .slice none 0 0, .slice none 0 0]) ?_ 6 _ rfl; (with_reducible repeat (first | refine zdn ?_ _ | refine zdr ?_ | refine blk_alloc ?_ _)); refine blk_put (cs := #[.int .u8 (rd l0 1), .int .u16 (IntKind.u16.wrap (t1029)), .bool ((wrap64 (Int.tdiv (wrap64 (Int.tdiv (wrap64 (rd l0 6)) 32)) 2)) == 1), .bool ((Int.tmod (wrap64 (Int.tdiv (wrap64 (rd l0 6)) 32)) 2) == 1), .int .i64 (wrap64 (8 * (Int.tmod t1025 8192))), .int .u8 0, .int .u8 0, .int .u32 0, .int .u32 0, .slice none 0 0, .slice none 0 0]) ?_ 5 _ rfl; (with_reducible repeat (first | refine zdn ?_ _ | refine zdr ?_ | refine blk_alloc ?_ _)); refine blk_put (cs := #[.int .u8 (rd l0 1), .int .u16 (IntKind.u16.wrap (t1029)), .bool ((wrap64 (Int.tdiv (wrap64 (Int.tdiv (wrap64 (rd l0 6)) 32)) 2)) == 1), .bool ((Int.tmod (wrap64 (Int.tdiv (wrap64 (rd l0 6)) 32)) 2) == 1), .int .i64 0, .int .u8 0, .int .u8 0, .int .u32 0, .int .u32 0, .slice none 0 0, .slice none 0 0]) ?_ 4 _ rfl; (with_reducible repeat (first | refine zdn ?_ _ | refine zdr ?_ | refine blk_alloc ?_ _)); refine blk_put (cs := #[.int .u8 (rd l0 1), .int .u16 (IntKind.u16.wrap (t1029)), .bool ((wrap64 (Int.tdiv (wrap64 (Int.tdiv (wrap64 (rd l0 6)) 32)) 2)) == 1), .bool false, .int .i64 0, .int .u8 0, .int .u8 0, .int .u32 0, .int .u32 0, .slice none 0 0, .slice none 0 0]) ?_ 3 _ rfl; (with_reducible repeat (first | refine zdn ?_ _ | refine zdr ?_ | refine blk_alloc ?_ _)); refine blk_put (cs := #[.int .u8 (rd l0 1), .int .u16 (IntKind.u16.wrap (t1029)), .bool false, .bool false, .int .i64 0, .int .u8 0, .int .u8 0, .int .u32 0, .int .u32 0, .slice none 0 0, .slice none 0 0]) ?_ 2 _ rfl; (with_reducible repeat (first | refine zdn ?_ _ | refine zdr ?_ | refine blk_alloc ?_ _)); refine blk_put (cs := #[.int .u8 (rd l0 1), .int .u16 0, .bool false, .bool false, .int .i64 0, .int .u8 0, .int .u8 0, .int .u32 0, .int .u32 0, .slice none 0 0, .slice none 0 0]) ?_ 1 _ rfl; (with_reducible repeat (first | refine zdn ?_ _ | refine zdr ?_ | refine blk_alloc ?_ _)); refine blk_put (cs := #[.int .u8 0, .int .u16 0, .bool false, .bool false, .int .i64 0, .int .u8 0, .int .u8 0, .int .u32 0, .int .u32 0, .slice none 0 0, .slice none 0 0]) ?_ 0 _ rfl; (with_reducible repeat (first | refine zdn ?_ _ | refine zdr ?_ | refine blk_alloc ?_ _)); refine blk_far ?_ NB1011_1027.out _; first | (with_reducible exact BK1011.out) | (with_reducible exact zdn BK1011.out _) | (with_reducible exact zdr BK1011.out) | ((with_reducible repeat (first | refine zdn ?_ _ | refine zdr ?_ | refine blk_alloc ?_ _)); exact BK1011.out)) Try.underlying43 rfl (by kernel_rfl)) rfl ?_
                    exact ⟨_, _, by first | rfl | (simp [errW_none, errW_some] <;> rfl) | (simp [*, errW_none, errW_some] <;> rfl), by (with_reducible repeat (first | apply Kd.R_alloc | apply Kd.R_drewN | apply Kd.R_drew)); exact Kd.R_mono (Kd.R_far (p := ⟨gb1011, 10, none⟩) (Kd.R_far (p := ⟨gb1011, 9, none⟩) (Kd.R_far (p := ⟨gb1011, 8, none⟩) (Kd.R_far (p := ⟨gb1011, 7, none⟩) (Kd.R_far (p := ⟨gb1011, 6, none⟩) (Kd.R_far (p := ⟨gb1011, 5, none⟩) (Kd.R_far (p := ⟨gb1011, 4, none⟩) (Kd.R_far (p := ⟨gb1011, 3, none⟩) (Kd.R_far (p := ⟨gb1011, 2, none⟩) (Kd.R_far (p := ⟨gb1011, 1, none⟩) (Kd.R_far (p := ⟨gb1011, 0, none⟩) (Kd.R_far (p := ⟨gb1027, 10, none⟩) (Kd.R_types (Kd.R_types HO1037.out BK1027.out (by decide)) BK1011.out (by decide)) (fun _ hk => hk.1.2) (.slice Ao66 t1039.length co66)) (fun _ hk => hk.2) (.int .u8 (rd l0 1))) (fun _ hk => hk.2) (.int .u16 (IntKind.u16.wrap (t1029)))) (fun _ hk => hk.2) (.bool ((wrap64 (Int.tdiv (wrap64 (Int.tdiv (wrap64 (rd l0 6)) 32)) 2)) == 1))) (fun _ hk => hk.2) (.bool ((Int.tmod (wrap64 (Int.tdiv (wrap64 (rd l0 6)) 32)) 2) == 1))) (fun _ hk => hk.2) (.int .i64 (wrap64 (8 * (Int.tmod t1025 8192))))) (fun _ hk => hk.2) (.int .u8 (rd l0 8))) (fun _ hk => hk.2) (.int .u8 (rd l0 9))) (fun _ hk => hk.2) (.int .u32 ((t1032) % 4294967296))) (fun _ hk => hk.2) (.int .u32 ((t1033) % 4294967296))) (fun _ hk => hk.2) (.slice Ao53 t1035.length co53)) (fun _ hk => hk.2) (.slice Ao66 t1039.length co66)) (fun _ hk => hk.1.1.2), by (with_reducible repeat (first | apply Kd.R_alloc | apply Kd.R_drewN | apply Kd.R_drew)); exact Kd.R_mono (Kd.R_far (p := ⟨gb1011, 10, none⟩) (Kd.R_far (p := ⟨gb1011, 9, none⟩) (Kd.R_far (p := ⟨gb1011, 8, none⟩) (Kd.R_far (p := ⟨gb1011, 7, none⟩) (Kd.R_far (p := ⟨gb1011, 6, none⟩) (Kd.R_far (p := ⟨gb1011, 5, none⟩) (Kd.R_far (p := ⟨gb1011, 4, none⟩) (Kd.R_far (p := ⟨gb1011, 3, none⟩) (Kd.R_far (p := ⟨gb1011, 2, none⟩) (Kd.R_far (p := ⟨gb1011, 1, none⟩) (Kd.R_far (p := ⟨gb1011, 0, none⟩) (Kd.R_far (p := ⟨gb1027, 10, none⟩) (Kd.R_types (Kd.R_types HO1041.out BK1027.out (by decide)) BK1011.out (by decide)) (fun _ hk => hk.1.2) (.slice Ao66 t1039.length co66)) (fun _ hk => hk.2) (.int .u8 (rd l0 1))) (fun _ hk => hk.2) (.int .u16 (IntKind.u16.wrap (t1029)))) (fun _ hk => hk.2) (.bool ((wrap64 (Int.tdiv (wrap64 (Int.tdiv (wrap64 (rd l0 6)) 32)) 2)) == 1))) (fun _ hk => hk.2) (.bool ((Int.tmod (wrap64 (Int.tdiv (wrap64 (rd l0 6)) 32)) 2) == 1))) (fun _ hk => hk.2) (.int .i64 (wrap64 (8 * (Int.tmod t1025 8192))))) (fun _ hk => hk.2) (.int .u8 (rd l0 8))) (fun _ hk => hk.2) (.int .u8 (rd l0 9))) (fun _ hk => hk.2) (.int .u32 ((t1032) % 4294967296))) (fun _ hk => hk.2) (.int .u32 ((t1033) % 4294967296))) (fun _ hk => hk.2) (.slice Ao53 t1035.length co53)) (fun _ hk => hk.2) (.slice Ao66 t1039.length co66)) (fun _ hk => hk.1.1.2), by repeat (first | (with_reducible first | exact HB.out | apply below_alloc | apply pw_below_drewN | apply below_drew1 | refine below_set ?_ GE1011.out | refine below_set ?_ GE1012.out | refine below_set ?_ GE1027.out) | exact HB.out)⟩
                   ·
                    rw [if_neg c47] at H
                    exact absurd H (by simp)
                  ·
                   rw [if_neg c46] at H
                   exact absurd H (by simp)
                 ·
                  rw [if_neg c45] at H
                  exact absurd H (by simp)
                ·
                 rw [if_neg c43] at H
                 exact absurd H (by simp)
               ·
                rw [if_neg c42] at H
                exact absurd H (by simp)
              ·
               rw [if_neg c39] at H
               exact absurd H (by simp)
             ·
              rw [if_neg c38] at H
              exact absurd H (by simp)
            ·
             rw [if_neg c36] at H
             exact absurd H (by simp)
         ·
          replace c26 := Bool.eq_false_iff.mpr c26
          subst c26
          have H1 : (some (0, 0, false, false, 0, 0, 0, 0, 0, ([] : List Int), ([] : List Int), 36)) = some (r1, r2, r3, r4, r5, r6, r7, r8, r9, r10, r11, r12) := by rw [if_neg (show ¬ (false = true) by decide)] at H; exact H
          clear H
          have H := H1
          clear H1
          simp only [Option.some.injEq, Prod.mk.injEq] at H
          obtain ⟨rfl, rfl, rfl, rfl, rfl, rfl, rfl, rfl, rfl, rfl, rfl, rfl⟩ := H
          go_enter Try.func73, Try.ntmps73
          go_wp2_with (first | ((with_reducible refine gate_dst (N := 4) rfl ?_); refine box_event ?hg (N := 4) ?hd (cs := #[.int .u8 0, .int .u16 0, .bool false, .bool false, .int .i64 0, .int .u8 0, .int .u8 0, .int .u32 0, .int .u32 0, .slice none 0 0, .slice none 0 0]) (t := 43) ?hr ?_; (case hd => rfl); (case hg => rfl); (case hr => first | (go_simp; done) | (go_simp; rfl)); intro gb1011 hg w72 hbox hb; have n0_ := zam (below_step zqxb23_8 hb); have n1_ := zam (hbox); have n2_ := zam ((by rw [hg]; exact (below_size zqxb23_8) : w.heap.size ≤ gb1011)); have n3_ := zam ((by rw [hg]; exact (below_size zqxb23_8) : w.heap.size ≤ gb1011)); clear HB; have HB := n0_; have BK1011 := n1_; have GW1011 := n2_; have GE1011 := n3_; clear n0_ n1_ n2_ n3_; clear hb hbox hg) | ((with_reducible refine gate_dst (N := 6) rfl ?_); refine box_event ?hg (N := 6) ?hd (cs := #[.int .u8 0, .int .u16 0, .bool false, .bool false, .int .i64 0, .int .u8 0, .int .u8 0, .int .u32 0, .int .u32 0, .slice none 0 0, .slice none 0 0]) (t := 43) ?hr ?_; (case hd => rfl); (case hg => rfl); (case hr => first | (go_simp; done) | (go_simp; rfl)); intro gb1012 hg w73 hbox hb; have n0_ := zam (blk_below (g := gb1011) (o := .cells #[.int .u8 0, .int .u16 0, .bool false, .bool false, .int .i64 0, .int .u8 0, .int .u8 0, .int .u32 0, .int .u32 0, .slice none 0 0, .slice none 0 0] 43 (0, 0)) zqxb23_1 hb); have n1_ := zam (below_step zqxb23_7 hb); have n2_ := zam (hbox); have n3_ := zam ((by rw [hg]; exact (below_size zqxb23_7) : w.heap.size ≤ gb1012)); have n4_ := zam ((by rw [hg]; exact (below_size zqxb23_7) : w.heap.size ≤ gb1012)); have n5_ := zam ((by rw [hg]; exact Nat.ne_of_lt (blk_lt (g := gb1011) (o := .cells #[.int .u8 0, .int .u16 0, .bool false, .bool false, .int .i64 0, .int .u8 0, .int .u8 0, .int .u32 0, .int .u32 0, .slice none 0 0, .slice none 0 0] 43 (0, 0)) zqxb23_1) : gb1011 ≠ gb1012)); have n6_ := zam ((by rw [hg]; exact Nat.ne_of_gt (blk_lt (g := gb1011) (o := .cells #[.int .u8 0, .int .u16 0, .bool false, .bool false, .int .i64 0, .int .u8 0, .int .u8 0, .int .u32 0, .int .u32 0, .slice none 0 0, .slice none 0 0] 43 (0, 0)) zqxb23_1) : gb1012 ≠ gb1011)); clear BK1011; clear HB; have BK1011 := n0_; have HB := n1_; have BK1012 := n2_; have GW1012 := n3_; have GE1012 := n4_; have NB1011_1012 := n5_; have NB1012_1011 := n6_; clear n0_ n1_ n2_ n3_ n4_ n5_ n6_; clear hb hbox hg) | ((with_reducible refine gate_callee (f := 81) rfl ?_); refine goesL_ (some 16) rfl rfl Try.func81 (by kernel_rfl) rfl #[.slice A0 l0.length c0, .bool a1] rfl zqxb23_9 ?_; (with_reducible refine (weftref3_front.calls _ _ l0 a1 t1013 t1014 t1015 _ ?side1 ?side2 A3.out).mono ?_); (case side1 => repeat (first | exact (Kd.C_below HR0.out HB.out) | (with_reducible refine Kd.C_alloc ?_ _) | (with_reducible refine Kd.C_drewN ?_ _) | (with_reducible refine Kd.C_drew ?_))); (case side2 => exact HC0.out); rintro e w' ⟨rfl, ⟨nd, rfl⟩⟩; refine ⟨_, rfl, ?_⟩; (try (rw [drewN_self w73]; generalize hq_ : World.drewN w73 _ = w73; have n0_ : Aside0 (w73.heap[gb1011]? = some (.cells #[.int .u8 0, .int .u16 0, .bool false, .bool false, .int .i64 0, .int .u8 0, .int .u8 0, .int .u32 0, .int .u32 0, .slice none 0 0, .slice none 0 0] 43 (0, 0))) := ⟨by rw [← hq_]; exact zqxb23_1⟩; have n1_ : Aside0 (w73.heap[gb1012]? = some (.cells #[.int .u8 0, .int .u16 0, .bool false, .bool false, .int .i64 0, .int .u8 0, .int .u8 0, .int .u32 0, .int .u32 0, .slice none 0 0, .slice none 0 0] 43 (0, 0))) := ⟨by rw [← hq_]; exact zqxb23_5⟩; have n2_ : Aside0 (Below w.heap.size w w73) := ⟨by rw [← hq_]; exact zqxb23_6⟩; clear BK1011 BK1012 HB hq_; have BK1011 := n0_; have BK1012 := n1_; have HB := n2_; clear n0_ n1_ n2_)); obtain ⟨i074, hi074, _, hsz74, _⟩ := info_parts info5; obtain ⟨hcut74, hA74, hC74⟩ := print_take_of (P := Try.prog) (Value.int .u8) 0 24 5 .i64 Try.underlying24 hi074 hsz74 A0 c0 l0 t1013 (zod zqxb23_12) (zod zqxb23_12) HC0.out; have HR1016 := zam (Kd.C_of_reads (h1 := fun _ => rfl) (hA74 _ (Kd.reads_of_C HR0.out))); have HC1016 := zam hC74; clear hA74 hC74 hi074 hsz74) | ((with_reducible refine gate_dst (N := 27) rfl ?_); refine lits_event (Kd.slice 5 (Kd.int .u8)) 24 ?hg (N := 27) ?hd (xs := ([l0.take (t1013 : Int).toNat] : List (List Int))) (inner := [.slice A0 (l0.take (t1013 : Int).toNat).length c0]) ?hr ?hp (by simp) ?_; (case hd => rfl); (case hg => rfl); (case hr => first | (go_simp; done) | (go_simp; rfl)); (case hp => exact (Reps.one (show Kd.K (Kd.slice 5 (Kd.int .u8)) _ (l0.take (t1013 : Int).toNat) [.slice A0 (l0.take (t1013 : Int).toNat).length c0] from by refine ⟨_, _, rfl, ?_, ?_⟩; (· exact HC1016.out); (· repeat (first | exact (Kd.C_below HR1016.out HB.out) | (with_reducible refine Kd.C_alloc ?_ _) | (with_reducible refine Kd.C_drewN ?_ _) | (with_reducible refine Kd.C_drew ?_)))) (Reps.none _ _))); intro v76_ w75 hL_ hb; (first | rw [← Ny1017.out] at hL_ | (simp only [Int.reduceToNat] at hL_; rw [← Ny1017.out] at hL_)); obtain ⟨A76, c76, rfl, hlr_, hlc_⟩ := hL_; have n0_ := zam (blk_below (g := gb1011) (o := .cells #[.int .u8 0, .int .u16 0, .bool false, .bool false, .int .i64 0, .int .u8 0, .int .u8 0, .int .u32 0, .int .u32 0, .slice none 0 0, .slice none 0 0] 43 (0, 0)) zqxb23_1 hb); have n1_ := zam (blk_below (g := gb1012) (o := .cells #[.int .u8 0, .int .u16 0, .bool false, .bool false, .int .i64 0, .int .u8 0, .int .u8 0, .int .u32 0, .int .u32 0, .slice none 0 0, .slice none 0 0] 43 (0, 0)) zqxb23_5 hb); have n2_ := zam (below_step zqxb23_6 hb); have n3_ := zam (hlc_); have n4_ := zam (hlr_); clear BK1011; clear BK1012; clear HB; have BK1011 := n0_; have BK1012 := n1_; have HB := n2_; have HR1020 := n3_; have HC1020 := n4_; clear n0_ n1_ n2_ n3_ n4_; clear hb hlr_ hlc_) | ((with_reducible refine gate_callee (f := 56) rfl ?_); refine goesL_ (some 28) rfl rfl Try.func56 (by kernel_rfl) rfl #[.slice A76 y1017.length c76] rfl zqxb23_9 ?_; (with_reducible refine (weftref3_Sum.calls k _ _ y1017 t1021 _ ?side1 ?side2 A7.out).mono ?_); (case side1 => repeat (first | exact zqxb23_10 | (with_reducible refine Kd.C_alloc ?_ _) | (with_reducible refine Kd.C_drewN ?_ _) | (with_reducible refine Kd.C_drew ?_))); (case side2 => exact HC1020.out); rintro e w77 ⟨rfl, hb⟩; refine ⟨_, rfl, ?_⟩; have n0_ := zam (blk_below (g := gb1011) (o := .cells #[.int .u8 0, .int .u16 0, .bool false, .bool false, .int .i64 0, .int .u8 0, .int .u8 0, .int .u32 0, .int .u32 0, .slice none 0 0, .slice none 0 0] 43 (0, 0)) zqxb23_1 hb); have n1_ := zam (blk_below (g := gb1012) (o := .cells #[.int .u8 0, .int .u16 0, .bool false, .bool false, .int .i64 0, .int .u8 0, .int .u8 0, .int .u32 0, .int .u32 0, .slice none 0 0, .slice none 0 0] 43 (0, 0)) zqxb23_5 hb); have n2_ := zam (Kd.C_below zqxb23_10 hb); have n3_ := zam (below_step zqxb23_6 hb); clear BK1011; clear BK1012; clear HR1020; clear HB; have BK1011 := n0_; have BK1012 := n1_; have HR1020 := n2_; have HB := n3_; clear n0_ n1_ n2_ n3_; (try clear hb); (try clear hb2); (try clear hk); (try clear hi); have p1022 : 0 ≤ (6 : Int) := (by omega); have q1022 : 6 < (l0.length : Int) := zod zqxb23_12; obtain ⟨ad1022, e1022, hx1022_0⟩ := Kd.at_int HR0.out 6 p1022 q1022; cases e1022; (try simp only [show (6 : Int).toNat = 6 from rfl, Nat.reduceMul, Nat.reduceEqDiff, Go.Addr.add, ↓reduceIte] at hx1022_0); have qi1022 : (6 < l0.length) = True := eq_true (by omega); (try rw [show ((6 : Int)).toNat = 6 from rfl] at hx1022_0); replace hx1022_0 := (HB.out.cell (World.block_lt_of_cell? w _ hx1022_0)).trans hx1022_0; replace p1022 := eq_true p1022; replace q1022 := eq_true q1022; obtain ⟨i078, hi078, _, hsz78, _⟩ := info_parts info5; obtain ⟨A78, hcut78, hA78, hC78⟩ := print_mid_of (P := Try.prog) (Value.int .u8) 0 24 5 .i64 .i64 Try.underlying24 hi078 hsz78 (some ad1022) c0 l0 20 t1013 (by omega) zqxb23_16 (zod zqxb23_12) HC0.out; have HR1023 := zam (Kd.C_of_reads (h1 := fun _ => rfl) (hA78 _ (Kd.reads_of_C HR0.out))); have HC1023 := zam hC78; clear hA78 hC78 hi078 hsz78) | ((with_reducible refine gate_callee (f := 74) rfl ?_); refine goesL_ (some 42) rfl rfl Try.func74 (by kernel_rfl) rfl #[.slice A78 ((l0.take (t1013 : Int).toNat).drop 20).length (c0 - 20)] rfl zqxb23_14 ?_; (with_reducible refine (weftref3_Area.calls k _ _ ((l0.take (t1013 : Int).toNat).drop 20) true _ ?side1 ?side2 A22.out).mono ?_); (case side1 => repeat (first | exact (Kd.C_below HR1023.out HB.out) | (with_reducible refine Kd.C_alloc ?_ _) | (with_reducible refine Kd.C_drewN ?_ _) | (with_reducible refine Kd.C_drew ?_))); (case side2 => exact HC1023.out); rintro e w' ⟨rfl, ⟨nd, rfl⟩⟩; refine ⟨_, rfl, ?_⟩; (try (rw [drewN_self w77]; generalize hq_ : World.drewN w77 _ = w77; have n0_ : Aside0 (w77.heap[gb1011]? = some (.cells #[.int .u8 0, .int .u16 0, .bool false, .bool false, .int .i64 0, .int .u8 0, .int .u8 0, .int .u32 0, .int .u32 0, .slice none 0 0, .slice none 0 0] 43 (0, 0))) := ⟨by rw [← hq_]; exact zqxb23_1⟩; have n1_ : Aside0 (w77.heap[gb1012]? = some (.cells #[.int .u8 0, .int .u16 0, .bool false, .bool false, .int .i64 0, .int .u8 0, .int .u8 0, .int .u32 0, .int .u32 0, .slice none 0 0, .slice none 0 0] 43 (0, 0))) := ⟨by rw [← hq_]; exact zqxb23_5⟩; have n2_ : Aside0 (Below w.heap.size w w77) := ⟨by rw [← hq_]; exact zqxb23_6⟩; clear BK1011 BK1012 HB hq_; have BK1011 := n0_; have BK1012 := n1_; have HB := n2_; clear n0_ n1_ n2_))) | ((with_reducible refine gate_callee (f := 82) rfl ?_); refine goesL_ (some 46) rfl rfl Try.func82 (by kernel_rfl) rfl #[.slice (some ad1022) l0.length c0, .int .i64 6] rfl zqxb23_9 ?_; (with_reducible refine (weftref3_two.calls _ _ l0 6 t1025 _ ?side1 ?side2 A24.out).mono ?_); (case side1 => repeat (first | exact (Kd.C_below HR0.out HB.out) | (with_reducible refine Kd.C_alloc ?_ _) | (with_reducible refine Kd.C_drewN ?_ _) | (with_reducible refine Kd.C_drew ?_))); (case side2 => exact HC0.out); rintro e w' ⟨rfl, ⟨nd, rfl⟩⟩; refine ⟨_, rfl, ?_⟩; (try (rw [drewN_self w77]; generalize hq_ : World.drewN w77 _ = w77; have n0_ : Aside0 (w77.heap[gb1011]? = some (.cells #[.int .u8 0, .int .u16 0, .bool false, .bool false, .int .i64 0, .int .u8 0, .int .u8 0, .int .u32 0, .int .u32 0, .slice none 0 0, .slice none 0 0] 43 (0, 0))) := ⟨by rw [← hq_]; exact zqxb23_1⟩; have n1_ : Aside0 (w77.heap[gb1012]? = some (.cells #[.int .u8 0, .int .u16 0, .bool false, .bool false, .int .i64 0, .int .u8 0, .int .u8 0, .int .u32 0, .int .u32 0, .slice none 0 0, .slice none 0 0] 43 (0, 0))) := ⟨by rw [← hq_]; exact zqxb23_5⟩; have n2_ : Aside0 (Below w.heap.size w w77) := ⟨by rw [← hq_]; exact zqxb23_6⟩; clear BK1011 BK1012 HB hq_; have BK1011 := n0_; have BK1012 := n1_; have HB := n2_; clear n0_ n1_ n2_))) | ((with_reducible refine gate_callee (f := 79) rfl ?_); refine goesL_ (some 56) rfl rfl Try.func79 (by kernel_rfl) rfl #[.int .i64 (wrap64 (8 * (Int.tmod t1025 8192))), .int .i64 (wrap64 (t1014 - t1013)), .bool ((Int.tmod (wrap64 (Int.tdiv (wrap64 (rd l0 6)) 32)) 2) == 1)] rfl zqxb23_9 ?_; (with_reducible refine (weftref3_Piece.calls (wrap64 (8 * (Int.tmod t1025 8192))) (wrap64 (t1014 - t1013)) ((Int.tmod (wrap64 (Int.tdiv (wrap64 (rd l0 6)) 32)) 2) == 1) false _ A25.out).mono ?_); rintro e w' ⟨rfl, ⟨nd, rfl⟩⟩; refine ⟨_, rfl, ?_⟩; (try (rw [drewN_self w77]; generalize hq_ : World.drewN w77 _ = w77; have n0_ : Aside0 (w77.heap[gb1011]? = some (.cells #[.int .u8 0, .int .u16 0, .bool false, .bool false, .int .i64 0, .int .u8 0, .int .u8 0, .int .u32 0, .int .u32 0, .slice none 0 0, .slice none 0 0] 43 (0, 0))) := ⟨by rw [← hq_]; exact zqxb23_1⟩; have n1_ : Aside0 (w77.heap[gb1012]? = some (.cells #[.int .u8 0, .int .u16 0, .bool false, .bool false, .int .i64 0, .int .u8 0, .int .u8 0, .int .u32 0, .int .u32 0, .slice none 0 0, .slice none 0 0] 43 (0, 0))) := ⟨by rw [← hq_]; exact zqxb23_5⟩; have n2_ : Aside0 (Below w.heap.size w w77) := ⟨by rw [← hq_]; exact zqxb23_6⟩; clear BK1011 BK1012 HB hq_; have BK1011 := n0_; have BK1012 := n1_; have HB := n2_; clear n0_ n1_ n2_)); have hnb79 := NB1012_1011.out; have hnc79 := NB1011_1012.out; have hcz80_0 : w77.cell? ⟨gb1012, 0, none⟩ = some (.int .u8 0) := (zbc BK1012.out 0).trans rfl; have hcz80_1 : w77.cell? ⟨gb1012, 1, none⟩ = some (.int .u16 0) := (zbc BK1012.out 1).trans rfl; have hcz80_2 : w77.cell? ⟨gb1012, 2, none⟩ = some (.bool false) := (zbc BK1012.out 2).trans rfl; have hcz80_3 : w77.cell? ⟨gb1012, 3, none⟩ = some (.bool false) := (zbc BK1012.out 3).trans rfl; have hcz80_4 : w77.cell? ⟨gb1012, 4, none⟩ = some (.int .i64 0) := (zbc BK1012.out 4).trans rfl; have hcz80_5 : w77.cell? ⟨gb1012, 5, none⟩ = some (.int .u8 0) := (zbc BK1012.out 5).trans rfl; have hcz80_6 : w77.cell? ⟨gb1012, 6, none⟩ = some (.int .u8 0) := (zbc BK1012.out 6).trans rfl; have hcz80_7 : w77.cell? ⟨gb1012, 7, none⟩ = some (.int .u32 0) := (zbc BK1012.out 7).trans rfl; have hcz80_8 : w77.cell? ⟨gb1012, 8, none⟩ = some (.int .u32 0) := (zbc BK1012.out 8).trans rfl; have hcz80_9 : w77.cell? ⟨gb1012, 9, none⟩ = some (.slice none 0 0) := (zbc BK1012.out 9).trans rfl; have hcz80_10 : w77.cell? ⟨gb1012, 10, none⟩ = some (.slice none 0 0) := (zbc BK1012.out 10).trans rfl; have hfz80_0 := zbf BK1012.out 0; have hfz80_1 := zbf BK1012.out 1; have hfz80_2 := zbf BK1012.out 2; have hfz80_3 := zbf BK1012.out 3; have hfz80_4 := zbf BK1012.out 4; have hfz80_5 := zbf BK1012.out 5; have hfz80_6 := zbf BK1012.out 6; have hfz80_7 := zbf BK1012.out 7; have hfz80_8 := zbf BK1012.out 8; have hfz80_9 := zbf BK1012.out 9; have hfz80_10 := zbf BK1012.out 10; have hcz81_0 : w77.cell? ⟨gb1011, 0, none⟩ = some (.int .u8 0) := (zbc BK1011.out 0).trans rfl; have hcz81_1 : w77.cell? ⟨gb1011, 1, none⟩ = some (.int .u16 0) := (zbc BK1011.out 1).trans rfl; have hcz81_2 : w77.cell? ⟨gb1011, 2, none⟩ = some (.bool false) := (zbc BK1011.out 2).trans rfl; have hcz81_3 : w77.cell? ⟨gb1011, 3, none⟩ = some (.bool false) := (zbc BK1011.out 3).trans rfl; have hcz81_4 : w77.cell? ⟨gb1011, 4, none⟩ = some (.int .i64 0) := (zbc BK1011.out 4).trans rfl; have hcz81_5 : w77.cell? ⟨gb1011, 5, none⟩ = some (.int .u8 0) := (zbc BK1011.out 5).trans rfl; have hcz81_6 : w77.cell? ⟨gb1011, 6, none⟩ = some (.int .u8 0) := (zbc BK1011.out 6).trans rfl; have hcz81_7 : w77.cell? ⟨gb1011, 7, none⟩ = some (.int .u32 0) := (zbc BK1011.out 7).trans rfl; have hcz81_8 : w77.cell? ⟨gb1011, 8, none⟩ = some (.int .u32 0) := (zbc BK1011.out 8).trans rfl; have hcz81_9 : w77.cell? ⟨gb1011, 9, none⟩ = some (.slice none 0 0) := (zbc BK1011.out 9).trans rfl; have hcz81_10 : w77.cell? ⟨gb1011, 10, none⟩ = some (.slice none 0 0) := (zbc BK1011.out 10).trans rfl; have hfz81_0 := zbf BK1011.out 0; have hfz81_1 := zbf BK1011.out 1; have hfz81_2 := zbf BK1011.out 2; have hfz81_3 := zbf BK1011.out 3; have hfz81_4 := zbf BK1011.out 4; have hfz81_5 := zbf BK1011.out 5; have hfz81_6 := zbf BK1011.out 6; have hfz81_7 := zbf BK1011.out 7; have hfz81_8 := zbf BK1011.out 8; have hfz81_9 := zbf BK1011.out 9; have hfz81_10 := zbf BK1011.out 10))
          refine bodyPost_ret (results_ct rfl _ _ gb1011 43 #[.int .u8 0, .int .u16 0, .bool false, .bool false, .int .i64 0, .int .u8 0, .int .u8 0, .int .u32 0, .int .u32 0, .slice none 0 0, .slice none 0 0] (0, 0) _ rfl zqxb23_0 Try.underlying43 rfl (by kernel_rfl)) rfl ?_
          exact ⟨_, _, by first | rfl | (simp [errW_none, errW_some] <;> rfl) | (simp [*, errW_none, errW_some] <;> rfl), by first | exact Kd.R_nil _ _ _ _ _ | exact Kd.N_nil _ _ _ _ _ | exact Kd.V_nil _ _ _ _ _ | exact Kd.Q_nil _ _ _ _ _ | exact Kd.S_nil _ _ _ _ _, by first | exact Kd.R_nil _ _ _ _ _ | exact Kd.N_nil _ _ _ _ _ | exact Kd.V_nil _ _ _ _ _ | exact Kd.Q_nil _ _ _ _ _ | exact Kd.S_nil _ _ _ _ _, by repeat (first | (with_reducible first | exact HB.out | apply below_alloc | apply pw_below_drewN | apply below_drew1 | refine below_set ?_ GE1011.out | refine below_set ?_ GE1012.out) | exact HB.out)⟩
        ·
         replace c23 := Bool.eq_false_iff.mpr c23
         subst c23
         have H1 : (some (0, 0, false, false, 0, 0, 0, 0, 0, ([] : List Int), ([] : List Int), 34)) = some (r1, r2, r3, r4, r5, r6, r7, r8, r9, r10, r11, r12) := by rw [if_neg (show ¬ (false = true) by decide)] at H; exact H
         clear H
         have H := H1
         clear H1
         simp only [Option.some.injEq, Prod.mk.injEq] at H
         obtain ⟨rfl, rfl, rfl, rfl, rfl, rfl, rfl, rfl, rfl, rfl, rfl, rfl⟩ := H
         go_enter Try.func73, Try.ntmps73
         go_wp2_with (first | ((with_reducible refine gate_dst (N := 4) rfl ?_); refine box_event ?hg (N := 4) ?hd (cs := #[.int .u8 0, .int .u16 0, .bool false, .bool false, .int .i64 0, .int .u8 0, .int .u8 0, .int .u32 0, .int .u32 0, .slice none 0 0, .slice none 0 0]) (t := 43) ?hr ?_; (case hd => rfl); (case hg => rfl); (case hr => first | (go_simp; done) | (go_simp; rfl)); intro gb1011 hg w82 hbox hb; have n0_ := zam (below_step zqxb23_8 hb); have n1_ := zam (hbox); have n2_ := zam ((by rw [hg]; exact (below_size zqxb23_8) : w.heap.size ≤ gb1011)); have n3_ := zam ((by rw [hg]; exact (below_size zqxb23_8) : w.heap.size ≤ gb1011)); clear HB; have HB := n0_; have BK1011 := n1_; have GW1011 := n2_; have GE1011 := n3_; clear n0_ n1_ n2_ n3_; clear hb hbox hg) | ((with_reducible refine gate_dst (N := 6) rfl ?_); refine box_event ?hg (N := 6) ?hd (cs := #[.int .u8 0, .int .u16 0, .bool false, .bool false, .int .i64 0, .int .u8 0, .int .u8 0, .int .u32 0, .int .u32 0, .slice none 0 0, .slice none 0 0]) (t := 43) ?hr ?_; (case hd => rfl); (case hg => rfl); (case hr => first | (go_simp; done) | (go_simp; rfl)); intro gb1012 hg w83 hbox hb; have n0_ := zam (blk_below (g := gb1011) (o := .cells #[.int .u8 0, .int .u16 0, .bool false, .bool false, .int .i64 0, .int .u8 0, .int .u8 0, .int .u32 0, .int .u32 0, .slice none 0 0, .slice none 0 0] 43 (0, 0)) zqxb23_1 hb); have n1_ := zam (below_step zqxb23_7 hb); have n2_ := zam (hbox); have n3_ := zam ((by rw [hg]; exact (below_size zqxb23_7) : w.heap.size ≤ gb1012)); have n4_ := zam ((by rw [hg]; exact (below_size zqxb23_7) : w.heap.size ≤ gb1012)); have n5_ := zam ((by rw [hg]; exact Nat.ne_of_lt (blk_lt (g := gb1011) (o := .cells #[.int .u8 0, .int .u16 0, .bool false, .bool false, .int .i64 0, .int .u8 0, .int .u8 0, .int .u32 0, .int .u32 0, .slice none 0 0, .slice none 0 0] 43 (0, 0)) zqxb23_1) : gb1011 ≠ gb1012)); have n6_ := zam ((by rw [hg]; exact Nat.ne_of_gt (blk_lt (g := gb1011) (o := .cells #[.int .u8 0, .int .u16 0, .bool false, .bool false, .int .i64 0, .int .u8 0, .int .u8 0, .int .u32 0, .int .u32 0, .slice none 0 0, .slice none 0 0] 43 (0, 0)) zqxb23_1) : gb1012 ≠ gb1011)); clear BK1011; clear HB; have BK1011 := n0_; have HB := n1_; have BK1012 := n2_; have GW1012 := n3_; have GE1012 := n4_; have NB1011_1012 := n5_; have NB1012_1011 := n6_; clear n0_ n1_ n2_ n3_ n4_ n5_ n6_; clear hb hbox hg) | ((with_reducible refine gate_callee (f := 81) rfl ?_); refine goesL_ (some 16) rfl rfl Try.func81 (by kernel_rfl) rfl #[.slice A0 l0.length c0, .bool a1] rfl zqxb23_9 ?_; (with_reducible refine (weftref3_front.calls _ _ l0 a1 t1013 t1014 t1015 _ ?side1 ?side2 A3.out).mono ?_); (case side1 => repeat (first | exact (Kd.C_below HR0.out HB.out) | (with_reducible refine Kd.C_alloc ?_ _) | (with_reducible refine Kd.C_drewN ?_ _) | (with_reducible refine Kd.C_drew ?_))); (case side2 => exact HC0.out); rintro e w' ⟨rfl, ⟨nd, rfl⟩⟩; refine ⟨_, rfl, ?_⟩; (try (rw [drewN_self w83]; generalize hq_ : World.drewN w83 _ = w83; have n0_ : Aside0 (w83.heap[gb1011]? = some (.cells #[.int .u8 0, .int .u16 0, .bool false, .bool false, .int .i64 0, .int .u8 0, .int .u8 0, .int .u32 0, .int .u32 0, .slice none 0 0, .slice none 0 0] 43 (0, 0))) := ⟨by rw [← hq_]; exact zqxb23_1⟩; have n1_ : Aside0 (w83.heap[gb1012]? = some (.cells #[.int .u8 0, .int .u16 0, .bool false, .bool false, .int .i64 0, .int .u8 0, .int .u8 0, .int .u32 0, .int .u32 0, .slice none 0 0, .slice none 0 0] 43 (0, 0))) := ⟨by rw [← hq_]; exact zqxb23_5⟩; have n2_ : Aside0 (Below w.heap.size w w83) := ⟨by rw [← hq_]; exact zqxb23_6⟩; clear BK1011 BK1012 HB hq_; have BK1011 := n0_; have BK1012 := n1_; have HB := n2_; clear n0_ n1_ n2_)); obtain ⟨i084, hi084, _, hsz84, _⟩ := info_parts info5; obtain ⟨hcut84, hA84, hC84⟩ := print_take_of (P := Try.prog) (Value.int .u8) 0 24 5 .i64 Try.underlying24 hi084 hsz84 A0 c0 l0 t1013 (zod zqxb23_12) (zod zqxb23_12) HC0.out; have HR1016 := zam (Kd.C_of_reads (h1 := fun _ => rfl) (hA84 _ (Kd.reads_of_C HR0.out))); have HC1016 := zam hC84; clear hA84 hC84 hi084 hsz84) | ((with_reducible refine gate_dst (N := 27) rfl ?_); refine lits_event (Kd.slice 5 (Kd.int .u8)) 24 ?hg (N := 27) ?hd (xs := ([l0.take (t1013 : Int).toNat] : List (List Int))) (inner := [.slice A0 (l0.take (t1013 : Int).toNat).length c0]) ?hr ?hp (by simp) ?_; (case hd => rfl); (case hg => rfl); (case hr => first | (go_simp; done) | (go_simp; rfl)); (case hp => exact (Reps.one (show Kd.K (Kd.slice 5 (Kd.int .u8)) _ (l0.take (t1013 : Int).toNat) [.slice A0 (l0.take (t1013 : Int).toNat).length c0] from by refine ⟨_, _, rfl, ?_, ?_⟩; (· exact HC1016.out); (· repeat (first | exact (Kd.C_below HR1016.out HB.out) | (with_reducible refine Kd.C_alloc ?_ _) | (with_reducible refine Kd.C_drewN ?_ _) | (with_reducible refine Kd.C_drew ?_)))) (Reps.none _ _))); intro v86_ w85 hL_ hb; (first | rw [← Ny1017.out] at hL_ | (simp only [Int.reduceToNat] at hL_; rw [← Ny1017.out] at hL_)); obtain ⟨A86, c86, rfl, hlr_, hlc_⟩ := hL_; have n0_ := zam (blk_below (g := gb1011) (o := .cells #[.int .u8 0, .int .u16 0, .bool false, .bool false, .int .i64 0, .int .u8 0, .int .u8 0, .int .u32 0, .int .u32 0, .slice none 0 0, .slice none 0 0] 43 (0, 0)) zqxb23_1 hb); have n1_ := zam (blk_below (g := gb1012) (o := .cells #[.int .u8 0, .int .u16 0, .bool false, .bool false, .int .i64 0, .int .u8 0, .int .u8 0, .int .u32 0, .int .u32 0, .slice none 0 0, .slice none 0 0] 43 (0, 0)) zqxb23_5 hb); have n2_ := zam (below_step zqxb23_6 hb); have n3_ := zam (hlc_); have n4_ := zam (hlr_); clear BK1011; clear BK1012; clear HB; have BK1011 := n0_; have BK1012 := n1_; have HB := n2_; have HR1020 := n3_; have HC1020 := n4_; clear n0_ n1_ n2_ n3_ n4_; clear hb hlr_ hlc_) | ((with_reducible refine gate_callee (f := 56) rfl ?_); refine goesL_ (some 28) rfl rfl Try.func56 (by kernel_rfl) rfl #[.slice A86 y1017.length c86] rfl zqxb23_9 ?_; (with_reducible refine (weftref3_Sum.calls k _ _ y1017 t1021 _ ?side1 ?side2 A7.out).mono ?_); (case side1 => repeat (first | exact zqxb23_10 | (with_reducible refine Kd.C_alloc ?_ _) | (with_reducible refine Kd.C_drewN ?_ _) | (with_reducible refine Kd.C_drew ?_))); (case side2 => exact HC1020.out); rintro e w87 ⟨rfl, hb⟩; refine ⟨_, rfl, ?_⟩; have n0_ := zam (blk_below (g := gb1011) (o := .cells #[.int .u8 0, .int .u16 0, .bool false, .bool false, .int .i64 0, .int .u8 0, .int .u8 0, .int .u32 0, .int .u32 0, .slice none 0 0, .slice none 0 0] 43 (0, 0)) zqxb23_1 hb); have n1_ := zam (blk_below (g := gb1012) (o := .cells #[.int .u8 0, .int .u16 0, .bool false, .bool false, .int .i64 0, .int .u8 0, .int .u8 0, .int .u32 0, .int .u32 0, .slice none 0 0, .slice none 0 0] 43 (0, 0)) zqxb23_5 hb); have n2_ := zam (Kd.C_below zqxb23_10 hb); have n3_ := zam (below_step zqxb23_6 hb); clear BK1011; clear BK1012; clear HR1020; clear HB; have BK1011 := n0_; have BK1012 := n1_; have HR1020 := n2_; have HB := n3_; clear n0_ n1_ n2_ n3_; (try clear hb); (try clear hb2); (try clear hk); (try clear hi); have p1022 : 0 ≤ (6 : Int) := (by omega); have q1022 : 6 < (l0.length : Int) := zod zqxb23_12; obtain ⟨ad1022, e1022, hx1022_0⟩ := Kd.at_int HR0.out 6 p1022 q1022; cases e1022; (try simp only [show (6 : Int).toNat = 6 from rfl, Nat.reduceMul, Nat.reduceEqDiff, Go.Addr.add, ↓reduceIte] at hx1022_0); have qi1022 : (6 < l0.length) = True := eq_true (by omega); (try rw [show ((6 : Int)).toNat = 6 from rfl] at hx1022_0); replace hx1022_0 := (HB.out.cell (World.block_lt_of_cell? w _ hx1022_0)).trans hx1022_0; replace p1022 := eq_true p1022; replace q1022 := eq_true q1022; obtain ⟨i088, hi088, _, hsz88, _⟩ := info_parts info5; obtain ⟨A88, hcut88, hA88, hC88⟩ := print_mid_of (P := Try.prog) (Value.int .u8) 0 24 5 .i64 .i64 Try.underlying24 hi088 hsz88 (some ad1022) c0 l0 20 t1013 (by omega) zqxb23_16 (zod zqxb23_12) HC0.out; have HR1023 := zam (Kd.C_of_reads (h1 := fun _ => rfl) (hA88 _ (Kd.reads_of_C HR0.out))); have HC1023 := zam hC88; clear hA88 hC88 hi088 hsz88) | ((with_reducible refine gate_callee (f := 74) rfl ?_); refine goesL_ (some 42) rfl rfl Try.func74 (by kernel_rfl) rfl #[.slice A88 ((l0.take (t1013 : Int).toNat).drop 20).length (c0 - 20)] rfl zqxb23_14 ?_; (with_reducible refine (weftref3_Area.calls k _ _ ((l0.take (t1013 : Int).toNat).drop 20) false _ ?side1 ?side2 A22.out).mono ?_); (case side1 => repeat (first | exact (Kd.C_below HR1023.out HB.out) | (with_reducible refine Kd.C_alloc ?_ _) | (with_reducible refine Kd.C_drewN ?_ _) | (with_reducible refine Kd.C_drew ?_))); (case side2 => exact HC1023.out); rintro e w' ⟨rfl, ⟨nd, rfl⟩⟩; refine ⟨_, rfl, ?_⟩; (try (rw [drewN_self w87]; generalize hq_ : World.drewN w87 _ = w87; have n0_ : Aside0 (w87.heap[gb1011]? = some (.cells #[.int .u8 0, .int .u16 0, .bool false, .bool false, .int .i64 0, .int .u8 0, .int .u8 0, .int .u32 0, .int .u32 0, .slice none 0 0, .slice none 0 0] 43 (0, 0))) := ⟨by rw [← hq_]; exact zqxb23_1⟩; have n1_ : Aside0 (w87.heap[gb1012]? = some (.cells #[.int .u8 0, .int .u16 0, .bool false, .bool false, .int .i64 0, .int .u8 0, .int .u8 0, .int .u32 0, .int .u32 0, .slice none 0 0, .slice none 0 0] 43 (0, 0))) := ⟨by rw [← hq_]; exact zqxb23_5⟩; have n2_ : Aside0 (Below w.heap.size w w87) := ⟨by rw [← hq_]; exact zqxb23_6⟩; clear BK1011 BK1012 HB hq_; have BK1011 := n0_; have BK1012 := n1_; have HB := n2_; clear n0_ n1_ n2_)); have hnb89 := NB1012_1011.out; have hnc89 := NB1011_1012.out; have hcz90_0 : w87.cell? ⟨gb1012, 0, none⟩ = some (.int .u8 0) := (zbc BK1012.out 0).trans rfl; have hcz90_1 : w87.cell? ⟨gb1012, 1, none⟩ = some (.int .u16 0) := (zbc BK1012.out 1).trans rfl; have hcz90_2 : w87.cell? ⟨gb1012, 2, none⟩ = some (.bool false) := (zbc BK1012.out 2).trans rfl; have hcz90_3 : w87.cell? ⟨gb1012, 3, none⟩ = some (.bool false) := (zbc BK1012.out 3).trans rfl; have hcz90_4 : w87.cell? ⟨gb1012, 4, none⟩ = some (.int .i64 0) := (zbc BK1012.out 4).trans rfl; have hcz90_5 : w87.cell? ⟨gb1012, 5, none⟩ = some (.int .u8 0) := (zbc BK1012.out 5).trans rfl; have hcz90_6 : w87.cell? ⟨gb1012, 6, none⟩ = some (.int .u8 0) := (zbc BK1012.out 6).trans rfl; have hcz90_7 : w87.cell? ⟨gb1012, 7, none⟩ = some (.int .u32 0) := (zbc BK1012.out 7).trans rfl; have hcz90_8 : w87.cell? ⟨gb1012, 8, none⟩ = some (.int .u32 0) := (zbc BK1012.out 8).trans rfl; have hcz90_9 : w87.cell? ⟨gb1012, 9, none⟩ = some (.slice none 0 0) := (zbc BK1012.out 9).trans rfl; have hcz90_10 : w87.cell? ⟨gb1012, 10, none⟩ = some (.slice none 0 0) := (zbc BK1012.out 10).trans rfl; have hfz90_0 := zbf BK1012.out 0; have hfz90_1 := zbf BK1012.out 1; have hfz90_2 := zbf BK1012.out 2; have hfz90_3 := zbf BK1012.out 3; have hfz90_4 := zbf BK1012.out 4; have hfz90_5 := zbf BK1012.out 5; have hfz90_6 := zbf BK1012.out 6; have hfz90_7 := zbf BK1012.out 7; have hfz90_8 := zbf BK1012.out 8; have hfz90_9 := zbf BK1012.out 9; have hfz90_10 := zbf BK1012.out 10; have hcz91_0 : w87.cell? ⟨gb1011, 0, none⟩ = some (.int .u8 0) := (zbc BK1011.out 0).trans rfl; have hcz91_1 : w87.cell? ⟨gb1011, 1, none⟩ = some (.int .u16 0) := (zbc BK1011.out 1).trans rfl; have hcz91_2 : w87.cell? ⟨gb1011, 2, none⟩ = some (.bool false) := (zbc BK1011.out 2).trans rfl; have hcz91_3 : w87.cell? ⟨gb1011, 3, none⟩ = some (.bool false) := (zbc BK1011.out 3).trans rfl; have hcz91_4 : w87.cell? ⟨gb1011, 4, none⟩ = some (.int .i64 0) := (zbc BK1011.out 4).trans rfl; have hcz91_5 : w87.cell? ⟨gb1011, 5, none⟩ = some (.int .u8 0) := (zbc BK1011.out 5).trans rfl; have hcz91_6 : w87.cell? ⟨gb1011, 6, none⟩ = some (.int .u8 0) := (zbc BK1011.out 6).trans rfl; have hcz91_7 : w87.cell? ⟨gb1011, 7, none⟩ = some (.int .u32 0) := (zbc BK1011.out 7).trans rfl; have hcz91_8 : w87.cell? ⟨gb1011, 8, none⟩ = some (.int .u32 0) := (zbc BK1011.out 8).trans rfl; have hcz91_9 : w87.cell? ⟨gb1011, 9, none⟩ = some (.slice none 0 0) := (zbc BK1011.out 9).trans rfl; have hcz91_10 : w87.cell? ⟨gb1011, 10, none⟩ = some (.slice none 0 0) := (zbc BK1011.out 10).trans rfl; have hfz91_0 := zbf BK1011.out 0; have hfz91_1 := zbf BK1011.out 1; have hfz91_2 := zbf BK1011.out 2; have hfz91_3 := zbf BK1011.out 3; have hfz91_4 := zbf BK1011.out 4; have hfz91_5 := zbf BK1011.out 5; have hfz91_6 := zbf BK1011.out 6; have hfz91_7 := zbf BK1011.out 7; have hfz91_8 := zbf BK1011.out 8; have hfz91_9 := zbf BK1011.out 9; have hfz91_10 := zbf BK1011.out 10))
         refine bodyPost_ret (results_ct rfl _ _ gb1011 43 #[.int .u8 0, .int .u16 0, .bool false, .bool false, .int .i64 0, .int .u8 0, .int .u8 0, .int .u32 0, .int .u32 0, .slice none 0 0, .slice none 0 0] (0, 0) _ rfl zqxb23_0 Try.underlying43 rfl (by kernel_rfl)) rfl ?_
         exact ⟨_, _, by first | rfl | (simp [errW_none, errW_some] <;> rfl) | (simp [*, errW_none, errW_some] <;> rfl), by first | exact Kd.R_nil _ _ _ _ _ | exact Kd.N_nil _ _ _ _ _ | exact Kd.V_nil _ _ _ _ _ | exact Kd.Q_nil _ _ _ _ _ | exact Kd.S_nil _ _ _ _ _, by first | exact Kd.R_nil _ _ _ _ _ | exact Kd.N_nil _ _ _ _ _ | exact Kd.V_nil _ _ _ _ _ | exact Kd.Q_nil _ _ _ _ _ | exact Kd.S_nil _ _ _ _ _, by repeat (first | (with_reducible first | exact HB.out | apply below_alloc | apply pw_below_drewN | apply below_drew1 | refine below_set ?_ GE1011.out | refine below_set ?_ GE1012.out) | exact HB.out)⟩
       ·
        rw [if_neg c20] at H
        exact absurd H (by simp)
     ·
      rw [if_neg c9] at H
      exact absurd H (by simp)
    ·
     rw [if_neg c8] at H
     have c8b0 : (t1021 == 0) = false := beq_eq_false_iff_ne.mpr c8
     have c8b1 : (t1021 != 0) = true := bne_iff_ne.mpr c8
     simp only [Option.some.injEq, Prod.mk.injEq] at H
     obtain ⟨rfl, rfl, rfl, rfl, rfl, rfl, rfl, rfl, rfl, rfl, rfl, rfl⟩ := H
     go_enter Try.func73, Try.ntmps73
     go_wp2_with (first | ((with_reducible refine gate_dst (N := 4) rfl ?_); refine box_event ?hg (N := 4) ?hd (cs := #[.int .u8 0, .int .u16 0, .bool false, .bool false, .int .i64 0, .int .u8 0, .int .u8 0, .int .u32 0, .int .u32 0, .slice none 0 0, .slice none 0 0]) (t := 43) ?hr ?_; (case hd => rfl); (case hg => rfl); (case hr => first | (go_simp; done) | (go_simp; rfl)); intro gb1011 hg w92 hbox hb; have n0_ := zam (below_step zqxb23_8 hb); have n1_ := zam (hbox); have n2_ := zam ((by rw [hg]; exact (below_size zqxb23_8) : w.heap.size ≤ gb1011)); have n3_ := zam ((by rw [hg]; exact (below_size zqxb23_8) : w.heap.size ≤ gb1011)); clear HB; have HB := n0_; have BK1011 := n1_; have GW1011 := n2_; have GE1011 := n3_; clear n0_ n1_ n2_ n3_; clear hb hbox hg) | ((with_reducible refine gate_dst (N := 6) rfl ?_); refine box_event ?hg (N := 6) ?hd (cs := #[.int .u8 0, .int .u16 0, .bool false, .bool false, .int .i64 0, .int .u8 0, .int .u8 0, .int .u32 0, .int .u32 0, .slice none 0 0, .slice none 0 0]) (t := 43) ?hr ?_; (case hd => rfl); (case hg => rfl); (case hr => first | (go_simp; done) | (go_simp; rfl)); intro gb1012 hg w93 hbox hb; have n0_ := zam (blk_below (g := gb1011) (o := .cells #[.int .u8 0, .int .u16 0, .bool false, .bool false, .int .i64 0, .int .u8 0, .int .u8 0, .int .u32 0, .int .u32 0, .slice none 0 0, .slice none 0 0] 43 (0, 0)) zqxb23_1 hb); have n1_ := zam (below_step zqxb23_7 hb); have n2_ := zam (hbox); have n3_ := zam ((by rw [hg]; exact (below_size zqxb23_7) : w.heap.size ≤ gb1012)); have n4_ := zam ((by rw [hg]; exact (below_size zqxb23_7) : w.heap.size ≤ gb1012)); have n5_ := zam ((by rw [hg]; exact Nat.ne_of_lt (blk_lt (g := gb1011) (o := .cells #[.int .u8 0, .int .u16 0, .bool false, .bool false, .int .i64 0, .int .u8 0, .int .u8 0, .int .u32 0, .int .u32 0, .slice none 0 0, .slice none 0 0] 43 (0, 0)) zqxb23_1) : gb1011 ≠ gb1012)); have n6_ := zam ((by rw [hg]; exact Nat.ne_of_gt (blk_lt (g := gb1011) (o := .cells #[.int .u8 0, .int .u16 0, .bool false, .bool false, .int .i64 0, .int .u8 0, .int .u8 0, .int .u32 0, .int .u32 0, .slice none 0 0, .slice none 0 0] 43 (0, 0)) zqxb23_1) : gb1012 ≠ gb1011)); clear BK1011; clear HB; have BK1011 := n0_; have HB := n1_; have BK1012 := n2_; have GW1012 := n3_; have GE1012 := n4_; have NB1011_1012 := n5_; have NB1012_1011 := n6_; clear n0_ n1_ n2_ n3_ n4_ n5_ n6_; clear hb hbox hg) | ((with_reducible refine gate_callee (f := 81) rfl ?_); refine goesL_ (some 16) rfl rfl Try.func81 (by kernel_rfl) rfl #[.slice A0 l0.length c0, .bool a1] rfl zqxb23_9 ?_; (with_reducible refine (weftref3_front.calls _ _ l0 a1 t1013 t1014 t1015 _ ?side1 ?side2 A3.out).mono ?_); (case side1 => repeat (first | exact (Kd.C_below HR0.out HB.out) | (with_reducible refine Kd.C_alloc ?_ _) | (with_reducible refine Kd.C_drewN ?_ _) | (with_reducible refine Kd.C_drew ?_))); (case side2 => exact HC0.out); rintro e w' ⟨rfl, ⟨nd, rfl⟩⟩; refine ⟨_, rfl, ?_⟩; (try (rw [drewN_self w93]; generalize hq_ : World.drewN w93 _ = w93; have n0_ : Aside0 (w93.heap[gb1011]? = some (.cells #[.int .u8 0, .int .u16 0, .bool false, .bool false, .int .i64 0, .int .u8 0, .int .u8 0, .int .u32 0, .int .u32 0, .slice none 0 0, .slice none 0 0] 43 (0, 0))) := ⟨by rw [← hq_]; exact zqxb23_1⟩; have n1_ : Aside0 (w93.heap[gb1012]? = some (.cells #[.int .u8 0, .int .u16 0, .bool false, .bool false, .int .i64 0, .int .u8 0, .int .u8 0, .int .u32 0, .int .u32 0, .slice none 0 0, .slice none 0 0] 43 (0, 0))) := ⟨by rw [← hq_]; exact zqxb23_5⟩; have n2_ : Aside0 (Below w.heap.size w w93) := ⟨by rw [← hq_]; exact zqxb23_6⟩; clear BK1011 BK1012 HB hq_; have BK1011 := n0_; have BK1012 := n1_; have HB := n2_; clear n0_ n1_ n2_)); obtain ⟨i094, hi094, _, hsz94, _⟩ := info_parts info5; obtain ⟨hcut94, hA94, hC94⟩ := print_take_of (P := Try.prog) (Value.int .u8) 0 24 5 .i64 Try.underlying24 hi094 hsz94 A0 c0 l0 t1013 (zod zqxb23_12) (zod zqxb23_12) HC0.out; have HR1016 := zam (Kd.C_of_reads (h1 := fun _ => rfl) (hA94 _ (Kd.reads_of_C HR0.out))); have HC1016 := zam hC94; clear hA94 hC94 hi094 hsz94) | ((with_reducible refine gate_dst (N := 27) rfl ?_); refine lits_event (Kd.slice 5 (Kd.int .u8)) 24 ?hg (N := 27) ?hd (xs := ([l0.take (t1013 : Int).toNat] : List (List Int))) (inner := [.slice A0 (l0.take (t1013 : Int).toNat).length c0]) ?hr ?hp (by simp) ?_; (case hd => rfl); (case hg => rfl); (case hr => first | (go_simp; done) | (go_simp; rfl)); (case hp => exact (Reps.one (show Kd.K (Kd.slice 5 (Kd.int .u8)) _ (l0.take (t1013 : Int).toNat) [.slice A0 (l0.take (t1013 : Int).toNat).length c0] from by refine ⟨_, _, rfl, ?_, ?_⟩; (· exact HC1016.out); (· repeat (first | exact (Kd.C_below HR1016.out HB.out) | (with_reducible refine Kd.C_alloc ?_ _) | (with_reducible refine Kd.C_drewN ?_ _) | (with_reducible refine Kd.C_drew ?_)))) (Reps.none _ _))); intro v96_ w95 hL_ hb; (first | rw [← Ny1017.out] at hL_ | (simp only [Int.reduceToNat] at hL_; rw [← Ny1017.out] at hL_)); obtain ⟨A96, c96, rfl, hlr_, hlc_⟩ := hL_; have n0_ := zam (blk_below (g := gb1011) (o := .cells #[.int .u8 0, .int .u16 0, .bool false, .bool false, .int .i64 0, .int .u8 0, .int .u8 0, .int .u32 0, .int .u32 0, .slice none 0 0, .slice none 0 0] 43 (0, 0)) zqxb23_1 hb); have n1_ := zam (blk_below (g := gb1012) (o := .cells #[.int .u8 0, .int .u16 0, .bool false, .bool false, .int .i64 0, .int .u8 0, .int .u8 0, .int .u32 0, .int .u32 0, .slice none 0 0, .slice none 0 0] 43 (0, 0)) zqxb23_5 hb); have n2_ := zam (below_step zqxb23_6 hb); have n3_ := zam (hlc_); have n4_ := zam (hlr_); clear BK1011; clear BK1012; clear HB; have BK1011 := n0_; have BK1012 := n1_; have HB := n2_; have HR1020 := n3_; have HC1020 := n4_; clear n0_ n1_ n2_ n3_ n4_; clear hb hlr_ hlc_) | ((with_reducible refine gate_callee (f := 56) rfl ?_); refine goesL_ (some 28) rfl rfl Try.func56 (by kernel_rfl) rfl #[.slice A96 y1017.length c96] rfl zqxb23_9 ?_; (with_reducible refine (weftref3_Sum.calls k _ _ y1017 t1021 _ ?side1 ?side2 A7.out).mono ?_); (case side1 => repeat (first | exact zqxb23_10 | (with_reducible refine Kd.C_alloc ?_ _) | (with_reducible refine Kd.C_drewN ?_ _) | (with_reducible refine Kd.C_drew ?_))); (case side2 => exact HC1020.out); rintro e w97 ⟨rfl, hb⟩; refine ⟨_, rfl, ?_⟩; have n0_ := zam (blk_below (g := gb1011) (o := .cells #[.int .u8 0, .int .u16 0, .bool false, .bool false, .int .i64 0, .int .u8 0, .int .u8 0, .int .u32 0, .int .u32 0, .slice none 0 0, .slice none 0 0] 43 (0, 0)) zqxb23_1 hb); have n1_ := zam (blk_below (g := gb1012) (o := .cells #[.int .u8 0, .int .u16 0, .bool false, .bool false, .int .i64 0, .int .u8 0, .int .u8 0, .int .u32 0, .int .u32 0, .slice none 0 0, .slice none 0 0] 43 (0, 0)) zqxb23_5 hb); have n2_ := zam (Kd.C_below zqxb23_10 hb); have n3_ := zam (below_step zqxb23_6 hb); clear BK1011; clear BK1012; clear HR1020; clear HB; have BK1011 := n0_; have BK1012 := n1_; have HR1020 := n2_; have HB := n3_; clear n0_ n1_ n2_ n3_; (try clear hb); (try clear hb2); (try clear hk); (try clear hi); have hnb98 := NB1012_1011.out; have hnc98 := NB1011_1012.out; have hcz99_0 : w97.cell? ⟨gb1012, 0, none⟩ = some (.int .u8 0) := (zbc BK1012.out 0).trans rfl; have hcz99_1 : w97.cell? ⟨gb1012, 1, none⟩ = some (.int .u16 0) := (zbc BK1012.out 1).trans rfl; have hcz99_2 : w97.cell? ⟨gb1012, 2, none⟩ = some (.bool false) := (zbc BK1012.out 2).trans rfl; have hcz99_3 : w97.cell? ⟨gb1012, 3, none⟩ = some (.bool false) := (zbc BK1012.out 3).trans rfl; have hcz99_4 : w97.cell? ⟨gb1012, 4, none⟩ = some (.int .i64 0) := (zbc BK1012.out 4).trans rfl; have hcz99_5 : w97.cell? ⟨gb1012, 5, none⟩ = some (.int .u8 0) := (zbc BK1012.out 5).trans rfl; have hcz99_6 : w97.cell? ⟨gb1012, 6, none⟩ = some (.int .u8 0) := (zbc BK1012.out 6).trans rfl; have hcz99_7 : w97.cell? ⟨gb1012, 7, none⟩ = some (.int .u32 0) := (zbc BK1012.out 7).trans rfl; have hcz99_8 : w97.cell? ⟨gb1012, 8, none⟩ = some (.int .u32 0) := (zbc BK1012.out 8).trans rfl; have hcz99_9 : w97.cell? ⟨gb1012, 9, none⟩ = some (.slice none 0 0) := (zbc BK1012.out 9).trans rfl; have hcz99_10 : w97.cell? ⟨gb1012, 10, none⟩ = some (.slice none 0 0) := (zbc BK1012.out 10).trans rfl; have hfz99_0 := zbf BK1012.out 0; have hfz99_1 := zbf BK1012.out 1; have hfz99_2 := zbf BK1012.out 2; have hfz99_3 := zbf BK1012.out 3; have hfz99_4 := zbf BK1012.out 4; have hfz99_5 := zbf BK1012.out 5; have hfz99_6 := zbf BK1012.out 6; have hfz99_7 := zbf BK1012.out 7; have hfz99_8 := zbf BK1012.out 8; have hfz99_9 := zbf BK1012.out 9; have hfz99_10 := zbf BK1012.out 10; have hcz100_0 : w97.cell? ⟨gb1011, 0, none⟩ = some (.int .u8 0) := (zbc BK1011.out 0).trans rfl; have hcz100_1 : w97.cell? ⟨gb1011, 1, none⟩ = some (.int .u16 0) := (zbc BK1011.out 1).trans rfl; have hcz100_2 : w97.cell? ⟨gb1011, 2, none⟩ = some (.bool false) := (zbc BK1011.out 2).trans rfl; have hcz100_3 : w97.cell? ⟨gb1011, 3, none⟩ = some (.bool false) := (zbc BK1011.out 3).trans rfl; have hcz100_4 : w97.cell? ⟨gb1011, 4, none⟩ = some (.int .i64 0) := (zbc BK1011.out 4).trans rfl; have hcz100_5 : w97.cell? ⟨gb1011, 5, none⟩ = some (.int .u8 0) := (zbc BK1011.out 5).trans rfl; have hcz100_6 : w97.cell? ⟨gb1011, 6, none⟩ = some (.int .u8 0) := (zbc BK1011.out 6).trans rfl; have hcz100_7 : w97.cell? ⟨gb1011, 7, none⟩ = some (.int .u32 0) := (zbc BK1011.out 7).trans rfl; have hcz100_8 : w97.cell? ⟨gb1011, 8, none⟩ = some (.int .u32 0) := (zbc BK1011.out 8).trans rfl; have hcz100_9 : w97.cell? ⟨gb1011, 9, none⟩ = some (.slice none 0 0) := (zbc BK1011.out 9).trans rfl; have hcz100_10 : w97.cell? ⟨gb1011, 10, none⟩ = some (.slice none 0 0) := (zbc BK1011.out 10).trans rfl; have hfz100_0 := zbf BK1011.out 0; have hfz100_1 := zbf BK1011.out 1; have hfz100_2 := zbf BK1011.out 2; have hfz100_3 := zbf BK1011.out 3; have hfz100_4 := zbf BK1011.out 4; have hfz100_5 := zbf BK1011.out 5; have hfz100_6 := zbf BK1011.out 6; have hfz100_7 := zbf BK1011.out 7; have hfz100_8 := zbf BK1011.out 8; have hfz100_9 := zbf BK1011.out 9; have hfz100_10 := zbf BK1011.out 10))
     refine bodyPost_ret (results_ct rfl _ _ gb1011 43 #[.int .u8 0, .int .u16 0, .bool false, .bool false, .int .i64 0, .int .u8 0, .int .u8 0, .int .u32 0, .int .u32 0, .slice none 0 0, .slice none 0 0] (0, 0) _ rfl zqxb23_0 Try.underlying43 rfl (by kernel_rfl)) rfl ?_
     exact ⟨_, _, by first | rfl | (simp [errW_none, errW_some] <;> rfl) | (simp [*, errW_none, errW_some] <;> rfl), by first | exact Kd.R_nil _ _ _ _ _ | exact Kd.N_nil _ _ _ _ _ | exact Kd.V_nil _ _ _ _ _ | exact Kd.Q_nil _ _ _ _ _ | exact Kd.S_nil _ _ _ _ _, by first | exact Kd.R_nil _ _ _ _ _ | exact Kd.N_nil _ _ _ _ _ | exact Kd.V_nil _ _ _ _ _ | exact Kd.Q_nil _ _ _ _ _ | exact Kd.S_nil _ _ _ _ _, by repeat (first | (with_reducible first | exact HB.out | apply below_alloc | apply pw_below_drewN | apply below_drew1 | refine below_set ?_ GE1011.out | refine below_set ?_ GE1012.out) | exact HB.out)⟩
   ·
    rw [if_neg c6] at H
    exact absurd H (by simp)
  ·
   rw [if_neg c5] at H
   exact absurd H (by simp)
 ·
  rw [if_neg c4] at H
  have c4b0 : (t1015 == 0) = false := beq_eq_false_iff_ne.mpr c4
  have c4b1 : (t1015 != 0) = true := bne_iff_ne.mpr c4
  simp only [Option.some.injEq, Prod.mk.injEq] at H
  obtain ⟨rfl, rfl, rfl, rfl, rfl, rfl, rfl, rfl, rfl, rfl, rfl, rfl⟩ := H
  go_enter Try.func73, Try.ntmps73
  go_wp2_with (first | ((with_reducible refine gate_dst (N := 4) rfl ?_); refine box_event ?hg (N := 4) ?hd (cs := #[.int .u8 0, .int .u16 0, .bool false, .bool false, .int .i64 0, .int .u8 0, .int .u8 0, .int .u32 0, .int .u32 0, .slice none 0 0, .slice none 0 0]) (t := 43) ?hr ?_; (case hd => rfl); (case hg => rfl); (case hr => first | (go_simp; done) | (go_simp; rfl)); intro gb1011 hg w101 hbox hb; have n0_ := zam (below_step zqxb23_8 hb); have n1_ := zam (hbox); have n2_ := zam ((by rw [hg]; exact (below_size zqxb23_8) : w.heap.size ≤ gb1011)); have n3_ := zam ((by rw [hg]; exact (below_size zqxb23_8) : w.heap.size ≤ gb1011)); clear HB; have HB := n0_; have BK1011 := n1_; have GW1011 := n2_; have GE1011 := n3_; clear n0_ n1_ n2_ n3_; clear hb hbox hg) | ((with_reducible refine gate_dst (N := 6) rfl ?_); refine box_event ?hg (N := 6) ?hd (cs := #[.int .u8 0, .int .u16 0, .bool false, .bool false, .int .i64 0, .int .u8 0, .int .u8 0, .int .u32 0, .int .u32 0, .slice none 0 0, .slice none 0 0]) (t := 43) ?hr ?_; (case hd => rfl); (case hg => rfl); (case hr => first | (go_simp; done) | (go_simp; rfl)); intro gb1012 hg w102 hbox hb; have n0_ := zam (blk_below (g := gb1011) (o := .cells #[.int .u8 0, .int .u16 0, .bool false, .bool false, .int .i64 0, .int .u8 0, .int .u8 0, .int .u32 0, .int .u32 0, .slice none 0 0, .slice none 0 0] 43 (0, 0)) zqxb23_1 hb); have n1_ := zam (below_step zqxb23_7 hb); have n2_ := zam (hbox); have n3_ := zam ((by rw [hg]; exact (below_size zqxb23_7) : w.heap.size ≤ gb1012)); have n4_ := zam ((by rw [hg]; exact (below_size zqxb23_7) : w.heap.size ≤ gb1012)); have n5_ := zam ((by rw [hg]; exact Nat.ne_of_lt (blk_lt (g := gb1011) (o := .cells #[.int .u8 0, .int .u16 0, .bool false, .bool false, .int .i64 0, .int .u8 0, .int .u8 0, .int .u32 0, .int .u32 0, .slice none 0 0, .slice none 0 0] 43 (0, 0)) zqxb23_1) : gb1011 ≠ gb1012)); have n6_ := zam ((by rw [hg]; exact Nat.ne_of_gt (blk_lt (g := gb1011) (o := .cells #[.int .u8 0, .int .u16 0, .bool false, .bool false, .int .i64 0, .int .u8 0, .int .u8 0, .int .u32 0, .int .u32 0, .slice none 0 0, .slice none 0 0] 43 (0, 0)) zqxb23_1) : gb1012 ≠ gb1011)); clear BK1011; clear HB; have BK1011 := n0_; have HB := n1_; have BK1012 := n2_; have GW1012 := n3_; have GE1012 := n4_; have NB1011_1012 := n5_; have NB1012_1011 := n6_; clear n0_ n1_ n2_ n3_ n4_ n5_ n6_; clear hb hbox hg) | ((with_reducible refine gate_callee (f := 81) rfl ?_); refine goesL_ (some 16) rfl rfl Try.func81 (by kernel_rfl) rfl #[.slice A0 l0.length c0, .bool a1] rfl zqxb23_9 ?_; (with_reducible refine (weftref3_front.calls _ _ l0 a1 t1013 t1014 t1015 _ ?side1 ?side2 A3.out).mono ?_); (case side1 => repeat (first | exact (Kd.C_below HR0.out HB.out) | (with_reducible refine Kd.C_alloc ?_ _) | (with_reducible refine Kd.C_drewN ?_ _) | (with_reducible refine Kd.C_drew ?_))); (case side2 => exact HC0.out); rintro e w' ⟨rfl, ⟨nd, rfl⟩⟩; refine ⟨_, rfl, ?_⟩; (try (rw [drewN_self w102]; generalize hq_ : World.drewN w102 _ = w102; have n0_ : Aside0 (w102.heap[gb1011]? = some (.cells #[.int .u8 0, .int .u16 0, .bool false, .bool false, .int .i64 0, .int .u8 0, .int .u8 0, .int .u32 0, .int .u32 0, .slice none 0 0, .slice none 0 0] 43 (0, 0))) := ⟨by rw [← hq_]; exact zqxb23_1⟩; have n1_ : Aside0 (w102.heap[gb1012]? = some (.cells #[.int .u8 0, .int .u16 0, .bool false, .bool false, .int .i64 0, .int .u8 0, .int .u8 0, .int .u32 0, .int .u32 0, .slice none 0 0, .slice none 0 0] 43 (0, 0))) := ⟨by rw [← hq_]; exact zqxb23_5⟩; have n2_ : Aside0 (Below w.heap.size w w102) := ⟨by rw [← hq_]; exact zqxb23_6⟩; clear BK1011 BK1012 HB hq_; have BK1011 := n0_; have BK1012 := n1_; have HB := n2_; clear n0_ n1_ n2_)); have hnb103 := NB1012_1011.out; have hnc103 := NB1011_1012.out; have hcz104_0 : w102.cell? ⟨gb1012, 0, none⟩ = some (.int .u8 0) := (zbc BK1012.out 0).trans rfl; have hcz104_1 : w102.cell? ⟨gb1012, 1, none⟩ = some (.int .u16 0) := (zbc BK1012.out 1).trans rfl; have hcz104_2 : w102.cell? ⟨gb1012, 2, none⟩ = some (.bool false) := (zbc BK1012.out 2).trans rfl; have hcz104_3 : w102.cell? ⟨gb1012, 3, none⟩ = some (.bool false) := (zbc BK1012.out 3).trans rfl; have hcz104_4 : w102.cell? ⟨gb1012, 4, none⟩ = some (.int .i64 0) := (zbc BK1012.out 4).trans rfl; have hcz104_5 : w102.cell? ⟨gb1012, 5, none⟩ = some (.int .u8 0) := (zbc BK1012.out 5).trans rfl; have hcz104_6 : w102.cell? ⟨gb1012, 6, none⟩ = some (.int .u8 0) := (zbc BK1012.out 6).trans rfl; have hcz104_7 : w102.cell? ⟨gb1012, 7, none⟩ = some (.int .u32 0) := (zbc BK1012.out 7).trans rfl; have hcz104_8 : w102.cell? ⟨gb1012, 8, none⟩ = some (.int .u32 0) := (zbc BK1012.out 8).trans rfl; have hcz104_9 : w102.cell? ⟨gb1012, 9, none⟩ = some (.slice none 0 0) := (zbc BK1012.out 9).trans rfl; have hcz104_10 : w102.cell? ⟨gb1012, 10, none⟩ = some (.slice none 0 0) := (zbc BK1012.out 10).trans rfl; have hfz104_0 := zbf BK1012.out 0; have hfz104_1 := zbf BK1012.out 1; have hfz104_2 := zbf BK1012.out 2; have hfz104_3 := zbf BK1012.out 3; have hfz104_4 := zbf BK1012.out 4; have hfz104_5 := zbf BK1012.out 5; have hfz104_6 := zbf BK1012.out 6; have hfz104_7 := zbf BK1012.out 7; have hfz104_8 := zbf BK1012.out 8; have hfz104_9 := zbf BK1012.out 9; have hfz104_10 := zbf BK1012.out 10; have hcz105_0 : w102.cell? ⟨gb1011, 0, none⟩ = some (.int .u8 0) := (zbc BK1011.out 0).trans rfl; have hcz105_1 : w102.cell? ⟨gb1011, 1, none⟩ = some (.int .u16 0) := (zbc BK1011.out 1).trans rfl; have hcz105_2 : w102.cell? ⟨gb1011, 2, none⟩ = some (.bool false) := (zbc BK1011.out 2).trans rfl; have hcz105_3 : w102.cell? ⟨gb1011, 3, none⟩ = some (.bool false) := (zbc BK1011.out 3).trans rfl; have hcz105_4 : w102.cell? ⟨gb1011, 4, none⟩ = some (.int .i64 0) := (zbc BK1011.out 4).trans rfl; have hcz105_5 : w102.cell? ⟨gb1011, 5, none⟩ = some (.int .u8 0) := (zbc BK1011.out 5).trans rfl; have hcz105_6 : w102.cell? ⟨gb1011, 6, none⟩ = some (.int .u8 0) := (zbc BK1011.out 6).trans rfl; have hcz105_7 : w102.cell? ⟨gb1011, 7, none⟩ = some (.int .u32 0) := (zbc BK1011.out 7).trans rfl; have hcz105_8 : w102.cell? ⟨gb1011, 8, none⟩ = some (.int .u32 0) := (zbc BK1011.out 8).trans rfl; have hcz105_9 : w102.cell? ⟨gb1011, 9, none⟩ = some (.slice none 0 0) := (zbc BK1011.out 9).trans rfl; have hcz105_10 : w102.cell? ⟨gb1011, 10, none⟩ = some (.slice none 0 0) := (zbc BK1011.out 10).trans rfl; have hfz105_0 := zbf BK1011.out 0; have hfz105_1 := zbf BK1011.out 1; have hfz105_2 := zbf BK1011.out 2; have hfz105_3 := zbf BK1011.out 3; have hfz105_4 := zbf BK1011.out 4; have hfz105_5 := zbf BK1011.out 5; have hfz105_6 := zbf BK1011.out 6; have hfz105_7 := zbf BK1011.out 7; have hfz105_8 := zbf BK1011.out 8; have hfz105_9 := zbf BK1011.out 9; have hfz105_10 := zbf BK1011.out 10))
  refine bodyPost_ret (results_ct rfl _ _ gb1011 43 #[.int .u8 0, .int .u16 0, .bool false, .bool false, .int .i64 0, .int .u8 0, .int .u8 0, .int .u32 0, .int .u32 0, .slice none 0 0, .slice none 0 0] (0, 0) _ rfl zqxb23_0 Try.underlying43 rfl (by kernel_rfl)) rfl ?_
  exact ⟨_, _, by first | rfl | (simp [errW_none, errW_some] <;> rfl) | (simp [*, errW_none, errW_some] <;> rfl), by first | exact Kd.R_nil _ _ _ _ _ | exact Kd.N_nil _ _ _ _ _ | exact Kd.V_nil _ _ _ _ _ | exact Kd.Q_nil _ _ _ _ _ | exact Kd.S_nil _ _ _ _ _, by first | exact Kd.R_nil _ _ _ _ _ | exact Kd.N_nil _ _ _ _ _ | exact Kd.V_nil _ _ _ _ _ | exact Kd.Q_nil _ _ _ _ _ | exact Kd.S_nil _ _ _ _ _, by repeat (first | (with_reducible first | exact HB.out | apply below_alloc | apply pw_below_drewN | apply below_drew1 | refine below_set ?_ GE1011.out | refine below_set ?_ GE1012.out) | exact HB.out)⟩

/-! ### weftref3_Parse: function 60 -/
def weftref3_Parse.f (k : Nat) (l0 : List Int) : Option (Int × Int × Bool × Bool × Int × Int × Int × Int × Int × List Int × List Int × Int) := (weftref3_read.f k l0 true).bind fun bt1043 => (some (bt1043.1, bt1043.2.1, bt1043.2.2.1, bt1043.2.2.2.1, bt1043.2.2.2.2.1, bt1043.2.2.2.2.2.1, bt1043.2.2.2.2.2.2.1, bt1043.2.2.2.2.2.2.2.1, bt1043.2.2.2.2.2.2.2.2.1, bt1043.2.2.2.2.2.2.2.2.2.1, bt1043.2.2.2.2.2.2.2.2.2.2.1, bt1043.2.2.2.2.2.2.2.2.2.2.2))
set_option maxHeartbeats 8000000 in
set_option maxRecDepth 100000 in
theorem weftref3_Parse.calls (k : Nat) (A0 : Option Addr) (c0 : Nat) (l0 : List Int) (r1 : Int) (r2 : Int) (r3 : Bool) (r4 : Bool) (r5 : Int) (r6 : Int) (r7 : Int) (r8 : Int) (r9 : Int) (r10 : List Int) (r11 : List Int) (r12 : Int) (w : World) (hr0 : Kd.C (Kd.int .u8) w A0 l0.length l0) (hc0 : l0.length ≤ c0) (h : weftref3_Parse.f k l0 = some (r1, r2, r3, r4, r5, r6, r7, r8, r9, r10, r11, r12)) :
  Calls Try.prog 60 #[.slice A0 l0.length c0] w fun e w' => ∃ v9_ v10_ : Value, e = .returned (.tuple #[.agg #[.int .u8 r1, .int .u16 r2, .bool r3, .bool r4, .int .i64 r5, .int .u8 r6, .int .u8 r7, .int .u32 r8, .int .u32 r9, v9_, v10_], .int .i64 r12]) ∧ Kd.R (Kd.int .u8) 5 w' w.heap.size (fun k_ => some k_ ≠ (v10_ : Value).ownBlock) v9_ r10 ∧ Kd.R (Kd.int .u8) 5 w' w.heap.size (fun k_ => some k_ ≠ (v9_ : Value).ownBlock) v10_ r11 ∧ Below w.heap.size w w' := by
 have hu43 := Try.underlying43
 have HR0 := zam hr0
 have HC0 := zam hc0
 clear hr0 hc0
 have HB := zam (Below.refl w.heap.size w)
 have H : ((weftref3_read.f k l0 true).bind fun bt1043 => (some (bt1043.1, bt1043.2.1, bt1043.2.2.1, bt1043.2.2.2.1, bt1043.2.2.2.2.1, bt1043.2.2.2.2.2.1, bt1043.2.2.2.2.2.2.1, bt1043.2.2.2.2.2.2.2.1, bt1043.2.2.2.2.2.2.2.2.1, bt1043.2.2.2.2.2.2.2.2.2.1, bt1043.2.2.2.2.2.2.2.2.2.2.1, bt1043.2.2.2.2.2.2.2.2.2.2.2))) = some (r1, r2, r3, r4, r5, r6, r7, r8, r9, r10, r11, r12) := h
 clear h
 replace H := Option.bind_eq_some_iff.mp H
 obtain ⟨⟨t1043, t1044, t1045, t1046, t1047, t1048, t1049, t1050, t1051, t1052, t1055, t1058⟩, A20, H⟩ := H
 replace H : (some (t1043, t1044, t1045, t1046, t1047, t1048, t1049, t1050, t1051, t1052, t1055, t1058)) = some (r1, r2, r3, r4, r5, r6, r7, r8, r9, r10, r11, r12) := H
 have A2 := zam A20
 clear A20
 simp only [Option.some.injEq, Prod.mk.injEq] at H
 obtain ⟨rfl, rfl, rfl, rfl, rfl, rfl, rfl, rfl, rfl, rfl, rfl, rfl⟩ := H
 go_enter Try.func60, Try.ntmps60
 go_wp2_with (first | ((with_reducible refine gate_dst (N := 2) rfl ?_); refine box_event ?hg (N := 2) ?hd (cs := #[.int .u8 0, .int .u16 0, .bool false, .bool false, .int .i64 0, .int .u8 0, .int .u8 0, .int .u32 0, .int .u32 0, .slice none 0 0, .slice none 0 0]) (t := 43) ?hr ?_; (case hd => rfl); (case hg => rfl); (case hr => first | (go_simp; done) | (go_simp; rfl)); intro gb1042 hg w3 hbox hb; have n0_ := zam (below_step zqxb23_8 hb); have n1_ := zam (hbox); have n2_ := zam ((by rw [hg]; exact (below_size zqxb23_8) : w.heap.size ≤ gb1042)); have n3_ := zam ((by rw [hg]; exact (below_size zqxb23_8) : w.heap.size ≤ gb1042)); clear HB; have HB := n0_; have BK1042 := n1_; have GW1042 := n2_; have GE1042 := n3_; clear n0_ n1_ n2_ n3_; clear hb hbox hg) | ((with_reducible refine gate_callee (f := 73) rfl ?_); refine goesL_ (some 5) rfl rfl Try.func73 (by kernel_rfl) rfl #[.slice A0 l0.length c0, .bool true] rfl zqxb23_9 ?_; (with_reducible refine (weftref3_read.calls k _ _ l0 true t1043 t1044 t1045 t1046 t1047 t1048 t1049 t1050 t1051 t1052 t1055 t1058 _ ?side1 ?side2 A2.out).mono ?_); (case side1 => repeat (first | exact (Kd.C_below HR0.out HB.out) | (with_reducible refine Kd.C_alloc ?_ _) | (with_reducible refine Kd.C_drewN ?_ _) | (with_reducible refine Kd.C_drew ?_))); (case side2 => exact HC0.out); rintro e w4 ⟨v1053, v1056, rfl, ho0, ho1, hb⟩; refine ⟨_, rfl, ?_⟩; have n0_ := zam (Kd.R_lower ho0 (below_size zqxb23_15)); have n1_ := zam (Kd.R_lower ho1 (below_size zqxb23_15)); have n2_ := zam (blk_below (g := gb1042) (o := .cells #[.int .u8 0, .int .u16 0, .bool false, .bool false, .int .i64 0, .int .u8 0, .int .u8 0, .int .u32 0, .int .u32 0, .slice none 0 0, .slice none 0 0] 43 (0, 0)) (by first | (with_reducible exact BK1042.out) | (with_reducible exact zdn BK1042.out _) | (with_reducible exact zdr BK1042.out) | ((with_reducible repeat (first | refine zdn ?_ _ | refine zdr ?_ | refine blk_alloc ?_ _)); exact BK1042.out)) hb); have n3_ := zam (below_step zqxb23_15 hb); clear BK1042; clear HB; have HO1054 := n0_; have HO1057 := n1_; have BK1042 := n2_; have HB := n3_; clear n0_ n1_ n2_ n3_; (try clear hb); (try clear hb2); (try clear hk); (try clear hi); (try clear ho0); (try clear ho1); have hcz5_0 : w4.cell? ⟨gb1042, 0, none⟩ = some (.int .u8 0) := (zbc BK1042.out 0).trans rfl; have hcz5_1 : w4.cell? ⟨gb1042, 1, none⟩ = some (.int .u16 0) := (zbc BK1042.out 1).trans rfl; have hcz5_2 : w4.cell? ⟨gb1042, 2, none⟩ = some (.bool false) := (zbc BK1042.out 2).trans rfl; have hcz5_3 : w4.cell? ⟨gb1042, 3, none⟩ = some (.bool false) := (zbc BK1042.out 3).trans rfl; have hcz5_4 : w4.cell? ⟨gb1042, 4, none⟩ = some (.int .i64 0) := (zbc BK1042.out 4).trans rfl; have hcz5_5 : w4.cell? ⟨gb1042, 5, none⟩ = some (.int .u8 0) := (zbc BK1042.out 5).trans rfl; have hcz5_6 : w4.cell? ⟨gb1042, 6, none⟩ = some (.int .u8 0) := (zbc BK1042.out 6).trans rfl; have hcz5_7 : w4.cell? ⟨gb1042, 7, none⟩ = some (.int .u32 0) := (zbc BK1042.out 7).trans rfl; have hcz5_8 : w4.cell? ⟨gb1042, 8, none⟩ = some (.int .u32 0) := (zbc BK1042.out 8).trans rfl; have hcz5_9 : w4.cell? ⟨gb1042, 9, none⟩ = some (.slice none 0 0) := (zbc BK1042.out 9).trans rfl; have hcz5_10 : w4.cell? ⟨gb1042, 10, none⟩ = some (.slice none 0 0) := (zbc BK1042.out 10).trans rfl; have hfz5_0 := zbf BK1042.out 0; have hfz5_1 := zbf BK1042.out 1; have hfz5_2 := zbf BK1042.out 2; have hfz5_3 := zbf BK1042.out 3; have hfz5_4 := zbf BK1042.out 4; have hfz5_5 := zbf BK1042.out 5; have hfz5_6 := zbf BK1042.out 6; have hfz5_7 := zbf BK1042.out 7; have hfz5_8 := zbf BK1042.out 8; have hfz5_9 := zbf BK1042.out 9; have hfz5_10 := zbf BK1042.out 10; obtain ⟨Ao6, co6, eo6⟩ := Kd.R_slice HO1054.out; subst eo6; obtain ⟨Ao7, co7, eo7⟩ := Kd.R_slice HO1057.out; subst eo7))
 refine bodyPost_ret (results_ct rfl _ _ gb1042 43 #[.int .u8 t1043, .int .u16 t1044, .bool t1045, .bool t1046, .int .i64 t1047, .int .u8 t1048, .int .u8 t1049, .int .u32 t1050, .int .u32 t1051, .slice Ao6 t1052.length co6, .slice Ao7 t1055.length co7] (0, 0) _ rfl (by (with_reducible repeat (first | refine zdn ?_ _ | refine zdr ?_ | refine blk_alloc ?_ _)); refine blk_put (cs := #[.int .u8 t1043, .int .u16 t1044, .bool t1045, .bool t1046, .int .i64 t1047, .int .u8 t1048, .int .u8 t1049, .int .u32 t1050, .int .u32 t1051, .slice Ao6 t1052.length co6, .slice none 0 0]) ?_ 10 _ rfl; (with_reducible repeat (first | refine zdn ?_ _ | refine zdr ?_ | refine blk_alloc ?_ _)); refine blk_put (cs := #[.int .u8 t1043, .int .u16 t1044, .bool t1045, .bool t1046, .int .i64 t1047, .int .u8 t1048, .int .u8 t1049, .int .u32 t1050, .int .u32 t1051, .slice none 0 0, .slice none 0 0]) ?_ 9 _ rfl; (with_reducible repeat (first | refine zdn ?_ _ | refine zdr ?_ | refine blk_alloc ?_ _)); refine blk_put (cs := #[.int .u8 t1043, .int .u16 t1044, .bool t1045, .bool t1046, .int .i64 t1047, .int .u8 t1048, .int .u8 t1049, .int .u32 t1050, .int .u32 0, .slice none 0 0, .slice none 0 0]) ?_ 8 _ rfl; (with_reducible repeat (first | refine zdn ?_ _ | refine zdr ?_ | refine blk_alloc ?_ _)); refine blk_put (cs := #[.int .u8 t1043, .int .u16 t1044, .bool t1045, .bool t1046, .int .i64 t1047, .int .u8 t1048, .int .u8 t1049, .int .u32 0, .int .u32 0, .slice none 0 0, .slice none 0 0]) ?_ 7 _ rfl; (with_reducible repeat (first | refine zdn ?_ _ | refine zdr ?_ | refine blk_alloc ?_ _)); refine blk_put (cs := #[.int .u8 t1043, .int .u16 t1044, .bool t1045, .bool t1046, .int .i64 t1047, .int .u8 t1048, .int .u8 0, .int .u32 0, .int .u32 0, .slice none 0 0, .slice none 0 0]) ?_ 6 _ rfl; (with_reducible repeat (first | refine zdn ?_ _ | refine zdr ?_ | refine blk_alloc ?_ _)); refine blk_put (cs := #[.int .u8 t1043, .int .u16 t1044, .bool t1045, .bool t1046, .int .i64 t1047, .int .u8 0, .int .u8 0, .int .u32 0, .int .u32 0, .slice none 0 0, .slice none 0 0]) ?_ 5 _ rfl; (with_reducible repeat (first | refine zdn ?_ _ | refine zdr ?_ | refine blk_alloc ?_ _)); refine blk_put (cs := #[.int .u8 t1043, .int .u16 t1044, .bool t1045, .bool t1046, .int .i64 0, .int .u8 0, .int .u8 0, .int .u32 0, .int .u32 0, .slice none 0 0, .slice none 0 0]) ?_ 4 _ rfl; (with_reducible repeat (first | refine zdn ?_ _ | refine zdr ?_ | refine blk_alloc ?_ _)); refine blk_put (cs := #[.int .u8 t1043, .int .u16 t1044, .bool t1045, .bool false, .int .i64 0, .int .u8 0, .int .u8 0, .int .u32 0, .int .u32 0, .slice none 0 0, .slice none 0 0]) ?_ 3 _ rfl; (with_reducible repeat (first | refine zdn ?_ _ | refine zdr ?_ | refine blk_alloc ?_ _)); refine blk_put (cs := #[.int .u8 t1043, .int .u16 t1044, .bool false, .bool false, .int .i64 0, .int .u8 0, .int .u8 0, .int .u32 0, .int .u32 0, .slice none 0 0, .slice none 0 0]) ?_ 2 _ rfl; (with_reducible repeat (first | refine zdn ?_ _ | refine zdr ?_ | refine blk_alloc ?_ _)); refine blk_put (cs := #[.int .u8 t1043, .int .u16 0, .bool false, .bool false, .int .i64 0, .int .u8 0, .int .u8 0, .int .u32 0, .int .u32 0, .slice none 0 0, .slice none 0 0]) ?_ 1 _ rfl; (with_reducible repeat (first | refine zdn ?_ _ | refine zdr ?_ | refine blk_alloc ?_ _)); refine blk_put (cs := #[.int .u8 0, .int .u16 0, .bool false, .bool false, .int .i64 0, .int .u8 0, .int .u8 0, .int .u32 0, .int .u32 0, .slice none 0 0, .slice none 0 0]) ?_ 0 _ rfl; first | (with_reducible exact BK1042.out) | (with_reducible exact zdn BK1042.out _) | (with_reducible exact zdr BK1042.out) | ((with_reducible repeat (first | refine zdn ?_ _ | refine zdr ?_ | refine blk_alloc ?_ _)); exact BK1042.out)) Try.underlying43 rfl (by kernel_rfl)) rfl ?_
 exact ⟨_, _, by first | rfl | (simp [errW_none, errW_some] <;> rfl) | (simp [*, errW_none, errW_some] <;> rfl), by (with_reducible repeat (first | apply Kd.R_alloc | apply Kd.R_drewN | apply Kd.R_drew)); exact Kd.R_mono (Kd.R_far (p := ⟨gb1042, 10, none⟩) (Kd.R_far (p := ⟨gb1042, 9, none⟩) (Kd.R_far (p := ⟨gb1042, 8, none⟩) (Kd.R_far (p := ⟨gb1042, 7, none⟩) (Kd.R_far (p := ⟨gb1042, 6, none⟩) (Kd.R_far (p := ⟨gb1042, 5, none⟩) (Kd.R_far (p := ⟨gb1042, 4, none⟩) (Kd.R_far (p := ⟨gb1042, 3, none⟩) (Kd.R_far (p := ⟨gb1042, 2, none⟩) (Kd.R_far (p := ⟨gb1042, 1, none⟩) (Kd.R_far (p := ⟨gb1042, 0, none⟩) (Kd.R_types HO1054.out BK1042.out (by decide)) (fun _ hk => hk.2) (.int .u8 t1043)) (fun _ hk => hk.2) (.int .u16 t1044)) (fun _ hk => hk.2) (.bool t1045)) (fun _ hk => hk.2) (.bool t1046)) (fun _ hk => hk.2) (.int .i64 t1047)) (fun _ hk => hk.2) (.int .u8 t1048)) (fun _ hk => hk.2) (.int .u8 t1049)) (fun _ hk => hk.2) (.int .u32 t1050)) (fun _ hk => hk.2) (.int .u32 t1051)) (fun _ hk => hk.2) (.slice Ao6 t1052.length co6)) (fun _ hk => hk.2) (.slice Ao7 t1055.length co7)) (fun _ hk => hk.1), by (with_reducible repeat (first | apply Kd.R_alloc | apply Kd.R_drewN | apply Kd.R_drew)); exact Kd.R_mono (Kd.R_far (p := ⟨gb1042, 10, none⟩) (Kd.R_far (p := ⟨gb1042, 9, none⟩) (Kd.R_far (p := ⟨gb1042, 8, none⟩) (Kd.R_far (p := ⟨gb1042, 7, none⟩) (Kd.R_far (p := ⟨gb1042, 6, none⟩) (Kd.R_far (p := ⟨gb1042, 5, none⟩) (Kd.R_far (p := ⟨gb1042, 4, none⟩) (Kd.R_far (p := ⟨gb1042, 3, none⟩) (Kd.R_far (p := ⟨gb1042, 2, none⟩) (Kd.R_far (p := ⟨gb1042, 1, none⟩) (Kd.R_far (p := ⟨gb1042, 0, none⟩) (Kd.R_types HO1057.out BK1042.out (by decide)) (fun _ hk => hk.2) (.int .u8 t1043)) (fun _ hk => hk.2) (.int .u16 t1044)) (fun _ hk => hk.2) (.bool t1045)) (fun _ hk => hk.2) (.bool t1046)) (fun _ hk => hk.2) (.int .i64 t1047)) (fun _ hk => hk.2) (.int .u8 t1048)) (fun _ hk => hk.2) (.int .u8 t1049)) (fun _ hk => hk.2) (.int .u32 t1050)) (fun _ hk => hk.2) (.int .u32 t1051)) (fun _ hk => hk.2) (.slice Ao6 t1052.length co6)) (fun _ hk => hk.2) (.slice Ao7 t1055.length co7)) (fun _ hk => hk.1), by repeat (first | (with_reducible first | exact HB.out | apply below_alloc | apply pw_below_drewN | apply below_drew1 | refine below_set ?_ GE1042.out) | exact HB.out)⟩

end Go.Proofs.Ytbacmhegalncjaa.XB
