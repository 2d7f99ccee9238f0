-- printed by a program of this session (wip/xprint), out of the translation; Lean checks it
import Derived.Test.YtbacmhegalncjaaQHXBx0
import Derived.Test.YtbacmhegalncjaaQHXBx3
import Derived.Test.YtbacmhegalncjaaQHXBx5
import Derived.Test.YtbacmhegalncjaaQHXBx6
import Derived.Test.YtbacmhegalncjaaQHXBx9
import Derived.Test.YtbacmhegalncjaaQHXBx12
namespace Go.Proofs.Ytbacmhegalncjaa.XB
open Go.RowKit Go.Proofs.YtbacmhegalncjaaW.PrintWords Go.Proofs.YtbacmhegalncjaaW.PrintLast Go.Proofs.YtbacmhegalncjaaW.PrintMore Go.Proofs.YtbacmhegalncjaaX
theorem zq14_17 {P : Prop} (h : P := by (with_reducible repeat (first | apply Kd.R_alloc | apply Kd.R_drewN | apply Kd.R_drew)); exact HO624.out) : P := h
theorem zq14_16 {P : Prop} (h : P := by repeat (first | (with_reducible exact HR645.out) | (with_reducible refine Kd.C_alloc ?_ _) | (with_reducible refine Kd.C_drewN ?_ _) | (with_reducible refine Kd.C_drew ?_) | exact HR645.out)) : P := h
theorem zq14_15 {P : Prop} (h : P := by (with_reducible repeat (first | apply Kd.R_alloc | apply Kd.R_drewN | apply Kd.R_drew)); exact (Kd.R_mono (Kd.R_far (p := ⟨gb665, 10, none⟩) (Kd.R_far (p := ⟨gb665, 9, none⟩) (Kd.R_far (p := ⟨gb665, 8, none⟩) (Kd.R_far (p := ⟨gb665, 7, none⟩) (Kd.R_far (p := ⟨gb665, 6, none⟩) (Kd.R_far (p := ⟨gb665, 5, none⟩) (Kd.R_far (p := ⟨gb665, 4, none⟩) (Kd.R_far (p := ⟨gb665, 3, none⟩) (Kd.R_far (p := ⟨gb665, 2, none⟩) (Kd.R_far (p := ⟨gb665, 1, none⟩) (Kd.R_far (p := ⟨gb665, 0, none⟩) (Kd.R_types HO648.out BK665.out (by decide)) (fun _ hk => hk.2) (.int .u8 t649)) (fun _ hk => hk.2) (.int .u16 t650)) (fun _ hk => hk.2) (.bool t651)) (fun _ hk => hk.2) (.bool t652)) (fun _ hk => hk.2) (.int .i64 t653)) (fun _ hk => hk.2) (.int .u8 t654)) (fun _ hk => hk.2) (.int .u8 t655)) (fun _ hk => hk.2) (.int .u32 t656)) (fun _ hk => hk.2) (.int .u32 t657)) (fun _ hk => hk.2) (.slice Ao102 t658.length co102)) (fun _ hk => hk.2) (.slice Ao103 t661.length co103)) (fun _ h_ => h_.1))) : P := h
theorem zq14_14 {P : Prop} (h : P := by (with_reducible repeat (first | apply Kd.R_alloc | apply Kd.R_drewN | apply Kd.R_drew)); exact (Kd.R_mono (Kd.R_far (p := ⟨gb665, 10, none⟩) (Kd.R_far (p := ⟨gb665, 9, none⟩) (Kd.R_far (p := ⟨gb665, 8, none⟩) (Kd.R_far (p := ⟨gb665, 7, none⟩) (Kd.R_far (p := ⟨gb665, 6, none⟩) (Kd.R_far (p := ⟨gb665, 5, none⟩) (Kd.R_far (p := ⟨gb665, 4, none⟩) (Kd.R_far (p := ⟨gb665, 3, none⟩) (Kd.R_far (p := ⟨gb665, 2, none⟩) (Kd.R_far (p := ⟨gb665, 1, none⟩) (Kd.R_far (p := ⟨gb665, 0, none⟩) (Kd.R_types HO624.out BK665.out (by decide)) (fun _ hk => hk.2) (.int .u8 t649)) (fun _ hk => hk.2) (.int .u16 t650)) (fun _ hk => hk.2) (.bool t651)) (fun _ hk => hk.2) (.bool t652)) (fun _ hk => hk.2) (.int .i64 t653)) (fun _ hk => hk.2) (.int .u8 t654)) (fun _ hk => hk.2) (.int .u8 t655)) (fun _ hk => hk.2) (.int .u32 t656)) (fun _ hk => hk.2) (.int .u32 t657)) (fun _ hk => hk.2) (.slice Ao102 t658.length co102)) (fun _ hk => hk.2) (.slice Ao103 t661.length co103)) (fun _ h_ => h_.1))) : P := h
theorem zq14_13 {P : Prop} (h : P := by (with_reducible repeat (first | apply Kd.V_alloc | apply Kd.V_drewN | apply Kd.V_drew)); exact (Kd.V_mono (Kd.V_far (p := ⟨gb665, 10, none⟩) (Kd.V_far (p := ⟨gb665, 9, none⟩) (Kd.V_far (p := ⟨gb665, 8, none⟩) (Kd.V_far (p := ⟨gb665, 7, none⟩) (Kd.V_far (p := ⟨gb665, 6, none⟩) (Kd.V_far (p := ⟨gb665, 5, none⟩) (Kd.V_far (p := ⟨gb665, 4, none⟩) (Kd.V_far (p := ⟨gb665, 3, none⟩) (Kd.V_far (p := ⟨gb665, 2, none⟩) (Kd.V_far (p := ⟨gb665, 1, none⟩) (Kd.V_far (p := ⟨gb665, 0, none⟩) (Kd.V_mono HO663.out (fun k_ hk => (⟨hk, hk.2⟩ : _ ∧ k_ ≠ gb665))) (fun _ hk => hk.2) (.int .u8 t649)) (fun _ hk => hk.2) (.int .u16 t650)) (fun _ hk => hk.2) (.bool t651)) (fun _ hk => hk.2) (.bool t652)) (fun _ hk => hk.2) (.int .i64 t653)) (fun _ hk => hk.2) (.int .u8 t654)) (fun _ hk => hk.2) (.int .u8 t655)) (fun _ hk => hk.2) (.int .u32 t656)) (fun _ hk => hk.2) (.int .u32 t657)) (fun _ hk => hk.2) (.slice Ao102 t658.length co102)) (fun _ hk => hk.2) (.slice Ao103 t661.length co103)) (fun _ h_ => h_.1))) : P := h
theorem zq14_12 {P : Prop} (h : P := by (with_reducible repeat (first | apply Kd.V_alloc | apply Kd.V_drewN | apply Kd.V_drew)); exact (Kd.V_mono (Kd.V_far (p := ⟨gb665, 10, none⟩) (Kd.V_far (p := ⟨gb665, 9, none⟩) (Kd.V_far (p := ⟨gb665, 8, none⟩) (Kd.V_far (p := ⟨gb665, 7, none⟩) (Kd.V_far (p := ⟨gb665, 6, none⟩) (Kd.V_far (p := ⟨gb665, 5, none⟩) (Kd.V_far (p := ⟨gb665, 4, none⟩) (Kd.V_far (p := ⟨gb665, 3, none⟩) (Kd.V_far (p := ⟨gb665, 2, none⟩) (Kd.V_far (p := ⟨gb665, 1, none⟩) (Kd.V_far (p := ⟨gb665, 0, none⟩) (Kd.V_mono HO660.out (fun k_ hk => (⟨hk, hk.2⟩ : _ ∧ k_ ≠ gb665))) (fun _ hk => hk.2) (.int .u8 t649)) (fun _ hk => hk.2) (.int .u16 t650)) (fun _ hk => hk.2) (.bool t651)) (fun _ hk => hk.2) (.bool t652)) (fun _ hk => hk.2) (.int .i64 t653)) (fun _ hk => hk.2) (.int .u8 t654)) (fun _ hk => hk.2) (.int .u8 t655)) (fun _ hk => hk.2) (.int .u32 t656)) (fun _ hk => hk.2) (.int .u32 t657)) (fun _ hk => hk.2) (.slice Ao102 t658.length co102)) (fun _ hk => hk.2) (.slice Ao103 t661.length co103)) (fun _ h_ => h_.1))) : P := h
theorem zq14_11 {P : Prop} (h : P := by (with_reducible repeat (first | apply Kd.V_alloc | apply Kd.V_drewN | apply Kd.V_drew)); exact (Kd.V_mono (Kd.V_far (p := ⟨gb665, 10, none⟩) (Kd.V_far (p := ⟨gb665, 9, none⟩) (Kd.V_far (p := ⟨gb665, 8, none⟩) (Kd.V_far (p := ⟨gb665, 7, none⟩) (Kd.V_far (p := ⟨gb665, 6, none⟩) (Kd.V_far (p := ⟨gb665, 5, none⟩) (Kd.V_far (p := ⟨gb665, 4, none⟩) (Kd.V_far (p := ⟨gb665, 3, none⟩) (Kd.V_far (p := ⟨gb665, 2, none⟩) (Kd.V_far (p := ⟨gb665, 1, none⟩) (Kd.V_far (p := ⟨gb665, 0, none⟩) (Kd.V_mono HO639.out (fun k_ hk => (⟨hk, hk.2⟩ : _ ∧ k_ ≠ gb665))) (fun _ hk => hk.2) (.int .u8 t649)) (fun _ hk => hk.2) (.int .u16 t650)) (fun _ hk => hk.2) (.bool t651)) (fun _ hk => hk.2) (.bool t652)) (fun _ hk => hk.2) (.int .i64 t653)) (fun _ hk => hk.2) (.int .u8 t654)) (fun _ hk => hk.2) (.int .u8 t655)) (fun _ hk => hk.2) (.int .u32 t656)) (fun _ hk => hk.2) (.int .u32 t657)) (fun _ hk => hk.2) (.slice Ao102 t658.length co102)) (fun _ hk => hk.2) (.slice Ao103 t661.length co103)) (fun _ h_ => h_.1))) : P := h
theorem zq14_10 {P : Prop} (h : P := by repeat (first | (with_reducible first | exact HB.out | apply below_alloc | apply pw_below_drewN | apply below_drew1 | refine below_set ?_ GE613.out | refine below_set ?_ GE641.out | refine below_set ?_ GE665.out) | exact HB.out)) : P := h
theorem zq14_9 {P : Prop} (h : P := by (with_reducible repeat (first | apply Kd.R_alloc | apply Kd.R_drewN | apply Kd.R_drew)); exact HO_5.out) : P := h
theorem zq14_8 {P : Prop} (h : P := by repeat (first | (with_reducible first | exact HB.out | apply below_alloc | apply pw_below_drewN | apply below_drew1 | refine below_set ?_ GE613.out | refine below_set ?_ GE641.out) | exact HB.out)) : P := h
theorem zq14_7 {P : Prop} (h : P := by (with_reducible repeat (first | refine blk_drewN ?_ _ | refine blk_drew ?_ | refine blk_alloc ?_ _)); refine blk_far ?_ NB641_665.out _; (with_reducible repeat (first | refine blk_drewN ?_ _ | refine blk_drew ?_ | refine blk_alloc ?_ _)); refine blk_far ?_ NB641_665.out _; (with_reducible repeat (first | refine blk_drewN ?_ _ | refine blk_drew ?_ | refine blk_alloc ?_ _)); refine blk_far ?_ NB641_665.out _; (with_reducible repeat (first | refine blk_drewN ?_ _ | refine blk_drew ?_ | refine blk_alloc ?_ _)); refine blk_far ?_ NB641_665.out _; (with_reducible repeat (first | refine blk_drewN ?_ _ | refine blk_drew ?_ | refine blk_alloc ?_ _)); refine blk_far ?_ NB641_665.out _; (with_reducible repeat (first | refine blk_drewN ?_ _ | refine blk_drew ?_ | refine blk_alloc ?_ _)); refine blk_far ?_ NB641_665.out _; (with_reducible repeat (first | refine blk_drewN ?_ _ | refine blk_drew ?_ | refine blk_alloc ?_ _)); refine blk_far ?_ NB641_665.out _; (with_reducible repeat (first | refine blk_drewN ?_ _ | refine blk_drew ?_ | refine blk_alloc ?_ _)); refine blk_far ?_ NB641_665.out _; (with_reducible repeat (first | refine blk_drewN ?_ _ | refine blk_drew ?_ | refine blk_alloc ?_ _)); refine blk_far ?_ NB641_665.out _; (with_reducible repeat (first | refine blk_drewN ?_ _ | refine blk_drew ?_ | refine blk_alloc ?_ _)); refine blk_far ?_ NB641_665.out _; (with_reducible repeat (first | refine blk_drewN ?_ _ | refine blk_drew ?_ | refine blk_alloc ?_ _)); refine blk_far ?_ NB641_665.out _; first | (with_reducible exact BK641.out) | (with_reducible exact blk_drewN BK641.out _) | (with_reducible exact blk_drew BK641.out) | ((with_reducible repeat (first | refine blk_drewN ?_ _ | refine blk_drew ?_ | refine blk_alloc ?_ _)); exact BK641.out)) : P := h
theorem zq14_6 {P : Prop} (h : P := by (with_reducible repeat (first | refine blk_drewN ?_ _ | refine blk_drew ?_ | refine blk_alloc ?_ _)); refine blk_far ?_ NB613_665.out _; (with_reducible repeat (first | refine blk_drewN ?_ _ | refine blk_drew ?_ | refine blk_alloc ?_ _)); refine blk_far ?_ NB613_665.out _; (with_reducible repeat (first | refine blk_drewN ?_ _ | refine blk_drew ?_ | refine blk_alloc ?_ _)); refine blk_far ?_ NB613_665.out _; (with_reducible repeat (first | refine blk_drewN ?_ _ | refine blk_drew ?_ | refine blk_alloc ?_ _)); refine blk_far ?_ NB613_665.out _; (with_reducible repeat (first | refine blk_drewN ?_ _ | refine blk_drew ?_ | refine blk_alloc ?_ _)); refine blk_far ?_ NB613_665.out _; (with_reducible repeat (first | refine blk_drewN ?_ _ | refine blk_drew ?_ | refine blk_alloc ?_ _)); refine blk_far ?_ NB613_665.out _; (with_reducible repeat (first | refine blk_drewN ?_ _ | refine blk_drew ?_ | refine blk_alloc ?_ _)); refine blk_far ?_ NB613_665.out _; (with_reducible repeat (first | refine blk_drewN ?_ _ | refine blk_drew ?_ | refine blk_alloc ?_ _)); refine blk_far ?_ NB613_665.out _; (with_reducible repeat (first | refine blk_drewN ?_ _ | refine blk_drew ?_ | refine blk_alloc ?_ _)); refine blk_far ?_ NB613_665.out _; (with_reducible repeat (first | refine blk_drewN ?_ _ | refine blk_drew ?_ | refine blk_alloc ?_ _)); refine blk_far ?_ NB613_665.out _; (with_reducible repeat (first | refine blk_drewN ?_ _ | refine blk_drew ?_ | refine blk_alloc ?_ _)); refine blk_far ?_ NB613_665.out _; first | (with_reducible exact BK613.out) | (with_reducible exact blk_drewN BK613.out _) | (with_reducible exact blk_drew BK613.out) | ((with_reducible repeat (first | refine blk_drewN ?_ _ | refine blk_drew ?_ | refine blk_alloc ?_ _)); exact BK613.out)) : P := h
theorem zq14_5 {P : Prop} (h : P := by repeat (first | (with_reducible first | exact HB.out | apply below_alloc | apply pw_below_drewN | apply below_drew1 | refine below_set ?_ GE613.out) | exact HB.out)) : P := h
theorem zq14_4 {P : Prop} (h : P := by first | (with_reducible exact BK641.out) | (with_reducible exact blk_drewN BK641.out _) | (with_reducible exact blk_drew BK641.out) | ((with_reducible repeat (first | refine blk_drewN ?_ _ | refine blk_drew ?_ | refine blk_alloc ?_ _)); exact BK641.out)) : P := h
theorem zq14_3 {P : Prop} (h : P := by (with_reducible repeat (first | apply Kd.V_alloc | apply Kd.V_drewN | apply Kd.V_drew)); exact (Kd.V_mono (Kd.V_far (p := ⟨gb665, 10, none⟩) (Kd.V_far (p := ⟨gb665, 9, none⟩) (Kd.V_far (p := ⟨gb665, 8, none⟩) (Kd.V_far (p := ⟨gb665, 7, none⟩) (Kd.V_far (p := ⟨gb665, 6, none⟩) (Kd.V_far (p := ⟨gb665, 5, none⟩) (Kd.V_far (p := ⟨gb665, 4, none⟩) (Kd.V_far (p := ⟨gb665, 3, none⟩) (Kd.V_far (p := ⟨gb665, 2, none⟩) (Kd.V_far (p := ⟨gb665, 1, none⟩) (Kd.V_far (p := ⟨gb665, 0, none⟩) (Kd.V_mono HO636.out (fun k_ hk => (⟨hk, hk.2⟩ : _ ∧ k_ ≠ gb665))) (fun _ hk => hk.2) (.int .u8 t649)) (fun _ hk => hk.2) (.int .u16 t650)) (fun _ hk => hk.2) (.bool t651)) (fun _ hk => hk.2) (.bool t652)) (fun _ hk => hk.2) (.int .i64 t653)) (fun _ hk => hk.2) (.int .u8 t654)) (fun _ hk => hk.2) (.int .u8 t655)) (fun _ hk => hk.2) (.int .u32 t656)) (fun _ hk => hk.2) (.int .u32 t657)) (fun _ hk => hk.2) (.slice Ao102 t658.length co102)) (fun _ hk => hk.2) (.slice Ao103 t661.length co103)) (fun _ h_ => h_.1))) : P := h
theorem zq14_2 {P : Prop} (h : P := by (with_reducible repeat (first | refine blk_drewN ?_ _ | refine blk_drew ?_ | refine blk_alloc ?_ _)); refine blk_put (cs := #[.int .u8 t649, .int .u16 t650, .bool t651, .bool t652, .int .i64 t653, .int .u8 t654, .int .u8 t655, .int .u32 t656, .int .u32 t657, .slice Ao102 t658.length co102, .slice none 0 0]) ?_ 10 _ rfl; (with_reducible repeat (first | refine blk_drewN ?_ _ | refine blk_drew ?_ | refine blk_alloc ?_ _)); refine blk_put (cs := #[.int .u8 t649, .int .u16 t650, .bool t651, .bool t652, .int .i64 t653, .int .u8 t654, .int .u8 t655, .int .u32 t656, .int .u32 t657, .slice none 0 0, .slice none 0 0]) ?_ 9 _ rfl; (with_reducible repeat (first | refine blk_drewN ?_ _ | refine blk_drew ?_ | refine blk_alloc ?_ _)); refine blk_put (cs := #[.int .u8 t649, .int .u16 t650, .bool t651, .bool t652, .int .i64 t653, .int .u8 t654, .int .u8 t655, .int .u32 t656, .int .u32 0, .slice none 0 0, .slice none 0 0]) ?_ 8 _ rfl; (with_reducible repeat (first | refine blk_drewN ?_ _ | refine blk_drew ?_ | refine blk_alloc ?_ _)); refine blk_put (cs := #[.int .u8 t649, .int .u16 t650, .bool t651, .bool t652, .int .i64 t653, .int .u8 t654, .int .u8 t655, .int .u32 0, .int .u32 0, .slice none 0 0, .slice none 0 0]) ?_ 7 _ rfl; (with_reducible repeat (first | refine blk_drewN ?_ _ | refine blk_drew ?_ | refine blk_alloc ?_ _)); refine blk_put (cs := #[.int .u8 t649, .int .u16 t650, .bool t651, .bool t652, .int .i64 t653, .int .u8 t654, .int .u8 0, .int .u32 0, .int .u32 0, .slice none 0 0, .slice none 0 0]) ?_ 6 _ rfl; (with_reducible repeat (first | refine blk_drewN ?_ _ | refine blk_drew ?_ | refine blk_alloc ?_ _)); refine blk_put (cs := #[.int .u8 t649, .int .u16 t650, .bool t651, .bool t652, .int .i64 t653, .int .u8 0, .int .u8 0, .int .u32 0, .int .u32 0, .slice none 0 0, .slice none 0 0]) ?_ 5 _ rfl; (with_reducible repeat (first | refine blk_drewN ?_ _ | refine blk_drew ?_ | refine blk_alloc ?_ _)); refine blk_put (cs := #[.int .u8 t649, .int .u16 t650, .bool t651, .bool t652, .int .i64 0, .int .u8 0, .int .u8 0, .int .u32 0, .int .u32 0, .slice none 0 0, .slice none 0 0]) ?_ 4 _ rfl; (with_reducible repeat (first | refine blk_drewN ?_ _ | refine blk_drew ?_ | refine blk_alloc ?_ _)); refine blk_put (cs := #[.int .u8 t649, .int .u16 t650, .bool t651, .bool false, .int .i64 0, .int .u8 0, .int .u8 0, .int .u32 0, .int .u32 0, .slice none 0 0, .slice none 0 0]) ?_ 3 _ rfl; (with_reducible repeat (first | refine blk_drewN ?_ _ | refine blk_drew ?_ | refine blk_alloc ?_ _)); refine blk_put (cs := #[.int .u8 t649, .int .u16 t650, .bool false, .bool false, .int .i64 0, .int .u8 0, .int .u8 0, .int .u32 0, .int .u32 0, .slice none 0 0, .slice none 0 0]) ?_ 2 _ rfl; (with_reducible repeat (first | refine blk_drewN ?_ _ | refine blk_drew ?_ | refine blk_alloc ?_ _)); refine blk_put (cs := #[.int .u8 t649, .int .u16 0, .bool false, .bool false, .int .i64 0, .int .u8 0, .int .u8 0, .int .u32 0, .int .u32 0, .slice none 0 0, .slice none 0 0]) ?_ 1 _ rfl; (with_reducible repeat (first | refine blk_drewN ?_ _ | refine blk_drew ?_ | refine blk_alloc ?_ _)); refine blk_put (cs := #[.int .u8 0, .int .u16 0, .bool false, .bool false, .int .i64 0, .int .u8 0, .int .u8 0, .int .u32 0, .int .u32 0, .slice none 0 0, .slice none 0 0]) ?_ 0 _ rfl; first | (with_reducible exact BK665.out) | (with_reducible exact blk_drewN BK665.out _) | (with_reducible exact blk_drew BK665.out) | ((with_reducible repeat (first | refine blk_drewN ?_ _ | refine blk_drew ?_ | refine blk_alloc ?_ _)); exact BK665.out)) : P := h
theorem zq14_1 {P : Prop} (h : P := by (with_reducible repeat (first | apply Kd.R_alloc | apply Kd.R_drewN | apply Kd.R_drew)); exact (Kd.R_mono (Kd.R_far (p := ⟨gb665, 10, none⟩) (Kd.R_far (p := ⟨gb665, 9, none⟩) (Kd.R_far (p := ⟨gb665, 8, none⟩) (Kd.R_far (p := ⟨gb665, 7, none⟩) (Kd.R_far (p := ⟨gb665, 6, none⟩) (Kd.R_far (p := ⟨gb665, 5, none⟩) (Kd.R_far (p := ⟨gb665, 4, none⟩) (Kd.R_far (p := ⟨gb665, 3, none⟩) (Kd.R_far (p := ⟨gb665, 2, none⟩) (Kd.R_far (p := ⟨gb665, 1, none⟩) (Kd.R_far (p := ⟨gb665, 0, none⟩) (Kd.R_types HO_5.out BK665.out (by decide)) (fun _ hk => hk.2) (.int .u8 t649)) (fun _ hk => hk.2) (.int .u16 t650)) (fun _ hk => hk.2) (.bool t651)) (fun _ hk => hk.2) (.bool t652)) (fun _ hk => hk.2) (.int .i64 t653)) (fun _ hk => hk.2) (.int .u8 t654)) (fun _ hk => hk.2) (.int .u8 t655)) (fun _ hk => hk.2) (.int .u32 t656)) (fun _ hk => hk.2) (.int .u32 t657)) (fun _ hk => hk.2) (.slice Ao102 t658.length co102)) (fun _ hk => hk.2) (.slice Ao103 t661.length co103)) (fun _ h_ => h_.1))) : P := h
theorem zq14_0 {P : Prop} (h : P := by first | (with_reducible exact BK613.out) | (with_reducible exact blk_drewN BK613.out _) | (with_reducible exact blk_drew BK613.out) | ((with_reducible repeat (first | refine blk_drewN ?_ _ | refine blk_drew ?_ | refine blk_alloc ?_ _)); exact BK613.out)) : P := h
attribute [local go_sem] max2_int min2_int max_two min_two max_three min_three max_four min_four   -- for this text's walks alone
set_option linter.unusedVariables false
set_option linter.unusedSimpArgs false

/-! ### weftlaw3_cutoff: function 28 -/
mutual
def weftlaw3_cutoff.j0 : Nat → Int → List Int → Int → Int → Bool → Bool → Int → Int → Int → Int → Int → List Int → List Int → Option (Bool)
  | 0, _, _, _, _, _, _, _, _, _, _, _, _, _ => none
  | k + 1, x1, x5, x614000, x614001, x614002, x614003, x614004, x614005, x614006, x614007, x614008, x614009, x614010 => if 0 ≤ x1 then (if x1 ≤ (x5.length : Int) then ((weftlaw3_clone.f k (x5.take (x1 : Int).toNat)).bind fun t622 => ((ip4_Peek.f k t622).bind fun bt625 => ((weftlaw3_clone.f k (x5.take (x1 : Int).toNat)).bind fun t646 => ((ip4_Parse.f k t646).bind fun bt649 => (if x1 < (wrap64 (20 + (x614009.length : Int))) then (if bt625.2.2.2.2.2.2.2.2.2.2.2 = 30 then (if bt649.2.2.2.2.2.2.2.2.2.2.2 = 30 then (some ((bt625.2.2.2.2.2.2.2.2.2.2.1.length : Int) == 0)) else (some false)) else (some false)) else (if bt625.2.2.2.2.2.2.2.2.2.2.2 = 0 then ((weftlaw3_heads.f k bt625.1 bt625.2.1 bt625.2.2.1 bt625.2.2.2.1 bt625.2.2.2.2.1 bt625.2.2.2.2.2.1 bt625.2.2.2.2.2.2.1 bt625.2.2.2.2.2.2.2.1 bt625.2.2.2.2.2.2.2.2.1 bt625.2.2.2.2.2.2.2.2.2.1 x614000 x614001 x614002 x614003 x614004 x614005 x614006 x614007 x614008 x614009).bind fun t666 => (if t666 = true then (if 0 ≤ (wrap64 (20 + (x614009.length : Int))) then (if (wrap64 (20 + (x614009.length : Int))) ≤ x1 then ((weftlaw3_same.f k bt625.2.2.2.2.2.2.2.2.2.2.1 ((x5.take (x1 : Int).toNat).drop ((wrap64 (20 + (x614009.length : Int))) : Int).toNat)).bind fun t671 => (weftlaw3_cutoff.j1 k x1 x5 bt649.2.2.2.2.2.2.2.2.2.2.2 (!t671) x614000 x614001 x614002 x614003 x614004 x614005 x614006 x614007 x614008 x614009 x614010 bt649.1 bt649.2.1 bt649.2.2.1 bt649.2.2.2.1 bt649.2.2.2.2.1 bt649.2.2.2.2.2.1 bt649.2.2.2.2.2.2.1 bt649.2.2.2.2.2.2.2.1 bt649.2.2.2.2.2.2.2.2.1 bt649.2.2.2.2.2.2.2.2.2.1 bt649.2.2.2.2.2.2.2.2.2.2.1)) else (none)) else (none)) else (weftlaw3_cutoff.j1 k x1 x5 bt649.2.2.2.2.2.2.2.2.2.2.2 true x614000 x614001 x614002 x614003 x614004 x614005 x614006 x614007 x614008 x614009 x614010 bt649.1 bt649.2.1 bt649.2.2.1 bt649.2.2.2.1 bt649.2.2.2.2.1 bt649.2.2.2.2.2.1 bt649.2.2.2.2.2.2.1 bt649.2.2.2.2.2.2.2.1 bt649.2.2.2.2.2.2.2.2.1 bt649.2.2.2.2.2.2.2.2.2.1 bt649.2.2.2.2.2.2.2.2.2.2.1))) else (weftlaw3_cutoff.j1 k x1 x5 bt649.2.2.2.2.2.2.2.2.2.2.2 true x614000 x614001 x614002 x614003 x614004 x614005 x614006 x614007 x614008 x614009 x614010 bt649.1 bt649.2.1 bt649.2.2.1 bt649.2.2.2.1 bt649.2.2.2.2.1 bt649.2.2.2.2.2.1 bt649.2.2.2.2.2.2.1 bt649.2.2.2.2.2.2.2.1 bt649.2.2.2.2.2.2.2.2.1 bt649.2.2.2.2.2.2.2.2.2.1 bt649.2.2.2.2.2.2.2.2.2.2.1))))))) else (none)) else (none)
def weftlaw3_cutoff.j1 : Nat → Int → List Int → Int → Bool → Int → Int → Bool → Bool → Int → Int → Int → Int → Int → List Int → List Int → Int → Int → Bool → Bool → Int → Int → Int → Int → Int → List Int → List Int → Option (Bool)
  | 0, _, _, _, _, _, _, _, _, _, _, _, _, _, _, _, _, _, _, _, _, _, _, _, _, _, _ => none
  | k + 1, x1, x5, x12, x82, x614000, x614001, x614002, x614003, x614004, x614005, x614006, x614007, x614008, x614009, x614010, x666000, x666001, x666002, x666003, x666004, x666005, x666006, x666007, x666008, x666009, x666010 => if x82 = true then (some false) else (if x1 < (x5.length : Int) then (if x12 = 30 then ((weftlaw3_packets.f k x666000 x666001 x666002 x666003 x666004 x666005 x666006 x666007 x666008 x666009 x666010 0 0 false false 0 0 0 0 0 ([] : List Int) ([] : List Int)).bind fun t672 => (some t672)) else (some false)) else (if x12 = 0 then ((weftlaw3_packets.f k x614000 x614001 x614002 x614003 x614004 x614005 x614006 x614007 x614008 x614009 x614010 x666000 x666001 x666002 x666003 x666004 x666005 x666006 x666007 x666008 x666009 x666010).bind fun t673 => (some t673)) else (some false)))
end
def weftlaw3_cutoff.f (k : Nat) (a0_0 : Int) (a0_1 : Int) (a0_2 : Bool) (a0_3 : Bool) (a0_4 : Int) (a0_5 : Int) (a0_6 : Int) (a0_7 : Int) (a0_8 : Int) (l0_9 : List Int) (l0_10 : List Int) (a1 : Int) : Option (Bool) := (ip4_Build.f k a0_0 a0_1 a0_2 a0_3 a0_4 a0_5 a0_6 a0_7 a0_8 l0_9 l0_10).bind fun bt614 => (if bt614.2 = 0 then (if a1 > (bt614.1.length : Int) then (weftlaw3_cutoff.j0 k (bt614.1.length : Int) bt614.1 a0_0 a0_1 a0_2 a0_3 a0_4 a0_5 a0_6 a0_7 a0_8 l0_9 l0_10) else (weftlaw3_cutoff.j0 k a1 bt614.1 a0_0 a0_1 a0_2 a0_3 a0_4 a0_5 a0_6 a0_7 a0_8 l0_9 l0_10)) else (some ((bt614.1.length : Int) == 0)))
set_option maxHeartbeats 8000000 in
set_option maxRecDepth 100000 in
theorem weftlaw3_cutoff.calls (k : Nat) (a0_0 : Int) (a0_1 : Int) (a0_2 : Bool) (a0_3 : Bool) (a0_4 : Int) (a0_5 : Int) (a0_6 : Int) (a0_7 : Int) (a0_8 : Int) (A0_9 : Option Addr) (c0_9 : Nat) (l0_9 : List Int) (A0_10 : Option Addr) (c0_10 : Nat) (l0_10 : List Int) (a1 : Int) (r : Bool) (w : World) (hr0_9 : Kd.C (Kd.int .u8) w A0_9 l0_9.length l0_9) (hc0_9 : l0_9.length ≤ c0_9) (hr0_10 : Kd.C (Kd.int .u8) w A0_10 l0_10.length l0_10) (hc0_10 : l0_10.length ≤ c0_10) (h : weftlaw3_cutoff.f k a0_0 a0_1 a0_2 a0_3 a0_4 a0_5 a0_6 a0_7 a0_8 l0_9 l0_10 a1 = some r) :
    Calls Try.prog 28 #[.agg #[.int .u8 a0_0, .int .u16 a0_1, .bool a0_2, .bool a0_3, .int .i64 a0_4, .int .u8 a0_5, .int .u8 a0_6, .int .u32 a0_7, .int .u32 a0_8, .slice A0_9 l0_9.length c0_9, .slice A0_10 l0_10.length c0_10], .int .i64 a1] w fun e w' => e = .returned (.bool r) ∧ Below w.heap.size w w' := by
  have hu43 := Try.underlying43
  have hu41 := Try.underlying41
  have HR0_9 := Aside0.mk hr0_9
  have HC0_9 := Aside0.mk hc0_9
  clear hr0_9 hc0_9
  have HR0_10 := Aside0.mk hr0_10
  have HC0_10 := Aside0.mk hc0_10
  clear hr0_10 hc0_10
  have HB := Aside0.mk (Below.refl w.heap.size w)
  have H : ((ip4_Build.f k a0_0 a0_1 a0_2 a0_3 a0_4 a0_5 a0_6 a0_7 a0_8 l0_9 l0_10).bind fun bt614 => (if bt614.2 = 0 then (if a1 > (bt614.1.length : Int) then (weftlaw3_cutoff.j0 k (bt614.1.length : Int) bt614.1 a0_0 a0_1 a0_2 a0_3 a0_4 a0_5 a0_6 a0_7 a0_8 l0_9 l0_10) else (weftlaw3_cutoff.j0 k a1 bt614.1 a0_0 a0_1 a0_2 a0_3 a0_4 a0_5 a0_6 a0_7 a0_8 l0_9 l0_10)) else (some ((bt614.1.length : Int) == 0)))) = some r := h
  clear h
  replace H := Option.bind_eq_some_iff.mp H
  obtain ⟨⟨t614, t617⟩, A30, H⟩ := H
  replace H : (if t617 = 0 then (if a1 > (t614.length : Int) then (weftlaw3_cutoff.j0 k (t614.length : Int) t614 a0_0 a0_1 a0_2 a0_3 a0_4 a0_5 a0_6 a0_7 a0_8 l0_9 l0_10) else (weftlaw3_cutoff.j0 k a1 t614 a0_0 a0_1 a0_2 a0_3 a0_4 a0_5 a0_6 a0_7 a0_8 l0_9 l0_10)) else (some ((t614.length : Int) == 0))) = some r := H
  have A3 := Aside0.mk A30
  clear A30
  by_cases c4 : t617 = 0
  · rw [if_pos c4] at H
    have c4b0 : (t617 == 0) = true := beq_iff_eq.mpr c4
    have c4b1 : (t617 != 0) = false := bne_eq_false_iff_eq.mpr c4
    clear c4
    have HC5 := Aside0.mk H
    clear H
    go_enter Try.func28, Try.ntmps28
    go_upto_if 26 with (first | ((with_reducible refine gate_dst (N := 2) rfl ?_); (try (refine gate_guard (by rfl) ?_; dsimp only)); refine box_event ?hg (N := 2) ?hd (cs := #[.int .u8 a0_0, .int .u16 a0_1, .bool a0_2, .bool a0_3, .int .i64 a0_4, .int .u8 a0_5, .int .u8 a0_6, .int .u32 a0_7, .int .u32 a0_8, .slice A0_9 l0_9.length c0_9, .slice A0_10 l0_10.length c0_10]) (t := 43) ?hr ?_; (case hd => rfl); (case hg => rfl); (case hr => first | (go_simp; done) | (go_simp; rfl)); intro gb613 hg w6 hbox hb; have n0_ := Aside0.mk (below_step (by repeat (first | (with_reducible first | exact HB.out | apply below_alloc | apply pw_below_drewN | apply below_drew1) | exact HB.out)) hb); have n1_ := Aside0.mk (hbox); have n2_ := Aside0.mk ((by rw [hg]; exact (below_size (by repeat (first | (with_reducible first | exact HB.out | apply below_alloc | apply pw_below_drewN | apply below_drew1) | exact HB.out))) : w.heap.size ≤ gb613)); have n3_ := Aside0.mk ((by rw [hg]; exact (below_size (by repeat (first | (with_reducible first | exact HB.out | apply below_alloc | apply pw_below_drewN | apply below_drew1) | exact HB.out))) : w.heap.size ≤ gb613)); clear HB; have HB := n0_; have BK613 := n1_; have GW613 := n2_; have GE613 := n3_; clear n0_ n1_ n2_ n3_; clear hb hbox hg; have hcz7_0 : w6.cell? ⟨gb613, 0, none⟩ = some (.int .u8 a0_0) := (blk_cell BK613.out 0).trans rfl; have hcz7_1 : w6.cell? ⟨gb613, 1, none⟩ = some (.int .u16 a0_1) := (blk_cell BK613.out 1).trans rfl; have hcz7_2 : w6.cell? ⟨gb613, 2, none⟩ = some (.bool a0_2) := (blk_cell BK613.out 2).trans rfl; have hcz7_3 : w6.cell? ⟨gb613, 3, none⟩ = some (.bool a0_3) := (blk_cell BK613.out 3).trans rfl; have hcz7_4 : w6.cell? ⟨gb613, 4, none⟩ = some (.int .i64 a0_4) := (blk_cell BK613.out 4).trans rfl; have hcz7_5 : w6.cell? ⟨gb613, 5, none⟩ = some (.int .u8 a0_5) := (blk_cell BK613.out 5).trans rfl; have hcz7_6 : w6.cell? ⟨gb613, 6, none⟩ = some (.int .u8 a0_6) := (blk_cell BK613.out 6).trans rfl; have hcz7_7 : w6.cell? ⟨gb613, 7, none⟩ = some (.int .u32 a0_7) := (blk_cell BK613.out 7).trans rfl; have hcz7_8 : w6.cell? ⟨gb613, 8, none⟩ = some (.int .u32 a0_8) := (blk_cell BK613.out 8).trans rfl; have hcz7_9 : w6.cell? ⟨gb613, 9, none⟩ = some (.slice A0_9 l0_9.length c0_9) := (blk_cell BK613.out 9).trans rfl; have hcz7_10 : w6.cell? ⟨gb613, 10, none⟩ = some (.slice A0_10 l0_10.length c0_10) := (blk_cell BK613.out 10).trans rfl; have hfz7_0 := blk_frozen BK613.out 0; have hfz7_1 := blk_frozen BK613.out 1; have hfz7_2 := blk_frozen BK613.out 2; have hfz7_3 := blk_frozen BK613.out 3; have hfz7_4 := blk_frozen BK613.out 4; have hfz7_5 := blk_frozen BK613.out 5; have hfz7_6 := blk_frozen BK613.out 6; have hfz7_7 := blk_frozen BK613.out 7; have hfz7_8 := blk_frozen BK613.out 8; have hfz7_9 := blk_frozen BK613.out 9; have hfz7_10 := blk_frozen BK613.out 10) | ((with_reducible refine gate_callee (f := 22) rfl ?_); refine goesL_ (some 15) rfl rfl Try.func22 (by kernel_rfl) rfl #[.agg #[.int .u8 a0_0, .int .u16 a0_1, .bool a0_2, .bool a0_3, .int .i64 a0_4, .int .u8 a0_5, .int .u8 a0_6, .int .u32 a0_7, .int .u32 a0_8, .slice A0_9 l0_9.length c0_9, .slice A0_10 l0_10.length c0_10]] rfl (by (try simp only [List.map_toArray, List.map_cons, List.map_nil]); first | done | rfl | (simp only [List.length_drop, List.length_take]; rfl)) ?_; (with_reducible refine (ip4_Build.calls k a0_0 a0_1 a0_2 a0_3 a0_4 a0_5 a0_6 a0_7 a0_8 _ _ l0_9 _ _ l0_10 t614 t617 _ ?side1 ?side2 ?side3 ?side4 A3.out).mono ?_); (case side1 => repeat (first | exact (Kd.C_below HR0_9.out HB.out) | (with_reducible refine Kd.C_alloc ?_ _) | (with_reducible refine Kd.C_drewN ?_ _) | (with_reducible refine Kd.C_drew ?_))); (case side2 => exact HC0_9.out); (case side3 => repeat (first | exact (Kd.C_below HR0_10.out HB.out) | (with_reducible refine Kd.C_alloc ?_ _) | (with_reducible refine Kd.C_drewN ?_ _) | (with_reducible refine Kd.C_drew ?_))); (case side4 => exact HC0_10.out); rintro e w8 ⟨v615, rfl, ho0, hb⟩; refine ⟨_, rfl, ?_⟩; have n0_ := Aside0.mk (Kd.R_lower ho0 (below_size zq14_5)); have n1_ := Aside0.mk (blk_below (g := gb613) (o := .cells #[.int .u8 a0_0, .int .u16 a0_1, .bool a0_2, .bool a0_3, .int .i64 a0_4, .int .u8 a0_5, .int .u8 a0_6, .int .u32 a0_7, .int .u32 a0_8, .slice A0_9 l0_9.length c0_9, .slice A0_10 l0_10.length c0_10] 43 (0, 0)) zq14_0 hb); have n2_ := Aside0.mk (below_step zq14_5 hb); clear BK613; clear HB; have HO616 := n0_; have BK613 := n1_; have HB := n2_; clear n0_ n1_ n2_; (try clear hb); (try clear hb2); (try clear hk); (try clear hi); (try clear ho0); obtain ⟨Ao9, co9, eo9⟩ := Kd.R_slice HO616.out; subst eo9))
    (try simp only [Act.put, List.setIfInBounds_toArray, List.set_cons_zero, List.set_cons_succ])
    go_cut [1] (fun v1 wc => ∃ (kq : Nat) (x1_4 : Int), v1 = .int .i64 x1_4 ∧ Aside0 (weftlaw3_cutoff.j0 kq x1_4 t614 a0_0 a0_1 a0_2 a0_3 a0_4 a0_5 a0_6 a0_7 a0_8 l0_9 l0_10 = some r) ∧ Aside0 (kq ≤ k) ∧ Aside0 (Kd.R (Kd.int .u8) 5 wc w.heap.size (fun _ => True) (.slice Ao9 t614.length co9) t614) ∧ Aside0 (wc.heap[gb613]? = some (.cells #[.int .u8 a0_0, .int .u16 a0_1, .bool a0_2, .bool a0_3, .int .i64 a0_4, .int .u8 a0_5, .int .u8 a0_6, .int .u32 a0_7, .int .u32 a0_8, (.slice A0_9 l0_9.length c0_9), (.slice A0_10 l0_10.length c0_10)] 43 (0, 0))) ∧ Aside0 (Below w.heap.size w wc))
    case first =>
      have H := HC5.out
      clear HC5
      by_cases c10 : a1 > (t614.length : Int)
      · rw [if_pos c10] at H
        have c10b0 : decide ((t614.length : Int) < a1) = true := decide_eq_true c10
        clear c10
        (first | rw [c10b0] | (simp only [i64_w, i32_w]; rw [c10b0]) | skip)
        have H' := Aside0.mk H
        clear H
        go_wp2
        go_meet
        case rel => exact ⟨_, ((t614.length : Int)), (by first | rfl | (simp; done) | (simp [*]; done)), H', ⟨by first | omega | exact Nat.le_refl _⟩, ⟨by (with_reducible repeat (first | apply Kd.R_alloc | apply Kd.R_drewN | apply Kd.R_drew)); exact HO616.out⟩, ⟨by first | (with_reducible exact BK613.out) | (with_reducible exact blk_drewN BK613.out _) | (with_reducible exact blk_drew BK613.out) | ((with_reducible repeat (first | refine blk_drewN ?_ _ | refine blk_drew ?_ | refine blk_alloc ?_ _)); exact BK613.out)⟩, ⟨by repeat (first | (with_reducible first | exact HB.out | apply below_alloc | apply pw_below_drewN | apply below_drew1 | refine below_set ?_ GE613.out) | exact HB.out)⟩⟩
      · rw [if_neg c10] at H
        have c10b0 : decide ((t614.length : Int) < a1) = false := decide_eq_false c10
        clear c10
        (first | rw [c10b0] | (simp only [i64_w, i32_w]; rw [c10b0]) | skip)
        have H' := Aside0.mk H
        clear H
        go_wp2
        go_meet
        case rel => exact ⟨_, (a1), (by first | rfl | (simp; done) | (simp [*]; done)), H', ⟨by first | omega | exact Nat.le_refl _⟩, ⟨by (with_reducible repeat (first | apply Kd.R_alloc | apply Kd.R_drewN | apply Kd.R_drew)); exact HO616.out⟩, ⟨by first | (with_reducible exact BK613.out) | (with_reducible exact blk_drewN BK613.out _) | (with_reducible exact blk_drew BK613.out) | ((with_reducible repeat (first | refine blk_drewN ?_ _ | refine blk_drew ?_ | refine blk_alloc ?_ _)); exact BK613.out)⟩, ⟨by repeat (first | (with_reducible first | exact HB.out | apply below_alloc | apply pw_below_drewN | apply below_drew1 | refine below_set ?_ GE613.out) | exact HB.out)⟩⟩
    case rest =>
      clear HC5
      try clear c1
      try clear c2
      try clear p2
      try clear c4
      try clear c4b0
      try clear c4b1
      try clear p4
      try clear c10
      try clear c10b0
      try clear hcz7_0
      try clear hcz7_1
      try clear hcz7_10
      try clear hcz7_2
      try clear hcz7_3
      try clear hcz7_4
      try clear hcz7_5
      try clear hcz7_6
      try clear hcz7_7
      try clear hcz7_8
      try clear hcz7_9
      try clear hfz7_0
      try clear hfz7_1
      try clear hfz7_10
      try clear hfz7_2
      try clear hfz7_3
      try clear hfz7_4
      try clear hfz7_5
      try clear hfz7_6
      try clear hfz7_7
      try clear hfz7_8
      try clear hfz7_9
      obtain ⟨kq, x1_4, rfl, HA, HJ4, HO_5, BK613, HB⟩ := hcut
      cases kq with
      | zero => exact absurd HA.out (by simp [weftlaw3_cutoff.j0])
      | succ kj4 =>
        have H := HA.out
        clear HA
        simp only [weftlaw3_cutoff.j0] at H
        by_cases c11 : 0 ≤ x1_4
        · rw [if_pos c11] at H
          have c11b0 := eq_true c11
          have c11b1 : decide (0 ≤ x1_4) = true := decide_eq_true c11
          clear c11
          by_cases c12 : x1_4 ≤ (t614.length : Int)
          · rw [if_pos c12] at H
            have c12b0 := eq_true c12
            have c12b1 : decide (x1_4 ≤ (t614.length : Int)) = true := decide_eq_true c12
            clear c12
            obtain ⟨y618, hy618⟩ : ∃ y_ : List Int, y_ = (t614.take (x1_4 : Int).toNat) := ⟨_, rfl⟩
            replace H : ((weftlaw3_clone.f kj4 y618).bind fun t622 => ((ip4_Peek.f kj4 t622).bind fun bt625 => ((weftlaw3_clone.f kj4 (t614.take (x1_4 : Int).toNat)).bind fun t646 => ((ip4_Parse.f kj4 t646).bind fun bt649 => (if x1_4 < (wrap64 (20 + (l0_9.length : Int))) then (if bt625.2.2.2.2.2.2.2.2.2.2.2 = 30 then (if bt649.2.2.2.2.2.2.2.2.2.2.2 = 30 then (some ((bt625.2.2.2.2.2.2.2.2.2.2.1.length : Int) == 0)) else (some false)) else (some false)) else (if bt625.2.2.2.2.2.2.2.2.2.2.2 = 0 then ((weftlaw3_heads.f kj4 bt625.1 bt625.2.1 bt625.2.2.1 bt625.2.2.2.1 bt625.2.2.2.2.1 bt625.2.2.2.2.2.1 bt625.2.2.2.2.2.2.1 bt625.2.2.2.2.2.2.2.1 bt625.2.2.2.2.2.2.2.2.1 bt625.2.2.2.2.2.2.2.2.2.1 a0_0 a0_1 a0_2 a0_3 a0_4 a0_5 a0_6 a0_7 a0_8 l0_9).bind fun t666 => (if t666 = true then (if 0 ≤ (wrap64 (20 + (l0_9.length : Int))) then (if (wrap64 (20 + (l0_9.length : Int))) ≤ x1_4 then ((weftlaw3_same.f kj4 bt625.2.2.2.2.2.2.2.2.2.2.1 ((t614.take (x1_4 : Int).toNat).drop ((wrap64 (20 + (l0_9.length : Int))) : Int).toNat)).bind fun t671 => (weftlaw3_cutoff.j1 kj4 x1_4 t614 bt649.2.2.2.2.2.2.2.2.2.2.2 (!t671) a0_0 a0_1 a0_2 a0_3 a0_4 a0_5 a0_6 a0_7 a0_8 l0_9 l0_10 bt649.1 bt649.2.1 bt649.2.2.1 bt649.2.2.2.1 bt649.2.2.2.2.1 bt649.2.2.2.2.2.1 bt649.2.2.2.2.2.2.1 bt649.2.2.2.2.2.2.2.1 bt649.2.2.2.2.2.2.2.2.1 bt649.2.2.2.2.2.2.2.2.2.1 bt649.2.2.2.2.2.2.2.2.2.2.1)) else (none)) else (none)) else (weftlaw3_cutoff.j1 kj4 x1_4 t614 bt649.2.2.2.2.2.2.2.2.2.2.2 true a0_0 a0_1 a0_2 a0_3 a0_4 a0_5 a0_6 a0_7 a0_8 l0_9 l0_10 bt649.1 bt649.2.1 bt649.2.2.1 bt649.2.2.2.1 bt649.2.2.2.2.1 bt649.2.2.2.2.2.1 bt649.2.2.2.2.2.2.1 bt649.2.2.2.2.2.2.2.1 bt649.2.2.2.2.2.2.2.2.1 bt649.2.2.2.2.2.2.2.2.2.1 bt649.2.2.2.2.2.2.2.2.2.2.1))) else (weftlaw3_cutoff.j1 kj4 x1_4 t614 bt649.2.2.2.2.2.2.2.2.2.2.2 true a0_0 a0_1 a0_2 a0_3 a0_4 a0_5 a0_6 a0_7 a0_8 l0_9 l0_10 bt649.1 bt649.2.1 bt649.2.2.1 bt649.2.2.2.1 bt649.2.2.2.2.1 bt649.2.2.2.2.2.1 bt649.2.2.2.2.2.2.1 bt649.2.2.2.2.2.2.2.1 bt649.2.2.2.2.2.2.2.2.1 bt649.2.2.2.2.2.2.2.2.2.1 bt649.2.2.2.2.2.2.2.2.2.2.1))))))) = some r := by first | (rw [hy618]; with_reducible exact H) | (have H2_ := (Option.bind_some _ _).symm.trans H; rw [hy618]; with_reducible exact H2_) | (have H2_ := (Option.bind_some _ _).symm.trans H; with_reducible exact H2_) | with_reducible exact H | (rw [hy618]; exact H) | exact H
            have Ny618 := Aside0.mk hy618
            clear hy618
            replace H := Option.bind_eq_some_iff.mp H
            obtain ⟨t622, A130, H⟩ := H
            replace H : ((ip4_Peek.f kj4 t622).bind fun bt625 => ((weftlaw3_clone.f kj4 (t614.take (x1_4 : Int).toNat)).bind fun t646 => ((ip4_Parse.f kj4 t646).bind fun bt649 => (if x1_4 < (wrap64 (20 + (l0_9.length : Int))) then (if bt625.2.2.2.2.2.2.2.2.2.2.2 = 30 then (if bt649.2.2.2.2.2.2.2.2.2.2.2 = 30 then (some ((bt625.2.2.2.2.2.2.2.2.2.2.1.length : Int) == 0)) else (some false)) else (some false)) else (if bt625.2.2.2.2.2.2.2.2.2.2.2 = 0 then ((weftlaw3_heads.f kj4 bt625.1 bt625.2.1 bt625.2.2.1 bt625.2.2.2.1 bt625.2.2.2.2.1 bt625.2.2.2.2.2.1 bt625.2.2.2.2.2.2.1 bt625.2.2.2.2.2.2.2.1 bt625.2.2.2.2.2.2.2.2.1 bt625.2.2.2.2.2.2.2.2.2.1 a0_0 a0_1 a0_2 a0_3 a0_4 a0_5 a0_6 a0_7 a0_8 l0_9).bind fun t666 => (if t666 = true then (if 0 ≤ (wrap64 (20 + (l0_9.length : Int))) then (if (wrap64 (20 + (l0_9.length : Int))) ≤ x1_4 then ((weftlaw3_same.f kj4 bt625.2.2.2.2.2.2.2.2.2.2.1 ((t614.take (x1_4 : Int).toNat).drop ((wrap64 (20 + (l0_9.length : Int))) : Int).toNat)).bind fun t671 => (weftlaw3_cutoff.j1 kj4 x1_4 t614 bt649.2.2.2.2.2.2.2.2.2.2.2 (!t671) a0_0 a0_1 a0_2 a0_3 a0_4 a0_5 a0_6 a0_7 a0_8 l0_9 l0_10 bt649.1 bt649.2.1 bt649.2.2.1 bt649.2.2.2.1 bt649.2.2.2.2.1 bt649.2.2.2.2.2.1 bt649.2.2.2.2.2.2.1 bt649.2.2.2.2.2.2.2.1 bt649.2.2.2.2.2.2.2.2.1 bt649.2.2.2.2.2.2.2.2.2.1 bt649.2.2.2.2.2.2.2.2.2.2.1)) else (none)) else (none)) else (weftlaw3_cutoff.j1 kj4 x1_4 t614 bt649.2.2.2.2.2.2.2.2.2.2.2 true a0_0 a0_1 a0_2 a0_3 a0_4 a0_5 a0_6 a0_7 a0_8 l0_9 l0_10 bt649.1 bt649.2.1 bt649.2.2.1 bt649.2.2.2.1 bt649.2.2.2.2.1 bt649.2.2.2.2.2.1 bt649.2.2.2.2.2.2.1 bt649.2.2.2.2.2.2.2.1 bt649.2.2.2.2.2.2.2.2.1 bt649.2.2.2.2.2.2.2.2.2.1 bt649.2.2.2.2.2.2.2.2.2.2.1))) else (weftlaw3_cutoff.j1 kj4 x1_4 t614 bt649.2.2.2.2.2.2.2.2.2.2.2 true a0_0 a0_1 a0_2 a0_3 a0_4 a0_5 a0_6 a0_7 a0_8 l0_9 l0_10 bt649.1 bt649.2.1 bt649.2.2.1 bt649.2.2.2.1 bt649.2.2.2.2.1 bt649.2.2.2.2.2.1 bt649.2.2.2.2.2.2.1 bt649.2.2.2.2.2.2.2.1 bt649.2.2.2.2.2.2.2.2.1 bt649.2.2.2.2.2.2.2.2.2.1 bt649.2.2.2.2.2.2.2.2.2.2.1)))))) = some r := H
            have A13 := Aside0.mk A130
            clear A130
            replace H := Option.bind_eq_some_iff.mp H
            obtain ⟨⟨t625, t626, t627, t628, t629, t630, t631, t632, t633, t634, t637, t640⟩, A140, H⟩ := H
            replace H : ((weftlaw3_clone.f kj4 (t614.take (x1_4 : Int).toNat)).bind fun t646 => ((ip4_Parse.f kj4 t646).bind fun bt649 => (if x1_4 < (wrap64 (20 + (l0_9.length : Int))) then (if t640 = 30 then (if bt649.2.2.2.2.2.2.2.2.2.2.2 = 30 then (some ((t637.length : Int) == 0)) else (some false)) else (some false)) else (if t640 = 0 then ((weftlaw3_heads.f kj4 t625 t626 t627 t628 t629 t630 t631 t632 t633 t634 a0_0 a0_1 a0_2 a0_3 a0_4 a0_5 a0_6 a0_7 a0_8 l0_9).bind fun t666 => (if t666 = true then (if 0 ≤ (wrap64 (20 + (l0_9.length : Int))) then (if (wrap64 (20 + (l0_9.length : Int))) ≤ x1_4 then ((weftlaw3_same.f kj4 t637 ((t614.take (x1_4 : Int).toNat).drop ((wrap64 (20 + (l0_9.length : Int))) : Int).toNat)).bind fun t671 => (weftlaw3_cutoff.j1 kj4 x1_4 t614 bt649.2.2.2.2.2.2.2.2.2.2.2 (!t671) a0_0 a0_1 a0_2 a0_3 a0_4 a0_5 a0_6 a0_7 a0_8 l0_9 l0_10 bt649.1 bt649.2.1 bt649.2.2.1 bt649.2.2.2.1 bt649.2.2.2.2.1 bt649.2.2.2.2.2.1 bt649.2.2.2.2.2.2.1 bt649.2.2.2.2.2.2.2.1 bt649.2.2.2.2.2.2.2.2.1 bt649.2.2.2.2.2.2.2.2.2.1 bt649.2.2.2.2.2.2.2.2.2.2.1)) else (none)) else (none)) else (weftlaw3_cutoff.j1 kj4 x1_4 t614 bt649.2.2.2.2.2.2.2.2.2.2.2 true a0_0 a0_1 a0_2 a0_3 a0_4 a0_5 a0_6 a0_7 a0_8 l0_9 l0_10 bt649.1 bt649.2.1 bt649.2.2.1 bt649.2.2.2.1 bt649.2.2.2.2.1 bt649.2.2.2.2.2.1 bt649.2.2.2.2.2.2.1 bt649.2.2.2.2.2.2.2.1 bt649.2.2.2.2.2.2.2.2.1 bt649.2.2.2.2.2.2.2.2.2.1 bt649.2.2.2.2.2.2.2.2.2.2.1))) else (weftlaw3_cutoff.j1 kj4 x1_4 t614 bt649.2.2.2.2.2.2.2.2.2.2.2 true a0_0 a0_1 a0_2 a0_3 a0_4 a0_5 a0_6 a0_7 a0_8 l0_9 l0_10 bt649.1 bt649.2.1 bt649.2.2.1 bt649.2.2.2.1 bt649.2.2.2.2.1 bt649.2.2.2.2.2.1 bt649.2.2.2.2.2.2.1 bt649.2.2.2.2.2.2.2.1 bt649.2.2.2.2.2.2.2.2.1 bt649.2.2.2.2.2.2.2.2.2.1 bt649.2.2.2.2.2.2.2.2.2.2.1))))) = some r := H
            have A14 := Aside0.mk A140
            clear A140
            have c15b0 := eq_true (of_decide_eq_true (by first | (with_reducible assumption) | assumption) : 0 ≤ x1_4)
            have c16b0 := eq_true (of_decide_eq_true (by first | (with_reducible assumption) | assumption) : x1_4 ≤ (t614.length : Int))
            obtain ⟨y642, hy642⟩ : ∃ y_ : List Int, y_ = (t614.take (x1_4 : Int).toNat) := ⟨_, rfl⟩
            replace H : ((weftlaw3_clone.f kj4 y642).bind fun t646 => ((ip4_Parse.f kj4 t646).bind fun bt649 => (if x1_4 < (wrap64 (20 + (l0_9.length : Int))) then (if t640 = 30 then (if bt649.2.2.2.2.2.2.2.2.2.2.2 = 30 then (some ((t637.length : Int) == 0)) else (some false)) else (some false)) else (if t640 = 0 then ((weftlaw3_heads.f kj4 t625 t626 t627 t628 t629 t630 t631 t632 t633 t634 a0_0 a0_1 a0_2 a0_3 a0_4 a0_5 a0_6 a0_7 a0_8 l0_9).bind fun t666 => (if t666 = true then (if 0 ≤ (wrap64 (20 + (l0_9.length : Int))) then (if (wrap64 (20 + (l0_9.length : Int))) ≤ x1_4 then ((weftlaw3_same.f kj4 t637 ((t614.take (x1_4 : Int).toNat).drop ((wrap64 (20 + (l0_9.length : Int))) : Int).toNat)).bind fun t671 => (weftlaw3_cutoff.j1 kj4 x1_4 t614 bt649.2.2.2.2.2.2.2.2.2.2.2 (!t671) a0_0 a0_1 a0_2 a0_3 a0_4 a0_5 a0_6 a0_7 a0_8 l0_9 l0_10 bt649.1 bt649.2.1 bt649.2.2.1 bt649.2.2.2.1 bt649.2.2.2.2.1 bt649.2.2.2.2.2.1 bt649.2.2.2.2.2.2.1 bt649.2.2.2.2.2.2.2.1 bt649.2.2.2.2.2.2.2.2.1 bt649.2.2.2.2.2.2.2.2.2.1 bt649.2.2.2.2.2.2.2.2.2.2.1)) else (none)) else (none)) else (weftlaw3_cutoff.j1 kj4 x1_4 t614 bt649.2.2.2.2.2.2.2.2.2.2.2 true a0_0 a0_1 a0_2 a0_3 a0_4 a0_5 a0_6 a0_7 a0_8 l0_9 l0_10 bt649.1 bt649.2.1 bt649.2.2.1 bt649.2.2.2.1 bt649.2.2.2.2.1 bt649.2.2.2.2.2.1 bt649.2.2.2.2.2.2.1 bt649.2.2.2.2.2.2.2.1 bt649.2.2.2.2.2.2.2.2.1 bt649.2.2.2.2.2.2.2.2.2.1 bt649.2.2.2.2.2.2.2.2.2.2.1))) else (weftlaw3_cutoff.j1 kj4 x1_4 t614 bt649.2.2.2.2.2.2.2.2.2.2.2 true a0_0 a0_1 a0_2 a0_3 a0_4 a0_5 a0_6 a0_7 a0_8 l0_9 l0_10 bt649.1 bt649.2.1 bt649.2.2.1 bt649.2.2.2.1 bt649.2.2.2.2.1 bt649.2.2.2.2.2.1 bt649.2.2.2.2.2.2.1 bt649.2.2.2.2.2.2.2.1 bt649.2.2.2.2.2.2.2.2.1 bt649.2.2.2.2.2.2.2.2.2.1 bt649.2.2.2.2.2.2.2.2.2.2.1))))) = some r := by first | (rw [hy642]; with_reducible exact H) | (have H2_ := (Option.bind_some _ _).symm.trans H; rw [hy642]; with_reducible exact H2_) | (have H2_ := (Option.bind_some _ _).symm.trans H; with_reducible exact H2_) | with_reducible exact H | (rw [hy642]; exact H) | exact H
            have Ny642 := Aside0.mk hy642
            clear hy642
            replace H := Option.bind_eq_some_iff.mp H
            obtain ⟨t646, A170, H⟩ := H
            replace H : ((ip4_Parse.f kj4 t646).bind fun bt649 => (if x1_4 < (wrap64 (20 + (l0_9.length : Int))) then (if t640 = 30 then (if bt649.2.2.2.2.2.2.2.2.2.2.2 = 30 then (some ((t637.length : Int) == 0)) else (some false)) else (some false)) else (if t640 = 0 then ((weftlaw3_heads.f kj4 t625 t626 t627 t628 t629 t630 t631 t632 t633 t634 a0_0 a0_1 a0_2 a0_3 a0_4 a0_5 a0_6 a0_7 a0_8 l0_9).bind fun t666 => (if t666 = true then (if 0 ≤ (wrap64 (20 + (l0_9.length : Int))) then (if (wrap64 (20 + (l0_9.length : Int))) ≤ x1_4 then ((weftlaw3_same.f kj4 t637 ((t614.take (x1_4 : Int).toNat).drop ((wrap64 (20 + (l0_9.length : Int))) : Int).toNat)).bind fun t671 => (weftlaw3_cutoff.j1 kj4 x1_4 t614 bt649.2.2.2.2.2.2.2.2.2.2.2 (!t671) a0_0 a0_1 a0_2 a0_3 a0_4 a0_5 a0_6 a0_7 a0_8 l0_9 l0_10 bt649.1 bt649.2.1 bt649.2.2.1 bt649.2.2.2.1 bt649.2.2.2.2.1 bt649.2.2.2.2.2.1 bt649.2.2.2.2.2.2.1 bt649.2.2.2.2.2.2.2.1 bt649.2.2.2.2.2.2.2.2.1 bt649.2.2.2.2.2.2.2.2.2.1 bt649.2.2.2.2.2.2.2.2.2.2.1)) else (none)) else (none)) else (weftlaw3_cutoff.j1 kj4 x1_4 t614 bt649.2.2.2.2.2.2.2.2.2.2.2 true a0_0 a0_1 a0_2 a0_3 a0_4 a0_5 a0_6 a0_7 a0_8 l0_9 l0_10 bt649.1 bt649.2.1 bt649.2.2.1 bt649.2.2.2.1 bt649.2.2.2.2.1 bt649.2.2.2.2.2.1 bt649.2.2.2.2.2.2.1 bt649.2.2.2.2.2.2.2.1 bt649.2.2.2.2.2.2.2.2.1 bt649.2.2.2.2.2.2.2.2.2.1 bt649.2.2.2.2.2.2.2.2.2.2.1))) else (weftlaw3_cutoff.j1 kj4 x1_4 t614 bt649.2.2.2.2.2.2.2.2.2.2.2 true a0_0 a0_1 a0_2 a0_3 a0_4 a0_5 a0_6 a0_7 a0_8 l0_9 l0_10 bt649.1 bt649.2.1 bt649.2.2.1 bt649.2.2.2.1 bt649.2.2.2.2.1 bt649.2.2.2.2.2.1 bt649.2.2.2.2.2.2.1 bt649.2.2.2.2.2.2.2.1 bt649.2.2.2.2.2.2.2.2.1 bt649.2.2.2.2.2.2.2.2.2.1 bt649.2.2.2.2.2.2.2.2.2.2.1)))) = some r := H
            have A17 := Aside0.mk A170
            clear A170
            replace H := Option.bind_eq_some_iff.mp H
            obtain ⟨⟨t649, t650, t651, t652, t653, t654, t655, t656, t657, t658, t661, t664⟩, A180, H⟩ := H
            replace H : (if x1_4 < (wrap64 (20 + (l0_9.length : Int))) then (if t640 = 30 then (if t664 = 30 then (some ((t637.length : Int) == 0)) else (some false)) else (some false)) else (if t640 = 0 then ((weftlaw3_heads.f kj4 t625 t626 t627 t628 t629 t630 t631 t632 t633 t634 a0_0 a0_1 a0_2 a0_3 a0_4 a0_5 a0_6 a0_7 a0_8 l0_9).bind fun t666 => (if t666 = true then (if 0 ≤ (wrap64 (20 + (l0_9.length : Int))) then (if (wrap64 (20 + (l0_9.length : Int))) ≤ x1_4 then ((weftlaw3_same.f kj4 t637 ((t614.take (x1_4 : Int).toNat).drop ((wrap64 (20 + (l0_9.length : Int))) : Int).toNat)).bind fun t671 => (weftlaw3_cutoff.j1 kj4 x1_4 t614 t664 (!t671) a0_0 a0_1 a0_2 a0_3 a0_4 a0_5 a0_6 a0_7 a0_8 l0_9 l0_10 t649 t650 t651 t652 t653 t654 t655 t656 t657 t658 t661)) else (none)) else (none)) else (weftlaw3_cutoff.j1 kj4 x1_4 t614 t664 true a0_0 a0_1 a0_2 a0_3 a0_4 a0_5 a0_6 a0_7 a0_8 l0_9 l0_10 t649 t650 t651 t652 t653 t654 t655 t656 t657 t658 t661))) else (weftlaw3_cutoff.j1 kj4 x1_4 t614 t664 true a0_0 a0_1 a0_2 a0_3 a0_4 a0_5 a0_6 a0_7 a0_8 l0_9 l0_10 t649 t650 t651 t652 t653 t654 t655 t656 t657 t658 t661))) = some r := H
            have A18 := Aside0.mk A180
            clear A180
            have hcz84_0 : wc.cell? ⟨gb613, 0, none⟩ = some (.int .u8 a0_0) := (blk_cell BK613.out 0).trans rfl
            have hcz84_1 : wc.cell? ⟨gb613, 1, none⟩ = some (.int .u16 a0_1) := (blk_cell BK613.out 1).trans rfl
            have hcz84_2 : wc.cell? ⟨gb613, 2, none⟩ = some (.bool a0_2) := (blk_cell BK613.out 2).trans rfl
            have hcz84_3 : wc.cell? ⟨gb613, 3, none⟩ = some (.bool a0_3) := (blk_cell BK613.out 3).trans rfl
            have hcz84_4 : wc.cell? ⟨gb613, 4, none⟩ = some (.int .i64 a0_4) := (blk_cell BK613.out 4).trans rfl
            have hcz84_5 : wc.cell? ⟨gb613, 5, none⟩ = some (.int .u8 a0_5) := (blk_cell BK613.out 5).trans rfl
            have hcz84_6 : wc.cell? ⟨gb613, 6, none⟩ = some (.int .u8 a0_6) := (blk_cell BK613.out 6).trans rfl
            have hcz84_7 : wc.cell? ⟨gb613, 7, none⟩ = some (.int .u32 a0_7) := (blk_cell BK613.out 7).trans rfl
            have hcz84_8 : wc.cell? ⟨gb613, 8, none⟩ = some (.int .u32 a0_8) := (blk_cell BK613.out 8).trans rfl
            have hcz84_9 : wc.cell? ⟨gb613, 9, none⟩ = some (.slice A0_9 l0_9.length c0_9) := (blk_cell BK613.out 9).trans rfl
            have hcz84_10 : wc.cell? ⟨gb613, 10, none⟩ = some (.slice A0_10 l0_10.length c0_10) := (blk_cell BK613.out 10).trans rfl
            have hfz84_0 := blk_frozen BK613.out 0
            have hfz84_1 := blk_frozen BK613.out 1
            have hfz84_2 := blk_frozen BK613.out 2
            have hfz84_3 := blk_frozen BK613.out 3
            have hfz84_4 := blk_frozen BK613.out 4
            have hfz84_5 := blk_frozen BK613.out 5
            have hfz84_6 := blk_frozen BK613.out 6
            have hfz84_7 := blk_frozen BK613.out 7
            have hfz84_8 := blk_frozen BK613.out 8
            have hfz84_9 := blk_frozen BK613.out 9
            have hfz84_10 := blk_frozen BK613.out 10
            have q85 : (x1_4 : Int) ≤ ((t614.length : Int) : Int) := of_decide_eq_true (by first | (with_reducible assumption) | assumption)
            obtain ⟨i085, hi085, _, hsz85, _⟩ := info_parts info5
            have hroom85 : t614.length ≤ co9 := (Kd.R_reads' HO_5.out).2.1
            have hC85 : Kd.C (Kd.int .u8) _ Ao9 t614.length t614 := (Kd.R_reads' HO_5.out).2.2
            have hcut85 := cut_to (P := Try.prog) 24 5 .i64 Try.underlying24 hi085 Ao9 t614.length co9 x1_4 (of_decide_eq_true (by first | (with_reducible assumption) | assumption)) q85 hroom85
            have hr85 := Kd.C_take (m := (x1_4 : Int).toNat) hC85 (by omega)
            have hy85 : y618.length = (x1_4 : Int).toNat := (by rw [Ny618.out, List.length_take]; omega)
            rw [← Ny618.out] at hr85
            rw [← hy85] at hcut85
            have HR621 := Aside0.mk hr85
            have HC621 := Aside0.mk (show y618.length ≤ co9 from by omega)
            clear hr85 hC85 hroom85 hi085 hsz85
            have KY85 := Aside0.mk hy85
            clear hy85
            have KL85 := Aside0.mk (show (x1_4 : Int).toNat ≤ t614.length from by omega)
            replace q85 := eq_true q85
            go_upto_if 53 with (first | ((with_reducible refine gate_callee (f := 18) rfl ?_); refine goesL_ (some 38) rfl rfl Try.func18 (by kernel_rfl) rfl #[.slice Ao9 y618.length co9] rfl (by (try simp only [List.map_toArray, List.map_cons, List.map_nil]); first | done | rfl | (simp only [List.length_drop, List.length_take]; rfl)) ?_; (with_reducible refine (weftlaw3_clone.calls kj4 _ _ y618 t622 _ ?side1 ?side2 A13.out).mono ?_); (case side1 => repeat (first | exact (by repeat (first | (with_reducible exact HR621.out) | (with_reducible refine Kd.C_alloc ?_ _) | (with_reducible refine Kd.C_drewN ?_ _) | (with_reducible refine Kd.C_drew ?_) | exact HR621.out)) | (with_reducible refine Kd.C_alloc ?_ _) | (with_reducible refine Kd.C_drewN ?_ _) | (with_reducible refine Kd.C_drew ?_))); (case side2 => exact HC621.out); rintro e w86 ⟨v623, rfl, ho0, hb⟩; refine ⟨_, rfl, ?_⟩; have n0_ := Aside0.mk (Kd.R_elder' zq14_9 (Kd.R_base ho0) hb); have n1_ := Aside0.mk (Kd.R_lower (Kd.R_new' ho0 (Kd.R_lt zq14_9)) (below_size zq14_5)); have n2_ := Aside0.mk (blk_below (g := gb613) (o := .cells #[.int .u8 a0_0, .int .u16 a0_1, .bool a0_2, .bool a0_3, .int .i64 a0_4, .int .u8 a0_5, .int .u8 a0_6, .int .u32 a0_7, .int .u32 a0_8, .slice A0_9 l0_9.length c0_9, .slice A0_10 l0_10.length c0_10] 43 (0, 0)) zq14_0 hb); have n3_ := Aside0.mk (Kd.C_below (by repeat (first | (with_reducible exact HR621.out) | (with_reducible refine Kd.C_alloc ?_ _) | (with_reducible refine Kd.C_drewN ?_ _) | (with_reducible refine Kd.C_drew ?_) | exact HR621.out)) hb); have n4_ := Aside0.mk (below_step zq14_5 hb); clear HO_5; clear BK613; clear HR621; clear HB; have HO_5 := n0_; have HO624 := n1_; have BK613 := n2_; have HR621 := n3_; have HB := n4_; clear n0_ n1_ n2_ n3_ n4_; (try clear hb); (try clear hb2); (try clear hk); (try clear hi); (try clear ho0); obtain ⟨Ao87, co87, eo87⟩ := Kd.R_slice HO624.out; subst eo87) | ((with_reducible refine gate_callee (f := 51) rfl ?_); refine goesL_ (some 39) rfl rfl Try.func51 (by kernel_rfl) rfl #[.slice Ao87 t622.length co87] rfl (by (try simp only [List.map_toArray, List.map_cons, List.map_nil]); first | done | rfl | (simp only [List.length_drop, List.length_take]; rfl)) ?_; (with_reducible refine (ip4_Peek.calls kj4 _ _ t622 t625 t626 t627 t628 t629 t630 t631 t632 t633 t634 t637 t640 _ ?side1 ?side2 A14.out).mono ?_); (case side1 => repeat (first | exact (Kd.R_reads' HO624.out).2.2 | (with_reducible refine Kd.C_alloc ?_ _) | (with_reducible refine Kd.C_drewN ?_ _) | (with_reducible refine Kd.C_drew ?_))); (case side2 => exact (Kd.R_reads' HO624.out).2.1); rintro e w88 ⟨v635, v638, rfl, ho0, ho1, hb⟩; refine ⟨_, rfl, ?_⟩; have n0_ := Aside0.mk (Kd.R_below zq14_9 hb); have n1_ := Aside0.mk (Kd.R_below zq14_17 hb); have n2_ := Aside0.mk (Kd.V_lower (Kd.V_mono (ok' := fun k_ => some k_ ≠ (.slice Ao9 t614.length co9 : Value).ownBlock ∧ some k_ ≠ (.slice Ao87 t622.length co87 : Value).ownBlock ∧ k_ ≠ gb613) ho0 (fun k_ hk_ => ⟨(Kd.fresh' (Kd.R_lt zq14_9) k_ hk_), (Kd.fresh' (Kd.R_lt zq14_17) k_ hk_), (Kd.freshB (g := gb613) (o := .cells #[.int .u8 a0_0, .int .u16 a0_1, .bool a0_2, .bool a0_3, .int .i64 a0_4, .int .u8 a0_5, .int .u8 a0_6, .int .u32 a0_7, .int .u32 a0_8, .slice A0_9 l0_9.length c0_9, .slice A0_10 l0_10.length c0_10] 43 (0, 0)) zq14_0 k_ hk_)⟩)) (below_size zq14_5)); have n3_ := Aside0.mk (Kd.V_lower (Kd.V_mono (ok' := fun k_ => some k_ ≠ (.slice Ao9 t614.length co9 : Value).ownBlock ∧ some k_ ≠ (.slice Ao87 t622.length co87 : Value).ownBlock ∧ k_ ≠ gb613) ho1 (fun k_ hk_ => ⟨(Kd.fresh' (Kd.R_lt zq14_9) k_ hk_), (Kd.fresh' (Kd.R_lt zq14_17) k_ hk_), (Kd.freshB (g := gb613) (o := .cells #[.int .u8 a0_0, .int .u16 a0_1, .bool a0_2, .bool a0_3, .int .i64 a0_4, .int .u8 a0_5, .int .u8 a0_6, .int .u32 a0_7, .int .u32 a0_8, .slice A0_9 l0_9.length c0_9, .slice A0_10 l0_10.length c0_10] 43 (0, 0)) zq14_0 k_ hk_)⟩)) (below_size zq14_5)); have n4_ := Aside0.mk (blk_below (g := gb613) (o := .cells #[.int .u8 a0_0, .int .u16 a0_1, .bool a0_2, .bool a0_3, .int .i64 a0_4, .int .u8 a0_5, .int .u8 a0_6, .int .u32 a0_7, .int .u32 a0_8, .slice A0_9 l0_9.length c0_9, .slice A0_10 l0_10.length c0_10] 43 (0, 0)) zq14_0 hb); have n5_ := Aside0.mk (Kd.C_below (by repeat (first | (with_reducible exact HR621.out) | (with_reducible refine Kd.C_alloc ?_ _) | (with_reducible refine Kd.C_drewN ?_ _) | (with_reducible refine Kd.C_drew ?_) | exact HR621.out)) hb); have n6_ := Aside0.mk (below_step zq14_5 hb); clear HO_5; clear HO624; clear BK613; clear HR621; clear HB; have HO_5 := n0_; have HO624 := n1_; have HO636 := n2_; have HO639 := n3_; have BK613 := n4_; have HR621 := n5_; have HB := n6_; clear n0_ n1_ n2_ n3_ n4_ n5_ n6_; (try clear hb); (try clear hb2); (try clear hk); (try clear hi); (try clear ho0); (try clear ho1)) | ((with_reducible refine gate_dst (N := 8) rfl ?_); (try (refine gate_guard (by rfl) ?_; dsimp only)); refine box_event ?hg (N := 8) ?hd (cs := #[.int .u8 0, .int .u16 0, .bool false, .bool false, .int .i64 0, .int .u8 0, .int .u8 0, .int .u32 0, .int .u32 0, .slice none 0 0]) (t := 41) ?hr ?_; (case hd => rfl); (case hg => rfl); (case hr => first | (go_simp; done) | (go_simp; rfl)); intro gb641 hg w89 hbox hb; have n0_ := Aside0.mk (Kd.R_below zq14_9 hb); have n1_ := Aside0.mk (Kd.R_below zq14_17 hb); have n2_ := Aside0.mk (Kd.V_below (Kd.V_elderB (by (with_reducible repeat (first | apply Kd.V_alloc | apply Kd.V_drewN | apply Kd.V_drew)); exact HO636.out) gb641 (Nat.le_of_eq hg.symm)) hb); have n3_ := Aside0.mk (Kd.V_below (Kd.V_elderB (by (with_reducible repeat (first | apply Kd.V_alloc | apply Kd.V_drewN | apply Kd.V_drew)); exact HO639.out) gb641 (Nat.le_of_eq hg.symm)) hb); have n4_ := Aside0.mk (blk_below (g := gb613) (o := .cells #[.int .u8 a0_0, .int .u16 a0_1, .bool a0_2, .bool a0_3, .int .i64 a0_4, .int .u8 a0_5, .int .u8 a0_6, .int .u32 a0_7, .int .u32 a0_8, .slice A0_9 l0_9.length c0_9, .slice A0_10 l0_10.length c0_10] 43 (0, 0)) zq14_0 hb); have n5_ := Aside0.mk (Kd.C_below (by repeat (first | (with_reducible exact HR621.out) | (with_reducible refine Kd.C_alloc ?_ _) | (with_reducible refine Kd.C_drewN ?_ _) | (with_reducible refine Kd.C_drew ?_) | exact HR621.out)) hb); have n6_ := Aside0.mk (below_step zq14_5 hb); have n7_ := Aside0.mk (hbox); have n8_ := Aside0.mk ((by rw [hg]; exact (below_size zq14_5) : w.heap.size ≤ gb641)); have n9_ := Aside0.mk ((by rw [hg]; exact (below_size zq14_5) : w.heap.size ≤ gb641)); have n10_ := Aside0.mk ((by rw [hg]; exact Nat.ne_of_lt (blk_lt (g := gb613) (o := .cells #[.int .u8 a0_0, .int .u16 a0_1, .bool a0_2, .bool a0_3, .int .i64 a0_4, .int .u8 a0_5, .int .u8 a0_6, .int .u32 a0_7, .int .u32 a0_8, .slice A0_9 l0_9.length c0_9, .slice A0_10 l0_10.length c0_10] 43 (0, 0)) zq14_0) : gb613 ≠ gb641)); have n11_ := Aside0.mk ((by rw [hg]; exact Nat.ne_of_gt (blk_lt (g := gb613) (o := .cells #[.int .u8 a0_0, .int .u16 a0_1, .bool a0_2, .bool a0_3, .int .i64 a0_4, .int .u8 a0_5, .int .u8 a0_6, .int .u32 a0_7, .int .u32 a0_8, .slice A0_9 l0_9.length c0_9, .slice A0_10 l0_10.length c0_10] 43 (0, 0)) zq14_0) : gb641 ≠ gb613)); clear HO_5; clear HO624; clear HO636; clear HO639; clear BK613; clear HR621; clear HB; have HO_5 := n0_; have HO624 := n1_; have HO636 := n2_; have HO639 := n3_; have BK613 := n4_; have HR621 := n5_; have HB := n6_; have BK641 := n7_; have GW641 := n8_; have GE641 := n9_; have NB613_641 := n10_; have NB641_613 := n11_; clear n0_ n1_ n2_ n3_ n4_ n5_ n6_ n7_ n8_ n9_ n10_ n11_; clear hb hbox hg; have hnb90 := NB641_613.out; have hnc90 := NB613_641.out; have hcz91_0 : w89.cell? ⟨gb641, 0, none⟩ = some (.int .u8 0) := (blk_cell BK641.out 0).trans rfl; have hcz91_1 : w89.cell? ⟨gb641, 1, none⟩ = some (.int .u16 0) := (blk_cell BK641.out 1).trans rfl; have hcz91_2 : w89.cell? ⟨gb641, 2, none⟩ = some (.bool false) := (blk_cell BK641.out 2).trans rfl; have hcz91_3 : w89.cell? ⟨gb641, 3, none⟩ = some (.bool false) := (blk_cell BK641.out 3).trans rfl; have hcz91_4 : w89.cell? ⟨gb641, 4, none⟩ = some (.int .i64 0) := (blk_cell BK641.out 4).trans rfl; have hcz91_5 : w89.cell? ⟨gb641, 5, none⟩ = some (.int .u8 0) := (blk_cell BK641.out 5).trans rfl; have hcz91_6 : w89.cell? ⟨gb641, 6, none⟩ = some (.int .u8 0) := (blk_cell BK641.out 6).trans rfl; have hcz91_7 : w89.cell? ⟨gb641, 7, none⟩ = some (.int .u32 0) := (blk_cell BK641.out 7).trans rfl; have hcz91_8 : w89.cell? ⟨gb641, 8, none⟩ = some (.int .u32 0) := (blk_cell BK641.out 8).trans rfl; have hcz91_9 : w89.cell? ⟨gb641, 9, none⟩ = some (.slice none 0 0) := (blk_cell BK641.out 9).trans rfl; have hfz91_0 := blk_frozen BK641.out 0; have hfz91_1 := blk_frozen BK641.out 1; have hfz91_2 := blk_frozen BK641.out 2; have hfz91_3 := blk_frozen BK641.out 3; have hfz91_4 := blk_frozen BK641.out 4; have hfz91_5 := blk_frozen BK641.out 5; have hfz91_6 := blk_frozen BK641.out 6; have hfz91_7 := blk_frozen BK641.out 7; have hfz91_8 := blk_frozen BK641.out 8; have hfz91_9 := blk_frozen BK641.out 9; obtain ⟨Ao92, co92, eo92⟩ := Kd.V_slice HO636.out; subst eo92) | ((with_reducible refine gate_store (t := 41) (p := 8) rfl ?_); refine store_event (t := 41) (p := 8) (v := ?vo_w93) (w1 := ((((((((((w89.setCell ⟨gb641, 0, none⟩ (.int .u8 t625)).setCell ⟨gb641, 1, none⟩ (.int .u16 t626)).setCell ⟨gb641, 2, none⟩ (.bool t627)).setCell ⟨gb641, 3, none⟩ (.bool t628)).setCell ⟨gb641, 4, none⟩ (.int .i64 t629)).setCell ⟨gb641, 5, none⟩ (.int .u8 t630)).setCell ⟨gb641, 6, none⟩ (.int .u8 t631)).setCell ⟨gb641, 7, none⟩ (.int .u32 t632)).setCell ⟨gb641, 8, none⟩ (.int .u32 t633)).setCell ⟨gb641, 9, none⟩ (.slice Ao92 t634.length co92))) ?hg ?ho ?hn ?hr ?_; (case ho => rfl); (case hg => rfl); (case hn => rfl); (case hr => first | (go_simp; done) | (go_simp; rfl)); intro w93 hw; have n0_ : Aside0 (Kd.R (Kd.int .u8) 5 w93 w.heap.size (fun k_ => some k_ ≠ (.slice Ao87 t622.length co87 : Value).ownBlock) (.slice Ao9 t614.length co9) t614) := ⟨(by rw [hw]; exact (by (with_reducible repeat (first | apply Kd.R_alloc | apply Kd.R_drewN | apply Kd.R_drew)); exact Kd.R_mono (Kd.R_far (p := ⟨gb641, 9, none⟩) (Kd.R_far (p := ⟨gb641, 8, none⟩) (Kd.R_far (p := ⟨gb641, 7, none⟩) (Kd.R_far (p := ⟨gb641, 6, none⟩) (Kd.R_far (p := ⟨gb641, 5, none⟩) (Kd.R_far (p := ⟨gb641, 4, none⟩) (Kd.R_far (p := ⟨gb641, 3, none⟩) (Kd.R_far (p := ⟨gb641, 2, none⟩) (Kd.R_far (p := ⟨gb641, 1, none⟩) (Kd.R_far (p := ⟨gb641, 0, none⟩) (Kd.R_types HO_5.out BK641.out (by decide)) (fun _ hk => hk.2) (.int .u8 t625)) (fun _ hk => hk.2) (.int .u16 t626)) (fun _ hk => hk.2) (.bool t627)) (fun _ hk => hk.2) (.bool t628)) (fun _ hk => hk.2) (.int .i64 t629)) (fun _ hk => hk.2) (.int .u8 t630)) (fun _ hk => hk.2) (.int .u8 t631)) (fun _ hk => hk.2) (.int .u32 t632)) (fun _ hk => hk.2) (.int .u32 t633)) (fun _ hk => hk.2) (.slice Ao92 t634.length co92)) (fun _ hk => hk.1.2)))⟩; have n1_ : Aside0 (Kd.R (Kd.int .u8) 5 w93 w.heap.size (fun k_ => some k_ ≠ (.slice Ao9 t614.length co9 : Value).ownBlock) (.slice Ao87 t622.length co87) t622) := ⟨(by rw [hw]; exact (by (with_reducible repeat (first | apply Kd.R_alloc | apply Kd.R_drewN | apply Kd.R_drew)); exact Kd.R_mono (Kd.R_far (p := ⟨gb641, 9, none⟩) (Kd.R_far (p := ⟨gb641, 8, none⟩) (Kd.R_far (p := ⟨gb641, 7, none⟩) (Kd.R_far (p := ⟨gb641, 6, none⟩) (Kd.R_far (p := ⟨gb641, 5, none⟩) (Kd.R_far (p := ⟨gb641, 4, none⟩) (Kd.R_far (p := ⟨gb641, 3, none⟩) (Kd.R_far (p := ⟨gb641, 2, none⟩) (Kd.R_far (p := ⟨gb641, 1, none⟩) (Kd.R_far (p := ⟨gb641, 0, none⟩) (Kd.R_types HO624.out BK641.out (by decide)) (fun _ hk => hk.2) (.int .u8 t625)) (fun _ hk => hk.2) (.int .u16 t626)) (fun _ hk => hk.2) (.bool t627)) (fun _ hk => hk.2) (.bool t628)) (fun _ hk => hk.2) (.int .i64 t629)) (fun _ hk => hk.2) (.int .u8 t630)) (fun _ hk => hk.2) (.int .u8 t631)) (fun _ hk => hk.2) (.int .u32 t632)) (fun _ hk => hk.2) (.int .u32 t633)) (fun _ hk => hk.2) (.slice Ao92 t634.length co92)) (fun _ hk => hk.1.2)))⟩; have n2_ : Aside0 (Kd.V (Kd.int .u8) 5 w93 w.heap.size (fun k_ => some k_ ≠ (.slice Ao9 t614.length co9 : Value).ownBlock ∧ some k_ ≠ (.slice Ao87 t622.length co87 : Value).ownBlock ∧ k_ ≠ gb613 ∧ k_ ≠ gb641) (.slice Ao92 t634.length co92) t634) := ⟨(by rw [hw]; exact (by (with_reducible repeat (first | apply Kd.V_alloc | apply Kd.V_drewN | apply Kd.V_drew)); exact Kd.V_mono (Kd.V_far (p := ⟨gb641, 9, none⟩) (Kd.V_far (p := ⟨gb641, 8, none⟩) (Kd.V_far (p := ⟨gb641, 7, none⟩) (Kd.V_far (p := ⟨gb641, 6, none⟩) (Kd.V_far (p := ⟨gb641, 5, none⟩) (Kd.V_far (p := ⟨gb641, 4, none⟩) (Kd.V_far (p := ⟨gb641, 3, none⟩) (Kd.V_far (p := ⟨gb641, 2, none⟩) (Kd.V_far (p := ⟨gb641, 1, none⟩) (Kd.V_far (p := ⟨gb641, 0, none⟩) (Kd.V_mono HO636.out (fun k_ hk => (⟨hk, hk.2⟩ : _ ∧ k_ ≠ gb641))) (fun _ hk => hk.2) (.int .u8 t625)) (fun _ hk => hk.2) (.int .u16 t626)) (fun _ hk => hk.2) (.bool t627)) (fun _ hk => hk.2) (.bool t628)) (fun _ hk => hk.2) (.int .i64 t629)) (fun _ hk => hk.2) (.int .u8 t630)) (fun _ hk => hk.2) (.int .u8 t631)) (fun _ hk => hk.2) (.int .u32 t632)) (fun _ hk => hk.2) (.int .u32 t633)) (fun _ hk => hk.2) (.slice Ao92 t634.length co92)) (fun _ hk => ⟨hk.1.1.1, ⟨hk.1.1.2.1, ⟨hk.1.1.2.2, hk.1.2⟩⟩⟩)))⟩; have n3_ : Aside0 (Kd.V (Kd.int .u8) 5 w93 w.heap.size (fun k_ => some k_ ≠ (.slice Ao9 t614.length co9 : Value).ownBlock ∧ some k_ ≠ (.slice Ao87 t622.length co87 : Value).ownBlock ∧ k_ ≠ gb613 ∧ k_ ≠ gb641) v638 t637) := ⟨(by rw [hw]; exact (by (with_reducible repeat (first | apply Kd.V_alloc | apply Kd.V_drewN | apply Kd.V_drew)); exact Kd.V_mono (Kd.V_far (p := ⟨gb641, 9, none⟩) (Kd.V_far (p := ⟨gb641, 8, none⟩) (Kd.V_far (p := ⟨gb641, 7, none⟩) (Kd.V_far (p := ⟨gb641, 6, none⟩) (Kd.V_far (p := ⟨gb641, 5, none⟩) (Kd.V_far (p := ⟨gb641, 4, none⟩) (Kd.V_far (p := ⟨gb641, 3, none⟩) (Kd.V_far (p := ⟨gb641, 2, none⟩) (Kd.V_far (p := ⟨gb641, 1, none⟩) (Kd.V_far (p := ⟨gb641, 0, none⟩) (Kd.V_mono HO639.out (fun k_ hk => (⟨hk, hk.2⟩ : _ ∧ k_ ≠ gb641))) (fun _ hk => hk.2) (.int .u8 t625)) (fun _ hk => hk.2) (.int .u16 t626)) (fun _ hk => hk.2) (.bool t627)) (fun _ hk => hk.2) (.bool t628)) (fun _ hk => hk.2) (.int .i64 t629)) (fun _ hk => hk.2) (.int .u8 t630)) (fun _ hk => hk.2) (.int .u8 t631)) (fun _ hk => hk.2) (.int .u32 t632)) (fun _ hk => hk.2) (.int .u32 t633)) (fun _ hk => hk.2) (.slice Ao92 t634.length co92)) (fun _ hk => ⟨hk.1.1.1, ⟨hk.1.1.2.1, ⟨hk.1.1.2.2, hk.1.2⟩⟩⟩)))⟩; have n4_ : Aside0 (w93.heap[gb613]? = some (.cells #[.int .u8 a0_0, .int .u16 a0_1, .bool a0_2, .bool a0_3, .int .i64 a0_4, .int .u8 a0_5, .int .u8 a0_6, .int .u32 a0_7, .int .u32 a0_8, .slice A0_9 l0_9.length c0_9, .slice A0_10 l0_10.length c0_10] 43 (0, 0))) := ⟨(by rw [hw]; exact (by (with_reducible repeat (first | refine blk_drewN ?_ _ | refine blk_drew ?_ | refine blk_alloc ?_ _)); refine blk_far ?_ NB613_641.out _; (with_reducible repeat (first | refine blk_drewN ?_ _ | refine blk_drew ?_ | refine blk_alloc ?_ _)); refine blk_far ?_ NB613_641.out _; (with_reducible repeat (first | refine blk_drewN ?_ _ | refine blk_drew ?_ | refine blk_alloc ?_ _)); refine blk_far ?_ NB613_641.out _; (with_reducible repeat (first | refine blk_drewN ?_ _ | refine blk_drew ?_ | refine blk_alloc ?_ _)); refine blk_far ?_ NB613_641.out _; (with_reducible repeat (first | refine blk_drewN ?_ _ | refine blk_drew ?_ | refine blk_alloc ?_ _)); refine blk_far ?_ NB613_641.out _; (with_reducible repeat (first | refine blk_drewN ?_ _ | refine blk_drew ?_ | refine blk_alloc ?_ _)); refine blk_far ?_ NB613_641.out _; (with_reducible repeat (first | refine blk_drewN ?_ _ | refine blk_drew ?_ | refine blk_alloc ?_ _)); refine blk_far ?_ NB613_641.out _; (with_reducible repeat (first | refine blk_drewN ?_ _ | refine blk_drew ?_ | refine blk_alloc ?_ _)); refine blk_far ?_ NB613_641.out _; (with_reducible repeat (first | refine blk_drewN ?_ _ | refine blk_drew ?_ | refine blk_alloc ?_ _)); refine blk_far ?_ NB613_641.out _; (with_reducible repeat (first | refine blk_drewN ?_ _ | refine blk_drew ?_ | refine blk_alloc ?_ _)); refine blk_far ?_ NB613_641.out _; first | (with_reducible exact BK613.out) | (with_reducible exact blk_drewN BK613.out _) | (with_reducible exact blk_drew BK613.out) | ((with_reducible repeat (first | refine blk_drewN ?_ _ | refine blk_drew ?_ | refine blk_alloc ?_ _)); exact BK613.out)))⟩; have n5_ : Aside0 (w93.heap[gb641]? = some (.cells #[.int .u8 t625, .int .u16 t626, .bool t627, .bool t628, .int .i64 t629, .int .u8 t630, .int .u8 t631, .int .u32 t632, .int .u32 t633, .slice Ao92 t634.length co92] 41 (0, 0))) := ⟨(by rw [hw]; exact (by (with_reducible repeat (first | refine blk_drewN ?_ _ | refine blk_drew ?_ | refine blk_alloc ?_ _)); refine blk_put (cs := #[.int .u8 t625, .int .u16 t626, .bool t627, .bool t628, .int .i64 t629, .int .u8 t630, .int .u8 t631, .int .u32 t632, .int .u32 t633, .slice none 0 0]) ?_ 9 _ rfl; (with_reducible repeat (first | refine blk_drewN ?_ _ | refine blk_drew ?_ | refine blk_alloc ?_ _)); refine blk_put (cs := #[.int .u8 t625, .int .u16 t626, .bool t627, .bool t628, .int .i64 t629, .int .u8 t630, .int .u8 t631, .int .u32 t632, .int .u32 0, .slice none 0 0]) ?_ 8 _ rfl; (with_reducible repeat (first | refine blk_drewN ?_ _ | refine blk_drew ?_ | refine blk_alloc ?_ _)); refine blk_put (cs := #[.int .u8 t625, .int .u16 t626, .bool t627, .bool t628, .int .i64 t629, .int .u8 t630, .int .u8 t631, .int .u32 0, .int .u32 0, .slice none 0 0]) ?_ 7 _ rfl; (with_reducible repeat (first | refine blk_drewN ?_ _ | refine blk_drew ?_ | refine blk_alloc ?_ _)); refine blk_put (cs := #[.int .u8 t625, .int .u16 t626, .bool t627, .bool t628, .int .i64 t629, .int .u8 t630, .int .u8 0, .int .u32 0, .int .u32 0, .slice none 0 0]) ?_ 6 _ rfl; (with_reducible repeat (first | refine blk_drewN ?_ _ | refine blk_drew ?_ | refine blk_alloc ?_ _)); refine blk_put (cs := #[.int .u8 t625, .int .u16 t626, .bool t627, .bool t628, .int .i64 t629, .int .u8 0, .int .u8 0, .int .u32 0, .int .u32 0, .slice none 0 0]) ?_ 5 _ rfl; (with_reducible repeat (first | refine blk_drewN ?_ _ | refine blk_drew ?_ | refine blk_alloc ?_ _)); refine blk_put (cs := #[.int .u8 t625, .int .u16 t626, .bool t627, .bool t628, .int .i64 0, .int .u8 0, .int .u8 0, .int .u32 0, .int .u32 0, .slice none 0 0]) ?_ 4 _ rfl; (with_reducible repeat (first | refine blk_drewN ?_ _ | refine blk_drew ?_ | refine blk_alloc ?_ _)); refine blk_put (cs := #[.int .u8 t625, .int .u16 t626, .bool t627, .bool false, .int .i64 0, .int .u8 0, .int .u8 0, .int .u32 0, .int .u32 0, .slice none 0 0]) ?_ 3 _ rfl; (with_reducible repeat (first | refine blk_drewN ?_ _ | refine blk_drew ?_ | refine blk_alloc ?_ _)); refine blk_put (cs := #[.int .u8 t625, .int .u16 t626, .bool false, .bool false, .int .i64 0, .int .u8 0, .int .u8 0, .int .u32 0, .int .u32 0, .slice none 0 0]) ?_ 2 _ rfl; (with_reducible repeat (first | refine blk_drewN ?_ _ | refine blk_drew ?_ | refine blk_alloc ?_ _)); refine blk_put (cs := #[.int .u8 t625, .int .u16 0, .bool false, .bool false, .int .i64 0, .int .u8 0, .int .u8 0, .int .u32 0, .int .u32 0, .slice none 0 0]) ?_ 1 _ rfl; (with_reducible repeat (first | refine blk_drewN ?_ _ | refine blk_drew ?_ | refine blk_alloc ?_ _)); refine blk_put (cs := #[.int .u8 0, .int .u16 0, .bool false, .bool false, .int .i64 0, .int .u8 0, .int .u8 0, .int .u32 0, .int .u32 0, .slice none 0 0]) ?_ 0 _ rfl; first | (with_reducible exact BK641.out) | (with_reducible exact blk_drewN BK641.out _) | (with_reducible exact blk_drew BK641.out) | ((with_reducible repeat (first | refine blk_drewN ?_ _ | refine blk_drew ?_ | refine blk_alloc ?_ _)); exact BK641.out)))⟩; have n6_ : Aside0 (Below w.heap.size w w93) := ⟨(by rw [hw]; exact zq14_8)⟩; clear hw; clear HO_5; clear HO624; clear HO636; clear HO639; clear BK613; clear BK641; clear HB; have HO_5 := n0_; have HO624 := n1_; have HO636 := n2_; have HO639 := n3_; have BK613 := n4_; have BK641 := n5_; have HB := n6_; clear n0_ n1_ n2_ n3_ n4_ n5_ n6_; have q94 : (x1_4 : Int) ≤ ((t614.length : Int) : Int) := of_decide_eq_true (by first | (with_reducible assumption) | assumption); obtain ⟨i094, hi094, _, hsz94, _⟩ := info_parts info5; have hroom94 : t614.length ≤ co9 := (Kd.R_reads' HO_5.out).2.1; have hC94 : Kd.C (Kd.int .u8) _ Ao9 t614.length t614 := (Kd.R_reads' HO_5.out).2.2; (try clear hcut85); have hcut94 := cut_to (P := Try.prog) 24 5 .i64 Try.underlying24 hi094 Ao9 t614.length co9 x1_4 (of_decide_eq_true (by first | (with_reducible assumption) | assumption)) q94 hroom94; have hr94 := Kd.C_take (m := (x1_4 : Int).toNat) hC94 (by omega); have hy94 : y642.length = (x1_4 : Int).toNat := (by rw [Ny642.out, List.length_take]; omega); rw [← Ny642.out] at hr94; rw [← hy94] at hcut94; have HR645 := Aside0.mk hr94; have HC645 := Aside0.mk (show y642.length ≤ co9 from by omega); clear hr94 hC94 hroom94 hi094 hsz94; have KY94 := Aside0.mk hy94; clear hy94; have KL94 := Aside0.mk (show (x1_4 : Int).toNat ≤ t614.length from by omega); replace q94 := eq_true q94) | ((with_reducible refine gate_callee (f := 18) rfl ?_); refine goesL_ (some 47) rfl rfl Try.func18 (by kernel_rfl) rfl #[.slice Ao9 y642.length co9] rfl (by (try simp only [List.map_toArray, List.map_cons, List.map_nil]); first | done | rfl | (simp only [List.length_drop, List.length_take]; rfl)) ?_; (with_reducible refine (weftlaw3_clone.calls kj4 _ _ y642 t646 _ ?side1 ?side2 A17.out).mono ?_); (case side1 => repeat (first | exact zq14_16 | (with_reducible refine Kd.C_alloc ?_ _) | (with_reducible refine Kd.C_drewN ?_ _) | (with_reducible refine Kd.C_drew ?_))); (case side2 => exact HC645.out); rintro e w95 ⟨v647, rfl, ho0, hb⟩; refine ⟨_, rfl, ?_⟩; have n0_ := Aside0.mk (Kd.R_elder' zq14_9 (Kd.R_base ho0) hb); have n1_ := Aside0.mk (Kd.R_elder' zq14_17 (Kd.R_base ho0) hb); have n2_ := Aside0.mk (Kd.V_elder' (by (with_reducible repeat (first | apply Kd.V_alloc | apply Kd.V_drewN | apply Kd.V_drew)); exact HO636.out) (Kd.R_base ho0) hb); have n3_ := Aside0.mk (Kd.V_elder' (by (with_reducible repeat (first | apply Kd.V_alloc | apply Kd.V_drewN | apply Kd.V_drew)); exact HO639.out) (Kd.R_base ho0) hb); have n4_ := Aside0.mk (Kd.R_lower (Kd.R_new' (Kd.R_new' ho0 (Kd.R_lt zq14_9)) (Kd.R_lt zq14_17)) (below_size zq14_8)); have n5_ := Aside0.mk (blk_below (g := gb613) (o := .cells #[.int .u8 a0_0, .int .u16 a0_1, .bool a0_2, .bool a0_3, .int .i64 a0_4, .int .u8 a0_5, .int .u8 a0_6, .int .u32 a0_7, .int .u32 a0_8, .slice A0_9 l0_9.length c0_9, .slice A0_10 l0_10.length c0_10] 43 (0, 0)) zq14_0 hb); have n6_ := Aside0.mk (blk_below (g := gb641) (o := .cells #[.int .u8 t625, .int .u16 t626, .bool t627, .bool t628, .int .i64 t629, .int .u8 t630, .int .u8 t631, .int .u32 t632, .int .u32 t633, .slice Ao92 t634.length co92] 41 (0, 0)) zq14_4 hb); have n7_ := Aside0.mk (Kd.C_below zq14_16 hb); have n8_ := Aside0.mk (below_step zq14_8 hb); clear HO_5; clear HO624; clear HO636; clear HO639; clear BK613; clear BK641; clear HR645; clear HB; have HO_5 := n0_; have HO624 := n1_; have HO636 := n2_; have HO639 := n3_; have HO648 := n4_; have BK613 := n5_; have BK641 := n6_; have HR645 := n7_; have HB := n8_; clear n0_ n1_ n2_ n3_ n4_ n5_ n6_ n7_ n8_; (try clear hb); (try clear hb2); (try clear hk); (try clear hi); (try clear ho0); obtain ⟨Ao96, co96, eo96⟩ := Kd.R_slice HO648.out; subst eo96) | ((with_reducible refine gate_callee (f := 38) rfl ?_); refine goesL_ (some 48) rfl rfl Try.func38 (by kernel_rfl) rfl #[.slice Ao96 t646.length co96] rfl (by (try simp only [List.map_toArray, List.map_cons, List.map_nil]); first | done | rfl | (simp only [List.length_drop, List.length_take]; rfl)) ?_; (with_reducible refine (ip4_Parse.calls kj4 _ _ t646 t649 t650 t651 t652 t653 t654 t655 t656 t657 t658 t661 t664 _ ?side1 ?side2 A18.out).mono ?_); (case side1 => repeat (first | exact (Kd.R_reads' HO648.out).2.2 | (with_reducible refine Kd.C_alloc ?_ _) | (with_reducible refine Kd.C_drewN ?_ _) | (with_reducible refine Kd.C_drew ?_))); (case side2 => exact (Kd.R_reads' HO648.out).2.1); rintro e w97 ⟨v659, v662, rfl, ho0, ho1, hb⟩; refine ⟨_, rfl, ?_⟩; have n0_ := Aside0.mk (Kd.R_below zq14_9 hb); have n1_ := Aside0.mk (Kd.R_below zq14_17 hb); have n2_ := Aside0.mk (Kd.V_below (by (with_reducible repeat (first | apply Kd.V_alloc | apply Kd.V_drewN | apply Kd.V_drew)); exact HO636.out) hb); have n3_ := Aside0.mk (Kd.V_below (by (with_reducible repeat (first | apply Kd.V_alloc | apply Kd.V_drewN | apply Kd.V_drew)); exact HO639.out) hb); have n4_ := Aside0.mk (Kd.R_below (by (with_reducible repeat (first | apply Kd.R_alloc | apply Kd.R_drewN | apply Kd.R_drew)); exact HO648.out) hb); have n5_ := Aside0.mk (Kd.V_lower (Kd.V_mono (ok' := fun k_ => some k_ ≠ (.slice Ao9 t614.length co9 : Value).ownBlock ∧ some k_ ≠ (.slice Ao87 t622.length co87 : Value).ownBlock ∧ some k_ ≠ (.slice Ao96 t646.length co96 : Value).ownBlock ∧ k_ ≠ gb613 ∧ k_ ≠ gb641) ho0 (fun k_ hk_ => ⟨(Kd.fresh' (Kd.R_lt zq14_9) k_ hk_), (Kd.fresh' (Kd.R_lt zq14_17) k_ hk_), (Kd.fresh' (Kd.R_lt (by (with_reducible repeat (first | apply Kd.R_alloc | apply Kd.R_drewN | apply Kd.R_drew)); exact HO648.out)) k_ hk_), (Kd.freshB (g := gb613) (o := .cells #[.int .u8 a0_0, .int .u16 a0_1, .bool a0_2, .bool a0_3, .int .i64 a0_4, .int .u8 a0_5, .int .u8 a0_6, .int .u32 a0_7, .int .u32 a0_8, .slice A0_9 l0_9.length c0_9, .slice A0_10 l0_10.length c0_10] 43 (0, 0)) zq14_0 k_ hk_), (Kd.freshB (g := gb641) (o := .cells #[.int .u8 t625, .int .u16 t626, .bool t627, .bool t628, .int .i64 t629, .int .u8 t630, .int .u8 t631, .int .u32 t632, .int .u32 t633, .slice Ao92 t634.length co92] 41 (0, 0)) zq14_4 k_ hk_)⟩)) (below_size zq14_8)); have n6_ := Aside0.mk (Kd.V_lower (Kd.V_mono (ok' := fun k_ => some k_ ≠ (.slice Ao9 t614.length co9 : Value).ownBlock ∧ some k_ ≠ (.slice Ao87 t622.length co87 : Value).ownBlock ∧ some k_ ≠ (.slice Ao96 t646.length co96 : Value).ownBlock ∧ k_ ≠ gb613 ∧ k_ ≠ gb641) ho1 (fun k_ hk_ => ⟨(Kd.fresh' (Kd.R_lt zq14_9) k_ hk_), (Kd.fresh' (Kd.R_lt zq14_17) k_ hk_), (Kd.fresh' (Kd.R_lt (by (with_reducible repeat (first | apply Kd.R_alloc | apply Kd.R_drewN | apply Kd.R_drew)); exact HO648.out)) k_ hk_), (Kd.freshB (g := gb613) (o := .cells #[.int .u8 a0_0, .int .u16 a0_1, .bool a0_2, .bool a0_3, .int .i64 a0_4, .int .u8 a0_5, .int .u8 a0_6, .int .u32 a0_7, .int .u32 a0_8, .slice A0_9 l0_9.length c0_9, .slice A0_10 l0_10.length c0_10] 43 (0, 0)) zq14_0 k_ hk_), (Kd.freshB (g := gb641) (o := .cells #[.int .u8 t625, .int .u16 t626, .bool t627, .bool t628, .int .i64 t629, .int .u8 t630, .int .u8 t631, .int .u32 t632, .int .u32 t633, .slice Ao92 t634.length co92] 41 (0, 0)) zq14_4 k_ hk_)⟩)) (below_size zq14_8)); have n7_ := Aside0.mk (blk_below (g := gb613) (o := .cells #[.int .u8 a0_0, .int .u16 a0_1, .bool a0_2, .bool a0_3, .int .i64 a0_4, .int .u8 a0_5, .int .u8 a0_6, .int .u32 a0_7, .int .u32 a0_8, .slice A0_9 l0_9.length c0_9, .slice A0_10 l0_10.length c0_10] 43 (0, 0)) zq14_0 hb); have n8_ := Aside0.mk (blk_below (g := gb641) (o := .cells #[.int .u8 t625, .int .u16 t626, .bool t627, .bool t628, .int .i64 t629, .int .u8 t630, .int .u8 t631, .int .u32 t632, .int .u32 t633, .slice Ao92 t634.length co92] 41 (0, 0)) zq14_4 hb); have n9_ := Aside0.mk (Kd.C_below zq14_16 hb); have n10_ := Aside0.mk (below_step zq14_8 hb); clear HO_5; clear HO624; clear HO636; clear HO639; clear HO648; clear BK613; clear BK641; clear HR645; clear HB; have HO_5 := n0_; have HO624 := n1_; have HO636 := n2_; have HO639 := n3_; have HO648 := n4_; have HO660 := n5_; have HO663 := n6_; have BK613 := n7_; have BK641 := n8_; have HR645 := n9_; have HB := n10_; clear n0_ n1_ n2_ n3_ n4_ n5_ n6_ n7_ n8_ n9_ n10_; (try clear hb); (try clear hb2); (try clear hk); (try clear hi); (try clear ho0); (try clear ho1)) | ((with_reducible refine gate_dst (N := 11) rfl ?_); (try (refine gate_guard (by rfl) ?_; dsimp only)); refine box_event ?hg (N := 11) ?hd (cs := #[.int .u8 0, .int .u16 0, .bool false, .bool false, .int .i64 0, .int .u8 0, .int .u8 0, .int .u32 0, .int .u32 0, .slice none 0 0, .slice none 0 0]) (t := 43) ?hr ?_; (case hd => rfl); (case hg => rfl); (case hr => first | (go_simp; done) | (go_simp; rfl)); intro gb665 hg w98 hbox hb; have n0_ := Aside0.mk (Kd.R_below zq14_9 hb); have n1_ := Aside0.mk (Kd.R_below zq14_17 hb); have n2_ := Aside0.mk (Kd.V_below (Kd.V_elderB (by (with_reducible repeat (first | apply Kd.V_alloc | apply Kd.V_drewN | apply Kd.V_drew)); exact HO636.out) gb665 (Nat.le_of_eq hg.symm)) hb); have n3_ := Aside0.mk (Kd.V_below (Kd.V_elderB (by (with_reducible repeat (first | apply Kd.V_alloc | apply Kd.V_drewN | apply Kd.V_drew)); exact HO639.out) gb665 (Nat.le_of_eq hg.symm)) hb); have n4_ := Aside0.mk (Kd.R_below (by (with_reducible repeat (first | apply Kd.R_alloc | apply Kd.R_drewN | apply Kd.R_drew)); exact HO648.out) hb); have n5_ := Aside0.mk (Kd.V_below (Kd.V_elderB (by (with_reducible repeat (first | apply Kd.V_alloc | apply Kd.V_drewN | apply Kd.V_drew)); exact HO660.out) gb665 (Nat.le_of_eq hg.symm)) hb); have n6_ := Aside0.mk (Kd.V_below (Kd.V_elderB (by (with_reducible repeat (first | apply Kd.V_alloc | apply Kd.V_drewN | apply Kd.V_drew)); exact HO663.out) gb665 (Nat.le_of_eq hg.symm)) hb); have n7_ := Aside0.mk (blk_below (g := gb613) (o := .cells #[.int .u8 a0_0, .int .u16 a0_1, .bool a0_2, .bool a0_3, .int .i64 a0_4, .int .u8 a0_5, .int .u8 a0_6, .int .u32 a0_7, .int .u32 a0_8, .slice A0_9 l0_9.length c0_9, .slice A0_10 l0_10.length c0_10] 43 (0, 0)) zq14_0 hb); have n8_ := Aside0.mk (blk_below (g := gb641) (o := .cells #[.int .u8 t625, .int .u16 t626, .bool t627, .bool t628, .int .i64 t629, .int .u8 t630, .int .u8 t631, .int .u32 t632, .int .u32 t633, .slice Ao92 t634.length co92] 41 (0, 0)) zq14_4 hb); have n9_ := Aside0.mk (Kd.C_below zq14_16 hb); have n10_ := Aside0.mk (below_step zq14_8 hb); have n11_ := Aside0.mk (hbox); have n12_ := Aside0.mk ((by rw [hg]; exact (below_size zq14_8) : w.heap.size ≤ gb665)); have n13_ := Aside0.mk ((by rw [hg]; exact (below_size zq14_8) : w.heap.size ≤ gb665)); have n14_ := Aside0.mk ((by rw [hg]; exact Nat.ne_of_lt (blk_lt (g := gb613) (o := .cells #[.int .u8 a0_0, .int .u16 a0_1, .bool a0_2, .bool a0_3, .int .i64 a0_4, .int .u8 a0_5, .int .u8 a0_6, .int .u32 a0_7, .int .u32 a0_8, .slice A0_9 l0_9.length c0_9, .slice A0_10 l0_10.length c0_10] 43 (0, 0)) zq14_0) : gb613 ≠ gb665)); have n15_ := Aside0.mk ((by rw [hg]; exact Nat.ne_of_gt (blk_lt (g := gb613) (o := .cells #[.int .u8 a0_0, .int .u16 a0_1, .bool a0_2, .bool a0_3, .int .i64 a0_4, .int .u8 a0_5, .int .u8 a0_6, .int .u32 a0_7, .int .u32 a0_8, .slice A0_9 l0_9.length c0_9, .slice A0_10 l0_10.length c0_10] 43 (0, 0)) zq14_0) : gb665 ≠ gb613)); have n16_ := Aside0.mk ((by rw [hg]; exact Nat.ne_of_lt (blk_lt (g := gb641) (o := .cells #[.int .u8 t625, .int .u16 t626, .bool t627, .bool t628, .int .i64 t629, .int .u8 t630, .int .u8 t631, .int .u32 t632, .int .u32 t633, .slice Ao92 t634.length co92] 41 (0, 0)) zq14_4) : gb641 ≠ gb665)); have n17_ := Aside0.mk ((by rw [hg]; exact Nat.ne_of_gt (blk_lt (g := gb641) (o := .cells #[.int .u8 t625, .int .u16 t626, .bool t627, .bool t628, .int .i64 t629, .int .u8 t630, .int .u8 t631, .int .u32 t632, .int .u32 t633, .slice Ao92 t634.length co92] 41 (0, 0)) zq14_4) : gb665 ≠ gb641)); clear HO_5; clear HO624; clear HO636; clear HO639; clear HO648; clear HO660; clear HO663; clear BK613; clear BK641; clear HR645; clear HB; have HO_5 := n0_; have HO624 := n1_; have HO636 := n2_; have HO639 := n3_; have HO648 := n4_; have HO660 := n5_; have HO663 := n6_; have BK613 := n7_; have BK641 := n8_; have HR645 := n9_; have HB := n10_; have BK665 := n11_; have GW665 := n12_; have GE665 := n13_; have NB613_665 := n14_; have NB665_613 := n15_; have NB641_665 := n16_; have NB665_641 := n17_; clear n0_ n1_ n2_ n3_ n4_ n5_ n6_ n7_ n8_ n9_ n10_ n11_ n12_ n13_ n14_ n15_ n16_ n17_; clear hb hbox hg; have hnb99 := NB665_613.out; have hnc99 := NB613_665.out; have hnb100 := NB665_641.out; have hnc100 := NB641_665.out; have hcz101_0 : w98.cell? ⟨gb665, 0, none⟩ = some (.int .u8 0) := (blk_cell BK665.out 0).trans rfl; have hcz101_1 : w98.cell? ⟨gb665, 1, none⟩ = some (.int .u16 0) := (blk_cell BK665.out 1).trans rfl; have hcz101_2 : w98.cell? ⟨gb665, 2, none⟩ = some (.bool false) := (blk_cell BK665.out 2).trans rfl; have hcz101_3 : w98.cell? ⟨gb665, 3, none⟩ = some (.bool false) := (blk_cell BK665.out 3).trans rfl; have hcz101_4 : w98.cell? ⟨gb665, 4, none⟩ = some (.int .i64 0) := (blk_cell BK665.out 4).trans rfl; have hcz101_5 : w98.cell? ⟨gb665, 5, none⟩ = some (.int .u8 0) := (blk_cell BK665.out 5).trans rfl; have hcz101_6 : w98.cell? ⟨gb665, 6, none⟩ = some (.int .u8 0) := (blk_cell BK665.out 6).trans rfl; have hcz101_7 : w98.cell? ⟨gb665, 7, none⟩ = some (.int .u32 0) := (blk_cell BK665.out 7).trans rfl; have hcz101_8 : w98.cell? ⟨gb665, 8, none⟩ = some (.int .u32 0) := (blk_cell BK665.out 8).trans rfl; have hcz101_9 : w98.cell? ⟨gb665, 9, none⟩ = some (.slice none 0 0) := (blk_cell BK665.out 9).trans rfl; have hcz101_10 : w98.cell? ⟨gb665, 10, none⟩ = some (.slice none 0 0) := (blk_cell BK665.out 10).trans rfl; have hfz101_0 := blk_frozen BK665.out 0; have hfz101_1 := blk_frozen BK665.out 1; have hfz101_2 := blk_frozen BK665.out 2; have hfz101_3 := blk_frozen BK665.out 3; have hfz101_4 := blk_frozen BK665.out 4; have hfz101_5 := blk_frozen BK665.out 5; have hfz101_6 := blk_frozen BK665.out 6; have hfz101_7 := blk_frozen BK665.out 7; have hfz101_8 := blk_frozen BK665.out 8; have hfz101_9 := blk_frozen BK665.out 9; have hfz101_10 := blk_frozen BK665.out 10; obtain ⟨Ao102, co102, eo102⟩ := Kd.V_slice HO660.out; subst eo102; obtain ⟨Ao103, co103, eo103⟩ := Kd.V_slice HO663.out; subst eo103))
            by_cases c19 : x1_4 < (wrap64 (20 + (l0_9.length : Int)))
            · rw [if_pos c19] at H
              have c19b0 : decide (x1_4 < (wrap64 (20 + (l0_9.length : Int)))) = true := decide_eq_true c19
              clear c19
              (first | rw [c19b0] | (simp only [i64_w, i32_w]; rw [c19b0]) | skip)
              by_cases c20 : t640 = 30
              · rw [if_pos c20] at H
                have c20b0 : (t640 == 30) = true := beq_iff_eq.mpr c20
                have c20b1 : (t640 != 30) = false := bne_eq_false_iff_eq.mpr c20
                clear c20
                by_cases c21 : t664 = 30
                · rw [if_pos c21] at H
                  have c21b0 : (t664 == 30) = true := beq_iff_eq.mpr c21
                  have c21b1 : (t664 != 30) = false := bne_eq_false_iff_eq.mpr c21
                  clear c21
                  obtain rfl := Option.some.inj H
                  obtain ⟨Ao42, co42, eo42⟩ := Kd.V_slice HO639.out
                  subst eo42
                  go_wp2
                  go_ret
                  exact ⟨by first | rfl | (simp [errW_none, errW_some] <;> rfl) | (simp [*, errW_none, errW_some] <;> rfl), by repeat (first | (with_reducible first | exact HB.out | apply below_alloc | apply pw_below_drewN | apply below_drew1 | refine below_set ?_ GE613.out | refine below_set ?_ GE641.out | refine below_set ?_ GE665.out) | exact HB.out)⟩
                · rw [if_neg c21] at H
                  have c21b0 : (t664 == 30) = false := beq_eq_false_iff_ne.mpr c21
                  have c21b1 : (t664 != 30) = true := bne_iff_ne.mpr c21
                  obtain rfl := Option.some.inj H
                  go_wp2
                  go_ret
                  exact ⟨by first | rfl | (simp [errW_none, errW_some] <;> rfl) | (simp [*, errW_none, errW_some] <;> rfl), by repeat (first | (with_reducible first | exact HB.out | apply below_alloc | apply pw_below_drewN | apply below_drew1 | refine below_set ?_ GE613.out | refine below_set ?_ GE641.out | refine below_set ?_ GE665.out) | exact HB.out)⟩
              · rw [if_neg c20] at H
                have c20b0 : (t640 == 30) = false := beq_eq_false_iff_ne.mpr c20
                have c20b1 : (t640 != 30) = true := bne_iff_ne.mpr c20
                obtain rfl := Option.some.inj H
                go_wp2
                go_ret
                exact ⟨by first | rfl | (simp [errW_none, errW_some] <;> rfl) | (simp [*, errW_none, errW_some] <;> rfl), by repeat (first | (with_reducible first | exact HB.out | apply below_alloc | apply pw_below_drewN | apply below_drew1 | refine below_set ?_ GE613.out | refine below_set ?_ GE641.out | refine below_set ?_ GE665.out) | exact HB.out)⟩
            · rw [if_neg c19] at H
              have c19b0 : decide (x1_4 < (wrap64 (20 + (l0_9.length : Int)))) = false := decide_eq_false c19
              clear c19
              (first | rw [c19b0] | (simp only [i64_w, i32_w]; rw [c19b0]) | skip)
              have HC83 := Aside0.mk H
              clear H
              go_upto_region 11 with (fail)
              (try simp only [Act.put, List.setIfInBounds_toArray, List.set_cons_zero, List.set_cons_succ])
              go_cut [82] (fun v82 wc => ∃ (kq : Nat) (x82_82 : Bool), v82 = .bool x82_82 ∧ Aside0 (weftlaw3_cutoff.j1 kq x1_4 t614 t664 x82_82 a0_0 a0_1 a0_2 a0_3 a0_4 a0_5 a0_6 a0_7 a0_8 l0_9 l0_10 t649 t650 t651 t652 t653 t654 t655 t656 t657 t658 t661 = some r) ∧ Aside0 (kq ≤ kj4) ∧ Aside0 (Kd.R (Kd.int .u8) 5 wc w.heap.size (fun _ => True) (.slice Ao9 t614.length co9) t614) ∧ Aside0 (Kd.V (Kd.int .u8) 5 wc w.heap.size (fun k_ => some k_ ≠ ((.slice Ao9 t614.length co9) : Value).ownBlock ∧ k_ ≠ gb613 ∧ k_ ≠ gb641 ∧ k_ ≠ gb665) (.slice Ao92 t634.length co92) t634) ∧ Aside0 (Kd.V (Kd.int .u8) 5 wc w.heap.size (fun k_ => some k_ ≠ ((.slice Ao9 t614.length co9) : Value).ownBlock ∧ k_ ≠ gb613 ∧ k_ ≠ gb641 ∧ k_ ≠ gb665) (.slice Ao102 t658.length co102) t658) ∧ Aside0 (Kd.V (Kd.int .u8) 5 wc w.heap.size (fun k_ => some k_ ≠ ((.slice Ao9 t614.length co9) : Value).ownBlock ∧ k_ ≠ gb613 ∧ k_ ≠ gb641 ∧ k_ ≠ gb665) (.slice Ao103 t661.length co103) t661) ∧ Aside0 (wc.heap[gb613]? = some (.cells #[.int .u8 a0_0, .int .u16 a0_1, .bool a0_2, .bool a0_3, .int .i64 a0_4, .int .u8 a0_5, .int .u8 a0_6, .int .u32 a0_7, .int .u32 a0_8, (.slice A0_9 l0_9.length c0_9), (.slice A0_10 l0_10.length c0_10)] 43 (0, 0))) ∧ Aside0 (wc.heap[gb641]? = some (.cells #[.int .u8 t625, .int .u16 t626, .bool t627, .bool t628, .int .i64 t629, .int .u8 t630, .int .u8 t631, .int .u32 t632, .int .u32 t633, (.slice Ao92 t634.length co92)] 41 (0, 0))) ∧ Aside0 (wc.heap[gb665]? = some (.cells #[.int .u8 t649, .int .u16 t650, .bool t651, .bool t652, .int .i64 t653, .int .u8 t654, .int .u8 t655, .int .u32 t656, .int .u32 t657, (.slice Ao102 t658.length co102), (.slice Ao103 t661.length co103)] 43 (0, 0))) ∧ Aside0 (Kd.C (Kd.int .u8) wc Ao9 y642.length y642) ∧ Aside0 (Below w.heap.size w wc))
              case first =>
                have H := HC83.out
                clear HC83
                by_cases c104 : t640 = 0
                · rw [if_pos c104] at H
                  have c104b0 : (t640 == 0) = true := beq_iff_eq.mpr c104
                  have c104b1 : (t640 != 0) = false := bne_eq_false_iff_eq.mpr c104
                  clear c104
                  (first | rw [c104b0] | (simp only [i64_w, i32_w]; rw [c104b0]) | skip)
                  replace H := Option.bind_eq_some_iff.mp H
                  obtain ⟨t666, A1050, H⟩ := H
                  replace H : (if t666 = true then (if 0 ≤ (wrap64 (20 + (l0_9.length : Int))) then (if (wrap64 (20 + (l0_9.length : Int))) ≤ x1_4 then ((weftlaw3_same.f kj4 t637 ((t614.take (x1_4 : Int).toNat).drop ((wrap64 (20 + (l0_9.length : Int))) : Int).toNat)).bind fun t671 => (weftlaw3_cutoff.j1 kj4 x1_4 t614 t664 (!t671) a0_0 a0_1 a0_2 a0_3 a0_4 a0_5 a0_6 a0_7 a0_8 l0_9 l0_10 t649 t650 t651 t652 t653 t654 t655 t656 t657 t658 t661)) else (none)) else (none)) else (weftlaw3_cutoff.j1 kj4 x1_4 t614 t664 true a0_0 a0_1 a0_2 a0_3 a0_4 a0_5 a0_6 a0_7 a0_8 l0_9 l0_10 t649 t650 t651 t652 t653 t654 t655 t656 t657 t658 t661)) = some r := H
                  have A105 := Aside0.mk A1050
                  clear A1050
                  by_cases c106 : t666 = true
                  · subst c106
                    have H1 : (if 0 ≤ (wrap64 (20 + (l0_9.length : Int))) then (if (wrap64 (20 + (l0_9.length : Int))) ≤ x1_4 then ((weftlaw3_same.f kj4 t637 ((t614.take (x1_4 : Int).toNat).drop ((wrap64 (20 + (l0_9.length : Int))) : Int).toNat)).bind fun t671 => (weftlaw3_cutoff.j1 kj4 x1_4 t614 t664 (!t671) a0_0 a0_1 a0_2 a0_3 a0_4 a0_5 a0_6 a0_7 a0_8 l0_9 l0_10 t649 t650 t651 t652 t653 t654 t655 t656 t657 t658 t661)) else (none)) else (none)) = some r := by rw [if_pos rfl] at H; exact H
                    clear H
                    have H := H1
                    clear H1
                    obtain ⟨ji107, hji107⟩ : ∃ j_ : Int, (wrap64 (20 + (l0_9.length : Int))) = j_ := ⟨_, rfl⟩
                    replace H : (if 0 ≤ (ji107) then (if (ji107) ≤ x1_4 then ((weftlaw3_same.f kj4 t637 ((t614.take (x1_4 : Int).toNat).drop ((ji107) : Int).toNat)).bind fun t671 => (weftlaw3_cutoff.j1 kj4 x1_4 t614 t664 (!t671) a0_0 a0_1 a0_2 a0_3 a0_4 a0_5 a0_6 a0_7 a0_8 l0_9 l0_10 t649 t650 t651 t652 t653 t654 t655 t656 t657 t658 t661)) else (none)) else (none)) = some r := by first | (rw [hji107] at H; exact H) | (simp only [hji107] at H ⊢; exact H)
                    (try rw [hji107] at c19b0)
                    (try rw [hji107] at A105)
                    have hji107w : (IntKind.i64.wrap (20 + (l0_9.length : Int))) = ji107 := (i64_w _).trans hji107
                    by_cases c108 : 0 ≤ (ji107)
                    · rw [if_pos c108] at H
                      have c108b0 := eq_true c108
                      have c108b1 : decide (0 ≤ (ji107)) = true := decide_eq_true c108
                      clear c108
                      by_cases c109 : (ji107) ≤ x1_4
                      · rw [if_pos c109] at H
                        have c109b0 := eq_true c109
                        have c109b1 : decide ((ji107) ≤ x1_4) = true := decide_eq_true c109
                        clear c109
                        have c110b0 := eq_true (of_decide_eq_true (by first | (with_reducible assumption) | assumption) : x1_4 ≤ (t614.length : Int))
                        obtain ⟨y667, hy667⟩ : ∃ y_ : List Int, y_ = ((t614.take (x1_4 : Int).toNat).drop ((ji107) : Int).toNat) := ⟨_, rfl⟩
                        replace H : ((weftlaw3_same.f kj4 t637 y667).bind fun t671 => (weftlaw3_cutoff.j1 kj4 x1_4 t614 t664 (!t671) a0_0 a0_1 a0_2 a0_3 a0_4 a0_5 a0_6 a0_7 a0_8 l0_9 l0_10 t649 t650 t651 t652 t653 t654 t655 t656 t657 t658 t661)) = some r := by first | (rw [hy667]; with_reducible exact H) | (have H2_ := (Option.bind_some _ _).symm.trans H; rw [hy667]; with_reducible exact H2_) | (have H2_ := (Option.bind_some _ _).symm.trans H; with_reducible exact H2_) | with_reducible exact H | (rw [hy667]; exact H) | exact H
                        have Ny667 := Aside0.mk hy667
                        clear hy667
                        replace H := Option.bind_eq_some_iff.mp H
                        obtain ⟨t671, A1110, H⟩ := H
                        replace H : (weftlaw3_cutoff.j1 kj4 x1_4 t614 t664 (!t671) a0_0 a0_1 a0_2 a0_3 a0_4 a0_5 a0_6 a0_7 a0_8 l0_9 l0_10 t649 t650 t651 t652 t653 t654 t655 t656 t657 t658 t661) = some r := H
                        have A111 := Aside0.mk A1110
                        clear A1110
                        have H' := Aside0.mk H
                        clear H
                        have hnb112 := NB641_613.out
                        have hnc112 := NB613_641.out
                        have hnb113 := NB641_665.out
                        have hnc113 := NB665_641.out
                        have hcz114_0 : w98.cell? ⟨gb641, 0, none⟩ = some (.int .u8 t625) := (blk_cell BK641.out 0).trans rfl
                        have hcz114_1 : w98.cell? ⟨gb641, 1, none⟩ = some (.int .u16 t626) := (blk_cell BK641.out 1).trans rfl
                        have hcz114_2 : w98.cell? ⟨gb641, 2, none⟩ = some (.bool t627) := (blk_cell BK641.out 2).trans rfl
                        have hcz114_3 : w98.cell? ⟨gb641, 3, none⟩ = some (.bool t628) := (blk_cell BK641.out 3).trans rfl
                        have hcz114_4 : w98.cell? ⟨gb641, 4, none⟩ = some (.int .i64 t629) := (blk_cell BK641.out 4).trans rfl
                        have hcz114_5 : w98.cell? ⟨gb641, 5, none⟩ = some (.int .u8 t630) := (blk_cell BK641.out 5).trans rfl
                        have hcz114_6 : w98.cell? ⟨gb641, 6, none⟩ = some (.int .u8 t631) := (blk_cell BK641.out 6).trans rfl
                        have hcz114_7 : w98.cell? ⟨gb641, 7, none⟩ = some (.int .u32 t632) := (blk_cell BK641.out 7).trans rfl
                        have hcz114_8 : w98.cell? ⟨gb641, 8, none⟩ = some (.int .u32 t633) := (blk_cell BK641.out 8).trans rfl
                        have hcz114_9 : w98.cell? ⟨gb641, 9, none⟩ = some (.slice Ao92 t634.length co92) := (blk_cell BK641.out 9).trans rfl
                        have hfz114_0 := blk_frozen BK641.out 0
                        have hfz114_1 := blk_frozen BK641.out 1
                        have hfz114_2 := blk_frozen BK641.out 2
                        have hfz114_3 := blk_frozen BK641.out 3
                        have hfz114_4 := blk_frozen BK641.out 4
                        have hfz114_5 := blk_frozen BK641.out 5
                        have hfz114_6 := blk_frozen BK641.out 6
                        have hfz114_7 := blk_frozen BK641.out 7
                        have hfz114_8 := blk_frozen BK641.out 8
                        have hfz114_9 := blk_frozen BK641.out 9
                        have hnb115 := NB613_665.out
                        have hnc115 := NB665_613.out
                        have hcz116_0 : w98.cell? ⟨gb613, 0, none⟩ = some (.int .u8 a0_0) := (blk_cell BK613.out 0).trans rfl
                        have hcz116_1 : w98.cell? ⟨gb613, 1, none⟩ = some (.int .u16 a0_1) := (blk_cell BK613.out 1).trans rfl
                        have hcz116_2 : w98.cell? ⟨gb613, 2, none⟩ = some (.bool a0_2) := (blk_cell BK613.out 2).trans rfl
                        have hcz116_3 : w98.cell? ⟨gb613, 3, none⟩ = some (.bool a0_3) := (blk_cell BK613.out 3).trans rfl
                        have hcz116_4 : w98.cell? ⟨gb613, 4, none⟩ = some (.int .i64 a0_4) := (blk_cell BK613.out 4).trans rfl
                        have hcz116_5 : w98.cell? ⟨gb613, 5, none⟩ = some (.int .u8 a0_5) := (blk_cell BK613.out 5).trans rfl
                        have hcz116_6 : w98.cell? ⟨gb613, 6, none⟩ = some (.int .u8 a0_6) := (blk_cell BK613.out 6).trans rfl
                        have hcz116_7 : w98.cell? ⟨gb613, 7, none⟩ = some (.int .u32 a0_7) := (blk_cell BK613.out 7).trans rfl
                        have hcz116_8 : w98.cell? ⟨gb613, 8, none⟩ = some (.int .u32 a0_8) := (blk_cell BK613.out 8).trans rfl
                        have hcz116_9 : w98.cell? ⟨gb613, 9, none⟩ = some (.slice A0_9 l0_9.length c0_9) := (blk_cell BK613.out 9).trans rfl
                        have hcz116_10 : w98.cell? ⟨gb613, 10, none⟩ = some (.slice A0_10 l0_10.length c0_10) := (blk_cell BK613.out 10).trans rfl
                        have hfz116_0 := blk_frozen BK613.out 0
                        have hfz116_1 := blk_frozen BK613.out 1
                        have hfz116_2 := blk_frozen BK613.out 2
                        have hfz116_3 := blk_frozen BK613.out 3
                        have hfz116_4 := blk_frozen BK613.out 4
                        have hfz116_5 := blk_frozen BK613.out 5
                        have hfz116_6 := blk_frozen BK613.out 6
                        have hfz116_7 := blk_frozen BK613.out 7
                        have hfz116_8 := blk_frozen BK613.out 8
                        have hfz116_9 := blk_frozen BK613.out 9
                        have hfz116_10 := blk_frozen BK613.out 10
                        go_wp2_with (first | (go_at_call 50; (with_reducible refine (weftlaw3_heads.calls kj4 t625 t626 t627 t628 t629 t630 t631 t632 t633 _ _ t634 a0_0 a0_1 a0_2 a0_3 a0_4 a0_5 a0_6 a0_7 a0_8 _ _ l0_9 true _ ?side1 ?side2 ?side3 ?side4 A105.out).mono ?_); (case side1 => refine (Kd.V_reads' (e := 5) (base := w.heap.size) (ok := fun k_ => (((some k_ ≠ (.slice Ao9 t614.length co9 : Value).ownBlock ∧ (some k_ ≠ (.slice Ao87 t622.length co87 : Value).ownBlock ∧ (k_ ≠ gb613 ∧ k_ ≠ gb641))) ∧ some k_ ≠ (.slice Ao96 t646.length co96 : Value).ownBlock) ∧ k_ ≠ gb665)) (n := t634.length) (c := co92) ?_).2.2; exact zq14_3); (case side2 => exact (Kd.V_reads' HO636.out).2.1); (case side3 => exact Kd.C_below HR0_9.out zq14_10); (case side4 => exact HC0_9.out); rintro e w117 ⟨rfl, hb⟩; have n0_ := Aside0.mk (Kd.R_below zq14_1 hb); have n1_ := Aside0.mk (Kd.R_below zq14_14 hb); have n2_ := Aside0.mk (Kd.V_below zq14_3 hb); have n3_ := Aside0.mk (Kd.V_below zq14_11 hb); have n4_ := Aside0.mk (Kd.R_below zq14_15 hb); have n5_ := Aside0.mk (Kd.V_below zq14_12 hb); have n6_ := Aside0.mk (Kd.V_below zq14_13 hb); have n7_ := Aside0.mk (blk_below (g := gb613) (o := .cells #[.int .u8 a0_0, .int .u16 a0_1, .bool a0_2, .bool a0_3, .int .i64 a0_4, .int .u8 a0_5, .int .u8 a0_6, .int .u32 a0_7, .int .u32 a0_8, .slice A0_9 l0_9.length c0_9, .slice A0_10 l0_10.length c0_10] 43 (0, 0)) zq14_6 hb); have n8_ := Aside0.mk (blk_below (g := gb641) (o := .cells #[.int .u8 t625, .int .u16 t626, .bool t627, .bool t628, .int .i64 t629, .int .u8 t630, .int .u8 t631, .int .u32 t632, .int .u32 t633, .slice Ao92 t634.length co92] 41 (0, 0)) zq14_7 hb); have n9_ := Aside0.mk (Kd.C_below (show Kd.C (Kd.int .u8) _ Ao9 y642.length y642 from by rw [Ny642.out]; exact Kd.C_take (m := (x1_4 : Int).toNat) ((Kd.R_reads' zq14_1).2.2) KL94.out) hb); have n10_ := Aside0.mk (blk_below (g := gb665) (o := .cells #[.int .u8 t649, .int .u16 t650, .bool t651, .bool t652, .int .i64 t653, .int .u8 t654, .int .u8 t655, .int .u32 t656, .int .u32 t657, .slice Ao102 t658.length co102, .slice Ao103 t661.length co103] 43 (0, 0)) zq14_2 hb); have n11_ := Aside0.mk (below_step zq14_10 hb); clear HO_5; clear HO624; clear HO636; clear HO639; clear HO648; clear HO660; clear HO663; clear BK613; clear BK641; clear HR645; clear BK665; clear HB; have HO_5 := n0_; have HO624 := n1_; have HO636 := n2_; have HO639 := n3_; have HO648 := n4_; have HO660 := n5_; have HO663 := n6_; have BK613 := n7_; have BK641 := n8_; have HR645 := n9_; have BK665 := n10_; have HB := n11_; clear n0_ n1_ n2_ n3_ n4_ n5_ n6_ n7_ n8_ n9_ n10_ n11_; (try clear hb); (try clear hb2); (try clear hk); (try clear hi); have q118 : (x1_4 : Int) ≤ ((t614.length : Int) : Int) := of_decide_eq_true (by first | (with_reducible assumption) | assumption); obtain ⟨i0118, hi0118, _, hsz118, _⟩ := info_parts info5; have hroom118 : t614.length ≤ co9 := (Kd.R_reads' HO_5.out).2.1; have hC118 : Kd.C (Kd.int .u8) _ Ao9 t614.length t614 := (Kd.R_reads' HO_5.out).2.2; have ql118 : ((ji107) : Int) ≤ (x1_4 : Int) := of_decide_eq_true (by first | (with_reducible assumption) | assumption); have q0118 : (0 : Int) ≤ ((ji107) : Int) := of_decide_eq_true (by first | (with_reducible assumption) | assumption); have hcut118 := cut_mid (P := Try.prog) 24 5 .i64 .i64 Try.underlying24 hi0118 1 hsz118 Ao9 t614.length co9 (ji107) x1_4 q0118 ql118 q118 hroom118; have hr118 := Kd.C_mid (lo := ((ji107) : Int).toNat) (hi := (x1_4 : Int).toNat) (c := co9) hC118 (by omega) (by omega) hroom118; obtain ⟨A118, hA118⟩ : ∃ A1, A1 = (if co9 = ((ji107) : Int).toNat then Ao9 else (Ao9 : Option Addr).map (·.add (((ji107) : Int).toNat * 1))) := ⟨_, rfl⟩; obtain ⟨c118, hc118⟩ : ∃ c1, c1 = co9 - ((ji107) : Int).toNat := ⟨_, rfl⟩; have hy118 : y667.length = (x1_4 : Int).toNat - ((ji107) : Int).toNat := (by rw [Ny667.out, List.length_drop, List.length_take] <;> omega); rw [show ((t614).take (x1_4 : Int).toNat).drop ((ji107) : Int).toNat = y667 from Ny667.out.symm] at hr118; replace hr118 : Kd.C (Kd.int .u8) _ A118 y667.length y667 := (by rw [hA118]; exact hr118); rw [← hy118, ← hA118, ← hc118] at hcut118; have HR670 := Aside0.mk hr118; have HC670 := Aside0.mk (show y667.length ≤ c118 from by rw [hy118, hc118]; exact Nat.sub_le_sub_right (Nat.le_trans (by omega) hroom118) _); clear hr118 hC118 hroom118 hi0118 hsz118 hc118; have KY118 := Aside0.mk hy118; have KA118 := Aside0.mk hA118; clear hy118 hA118; have KL118 := Aside0.mk (show (x1_4 : Int).toNat ≤ t614.length from by omega); have KM118 := Aside0.mk (show ((ji107) : Int).toNat ≤ (x1_4 : Int).toNat from by omega); replace q118 := eq_true q118; obtain ⟨Ao119, co119, eo119⟩ := Kd.V_slice HO639.out; subst eo119) | (go_at_call 21; (with_reducible refine (weftlaw3_same.calls kj4 _ _ t637 _ _ y667 t671 _ ?side1 ?side2 ?side3 ?side4 A111.out).mono ?_); (case side1 => repeat (first | exact (Kd.V_reads' HO639.out).2.2 | (with_reducible refine Kd.C_alloc ?_ _) | (with_reducible refine Kd.C_drewN ?_ _) | (with_reducible refine Kd.C_drew ?_))); (case side2 => exact (Kd.V_reads' HO639.out).2.1); (case side3 => repeat (first | exact (by repeat (first | (with_reducible exact HR670.out) | (with_reducible refine Kd.C_alloc ?_ _) | (with_reducible refine Kd.C_drewN ?_ _) | (with_reducible refine Kd.C_drew ?_) | exact HR670.out)) | (with_reducible refine Kd.C_alloc ?_ _) | (with_reducible refine Kd.C_drewN ?_ _) | (with_reducible refine Kd.C_drew ?_))); (case side4 => exact HC670.out); rintro e w' ⟨rfl, ⟨nd, rfl⟩⟩))
                        (first | go_meet | (simp only [← hji107]; go_meet))
                        case rel => exact ⟨_, (!t671), (by first | rfl | (simp; done) | (simp [*]; done)), H', ⟨by have := HJ4.out; first | omega | exact Nat.le_refl _⟩, ⟨by (with_reducible repeat (first | apply Kd.R_alloc | apply Kd.R_drewN | apply Kd.R_drew)); exact Kd.R_mono HO_5.out (fun _ hk => trivial)⟩, ⟨by (with_reducible repeat (first | apply Kd.V_alloc | apply Kd.V_drewN | apply Kd.V_drew)); exact Kd.V_mono HO636.out (fun _ hk => ⟨hk.1.1.1, ⟨hk.1.1.2.2.1, ⟨hk.1.1.2.2.2, hk.2⟩⟩⟩)⟩, ⟨by (with_reducible repeat (first | apply Kd.V_alloc | apply Kd.V_drewN | apply Kd.V_drew)); exact Kd.V_mono HO660.out (fun _ hk => ⟨hk.1.1, ⟨hk.1.2.2.2.1, ⟨hk.1.2.2.2.2, hk.2⟩⟩⟩)⟩, ⟨by (with_reducible repeat (first | apply Kd.V_alloc | apply Kd.V_drewN | apply Kd.V_drew)); exact Kd.V_mono HO663.out (fun _ hk => ⟨hk.1.1, ⟨hk.1.2.2.2.1, ⟨hk.1.2.2.2.2, hk.2⟩⟩⟩)⟩, ⟨by first | (with_reducible exact BK613.out) | (with_reducible exact blk_drewN BK613.out _) | (with_reducible exact blk_drew BK613.out) | ((with_reducible repeat (first | refine blk_drewN ?_ _ | refine blk_drew ?_ | refine blk_alloc ?_ _)); exact BK613.out)⟩, ⟨by first | (with_reducible exact BK641.out) | (with_reducible exact blk_drewN BK641.out _) | (with_reducible exact blk_drew BK641.out) | ((with_reducible repeat (first | refine blk_drewN ?_ _ | refine blk_drew ?_ | refine blk_alloc ?_ _)); exact BK641.out)⟩, ⟨by first | (with_reducible exact BK665.out) | (with_reducible exact blk_drewN BK665.out _) | (with_reducible exact blk_drew BK665.out) | ((with_reducible repeat (first | refine blk_drewN ?_ _ | refine blk_drew ?_ | refine blk_alloc ?_ _)); exact BK665.out)⟩, ⟨by repeat (first | (with_reducible exact HR645.out) | (with_reducible refine Kd.C_alloc ?_ _) | (with_reducible refine Kd.C_drewN ?_ _) | (with_reducible refine Kd.C_drew ?_) | exact HR645.out)⟩, ⟨by repeat (first | (with_reducible first | exact HB.out | apply below_alloc | apply pw_below_drewN | apply below_drew1 | refine below_set ?_ GE613.out | refine below_set ?_ GE641.out | refine below_set ?_ GE665.out) | exact HB.out)⟩⟩
                      · rw [if_neg c109] at H
                        exact absurd H (by simp)
                    · rw [if_neg c108] at H
                      exact absurd H (by simp)
                  · replace c106 := Bool.eq_false_iff.mpr c106
                    subst c106
                    have H1 : (weftlaw3_cutoff.j1 kj4 x1_4 t614 t664 true a0_0 a0_1 a0_2 a0_3 a0_4 a0_5 a0_6 a0_7 a0_8 l0_9 l0_10 t649 t650 t651 t652 t653 t654 t655 t656 t657 t658 t661) = some r := by rw [if_neg (show ¬ (false = true) by decide)] at H; exact H
                    clear H
                    have H := H1
                    clear H1
                    have H' := Aside0.mk H
                    clear H
                    have hnb120 := NB641_613.out
                    have hnc120 := NB613_641.out
                    have hnb121 := NB641_665.out
                    have hnc121 := NB665_641.out
                    have hcz122_0 : w98.cell? ⟨gb641, 0, none⟩ = some (.int .u8 t625) := (blk_cell BK641.out 0).trans rfl
                    have hcz122_1 : w98.cell? ⟨gb641, 1, none⟩ = some (.int .u16 t626) := (blk_cell BK641.out 1).trans rfl
                    have hcz122_2 : w98.cell? ⟨gb641, 2, none⟩ = some (.bool t627) := (blk_cell BK641.out 2).trans rfl
                    have hcz122_3 : w98.cell? ⟨gb641, 3, none⟩ = some (.bool t628) := (blk_cell BK641.out 3).trans rfl
                    have hcz122_4 : w98.cell? ⟨gb641, 4, none⟩ = some (.int .i64 t629) := (blk_cell BK641.out 4).trans rfl
                    have hcz122_5 : w98.cell? ⟨gb641, 5, none⟩ = some (.int .u8 t630) := (blk_cell BK641.out 5).trans rfl
                    have hcz122_6 : w98.cell? ⟨gb641, 6, none⟩ = some (.int .u8 t631) := (blk_cell BK641.out 6).trans rfl
                    have hcz122_7 : w98.cell? ⟨gb641, 7, none⟩ = some (.int .u32 t632) := (blk_cell BK641.out 7).trans rfl
                    have hcz122_8 : w98.cell? ⟨gb641, 8, none⟩ = some (.int .u32 t633) := (blk_cell BK641.out 8).trans rfl
                    have hcz122_9 : w98.cell? ⟨gb641, 9, none⟩ = some (.slice Ao92 t634.length co92) := (blk_cell BK641.out 9).trans rfl
                    have hfz122_0 := blk_frozen BK641.out 0
                    have hfz122_1 := blk_frozen BK641.out 1
                    have hfz122_2 := blk_frozen BK641.out 2
                    have hfz122_3 := blk_frozen BK641.out 3
                    have hfz122_4 := blk_frozen BK641.out 4
                    have hfz122_5 := blk_frozen BK641.out 5
                    have hfz122_6 := blk_frozen BK641.out 6
                    have hfz122_7 := blk_frozen BK641.out 7
                    have hfz122_8 := blk_frozen BK641.out 8
                    have hfz122_9 := blk_frozen BK641.out 9
                    have hnb123 := NB613_665.out
                    have hnc123 := NB665_613.out
                    have hcz124_0 : w98.cell? ⟨gb613, 0, none⟩ = some (.int .u8 a0_0) := (blk_cell BK613.out 0).trans rfl
                    have hcz124_1 : w98.cell? ⟨gb613, 1, none⟩ = some (.int .u16 a0_1) := (blk_cell BK613.out 1).trans rfl
                    have hcz124_2 : w98.cell? ⟨gb613, 2, none⟩ = some (.bool a0_2) := (blk_cell BK613.out 2).trans rfl
                    have hcz124_3 : w98.cell? ⟨gb613, 3, none⟩ = some (.bool a0_3) := (blk_cell BK613.out 3).trans rfl
                    have hcz124_4 : w98.cell? ⟨gb613, 4, none⟩ = some (.int .i64 a0_4) := (blk_cell BK613.out 4).trans rfl
                    have hcz124_5 : w98.cell? ⟨gb613, 5, none⟩ = some (.int .u8 a0_5) := (blk_cell BK613.out 5).trans rfl
                    have hcz124_6 : w98.cell? ⟨gb613, 6, none⟩ = some (.int .u8 a0_6) := (blk_cell BK613.out 6).trans rfl
                    have hcz124_7 : w98.cell? ⟨gb613, 7, none⟩ = some (.int .u32 a0_7) := (blk_cell BK613.out 7).trans rfl
                    have hcz124_8 : w98.cell? ⟨gb613, 8, none⟩ = some (.int .u32 a0_8) := (blk_cell BK613.out 8).trans rfl
                    have hcz124_9 : w98.cell? ⟨gb613, 9, none⟩ = some (.slice A0_9 l0_9.length c0_9) := (blk_cell BK613.out 9).trans rfl
                    have hcz124_10 : w98.cell? ⟨gb613, 10, none⟩ = some (.slice A0_10 l0_10.length c0_10) := (blk_cell BK613.out 10).trans rfl
                    have hfz124_0 := blk_frozen BK613.out 0
                    have hfz124_1 := blk_frozen BK613.out 1
                    have hfz124_2 := blk_frozen BK613.out 2
                    have hfz124_3 := blk_frozen BK613.out 3
                    have hfz124_4 := blk_frozen BK613.out 4
                    have hfz124_5 := blk_frozen BK613.out 5
                    have hfz124_6 := blk_frozen BK613.out 6
                    have hfz124_7 := blk_frozen BK613.out 7
                    have hfz124_8 := blk_frozen BK613.out 8
                    have hfz124_9 := blk_frozen BK613.out 9
                    have hfz124_10 := blk_frozen BK613.out 10
                    go_wp2_with (first | (go_at_call 50; (with_reducible refine (weftlaw3_heads.calls kj4 t625 t626 t627 t628 t629 t630 t631 t632 t633 _ _ t634 a0_0 a0_1 a0_2 a0_3 a0_4 a0_5 a0_6 a0_7 a0_8 _ _ l0_9 false _ ?side1 ?side2 ?side3 ?side4 A105.out).mono ?_); (case side1 => refine (Kd.V_reads' (e := 5) (base := w.heap.size) (ok := fun k_ => (((some k_ ≠ (.slice Ao9 t614.length co9 : Value).ownBlock ∧ (some k_ ≠ (.slice Ao87 t622.length co87 : Value).ownBlock ∧ (k_ ≠ gb613 ∧ k_ ≠ gb641))) ∧ some k_ ≠ (.slice Ao96 t646.length co96 : Value).ownBlock) ∧ k_ ≠ gb665)) (n := t634.length) (c := co92) ?_).2.2; exact zq14_3); (case side2 => exact (Kd.V_reads' HO636.out).2.1); (case side3 => exact Kd.C_below HR0_9.out zq14_10); (case side4 => exact HC0_9.out); rintro e w125 ⟨rfl, hb⟩; have n0_ := Aside0.mk (Kd.R_below zq14_1 hb); have n1_ := Aside0.mk (Kd.R_below zq14_14 hb); have n2_ := Aside0.mk (Kd.V_below zq14_3 hb); have n3_ := Aside0.mk (Kd.V_below zq14_11 hb); have n4_ := Aside0.mk (Kd.R_below zq14_15 hb); have n5_ := Aside0.mk (Kd.V_below zq14_12 hb); have n6_ := Aside0.mk (Kd.V_below zq14_13 hb); have n7_ := Aside0.mk (blk_below (g := gb613) (o := .cells #[.int .u8 a0_0, .int .u16 a0_1, .bool a0_2, .bool a0_3, .int .i64 a0_4, .int .u8 a0_5, .int .u8 a0_6, .int .u32 a0_7, .int .u32 a0_8, .slice A0_9 l0_9.length c0_9, .slice A0_10 l0_10.length c0_10] 43 (0, 0)) zq14_6 hb); have n8_ := Aside0.mk (blk_below (g := gb641) (o := .cells #[.int .u8 t625, .int .u16 t626, .bool t627, .bool t628, .int .i64 t629, .int .u8 t630, .int .u8 t631, .int .u32 t632, .int .u32 t633, .slice Ao92 t634.length co92] 41 (0, 0)) zq14_7 hb); have n9_ := Aside0.mk (Kd.C_below (show Kd.C (Kd.int .u8) _ Ao9 y642.length y642 from by rw [Ny642.out]; exact Kd.C_take (m := (x1_4 : Int).toNat) ((Kd.R_reads' zq14_1).2.2) KL94.out) hb); have n10_ := Aside0.mk (blk_below (g := gb665) (o := .cells #[.int .u8 t649, .int .u16 t650, .bool t651, .bool t652, .int .i64 t653, .int .u8 t654, .int .u8 t655, .int .u32 t656, .int .u32 t657, .slice Ao102 t658.length co102, .slice Ao103 t661.length co103] 43 (0, 0)) zq14_2 hb); have n11_ := Aside0.mk (below_step zq14_10 hb); clear HO_5; clear HO624; clear HO636; clear HO639; clear HO648; clear HO660; clear HO663; clear BK613; clear BK641; clear HR645; clear BK665; clear HB; have HO_5 := n0_; have HO624 := n1_; have HO636 := n2_; have HO639 := n3_; have HO648 := n4_; have HO660 := n5_; have HO663 := n6_; have BK613 := n7_; have BK641 := n8_; have HR645 := n9_; have BK665 := n10_; have HB := n11_; clear n0_ n1_ n2_ n3_ n4_ n5_ n6_ n7_ n8_ n9_ n10_ n11_; (try clear hb); (try clear hb2); (try clear hk); (try clear hi)))
                    go_meet
                    case rel => exact ⟨_, (true), (by first | rfl | (simp; done) | (simp [*]; done)), H', ⟨by have := HJ4.out; first | omega | exact Nat.le_refl _⟩, ⟨by (with_reducible repeat (first | apply Kd.R_alloc | apply Kd.R_drewN | apply Kd.R_drew)); exact Kd.R_mono HO_5.out (fun _ hk => trivial)⟩, ⟨by (with_reducible repeat (first | apply Kd.V_alloc | apply Kd.V_drewN | apply Kd.V_drew)); exact Kd.V_mono HO636.out (fun _ hk => ⟨hk.1.1.1, ⟨hk.1.1.2.2.1, ⟨hk.1.1.2.2.2, hk.2⟩⟩⟩)⟩, ⟨by (with_reducible repeat (first | apply Kd.V_alloc | apply Kd.V_drewN | apply Kd.V_drew)); exact Kd.V_mono HO660.out (fun _ hk => ⟨hk.1.1, ⟨hk.1.2.2.2.1, ⟨hk.1.2.2.2.2, hk.2⟩⟩⟩)⟩, ⟨by (with_reducible repeat (first | apply Kd.V_alloc | apply Kd.V_drewN | apply Kd.V_drew)); exact Kd.V_mono HO663.out (fun _ hk => ⟨hk.1.1, ⟨hk.1.2.2.2.1, ⟨hk.1.2.2.2.2, hk.2⟩⟩⟩)⟩, ⟨by first | (with_reducible exact BK613.out) | (with_reducible exact blk_drewN BK613.out _) | (with_reducible exact blk_drew BK613.out) | ((with_reducible repeat (first | refine blk_drewN ?_ _ | refine blk_drew ?_ | refine blk_alloc ?_ _)); exact BK613.out)⟩, ⟨by first | (with_reducible exact BK641.out) | (with_reducible exact blk_drewN BK641.out _) | (with_reducible exact blk_drew BK641.out) | ((with_reducible repeat (first | refine blk_drewN ?_ _ | refine blk_drew ?_ | refine blk_alloc ?_ _)); exact BK641.out)⟩, ⟨by first | (with_reducible exact BK665.out) | (with_reducible exact blk_drewN BK665.out _) | (with_reducible exact blk_drew BK665.out) | ((with_reducible repeat (first | refine blk_drewN ?_ _ | refine blk_drew ?_ | refine blk_alloc ?_ _)); exact BK665.out)⟩, ⟨by repeat (first | (with_reducible exact HR645.out) | (with_reducible refine Kd.C_alloc ?_ _) | (with_reducible refine Kd.C_drewN ?_ _) | (with_reducible refine Kd.C_drew ?_) | exact HR645.out)⟩, ⟨by repeat (first | (with_reducible first | exact HB.out | apply below_alloc | apply pw_below_drewN | apply below_drew1 | refine below_set ?_ GE613.out | refine below_set ?_ GE641.out | refine below_set ?_ GE665.out) | exact HB.out)⟩⟩
                · rw [if_neg c104] at H
                  have c104b0 : (t640 == 0) = false := beq_eq_false_iff_ne.mpr c104
                  have c104b1 : (t640 != 0) = true := bne_iff_ne.mpr c104
                  (first | rw [c104b0] | (simp only [i64_w, i32_w]; rw [c104b0]) | skip)
                  have H' := Aside0.mk H
                  clear H
                  go_wp2
                  go_meet
                  case rel => exact ⟨_, (true), (by first | rfl | (simp; done) | (simp [*]; done)), H', ⟨by have := HJ4.out; first | omega | exact Nat.le_refl _⟩, ⟨by (with_reducible repeat (first | apply Kd.R_alloc | apply Kd.R_drewN | apply Kd.R_drew)); exact Kd.R_mono (Kd.R_far (p := ⟨gb665, 10, none⟩) (Kd.R_far (p := ⟨gb665, 9, none⟩) (Kd.R_far (p := ⟨gb665, 8, none⟩) (Kd.R_far (p := ⟨gb665, 7, none⟩) (Kd.R_far (p := ⟨gb665, 6, none⟩) (Kd.R_far (p := ⟨gb665, 5, none⟩) (Kd.R_far (p := ⟨gb665, 4, none⟩) (Kd.R_far (p := ⟨gb665, 3, none⟩) (Kd.R_far (p := ⟨gb665, 2, none⟩) (Kd.R_far (p := ⟨gb665, 1, none⟩) (Kd.R_far (p := ⟨gb665, 0, none⟩) (Kd.R_types HO_5.out BK665.out (by decide)) (fun _ hk => hk.2) (.int .u8 t649)) (fun _ hk => hk.2) (.int .u16 t650)) (fun _ hk => hk.2) (.bool t651)) (fun _ hk => hk.2) (.bool t652)) (fun _ hk => hk.2) (.int .i64 t653)) (fun _ hk => hk.2) (.int .u8 t654)) (fun _ hk => hk.2) (.int .u8 t655)) (fun _ hk => hk.2) (.int .u32 t656)) (fun _ hk => hk.2) (.int .u32 t657)) (fun _ hk => hk.2) (.slice Ao102 t658.length co102)) (fun _ hk => hk.2) (.slice Ao103 t661.length co103)) (fun _ hk => trivial)⟩, ⟨by (with_reducible repeat (first | apply Kd.V_alloc | apply Kd.V_drewN | apply Kd.V_drew)); exact Kd.V_mono (Kd.V_far (p := ⟨gb665, 10, none⟩) (Kd.V_far (p := ⟨gb665, 9, none⟩) (Kd.V_far (p := ⟨gb665, 8, none⟩) (Kd.V_far (p := ⟨gb665, 7, none⟩) (Kd.V_far (p := ⟨gb665, 6, none⟩) (Kd.V_far (p := ⟨gb665, 5, none⟩) (Kd.V_far (p := ⟨gb665, 4, none⟩) (Kd.V_far (p := ⟨gb665, 3, none⟩) (Kd.V_far (p := ⟨gb665, 2, none⟩) (Kd.V_far (p := ⟨gb665, 1, none⟩) (Kd.V_far (p := ⟨gb665, 0, none⟩) (Kd.V_mono HO636.out (fun k_ hk => (⟨hk, hk.2⟩ : _ ∧ k_ ≠ gb665))) (fun _ hk => hk.2) (.int .u8 t649)) (fun _ hk => hk.2) (.int .u16 t650)) (fun _ hk => hk.2) (.bool t651)) (fun _ hk => hk.2) (.bool t652)) (fun _ hk => hk.2) (.int .i64 t653)) (fun _ hk => hk.2) (.int .u8 t654)) (fun _ hk => hk.2) (.int .u8 t655)) (fun _ hk => hk.2) (.int .u32 t656)) (fun _ hk => hk.2) (.int .u32 t657)) (fun _ hk => hk.2) (.slice Ao102 t658.length co102)) (fun _ hk => hk.2) (.slice Ao103 t661.length co103)) (fun _ hk => ⟨hk.1.1.1.1, ⟨hk.1.1.1.2.2.1, ⟨hk.1.1.1.2.2.2, hk.1.2⟩⟩⟩)⟩, ⟨by (with_reducible repeat (first | apply Kd.V_alloc | apply Kd.V_drewN | apply Kd.V_drew)); exact Kd.V_mono (Kd.V_far (p := ⟨gb665, 10, none⟩) (Kd.V_far (p := ⟨gb665, 9, none⟩) (Kd.V_far (p := ⟨gb665, 8, none⟩) (Kd.V_far (p := ⟨gb665, 7, none⟩) (Kd.V_far (p := ⟨gb665, 6, none⟩) (Kd.V_far (p := ⟨gb665, 5, none⟩) (Kd.V_far (p := ⟨gb665, 4, none⟩) (Kd.V_far (p := ⟨gb665, 3, none⟩) (Kd.V_far (p := ⟨gb665, 2, none⟩) (Kd.V_far (p := ⟨gb665, 1, none⟩) (Kd.V_far (p := ⟨gb665, 0, none⟩) (Kd.V_mono HO660.out (fun k_ hk => (⟨hk, hk.2⟩ : _ ∧ k_ ≠ gb665))) (fun _ hk => hk.2) (.int .u8 t649)) (fun _ hk => hk.2) (.int .u16 t650)) (fun _ hk => hk.2) (.bool t651)) (fun _ hk => hk.2) (.bool t652)) (fun _ hk => hk.2) (.int .i64 t653)) (fun _ hk => hk.2) (.int .u8 t654)) (fun _ hk => hk.2) (.int .u8 t655)) (fun _ hk => hk.2) (.int .u32 t656)) (fun _ hk => hk.2) (.int .u32 t657)) (fun _ hk => hk.2) (.slice Ao102 t658.length co102)) (fun _ hk => hk.2) (.slice Ao103 t661.length co103)) (fun _ hk => ⟨hk.1.1.1, ⟨hk.1.1.2.2.2.1, ⟨hk.1.1.2.2.2.2, hk.1.2⟩⟩⟩)⟩, ⟨by (with_reducible repeat (first | apply Kd.V_alloc | apply Kd.V_drewN | apply Kd.V_drew)); exact Kd.V_mono (Kd.V_far (p := ⟨gb665, 10, none⟩) (Kd.V_far (p := ⟨gb665, 9, none⟩) (Kd.V_far (p := ⟨gb665, 8, none⟩) (Kd.V_far (p := ⟨gb665, 7, none⟩) (Kd.V_far (p := ⟨gb665, 6, none⟩) (Kd.V_far (p := ⟨gb665, 5, none⟩) (Kd.V_far (p := ⟨gb665, 4, none⟩) (Kd.V_far (p := ⟨gb665, 3, none⟩) (Kd.V_far (p := ⟨gb665, 2, none⟩) (Kd.V_far (p := ⟨gb665, 1, none⟩) (Kd.V_far (p := ⟨gb665, 0, none⟩) (Kd.V_mono HO663.out (fun k_ hk => (⟨hk, hk.2⟩ : _ ∧ k_ ≠ gb665))) (fun _ hk => hk.2) (.int .u8 t649)) (fun _ hk => hk.2) (.int .u16 t650)) (fun _ hk => hk.2) (.bool t651)) (fun _ hk => hk.2) (.bool t652)) (fun _ hk => hk.2) (.int .i64 t653)) (fun _ hk => hk.2) (.int .u8 t654)) (fun _ hk => hk.2) (.int .u8 t655)) (fun _ hk => hk.2) (.int .u32 t656)) (fun _ hk => hk.2) (.int .u32 t657)) (fun _ hk => hk.2) (.slice Ao102 t658.length co102)) (fun _ hk => hk.2) (.slice Ao103 t661.length co103)) (fun _ hk => ⟨hk.1.1.1, ⟨hk.1.1.2.2.2.1, ⟨hk.1.1.2.2.2.2, hk.1.2⟩⟩⟩)⟩, ⟨by (with_reducible repeat (first | refine blk_drewN ?_ _ | refine blk_drew ?_ | refine blk_alloc ?_ _)); refine blk_far ?_ NB613_665.out _; (with_reducible repeat (first | refine blk_drewN ?_ _ | refine blk_drew ?_ | refine blk_alloc ?_ _)); refine blk_far ?_ NB613_665.out _; (with_reducible repeat (first | refine blk_drewN ?_ _ | refine blk_drew ?_ | refine blk_alloc ?_ _)); refine blk_far ?_ NB613_665.out _; (with_reducible repeat (first | refine blk_drewN ?_ _ | refine blk_drew ?_ | refine blk_alloc ?_ _)); refine blk_far ?_ NB613_665.out _; (with_reducible repeat (first | refine blk_drewN ?_ _ | refine blk_drew ?_ | refine blk_alloc ?_ _)); refine blk_far ?_ NB613_665.out _; (with_reducible repeat (first | refine blk_drewN ?_ _ | refine blk_drew ?_ | refine blk_alloc ?_ _)); refine blk_far ?_ NB613_665.out _; (with_reducible repeat (first | refine blk_drewN ?_ _ | refine blk_drew ?_ | refine blk_alloc ?_ _)); refine blk_far ?_ NB613_665.out _; (with_reducible repeat (first | refine blk_drewN ?_ _ | refine blk_drew ?_ | refine blk_alloc ?_ _)); refine blk_far ?_ NB613_665.out _; (with_reducible repeat (first | refine blk_drewN ?_ _ | refine blk_drew ?_ | refine blk_alloc ?_ _)); refine blk_far ?_ NB613_665.out _; (with_reducible repeat (first | refine blk_drewN ?_ _ | refine blk_drew ?_ | refine blk_alloc ?_ _)); refine blk_far ?_ NB613_665.out _; (with_reducible repeat (first | refine blk_drewN ?_ _ | refine blk_drew ?_ | refine blk_alloc ?_ _)); refine blk_far ?_ NB613_665.out _; first | (with_reducible exact BK613.out) | (with_reducible exact blk_drewN BK613.out _) | (with_reducible exact blk_drew BK613.out) | ((with_reducible repeat (first | refine blk_drewN ?_ _ | refine blk_drew ?_ | refine blk_alloc ?_ _)); exact BK613.out)⟩, ⟨by (with_reducible repeat (first | refine blk_drewN ?_ _ | refine blk_drew ?_ | refine blk_alloc ?_ _)); refine blk_far ?_ NB641_665.out _; (with_reducible repeat (first | refine blk_drewN ?_ _ | refine blk_drew ?_ | refine blk_alloc ?_ _)); refine blk_far ?_ NB641_665.out _; (with_reducible repeat (first | refine blk_drewN ?_ _ | refine blk_drew ?_ | refine blk_alloc ?_ _)); refine blk_far ?_ NB641_665.out _; (with_reducible repeat (first | refine blk_drewN ?_ _ | refine blk_drew ?_ | refine blk_alloc ?_ _)); refine blk_far ?_ NB641_665.out _; (with_reducible repeat (first | refine blk_drewN ?_ _ | refine blk_drew ?_ | refine blk_alloc ?_ _)); refine blk_far ?_ NB641_665.out _; (with_reducible repeat (first | refine blk_drewN ?_ _ | refine blk_drew ?_ | refine blk_alloc ?_ _)); refine blk_far ?_ NB641_665.out _; (with_reducible repeat (first | refine blk_drewN ?_ _ | refine blk_drew ?_ | refine blk_alloc ?_ _)); refine blk_far ?_ NB641_665.out _; (with_reducible repeat (first | refine blk_drewN ?_ _ | refine blk_drew ?_ | refine blk_alloc ?_ _)); refine blk_far ?_ NB641_665.out _; (with_reducible repeat (first | refine blk_drewN ?_ _ | refine blk_drew ?_ | refine blk_alloc ?_ _)); refine blk_far ?_ NB641_665.out _; (with_reducible repeat (first | refine blk_drewN ?_ _ | refine blk_drew ?_ | refine blk_alloc ?_ _)); refine blk_far ?_ NB641_665.out _; (with_reducible repeat (first | refine blk_drewN ?_ _ | refine blk_drew ?_ | refine blk_alloc ?_ _)); refine blk_far ?_ NB641_665.out _; first | (with_reducible exact BK641.out) | (with_reducible exact blk_drewN BK641.out _) | (with_reducible exact blk_drew BK641.out) | ((with_reducible repeat (first | refine blk_drewN ?_ _ | refine blk_drew ?_ | refine blk_alloc ?_ _)); exact BK641.out)⟩, ⟨by (with_reducible repeat (first | refine blk_drewN ?_ _ | refine blk_drew ?_ | refine blk_alloc ?_ _)); refine blk_put (cs := #[.int .u8 t649, .int .u16 t650, .bool t651, .bool t652, .int .i64 t653, .int .u8 t654, .int .u8 t655, .int .u32 t656, .int .u32 t657, .slice Ao102 t658.length co102, .slice none 0 0]) ?_ 10 _ rfl; (with_reducible repeat (first | refine blk_drewN ?_ _ | refine blk_drew ?_ | refine blk_alloc ?_ _)); refine blk_put (cs := #[.int .u8 t649, .int .u16 t650, .bool t651, .bool t652, .int .i64 t653, .int .u8 t654, .int .u8 t655, .int .u32 t656, .int .u32 t657, .slice none 0 0, .slice none 0 0]) ?_ 9 _ rfl; (with_reducible repeat (first | refine blk_drewN ?_ _ | refine blk_drew ?_ | refine blk_alloc ?_ _)); refine blk_put (cs := #[.int .u8 t649, .int .u16 t650, .bool t651, .bool t652, .int .i64 t653, .int .u8 t654, .int .u8 t655, .int .u32 t656, .int .u32 0, .slice none 0 0, .slice none 0 0]) ?_ 8 _ rfl; (with_reducible repeat (first | refine blk_drewN ?_ _ | refine blk_drew ?_ | refine blk_alloc ?_ _)); refine blk_put (cs := #[.int .u8 t649, .int .u16 t650, .bool t651, .bool t652, .int .i64 t653, .int .u8 t654, .int .u8 t655, .int .u32 0, .int .u32 0, .slice none 0 0, .slice none 0 0]) ?_ 7 _ rfl; (with_reducible repeat (first | refine blk_drewN ?_ _ | refine blk_drew ?_ | refine blk_alloc ?_ _)); refine blk_put (cs := #[.int .u8 t649, .int .u16 t650, .bool t651, .bool t652, .int .i64 t653, .int .u8 t654, .int .u8 0, .int .u32 0, .int .u32 0, .slice none 0 0, .slice none 0 0]) ?_ 6 _ rfl; (with_reducible repeat (first | refine blk_drewN ?_ _ | refine blk_drew ?_ | refine blk_alloc ?_ _)); refine blk_put (cs := #[.int .u8 t649, .int .u16 t650, .bool t651, .bool t652, .int .i64 t653, .int .u8 0, .int .u8 0, .int .u32 0, .int .u32 0, .slice none 0 0, .slice none 0 0]) ?_ 5 _ rfl; (with_reducible repeat (first | refine blk_drewN ?_ _ | refine blk_drew ?_ | refine blk_alloc ?_ _)); refine blk_put (cs := #[.int .u8 t649, .int .u16 t650, .bool t651, .bool t652, .int .i64 0, .int .u8 0, .int .u8 0, .int .u32 0, .int .u32 0, .slice none 0 0, .slice none 0 0]) ?_ 4 _ rfl; (with_reducible repeat (first | refine blk_drewN ?_ _ | refine blk_drew ?_ | refine blk_alloc ?_ _)); refine blk_put (cs := #[.int .u8 t649, .int .u16 t650, .bool t651, .bool false, .int .i64 0, .int .u8 0, .int .u8 0, .int .u32 0, .int .u32 0, .slice none 0 0, .slice none 0 0]) ?_ 3 _ rfl; (with_reducible repeat (first | refine blk_drewN ?_ _ | refine blk_drew ?_ | refine blk_alloc ?_ _)); refine blk_put (cs := #[.int .u8 t649, .int .u16 t650, .bool false, .bool false, .int .i64 0, .int .u8 0, .int .u8 0, .int .u32 0, .int .u32 0, .slice none 0 0, .slice none 0 0]) ?_ 2 _ rfl; (with_reducible repeat (first | refine blk_drewN ?_ _ | refine blk_drew ?_ | refine blk_alloc ?_ _)); refine blk_put (cs := #[.int .u8 t649, .int .u16 0, .bool false, .bool false, .int .i64 0, .int .u8 0, .int .u8 0, .int .u32 0, .int .u32 0, .slice none 0 0, .slice none 0 0]) ?_ 1 _ rfl; (with_reducible repeat (first | refine blk_drewN ?_ _ | refine blk_drew ?_ | refine blk_alloc ?_ _)); refine blk_put (cs := #[.int .u8 0, .int .u16 0, .bool false, .bool false, .int .i64 0, .int .u8 0, .int .u8 0, .int .u32 0, .int .u32 0, .slice none 0 0, .slice none 0 0]) ?_ 0 _ rfl; first | (with_reducible exact BK665.out) | (with_reducible exact blk_drewN BK665.out _) | (with_reducible exact blk_drew BK665.out) | ((with_reducible repeat (first | refine blk_drewN ?_ _ | refine blk_drew ?_ | refine blk_alloc ?_ _)); exact BK665.out)⟩, ⟨show Kd.C (Kd.int .u8) _ Ao9 y642.length y642 from by rw [Ny642.out]; exact Kd.C_take (m := (x1_4 : Int).toNat) ((Kd.R_reads' zq14_1).2.2) KL94.out⟩, ⟨by repeat (first | (with_reducible first | exact HB.out | apply below_alloc | apply pw_below_drewN | apply below_drew1 | refine below_set ?_ GE613.out | refine below_set ?_ GE641.out | refine below_set ?_ GE665.out) | exact HB.out)⟩⟩
              case rest =>
                clear HC83
                try clear c1
                try clear q1
                try clear c2
                try clear p2
                try clear q2
                try clear c3
                try clear q3
                try clear c4
                try clear c4b0
                try clear c4b1
                try clear p4
                try clear q4
                try clear c5
                try clear q5
                try clear c6
                try clear p6
                try clear q6
                try clear c7
                try clear q7
                try clear q8
                try clear c9
                try clear q9
                try clear c10
                try clear c10b0
                try clear c11
                try clear c11b0
                try clear c11b1
                try clear q11
                try clear c12
                try clear c12b0
                try clear c12b1
                try clear c15
                try clear c15b0
                try clear c16
                try clear c16b0
                try clear c18
                try clear c19
                try clear c19b0
                try clear c20
                try clear c20b0
                try clear c20b1
                try clear c21
                try clear c21b0
                try clear c21b1
                try clear c22
                try clear q23
                try clear c28
                try clear q32
                try clear c37
                try clear c38
                try clear q44
                try clear c49
                try clear c51
                try clear q53
                try clear c58
                try clear c59
                try clear p64
                try clear q64
                try clear c69
                try clear q73
                try clear c78
                try clear c79
                try clear q85
                try clear c90
                try clear q94
                try clear c99
                try clear c100
                try clear c104
                try clear c104b0
                try clear c104b1
                try clear c106
                try clear c108
                try clear c108b0
                try clear c108b1
                try clear c109
                try clear c109b0
                try clear c109b1
                try clear c110
                try clear c110b0
                try clear c112
                try clear c113
                try clear c115
                try clear c118
                try clear q118
                try clear c120
                try clear c121
                try clear c123
                try clear hcz101_0
                try clear hcz101_1
                try clear hcz101_10
                try clear hcz101_2
                try clear hcz101_3
                try clear hcz101_4
                try clear hcz101_5
                try clear hcz101_6
                try clear hcz101_7
                try clear hcz101_8
                try clear hcz101_9
                try clear hcz114_0
                try clear hcz114_1
                try clear hcz114_2
                try clear hcz114_3
                try clear hcz114_4
                try clear hcz114_5
                try clear hcz114_6
                try clear hcz114_7
                try clear hcz114_8
                try clear hcz114_9
                try clear hcz116_0
                try clear hcz116_1
                try clear hcz116_10
                try clear hcz116_2
                try clear hcz116_3
                try clear hcz116_4
                try clear hcz116_5
                try clear hcz116_6
                try clear hcz116_7
                try clear hcz116_8
                try clear hcz116_9
                try clear hcz122_0
                try clear hcz122_1
                try clear hcz122_2
                try clear hcz122_3
                try clear hcz122_4
                try clear hcz122_5
                try clear hcz122_6
                try clear hcz122_7
                try clear hcz122_8
                try clear hcz122_9
                try clear hcz124_0
                try clear hcz124_1
                try clear hcz124_10
                try clear hcz124_2
                try clear hcz124_3
                try clear hcz124_4
                try clear hcz124_5
                try clear hcz124_6
                try clear hcz124_7
                try clear hcz124_8
                try clear hcz124_9
                try clear hcz22_0
                try clear hcz22_1
                try clear hcz22_10
                try clear hcz22_2
                try clear hcz22_3
                try clear hcz22_4
                try clear hcz22_5
                try clear hcz22_6
                try clear hcz22_7
                try clear hcz22_8
                try clear hcz22_9
                try clear hcz29_0
                try clear hcz29_1
                try clear hcz29_2
                try clear hcz29_3
                try clear hcz29_4
                try clear hcz29_5
                try clear hcz29_6
                try clear hcz29_7
                try clear hcz29_8
                try clear hcz29_9
                try clear hcz39_0
                try clear hcz39_1
                try clear hcz39_10
                try clear hcz39_2
                try clear hcz39_3
                try clear hcz39_4
                try clear hcz39_5
                try clear hcz39_6
                try clear hcz39_7
                try clear hcz39_8
                try clear hcz39_9
                try clear hcz43_0
                try clear hcz43_1
                try clear hcz43_10
                try clear hcz43_2
                try clear hcz43_3
                try clear hcz43_4
                try clear hcz43_5
                try clear hcz43_6
                try clear hcz43_7
                try clear hcz43_8
                try clear hcz43_9
                try clear hcz50_0
                try clear hcz50_1
                try clear hcz50_2
                try clear hcz50_3
                try clear hcz50_4
                try clear hcz50_5
                try clear hcz50_6
                try clear hcz50_7
                try clear hcz50_8
                try clear hcz50_9
                try clear hcz60_0
                try clear hcz60_1
                try clear hcz60_10
                try clear hcz60_2
                try clear hcz60_3
                try clear hcz60_4
                try clear hcz60_5
                try clear hcz60_6
                try clear hcz60_7
                try clear hcz60_8
                try clear hcz60_9
                try clear hcz63_0
                try clear hcz63_1
                try clear hcz63_10
                try clear hcz63_2
                try clear hcz63_3
                try clear hcz63_4
                try clear hcz63_5
                try clear hcz63_6
                try clear hcz63_7
                try clear hcz63_8
                try clear hcz63_9
                try clear hcz70_0
                try clear hcz70_1
                try clear hcz70_2
                try clear hcz70_3
                try clear hcz70_4
                try clear hcz70_5
                try clear hcz70_6
                try clear hcz70_7
                try clear hcz70_8
                try clear hcz70_9
                try clear hcz7_0
                try clear hcz7_1
                try clear hcz7_10
                try clear hcz7_2
                try clear hcz7_3
                try clear hcz7_4
                try clear hcz7_5
                try clear hcz7_6
                try clear hcz7_7
                try clear hcz7_8
                try clear hcz7_9
                try clear hcz80_0
                try clear hcz80_1
                try clear hcz80_10
                try clear hcz80_2
                try clear hcz80_3
                try clear hcz80_4
                try clear hcz80_5
                try clear hcz80_6
                try clear hcz80_7
                try clear hcz80_8
                try clear hcz80_9
                try clear hcz84_0
                try clear hcz84_1
                try clear hcz84_10
                try clear hcz84_2
                try clear hcz84_3
                try clear hcz84_4
                try clear hcz84_5
                try clear hcz84_6
                try clear hcz84_7
                try clear hcz84_8
                try clear hcz84_9
                try clear hcz91_0
                try clear hcz91_1
                try clear hcz91_2
                try clear hcz91_3
                try clear hcz91_4
                try clear hcz91_5
                try clear hcz91_6
                try clear hcz91_7
                try clear hcz91_8
                try clear hcz91_9
                try clear hfz101_0
                try clear hfz101_1
                try clear hfz101_10
                try clear hfz101_2
                try clear hfz101_3
                try clear hfz101_4
                try clear hfz101_5
                try clear hfz101_6
                try clear hfz101_7
                try clear hfz101_8
                try clear hfz101_9
                try clear hfz114_0
                try clear hfz114_1
                try clear hfz114_2
                try clear hfz114_3
                try clear hfz114_4
                try clear hfz114_5
                try clear hfz114_6
                try clear hfz114_7
                try clear hfz114_8
                try clear hfz114_9
                try clear hfz116_0
                try clear hfz116_1
                try clear hfz116_10
                try clear hfz116_2
                try clear hfz116_3
                try clear hfz116_4
                try clear hfz116_5
                try clear hfz116_6
                try clear hfz116_7
                try clear hfz116_8
                try clear hfz116_9
                try clear hfz122_0
                try clear hfz122_1
                try clear hfz122_2
                try clear hfz122_3
                try clear hfz122_4
                try clear hfz122_5
                try clear hfz122_6
                try clear hfz122_7
                try clear hfz122_8
                try clear hfz122_9
                try clear hfz124_0
                try clear hfz124_1
                try clear hfz124_10
                try clear hfz124_2
                try clear hfz124_3
                try clear hfz124_4
                try clear hfz124_5
                try clear hfz124_6
                try clear hfz124_7
                try clear hfz124_8
                try clear hfz124_9
                try clear hfz22_0
                try clear hfz22_1
                try clear hfz22_10
                try clear hfz22_2
                try clear hfz22_3
                try clear hfz22_4
                try clear hfz22_5
                try clear hfz22_6
                try clear hfz22_7
                try clear hfz22_8
                try clear hfz22_9
                try clear hfz29_0
                try clear hfz29_1
                try clear hfz29_2
                try clear hfz29_3
                try clear hfz29_4
                try clear hfz29_5
                try clear hfz29_6
                try clear hfz29_7
                try clear hfz29_8
                try clear hfz29_9
                try clear hfz39_0
                try clear hfz39_1
                try clear hfz39_10
                try clear hfz39_2
                try clear hfz39_3
                try clear hfz39_4
                try clear hfz39_5
                try clear hfz39_6
                try clear hfz39_7
                try clear hfz39_8
                try clear hfz39_9
                try clear hfz43_0
                try clear hfz43_1
                try clear hfz43_10
                try clear hfz43_2
                try clear hfz43_3
                try clear hfz43_4
                try clear hfz43_5
                try clear hfz43_6
                try clear hfz43_7
                try clear hfz43_8
                try clear hfz43_9
                try clear hfz50_0
                try clear hfz50_1
                try clear hfz50_2
                try clear hfz50_3
                try clear hfz50_4
                try clear hfz50_5
                try clear hfz50_6
                try clear hfz50_7
                try clear hfz50_8
                try clear hfz50_9
                try clear hfz60_0
                try clear hfz60_1
                try clear hfz60_10
                try clear hfz60_2
                try clear hfz60_3
                try clear hfz60_4
                try clear hfz60_5
                try clear hfz60_6
                try clear hfz60_7
                try clear hfz60_8
                try clear hfz60_9
                try clear hfz63_0
                try clear hfz63_1
                try clear hfz63_10
                try clear hfz63_2
                try clear hfz63_3
                try clear hfz63_4
                try clear hfz63_5
                try clear hfz63_6
                try clear hfz63_7
                try clear hfz63_8
                try clear hfz63_9
                try clear hfz70_0
                try clear hfz70_1
                try clear hfz70_2
                try clear hfz70_3
                try clear hfz70_4
                try clear hfz70_5
                try clear hfz70_6
                try clear hfz70_7
                try clear hfz70_8
                try clear hfz70_9
                try clear hfz7_0
                try clear hfz7_1
                try clear hfz7_10
                try clear hfz7_2
                try clear hfz7_3
                try clear hfz7_4
                try clear hfz7_5
                try clear hfz7_6
                try clear hfz7_7
                try clear hfz7_8
                try clear hfz7_9
                try clear hfz80_0
                try clear hfz80_1
                try clear hfz80_10
                try clear hfz80_2
                try clear hfz80_3
                try clear hfz80_4
                try clear hfz80_5
                try clear hfz80_6
                try clear hfz80_7
                try clear hfz80_8
                try clear hfz80_9
                try clear hfz84_0
                try clear hfz84_1
                try clear hfz84_10
                try clear hfz84_2
                try clear hfz84_3
                try clear hfz84_4
                try clear hfz84_5
                try clear hfz84_6
                try clear hfz84_7
                try clear hfz84_8
                try clear hfz84_9
                try clear hfz91_0
                try clear hfz91_1
                try clear hfz91_2
                try clear hfz91_3
                try clear hfz91_4
                try clear hfz91_5
                try clear hfz91_6
                try clear hfz91_7
                try clear hfz91_8
                try clear hfz91_9
                try clear p2
                try clear p4
                try clear q0118
                try clear q118
                try clear q23
                try clear q32
                try clear q44
                try clear q53
                try clear q64
                try clear q73
                try clear q85
                try clear q94
                obtain ⟨kq, x82_82, rfl, HA, HJ82, HO_5, HO_642009, HO_666009, HO_666010, BK613, BK641, BK665, HR645, HB⟩ := hcut
                cases kq with
                | zero => exact absurd HA.out (by simp [weftlaw3_cutoff.j1])
                | succ kj82 =>
                  have H := HA.out
                  clear HA
                  simp only [weftlaw3_cutoff.j1] at H
                  by_cases c126 : x82_82 = true
                  · subst c126
                    have H1 : (some false) = some r := by rw [if_pos rfl] at H; exact H
                    clear H
                    have H := H1
                    clear H1
                    obtain rfl := Option.some.inj H
                    go_wp2
                    go_ret
                    exact ⟨by first | rfl | (simp [errW_none, errW_some] <;> rfl) | (simp [*, errW_none, errW_some] <;> rfl), by repeat (first | (with_reducible first | exact HB.out | apply below_alloc | apply pw_below_drewN | apply below_drew1 | refine below_set ?_ GE613.out | refine below_set ?_ GE641.out | refine below_set ?_ GE665.out) | exact HB.out)⟩
                  · replace c126 := Bool.eq_false_iff.mpr c126
                    subst c126
                    have H1 : (if x1_4 < (t614.length : Int) then (if t664 = 30 then ((weftlaw3_packets.f kj82 t649 t650 t651 t652 t653 t654 t655 t656 t657 t658 t661 0 0 false false 0 0 0 0 0 ([] : List Int) ([] : List Int)).bind fun t672 => (some t672)) else (some false)) else (if t664 = 0 then ((weftlaw3_packets.f kj82 a0_0 a0_1 a0_2 a0_3 a0_4 a0_5 a0_6 a0_7 a0_8 l0_9 l0_10 t649 t650 t651 t652 t653 t654 t655 t656 t657 t658 t661).bind fun t673 => (some t673)) else (some false))) = some r := by rw [if_neg (show ¬ (false = true) by decide)] at H; exact H
                    clear H
                    have H := H1
                    clear H1
                    by_cases c127 : x1_4 < (t614.length : Int)
                    · rw [if_pos c127] at H
                      have c127b0 : decide (x1_4 < (t614.length : Int)) = true := decide_eq_true c127
                      clear c127
                      by_cases c128 : t664 = 30
                      · rw [if_pos c128] at H
                        have c128b0 : (t664 == 30) = true := beq_iff_eq.mpr c128
                        have c128b1 : (t664 != 30) = false := bne_eq_false_iff_eq.mpr c128
                        clear c128
                        replace H := Option.bind_eq_some_iff.mp H
                        obtain ⟨t672, A1290, H⟩ := H
                        replace H : (some t672) = some r := H
                        have A129 := Aside0.mk A1290
                        clear A1290
                        obtain rfl := Option.some.inj H
                        have hnb130 := NB665_613.out
                        have hnc130 := NB613_665.out
                        have hnb131 := NB665_641.out
                        have hnc131 := NB641_665.out
                        have hcz132_0 : wc.cell? ⟨gb665, 0, none⟩ = some (.int .u8 t649) := (blk_cell BK665.out 0).trans rfl
                        have hcz132_1 : wc.cell? ⟨gb665, 1, none⟩ = some (.int .u16 t650) := (blk_cell BK665.out 1).trans rfl
                        have hcz132_2 : wc.cell? ⟨gb665, 2, none⟩ = some (.bool t651) := (blk_cell BK665.out 2).trans rfl
                        have hcz132_3 : wc.cell? ⟨gb665, 3, none⟩ = some (.bool t652) := (blk_cell BK665.out 3).trans rfl
                        have hcz132_4 : wc.cell? ⟨gb665, 4, none⟩ = some (.int .i64 t653) := (blk_cell BK665.out 4).trans rfl
                        have hcz132_5 : wc.cell? ⟨gb665, 5, none⟩ = some (.int .u8 t654) := (blk_cell BK665.out 5).trans rfl
                        have hcz132_6 : wc.cell? ⟨gb665, 6, none⟩ = some (.int .u8 t655) := (blk_cell BK665.out 6).trans rfl
                        have hcz132_7 : wc.cell? ⟨gb665, 7, none⟩ = some (.int .u32 t656) := (blk_cell BK665.out 7).trans rfl
                        have hcz132_8 : wc.cell? ⟨gb665, 8, none⟩ = some (.int .u32 t657) := (blk_cell BK665.out 8).trans rfl
                        have hcz132_9 : wc.cell? ⟨gb665, 9, none⟩ = some (.slice Ao102 t658.length co102) := (blk_cell BK665.out 9).trans rfl
                        have hcz132_10 : wc.cell? ⟨gb665, 10, none⟩ = some (.slice Ao103 t661.length co103) := (blk_cell BK665.out 10).trans rfl
                        have hfz132_0 := blk_frozen BK665.out 0
                        have hfz132_1 := blk_frozen BK665.out 1
                        have hfz132_2 := blk_frozen BK665.out 2
                        have hfz132_3 := blk_frozen BK665.out 3
                        have hfz132_4 := blk_frozen BK665.out 4
                        have hfz132_5 := blk_frozen BK665.out 5
                        have hfz132_6 := blk_frozen BK665.out 6
                        have hfz132_7 := blk_frozen BK665.out 7
                        have hfz132_8 := blk_frozen BK665.out 8
                        have hfz132_9 := blk_frozen BK665.out 9
                        have hfz132_10 := blk_frozen BK665.out 10
                        go_wp2_with (first | (go_at_call 39; refine calls_of_args (args' := #[.agg #[.int .u8 t649, .int .u16 t650, .bool t651, .bool t652, .int .i64 t653, .int .u8 t654, .int .u8 t655, .int .u32 t656, .int .u32 t657, .slice Ao102 t658.length co102, .slice Ao103 t661.length co103], .agg #[.int .u8 0, .int .u16 0, .bool false, .bool false, .int .i64 0, .int .u8 0, .int .u8 0, .int .u32 0, .int .u32 0, .slice none ([] : List Int).length 0, .slice none ([] : List Int).length 0]]) (by rfl) ?_; (with_reducible refine (weftlaw3_packets.calls kj82 t649 t650 t651 t652 t653 t654 t655 t656 t657 _ _ t658 _ _ t661 0 0 false false 0 0 0 0 0 _ _ ([] : List Int) _ _ ([] : List Int) t672 _ ?side1 ?side2 ?side3 ?side4 ?side5 ?side6 ?side7 ?side8 A129.out).mono ?_); (case side1 => repeat (first | exact (Kd.V_reads' HO_666009.out).2.2 | (with_reducible refine Kd.C_alloc ?_ _) | (with_reducible refine Kd.C_drewN ?_ _) | (with_reducible refine Kd.C_drew ?_))); (case side2 => exact (Kd.V_reads' HO_666009.out).2.1); (case side3 => repeat (first | exact (Kd.V_reads' HO_666010.out).2.2 | (with_reducible refine Kd.C_alloc ?_ _) | (with_reducible refine Kd.C_drewN ?_ _) | (with_reducible refine Kd.C_drew ?_))); (case side4 => exact (Kd.V_reads' HO_666010.out).2.1); (case side5 => exact Kd.C_nil _ _); (case side6 => exact Nat.le_refl _); (case side7 => exact Kd.C_nil _ _); (case side8 => exact Nat.le_refl _); rintro e w133 ⟨rfl, hb⟩; have n0_ := Aside0.mk (Kd.R_below zq14_9 hb); have n1_ := Aside0.mk (Kd.V_below (by (with_reducible repeat (first | apply Kd.V_alloc | apply Kd.V_drewN | apply Kd.V_drew)); exact HO_642009.out) hb); have n2_ := Aside0.mk (Kd.V_below (by (with_reducible repeat (first | apply Kd.V_alloc | apply Kd.V_drewN | apply Kd.V_drew)); exact HO_666009.out) hb); have n3_ := Aside0.mk (Kd.V_below (by (with_reducible repeat (first | apply Kd.V_alloc | apply Kd.V_drewN | apply Kd.V_drew)); exact HO_666010.out) hb); have n4_ := Aside0.mk (blk_below (g := gb613) (o := .cells #[.int .u8 a0_0, .int .u16 a0_1, .bool a0_2, .bool a0_3, .int .i64 a0_4, .int .u8 a0_5, .int .u8 a0_6, .int .u32 a0_7, .int .u32 a0_8, .slice A0_9 l0_9.length c0_9, .slice A0_10 l0_10.length c0_10] 43 (0, 0)) zq14_0 hb); have n5_ := Aside0.mk (blk_below (g := gb641) (o := .cells #[.int .u8 t625, .int .u16 t626, .bool t627, .bool t628, .int .i64 t629, .int .u8 t630, .int .u8 t631, .int .u32 t632, .int .u32 t633, .slice Ao92 t634.length co92] 41 (0, 0)) zq14_4 hb); have n6_ := Aside0.mk (blk_below (g := gb665) (o := .cells #[.int .u8 t649, .int .u16 t650, .bool t651, .bool t652, .int .i64 t653, .int .u8 t654, .int .u8 t655, .int .u32 t656, .int .u32 t657, .slice Ao102 t658.length co102, .slice Ao103 t661.length co103] 43 (0, 0)) (by first | (with_reducible exact BK665.out) | (with_reducible exact blk_drewN BK665.out _) | (with_reducible exact blk_drew BK665.out) | ((with_reducible repeat (first | refine blk_drewN ?_ _ | refine blk_drew ?_ | refine blk_alloc ?_ _)); exact BK665.out)) hb); have n7_ := Aside0.mk (Kd.C_below zq14_16 hb); have n8_ := Aside0.mk (below_step zq14_10 hb); clear HO_5; clear HO_642009; clear HO_666009; clear HO_666010; clear BK613; clear BK641; clear BK665; clear HR645; clear HB; have HO_5 := n0_; have HO_642009 := n1_; have HO_666009 := n2_; have HO_666010 := n3_; have BK613 := n4_; have BK641 := n5_; have BK665 := n6_; have HR645 := n7_; have HB := n8_; clear n0_ n1_ n2_ n3_ n4_ n5_ n6_ n7_ n8_; (try clear hb); (try clear hb2); (try clear hk); (try clear hi)))
                        go_ret
                        exact ⟨by first | rfl | (simp [errW_none, errW_some] <;> rfl) | (simp [*, errW_none, errW_some] <;> rfl), by repeat (first | (with_reducible first | exact HB.out | apply below_alloc | apply pw_below_drewN | apply below_drew1 | refine below_set ?_ GE613.out | refine below_set ?_ GE641.out | refine below_set ?_ GE665.out) | exact HB.out)⟩
                      · rw [if_neg c128] at H
                        have c128b0 : (t664 == 30) = false := beq_eq_false_iff_ne.mpr c128
                        have c128b1 : (t664 != 30) = true := bne_iff_ne.mpr c128
                        obtain rfl := Option.some.inj H
                        go_wp2
                        go_ret
                        exact ⟨by first | rfl | (simp [errW_none, errW_some] <;> rfl) | (simp [*, errW_none, errW_some] <;> rfl), by repeat (first | (with_reducible first | exact HB.out | apply below_alloc | apply pw_below_drewN | apply below_drew1 | refine below_set ?_ GE613.out | refine below_set ?_ GE641.out | refine below_set ?_ GE665.out) | exact HB.out)⟩
                    · rw [if_neg c127] at H
                      have c127b0 : decide (x1_4 < (t614.length : Int)) = false := decide_eq_false c127
                      clear c127
                      by_cases c134 : t664 = 0
                      · rw [if_pos c134] at H
                        have c134b0 : (t664 == 0) = true := beq_iff_eq.mpr c134
                        have c134b1 : (t664 != 0) = false := bne_eq_false_iff_eq.mpr c134
                        clear c134
                        replace H := Option.bind_eq_some_iff.mp H
                        obtain ⟨t673, A1350, H⟩ := H
                        replace H : (some t673) = some r := H
                        have A135 := Aside0.mk A1350
                        clear A1350
                        obtain rfl := Option.some.inj H
                        have hnb136 := NB613_641.out
                        have hnc136 := NB641_613.out
                        have hnb137 := NB613_665.out
                        have hnc137 := NB665_613.out
                        have hcz138_0 : wc.cell? ⟨gb613, 0, none⟩ = some (.int .u8 a0_0) := (blk_cell BK613.out 0).trans rfl
                        have hcz138_1 : wc.cell? ⟨gb613, 1, none⟩ = some (.int .u16 a0_1) := (blk_cell BK613.out 1).trans rfl
                        have hcz138_2 : wc.cell? ⟨gb613, 2, none⟩ = some (.bool a0_2) := (blk_cell BK613.out 2).trans rfl
                        have hcz138_3 : wc.cell? ⟨gb613, 3, none⟩ = some (.bool a0_3) := (blk_cell BK613.out 3).trans rfl
                        have hcz138_4 : wc.cell? ⟨gb613, 4, none⟩ = some (.int .i64 a0_4) := (blk_cell BK613.out 4).trans rfl
                        have hcz138_5 : wc.cell? ⟨gb613, 5, none⟩ = some (.int .u8 a0_5) := (blk_cell BK613.out 5).trans rfl
                        have hcz138_6 : wc.cell? ⟨gb613, 6, none⟩ = some (.int .u8 a0_6) := (blk_cell BK613.out 6).trans rfl
                        have hcz138_7 : wc.cell? ⟨gb613, 7, none⟩ = some (.int .u32 a0_7) := (blk_cell BK613.out 7).trans rfl
                        have hcz138_8 : wc.cell? ⟨gb613, 8, none⟩ = some (.int .u32 a0_8) := (blk_cell BK613.out 8).trans rfl
                        have hcz138_9 : wc.cell? ⟨gb613, 9, none⟩ = some (.slice A0_9 l0_9.length c0_9) := (blk_cell BK613.out 9).trans rfl
                        have hcz138_10 : wc.cell? ⟨gb613, 10, none⟩ = some (.slice A0_10 l0_10.length c0_10) := (blk_cell BK613.out 10).trans rfl
                        have hfz138_0 := blk_frozen BK613.out 0
                        have hfz138_1 := blk_frozen BK613.out 1
                        have hfz138_2 := blk_frozen BK613.out 2
                        have hfz138_3 := blk_frozen BK613.out 3
                        have hfz138_4 := blk_frozen BK613.out 4
                        have hfz138_5 := blk_frozen BK613.out 5
                        have hfz138_6 := blk_frozen BK613.out 6
                        have hfz138_7 := blk_frozen BK613.out 7
                        have hfz138_8 := blk_frozen BK613.out 8
                        have hfz138_9 := blk_frozen BK613.out 9
                        have hfz138_10 := blk_frozen BK613.out 10
                        have hnb139 := NB665_641.out
                        have hnc139 := NB641_665.out
                        have hcz140_0 : wc.cell? ⟨gb665, 0, none⟩ = some (.int .u8 t649) := (blk_cell BK665.out 0).trans rfl
                        have hcz140_1 : wc.cell? ⟨gb665, 1, none⟩ = some (.int .u16 t650) := (blk_cell BK665.out 1).trans rfl
                        have hcz140_2 : wc.cell? ⟨gb665, 2, none⟩ = some (.bool t651) := (blk_cell BK665.out 2).trans rfl
                        have hcz140_3 : wc.cell? ⟨gb665, 3, none⟩ = some (.bool t652) := (blk_cell BK665.out 3).trans rfl
                        have hcz140_4 : wc.cell? ⟨gb665, 4, none⟩ = some (.int .i64 t653) := (blk_cell BK665.out 4).trans rfl
                        have hcz140_5 : wc.cell? ⟨gb665, 5, none⟩ = some (.int .u8 t654) := (blk_cell BK665.out 5).trans rfl
                        have hcz140_6 : wc.cell? ⟨gb665, 6, none⟩ = some (.int .u8 t655) := (blk_cell BK665.out 6).trans rfl
                        have hcz140_7 : wc.cell? ⟨gb665, 7, none⟩ = some (.int .u32 t656) := (blk_cell BK665.out 7).trans rfl
                        have hcz140_8 : wc.cell? ⟨gb665, 8, none⟩ = some (.int .u32 t657) := (blk_cell BK665.out 8).trans rfl
                        have hcz140_9 : wc.cell? ⟨gb665, 9, none⟩ = some (.slice Ao102 t658.length co102) := (blk_cell BK665.out 9).trans rfl
                        have hcz140_10 : wc.cell? ⟨gb665, 10, none⟩ = some (.slice Ao103 t661.length co103) := (blk_cell BK665.out 10).trans rfl
                        have hfz140_0 := blk_frozen BK665.out 0
                        have hfz140_1 := blk_frozen BK665.out 1
                        have hfz140_2 := blk_frozen BK665.out 2
                        have hfz140_3 := blk_frozen BK665.out 3
                        have hfz140_4 := blk_frozen BK665.out 4
                        have hfz140_5 := blk_frozen BK665.out 5
                        have hfz140_6 := blk_frozen BK665.out 6
                        have hfz140_7 := blk_frozen BK665.out 7
                        have hfz140_8 := blk_frozen BK665.out 8
                        have hfz140_9 := blk_frozen BK665.out 9
                        have hfz140_10 := blk_frozen BK665.out 10
                        go_wp2_with (first | (go_at_call 39; (with_reducible refine (weftlaw3_packets.calls kj82 a0_0 a0_1 a0_2 a0_3 a0_4 a0_5 a0_6 a0_7 a0_8 _ _ l0_9 _ _ l0_10 t649 t650 t651 t652 t653 t654 t655 t656 t657 _ _ t658 _ _ t661 t673 _ ?side1 ?side2 ?side3 ?side4 ?side5 ?side6 ?side7 ?side8 A135.out).mono ?_); (case side1 => repeat (first | exact (Kd.C_below HR0_9.out HB.out) | (with_reducible refine Kd.C_alloc ?_ _) | (with_reducible refine Kd.C_drewN ?_ _) | (with_reducible refine Kd.C_drew ?_))); (case side2 => exact HC0_9.out); (case side3 => repeat (first | exact (Kd.C_below HR0_10.out HB.out) | (with_reducible refine Kd.C_alloc ?_ _) | (with_reducible refine Kd.C_drewN ?_ _) | (with_reducible refine Kd.C_drew ?_))); (case side4 => exact HC0_10.out); (case side5 => repeat (first | exact (Kd.V_reads' HO_666009.out).2.2 | (with_reducible refine Kd.C_alloc ?_ _) | (with_reducible refine Kd.C_drewN ?_ _) | (with_reducible refine Kd.C_drew ?_))); (case side6 => exact (Kd.V_reads' HO_666009.out).2.1); (case side7 => repeat (first | exact (Kd.V_reads' HO_666010.out).2.2 | (with_reducible refine Kd.C_alloc ?_ _) | (with_reducible refine Kd.C_drewN ?_ _) | (with_reducible refine Kd.C_drew ?_))); (case side8 => exact (Kd.V_reads' HO_666010.out).2.1); rintro e w141 ⟨rfl, hb⟩; have n0_ := Aside0.mk (Kd.R_below zq14_9 hb); have n1_ := Aside0.mk (Kd.V_below (by (with_reducible repeat (first | apply Kd.V_alloc | apply Kd.V_drewN | apply Kd.V_drew)); exact HO_642009.out) hb); have n2_ := Aside0.mk (Kd.V_below (by (with_reducible repeat (first | apply Kd.V_alloc | apply Kd.V_drewN | apply Kd.V_drew)); exact HO_666009.out) hb); have n3_ := Aside0.mk (Kd.V_below (by (with_reducible repeat (first | apply Kd.V_alloc | apply Kd.V_drewN | apply Kd.V_drew)); exact HO_666010.out) hb); have n4_ := Aside0.mk (blk_below (g := gb613) (o := .cells #[.int .u8 a0_0, .int .u16 a0_1, .bool a0_2, .bool a0_3, .int .i64 a0_4, .int .u8 a0_5, .int .u8 a0_6, .int .u32 a0_7, .int .u32 a0_8, .slice A0_9 l0_9.length c0_9, .slice A0_10 l0_10.length c0_10] 43 (0, 0)) zq14_0 hb); have n5_ := Aside0.mk (blk_below (g := gb641) (o := .cells #[.int .u8 t625, .int .u16 t626, .bool t627, .bool t628, .int .i64 t629, .int .u8 t630, .int .u8 t631, .int .u32 t632, .int .u32 t633, .slice Ao92 t634.length co92] 41 (0, 0)) zq14_4 hb); have n6_ := Aside0.mk (blk_below (g := gb665) (o := .cells #[.int .u8 t649, .int .u16 t650, .bool t651, .bool t652, .int .i64 t653, .int .u8 t654, .int .u8 t655, .int .u32 t656, .int .u32 t657, .slice Ao102 t658.length co102, .slice Ao103 t661.length co103] 43 (0, 0)) (by first | (with_reducible exact BK665.out) | (with_reducible exact blk_drewN BK665.out _) | (with_reducible exact blk_drew BK665.out) | ((with_reducible repeat (first | refine blk_drewN ?_ _ | refine blk_drew ?_ | refine blk_alloc ?_ _)); exact BK665.out)) hb); have n7_ := Aside0.mk (Kd.C_below zq14_16 hb); have n8_ := Aside0.mk (below_step zq14_10 hb); clear HO_5; clear HO_642009; clear HO_666009; clear HO_666010; clear BK613; clear BK641; clear BK665; clear HR645; clear HB; have HO_5 := n0_; have HO_642009 := n1_; have HO_666009 := n2_; have HO_666010 := n3_; have BK613 := n4_; have BK641 := n5_; have BK665 := n6_; have HR645 := n7_; have HB := n8_; clear n0_ n1_ n2_ n3_ n4_ n5_ n6_ n7_ n8_; (try clear hb); (try clear hb2); (try clear hk); (try clear hi)))
                        go_ret
                        exact ⟨by first | rfl | (simp [errW_none, errW_some] <;> rfl) | (simp [*, errW_none, errW_some] <;> rfl), by repeat (first | (with_reducible first | exact HB.out | apply below_alloc | apply pw_below_drewN | apply below_drew1 | refine below_set ?_ GE613.out | refine below_set ?_ GE641.out | refine below_set ?_ GE665.out) | exact HB.out)⟩
                      · rw [if_neg c134] at H
                        have c134b0 : (t664 == 0) = false := beq_eq_false_iff_ne.mpr c134
                        have c134b1 : (t664 != 0) = true := bne_iff_ne.mpr c134
                        obtain rfl := Option.some.inj H
                        go_wp2
                        go_ret
                        exact ⟨by first | rfl | (simp [errW_none, errW_some] <;> rfl) | (simp [*, errW_none, errW_some] <;> rfl), by repeat (first | (with_reducible first | exact HB.out | apply below_alloc | apply pw_below_drewN | apply below_drew1 | refine below_set ?_ GE613.out | refine below_set ?_ GE641.out | refine below_set ?_ GE665.out) | exact HB.out)⟩
          · rw [if_neg c12] at H
            exact absurd H (by simp)
        · rw [if_neg c11] at H
          exact absurd H (by simp)
  · rw [if_neg c4] at H
    have c4b0 : (t617 == 0) = false := beq_eq_false_iff_ne.mpr c4
    have c4b1 : (t617 != 0) = true := bne_iff_ne.mpr c4
    obtain rfl := Option.some.inj H
    go_enter Try.func28, Try.ntmps28
    go_wp2_with (first | ((with_reducible refine gate_dst (N := 2) rfl ?_); (try (refine gate_guard (by rfl) ?_; dsimp only)); refine box_event ?hg (N := 2) ?hd (cs := #[.int .u8 a0_0, .int .u16 a0_1, .bool a0_2, .bool a0_3, .int .i64 a0_4, .int .u8 a0_5, .int .u8 a0_6, .int .u32 a0_7, .int .u32 a0_8, .slice A0_9 l0_9.length c0_9, .slice A0_10 l0_10.length c0_10]) (t := 43) ?hr ?_; (case hd => rfl); (case hg => rfl); (case hr => first | (go_simp; done) | (go_simp; rfl)); intro gb613 hg w142 hbox hb; have n0_ := Aside0.mk (below_step (by repeat (first | (with_reducible first | exact HB.out | apply below_alloc | apply pw_below_drewN | apply below_drew1) | exact HB.out)) hb); have n1_ := Aside0.mk (hbox); have n2_ := Aside0.mk ((by rw [hg]; exact (below_size (by repeat (first | (with_reducible first | exact HB.out | apply below_alloc | apply pw_below_drewN | apply below_drew1) | exact HB.out))) : w.heap.size ≤ gb613)); have n3_ := Aside0.mk ((by rw [hg]; exact (below_size (by repeat (first | (with_reducible first | exact HB.out | apply below_alloc | apply pw_below_drewN | apply below_drew1) | exact HB.out))) : w.heap.size ≤ gb613)); clear HB; have HB := n0_; have BK613 := n1_; have GW613 := n2_; have GE613 := n3_; clear n0_ n1_ n2_ n3_; clear hb hbox hg; have hcz143_0 : w142.cell? ⟨gb613, 0, none⟩ = some (.int .u8 a0_0) := (blk_cell BK613.out 0).trans rfl; have hcz143_1 : w142.cell? ⟨gb613, 1, none⟩ = some (.int .u16 a0_1) := (blk_cell BK613.out 1).trans rfl; have hcz143_2 : w142.cell? ⟨gb613, 2, none⟩ = some (.bool a0_2) := (blk_cell BK613.out 2).trans rfl; have hcz143_3 : w142.cell? ⟨gb613, 3, none⟩ = some (.bool a0_3) := (blk_cell BK613.out 3).trans rfl; have hcz143_4 : w142.cell? ⟨gb613, 4, none⟩ = some (.int .i64 a0_4) := (blk_cell BK613.out 4).trans rfl; have hcz143_5 : w142.cell? ⟨gb613, 5, none⟩ = some (.int .u8 a0_5) := (blk_cell BK613.out 5).trans rfl; have hcz143_6 : w142.cell? ⟨gb613, 6, none⟩ = some (.int .u8 a0_6) := (blk_cell BK613.out 6).trans rfl; have hcz143_7 : w142.cell? ⟨gb613, 7, none⟩ = some (.int .u32 a0_7) := (blk_cell BK613.out 7).trans rfl; have hcz143_8 : w142.cell? ⟨gb613, 8, none⟩ = some (.int .u32 a0_8) := (blk_cell BK613.out 8).trans rfl; have hcz143_9 : w142.cell? ⟨gb613, 9, none⟩ = some (.slice A0_9 l0_9.length c0_9) := (blk_cell BK613.out 9).trans rfl; have hcz143_10 : w142.cell? ⟨gb613, 10, none⟩ = some (.slice A0_10 l0_10.length c0_10) := (blk_cell BK613.out 10).trans rfl; have hfz143_0 := blk_frozen BK613.out 0; have hfz143_1 := blk_frozen BK613.out 1; have hfz143_2 := blk_frozen BK613.out 2; have hfz143_3 := blk_frozen BK613.out 3; have hfz143_4 := blk_frozen BK613.out 4; have hfz143_5 := blk_frozen BK613.out 5; have hfz143_6 := blk_frozen BK613.out 6; have hfz143_7 := blk_frozen BK613.out 7; have hfz143_8 := blk_frozen BK613.out 8; have hfz143_9 := blk_frozen BK613.out 9; have hfz143_10 := blk_frozen BK613.out 10) | ((with_reducible refine gate_callee (f := 22) rfl ?_); refine goesL_ (some 15) rfl rfl Try.func22 (by kernel_rfl) rfl #[.agg #[.int .u8 a0_0, .int .u16 a0_1, .bool a0_2, .bool a0_3, .int .i64 a0_4, .int .u8 a0_5, .int .u8 a0_6, .int .u32 a0_7, .int .u32 a0_8, .slice A0_9 l0_9.length c0_9, .slice A0_10 l0_10.length c0_10]] rfl (by (try simp only [List.map_toArray, List.map_cons, List.map_nil]); first | done | rfl | (simp only [List.length_drop, List.length_take]; rfl)) ?_; (with_reducible refine (ip4_Build.calls k a0_0 a0_1 a0_2 a0_3 a0_4 a0_5 a0_6 a0_7 a0_8 _ _ l0_9 _ _ l0_10 t614 t617 _ ?side1 ?side2 ?side3 ?side4 A3.out).mono ?_); (case side1 => repeat (first | exact (Kd.C_below HR0_9.out HB.out) | (with_reducible refine Kd.C_alloc ?_ _) | (with_reducible refine Kd.C_drewN ?_ _) | (with_reducible refine Kd.C_drew ?_))); (case side2 => exact HC0_9.out); (case side3 => repeat (first | exact (Kd.C_below HR0_10.out HB.out) | (with_reducible refine Kd.C_alloc ?_ _) | (with_reducible refine Kd.C_drewN ?_ _) | (with_reducible refine Kd.C_drew ?_))); (case side4 => exact HC0_10.out); rintro e w144 ⟨v615, rfl, ho0, hb⟩; refine ⟨_, rfl, ?_⟩; have n0_ := Aside0.mk (Kd.R_lower ho0 (below_size zq14_5)); have n1_ := Aside0.mk (blk_below (g := gb613) (o := .cells #[.int .u8 a0_0, .int .u16 a0_1, .bool a0_2, .bool a0_3, .int .i64 a0_4, .int .u8 a0_5, .int .u8 a0_6, .int .u32 a0_7, .int .u32 a0_8, .slice A0_9 l0_9.length c0_9, .slice A0_10 l0_10.length c0_10] 43 (0, 0)) zq14_0 hb); have n2_ := Aside0.mk (below_step zq14_5 hb); clear BK613; clear HB; have HO616 := n0_; have BK613 := n1_; have HB := n2_; clear n0_ n1_ n2_; (try clear hb); (try clear hb2); (try clear hk); (try clear hi); (try clear ho0); obtain ⟨Ao145, co145, eo145⟩ := Kd.R_slice HO616.out; subst eo145))
    go_ret
    exact ⟨by first | rfl | (simp [errW_none, errW_some] <;> rfl) | (simp [*, errW_none, errW_some] <;> rfl), by repeat (first | (with_reducible first | exact HB.out | apply below_alloc | apply pw_below_drewN | apply below_drew1 | refine below_set ?_ GE613.out) | exact HB.out)⟩

end Go.Proofs.Ytbacmhegalncjaa.XB
