/- What functions of the program come to, told by a program of this session out of the translation; the kernel computes each statement out of the code.
   Conditions: none. -/
import Derived.Test.YtfjbpeadhaekbaaDoorSBase
namespace Go.Proofs.YtfjbpeadhaekbaaDoorS
open Go Go.Proofs
set_option maxRecDepth 100000
set_option linter.unusedVariables false
/-! ### weftlaw6_plays: function 44 -/
def weftlaw6_plays.ords : Nat → List (Nat × Bool)
  | _ => []
def weftlaw6_plays.joins (p : List Nat) : Bool := false
def weftlaw6_plays.s (i0_0 : Int) (I0_1 : Option Addr) (in0_1 : Nat) (ic0_1 : Nat) (i0_2 : Int) (i0_3 : Int) (i0_4 : Int) (I0_5 : Option Addr) (in0_5 : Nat) (ic0_5 : Nat) (i0_6 : Int) (i0_7 : Int) (i0_8 : Bool) (i0_9 : Bool) (i0_10 : Int) (i0_11 : Int) (i0_12 : Int) (i0_13 : Int) (i0_14 : Int) (I0_15 : Option Addr) (in0_15 : Nat) (ic0_15 : Nat) (I0_16 : Option Addr) (in0_16 : Nat) (ic0_16 : Nat) (i0_17 : Int) (i0_18 : Int) (i0_19 : Int) (i0_20 : Int) (w : World) (R : Ending → World → Prop) : Prop :=
(Let (w.heap.size) fun g1 : Nat =>
 Let (w.alloc (.cells #[.int .i64 i0_0, .slice I0_1 in0_1 ic0_1, .int .u8 i0_2, .int .u8 i0_3, .int .u32 i0_4, .slice I0_5 in0_5 ic0_5, .int .u8 i0_6, .int .u16 i0_7, .bool i0_8, .bool i0_9, .int .i64 i0_10, .int .u8 i0_11, .int .u8 i0_12, .int .u32 i0_13, .int .u32 i0_14, .slice I0_15 in0_15 ic0_15, .slice I0_16 in0_16 ic0_16, .int .u8 i0_17, .int .u8 i0_18, .int .i64 i0_19, .int .u32 i0_20] 50)) fun w2 : World =>
 ∃ x3 : Int, w2.cell? ⟨g1, 0, none⟩ = some (.int .i64 x3) ∧
((if (x3 == 1) = true then
(∃ (A4 : Option Addr) (n4_ c4_ : Nat), w2.cell? ⟨g1, 1, none⟩ = some (.slice A4 n4_ c4_) ∧
(Calls Tryd.prog 43 #[.slice A4 n4_ c4_] w2 (fun (e6 : Ending) (w5 : World) =>
 ∃ x7 : Int, ∃ x8 : Int, ∃ x9 : Int, ∃ (A10 : Option Addr) (n10_ c10_ : Nat), ∃ x11 : Int, e6 = .returned (.tuple #[.agg #[.int .u8 x7, .int .u8 x8, .int .u32 x9, .slice A10 n10_ c10_], .int .i64 x11]) ∧
(Let (w5.heap.size) fun g12 : Nat =>
 Let (w5.alloc (.cells #[.int .u8 0, .int .u8 0, .int .u32 0, .slice none 0 0] 40)) fun w13 : World =>
 May w13 ⟨g12, 0, none⟩ 4 ∧
(Let (putCells w13 ⟨g12, 0, none⟩ [.int .u8 x7, .int .u8 x8, .int .u32 x9, .slice A10 n10_ c10_] 0) fun w14 : World =>
 ∃ (A15 : Option Addr) (n15_ c15_ : Nat), w14.cell? ⟨g1, 1, none⟩ = some (.slice A15 n15_ c15_) ∧
(Calls Tryd.prog 52 #[.slice A15 n15_ c15_] w14 (fun (e17 : Ending) (w16 : World) =>
 ∃ x18 : Int, ∃ x19 : Int, ∃ x20 : Int, ∃ (A21 : Option Addr) (n21_ c21_ : Nat), ∃ x22 : Int, e17 = .returned (.tuple #[.agg #[.int .u8 x18, .int .u8 x19, .int .u32 x20, .slice A21 n21_ c21_], .int .i64 x22]) ∧
(Let (w16.heap.size) fun g23 : Nat =>
 Let (w16.alloc (.cells #[.int .u8 0, .int .u8 0, .int .u32 0, .slice none 0 0] 40)) fun w24 : World =>
 May w24 ⟨g23, 0, none⟩ 4 ∧
(Let (putCells w24 ⟨g23, 0, none⟩ [.int .u8 x18, .int .u8 x19, .int .u32 x20, .slice A21 n21_ c21_] 0) fun w25 : World =>
(if (x11 == x22) = true then
(∃ x26 : Int, ∃ x27 : Int, ∃ x28 : Int, ∃ (A29 : Option Addr) (n29_ c29_ : Nat), (4 = 4 ∧ At w25 ⟨g12, 0, none⟩ [.int .u8 x26, .int .u8 x27, .int .u32 x28, .slice A29 n29_ c29_]) ∧
(∃ x30 : Int, ∃ x31 : Int, ∃ x32 : Int, ∃ (A33 : Option Addr) (n33_ c33_ : Nat), (4 = 4 ∧ At w25 ⟨g23, 0, none⟩ [.int .u8 x30, .int .u8 x31, .int .u32 x32, .slice A33 n33_ c33_]) ∧
(Calls Tryd.prog 56 #[.agg #[.int .u8 x26, .int .u8 x27, .int .u32 x28, .slice A29 n29_ c29_], .agg #[.int .u8 x30, .int .u8 x31, .int .u32 x32, .slice A33 n33_ c33_]] w25 (fun (e35 : Ending) (w34 : World) =>
 ∃ b36 : Bool, e35 = .returned (.bool b36) ∧
(R (.returned (.bool b36)) w34)))))
else
(R (.returned (.bool false)) w25)))))))))))
else
((if (x3 == 2) = true then
(∃ x37 : Int, ∃ x38 : Int, ∃ x39 : Int, ∃ (A40 : Option Addr) (n40_ c40_ : Nat), (4 = 4 ∧ At w2 ⟨g1, 2, none⟩ [.int .u8 x37, .int .u8 x38, .int .u32 x39, .slice A40 n40_ c40_]) ∧
(Calls Tryd.prog 45 #[.agg #[.int .u8 x37, .int .u8 x38, .int .u32 x39, .slice A40 n40_ c40_]] w2 (fun (e42 : Ending) (w41 : World) =>
 ∃ (A43 : Option Addr) (n43_ c43_ : Nat), ∃ x44 : Int, e42 = .returned (.tuple #[.slice A43 n43_ c43_, .int .i64 x44]) ∧
(∃ x45 : Int, ∃ x46 : Int, ∃ x47 : Int, ∃ (A48 : Option Addr) (n48_ c48_ : Nat), (4 = 4 ∧ At w41 ⟨g1, 2, none⟩ [.int .u8 x45, .int .u8 x46, .int .u32 x47, .slice A48 n48_ c48_]) ∧
(Calls Tryd.prog 53 #[.agg #[.int .u8 x45, .int .u8 x46, .int .u32 x47, .slice A48 n48_ c48_]] w41 (fun (e50 : Ending) (w49 : World) =>
 ∃ (A51 : Option Addr) (n51_ c51_ : Nat), ∃ x52 : Int, e50 = .returned (.tuple #[.slice A51 n51_ c51_, .int .i64 x52]) ∧
((if (x44 == x52) = true then
(Calls Tryd.prog 42 #[.slice A43 n43_ c43_, .slice A51 n51_ c51_] w49 (fun (e54 : Ending) (w53 : World) =>
 ∃ b55 : Bool, e54 = .returned (.bool b55) ∧
(R (.returned (.bool b55)) w53)))
else
(R (.returned (.bool false)) w49)))))))))
else
((if (x3 == 3) = true then
(∃ x56 : Int, ∃ x57 : Int, ∃ b58 : Bool, ∃ b59 : Bool, ∃ x60 : Int, ∃ x61 : Int, ∃ x62 : Int, ∃ x63 : Int, ∃ x64 : Int, ∃ (A65 : Option Addr) (n65_ c65_ : Nat), ∃ (A66 : Option Addr) (n66_ c66_ : Nat), (11 = 11 ∧ At w2 ⟨g1, 6, none⟩ [.int .u8 x56, .int .u16 x57, .bool b58, .bool b59, .int .i64 x60, .int .u8 x61, .int .u8 x62, .int .u32 x63, .int .u32 x64, .slice A65 n65_ c65_, .slice A66 n66_ c66_]) ∧
(∃ x67 : Int, w2.cell? ⟨g1, 17, none⟩ = some (.int .u8 x67) ∧
(∃ x68 : Int, w2.cell? ⟨g1, 18, none⟩ = some (.int .u8 x68) ∧
(∃ x69 : Int, w2.cell? ⟨g1, 19, none⟩ = some (.int .i64 x69) ∧
(∃ x70 : Int, w2.cell? ⟨g1, 20, none⟩ = some (.int .u32 x70) ∧
(Calls Tryd.prog 17 #[.agg #[.int .u8 x56, .int .u16 x57, .bool b58, .bool b59, .int .i64 x60, .int .u8 x61, .int .u8 x62, .int .u32 x63, .int .u32 x64, .slice A65 n65_ c65_, .slice A66 n66_ c66_], .int .u8 x67, .int .u8 x68, .int .i64 x69, .int .u32 x70] w2 (fun (e72 : Ending) (w71 : World) =>
 ∃ x73 : Int, ∃ x74 : Int, ∃ b75 : Bool, ∃ b76 : Bool, ∃ x77 : Int, ∃ x78 : Int, ∃ x79 : Int, ∃ x80 : Int, ∃ x81 : Int, ∃ (A82 : Option Addr) (n82_ c82_ : Nat), ∃ (A83 : Option Addr) (n83_ c83_ : Nat), ∃ x84 : Int, e72 = .returned (.tuple #[.agg #[.int .u8 x73, .int .u16 x74, .bool b75, .bool b76, .int .i64 x77, .int .u8 x78, .int .u8 x79, .int .u32 x80, .int .u32 x81, .slice A82 n82_ c82_, .slice A83 n83_ c83_], .int .i64 x84]) ∧
(Let (w71.heap.size) fun g85 : Nat =>
 Let (w71.alloc (.cells #[.int .u8 0, .int .u16 0, .bool false, .bool false, .int .i64 0, .int .u8 0, .int .u8 0, .int .u32 0, .int .u32 0, .slice none 0 0, .slice none 0 0] 29)) fun w86 : World =>
 May w86 ⟨g85, 0, none⟩ 11 ∧
(Let (putCells w86 ⟨g85, 0, none⟩ [.int .u8 x73, .int .u16 x74, .bool b75, .bool b76, .int .i64 x77, .int .u8 x78, .int .u8 x79, .int .u32 x80, .int .u32 x81, .slice A82 n82_ c82_, .slice A83 n83_ c83_] 0) fun w87 : World =>
 ∃ x88 : Int, ∃ x89 : Int, ∃ b90 : Bool, ∃ b91 : Bool, ∃ x92 : Int, ∃ x93 : Int, ∃ x94 : Int, ∃ x95 : Int, ∃ x96 : Int, ∃ (A97 : Option Addr) (n97_ c97_ : Nat), ∃ (A98 : Option Addr) (n98_ c98_ : Nat), (11 = 11 ∧ At w87 ⟨g1, 6, none⟩ [.int .u8 x88, .int .u16 x89, .bool b90, .bool b91, .int .i64 x92, .int .u8 x93, .int .u8 x94, .int .u32 x95, .int .u32 x96, .slice A97 n97_ c97_, .slice A98 n98_ c98_]) ∧
(∃ x99 : Int, w87.cell? ⟨g1, 17, none⟩ = some (.int .u8 x99) ∧
(∃ x100 : Int, w87.cell? ⟨g1, 18, none⟩ = some (.int .u8 x100) ∧
(∃ x101 : Int, w87.cell? ⟨g1, 19, none⟩ = some (.int .i64 x101) ∧
(∃ x102 : Int, w87.cell? ⟨g1, 20, none⟩ = some (.int .u32 x102) ∧
(Calls Tryd.prog 47 #[.agg #[.int .u8 x88, .int .u16 x89, .bool b90, .bool b91, .int .i64 x92, .int .u8 x93, .int .u8 x94, .int .u32 x95, .int .u32 x96, .slice A97 n97_ c97_, .slice A98 n98_ c98_], .int .u8 x99, .int .u8 x100, .int .i64 x101, .int .u32 x102] w87 (fun (e104 : Ending) (w103 : World) =>
 ∃ x105 : Int, ∃ x106 : Int, ∃ b107 : Bool, ∃ b108 : Bool, ∃ x109 : Int, ∃ x110 : Int, ∃ x111 : Int, ∃ x112 : Int, ∃ x113 : Int, ∃ (A114 : Option Addr) (n114_ c114_ : Nat), ∃ (A115 : Option Addr) (n115_ c115_ : Nat), ∃ x116 : Int, e104 = .returned (.tuple #[.agg #[.int .u8 x105, .int .u16 x106, .bool b107, .bool b108, .int .i64 x109, .int .u8 x110, .int .u8 x111, .int .u32 x112, .int .u32 x113, .slice A114 n114_ c114_, .slice A115 n115_ c115_], .int .i64 x116]) ∧
(Let (w103.heap.size) fun g117 : Nat =>
 Let (w103.alloc (.cells #[.int .u8 0, .int .u16 0, .bool false, .bool false, .int .i64 0, .int .u8 0, .int .u8 0, .int .u32 0, .int .u32 0, .slice none 0 0, .slice none 0 0] 29)) fun w118 : World =>
 May w118 ⟨g117, 0, none⟩ 11 ∧
(Let (putCells w118 ⟨g117, 0, none⟩ [.int .u8 x105, .int .u16 x106, .bool b107, .bool b108, .int .i64 x109, .int .u8 x110, .int .u8 x111, .int .u32 x112, .int .u32 x113, .slice A114 n114_ c114_, .slice A115 n115_ c115_] 0) fun w119 : World =>
(if (x84 == x116) = true then
(∃ x120 : Int, ∃ x121 : Int, ∃ b122 : Bool, ∃ b123 : Bool, ∃ x124 : Int, ∃ x125 : Int, ∃ x126 : Int, ∃ x127 : Int, ∃ x128 : Int, ∃ (A129 : Option Addr) (n129_ c129_ : Nat), ∃ (A130 : Option Addr) (n130_ c130_ : Nat), (11 = 11 ∧ At w119 ⟨g85, 0, none⟩ [.int .u8 x120, .int .u16 x121, .bool b122, .bool b123, .int .i64 x124, .int .u8 x125, .int .u8 x126, .int .u32 x127, .int .u32 x128, .slice A129 n129_ c129_, .slice A130 n130_ c130_]) ∧
(∃ x131 : Int, ∃ x132 : Int, ∃ b133 : Bool, ∃ b134 : Bool, ∃ x135 : Int, ∃ x136 : Int, ∃ x137 : Int, ∃ x138 : Int, ∃ x139 : Int, ∃ (A140 : Option Addr) (n140_ c140_ : Nat), ∃ (A141 : Option Addr) (n141_ c141_ : Nat), (11 = 11 ∧ At w119 ⟨g117, 0, none⟩ [.int .u8 x131, .int .u16 x132, .bool b133, .bool b134, .int .i64 x135, .int .u8 x136, .int .u8 x137, .int .u32 x138, .int .u32 x139, .slice A140 n140_ c140_, .slice A141 n141_ c141_]) ∧
(Calls Tryd.prog 32 #[.agg #[.int .u8 x120, .int .u16 x121, .bool b122, .bool b123, .int .i64 x124, .int .u8 x125, .int .u8 x126, .int .u32 x127, .int .u32 x128, .slice A129 n129_ c129_, .slice A130 n130_ c130_], .agg #[.int .u8 x131, .int .u16 x132, .bool b133, .bool b134, .int .i64 x135, .int .u8 x136, .int .u8 x137, .int .u32 x138, .int .u32 x139, .slice A140 n140_ c140_, .slice A141 n141_ c141_]] w119 (fun (e143 : Ending) (w142 : World) =>
 ∃ b144 : Bool, e143 = .returned (.bool b144) ∧
(R (.returned (.bool b144)) w142)))))
else
(R (.returned (.bool false)) w119)))))))))))))))))))
else
((if (x3 == 4) = true then
(∃ x145 : Int, ∃ x146 : Int, ∃ b147 : Bool, ∃ b148 : Bool, ∃ x149 : Int, ∃ x150 : Int, ∃ x151 : Int, ∃ x152 : Int, ∃ x153 : Int, ∃ (A154 : Option Addr) (n154_ c154_ : Nat), ∃ (A155 : Option Addr) (n155_ c155_ : Nat), (11 = 11 ∧ At w2 ⟨g1, 6, none⟩ [.int .u8 x145, .int .u16 x146, .bool b147, .bool b148, .int .i64 x149, .int .u8 x150, .int .u8 x151, .int .u32 x152, .int .u32 x153, .slice A154 n154_ c154_, .slice A155 n155_ c155_]) ∧
(Calls Tryd.prog 39 #[.agg #[.int .u8 x145, .int .u16 x146, .bool b147, .bool b148, .int .i64 x149, .int .u8 x150, .int .u8 x151, .int .u32 x152, .int .u32 x153, .slice A154 n154_ c154_, .slice A155 n155_ c155_]] w2 (fun (e157 : Ending) (w156 : World) =>
 ∃ x158 : Int, ∃ x159 : Int, ∃ b160 : Bool, ∃ b161 : Bool, ∃ x162 : Int, ∃ x163 : Int, ∃ x164 : Int, ∃ x165 : Int, ∃ x166 : Int, ∃ (A167 : Option Addr) (n167_ c167_ : Nat), ∃ (A168 : Option Addr) (n168_ c168_ : Nat), ∃ x169 : Int, e157 = .returned (.tuple #[.agg #[.int .u8 x158, .int .u16 x159, .bool b160, .bool b161, .int .i64 x162, .int .u8 x163, .int .u8 x164, .int .u32 x165, .int .u32 x166, .slice A167 n167_ c167_, .slice A168 n168_ c168_], .int .i64 x169]) ∧
(Let (w156.heap.size) fun g170 : Nat =>
 Let (w156.alloc (.cells #[.int .u8 0, .int .u16 0, .bool false, .bool false, .int .i64 0, .int .u8 0, .int .u8 0, .int .u32 0, .int .u32 0, .slice none 0 0, .slice none 0 0] 29)) fun w171 : World =>
 May w171 ⟨g170, 0, none⟩ 11 ∧
(Let (putCells w171 ⟨g170, 0, none⟩ [.int .u8 x158, .int .u16 x159, .bool b160, .bool b161, .int .i64 x162, .int .u8 x163, .int .u8 x164, .int .u32 x165, .int .u32 x166, .slice A167 n167_ c167_, .slice A168 n168_ c168_] 0) fun w172 : World =>
 ∃ x173 : Int, ∃ x174 : Int, ∃ b175 : Bool, ∃ b176 : Bool, ∃ x177 : Int, ∃ x178 : Int, ∃ x179 : Int, ∃ x180 : Int, ∃ x181 : Int, ∃ (A182 : Option Addr) (n182_ c182_ : Nat), ∃ (A183 : Option Addr) (n183_ c183_ : Nat), (11 = 11 ∧ At w172 ⟨g1, 6, none⟩ [.int .u8 x173, .int .u16 x174, .bool b175, .bool b176, .int .i64 x177, .int .u8 x178, .int .u8 x179, .int .u32 x180, .int .u32 x181, .slice A182 n182_ c182_, .slice A183 n183_ c183_]) ∧
(Calls Tryd.prog 54 #[.agg #[.int .u8 x173, .int .u16 x174, .bool b175, .bool b176, .int .i64 x177, .int .u8 x178, .int .u8 x179, .int .u32 x180, .int .u32 x181, .slice A182 n182_ c182_, .slice A183 n183_ c183_]] w172 (fun (e185 : Ending) (w184 : World) =>
 ∃ x186 : Int, ∃ x187 : Int, ∃ b188 : Bool, ∃ b189 : Bool, ∃ x190 : Int, ∃ x191 : Int, ∃ x192 : Int, ∃ x193 : Int, ∃ x194 : Int, ∃ (A195 : Option Addr) (n195_ c195_ : Nat), ∃ (A196 : Option Addr) (n196_ c196_ : Nat), ∃ x197 : Int, e185 = .returned (.tuple #[.agg #[.int .u8 x186, .int .u16 x187, .bool b188, .bool b189, .int .i64 x190, .int .u8 x191, .int .u8 x192, .int .u32 x193, .int .u32 x194, .slice A195 n195_ c195_, .slice A196 n196_ c196_], .int .i64 x197]) ∧
(Let (w184.heap.size) fun g198 : Nat =>
 Let (w184.alloc (.cells #[.int .u8 0, .int .u16 0, .bool false, .bool false, .int .i64 0, .int .u8 0, .int .u8 0, .int .u32 0, .int .u32 0, .slice none 0 0, .slice none 0 0] 29)) fun w199 : World =>
 May w199 ⟨g198, 0, none⟩ 11 ∧
(Let (putCells w199 ⟨g198, 0, none⟩ [.int .u8 x186, .int .u16 x187, .bool b188, .bool b189, .int .i64 x190, .int .u8 x191, .int .u8 x192, .int .u32 x193, .int .u32 x194, .slice A195 n195_ c195_, .slice A196 n196_ c196_] 0) fun w200 : World =>
(if (x169 == x197) = true then
(∃ x201 : Int, ∃ x202 : Int, ∃ b203 : Bool, ∃ b204 : Bool, ∃ x205 : Int, ∃ x206 : Int, ∃ x207 : Int, ∃ x208 : Int, ∃ x209 : Int, ∃ (A210 : Option Addr) (n210_ c210_ : Nat), ∃ (A211 : Option Addr) (n211_ c211_ : Nat), (11 = 11 ∧ At w200 ⟨g170, 0, none⟩ [.int .u8 x201, .int .u16 x202, .bool b203, .bool b204, .int .i64 x205, .int .u8 x206, .int .u8 x207, .int .u32 x208, .int .u32 x209, .slice A210 n210_ c210_, .slice A211 n211_ c211_]) ∧
(∃ x212 : Int, ∃ x213 : Int, ∃ b214 : Bool, ∃ b215 : Bool, ∃ x216 : Int, ∃ x217 : Int, ∃ x218 : Int, ∃ x219 : Int, ∃ x220 : Int, ∃ (A221 : Option Addr) (n221_ c221_ : Nat), ∃ (A222 : Option Addr) (n222_ c222_ : Nat), (11 = 11 ∧ At w200 ⟨g198, 0, none⟩ [.int .u8 x212, .int .u16 x213, .bool b214, .bool b215, .int .i64 x216, .int .u8 x217, .int .u8 x218, .int .u32 x219, .int .u32 x220, .slice A221 n221_ c221_, .slice A222 n222_ c222_]) ∧
(Calls Tryd.prog 32 #[.agg #[.int .u8 x201, .int .u16 x202, .bool b203, .bool b204, .int .i64 x205, .int .u8 x206, .int .u8 x207, .int .u32 x208, .int .u32 x209, .slice A210 n210_ c210_, .slice A211 n211_ c211_], .agg #[.int .u8 x212, .int .u16 x213, .bool b214, .bool b215, .int .i64 x216, .int .u8 x217, .int .u8 x218, .int .u32 x219, .int .u32 x220, .slice A221 n221_ c221_, .slice A222 n222_ c222_]] w200 (fun (e224 : Ending) (w223 : World) =>
 ∃ b225 : Bool, e224 = .returned (.bool b225) ∧
(R (.returned (.bool b225)) w223)))))
else
(R (.returned (.bool false)) w200)))))))))))
else
((if (x3 == 5) = true then
(∃ x226 : Int, ∃ x227 : Int, ∃ b228 : Bool, ∃ b229 : Bool, ∃ x230 : Int, ∃ x231 : Int, ∃ x232 : Int, ∃ x233 : Int, ∃ x234 : Int, ∃ (A235 : Option Addr) (n235_ c235_ : Nat), ∃ (A236 : Option Addr) (n236_ c236_ : Nat), (11 = 11 ∧ At w2 ⟨g1, 6, none⟩ [.int .u8 x226, .int .u16 x227, .bool b228, .bool b229, .int .i64 x230, .int .u8 x231, .int .u8 x232, .int .u32 x233, .int .u32 x234, .slice A235 n235_ c235_, .slice A236 n236_ c236_]) ∧
(Calls Tryd.prog 40 #[.agg #[.int .u8 x226, .int .u16 x227, .bool b228, .bool b229, .int .i64 x230, .int .u8 x231, .int .u8 x232, .int .u32 x233, .int .u32 x234, .slice A235 n235_ c235_, .slice A236 n236_ c236_]] w2 (fun (e238 : Ending) (w237 : World) =>
 ∃ x239 : Int, ∃ x240 : Int, ∃ b241 : Bool, ∃ b242 : Bool, ∃ x243 : Int, ∃ x244 : Int, ∃ x245 : Int, ∃ x246 : Int, ∃ x247 : Int, ∃ (A248 : Option Addr) (n248_ c248_ : Nat), ∃ (A249 : Option Addr) (n249_ c249_ : Nat), ∃ x250 : Int, e238 = .returned (.tuple #[.agg #[.int .u8 x239, .int .u16 x240, .bool b241, .bool b242, .int .i64 x243, .int .u8 x244, .int .u8 x245, .int .u32 x246, .int .u32 x247, .slice A248 n248_ c248_], .slice A249 n249_ c249_, .int .i64 x250]) ∧
(Let (w237.heap.size) fun g251 : Nat =>
 Let (w237.alloc (.cells #[.int .u8 0, .int .u16 0, .bool false, .bool false, .int .i64 0, .int .u8 0, .int .u8 0, .int .u32 0, .int .u32 0, .slice none 0 0] 27)) fun w252 : World =>
 May w252 ⟨g251, 0, none⟩ 10 ∧
(Let (putCells w252 ⟨g251, 0, none⟩ [.int .u8 x239, .int .u16 x240, .bool b241, .bool b242, .int .i64 x243, .int .u8 x244, .int .u8 x245, .int .u32 x246, .int .u32 x247, .slice A248 n248_ c248_] 0) fun w253 : World =>
 ∃ x254 : Int, ∃ x255 : Int, ∃ b256 : Bool, ∃ b257 : Bool, ∃ x258 : Int, ∃ x259 : Int, ∃ x260 : Int, ∃ x261 : Int, ∃ x262 : Int, ∃ (A263 : Option Addr) (n263_ c263_ : Nat), ∃ (A264 : Option Addr) (n264_ c264_ : Nat), (11 = 11 ∧ At w253 ⟨g1, 6, none⟩ [.int .u8 x254, .int .u16 x255, .bool b256, .bool b257, .int .i64 x258, .int .u8 x259, .int .u8 x260, .int .u32 x261, .int .u32 x262, .slice A263 n263_ c263_, .slice A264 n264_ c264_]) ∧
(Calls Tryd.prog 55 #[.agg #[.int .u8 x254, .int .u16 x255, .bool b256, .bool b257, .int .i64 x258, .int .u8 x259, .int .u8 x260, .int .u32 x261, .int .u32 x262, .slice A263 n263_ c263_, .slice A264 n264_ c264_]] w253 (fun (e266 : Ending) (w265 : World) =>
 ∃ x267 : Int, ∃ x268 : Int, ∃ b269 : Bool, ∃ b270 : Bool, ∃ x271 : Int, ∃ x272 : Int, ∃ x273 : Int, ∃ x274 : Int, ∃ x275 : Int, ∃ (A276 : Option Addr) (n276_ c276_ : Nat), ∃ (A277 : Option Addr) (n277_ c277_ : Nat), ∃ x278 : Int, e266 = .returned (.tuple #[.agg #[.int .u8 x267, .int .u16 x268, .bool b269, .bool b270, .int .i64 x271, .int .u8 x272, .int .u8 x273, .int .u32 x274, .int .u32 x275, .slice A276 n276_ c276_], .slice A277 n277_ c277_, .int .i64 x278]) ∧
(Let (w265.heap.size) fun g279 : Nat =>
 Let (w265.alloc (.cells #[.int .u8 0, .int .u16 0, .bool false, .bool false, .int .i64 0, .int .u8 0, .int .u8 0, .int .u32 0, .int .u32 0, .slice none 0 0] 27)) fun w280 : World =>
 May w280 ⟨g279, 0, none⟩ 10 ∧
(Let (putCells w280 ⟨g279, 0, none⟩ [.int .u8 x267, .int .u16 x268, .bool b269, .bool b270, .int .i64 x271, .int .u8 x272, .int .u8 x273, .int .u32 x274, .int .u32 x275, .slice A276 n276_ c276_] 0) fun w281 : World =>
(if (x250 == x278) = true then
(∃ x282 : Int, ∃ x283 : Int, ∃ b284 : Bool, ∃ b285 : Bool, ∃ x286 : Int, ∃ x287 : Int, ∃ x288 : Int, ∃ x289 : Int, ∃ x290 : Int, ∃ (A291 : Option Addr) (n291_ c291_ : Nat), (10 = 10 ∧ At w281 ⟨g251, 0, none⟩ [.int .u8 x282, .int .u16 x283, .bool b284, .bool b285, .int .i64 x286, .int .u8 x287, .int .u8 x288, .int .u32 x289, .int .u32 x290, .slice A291 n291_ c291_]) ∧
(∃ x292 : Int, ∃ x293 : Int, ∃ b294 : Bool, ∃ b295 : Bool, ∃ x296 : Int, ∃ x297 : Int, ∃ x298 : Int, ∃ x299 : Int, ∃ x300 : Int, ∃ (A301 : Option Addr) (n301_ c301_ : Nat), (10 = 10 ∧ At w281 ⟨g279, 0, none⟩ [.int .u8 x292, .int .u16 x293, .bool b294, .bool b295, .int .i64 x296, .int .u8 x297, .int .u8 x298, .int .u32 x299, .int .u32 x300, .slice A301 n301_ c301_]) ∧
(Calls Tryd.prog 41 #[.agg #[.int .u8 x282, .int .u16 x283, .bool b284, .bool b285, .int .i64 x286, .int .u8 x287, .int .u8 x288, .int .u32 x289, .int .u32 x290, .slice A291 n291_ c291_], .agg #[.int .u8 x292, .int .u16 x293, .bool b294, .bool b295, .int .i64 x296, .int .u8 x297, .int .u8 x298, .int .u32 x299, .int .u32 x300, .slice A301 n301_ c301_]] w281 (fun (e303 : Ending) (w302 : World) =>
 ∃ b304 : Bool, e303 = .returned (.bool b304) ∧
((if b304 = true then
(Calls Tryd.prog 42 #[.slice A249 n249_ c249_, .slice A277 n277_ c277_] w302 (fun (e306 : Ending) (w305 : World) =>
 ∃ b307 : Bool, e306 = .returned (.bool b307) ∧
(R (.returned (.bool b307)) w305)))
else
(R (.returned (.bool false)) w302)))))))
else
(R (.returned (.bool false)) w281)))))))))))
else
(R (.returned (.bool true)) w2))))))))))))
theorem weftlaw6_plays.s_eq (i0_0 : Int) (I0_1 : Option Addr) (in0_1 : Nat) (ic0_1 : Nat) (i0_2 : Int) (i0_3 : Int) (i0_4 : Int) (I0_5 : Option Addr) (in0_5 : Nat) (ic0_5 : Nat) (i0_6 : Int) (i0_7 : Int) (i0_8 : Bool) (i0_9 : Bool) (i0_10 : Int) (i0_11 : Int) (i0_12 : Int) (i0_13 : Int) (i0_14 : Int) (I0_15 : Option Addr) (in0_15 : Nat) (ic0_15 : Nat) (I0_16 : Option Addr) (in0_16 : Nat) (ic0_16 : Nat) (i0_17 : Int) (i0_18 : Int) (i0_19 : Int) (i0_20 : Int) (w : World) (R : Ending → World → Prop) : seg Tryd.prog entE weftlaw6_plays.ords weftlaw6_plays.joins Tryd.f44 [] [] [] ([.agg #[.int .i64 i0_0, .slice I0_1 in0_1 ic0_1, .int .u8 i0_2, .int .u8 i0_3, .int .u32 i0_4, .slice I0_5 in0_5 ic0_5, .int .u8 i0_6, .int .u16 i0_7, .bool i0_8, .bool i0_9, .int .i64 i0_10, .int .u8 i0_11, .int .u8 i0_12, .int .u32 i0_13, .int .u32 i0_14, .slice I0_15 in0_15 ic0_15, .slice I0_16 in0_16 ic0_16, .int .u8 i0_17, .int .u8 i0_18, .int .i64 i0_19, .int .u32 i0_20]] ++ List.replicate (Tryd.f44.ntmps - ([.agg #[.int .i64 i0_0, .slice I0_1 in0_1 ic0_1, .int .u8 i0_2, .int .u8 i0_3, .int .u32 i0_4, .slice I0_5 in0_5 ic0_5, .int .u8 i0_6, .int .u16 i0_7, .bool i0_8, .bool i0_9, .int .i64 i0_10, .int .u8 i0_11, .int .u8 i0_12, .int .u32 i0_13, .int .u32 i0_14, .slice I0_15 in0_15 ic0_15, .slice I0_16 in0_16 ic0_16, .int .u8 i0_17, .int .u8 i0_18, .int .i64 i0_19, .int .u32 i0_20]] : List Value).length) undef) w R = weftlaw6_plays.s i0_0 I0_1 in0_1 ic0_1 i0_2 i0_3 i0_4 I0_5 in0_5 ic0_5 i0_6 i0_7 i0_8 i0_9 i0_10 i0_11 i0_12 i0_13 i0_14 I0_15 in0_15 ic0_15 I0_16 in0_16 ic0_16 i0_17 i0_18 i0_19 i0_20 w R := by kernel_rfl
theorem weftlaw6_plays.run {i0_0 : Int} {I0_1 : Option Addr} {in0_1 : Nat} {ic0_1 : Nat} {i0_2 : Int} {i0_3 : Int} {i0_4 : Int} {I0_5 : Option Addr} {in0_5 : Nat} {ic0_5 : Nat} {i0_6 : Int} {i0_7 : Int} {i0_8 : Bool} {i0_9 : Bool} {i0_10 : Int} {i0_11 : Int} {i0_12 : Int} {i0_13 : Int} {i0_14 : Int} {I0_15 : Option Addr} {in0_15 : Nat} {ic0_15 : Nat} {I0_16 : Option Addr} {in0_16 : Nat} {ic0_16 : Nat} {i0_17 : Int} {i0_18 : Int} {i0_19 : Int} {i0_20 : Int} {w : World} {R : Ending → World → Prop} (h : weftlaw6_plays.s i0_0 I0_1 in0_1 ic0_1 i0_2 i0_3 i0_4 I0_5 in0_5 ic0_5 i0_6 i0_7 i0_8 i0_9 i0_10 i0_11 i0_12 i0_13 i0_14 I0_15 in0_15 ic0_15 I0_16 in0_16 ic0_16 i0_17 i0_18 i0_19 i0_20 w R) : Calls Tryd.prog 44 #[.agg #[.int .i64 i0_0, .slice I0_1 in0_1 ic0_1, .int .u8 i0_2, .int .u8 i0_3, .int .u32 i0_4, .slice I0_5 in0_5 ic0_5, .int .u8 i0_6, .int .u16 i0_7, .bool i0_8, .bool i0_9, .int .i64 i0_10, .int .u8 i0_11, .int .u8 i0_12, .int .u32 i0_13, .int .u32 i0_14, .slice I0_15 in0_15 ic0_15, .slice I0_16 in0_16 ic0_16, .int .u8 i0_17, .int .u8 i0_18, .int .i64 i0_19, .int .u32 i0_20]] w R :=
  calls_seg ents mixed Tryd.func44 rfl (by rw [weftlaw6_plays.s_eq]; exact h)
/-! ### weftlaw6_head: function 22 -/
def weftlaw6_head.ords : Nat → List (Nat × Bool)
  | _ => []
def weftlaw6_head.joins (p : List Nat) : Bool := false
def weftlaw6_head.s (i0 : Int) (w : World) (R : Ending → World → Prop) : Prop :=
((if (i0 == 1) = true then
(Calls Tryd.prog 46 #[] w (fun (e2 : Ending) (w1 : World) =>
 ∃ x3 : Int, ∃ x4 : Int, ∃ b5 : Bool, ∃ b6 : Bool, ∃ x7 : Int, ∃ x8 : Int, ∃ x9 : Int, ∃ x10 : Int, ∃ x11 : Int, ∃ (A12 : Option Addr) (n12_ c12_ : Nat), ∃ (A13 : Option Addr) (n13_ c13_ : Nat), e2 = .returned (.agg #[.int .u8 x3, .int .u16 x4, .bool b5, .bool b6, .int .i64 x7, .int .u8 x8, .int .u8 x9, .int .u32 x10, .int .u32 x11, .slice A12 n12_ c12_, .slice A13 n13_ c13_]) ∧
(Calls Tryd.prog 44 #[.agg #[.int .i64 1, .slice A13 n13_ c13_, .int .u8 0, .int .u8 0, .int .u32 0, .slice none 0 0, .int .u8 0, .int .u16 0, .bool false, .bool false, .int .i64 0, .int .u8 0, .int .u8 0, .int .u32 0, .int .u32 0, .slice none 0 0, .slice none 0 0, .int .u8 0, .int .u8 0, .int .i64 0, .int .u32 0]] w1 (fun (e15 : Ending) (w14 : World) =>
 ∃ b16 : Bool, e15 = .returned (.bool b16) ∧
(R (.returned (.bool b16)) w14)))))
else
((if (i0 == 2) = true then
(Let (w.heap.size) fun g17 : Nat =>
 Let (w.alloc (.cells #[.int .u8 97, .int .u8 98, .int .u8 99] 5)) fun w18 : World =>
 Calls Tryd.prog 44 #[.agg #[.int .i64 2, .slice none 0 0, .int .u8 8, .int .u8 0, .int .u32 65538, .slice (some ⟨g17, 0, none⟩) 3 3, .int .u8 0, .int .u16 0, .bool false, .bool false, .int .i64 0, .int .u8 0, .int .u8 0, .int .u32 0, .int .u32 0, .slice none 0 0, .slice none 0 0, .int .u8 0, .int .u8 0, .int .i64 0, .int .u32 0]] w18 (fun (e20 : Ending) (w19 : World) =>
 ∃ b21 : Bool, e20 = .returned (.bool b21) ∧
(R (.returned (.bool b21)) w19)))
else
((if (i0 == 3) = true then
(Calls Tryd.prog 16 #[] w (fun (e23 : Ending) (w22 : World) =>
 ∃ x24 : Int, ∃ x25 : Int, ∃ b26 : Bool, ∃ b27 : Bool, ∃ x28 : Int, ∃ x29 : Int, ∃ x30 : Int, ∃ x31 : Int, ∃ x32 : Int, ∃ (A33 : Option Addr) (n33_ c33_ : Nat), ∃ (A34 : Option Addr) (n34_ c34_ : Nat), e23 = .returned (.agg #[.int .u8 x24, .int .u16 x25, .bool b26, .bool b27, .int .i64 x28, .int .u8 x29, .int .u8 x30, .int .u32 x31, .int .u32 x32, .slice A33 n33_ c33_, .slice A34 n34_ c34_]) ∧
(Calls Tryd.prog 44 #[.agg #[.int .i64 3, .slice none 0 0, .int .u8 0, .int .u8 0, .int .u32 0, .slice none 0 0, .int .u8 x24, .int .u16 x25, .bool b26, .bool b27, .int .i64 x28, .int .u8 x29, .int .u8 x30, .int .u32 x31, .int .u32 x32, .slice A33 n33_ c33_, .slice A34 n34_ c34_, .int .u8 11, .int .u8 0, .int .i64 0, .int .u32 167838209]] w22 (fun (e36 : Ending) (w35 : World) =>
 ∃ b37 : Bool, e36 = .returned (.bool b37) ∧
(R (.returned (.bool b37)) w35)))))
else
((if (i0 == 4) = true then
(Calls Tryd.prog 46 #[] w (fun (e39 : Ending) (w38 : World) =>
 ∃ x40 : Int, ∃ x41 : Int, ∃ b42 : Bool, ∃ b43 : Bool, ∃ x44 : Int, ∃ x45 : Int, ∃ x46 : Int, ∃ x47 : Int, ∃ x48 : Int, ∃ (A49 : Option Addr) (n49_ c49_ : Nat), ∃ (A50 : Option Addr) (n50_ c50_ : Nat), e39 = .returned (.agg #[.int .u8 x40, .int .u16 x41, .bool b42, .bool b43, .int .i64 x44, .int .u8 x45, .int .u8 x46, .int .u32 x47, .int .u32 x48, .slice A49 n49_ c49_, .slice A50 n50_ c50_]) ∧
(Calls Tryd.prog 44 #[.agg #[.int .i64 4, .slice none 0 0, .int .u8 0, .int .u8 0, .int .u32 0, .slice none 0 0, .int .u8 x40, .int .u16 x41, .bool b42, .bool b43, .int .i64 x44, .int .u8 x45, .int .u8 x46, .int .u32 x47, .int .u32 x48, .slice A49 n49_ c49_, .slice A50 n50_ c50_, .int .u8 0, .int .u8 0, .int .i64 0, .int .u32 0]] w38 (fun (e52 : Ending) (w51 : World) =>
 ∃ b53 : Bool, e52 = .returned (.bool b53) ∧
(R (.returned (.bool b53)) w51)))))
else
(Calls Tryd.prog 16 #[] w (fun (e55 : Ending) (w54 : World) =>
 ∃ x56 : Int, ∃ x57 : Int, ∃ b58 : Bool, ∃ b59 : Bool, ∃ x60 : Int, ∃ x61 : Int, ∃ x62 : Int, ∃ x63 : Int, ∃ x64 : Int, ∃ (A65 : Option Addr) (n65_ c65_ : Nat), ∃ (A66 : Option Addr) (n66_ c66_ : Nat), e55 = .returned (.agg #[.int .u8 x56, .int .u16 x57, .bool b58, .bool b59, .int .i64 x60, .int .u8 x61, .int .u8 x62, .int .u32 x63, .int .u32 x64, .slice A65 n65_ c65_, .slice A66 n66_ c66_]) ∧
(Calls Tryd.prog 47 #[.agg #[.int .u8 x56, .int .u16 x57, .bool b58, .bool b59, .int .i64 x60, .int .u8 x61, .int .u8 x62, .int .u32 x63, .int .u32 x64, .slice A65 n65_ c65_, .slice A66 n66_ c66_], .int .u8 11, .int .u8 0, .int .i64 0, .int .u32 167838209] w54 (fun (e68 : Ending) (w67 : World) =>
 ∃ x69 : Int, ∃ x70 : Int, ∃ b71 : Bool, ∃ b72 : Bool, ∃ x73 : Int, ∃ x74 : Int, ∃ x75 : Int, ∃ x76 : Int, ∃ x77 : Int, ∃ (A78 : Option Addr) (n78_ c78_ : Nat), ∃ (A79 : Option Addr) (n79_ c79_ : Nat), ∃ x80 : Int, e68 = .returned (.tuple #[.agg #[.int .u8 x69, .int .u16 x70, .bool b71, .bool b72, .int .i64 x73, .int .u8 x74, .int .u8 x75, .int .u32 x76, .int .u32 x77, .slice A78 n78_ c78_, .slice A79 n79_ c79_], .int .i64 x80]) ∧
(Let (w67.heap.size) fun g81 : Nat =>
 Let (w67.alloc (.cells #[.int .u8 0, .int .u16 0, .bool false, .bool false, .int .i64 0, .int .u8 0, .int .u8 0, .int .u32 0, .int .u32 0, .slice none 0 0, .slice none 0 0] 29)) fun w82 : World =>
 May w82 ⟨g81, 0, none⟩ 11 ∧
(Let (putCells w82 ⟨g81, 0, none⟩ [.int .u8 x69, .int .u16 x70, .bool b71, .bool b72, .int .i64 x73, .int .u8 x74, .int .u8 x75, .int .u32 x76, .int .u32 x77, .slice A78 n78_ c78_, .slice A79 n79_ c79_] 0) fun w83 : World =>
 ∃ x84 : Int, ∃ x85 : Int, ∃ b86 : Bool, ∃ b87 : Bool, ∃ x88 : Int, ∃ x89 : Int, ∃ x90 : Int, ∃ x91 : Int, ∃ x92 : Int, ∃ (A93 : Option Addr) (n93_ c93_ : Nat), ∃ (A94 : Option Addr) (n94_ c94_ : Nat), (11 = 11 ∧ At w83 ⟨g81, 0, none⟩ [.int .u8 x84, .int .u16 x85, .bool b86, .bool b87, .int .i64 x88, .int .u8 x89, .int .u8 x90, .int .u32 x91, .int .u32 x92, .slice A93 n93_ c93_, .slice A94 n94_ c94_]) ∧
(Calls Tryd.prog 44 #[.agg #[.int .i64 5, .slice none 0 0, .int .u8 0, .int .u8 0, .int .u32 0, .slice none 0 0, .int .u8 x84, .int .u16 x85, .bool b86, .bool b87, .int .i64 x88, .int .u8 x89, .int .u8 x90, .int .u32 x91, .int .u32 x92, .slice A93 n93_ c93_, .slice A94 n94_ c94_, .int .u8 0, .int .u8 0, .int .i64 0, .int .u32 0]] w83 (fun (e96 : Ending) (w95 : World) =>
 ∃ b97 : Bool, e96 = .returned (.bool b97) ∧
(R (.returned (.bool b97)) w95)))))))))))))))))
theorem weftlaw6_head.s_eq (i0 : Int) (w : World) (R : Ending → World → Prop) : seg Tryd.prog entE weftlaw6_head.ords weftlaw6_head.joins Tryd.f22 [] [] [] ([.int .i64 i0] ++ List.replicate (Tryd.f22.ntmps - ([.int .i64 i0] : List Value).length) undef) w R = weftlaw6_head.s i0 w R := by kernel_rfl
theorem weftlaw6_head.run {i0 : Int} {w : World} {R : Ending → World → Prop} (h : weftlaw6_head.s i0 w R) : Calls Tryd.prog 22 #[.int .i64 i0] w R :=
  calls_seg ents mixed Tryd.func22 rfl (by rw [weftlaw6_head.s_eq]; exact h)
/-! ### weftlaw6_upTo: function 20 -/
def weftlaw6_upTo.ords : Nat → List (Nat × Bool)
  | _ => []
def weftlaw6_upTo.joins (p : List Nat) : Bool := false
def weftlaw6_upTo.l1 (n : Nat) (Y0 : Option Addr) (yn0 : Nat) (yc0 : Nat) (y1 : Int) (y2 : Int) (y7 : Int) (d3 d4 d5 d6 d8 d9 d10 d11 d12 d13 d14 d15 d16 d17 d18 d19 d20 d21 d22 d23 d24 d25 d26 d27 d28 d29 d30 d31 d32 d33 d34 d35 d36 d37 d38 d39 d40 d41 d42 d43 : Value) (w : World) (R : Ending → World → Prop) : Prop :=
  lseg Tryd.prog entE weftlaw6_upTo.ords weftlaw6_upTo.joins Tryd.f20 [1, 0, 1, 0] [0, 1, 0, 1] [] n [.slice Y0 yn0 yc0, .int .i64 y1, .int .i64 y2, d3, d4, d5, d6, .int .i64 y7, d8, d9, d10, d11, d12, d13, d14, d15, d16, d17, d18, d19, d20, d21, d22, d23, d24, d25, d26, d27, d28, d29, d30, d31, d32, d33, d34, d35, d36, d37, d38, d39, d40, d41, d42, d43] w R
def weftlaw6_upTo.l2 (n : Nat) (Y0 : Option Addr) (yn0 : Nat) (yc0 : Nat) (y1 : Int) (y2 : Int) (y8 : Int) (d3 d4 d5 d6 d7 d9 d10 d11 d12 d13 d14 d15 d16 d17 d18 d19 d20 d21 d22 d23 d24 d25 d26 d27 d28 d29 d30 d31 d32 d33 d34 d35 d36 d37 d38 d39 d40 d41 d42 d43 : Value) (w : World) (R : Ending → World → Prop) : Prop :=
  lseg Tryd.prog entE weftlaw6_upTo.ords weftlaw6_upTo.joins Tryd.f20 [1, 1, 0, 1, 0] [0, 1, 0, 1, 1] [] n [.slice Y0 yn0 yc0, .int .i64 y1, .int .i64 y2, d3, d4, d5, d6, d7, .int .i64 y8, d9, d10, d11, d12, d13, d14, d15, d16, d17, d18, d19, d20, d21, d22, d23, d24, d25, d26, d27, d28, d29, d30, d31, d32, d33, d34, d35, d36, d37, d38, d39, d40, d41, d42, d43] w R
abbrev weftlaw6_upTo.L1 (n : Nat) (Y0 : Option Addr) (yn0 : Nat) (yc0 : Nat) (y1 : Int) (y2 : Int) (y7 : Int) (w : World) (R : Ending → World → Prop) : Prop := ∀ d3 d4 d5 d6 d8 d9 d10 d11 d12 d13 d14 d15 d16 d17 d18 d19 d20 d21 d22 d23 d24 d25 d26 d27 d28 d29 d30 d31 d32 d33 d34 d35 d36 d37 d38 d39 d40 d41 d42 d43 : Value, weftlaw6_upTo.l1 n Y0 yn0 yc0 y1 y2 y7 d3 d4 d5 d6 d8 d9 d10 d11 d12 d13 d14 d15 d16 d17 d18 d19 d20 d21 d22 d23 d24 d25 d26 d27 d28 d29 d30 d31 d32 d33 d34 d35 d36 d37 d38 d39 d40 d41 d42 d43 w R
abbrev weftlaw6_upTo.L2 (n : Nat) (Y0 : Option Addr) (yn0 : Nat) (yc0 : Nat) (y1 : Int) (y2 : Int) (y8 : Int) (w : World) (R : Ending → World → Prop) : Prop := ∀ d3 d4 d5 d6 d7 d9 d10 d11 d12 d13 d14 d15 d16 d17 d18 d19 d20 d21 d22 d23 d24 d25 d26 d27 d28 d29 d30 d31 d32 d33 d34 d35 d36 d37 d38 d39 d40 d41 d42 d43 : Value, weftlaw6_upTo.l2 n Y0 yn0 yc0 y1 y2 y8 d3 d4 d5 d6 d7 d9 d10 d11 d12 d13 d14 d15 d16 d17 d18 d19 d20 d21 d22 d23 d24 d25 d26 d27 d28 d29 d30 d31 d32 d33 d34 d35 d36 d37 d38 d39 d40 d41 d42 d43 w R
theorem weftlaw6_upTo.l1_eq (n : Nat) (Y0 : Option Addr) (yn0 : Nat) (yc0 : Nat) (y1 : Int) (y2 : Int) (y7 : Int) (d3 d4 d5 d6 d8 d9 d10 d11 d12 d13 d14 d15 d16 d17 d18 d19 d20 d21 d22 d23 d24 d25 d26 d27 d28 d29 d30 d31 d32 d33 d34 d35 d36 d37 d38 d39 d40 d41 d42 d43 : Value) (w : World) (R : Ending → World → Prop) : weftlaw6_upTo.l1 (n + 1) Y0 yn0 yc0 y1 y2 y7 d3 d4 d5 d6 d8 d9 d10 d11 d12 d13 d14 d15 d16 d17 d18 d19 d20 d21 d22 d23 d24 d25 d26 d27 d28 d29 d30 d31 d32 d33 d34 d35 d36 d37 d38 d39 d40 d41 d42 d43 w R =
((if decide (y7 ≤ y2) = true then
(Calls Tryd.prog 22 #[.int .i64 y7] w (fun (e2 : Ending) (w1 : World) =>
 ∃ b3 : Bool, e2 = .returned (.bool b3) ∧
((if (!b3) = true then
(R (.returned (.bool false)) w1)
else
(Let (IntKind.i64.wrap (y7 + 1)) fun x4 : Int =>
 weftlaw6_upTo.l1 n Y0 yn0 yc0 y1 y2 x4 d3 d4 d5 d6 d8 d9 d10 (.int .i64 y7) (.int .i64 y2) (.bool (decide (y7 ≤ y2))) (.int .i64 y7) (.int .i64 x4) (.int .i64 y7) (.bool b3) (.bool (!b3)) d19 d20 d21 d22 d23 d24 d25 d26 d27 d28 d29 d30 d31 d32 d33 d34 d35 d36 d37 d38 d39 d40 d41 d42 d43 w1 R)))))
else
(∃ n5 : Nat, weftlaw6_upTo.l2 n5 Y0 yn0 yc0 y1 y2 0 d3 d4 d5 d6 (.int .i64 y7) d9 d10 (.int .i64 y7) (.int .i64 y2) (.bool (decide (y7 ≤ y2))) d14 d15 d16 d17 d18 d19 d20 d21 d22 d23 d24 d25 d26 d27 d28 d29 d30 d31 d32 d33 d34 d35 d36 d37 d38 d39 d40 d41 d42 d43 w R))) := by kernel_rfl
theorem weftlaw6_upTo.l2_eq (n : Nat) (Y0 : Option Addr) (yn0 : Nat) (yc0 : Nat) (y1 : Int) (y2 : Int) (y8 : Int) (d3 d4 d5 d6 d7 d9 d10 d11 d12 d13 d14 d15 d16 d17 d18 d19 d20 d21 d22 d23 d24 d25 d26 d27 d28 d29 d30 d31 d32 d33 d34 d35 d36 d37 d38 d39 d40 d41 d42 d43 : Value) (w : World) (R : Ending → World → Prop) : weftlaw6_upTo.l2 (n + 1) Y0 yn0 yc0 y1 y2 y8 d3 d4 d5 d6 d7 d9 d10 d11 d12 d13 d14 d15 d16 d17 d18 d19 d20 d21 d22 d23 d24 d25 d26 d27 d28 d29 d30 d31 d32 d33 d34 d35 d36 d37 d38 d39 d40 d41 d42 d43 w R =
((if decide (y8 < (yn0 : Int)) = true then
(∃ a1 : Addr, Y0 = some a1 ∧ (0 ≤ y8 ∧ y8 < (yn0 : Int)) ∧
(∃ x2 : Int, ∃ (A3 : Option Addr) (n3_ c3_ : Nat), ∃ x4 : Int, ∃ x5 : Int, ∃ x6 : Int, ∃ (A7 : Option Addr) (n7_ c7_ : Nat), ∃ x8 : Int, ∃ x9 : Int, ∃ b10 : Bool, ∃ b11 : Bool, ∃ x12 : Int, ∃ x13 : Int, ∃ x14 : Int, ∃ x15 : Int, ∃ x16 : Int, ∃ (A17 : Option Addr) (n17_ c17_ : Nat), ∃ (A18 : Option Addr) (n18_ c18_ : Nat), ∃ x19 : Int, ∃ x20 : Int, ∃ x21 : Int, ∃ x22 : Int, (21 = 21 ∧ At w (a1.add (y8.toNat * 21)) [.int .i64 x2, .slice A3 n3_ c3_, .int .u8 x4, .int .u8 x5, .int .u32 x6, .slice A7 n7_ c7_, .int .u8 x8, .int .u16 x9, .bool b10, .bool b11, .int .i64 x12, .int .u8 x13, .int .u8 x14, .int .u32 x15, .int .u32 x16, .slice A17 n17_ c17_, .slice A18 n18_ c18_, .int .u8 x19, .int .u8 x20, .int .i64 x21, .int .u32 x22]) ∧
(Let (w.heap.size) fun g23 : Nat =>
 Let (w.alloc (.cells #[.int .i64 0, .slice none 0 0, .int .u8 0, .int .u8 0, .int .u32 0, .slice none 0 0, .int .u8 0, .int .u16 0, .bool false, .bool false, .int .i64 0, .int .u8 0, .int .u8 0, .int .u32 0, .int .u32 0, .slice none 0 0, .slice none 0 0, .int .u8 0, .int .u8 0, .int .i64 0, .int .u32 0] 50)) fun w24 : World =>
 May w24 ⟨g23, 0, none⟩ 21 ∧
(Let (putCells w24 ⟨g23, 0, none⟩ [.int .i64 x2, .slice A3 n3_ c3_, .int .u8 x4, .int .u8 x5, .int .u32 x6, .slice A7 n7_ c7_, .int .u8 x8, .int .u16 x9, .bool b10, .bool b11, .int .i64 x12, .int .u8 x13, .int .u8 x14, .int .u32 x15, .int .u32 x16, .slice A17 n17_ c17_, .slice A18 n18_ c18_, .int .u8 x19, .int .u8 x20, .int .i64 x21, .int .u32 x22] 0) fun w25 : World =>
 ∃ x26 : Int, w25.cell? ⟨g23, 0, none⟩ = some (.int .i64 x26) ∧
((if decide (x26 ≥ y1) = true then
(∃ x27 : Int, w25.cell? ⟨g23, 0, none⟩ = some (.int .i64 x27) ∧
((if decide (x27 ≤ y2) = true then
(∃ x28 : Int, ∃ (A29 : Option Addr) (n29_ c29_ : Nat), ∃ x30 : Int, ∃ x31 : Int, ∃ x32 : Int, ∃ (A33 : Option Addr) (n33_ c33_ : Nat), ∃ x34 : Int, ∃ x35 : Int, ∃ b36 : Bool, ∃ b37 : Bool, ∃ x38 : Int, ∃ x39 : Int, ∃ x40 : Int, ∃ x41 : Int, ∃ x42 : Int, ∃ (A43 : Option Addr) (n43_ c43_ : Nat), ∃ (A44 : Option Addr) (n44_ c44_ : Nat), ∃ x45 : Int, ∃ x46 : Int, ∃ x47 : Int, ∃ x48 : Int, (21 = 21 ∧ At w25 ⟨g23, 0, none⟩ [.int .i64 x28, .slice A29 n29_ c29_, .int .u8 x30, .int .u8 x31, .int .u32 x32, .slice A33 n33_ c33_, .int .u8 x34, .int .u16 x35, .bool b36, .bool b37, .int .i64 x38, .int .u8 x39, .int .u8 x40, .int .u32 x41, .int .u32 x42, .slice A43 n43_ c43_, .slice A44 n44_ c44_, .int .u8 x45, .int .u8 x46, .int .i64 x47, .int .u32 x48]) ∧
(Calls Tryd.prog 44 #[.agg #[.int .i64 x28, .slice A29 n29_ c29_, .int .u8 x30, .int .u8 x31, .int .u32 x32, .slice A33 n33_ c33_, .int .u8 x34, .int .u16 x35, .bool b36, .bool b37, .int .i64 x38, .int .u8 x39, .int .u8 x40, .int .u32 x41, .int .u32 x42, .slice A43 n43_ c43_, .slice A44 n44_ c44_, .int .u8 x45, .int .u8 x46, .int .i64 x47, .int .u32 x48]] w25 (fun (e50 : Ending) (w49 : World) =>
 ∃ b51 : Bool, e50 = .returned (.bool b51) ∧
((if (!b51) = true then
(R (.returned (.bool false)) w49)
else
(Let (IntKind.i64.wrap (y8 + 1)) fun x52 : Int =>
 weftlaw6_upTo.l2 n Y0 yn0 yc0 y1 y2 x52 d3 d4 d5 d6 d7 (.pointer (some ⟨g23, 0, none⟩)) d10 d11 d12 d13 d14 d15 d16 d17 d18 (.int .i64 y8) (.slice Y0 yn0 yc0) (.int .i64 (yn0 : Int)) (.bool (decide (y8 < (yn0 : Int)))) (.int .i64 y8) (.int .i64 x52) (.slice Y0 yn0 yc0) (.int .i64 y8) (.pointer (some (a1.add (y8.toNat * 21)))) (.agg #[.int .i64 x2, .slice A3 n3_ c3_, .int .u8 x4, .int .u8 x5, .int .u32 x6, .slice A7 n7_ c7_, .int .u8 x8, .int .u16 x9, .bool b10, .bool b11, .int .i64 x12, .int .u8 x13, .int .u8 x14, .int .u32 x15, .int .u32 x16, .slice A17 n17_ c17_, .slice A18 n18_ c18_, .int .u8 x19, .int .u8 x20, .int .i64 x21, .int .u32 x22]) (.pointer (some ⟨g23, 0, none⟩)) (.int .i64 x26) (.int .i64 y1) (.bool (decide (x26 ≥ y1))) (.bool true) (.pointer (some ⟨g23, 0, none⟩)) (.int .i64 x27) (.int .i64 y2) (.bool (decide (x27 ≤ y2))) (.bool (decide (x27 ≤ y2))) (.bool true) (.agg #[.int .i64 x28, .slice A29 n29_ c29_, .int .u8 x30, .int .u8 x31, .int .u32 x32, .slice A33 n33_ c33_, .int .u8 x34, .int .u16 x35, .bool b36, .bool b37, .int .i64 x38, .int .u8 x39, .int .u8 x40, .int .u32 x41, .int .u32 x42, .slice A43 n43_ c43_, .slice A44 n44_ c44_, .int .u8 x45, .int .u8 x46, .int .i64 x47, .int .u32 x48]) (.bool b51) (.bool (!b51)) (.bool (!b51)) w49 R))))))
else
(Let (IntKind.i64.wrap (y8 + 1)) fun x53 : Int =>
 weftlaw6_upTo.l2 n Y0 yn0 yc0 y1 y2 x53 d3 d4 d5 d6 d7 (.pointer (some ⟨g23, 0, none⟩)) d10 d11 d12 d13 d14 d15 d16 d17 d18 (.int .i64 y8) (.slice Y0 yn0 yc0) (.int .i64 (yn0 : Int)) (.bool (decide (y8 < (yn0 : Int)))) (.int .i64 y8) (.int .i64 x53) (.slice Y0 yn0 yc0) (.int .i64 y8) (.pointer (some (a1.add (y8.toNat * 21)))) (.agg #[.int .i64 x2, .slice A3 n3_ c3_, .int .u8 x4, .int .u8 x5, .int .u32 x6, .slice A7 n7_ c7_, .int .u8 x8, .int .u16 x9, .bool b10, .bool b11, .int .i64 x12, .int .u8 x13, .int .u8 x14, .int .u32 x15, .int .u32 x16, .slice A17 n17_ c17_, .slice A18 n18_ c18_, .int .u8 x19, .int .u8 x20, .int .i64 x21, .int .u32 x22]) (.pointer (some ⟨g23, 0, none⟩)) (.int .i64 x26) (.int .i64 y1) (.bool (decide (x26 ≥ y1))) (.bool true) (.pointer (some ⟨g23, 0, none⟩)) (.int .i64 x27) (.int .i64 y2) (.bool (decide (x27 ≤ y2))) (.bool (decide (x27 ≤ y2))) (.bool false) undef undef undef (.bool false) w25 R))))
else
(Let (IntKind.i64.wrap (y8 + 1)) fun x54 : Int =>
 weftlaw6_upTo.l2 n Y0 yn0 yc0 y1 y2 x54 d3 d4 d5 d6 d7 (.pointer (some ⟨g23, 0, none⟩)) d10 d11 d12 d13 d14 d15 d16 d17 d18 (.int .i64 y8) (.slice Y0 yn0 yc0) (.int .i64 (yn0 : Int)) (.bool (decide (y8 < (yn0 : Int)))) (.int .i64 y8) (.int .i64 x54) (.slice Y0 yn0 yc0) (.int .i64 y8) (.pointer (some (a1.add (y8.toNat * 21)))) (.agg #[.int .i64 x2, .slice A3 n3_ c3_, .int .u8 x4, .int .u8 x5, .int .u32 x6, .slice A7 n7_ c7_, .int .u8 x8, .int .u16 x9, .bool b10, .bool b11, .int .i64 x12, .int .u8 x13, .int .u8 x14, .int .u32 x15, .int .u32 x16, .slice A17 n17_ c17_, .slice A18 n18_ c18_, .int .u8 x19, .int .u8 x20, .int .i64 x21, .int .u32 x22]) (.pointer (some ⟨g23, 0, none⟩)) (.int .i64 x26) (.int .i64 y1) (.bool (decide (x26 ≥ y1))) (.bool false) undef undef undef undef (.bool false) (.bool false) undef undef undef (.bool false) w25 R)))))))
else
(R (.returned (.bool true)) w))) := by kernel_rfl
def weftlaw6_upTo.s (I0 : Option Addr) (in0 : Nat) (ic0 : Nat) (i1 : Int) (i2 : Int) (w : World) (R : Ending → World → Prop) : Prop :=
(∃ n1 : Nat, weftlaw6_upTo.l1 n1 I0 in0 ic0 i1 i2 i1 undef undef undef (.bool false) undef undef (.int .i64 i1) undef undef undef undef undef undef undef undef undef undef undef undef undef undef undef undef undef undef undef undef undef undef undef undef undef undef undef undef undef undef undef undef undef w R)
theorem weftlaw6_upTo.s_eq (I0 : Option Addr) (in0 : Nat) (ic0 : Nat) (i1 : Int) (i2 : Int) (w : World) (R : Ending → World → Prop) : seg Tryd.prog entE weftlaw6_upTo.ords weftlaw6_upTo.joins Tryd.f20 [] [] [] ([.slice I0 in0 ic0, .int .i64 i1, .int .i64 i2] ++ List.replicate (Tryd.f20.ntmps - ([.slice I0 in0 ic0, .int .i64 i1, .int .i64 i2] : List Value).length) undef) w R = weftlaw6_upTo.s I0 in0 ic0 i1 i2 w R := by kernel_rfl
theorem weftlaw6_upTo.run {I0 : Option Addr} {in0 : Nat} {ic0 : Nat} {i1 : Int} {i2 : Int} {w : World} {R : Ending → World → Prop} (h : weftlaw6_upTo.s I0 in0 ic0 i1 i2 w R) : Calls Tryd.prog 20 #[.slice I0 in0 ic0, .int .i64 i1, .int .i64 i2] w R :=
  calls_seg ents mixed Tryd.func20 rfl (by rw [weftlaw6_upTo.s_eq]; exact h)
/-! ### weftlaw6_request: function 46 -/
def weftlaw6_request.ords : Nat → List (Nat × Bool)
  | _ => []
def weftlaw6_request.joins (p : List Nat) : Bool := false
def weftlaw6_request.s (w : World) (R : Ending → World → Prop) : Prop :=
(Let (w.heap.size) fun g1 : Nat =>
 Let (w.alloc (.cells #[.int .u8 0, .int .u16 0, .bool false, .bool false, .int .i64 0, .int .u8 0, .int .u8 0, .int .u32 0, .int .u32 0, .slice none 0 0, .slice none 0 0] 29)) fun w2 : World =>
 Calls Tryd.prog 16 #[] w2 (fun (e4 : Ending) (w3 : World) =>
 ∃ x5 : Int, ∃ x6 : Int, ∃ b7 : Bool, ∃ b8 : Bool, ∃ x9 : Int, ∃ x10 : Int, ∃ x11 : Int, ∃ x12 : Int, ∃ x13 : Int, ∃ (A14 : Option Addr) (n14_ c14_ : Nat), ∃ (A15 : Option Addr) (n15_ c15_ : Nat), e4 = .returned (.agg #[.int .u8 x5, .int .u16 x6, .bool b7, .bool b8, .int .i64 x9, .int .u8 x10, .int .u8 x11, .int .u32 x12, .int .u32 x13, .slice A14 n14_ c14_, .slice A15 n15_ c15_]) ∧
(Let (w3.heap.size) fun g16 : Nat =>
 Let (w3.alloc (.cells #[.int .u8 0, .int .u16 0, .bool false, .bool false, .int .i64 0, .int .u8 0, .int .u8 0, .int .u32 0, .int .u32 0, .slice none 0 0, .slice none 0 0] 29)) fun w17 : World =>
 May w17 ⟨g16, 0, none⟩ 11 ∧
(Let (putCells w17 ⟨g16, 0, none⟩ [.int .u8 x5, .int .u16 x6, .bool b7, .bool b8, .int .i64 x9, .int .u8 x10, .int .u8 x11, .int .u32 x12, .int .u32 x13, .slice A14 n14_ c14_, .slice A15 n15_ c15_] 0) fun w18 : World =>
 MayC w18 ⟨g16, 6, none⟩ ∧
(Let (w18.setCell ⟨g16, 6, none⟩ (.int .u8 1)) fun w19 : World =>
 Let (w19.heap.size) fun g20 : Nat =>
 Let (w19.alloc (.cells #[.int .u8 8, .int .u8 0, .int .u8 51, .int .u8 154, .int .u8 0, .int .u8 1, .int .u8 0, .int .u8 2, .int .u8 97, .int .u8 98, .int .u8 99] 5)) fun w21 : World =>
 MayC w21 ⟨g16, 10, none⟩ ∧
(Let (w21.setCell ⟨g16, 10, none⟩ (.slice (some ⟨g20, 0, none⟩) 11 11)) fun w22 : World =>
 ∃ x23 : Int, ∃ x24 : Int, ∃ b25 : Bool, ∃ b26 : Bool, ∃ x27 : Int, ∃ x28 : Int, ∃ x29 : Int, ∃ x30 : Int, ∃ x31 : Int, ∃ (A32 : Option Addr) (n32_ c32_ : Nat), ∃ (A33 : Option Addr) (n33_ c33_ : Nat), (11 = 11 ∧ At w22 ⟨g16, 0, none⟩ [.int .u8 x23, .int .u16 x24, .bool b25, .bool b26, .int .i64 x27, .int .u8 x28, .int .u8 x29, .int .u32 x30, .int .u32 x31, .slice A32 n32_ c32_, .slice A33 n33_ c33_]) ∧
(May w22 ⟨g1, 0, none⟩ 11 ∧
(Let (putCells w22 ⟨g1, 0, none⟩ [.int .u8 x23, .int .u16 x24, .bool b25, .bool b26, .int .i64 x27, .int .u8 x28, .int .u8 x29, .int .u32 x30, .int .u32 x31, .slice A32 n32_ c32_, .slice A33 n33_ c33_] 0) fun w34 : World =>
 ∃ x35 : Int, ∃ x36 : Int, ∃ b37 : Bool, ∃ b38 : Bool, ∃ x39 : Int, ∃ x40 : Int, ∃ x41 : Int, ∃ x42 : Int, ∃ x43 : Int, ∃ (A44 : Option Addr) (n44_ c44_ : Nat), ∃ (A45 : Option Addr) (n45_ c45_ : Nat), (11 = 11 ∧ At w34 ⟨g1, 0, none⟩ [.int .u8 x35, .int .u16 x36, .bool b37, .bool b38, .int .i64 x39, .int .u8 x40, .int .u8 x41, .int .u32 x42, .int .u32 x43, .slice A44 n44_ c44_, .slice A45 n45_ c45_]) ∧
(R (.returned (.agg #[.int .u8 x35, .int .u16 x36, .bool b37, .bool b38, .int .i64 x39, .int .u8 x40, .int .u8 x41, .int .u32 x42, .int .u32 x43, .slice A44 n44_ c44_, .slice A45 n45_ c45_])) w34)))))))))
theorem weftlaw6_request.s_eq (w : World) (R : Ending → World → Prop) : seg Tryd.prog entE weftlaw6_request.ords weftlaw6_request.joins Tryd.f46 [] [] [] ([] ++ List.replicate (Tryd.f46.ntmps - ([] : List Value).length) undef) w R = weftlaw6_request.s  w R := by kernel_rfl
theorem weftlaw6_request.run {w : World} {R : Ending → World → Prop} (h : weftlaw6_request.s  w R) : Calls Tryd.prog 46 #[] w R :=
  calls_seg ents mixed Tryd.func46 rfl (by rw [weftlaw6_request.s_eq]; exact h)
/-! ### weftlaw6_IcmpParses: function 6 -/
def weftlaw6_IcmpParses.ords : Nat → List (Nat × Bool)
  | _ => []
def weftlaw6_IcmpParses.joins (p : List Nat) : Bool := false
def weftlaw6_IcmpParses.s (I0 : Option Addr) (in0 : Nat) (ic0 : Nat) (w : World) (R : Ending → World → Prop) : Prop :=
(Calls Tryd.prog 20 #[.slice I0 in0 ic0, .int .i64 1, .int .i64 1] w (fun (e2 : Ending) (w1 : World) =>
 ∃ b3 : Bool, e2 = .returned (.bool b3) ∧
(R (.returned (.bool b3)) w1)))
theorem weftlaw6_IcmpParses.s_eq (I0 : Option Addr) (in0 : Nat) (ic0 : Nat) (w : World) (R : Ending → World → Prop) : seg Tryd.prog entE weftlaw6_IcmpParses.ords weftlaw6_IcmpParses.joins Tryd.f6 [] [] [] ([.slice I0 in0 ic0] ++ List.replicate (Tryd.f6.ntmps - ([.slice I0 in0 ic0] : List Value).length) undef) w R = weftlaw6_IcmpParses.s I0 in0 ic0 w R := by kernel_rfl
theorem weftlaw6_IcmpParses.run {I0 : Option Addr} {in0 : Nat} {ic0 : Nat} {w : World} {R : Ending → World → Prop} (h : weftlaw6_IcmpParses.s I0 in0 ic0 w R) : Calls Tryd.prog 6 #[.slice I0 in0 ic0] w R :=
  calls_seg ents mixed Tryd.func6 rfl (by rw [weftlaw6_IcmpParses.s_eq]; exact h)
/-! ### weftlaw6_IcmpBuilds: function 7 -/
def weftlaw6_IcmpBuilds.ords : Nat → List (Nat × Bool)
  | _ => []
def weftlaw6_IcmpBuilds.joins (p : List Nat) : Bool := false
def weftlaw6_IcmpBuilds.s (I0 : Option Addr) (in0 : Nat) (ic0 : Nat) (w : World) (R : Ending → World → Prop) : Prop :=
(Calls Tryd.prog 20 #[.slice I0 in0 ic0, .int .i64 2, .int .i64 2] w (fun (e2 : Ending) (w1 : World) =>
 ∃ b3 : Bool, e2 = .returned (.bool b3) ∧
(R (.returned (.bool b3)) w1)))
theorem weftlaw6_IcmpBuilds.s_eq (I0 : Option Addr) (in0 : Nat) (ic0 : Nat) (w : World) (R : Ending → World → Prop) : seg Tryd.prog entE weftlaw6_IcmpBuilds.ords weftlaw6_IcmpBuilds.joins Tryd.f7 [] [] [] ([.slice I0 in0 ic0] ++ List.replicate (Tryd.f7.ntmps - ([.slice I0 in0 ic0] : List Value).length) undef) w R = weftlaw6_IcmpBuilds.s I0 in0 ic0 w R := by kernel_rfl
theorem weftlaw6_IcmpBuilds.run {I0 : Option Addr} {in0 : Nat} {ic0 : Nat} {w : World} {R : Ending → World → Prop} (h : weftlaw6_IcmpBuilds.s I0 in0 ic0 w R) : Calls Tryd.prog 7 #[.slice I0 in0 ic0] w R :=
  calls_seg ents mixed Tryd.func7 rfl (by rw [weftlaw6_IcmpBuilds.s_eq]; exact h)
/-! ### weftlaw6_IcmpFaults: function 8 -/
def weftlaw6_IcmpFaults.ords : Nat → List (Nat × Bool)
  | _ => []
def weftlaw6_IcmpFaults.joins (p : List Nat) : Bool := false
def weftlaw6_IcmpFaults.s (I0 : Option Addr) (in0 : Nat) (ic0 : Nat) (w : World) (R : Ending → World → Prop) : Prop :=
(Calls Tryd.prog 20 #[.slice I0 in0 ic0, .int .i64 3, .int .i64 3] w (fun (e2 : Ending) (w1 : World) =>
 ∃ b3 : Bool, e2 = .returned (.bool b3) ∧
(R (.returned (.bool b3)) w1)))
theorem weftlaw6_IcmpFaults.s_eq (I0 : Option Addr) (in0 : Nat) (ic0 : Nat) (w : World) (R : Ending → World → Prop) : seg Tryd.prog entE weftlaw6_IcmpFaults.ords weftlaw6_IcmpFaults.joins Tryd.f8 [] [] [] ([.slice I0 in0 ic0] ++ List.replicate (Tryd.f8.ntmps - ([.slice I0 in0 ic0] : List Value).length) undef) w R = weftlaw6_IcmpFaults.s I0 in0 ic0 w R := by kernel_rfl
theorem weftlaw6_IcmpFaults.run {I0 : Option Addr} {in0 : Nat} {ic0 : Nat} {w : World} {R : Ending → World → Prop} (h : weftlaw6_IcmpFaults.s I0 in0 ic0 w R) : Calls Tryd.prog 8 #[.slice I0 in0 ic0] w R :=
  calls_seg ents mixed Tryd.func8 rfl (by rw [weftlaw6_IcmpFaults.s_eq]; exact h)
/-! ### weftlaw6_IcmpEchoes: function 9 -/
def weftlaw6_IcmpEchoes.ords : Nat → List (Nat × Bool)
  | _ => []
def weftlaw6_IcmpEchoes.joins (p : List Nat) : Bool := false
def weftlaw6_IcmpEchoes.s (I0 : Option Addr) (in0 : Nat) (ic0 : Nat) (w : World) (R : Ending → World → Prop) : Prop :=
(Calls Tryd.prog 20 #[.slice I0 in0 ic0, .int .i64 4, .int .i64 4] w (fun (e2 : Ending) (w1 : World) =>
 ∃ b3 : Bool, e2 = .returned (.bool b3) ∧
(R (.returned (.bool b3)) w1)))
theorem weftlaw6_IcmpEchoes.s_eq (I0 : Option Addr) (in0 : Nat) (ic0 : Nat) (w : World) (R : Ending → World → Prop) : seg Tryd.prog entE weftlaw6_IcmpEchoes.ords weftlaw6_IcmpEchoes.joins Tryd.f9 [] [] [] ([.slice I0 in0 ic0] ++ List.replicate (Tryd.f9.ntmps - ([.slice I0 in0 ic0] : List Value).length) undef) w R = weftlaw6_IcmpEchoes.s I0 in0 ic0 w R := by kernel_rfl
theorem weftlaw6_IcmpEchoes.run {I0 : Option Addr} {in0 : Nat} {ic0 : Nat} {w : World} {R : Ending → World → Prop} (h : weftlaw6_IcmpEchoes.s I0 in0 ic0 w R) : Calls Tryd.prog 9 #[.slice I0 in0 ic0] w R :=
  calls_seg ents mixed Tryd.func9 rfl (by rw [weftlaw6_IcmpEchoes.s_eq]; exact h)
/-! ### weftlaw6_IcmpAbouts: function 10 -/
def weftlaw6_IcmpAbouts.ords : Nat → List (Nat × Bool)
  | _ => []
def weftlaw6_IcmpAbouts.joins (p : List Nat) : Bool := false
def weftlaw6_IcmpAbouts.s (I0 : Option Addr) (in0 : Nat) (ic0 : Nat) (w : World) (R : Ending → World → Prop) : Prop :=
(Calls Tryd.prog 20 #[.slice I0 in0 ic0, .int .i64 5, .int .i64 5] w (fun (e2 : Ending) (w1 : World) =>
 ∃ b3 : Bool, e2 = .returned (.bool b3) ∧
(R (.returned (.bool b3)) w1)))
theorem weftlaw6_IcmpAbouts.s_eq (I0 : Option Addr) (in0 : Nat) (ic0 : Nat) (w : World) (R : Ending → World → Prop) : seg Tryd.prog entE weftlaw6_IcmpAbouts.ords weftlaw6_IcmpAbouts.joins Tryd.f10 [] [] [] ([.slice I0 in0 ic0] ++ List.replicate (Tryd.f10.ntmps - ([.slice I0 in0 ic0] : List Value).length) undef) w R = weftlaw6_IcmpAbouts.s I0 in0 ic0 w R := by kernel_rfl
theorem weftlaw6_IcmpAbouts.run {I0 : Option Addr} {in0 : Nat} {ic0 : Nat} {w : World} {R : Ending → World → Prop} (h : weftlaw6_IcmpAbouts.s I0 in0 ic0 w R) : Calls Tryd.prog 10 #[.slice I0 in0 ic0] w R :=
  calls_seg ents mixed Tryd.func10 rfl (by rw [weftlaw6_IcmpAbouts.s_eq]; exact h)
/-! ### weftlaw6_IcmpAll: function 11 -/
def weftlaw6_IcmpAll.ords : Nat → List (Nat × Bool)
  | _ => []
def weftlaw6_IcmpAll.joins (p : List Nat) : Bool := false
def weftlaw6_IcmpAll.s (I0 : Option Addr) (in0 : Nat) (ic0 : Nat) (w : World) (R : Ending → World → Prop) : Prop :=
(Calls Tryd.prog 20 #[.slice I0 in0 ic0, .int .i64 1, .int .i64 5] w (fun (e2 : Ending) (w1 : World) =>
 ∃ b3 : Bool, e2 = .returned (.bool b3) ∧
(R (.returned (.bool b3)) w1)))
theorem weftlaw6_IcmpAll.s_eq (I0 : Option Addr) (in0 : Nat) (ic0 : Nat) (w : World) (R : Ending → World → Prop) : seg Tryd.prog entE weftlaw6_IcmpAll.ords weftlaw6_IcmpAll.joins Tryd.f11 [] [] [] ([.slice I0 in0 ic0] ++ List.replicate (Tryd.f11.ntmps - ([.slice I0 in0 ic0] : List Value).length) undef) w R = weftlaw6_IcmpAll.s I0 in0 ic0 w R := by kernel_rfl
theorem weftlaw6_IcmpAll.run {I0 : Option Addr} {in0 : Nat} {ic0 : Nat} {w : World} {R : Ending → World → Prop} (h : weftlaw6_IcmpAll.s I0 in0 ic0 w R) : Calls Tryd.prog 11 #[.slice I0 in0 ic0] w R :=
  calls_seg ents mixed Tryd.func11 rfl (by rw [weftlaw6_IcmpAll.s_eq]; exact h)
end Go.Proofs.YtfjbpeadhaekbaaDoorS
