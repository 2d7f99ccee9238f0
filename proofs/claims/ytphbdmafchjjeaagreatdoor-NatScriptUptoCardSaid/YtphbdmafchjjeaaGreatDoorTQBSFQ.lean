import Derived.Test.YtphbdmafchjjeaaGreatDoorTQBSPureM
namespace Go.Proofs.YtphbdmafchjjeaaGreatDoorS
open Go Go.Proofs
open Go renaming undef → U, World → W, Value → V
open Go.Value renaming int → I, slice → S, bool → T, pointer → P, agg → G
open Go.IntKind renaming u8 → B, u16 → H, u32 → D, u64 → Q, i64 → L
open Option renaming none → N
set_option autoImplicit true
set_option relaxedAutoImplicit true
set_option maxRecDepth 100000
set_option linter.unusedVariables false
def qq62.ords:Nat→Od
 | _=>.nil
def qq62.joins (p:List Nat):Bool:=false
def qq62.s (i0_0:Int) (i0_1:Bool) (i0_2 i0_3:Int) (i0_4 i0_5:Bool) (i0_6 i0_7 i0_8 i0_9 i0_10:Int) (I0_11:Option Addr) (in0_11 ic0_11:Nat) (I0_12:Option Addr) (in0_12 ic0_12:Nat) (i0_13 i0_14 i0_15 i0_16 i0_17 i0_18 i0_19:Int) (I0_20:Option Addr) (in0_20 ic0_20:Nat) (i0_21 i0_22:Int) (w:W) (R:E):Prop:=
(Let (w.heap.size) fun g1:Nat=>
 Let (w.alloc (.cells #[I L i0_0,T i0_1,I B i0_2,I H i0_3,T i0_4,T i0_5,I L i0_6,I B i0_7,I B i0_8,I D i0_9,I D i0_10,S I0_11 in0_11 ic0_11,S I0_12 in0_12 ic0_12,I D i0_13,I D i0_14,I B i0_15,I H i0_16,I H i0_17,I D i0_18,I D i0_19,S I0_20 in0_20 ic0_20,I B i0_21,I H i0_22] 42)) fun w2:W=>
 Let (w2.heap.size) fun g3:Nat=>
 Let (w2.alloc (.cells #[I B 0,I H 0,T false,T false,I L 0,I B 0,I B 0,I D 0,I D 0,S N 0 0,S N 0 0,I L 0,I L 0] 51)) fun w4:W=>
 ∃ x5:Int,w4.cell? ⟨g1,0,N⟩=some (I L x5)∧
((if (x5 == 1)=true then
(∃ x6 x7:Int,∃ b8 b9:Bool,∃ x10 x11 x12 x13 x14:Int,∃ (A15:Option Addr) (n15_ c15_:Nat),∃ (A16:Option Addr) (n16_ c16_:Nat),(11=11∧At w4 ⟨g1,2,N⟩ [I B x6,I H x7,T b8,T b9,I L x10,I B x11,I B x12,I D x13,I D x14,S A15 n15_ c15_,S A16 n16_ c16_])∧
(∃ x17 x18 x19 x20 x21:Int,(5=5∧At w4 ⟨g1,13,N⟩ [I D x17,I D x18,I B x19,I H x20,I H x21])∧
(Calls Tryz.prog 16 #[G #[I B x6,I H x7,T b8,T b9,I L x10,I B x11,I B x12,I D x13,I D x14,S A15 n15_ c15_,S A16 n16_ c16_],G #[I D x17,I D x18,I B x19,I H x20,I H x21]] w4 (fun (e23:Ending) (w22:W)=>
 ∃ x24 x25:Int,∃ b26 b27:Bool,∃ x28 x29 x30 x31 x32:Int,∃ (A33:Option Addr) (n33_ c33_:Nat),∃ (A34:Option Addr) (n34_ c34_:Nat),∃ x35:Int,e23=.returned (.tuple #[G #[I B x24,I H x25,T b26,T b27,I L x28,I B x29,I B x30,I D x31,I D x32,S A33 n33_ c33_,S A34 n34_ c34_],I L x35])∧
(Let (w22.heap.size) fun g36:Nat=>
 Let (w22.alloc (.cells #[I B 0,I H 0,T false,T false,I L 0,I B 0,I B 0,I D 0,I D 0,S N 0 0,S N 0 0] 37)) fun w37:W=>
 May w37 ⟨g36,0,N⟩ 11∧
(Let (putCells w37 ⟨g36,0,N⟩ [I B x24,I H x25,T b26,T b27,I L x28,I B x29,I B x30,I D x31,I D x32,S A33 n33_ c33_,S A34 n34_ c34_] 0) fun w38:W=>
 ∃ x39 x40:Int,∃ b41 b42:Bool,∃ x43 x44 x45 x46 x47:Int,∃ (A48:Option Addr) (n48_ c48_:Nat),∃ (A49:Option Addr) (n49_ c49_:Nat),(11=11∧At w38 ⟨g36,0,N⟩ [I B x39,I H x40,T b41,T b42,I L x43,I B x44,I B x45,I D x46,I D x47,S A48 n48_ c48_,S A49 n49_ c49_])∧
(May w38 ⟨g3,0,N⟩ 13∧
(Let (putCells w38 ⟨g3,0,N⟩ [I B x39,I H x40,T b41,T b42,I L x43,I B x44,I B x45,I D x46,I D x47,S A48 n48_ c48_,S A49 n49_ c49_,I L 0,I L x35] 0) fun w50:W=>
 ∃ x51 x52:Int,∃ b53 b54:Bool,∃ x55 x56 x57 x58 x59:Int,∃ (A60:Option Addr) (n60_ c60_:Nat),∃ (A61:Option Addr) (n61_ c61_:Nat),∃ x62 x63:Int,(13=13∧At w50 ⟨g3,0,N⟩ [I B x51,I H x52,T b53,T b54,I L x55,I B x56,I B x57,I D x58,I D x59,S A60 n60_ c60_,S A61 n61_ c61_,I L x62,I L x63])∧
(R (.returned (G #[I B x51,I H x52,T b53,T b54,I L x55,I B x56,I B x57,I D x58,I D x59,S A60 n60_ c60_,S A61 n61_ c61_,I L x62,I L x63])) w50)))))))))
else
((if (x5 == 2)=true then
(∃ x64 x65:Int,∃ b66 b67:Bool,∃ x68 x69 x70 x71 x72:Int,∃ (A73:Option Addr) (n73_ c73_:Nat),∃ (A74:Option Addr) (n74_ c74_:Nat),(11=11∧At w4 ⟨g1,2,N⟩ [I B x64,I H x65,T b66,T b67,I L x68,I B x69,I B x70,I D x71,I D x72,S A73 n73_ c73_,S A74 n74_ c74_])∧
(∃ x75:Int,w4.cell? ⟨g1,18,N⟩=some (I D x75)∧
(∃ x76:Int,w4.cell? ⟨g1,19,N⟩=some (I D x76)∧
(∃ x77 x78 x79 x80 x81:Int,(5=5∧At w4 ⟨g1,13,N⟩ [I D x77,I D x78,I B x79,I H x80,I H x81])∧
(Calls Tryz.prog 31 #[G #[I B x64,I H x65,T b66,T b67,I L x68,I B x69,I B x70,I D x71,I D x72,S A73 n73_ c73_,S A74 n74_ c74_],I D x75,I D x76,G #[I D x77,I D x78,I B x79,I H x80,I H x81]] w4 (fun (e83:Ending) (w82:W)=>
 ∃ x84 x85:Int,∃ b86 b87:Bool,∃ x88 x89 x90 x91 x92:Int,∃ (A93:Option Addr) (n93_ c93_:Nat),∃ (A94:Option Addr) (n94_ c94_:Nat),∃ x95:Int,e83=.returned (.tuple #[G #[I B x84,I H x85,T b86,T b87,I L x88,I B x89,I B x90,I D x91,I D x92,S A93 n93_ c93_,S A94 n94_ c94_],I L x95])∧
(Let (w82.heap.size) fun g96:Nat=>
 Let (w82.alloc (.cells #[I B 0,I H 0,T false,T false,I L 0,I B 0,I B 0,I D 0,I D 0,S N 0 0,S N 0 0] 37)) fun w97:W=>
 May w97 ⟨g96,0,N⟩ 11∧
(Let (putCells w97 ⟨g96,0,N⟩ [I B x84,I H x85,T b86,T b87,I L x88,I B x89,I B x90,I D x91,I D x92,S A93 n93_ c93_,S A94 n94_ c94_] 0) fun w98:W=>
 ∃ x99 x100:Int,∃ b101 b102:Bool,∃ x103 x104 x105 x106 x107:Int,∃ (A108:Option Addr) (n108_ c108_:Nat),∃ (A109:Option Addr) (n109_ c109_:Nat),(11=11∧At w98 ⟨g96,0,N⟩ [I B x99,I H x100,T b101,T b102,I L x103,I B x104,I B x105,I D x106,I D x107,S A108 n108_ c108_,S A109 n109_ c109_])∧
(May w98 ⟨g3,0,N⟩ 13∧
(Let (putCells w98 ⟨g3,0,N⟩ [I B x99,I H x100,T b101,T b102,I L x103,I B x104,I B x105,I D x106,I D x107,S A108 n108_ c108_,S A109 n109_ c109_,I L 0,I L x95] 0) fun w110:W=>
 ∃ x111 x112:Int,∃ b113 b114:Bool,∃ x115 x116 x117 x118 x119:Int,∃ (A120:Option Addr) (n120_ c120_:Nat),∃ (A121:Option Addr) (n121_ c121_:Nat),∃ x122 x123:Int,(13=13∧At w110 ⟨g3,0,N⟩ [I B x111,I H x112,T b113,T b114,I L x115,I B x116,I B x117,I D x118,I D x119,S A120 n120_ c120_,S A121 n121_ c121_,I L x122,I L x123])∧
(R (.returned (G #[I B x111,I H x112,T b113,T b114,I L x115,I B x116,I B x117,I D x118,I D x119,S A120 n120_ c120_,S A121 n121_ c121_,I L x122,I L x123])) w110)))))))))))
else
((if (x5 == 3)=true then
(∃ x124 x125 x126 x127 x128:Int,(5=5∧At w4 ⟨g1,13,N⟩ [I D x124,I D x125,I B x126,I H x127,I H x128])∧
(∃ (A129:Option Addr) (n129_ c129_:Nat),w4.cell? ⟨g1,20,N⟩=some (S A129 n129_ c129_)∧
(Calls Tryz.prog 20 #[G #[I D x124,I D x125,I B x126,I H x127,I H x128],S A129 n129_ c129_] w4 (fun (e131:Ending) (w130:W)=>
 ∃ x132 x133:Int,e131=.returned (.tuple #[I L x132,I L x133])∧
(May w130 ⟨g3,0,N⟩ 13∧
(Let (putCells w130 ⟨g3,0,N⟩ [I B 0,I H 0,T false,T false,I L 0,I B 0,I B 0,I D 0,I D 0,S N 0 0,S N 0 0,I L x132,I L x133] 0) fun w134:W=>
 ∃ x135 x136:Int,∃ b137 b138:Bool,∃ x139 x140 x141 x142 x143:Int,∃ (A144:Option Addr) (n144_ c144_:Nat),∃ (A145:Option Addr) (n145_ c145_:Nat),∃ x146 x147:Int,(13=13∧At w134 ⟨g3,0,N⟩ [I B x135,I H x136,T b137,T b138,I L x139,I B x140,I B x141,I D x142,I D x143,S A144 n144_ c144_,S A145 n145_ c145_,I L x146,I L x147])∧
(R (.returned (G #[I B x135,I H x136,T b137,T b138,I L x139,I B x140,I B x141,I D x142,I D x143,S A144 n144_ c144_,S A145 n145_ c145_,I L x146,I L x147])) w134)))))))
else
(May w4 ⟨g3,0,N⟩ 13∧
(Let (putCells w4 ⟨g3,0,N⟩ [I B 0,I H 0,T false,T false,I L 0,I B 0,I B 0,I D 0,I D 0,S N 0 0,S N 0 0,I L 0,I L 0] 0) fun w148:W=>
 ∃ x149 x150:Int,∃ b151 b152:Bool,∃ x153 x154 x155 x156 x157:Int,∃ (A158:Option Addr) (n158_ c158_:Nat),∃ (A159:Option Addr) (n159_ c159_:Nat),∃ x160 x161:Int,(13=13∧At w148 ⟨g3,0,N⟩ [I B x149,I H x150,T b151,T b152,I L x153,I B x154,I B x155,I D x156,I D x157,S A158 n158_ c158_,S A159 n159_ c159_,I L x160,I L x161])∧
(R (.returned (G #[I B x149,I H x150,T b151,T b152,I L x153,I B x154,I B x155,I D x156,I D x157,S A158 n158_ c158_,S A159 n159_ c159_,I L x160,I L x161])) w148))))))))))
theorem qq62.run (h:qq62.s i0_0 i0_1 i0_2 i0_3 i0_4 i0_5 i0_6 i0_7 i0_8 i0_9 i0_10 I0_11 in0_11 ic0_11 I0_12 in0_12 ic0_12 i0_13 i0_14 i0_15 i0_16 i0_17 i0_18 i0_19 I0_20 in0_20 ic0_20 i0_21 i0_22 w R):Calls Tryz.prog 11 #[G #[I L i0_0,T i0_1,I B i0_2,I H i0_3,T i0_4,T i0_5,I L i0_6,I B i0_7,I B i0_8,I D i0_9,I D i0_10,S I0_11 in0_11 ic0_11,S I0_12 in0_12 ic0_12,I D i0_13,I D i0_14,I B i0_15,I H i0_16,I H i0_17,I D i0_18,I D i0_19,S I0_20 in0_20 ic0_20,I B i0_21,I H i0_22]] w R:=
 calls_segk (ords:=qq62.ords) (J:=qq62.joins) ents mixed Tryz.func11 rfl h (by kernel_rfl)
def qq39.ords:Nat→Od
 | _=>.nil
def qq39.joins (p:List Nat):Bool:=false
def qq39.s (i0_0:Int) (i0_1:Bool) (i0_2 i0_3:Int) (i0_4 i0_5:Bool) (i0_6 i0_7 i0_8 i0_9 i0_10:Int) (I0_11:Option Addr) (in0_11 ic0_11:Nat) (I0_12:Option Addr) (in0_12 ic0_12:Nat) (i0_13 i0_14 i0_15 i0_16 i0_17 i0_18 i0_19:Int) (I0_20:Option Addr) (in0_20 ic0_20:Nat) (i0_21 i0_22:Int) (w:W) (R:E):Prop:=
(Let (w.heap.size) fun g1:Nat=>
 Let (w.alloc (.cells #[I L i0_0,T i0_1,I B i0_2,I H i0_3,T i0_4,T i0_5,I L i0_6,I B i0_7,I B i0_8,I D i0_9,I D i0_10,S I0_11 in0_11 ic0_11,S I0_12 in0_12 ic0_12,I D i0_13,I D i0_14,I B i0_15,I H i0_16,I H i0_17,I D i0_18,I D i0_19,S I0_20 in0_20 ic0_20,I B i0_21,I H i0_22] 42)) fun w2:W=>
 Let (w2.heap.size) fun g3:Nat=>
 Let (w2.alloc (.cells #[I B 0,I H 0,T false,T false,I L 0,I B 0,I B 0,I D 0,I D 0,S N 0 0,S N 0 0,I L 0,I L 0] 51)) fun w4:W=>
 ∃ x5:Int,∃ b6:Bool,∃ x7 x8:Int,∃ b9 b10:Bool,∃ x11 x12 x13 x14 x15:Int,∃ (A16:Option Addr) (n16_ c16_:Nat),∃ (A17:Option Addr) (n17_ c17_:Nat),∃ x18 x19 x20 x21 x22 x23 x24:Int,∃ (A25:Option Addr) (n25_ c25_:Nat),∃ x26 x27:Int,(23=23∧At w4 ⟨g1,0,N⟩ [I L x5,T b6,I B x7,I H x8,T b9,T b10,I L x11,I B x12,I B x13,I D x14,I D x15,S A16 n16_ c16_,S A17 n17_ c17_,I D x18,I D x19,I B x20,I H x21,I H x22,I D x23,I D x24,S A25 n25_ c25_,I B x26,I H x27])∧
(Calls Tryz.prog 10 #[G #[I L x5,T b6,I B x7,I H x8,T b9,T b10,I L x11,I B x12,I B x13,I D x14,I D x15,S A16 n16_ c16_,S A17 n17_ c17_,I D x18,I D x19,I B x20,I H x21,I H x22,I D x23,I D x24,S A25 n25_ c25_,I B x26,I H x27]] w4 (fun (e29:Ending) (w28:W)=>
 ∃ x30:Int,∃ b31:Bool,∃ x32 x33:Int,∃ b34 b35:Bool,∃ x36 x37 x38 x39 x40:Int,∃ (A41:Option Addr) (n41_ c41_:Nat),∃ (A42:Option Addr) (n42_ c42_:Nat),∃ x43 x44 x45 x46 x47 x48 x49:Int,∃ (A50:Option Addr) (n50_ c50_:Nat),∃ x51 x52:Int,e29=.returned (G #[I L x30,T b31,I B x32,I H x33,T b34,T b35,I L x36,I B x37,I B x38,I D x39,I D x40,S A41 n41_ c41_,S A42 n42_ c42_,I D x43,I D x44,I B x45,I H x46,I H x47,I D x48,I D x49,S A50 n50_ c50_,I B x51,I H x52])∧
(Let (w28.heap.size) fun g53:Nat=>
 Let (w28.alloc (.cells #[I L 0,T false,I B 0,I H 0,T false,T false,I L 0,I B 0,I B 0,I D 0,I D 0,S N 0 0,S N 0 0,I D 0,I D 0,I B 0,I H 0,I H 0,I D 0,I D 0,S N 0 0,I B 0,I H 0] 42)) fun w54:W=>
 May w54 ⟨g53,0,N⟩ 23∧
(Let (putCells w54 ⟨g53,0,N⟩ [I L x30,T b31,I B x32,I H x33,T b34,T b35,I L x36,I B x37,I B x38,I D x39,I D x40,S A41 n41_ c41_,S A42 n42_ c42_,I D x43,I D x44,I B x45,I H x46,I H x47,I D x48,I D x49,S A50 n50_ c50_,I B x51,I H x52] 0) fun w55:W=>
 ∃ x56:Int,w55.cell? ⟨g53,0,N⟩=some (I L x56)∧
((if (x56 == 1)=true then
(∃ x57 x58:Int,∃ b59 b60:Bool,∃ x61 x62 x63 x64 x65:Int,∃ (A66:Option Addr) (n66_ c66_:Nat),∃ (A67:Option Addr) (n67_ c67_:Nat),(11=11∧At w55 ⟨g53,2,N⟩ [I B x57,I H x58,T b59,T b60,I L x61,I B x62,I B x63,I D x64,I D x65,S A66 n66_ c66_,S A67 n67_ c67_])∧
(∃ x68 x69 x70 x71 x72:Int,(5=5∧At w55 ⟨g53,13,N⟩ [I D x68,I D x69,I B x70,I H x71,I H x72])∧
(Calls Tryz.prog 27 #[G #[I B x57,I H x58,T b59,T b60,I L x61,I B x62,I B x63,I D x64,I D x65,S A66 n66_ c66_,S A67 n67_ c67_],G #[I D x68,I D x69,I B x70,I H x71,I H x72]] w55 (fun (e74:Ending) (w73:W)=>
 ∃ x75 x76:Int,∃ b77 b78:Bool,∃ x79 x80 x81 x82 x83:Int,∃ (A84:Option Addr) (n84_ c84_:Nat),∃ (A85:Option Addr) (n85_ c85_:Nat),∃ x86:Int,e74=.returned (.tuple #[G #[I B x75,I H x76,T b77,T b78,I L x79,I B x80,I B x81,I D x82,I D x83,S A84 n84_ c84_,S A85 n85_ c85_],I L x86])∧
(Let (w73.heap.size) fun g87:Nat=>
 Let (w73.alloc (.cells #[I B 0,I H 0,T false,T false,I L 0,I B 0,I B 0,I D 0,I D 0,S N 0 0,S N 0 0] 37)) fun w88:W=>
 May w88 ⟨g87,0,N⟩ 11∧
(Let (putCells w88 ⟨g87,0,N⟩ [I B x75,I H x76,T b77,T b78,I L x79,I B x80,I B x81,I D x82,I D x83,S A84 n84_ c84_,S A85 n85_ c85_] 0) fun w89:W=>
 ∃ x90 x91:Int,∃ b92 b93:Bool,∃ x94 x95 x96 x97 x98:Int,∃ (A99:Option Addr) (n99_ c99_:Nat),∃ (A100:Option Addr) (n100_ c100_:Nat),(11=11∧At w89 ⟨g87,0,N⟩ [I B x90,I H x91,T b92,T b93,I L x94,I B x95,I B x96,I D x97,I D x98,S A99 n99_ c99_,S A100 n100_ c100_])∧
(May w89 ⟨g3,0,N⟩ 13∧
(Let (putCells w89 ⟨g3,0,N⟩ [I B x90,I H x91,T b92,T b93,I L x94,I B x95,I B x96,I D x97,I D x98,S A99 n99_ c99_,S A100 n100_ c100_,I L 0,I L x86] 0) fun w101:W=>
 ∃ x102 x103:Int,∃ b104 b105:Bool,∃ x106 x107 x108 x109 x110:Int,∃ (A111:Option Addr) (n111_ c111_:Nat),∃ (A112:Option Addr) (n112_ c112_:Nat),∃ x113 x114:Int,(13=13∧At w101 ⟨g3,0,N⟩ [I B x102,I H x103,T b104,T b105,I L x106,I B x107,I B x108,I D x109,I D x110,S A111 n111_ c111_,S A112 n112_ c112_,I L x113,I L x114])∧
(R (.returned (G #[I B x102,I H x103,T b104,T b105,I L x106,I B x107,I B x108,I D x109,I D x110,S A111 n111_ c111_,S A112 n112_ c112_,I L x113,I L x114])) w101)))))))))
else
((if (x56 == 2)=true then
(∃ x115 x116:Int,∃ b117 b118:Bool,∃ x119 x120 x121 x122 x123:Int,∃ (A124:Option Addr) (n124_ c124_:Nat),∃ (A125:Option Addr) (n125_ c125_:Nat),(11=11∧At w55 ⟨g53,2,N⟩ [I B x115,I H x116,T b117,T b118,I L x119,I B x120,I B x121,I D x122,I D x123,S A124 n124_ c124_,S A125 n125_ c125_])∧
(∃ x126:Int,w55.cell? ⟨g53,18,N⟩=some (I D x126)∧
(∃ x127:Int,w55.cell? ⟨g53,19,N⟩=some (I D x127)∧
(∃ x128 x129 x130 x131 x132:Int,(5=5∧At w55 ⟨g53,13,N⟩ [I D x128,I D x129,I B x130,I H x131,I H x132])∧
(Calls Tryz.prog 30 #[G #[I B x115,I H x116,T b117,T b118,I L x119,I B x120,I B x121,I D x122,I D x123,S A124 n124_ c124_,S A125 n125_ c125_],I D x126,I D x127,G #[I D x128,I D x129,I B x130,I H x131,I H x132]] w55 (fun (e134:Ending) (w133:W)=>
 ∃ x135 x136:Int,∃ b137 b138:Bool,∃ x139 x140 x141 x142 x143:Int,∃ (A144:Option Addr) (n144_ c144_:Nat),∃ (A145:Option Addr) (n145_ c145_:Nat),∃ x146:Int,e134=.returned (.tuple #[G #[I B x135,I H x136,T b137,T b138,I L x139,I B x140,I B x141,I D x142,I D x143,S A144 n144_ c144_,S A145 n145_ c145_],I L x146])∧
(Let (w133.heap.size) fun g147:Nat=>
 Let (w133.alloc (.cells #[I B 0,I H 0,T false,T false,I L 0,I B 0,I B 0,I D 0,I D 0,S N 0 0,S N 0 0] 37)) fun w148:W=>
 May w148 ⟨g147,0,N⟩ 11∧
(Let (putCells w148 ⟨g147,0,N⟩ [I B x135,I H x136,T b137,T b138,I L x139,I B x140,I B x141,I D x142,I D x143,S A144 n144_ c144_,S A145 n145_ c145_] 0) fun w149:W=>
 ∃ x150 x151:Int,∃ b152 b153:Bool,∃ x154 x155 x156 x157 x158:Int,∃ (A159:Option Addr) (n159_ c159_:Nat),∃ (A160:Option Addr) (n160_ c160_:Nat),(11=11∧At w149 ⟨g147,0,N⟩ [I B x150,I H x151,T b152,T b153,I L x154,I B x155,I B x156,I D x157,I D x158,S A159 n159_ c159_,S A160 n160_ c160_])∧
(May w149 ⟨g3,0,N⟩ 13∧
(Let (putCells w149 ⟨g3,0,N⟩ [I B x150,I H x151,T b152,T b153,I L x154,I B x155,I B x156,I D x157,I D x158,S A159 n159_ c159_,S A160 n160_ c160_,I L 0,I L x146] 0) fun w161:W=>
 ∃ x162 x163:Int,∃ b164 b165:Bool,∃ x166 x167 x168 x169 x170:Int,∃ (A171:Option Addr) (n171_ c171_:Nat),∃ (A172:Option Addr) (n172_ c172_:Nat),∃ x173 x174:Int,(13=13∧At w161 ⟨g3,0,N⟩ [I B x162,I H x163,T b164,T b165,I L x166,I B x167,I B x168,I D x169,I D x170,S A171 n171_ c171_,S A172 n172_ c172_,I L x173,I L x174])∧
(R (.returned (G #[I B x162,I H x163,T b164,T b165,I L x166,I B x167,I B x168,I D x169,I D x170,S A171 n171_ c171_,S A172 n172_ c172_,I L x173,I L x174])) w161)))))))))))
else
((if (x56 == 3)=true then
(∃ x175 x176 x177 x178 x179:Int,(5=5∧At w55 ⟨g53,13,N⟩ [I D x175,I D x176,I B x177,I H x178,I H x179])∧
(∃ (A180:Option Addr) (n180_ c180_:Nat),w55.cell? ⟨g53,20,N⟩=some (S A180 n180_ c180_)∧
(Calls Tryz.prog 32 #[G #[I D x175,I D x176,I B x177,I H x178,I H x179],S A180 n180_ c180_] w55 (fun (e182:Ending) (w181:W)=>
 ∃ x183 x184:Int,e182=.returned (.tuple #[I L x183,I L x184])∧
(May w181 ⟨g3,0,N⟩ 13∧
(Let (putCells w181 ⟨g3,0,N⟩ [I B 0,I H 0,T false,T false,I L 0,I B 0,I B 0,I D 0,I D 0,S N 0 0,S N 0 0,I L x183,I L x184] 0) fun w185:W=>
 ∃ x186 x187:Int,∃ b188 b189:Bool,∃ x190 x191 x192 x193 x194:Int,∃ (A195:Option Addr) (n195_ c195_:Nat),∃ (A196:Option Addr) (n196_ c196_:Nat),∃ x197 x198:Int,(13=13∧At w185 ⟨g3,0,N⟩ [I B x186,I H x187,T b188,T b189,I L x190,I B x191,I B x192,I D x193,I D x194,S A195 n195_ c195_,S A196 n196_ c196_,I L x197,I L x198])∧
(R (.returned (G #[I B x186,I H x187,T b188,T b189,I L x190,I B x191,I B x192,I D x193,I D x194,S A195 n195_ c195_,S A196 n196_ c196_,I L x197,I L x198])) w185)))))))
else
(May w55 ⟨g3,0,N⟩ 13∧
(Let (putCells w55 ⟨g3,0,N⟩ [I B 0,I H 0,T false,T false,I L 0,I B 0,I B 0,I D 0,I D 0,S N 0 0,S N 0 0,I L 0,I L 0] 0) fun w199:W=>
 ∃ x200 x201:Int,∃ b202 b203:Bool,∃ x204 x205 x206 x207 x208:Int,∃ (A209:Option Addr) (n209_ c209_:Nat),∃ (A210:Option Addr) (n210_ c210_:Nat),∃ x211 x212:Int,(13=13∧At w199 ⟨g3,0,N⟩ [I B x200,I H x201,T b202,T b203,I L x204,I B x205,I B x206,I D x207,I D x208,S A209 n209_ c209_,S A210 n210_ c210_,I L x211,I L x212])∧
(R (.returned (G #[I B x200,I H x201,T b202,T b203,I L x204,I B x205,I B x206,I D x207,I D x208,S A209 n209_ c209_,S A210 n210_ c210_,I L x211,I L x212])) w199))))))))))))))
theorem qq39.run (h:qq39.s i0_0 i0_1 i0_2 i0_3 i0_4 i0_5 i0_6 i0_7 i0_8 i0_9 i0_10 I0_11 in0_11 ic0_11 I0_12 in0_12 ic0_12 i0_13 i0_14 i0_15 i0_16 i0_17 i0_18 i0_19 I0_20 in0_20 ic0_20 i0_21 i0_22 w R):Calls Tryz.prog 12 #[G #[I L i0_0,T i0_1,I B i0_2,I H i0_3,T i0_4,T i0_5,I L i0_6,I B i0_7,I B i0_8,I D i0_9,I D i0_10,S I0_11 in0_11 ic0_11,S I0_12 in0_12 ic0_12,I D i0_13,I D i0_14,I B i0_15,I H i0_16,I H i0_17,I D i0_18,I D i0_19,S I0_20 in0_20 ic0_20,I B i0_21,I H i0_22]] w R:=
 calls_segk (ords:=qq39.ords) (J:=qq39.joins) ents mixed Tryz.func12 rfl h (by kernel_rfl)
def qq24.ords:Nat→Od
 | _=>.nil
def qq24.joins (p:List Nat):Bool:=false
def qq24.s (i0_0 i0_1:Int) (i0_2 i0_3:Bool) (i0_4 i0_5 i0_6 i0_7 i0_8:Int) (I0_9:Option Addr) (in0_9 ic0_9:Nat) (I0_10:Option Addr) (in0_10 ic0_10:Nat) (i0_11 i0_12 i1_0 i1_1:Int) (i1_2 i1_3:Bool) (i1_4 i1_5 i1_6 i1_7 i1_8:Int) (I1_9:Option Addr) (in1_9 ic1_9:Nat) (I1_10:Option Addr) (in1_10 ic1_10:Nat) (i1_11 i1_12:Int) (w:W) (R:E):Prop:=
(Let (w.heap.size) fun g1:Nat=>
 Let (w.alloc (.cells #[I B i0_0,I H i0_1,T i0_2,T i0_3,I L i0_4,I B i0_5,I B i0_6,I D i0_7,I D i0_8,S I0_9 in0_9 ic0_9,S I0_10 in0_10 ic0_10,I L i0_11,I L i0_12] 51)) fun w2:W=>
 Let (w2.heap.size) fun g3:Nat=>
 Let (w2.alloc (.cells #[I B i1_0,I H i1_1,T i1_2,T i1_3,I L i1_4,I B i1_5,I B i1_6,I D i1_7,I D i1_8,S I1_9 in1_9 ic1_9,S I1_10 in1_10 ic1_10,I L i1_11,I L i1_12] 51)) fun w4:W=>
 ∃ x5:Int,w4.cell? ⟨g1,11,N⟩=some (I L x5)∧
(∃ x6:Int,w4.cell? ⟨g3,11,N⟩=some (I L x6)∧
((if (x5 == x6)=true then
(∃ x7:Int,w4.cell? ⟨g1,12,N⟩=some (I L x7)∧
(∃ x8:Int,w4.cell? ⟨g3,12,N⟩=some (I L x8)∧
((if (x7 == x8)=true then
(∃ x9 x10:Int,∃ b11 b12:Bool,∃ x13 x14 x15 x16 x17:Int,∃ (A18:Option Addr) (n18_ c18_:Nat),∃ (A19:Option Addr) (n19_ c19_:Nat),(11=11∧At w4 ⟨g1,0,N⟩ [I B x9,I H x10,T b11,T b12,I L x13,I B x14,I B x15,I D x16,I D x17,S A18 n18_ c18_,S A19 n19_ c19_])∧
(∃ x20 x21:Int,∃ b22 b23:Bool,∃ x24 x25 x26 x27 x28:Int,∃ (A29:Option Addr) (n29_ c29_:Nat),∃ (A30:Option Addr) (n30_ c30_:Nat),(11=11∧At w4 ⟨g3,0,N⟩ [I B x20,I H x21,T b22,T b23,I L x24,I B x25,I B x26,I D x27,I D x28,S A29 n29_ c29_,S A30 n30_ c30_])∧
(Calls Tryz.prog 29 #[G #[I B x9,I H x10,T b11,T b12,I L x13,I B x14,I B x15,I D x16,I D x17,S A18 n18_ c18_,S A19 n19_ c19_],G #[I B x20,I H x21,T b22,T b23,I L x24,I B x25,I B x26,I D x27,I D x28,S A29 n29_ c29_,S A30 n30_ c30_]] w4 (fun (e32:Ending) (w31:W)=>
 ∃ b33:Bool,e32=.returned (T b33)∧
(R (.returned (T b33)) w31)))))
else
(R (.returned (T false)) w4)))))
else
(R (.returned (T false)) w4)))))
theorem qq24.run (h:qq24.s i0_0 i0_1 i0_2 i0_3 i0_4 i0_5 i0_6 i0_7 i0_8 I0_9 in0_9 ic0_9 I0_10 in0_10 ic0_10 i0_11 i0_12 i1_0 i1_1 i1_2 i1_3 i1_4 i1_5 i1_6 i1_7 i1_8 I1_9 in1_9 ic1_9 I1_10 in1_10 ic1_10 i1_11 i1_12 w R):Calls Tryz.prog 13 #[G #[I B i0_0,I H i0_1,T i0_2,T i0_3,I L i0_4,I B i0_5,I B i0_6,I D i0_7,I D i0_8,S I0_9 in0_9 ic0_9,S I0_10 in0_10 ic0_10,I L i0_11,I L i0_12],G #[I B i1_0,I H i1_1,T i1_2,T i1_3,I L i1_4,I B i1_5,I B i1_6,I D i1_7,I D i1_8,S I1_9 in1_9 ic1_9,S I1_10 in1_10 ic1_10,I L i1_11,I L i1_12]] w R:=
 calls_segk (ords:=qq24.ords) (J:=qq24.joins) ents mixed Tryz.func13 rfl h (by kernel_rfl)
def qq29.ords:Nat→Od
 | _=>.nil
def qq29.joins (p:List Nat):Bool:=false
def qq29.s (i0_0:Int) (i0_1:Bool) (i0_2 i0_3:Int) (i0_4 i0_5:Bool) (i0_6 i0_7 i0_8 i0_9 i0_10:Int) (I0_11:Option Addr) (in0_11 ic0_11:Nat) (I0_12:Option Addr) (in0_12 ic0_12:Nat) (i0_13 i0_14 i0_15 i0_16 i0_17 i0_18 i0_19:Int) (I0_20:Option Addr) (in0_20 ic0_20:Nat) (i0_21 i0_22:Int) (w:W) (R:E):Prop:=
(Let (w.heap.size) fun g1:Nat=>
 Let (w.alloc (.cells #[I L i0_0,T i0_1,I B i0_2,I H i0_3,T i0_4,T i0_5,I L i0_6,I B i0_7,I B i0_8,I D i0_9,I D i0_10,S I0_11 in0_11 ic0_11,S I0_12 in0_12 ic0_12,I D i0_13,I D i0_14,I B i0_15,I H i0_16,I H i0_17,I D i0_18,I D i0_19,S I0_20 in0_20 ic0_20,I B i0_21,I H i0_22] 42)) fun w2:W=>
 Let (w2.heap.size) fun g3:Nat=>
 Let (w2.alloc (.cells #[I L 0,T false,I B 0,I H 0,T false,T false,I L 0,I B 0,I B 0,I D 0,I D 0,S N 0 0,S N 0 0,I D 0,I D 0,I B 0,I H 0,I H 0,I D 0,I D 0,S N 0 0,I B 0,I H 0] 42)) fun w4:W=>
 ∃ x5 x6:Int,∃ b7 b8:Bool,∃ x9 x10 x11 x12 x13:Int,∃ (A14:Option Addr) (n14_ c14_:Nat),∃ (A15:Option Addr) (n15_ c15_:Nat),(11=11∧At w4 ⟨g1,2,N⟩ [I B x5,I H x6,T b7,T b8,I L x9,I B x10,I B x11,I D x12,I D x13,S A14 n14_ c14_,S A15 n15_ c15_])∧
(Calls Tryz.prog 28 #[G #[I B x5,I H x6,T b7,T b8,I L x9,I B x10,I B x11,I D x12,I D x13,S A14 n14_ c14_,S A15 n15_ c15_]] w4 (fun (e17:Ending) (w16:W)=>
 ∃ x18 x19:Int,∃ b20 b21:Bool,∃ x22 x23 x24 x25 x26:Int,∃ (A27:Option Addr) (n27_ c27_:Nat),∃ (A28:Option Addr) (n28_ c28_:Nat),e17=.returned (G #[I B x18,I H x19,T b20,T b21,I L x22,I B x23,I B x24,I D x25,I D x26,S A27 n27_ c27_,S A28 n28_ c28_])∧
(May w16 ⟨g1,2,N⟩ 11∧
(Let (putCells w16 ⟨g1,2,N⟩ [I B x18,I H x19,T b20,T b21,I L x22,I B x23,I B x24,I D x25,I D x26,S A27 n27_ c27_,S A28 n28_ c28_] 0) fun w29:W=>
 ∃ (A30:Option Addr) (n30_ c30_:Nat),w29.cell? ⟨g1,20,N⟩=some (S A30 n30_ c30_)∧
(Calls Tryz.prog 33 #[S A30 n30_ c30_] w29 (fun (e32:Ending) (w31:W)=>
 ∃ (A33:Option Addr) (n33_ c33_:Nat),e32=.returned (S A33 n33_ c33_)∧
(MayC w31 ⟨g1,20,N⟩∧
(Let (w31.setCell ⟨g1,20,N⟩ (S A33 n33_ c33_)) fun w34:W=>
 ∃ x35:Int,∃ b36:Bool,∃ x37 x38:Int,∃ b39 b40:Bool,∃ x41 x42 x43 x44 x45:Int,∃ (A46:Option Addr) (n46_ c46_:Nat),∃ (A47:Option Addr) (n47_ c47_:Nat),∃ x48 x49 x50 x51 x52 x53 x54:Int,∃ (A55:Option Addr) (n55_ c55_:Nat),∃ x56 x57:Int,(23=23∧At w34 ⟨g1,0,N⟩ [I L x35,T b36,I B x37,I H x38,T b39,T b40,I L x41,I B x42,I B x43,I D x44,I D x45,S A46 n46_ c46_,S A47 n47_ c47_,I D x48,I D x49,I B x50,I H x51,I H x52,I D x53,I D x54,S A55 n55_ c55_,I B x56,I H x57])∧
(May w34 ⟨g3,0,N⟩ 23∧
(Let (putCells w34 ⟨g3,0,N⟩ [I L x35,T b36,I B x37,I H x38,T b39,T b40,I L x41,I B x42,I B x43,I D x44,I D x45,S A46 n46_ c46_,S A47 n47_ c47_,I D x48,I D x49,I B x50,I H x51,I H x52,I D x53,I D x54,S A55 n55_ c55_,I B x56,I H x57] 0) fun w58:W=>
 ∃ x59:Int,∃ b60:Bool,∃ x61 x62:Int,∃ b63 b64:Bool,∃ x65 x66 x67 x68 x69:Int,∃ (A70:Option Addr) (n70_ c70_:Nat),∃ (A71:Option Addr) (n71_ c71_:Nat),∃ x72 x73 x74 x75 x76 x77 x78:Int,∃ (A79:Option Addr) (n79_ c79_:Nat),∃ x80 x81:Int,(23=23∧At w58 ⟨g3,0,N⟩ [I L x59,T b60,I B x61,I H x62,T b63,T b64,I L x65,I B x66,I B x67,I D x68,I D x69,S A70 n70_ c70_,S A71 n71_ c71_,I D x72,I D x73,I B x74,I H x75,I H x76,I D x77,I D x78,S A79 n79_ c79_,I B x80,I H x81])∧
(R (.returned (G #[I L x59,T b60,I B x61,I H x62,T b63,T b64,I L x65,I B x66,I B x67,I D x68,I D x69,S A70 n70_ c70_,S A71 n71_ c71_,I D x72,I D x73,I B x74,I H x75,I H x76,I D x77,I D x78,S A79 n79_ c79_,I B x80,I H x81])) w58))))))))))))
theorem qq29.run (h:qq29.s i0_0 i0_1 i0_2 i0_3 i0_4 i0_5 i0_6 i0_7 i0_8 i0_9 i0_10 I0_11 in0_11 ic0_11 I0_12 in0_12 ic0_12 i0_13 i0_14 i0_15 i0_16 i0_17 i0_18 i0_19 I0_20 in0_20 ic0_20 i0_21 i0_22 w R):Calls Tryz.prog 10 #[G #[I L i0_0,T i0_1,I B i0_2,I H i0_3,T i0_4,T i0_5,I L i0_6,I B i0_7,I B i0_8,I D i0_9,I D i0_10,S I0_11 in0_11 ic0_11,S I0_12 in0_12 ic0_12,I D i0_13,I D i0_14,I B i0_15,I H i0_16,I H i0_17,I D i0_18,I D i0_19,S I0_20 in0_20 ic0_20,I B i0_21,I H i0_22]] w R:=
 calls_segk (ords:=qq29.ords) (J:=qq29.joins) ents mixed Tryz.func10 rfl h (by kernel_rfl)
def qq35.ords:Nat→Od
 | 8=>(.tk 0 (.tk 1 (.tk 2 (.tk 3 (.tk 4 (.tk 5 (.tk 6 (.tk 7 (.tk 8 (.tk 9 (.tk 10 (.tk 11 (.tk 12 (.tk 13 (.tk 14 (.tk 15 (.tk 16 (.tk 17 (.tk 18 (.tk 19 (.tk 20 (.tk 21 (.tk 22 (.tk 23 (.tk 24 (.tk 25 (.last 26)))))))))))))))))))))))))))
 | 10=>(.tk 0 (.tk 1 (.tk 2 (.tk 3 (.tk 4 (.tk 5 (.tk 6 (.tk 7 (.tk 8 (.tk 9 (.tk 10 (.tk 11 (.tk 12 (.tk 13 (.on 14 .nil)))))))))))))))
 | 12=>(.tk 0 (.tk 1 (.tk 2 (.tk 3 (.tk 4 (.tk 5 (.tk 6 (.tk 7 (.tk 8 (.tk 9 (.tk 10 (.tk 11 (.tk 12 (.tk 13 (.tk 14 (.tk 15 (.tk 16 (.tk 17 (.tk 18 (.tk 19 (.tk 20 (.tk 21 (.tk 22 (.tk 23 (.last 24)))))))))))))))))))))))))
 | _=>.nil
def qq35.joins (p:List Nat):Bool:=p == [1,1] || p == [1,1,1] || p == [1,0,0,1,1,1,1,1] || p == [1,1,1,1,1,1] || p == [1,1,1,0,0,1,1,1,1,1] || p == [1,1,1,1,1,0,0,1,1,1,1,1]
def qq35.j1 (y1:Int) (yg2 yg4:Nat) (d0 d3 d5 d6 d7 d8 d9 dA dB dC dD dE dF dG dH dI dJ dK dL dM dN dO dP dQ dR dS dT dU dV dW dX dY dZ k0 k1 k2 k3 k4 k5 k6 k7 k8 k9 kA kB kC kD kE kF kG kH kI kJ kK kL kM kN kO kP kQ kR kS kT kU kV kW kX kY kZ v0 v1 v2 v3 v4 v5 v6 v7 v8 v9 vA vB vC vD vE vF vG vH vI vJ vK vL vM vN vO vP vQ vR vS vT vU vV vW vX vY vZ o0 o1 o2 o3 o4 o5 o6 o7 o8 o9 oA oB oC oD oE oF oG oH oI oJ oK oL oM oN oO oP oQ oR oS oT oU oV oW oX oY oZ f0 f1 f2 f3 f4 f5 f6 f7 f8 f9 fA fB fC fD fE fF fG fH fI fJ fK fL fM fN fO fP fQ fR fS fT fU fV fW fX fY:V) (w:W) (R:E):Prop:=
 seg Tryz.prog entE qq35.ords qq35.joins Tryz.f9 [1,1] [1,1] [] [d0,I L y1,P (some ⟨yg2,0,N⟩),d3,P (some ⟨yg4,0,N⟩),d5,d6,d7,d8,d9,dA,dB,dC,dD,dE,dF,dG,dH,dI,dJ,dK,dL,dM,dN,dO,dP,dQ,dR,dS,dT,dU,dV,dW,dX,dY,dZ,k0,k1,k2,k3,k4,k5,k6,k7,k8,k9,kA,kB,kC,kD,kE,kF,kG,kH,kI,kJ,kK,kL,kM,kN,kO,kP,kQ,kR,kS,kT,kU,kV,kW,kX,kY,kZ,v0,v1,v2,v3,v4,v5,v6,v7,v8,v9,vA,vB,vC,vD,vE,vF,vG,vH,vI,vJ,vK,vL,vM,vN,vO,vP,vQ,vR,vS,vT,vU,vV,vW,vX,vY,vZ,o0,o1,o2,o3,o4,o5,o6,o7,o8,o9,oA,oB,oC,oD,oE,oF,oG,oH,oI,oJ,oK,oL,oM,oN,oO,oP,oQ,oR,oS,oT,oU,oV,oW,oX,oY,oZ,f0,f1,f2,f3,f4,f5,f6,f7,f8,f9,fA,fB,fC,fD,fE,fF,fG,fH,fI,fJ,fK,fL,fM,fN,fO,fP,fQ,fR,fS,fT,fU,fV,fW,fX,fY] w R
def qq35.j2 (y1:Int) (yg2 yg4:Nat) (d0 d3 d5 d6 d7 d8 d9 dA dB dC dD dE dF dG dH dI dJ dK dL dM dN dO dP dQ dR dS dT dU dV dW dX dY dZ k0 k1 k2 k3 k4 k5 k6 k7 k8 k9 kA kB kC kD kE kF kG kH kI kJ kK kL kM kN kO kP kQ kR kS kT kU kV kW kX kY kZ v0 v1 v2 v3 v4 v5 v6 v7 v8 v9 vA vB vC vD vE vF vG vH vI vJ vK vL vM vN vO vP vQ vR vS vT vU vV vW vX vY vZ o0 o1 o2 o3 o4 o5 o6 o7 o8 o9 oA oB oC oD oE oF oG oH oI oJ oK oL oM oN oO oP oQ oR oS oT oU oV oW oX oY oZ f0 f1 f2 f3 f4 f5 f6 f7 f8 f9 fA fB fC fD fE fF fG fH fI fJ fK fL fM fN fO fP fQ fR fS fT fU fV fW fX fY:V) (w:W) (R:E):Prop:=
 seg Tryz.prog entE qq35.ords qq35.joins Tryz.f9 [1,1,1] [1,1,1] [] [d0,I L y1,P (some ⟨yg2,0,N⟩),d3,P (some ⟨yg4,0,N⟩),d5,d6,d7,d8,d9,dA,dB,dC,dD,dE,dF,dG,dH,dI,dJ,dK,dL,dM,dN,dO,dP,dQ,dR,dS,dT,dU,dV,dW,dX,dY,dZ,k0,k1,k2,k3,k4,k5,k6,k7,k8,k9,kA,kB,kC,kD,kE,kF,kG,kH,kI,kJ,kK,kL,kM,kN,kO,kP,kQ,kR,kS,kT,kU,kV,kW,kX,kY,kZ,v0,v1,v2,v3,v4,v5,v6,v7,v8,v9,vA,vB,vC,vD,vE,vF,vG,vH,vI,vJ,vK,vL,vM,vN,vO,vP,vQ,vR,vS,vT,vU,vV,vW,vX,vY,vZ,o0,o1,o2,o3,o4,o5,o6,o7,o8,o9,oA,oB,oC,oD,oE,oF,oG,oH,oI,oJ,oK,oL,oM,oN,oO,oP,oQ,oR,oS,oT,oU,oV,oW,oX,oY,oZ,f0,f1,f2,f3,f4,f5,f6,f7,f8,f9,fA,fB,fC,fD,fE,fF,fG,fH,fI,fJ,fK,fL,fM,fN,fO,fP,fQ,fR,fS,fT,fU,fV,fW,fX,fY] w R
def qq35.j3 (y1:Int) (yg2 yg4:Nat) (y5:Int) (y21:Bool) (d0 d3 d6 d7 d8 d9 dA dB dC dD dE dF dG dH dI dJ dK dM dN dO dP dQ dR dS dT dU dV dW dX dY dZ k0 k1 k2 k3 k4 k5 k6 k7 k8 k9 kA kB kC kD kE kF kG kH kI kJ kK kL kM kN kO kP kQ kR kS kT kU kV kW kX kY kZ v0 v1 v2 v3 v4 v5 v6 v7 v8 v9 vA vB vC vD vE vF vG vH vI vJ vK vL vM vN vO vP vQ vR vS vT vU vV vW vX vY vZ o0 o1 o2 o3 o4 o5 o6 o7 o8 o9 oA oB oC oD oE oF oG oH oI oJ oK oL oM oN oO oP oQ oR oS oT oU oV oW oX oY oZ f0 f1 f2 f3 f4 f5 f6 f7 f8 f9 fA fB fC fD fE fF fG fH fI fJ fK fL fM fN fO fP fQ fR fS fT fU fV fW fX fY:V) (w:W) (R:E):Prop:=
 seg Tryz.prog entE qq35.ords qq35.joins Tryz.f9 [1,1,1,1,1,0,0,1] [1,0,0,1,1,1,1,1] [] [d0,I L y1,P (some ⟨yg2,0,N⟩),d3,P (some ⟨yg4,0,N⟩),I L y5,d6,d7,d8,d9,dA,dB,dC,dD,dE,dF,dG,dH,dI,dJ,dK,T y21,dM,dN,dO,dP,dQ,dR,dS,dT,dU,dV,dW,dX,dY,dZ,k0,k1,k2,k3,k4,k5,k6,k7,k8,k9,kA,kB,kC,kD,kE,kF,kG,kH,kI,kJ,kK,kL,kM,kN,kO,kP,kQ,kR,kS,kT,kU,kV,kW,kX,kY,kZ,v0,v1,v2,v3,v4,v5,v6,v7,v8,v9,vA,vB,vC,vD,vE,vF,vG,vH,vI,vJ,vK,vL,vM,vN,vO,vP,vQ,vR,vS,vT,vU,vV,vW,vX,vY,vZ,o0,o1,o2,o3,o4,o5,o6,o7,o8,o9,oA,oB,oC,oD,oE,oF,oG,oH,oI,oJ,oK,oL,oM,oN,oO,oP,oQ,oR,oS,oT,oU,oV,oW,oX,oY,oZ,f0,f1,f2,f3,f4,f5,f6,f7,f8,f9,fA,fB,fC,fD,fE,fF,fG,fH,fI,fJ,fK,fL,fM,fN,fO,fP,fQ,fR,fS,fT,fU,fV,fW,fX,fY] w R
def qq35.j4 (yg2 yg4:Nat) (d0 d1 d3 d5 d6 d7 d8 d9 dA dB dC dD dE dF dG dH dI dJ dK dL dM dN dO dP dQ dR dS dT dU dV dW dX dY dZ k0 k1 k2 k3 k4 k5 k6 k7 k8 k9 kA kB kC kD kE kF kG kH kI kJ kK kL kM kN kO kP kQ kR kS kT kU kV kW kX kY kZ v0 v1 v2 v3 v4 v5 v6 v7 v8 v9 vA vB vC vD vE vF vG vH vI vJ vK vL vM vN vO vP vQ vR vS vT vU vV vW vX vY vZ o0 o1 o2 o3 o4 o5 o6 o7 o8 o9 oA oB oC oD oE oF oG oH oI oJ oK oL oM oN oO oP oQ oR oS oT oU oV oW oX oY oZ f0 f1 f2 f3 f4 f5 f6 f7 f8 f9 fA fB fC fD fE fF fG fH fI fJ fK fL fM fN fO fP fQ fR fS fT fU fV fW fX fY:V) (w:W) (R:E):Prop:=
 seg Tryz.prog entE qq35.ords qq35.joins Tryz.f9 [1,1,1,1,1,1] [1,1,1,1,1,1] [] [d0,d1,P (some ⟨yg2,0,N⟩),d3,P (some ⟨yg4,0,N⟩),d5,d6,d7,d8,d9,dA,dB,dC,dD,dE,dF,dG,dH,dI,dJ,dK,dL,dM,dN,dO,dP,dQ,dR,dS,dT,dU,dV,dW,dX,dY,dZ,k0,k1,k2,k3,k4,k5,k6,k7,k8,k9,kA,kB,kC,kD,kE,kF,kG,kH,kI,kJ,kK,kL,kM,kN,kO,kP,kQ,kR,kS,kT,kU,kV,kW,kX,kY,kZ,v0,v1,v2,v3,v4,v5,v6,v7,v8,v9,vA,vB,vC,vD,vE,vF,vG,vH,vI,vJ,vK,vL,vM,vN,vO,vP,vQ,vR,vS,vT,vU,vV,vW,vX,vY,vZ,o0,o1,o2,o3,o4,o5,o6,o7,o8,o9,oA,oB,oC,oD,oE,oF,oG,oH,oI,oJ,oK,oL,oM,oN,oO,oP,oQ,oR,oS,oT,oU,oV,oW,oX,oY,oZ,f0,f1,f2,f3,f4,f5,f6,f7,f8,f9,fA,fB,fC,fD,fE,fF,fG,fH,fI,fJ,fK,fL,fM,fN,fO,fP,fQ,fR,fS,fT,fU,fV,fW,fX,fY] w R
def qq35.j5 (y1:Int) (yg2 yg4:Nat) (y5:Int) (y57:Bool) (d0 d3 d6 d7 d8 d9 dA dB dC dD dE dF dG dH dI dJ dK dL dM dN dO dP dQ dR dS dT dU dV dW dX dY dZ k0 k1 k2 k3 k4 k5 k6 k7 k8 k9 kA kB kC kD kE kF kG kH kI kJ kK kM kN kO kP kQ kR kS kT kU kV kW kX kY kZ v0 v1 v2 v3 v4 v5 v6 v7 v8 v9 vA vB vC vD vE vF vG vH vI vJ vK vL vM vN vO vP vQ vR vS vT vU vV vW vX vY vZ o0 o1 o2 o3 o4 o5 o6 o7 o8 o9 oA oB oC oD oE oF oG oH oI oJ oK oL oM oN oO oP oQ oR oS oT oU oV oW oX oY oZ f0 f1 f2 f3 f4 f5 f6 f7 f8 f9 fA fB fC fD fE fF fG fH fI fJ fK fL fM fN fO fP fQ fR fS fT fU fV fW fX fY:V) (w:W) (R:E):Prop:=
 seg Tryz.prog entE qq35.ords qq35.joins Tryz.f9 [1,1,1,1,1,0,0,1,1,1] [1,1,1,0,0,1,1,1,1,1] [] [d0,I L y1,P (some ⟨yg2,0,N⟩),d3,P (some ⟨yg4,0,N⟩),I L y5,d6,d7,d8,d9,dA,dB,dC,dD,dE,dF,dG,dH,dI,dJ,dK,dL,dM,dN,dO,dP,dQ,dR,dS,dT,dU,dV,dW,dX,dY,dZ,k0,k1,k2,k3,k4,k5,k6,k7,k8,k9,kA,kB,kC,kD,kE,kF,kG,kH,kI,kJ,kK,T y57,kM,kN,kO,kP,kQ,kR,kS,kT,kU,kV,kW,kX,kY,kZ,v0,v1,v2,v3,v4,v5,v6,v7,v8,v9,vA,vB,vC,vD,vE,vF,vG,vH,vI,vJ,vK,vL,vM,vN,vO,vP,vQ,vR,vS,vT,vU,vV,vW,vX,vY,vZ,o0,o1,o2,o3,o4,o5,o6,o7,o8,o9,oA,oB,oC,oD,oE,oF,oG,oH,oI,oJ,oK,oL,oM,oN,oO,oP,oQ,oR,oS,oT,oU,oV,oW,oX,oY,oZ,f0,f1,f2,f3,f4,f5,f6,f7,f8,f9,fA,fB,fC,fD,fE,fF,fG,fH,fI,fJ,fK,fL,fM,fN,fO,fP,fQ,fR,fS,fT,fU,fV,fW,fX,fY] w R
def qq35.j6 (y1:Int) (yg2 yg4:Nat) (y5:Int) (y82:Bool) (d0 d3 d6 d7 d8 d9 dA dB dC dD dE dF dG dH dI dJ dK dL dM dN dO dP dQ dR dS dT dU dV dW dX dY dZ k0 k1 k2 k3 k4 k5 k6 k7 k8 k9 kA kB kC kD kE kF kG kH kI kJ kK kL kM kN kO kP kQ kR kS kT kU kV kW kX kY kZ v0 v1 v2 v3 v4 v5 v6 v7 v8 v9 vB vC vD vE vF vG vH vI vJ vK vL vM vN vO vP vQ vR vS vT vU vV vW vX vY vZ o0 o1 o2 o3 o4 o5 o6 o7 o8 o9 oA oB oC oD oE oF oG oH oI oJ oK oL oM oN oO oP oQ oR oS oT oU oV oW oX oY oZ f0 f1 f2 f3 f4 f5 f6 f7 f8 f9 fA fB fC fD fE fF fG fH fI fJ fK fL fM fN fO fP fQ fR fS fT fU fV fW fX fY:V) (w:W) (R:E):Prop:=
 seg Tryz.prog entE qq35.ords qq35.joins Tryz.f9 [1,1,1,1,1,0,0,1,1,1,1,1] [1,1,1,1,1,0,0,1,1,1,1,1] [] [d0,I L y1,P (some ⟨yg2,0,N⟩),d3,P (some ⟨yg4,0,N⟩),I L y5,d6,d7,d8,d9,dA,dB,dC,dD,dE,dF,dG,dH,dI,dJ,dK,dL,dM,dN,dO,dP,dQ,dR,dS,dT,dU,dV,dW,dX,dY,dZ,k0,k1,k2,k3,k4,k5,k6,k7,k8,k9,kA,kB,kC,kD,kE,kF,kG,kH,kI,kJ,kK,kL,kM,kN,kO,kP,kQ,kR,kS,kT,kU,kV,kW,kX,kY,kZ,v0,v1,v2,v3,v4,v5,v6,v7,v8,v9,T y82,vB,vC,vD,vE,vF,vG,vH,vI,vJ,vK,vL,vM,vN,vO,vP,vQ,vR,vS,vT,vU,vV,vW,vX,vY,vZ,o0,o1,o2,o3,o4,o5,o6,o7,o8,o9,oA,oB,oC,oD,oE,oF,oG,oH,oI,oJ,oK,oL,oM,oN,oO,oP,oQ,oR,oS,oT,oU,oV,oW,oX,oY,oZ,f0,f1,f2,f3,f4,f5,f6,f7,f8,f9,fA,fB,fC,fD,fE,fF,fG,fH,fI,fJ,fK,fL,fM,fN,fO,fP,fQ,fR,fS,fT,fU,fV,fW,fX,fY] w R
abbrev qq35.J1 (y1:Int) (yg2 yg4:Nat) (w:W) (R:E):Prop:=∀ d0 d3 d5 d6 d7 d8 d9 dA dB dC dD dE dF dG dH dI dJ dK dL dM dN dO dP dQ dR dS dT dU dV dW dX dY dZ k0 k1 k2 k3 k4 k5 k6 k7 k8 k9 kA kB kC kD kE kF kG kH kI kJ kK kL kM kN kO kP kQ kR kS kT kU kV kW kX kY kZ v0 v1 v2 v3 v4 v5 v6 v7 v8 v9 vA vB vC vD vE vF vG vH vI vJ vK vL vM vN vO vP vQ vR vS vT vU vV vW vX vY vZ o0 o1 o2 o3 o4 o5 o6 o7 o8 o9 oA oB oC oD oE oF oG oH oI oJ oK oL oM oN oO oP oQ oR oS oT oU oV oW oX oY oZ f0 f1 f2 f3 f4 f5 f6 f7 f8 f9 fA fB fC fD fE fF fG fH fI fJ fK fL fM fN fO fP fQ fR fS fT fU fV fW fX fY,qq35.j1 y1 yg2 yg4 d0 d3 d5 d6 d7 d8 d9 dA dB dC dD dE dF dG dH dI dJ dK dL dM dN dO dP dQ dR dS dT dU dV dW dX dY dZ k0 k1 k2 k3 k4 k5 k6 k7 k8 k9 kA kB kC kD kE kF kG kH kI kJ kK kL kM kN kO kP kQ kR kS kT kU kV kW kX kY kZ v0 v1 v2 v3 v4 v5 v6 v7 v8 v9 vA vB vC vD vE vF vG vH vI vJ vK vL vM vN vO vP vQ vR vS vT vU vV vW vX vY vZ o0 o1 o2 o3 o4 o5 o6 o7 o8 o9 oA oB oC oD oE oF oG oH oI oJ oK oL oM oN oO oP oQ oR oS oT oU oV oW oX oY oZ f0 f1 f2 f3 f4 f5 f6 f7 f8 f9 fA fB fC fD fE fF fG fH fI fJ fK fL fM fN fO fP fQ fR fS fT fU fV fW fX fY w R
abbrev qq35.J2 (y1:Int) (yg2 yg4:Nat) (w:W) (R:E):Prop:=∀ d0 d3 d5 d6 d7 d8 d9 dA dB dC dD dE dF dG dH dI dJ dK dL dM dN dO dP dQ dR dS dT dU dV dW dX dY dZ k0 k1 k2 k3 k4 k5 k6 k7 k8 k9 kA kB kC kD kE kF kG kH kI kJ kK kL kM kN kO kP kQ kR kS kT kU kV kW kX kY kZ v0 v1 v2 v3 v4 v5 v6 v7 v8 v9 vA vB vC vD vE vF vG vH vI vJ vK vL vM vN vO vP vQ vR vS vT vU vV vW vX vY vZ o0 o1 o2 o3 o4 o5 o6 o7 o8 o9 oA oB oC oD oE oF oG oH oI oJ oK oL oM oN oO oP oQ oR oS oT oU oV oW oX oY oZ f0 f1 f2 f3 f4 f5 f6 f7 f8 f9 fA fB fC fD fE fF fG fH fI fJ fK fL fM fN fO fP fQ fR fS fT fU fV fW fX fY,qq35.j2 y1 yg2 yg4 d0 d3 d5 d6 d7 d8 d9 dA dB dC dD dE dF dG dH dI dJ dK dL dM dN dO dP dQ dR dS dT dU dV dW dX dY dZ k0 k1 k2 k3 k4 k5 k6 k7 k8 k9 kA kB kC kD kE kF kG kH kI kJ kK kL kM kN kO kP kQ kR kS kT kU kV kW kX kY kZ v0 v1 v2 v3 v4 v5 v6 v7 v8 v9 vA vB vC vD vE vF vG vH vI vJ vK vL vM vN vO vP vQ vR vS vT vU vV vW vX vY vZ o0 o1 o2 o3 o4 o5 o6 o7 o8 o9 oA oB oC oD oE oF oG oH oI oJ oK oL oM oN oO oP oQ oR oS oT oU oV oW oX oY oZ f0 f1 f2 f3 f4 f5 f6 f7 f8 f9 fA fB fC fD fE fF fG fH fI fJ fK fL fM fN fO fP fQ fR fS fT fU fV fW fX fY w R
abbrev qq35.J3 (y1:Int) (yg2 yg4:Nat) (y5:Int) (y21:Bool) (w:W) (R:E):Prop:=∀ d0 d3 d6 d7 d8 d9 dA dB dC dD dE dF dG dH dI dJ dK dM dN dO dP dQ dR dS dT dU dV dW dX dY dZ k0 k1 k2 k3 k4 k5 k6 k7 k8 k9 kA kB kC kD kE kF kG kH kI kJ kK kL kM kN kO kP kQ kR kS kT kU kV kW kX kY kZ v0 v1 v2 v3 v4 v5 v6 v7 v8 v9 vA vB vC vD vE vF vG vH vI vJ vK vL vM vN vO vP vQ vR vS vT vU vV vW vX vY vZ o0 o1 o2 o3 o4 o5 o6 o7 o8 o9 oA oB oC oD oE oF oG oH oI oJ oK oL oM oN oO oP oQ oR oS oT oU oV oW oX oY oZ f0 f1 f2 f3 f4 f5 f6 f7 f8 f9 fA fB fC fD fE fF fG fH fI fJ fK fL fM fN fO fP fQ fR fS fT fU fV fW fX fY,qq35.j3 y1 yg2 yg4 y5 y21 d0 d3 d6 d7 d8 d9 dA dB dC dD dE dF dG dH dI dJ dK dM dN dO dP dQ dR dS dT dU dV dW dX dY dZ k0 k1 k2 k3 k4 k5 k6 k7 k8 k9 kA kB kC kD kE kF kG kH kI kJ kK kL kM kN kO kP kQ kR kS kT kU kV kW kX kY kZ v0 v1 v2 v3 v4 v5 v6 v7 v8 v9 vA vB vC vD vE vF vG vH vI vJ vK vL vM vN vO vP vQ vR vS vT vU vV vW vX vY vZ o0 o1 o2 o3 o4 o5 o6 o7 o8 o9 oA oB oC oD oE oF oG oH oI oJ oK oL oM oN oO oP oQ oR oS oT oU oV oW oX oY oZ f0 f1 f2 f3 f4 f5 f6 f7 f8 f9 fA fB fC fD fE fF fG fH fI fJ fK fL fM fN fO fP fQ fR fS fT fU fV fW fX fY w R
abbrev qq35.J4 (yg2 yg4:Nat) (w:W) (R:E):Prop:=∀ d0 d1 d3 d5 d6 d7 d8 d9 dA dB dC dD dE dF dG dH dI dJ dK dL dM dN dO dP dQ dR dS dT dU dV dW dX dY dZ k0 k1 k2 k3 k4 k5 k6 k7 k8 k9 kA kB kC kD kE kF kG kH kI kJ kK kL kM kN kO kP kQ kR kS kT kU kV kW kX kY kZ v0 v1 v2 v3 v4 v5 v6 v7 v8 v9 vA vB vC vD vE vF vG vH vI vJ vK vL vM vN vO vP vQ vR vS vT vU vV vW vX vY vZ o0 o1 o2 o3 o4 o5 o6 o7 o8 o9 oA oB oC oD oE oF oG oH oI oJ oK oL oM oN oO oP oQ oR oS oT oU oV oW oX oY oZ f0 f1 f2 f3 f4 f5 f6 f7 f8 f9 fA fB fC fD fE fF fG fH fI fJ fK fL fM fN fO fP fQ fR fS fT fU fV fW fX fY,qq35.j4 yg2 yg4 d0 d1 d3 d5 d6 d7 d8 d9 dA dB dC dD dE dF dG dH dI dJ dK dL dM dN dO dP dQ dR dS dT dU dV dW dX dY dZ k0 k1 k2 k3 k4 k5 k6 k7 k8 k9 kA kB kC kD kE kF kG kH kI kJ kK kL kM kN kO kP kQ kR kS kT kU kV kW kX kY kZ v0 v1 v2 v3 v4 v5 v6 v7 v8 v9 vA vB vC vD vE vF vG vH vI vJ vK vL vM vN vO vP vQ vR vS vT vU vV vW vX vY vZ o0 o1 o2 o3 o4 o5 o6 o7 o8 o9 oA oB oC oD oE oF oG oH oI oJ oK oL oM oN oO oP oQ oR oS oT oU oV oW oX oY oZ f0 f1 f2 f3 f4 f5 f6 f7 f8 f9 fA fB fC fD fE fF fG fH fI fJ fK fL fM fN fO fP fQ fR fS fT fU fV fW fX fY w R
abbrev qq35.J5 (y1:Int) (yg2 yg4:Nat) (y5:Int) (y57:Bool) (w:W) (R:E):Prop:=∀ d0 d3 d6 d7 d8 d9 dA dB dC dD dE dF dG dH dI dJ dK dL dM dN dO dP dQ dR dS dT dU dV dW dX dY dZ k0 k1 k2 k3 k4 k5 k6 k7 k8 k9 kA kB kC kD kE kF kG kH kI kJ kK kM kN kO kP kQ kR kS kT kU kV kW kX kY kZ v0 v1 v2 v3 v4 v5 v6 v7 v8 v9 vA vB vC vD vE vF vG vH vI vJ vK vL vM vN vO vP vQ vR vS vT vU vV vW vX vY vZ o0 o1 o2 o3 o4 o5 o6 o7 o8 o9 oA oB oC oD oE oF oG oH oI oJ oK oL oM oN oO oP oQ oR oS oT oU oV oW oX oY oZ f0 f1 f2 f3 f4 f5 f6 f7 f8 f9 fA fB fC fD fE fF fG fH fI fJ fK fL fM fN fO fP fQ fR fS fT fU fV fW fX fY,qq35.j5 y1 yg2 yg4 y5 y57 d0 d3 d6 d7 d8 d9 dA dB dC dD dE dF dG dH dI dJ dK dL dM dN dO dP dQ dR dS dT dU dV dW dX dY dZ k0 k1 k2 k3 k4 k5 k6 k7 k8 k9 kA kB kC kD kE kF kG kH kI kJ kK kM kN kO kP kQ kR kS kT kU kV kW kX kY kZ v0 v1 v2 v3 v4 v5 v6 v7 v8 v9 vA vB vC vD vE vF vG vH vI vJ vK vL vM vN vO vP vQ vR vS vT vU vV vW vX vY vZ o0 o1 o2 o3 o4 o5 o6 o7 o8 o9 oA oB oC oD oE oF oG oH oI oJ oK oL oM oN oO oP oQ oR oS oT oU oV oW oX oY oZ f0 f1 f2 f3 f4 f5 f6 f7 f8 f9 fA fB fC fD fE fF fG fH fI fJ fK fL fM fN fO fP fQ fR fS fT fU fV fW fX fY w R
abbrev qq35.J6 (y1:Int) (yg2 yg4:Nat) (y5:Int) (y82:Bool) (w:W) (R:E):Prop:=∀ d0 d3 d6 d7 d8 d9 dA dB dC dD dE dF dG dH dI dJ dK dL dM dN dO dP dQ dR dS dT dU dV dW dX dY dZ k0 k1 k2 k3 k4 k5 k6 k7 k8 k9 kA kB kC kD kE kF kG kH kI kJ kK kL kM kN kO kP kQ kR kS kT kU kV kW kX kY kZ v0 v1 v2 v3 v4 v5 v6 v7 v8 v9 vB vC vD vE vF vG vH vI vJ vK vL vM vN vO vP vQ vR vS vT vU vV vW vX vY vZ o0 o1 o2 o3 o4 o5 o6 o7 o8 o9 oA oB oC oD oE oF oG oH oI oJ oK oL oM oN oO oP oQ oR oS oT oU oV oW oX oY oZ f0 f1 f2 f3 f4 f5 f6 f7 f8 f9 fA fB fC fD fE fF fG fH fI fJ fK fL fM fN fO fP fQ fR fS fT fU fV fW fX fY,qq35.j6 y1 yg2 yg4 y5 y82 d0 d3 d6 d7 d8 d9 dA dB dC dD dE dF dG dH dI dJ dK dL dM dN dO dP dQ dR dS dT dU dV dW dX dY dZ k0 k1 k2 k3 k4 k5 k6 k7 k8 k9 kA kB kC kD kE kF kG kH kI kJ kK kL kM kN kO kP kQ kR kS kT kU kV kW kX kY kZ v0 v1 v2 v3 v4 v5 v6 v7 v8 v9 vB vC vD vE vF vG vH vI vJ vK vL vM vN vO vP vQ vR vS vT vU vV vW vX vY vZ o0 o1 o2 o3 o4 o5 o6 o7 o8 o9 oA oB oC oD oE oF oG oH oI oJ oK oL oM oN oO oP oQ oR oS oT oU oV oW oX oY oZ f0 f1 f2 f3 f4 f5 f6 f7 f8 f9 fA fB fC fD fE fF fG fH fI fJ fK fL fM fN fO fP fQ fR fS fT fU fV fW fX fY w R
theorem qq35.j1_eq:qq35.j1 y1 yg2 yg4 d0 d3 d5 d6 d7 d8 d9 dA dB dC dD dE dF dG dH dI dJ dK dL dM dN dO dP dQ dR dS dT dU dV dW dX dY dZ k0 k1 k2 k3 k4 k5 k6 k7 k8 k9 kA kB kC kD kE kF kG kH kI kJ kK kL kM kN kO kP kQ kR kS kT kU kV kW kX kY kZ v0 v1 v2 v3 v4 v5 v6 v7 v8 v9 vA vB vC vD vE vF vG vH vI vJ vK vL vM vN vO vP vQ vR vS vT vU vV vW vX vY vZ o0 o1 o2 o3 o4 o5 o6 o7 o8 o9 oA oB oC oD oE oF oG oH oI oJ oK oL oM oN oO oP oQ oR oS oT oU oV oW oX oY oZ f0 f1 f2 f3 f4 f5 f6 f7 f8 f9 fA fB fC fD fE fF fG fH fI fJ fK fL fM fN fO fP fQ fR fS fT fU fV fW fX fY w R =
(Let (Int.tmod y1 2) fun x1:Int=>
(if (x1 == 1)=true then
(∃ x2:Int,∃ b3:Bool,∃ x4 x5:Int,∃ b6 b7:Bool,∃ x8 x9 x10 x11 x12:Int,∃ (A13:Option Addr) (n13_ c13_:Nat),∃ (A14:Option Addr) (n14_ c14_:Nat),∃ x15 x16 x17 x18 x19 x20 x21:Int,∃ (A22:Option Addr) (n22_ c22_:Nat),∃ x23 x24:Int,(23=23∧At w ⟨yg2,0,N⟩ [I L x2,T b3,I B x4,I H x5,T b6,T b7,I L x8,I B x9,I B x10,I D x11,I D x12,S A13 n13_ c13_,S A14 n14_ c14_,I D x15,I D x16,I B x17,I H x18,I H x19,I D x20,I D x21,S A22 n22_ c22_,I B x23,I H x24])∧
(Calls Tryz.prog 10 #[G #[I L x2,T b3,I B x4,I H x5,T b6,T b7,I L x8,I B x9,I B x10,I D x11,I D x12,S A13 n13_ c13_,S A14 n14_ c14_,I D x15,I D x16,I B x17,I H x18,I H x19,I D x20,I D x21,S A22 n22_ c22_,I B x23,I H x24]] w (fun (e26:Ending) (w25:W)=>
 ∃ x27:Int,∃ b28:Bool,∃ x29 x30:Int,∃ b31 b32:Bool,∃ x33 x34 x35 x36 x37:Int,∃ (A38:Option Addr) (n38_ c38_:Nat),∃ (A39:Option Addr) (n39_ c39_:Nat),∃ x40 x41 x42 x43 x44 x45 x46:Int,∃ (A47:Option Addr) (n47_ c47_:Nat),∃ x48 x49:Int,e26=.returned (G #[I L x27,T b28,I B x29,I H x30,T b31,T b32,I L x33,I B x34,I B x35,I D x36,I D x37,S A38 n38_ c38_,S A39 n39_ c39_,I D x40,I D x41,I B x42,I H x43,I H x44,I D x45,I D x46,S A47 n47_ c47_,I B x48,I H x49])∧
(May w25 ⟨yg2,0,N⟩ 23∧
(Let (putCells w25 ⟨yg2,0,N⟩ [I L x27,T b28,I B x29,I H x30,T b31,T b32,I L x33,I B x34,I B x35,I D x36,I D x37,S A38 n38_ c38_,S A39 n39_ c39_,I D x40,I D x41,I B x42,I H x43,I H x44,I D x45,I D x46,S A47 n47_ c47_,I B x48,I H x49] 0) fun w50:W=>
 Leaf (qq35.j2 y1 yg2 yg4 d0 d3 d5 d6 d7 d8 d9 dA (I L y1) (I L x1) (T (x1 == 1)) (G #[I L x2,T b3,I B x4,I H x5,T b6,T b7,I L x8,I B x9,I B x10,I D x11,I D x12,S A13 n13_ c13_,S A14 n14_ c14_,I D x15,I D x16,I B x17,I H x18,I H x19,I D x20,I D x21,S A22 n22_ c22_,I B x23,I H x24]) (G #[I L x27,T b28,I B x29,I H x30,T b31,T b32,I L x33,I B x34,I B x35,I D x36,I D x37,S A38 n38_ c38_,S A39 n39_ c39_,I D x40,I D x41,I B x42,I H x43,I H x44,I D x45,I D x46,S A47 n47_ c47_,I B x48,I H x49]) dG dH dI dJ dK dL dM dN dO dP dQ dR dS dT dU dV dW dX dY dZ k0 k1 k2 k3 k4 k5 k6 k7 k8 k9 kA kB kC kD kE kF kG kH kI kJ kK kL kM kN kO kP kQ kR kS kT kU kV kW kX kY kZ v0 v1 v2 v3 v4 v5 v6 v7 v8 v9 vA vB vC vD vE vF vG vH vI vJ vK vL vM vN vO vP vQ vR vS vT vU vV vW vX vY vZ o0 o1 o2 o3 o4 o5 o6 o7 o8 o9 oA oB oC oD oE oF oG oH oI oJ oK oL oM oN oO oP oQ oR oS oT oU oV oW oX oY oZ f0 f1 f2 f3 f4 f5 f6 f7 f8 f9 fA fB fC fD fE fF fG fH fI fJ fK fL fM fN fO fP fQ fR fS fT fU fV fW fX fY w50 R))))))
else
(Leaf (qq35.j2 y1 yg2 yg4 d0 d3 d5 d6 d7 d8 d9 dA (I L y1) (I L x1) (T (x1 == 1)) dE dF dG dH dI dJ dK dL dM dN dO dP dQ dR dS dT dU dV dW dX dY dZ k0 k1 k2 k3 k4 k5 k6 k7 k8 k9 kA kB kC kD kE kF kG kH kI kJ kK kL kM kN kO kP kQ kR kS kT kU kV kW kX kY kZ v0 v1 v2 v3 v4 v5 v6 v7 v8 v9 vA vB vC vD vE vF vG vH vI vJ vK vL vM vN vO vP vQ vR vS vT vU vV vW vX vY vZ o0 o1 o2 o3 o4 o5 o6 o7 o8 o9 oA oB oC oD oE oF oG oH oI oJ oK oL oM oN oO oP oQ oR oS oT oU oV oW oX oY oZ f0 f1 f2 f3 f4 f5 f6 f7 f8 f9 fA fB fC fD fE fF fG fH fI fJ fK fL fM fN fO fP fQ fR fS fT fU fV fW fX fY w R)))):=by kernel_rfl
theorem qq35.j2_eq:qq35.j2 y1 yg2 yg4 d0 d3 d5 d6 d7 d8 d9 dA dB dC dD dE dF dG dH dI dJ dK dL dM dN dO dP dQ dR dS dT dU dV dW dX dY dZ k0 k1 k2 k3 k4 k5 k6 k7 k8 k9 kA kB kC kD kE kF kG kH kI kJ kK kL kM kN kO kP kQ kR kS kT kU kV kW kX kY kZ v0 v1 v2 v3 v4 v5 v6 v7 v8 v9 vA vB vC vD vE vF vG vH vI vJ vK vL vM vN vO vP vQ vR vS vT vU vV vW vX vY vZ o0 o1 o2 o3 o4 o5 o6 o7 o8 o9 oA oB oC oD oE oF oG oH oI oJ oK oL oM oN oO oP oQ oR oS oT oU oV oW oX oY oZ f0 f1 f2 f3 f4 f5 f6 f7 f8 f9 fA fB fC fD fE fF fG fH fI fJ fK fL fM fN fO fP fQ fR fS fT fU fV fW fX fY w R =
(Let (L.wrap (Int.tdiv y1 2)) fun x1:Int=>
 Let (Int.tmod x1 6) fun x2:Int=>
 Let (L.wrap (Int.tdiv y1 12)) fun x3:Int=>
(if (x2 == 0)=true then
(∃ (A4:Option Addr) (n4_ c4_:Nat),w.cell? ⟨yg2,12,N⟩=some (S A4 n4_ c4_)∧
(Leaf (qq35.j3 x3 yg2 yg4 x2 (decide ((n4_:Int) > 0)) d0 d3 d6 d7 d8 d9 dA dB dC dD dE dF (I L y1) (I L x1) (I L x2) (I L y1) (I L x3) (I L x2) (T (x2 == 0)) (T true) (P (some ⟨yg2,2,N⟩)) (P (some ⟨yg2,12,N⟩)) (S A4 n4_ c4_) (I L (n4_:Int)) (T (decide ((n4_:Int) > 0))) (T (decide ((n4_:Int) > 0))) dV dW dX dY dZ k0 k1 k2 k3 k4 k5 k6 k7 k8 k9 kA kB kC kD kE kF kG kH kI kJ kK kL kM kN kO kP kQ kR kS kT kU kV kW kX kY kZ v0 v1 v2 v3 v4 v5 v6 v7 v8 v9 vA vB vC vD vE vF vG vH vI vJ vK vL vM vN vO vP vQ vR vS vT vU vV vW vX vY vZ o0 o1 o2 o3 o4 o5 o6 o7 o8 o9 oA oB oC oD oE oF oG oH oI oJ oK oL oM oN oO oP oQ oR oS oT oU oV oW oX oY oZ f0 f1 f2 f3 f4 f5 f6 f7 f8 f9 fA fB fC fD fE fF fG fH fI fJ fK fL fM fN fO fP fQ fR fS fT fU fV fW fX fY w R)))
else
(Leaf (qq35.j3 x3 yg2 yg4 x2 false d0 d3 d6 d7 d8 d9 dA dB dC dD dE dF (I L y1) (I L x1) (I L x2) (I L y1) (I L x3) (I L x2) (T (x2 == 0)) (T false) U U U U U (T false) dV dW dX dY dZ k0 k1 k2 k3 k4 k5 k6 k7 k8 k9 kA kB kC kD kE kF kG kH kI kJ kK kL kM kN kO kP kQ kR kS kT kU kV kW kX kY kZ v0 v1 v2 v3 v4 v5 v6 v7 v8 v9 vA vB vC vD vE vF vG vH vI vJ vK vL vM vN vO vP vQ vR vS vT vU vV vW vX vY vZ o0 o1 o2 o3 o4 o5 o6 o7 o8 o9 oA oB oC oD oE oF oG oH oI oJ oK oL oM oN oO oP oQ oR oS oT oU oV oW oX oY oZ f0 f1 f2 f3 f4 f5 f6 f7 f8 f9 fA fB fC fD fE fF fG fH fI fJ fK fL fM fN fO fP fQ fR fS fT fU fV fW fX fY w R)))):=by kernel_rfl
theorem qq35.j3_eq:qq35.j3 y1 yg2 yg4 y5 y21 d0 d3 d6 d7 d8 d9 dA dB dC dD dE dF dG dH dI dJ dK dM dN dO dP dQ dR dS dT dU dV dW dX dY dZ k0 k1 k2 k3 k4 k5 k6 k7 k8 k9 kA kB kC kD kE kF kG kH kI kJ kK kL kM kN kO kP kQ kR kS kT kU kV kW kX kY kZ v0 v1 v2 v3 v4 v5 v6 v7 v8 v9 vA vB vC vD vE vF vG vH vI vJ vK vL vM vN vO vP vQ vR vS vT vU vV vW vX vY vZ o0 o1 o2 o3 o4 o5 o6 o7 o8 o9 oA oB oC oD oE oF oG oH oI oJ oK oL oM oN oO oP oQ oR oS oT oU oV oW oX oY oZ f0 f1 f2 f3 f4 f5 f6 f7 f8 f9 fA fB fC fD fE fF fG fH fI fJ fK fL fM fN fO fP fQ fR fS fT fU fV fW fX fY w R =
((if y21=true then
(∃ S1:W→Prop,S1 w.drew∧
(Let (w.drew) fun w2:W=>
 ∃ (A3:Option Addr) (n3_ c3_:Nat),(∀ w',S1 w'→w'.cell? ⟨yg2,12,N⟩=some (S A3 n3_ c3_))∧
(∃ (A4:Option Addr) (n4_ c4_:Nat),(∀ w',S1 w'→w'.cell? ⟨yg2,12,N⟩=some (S A4 n4_ c4_))∧
((n4_:Int)≠0∧
(Let (Int.tmod y1 (n4_:Int)) fun x5:Int=>
 ∃ (A6:Option Addr) (n6_ c6_:Nat),(∀ w',S1 w'→w'.cell? ⟨yg2,12,N⟩=some (S A6 n6_ c6_))∧
(∃ (A7:Option Addr) (n7_ c7_:Nat),(∀ w',S1 w'→w'.cell? ⟨yg2,12,N⟩=some (S A7 n7_ c7_))∧
((n7_:Int)≠0∧
(Let (Int.tmod y1 (n7_:Int)) fun x8:Int=>
 ∃ a9:Addr,A6=some a9∧(0≤x8∧x8 < (n6_:Int))∧
(∃ x10:Int,(∀ w',S1 w'→w'.cell? (a9.add x8.toNat)=some (I B x10))∧
(Let (Int.tmod y1 255) fun x11:Int=>
 Let (L.wrap (1+x11)) fun x12:Int=>
 Let (B.wrap x12) fun x13:Int=>
 Let (Go.bits .xor .u8 x10 x13) fun x14:Int=>
 ∃ a15:Addr,A3=some a15∧(0≤x5∧x5 < (n3_:Int))∧
(MayC w2 (a15.add x5.toNat)∧
(Let (w2.setCell (a15.add x5.toNat) (I B x14)) fun w16:W=>
 Leaf (qq35.j4 yg2 yg4 d0 (I L y1) d3 (I L y5) d6 d7 d8 d9 dA dB dC dD dE dF dG dH dI dJ dK (T y21) dM dN dO dP dQ dR dS dT dU (P (some ⟨yg2,2,N⟩)) (P (some ⟨yg2,12,N⟩)) (S A3 n3_ c3_) (I L y1) (P (some ⟨yg2,2,N⟩)) (P (some ⟨yg2,12,N⟩)) (S A4 n4_ c4_) (I L (n4_:Int)) (I L x5) (P (some ⟨yg2,2,N⟩)) (P (some ⟨yg2,12,N⟩)) (S A6 n6_ c6_) (I L y1) (P (some ⟨yg2,2,N⟩)) (P (some ⟨yg2,12,N⟩)) (S A7 n7_ c7_) (I L (n7_:Int)) (I L x8) (P (some (a9.add x8.toNat))) (I B x10) (I L y1) (I L x11) (I L x12) (I B x13) (I B x14) (P (some (a15.add x5.toNat))) kL kM kN kO kP kQ kR kS kT kU kV kW kX kY kZ v0 v1 v2 v3 v4 v5 v6 v7 v8 v9 vA vB vC vD vE vF vG vH vI vJ vK vL vM vN vO vP vQ vR vS vT vU vV vW vX vY vZ o0 o1 o2 o3 o4 o5 o6 o7 o8 o9 oA oB oC oD oE oF oG oH oI oJ oK oL oM oN oO oP oQ oR oS oT oU oV oW oX oY oZ f0 f1 f2 f3 f4 f5 f6 f7 f8 f9 fA fB fC fD fE fF fG fH fI fJ fK fL fM fN fO fP fQ fR fS fT fU fV fW fX fY w16 R)))))))))))))
else
((if (y5 == 1)=true then
(∃ (A17:Option Addr) (n17_ c17_:Nat),w.cell? ⟨yg2,11,N⟩=some (S A17 n17_ c17_)∧
(Leaf (qq35.j5 y1 yg2 yg4 y5 (decide ((n17_:Int) > 0)) d0 d3 d6 d7 d8 d9 dA dB dC dD dE dF dG dH dI dJ dK (T y21) dM dN dO dP dQ dR dS dT dU dV dW dX dY dZ k0 k1 k2 k3 k4 k5 k6 k7 k8 k9 kA kB kC kD kE kF kG kH kI kJ kK (I L y5) (T (y5 == 1)) (T true) (P (some ⟨yg2,2,N⟩)) (P (some ⟨yg2,2,N⟩)) (P (some ⟨yg2,11,N⟩)) (S A17 n17_ c17_) (I L (n17_:Int)) (T (decide ((n17_:Int) > 0))) (T (decide ((n17_:Int) > 0))) kW kX kY kZ v0 v1 v2 v3 v4 v5 v6 v7 v8 v9 vA vB vC vD vE vF vG vH vI vJ vK vL vM vN vO vP vQ vR vS vT vU vV vW vX vY vZ o0 o1 o2 o3 o4 o5 o6 o7 o8 o9 oA oB oC oD oE oF oG oH oI oJ oK oL oM oN oO oP oQ oR oS oT oU oV oW oX oY oZ f0 f1 f2 f3 f4 f5 f6 f7 f8 f9 fA fB fC fD fE fF fG fH fI fJ fK fL fM fN fO fP fQ fR fS fT fU fV fW fX fY w R)))
else
(Leaf (qq35.j5 y1 yg2 yg4 y5 false d0 d3 d6 d7 d8 d9 dA dB dC dD dE dF dG dH dI dJ dK (T y21) dM dN dO dP dQ dR dS dT dU dV dW dX dY dZ k0 k1 k2 k3 k4 k5 k6 k7 k8 k9 kA kB kC kD kE kF kG kH kI kJ kK (I L y5) (T (y5 == 1)) (T false) U U U U U U (T false) kW kX kY kZ v0 v1 v2 v3 v4 v5 v6 v7 v8 v9 vA vB vC vD vE vF vG vH vI vJ vK vL vM vN vO vP vQ vR vS vT vU vV vW vX vY vZ o0 o1 o2 o3 o4 o5 o6 o7 o8 o9 oA oB oC oD oE oF oG oH oI oJ oK oL oM oN oO oP oQ oR oS oT oU oV oW oX oY oZ f0 f1 f2 f3 f4 f5 f6 f7 f8 f9 fA fB fC fD fE fF fG fH fI fJ fK fL fM fN fO fP fQ fR fS fT fU fV fW fX fY w R)))))):=by kernel_rfl
theorem qq35.j4_eq:qq35.j4 yg2 yg4 d0 d1 d3 d5 d6 d7 d8 d9 dA dB dC dD dE dF dG dH dI dJ dK dL dM dN dO dP dQ dR dS dT dU dV dW dX dY dZ k0 k1 k2 k3 k4 k5 k6 k7 k8 k9 kA kB kC kD kE kF kG kH kI kJ kK kL kM kN kO kP kQ kR kS kT kU kV kW kX kY kZ v0 v1 v2 v3 v4 v5 v6 v7 v8 v9 vA vB vC vD vE vF vG vH vI vJ vK vL vM vN vO vP vQ vR vS vT vU vV vW vX vY vZ o0 o1 o2 o3 o4 o5 o6 o7 o8 o9 oA oB oC oD oE oF oG oH oI oJ oK oL oM oN oO oP oQ oR oS oT oU oV oW oX oY oZ f0 f1 f2 f3 f4 f5 f6 f7 f8 f9 fA fB fC fD fE fF fG fH fI fJ fK fL fM fN fO fP fQ fR fS fT fU fV fW fX fY w R =
(∃ x1:Int,∃ b2:Bool,∃ x3 x4:Int,∃ b5 b6:Bool,∃ x7 x8 x9 x10 x11:Int,∃ (A12:Option Addr) (n12_ c12_:Nat),∃ (A13:Option Addr) (n13_ c13_:Nat),∃ x14 x15 x16 x17 x18 x19 x20:Int,∃ (A21:Option Addr) (n21_ c21_:Nat),∃ x22 x23:Int,(23=23∧At w ⟨yg2,0,N⟩ [I L x1,T b2,I B x3,I H x4,T b5,T b6,I L x7,I B x8,I B x9,I D x10,I D x11,S A12 n12_ c12_,S A13 n13_ c13_,I D x14,I D x15,I B x16,I H x17,I H x18,I D x19,I D x20,S A21 n21_ c21_,I B x22,I H x23])∧
(May w ⟨yg4,0,N⟩ 23∧
(Let (putCells w ⟨yg4,0,N⟩ [I L x1,T b2,I B x3,I H x4,T b5,T b6,I L x7,I B x8,I B x9,I D x10,I D x11,S A12 n12_ c12_,S A13 n13_ c13_,I D x14,I D x15,I B x16,I H x17,I H x18,I D x19,I D x20,S A21 n21_ c21_,I B x22,I H x23] 0) fun w24:W=>
 ∃ x25:Int,∃ b26:Bool,∃ x27 x28:Int,∃ b29 b30:Bool,∃ x31 x32 x33 x34 x35:Int,∃ (A36:Option Addr) (n36_ c36_:Nat),∃ (A37:Option Addr) (n37_ c37_:Nat),∃ x38 x39 x40 x41 x42 x43 x44:Int,∃ (A45:Option Addr) (n45_ c45_:Nat),∃ x46 x47:Int,(23=23∧At w24 ⟨yg4,0,N⟩ [I L x25,T b26,I B x27,I H x28,T b29,T b30,I L x31,I B x32,I B x33,I D x34,I D x35,S A36 n36_ c36_,S A37 n37_ c37_,I D x38,I D x39,I B x40,I H x41,I H x42,I D x43,I D x44,S A45 n45_ c45_,I B x46,I H x47])∧
(R (.returned (G #[I L x25,T b26,I B x27,I H x28,T b29,T b30,I L x31,I B x32,I B x33,I D x34,I D x35,S A36 n36_ c36_,S A37 n37_ c37_,I D x38,I D x39,I B x40,I H x41,I H x42,I D x43,I D x44,S A45 n45_ c45_,I B x46,I H x47])) w24)))):=by kernel_rfl
theorem qq35.j5_eq:qq35.j5 y1 yg2 yg4 y5 y57 d0 d3 d6 d7 d8 d9 dA dB dC dD dE dF dG dH dI dJ dK dL dM dN dO dP dQ dR dS dT dU dV dW dX dY dZ k0 k1 k2 k3 k4 k5 k6 k7 k8 k9 kA kB kC kD kE kF kG kH kI kJ kK kM kN kO kP kQ kR kS kT kU kV kW kX kY kZ v0 v1 v2 v3 v4 v5 v6 v7 v8 v9 vA vB vC vD vE vF vG vH vI vJ vK vL vM vN vO vP vQ vR vS vT vU vV vW vX vY vZ o0 o1 o2 o3 o4 o5 o6 o7 o8 o9 oA oB oC oD oE oF oG oH oI oJ oK oL oM oN oO oP oQ oR oS oT oU oV oW oX oY oZ f0 f1 f2 f3 f4 f5 f6 f7 f8 f9 fA fB fC fD fE fF fG fH fI fJ fK fL fM fN fO fP fQ fR fS fT fU fV fW fX fY w R =
((if y57=true then
(∃ S1:W→Prop,S1 w.drew∧
(Let (w.drew) fun w2:W=>
 ∃ (A3:Option Addr) (n3_ c3_:Nat),(∀ w',S1 w'→w'.cell? ⟨yg2,11,N⟩=some (S A3 n3_ c3_))∧
(∃ (A4:Option Addr) (n4_ c4_:Nat),(∀ w',S1 w'→w'.cell? ⟨yg2,11,N⟩=some (S A4 n4_ c4_))∧
((n4_:Int)≠0∧
(Let (Int.tmod y1 (n4_:Int)) fun x5:Int=>
 Let (B.wrap y1) fun x6:Int=>
 ∃ a7:Addr,A3=some a7∧(0≤x5∧x5 < (n3_:Int))∧
(MayC w2 (a7.add x5.toNat)∧
(Let (w2.setCell (a7.add x5.toNat) (I B x6)) fun w8:W=>
 S1 w8∧
(Leaf (qq35.j4 yg2 yg4 d0 (I L y1) d3 (I L y5) d6 d7 d8 d9 dA dB dC dD dE dF dG dH dI dJ dK dL dM dN dO dP dQ dR dS dT dU dV dW dX dY dZ k0 k1 k2 k3 k4 k5 k6 k7 k8 k9 kA kB kC kD kE kF kG kH kI kJ kK (T y57) kM kN kO kP kQ kR kS kT kU kV (P (some ⟨yg2,2,N⟩)) (P (some ⟨yg2,2,N⟩)) (P (some ⟨yg2,11,N⟩)) (S A3 n3_ c3_) (I L y1) (P (some ⟨yg2,2,N⟩)) (P (some ⟨yg2,2,N⟩)) (P (some ⟨yg2,11,N⟩)) (S A4 n4_ c4_) (I L (n4_:Int)) (I L x5) (I L y1) (I B x6) (P (some (a7.add x5.toNat))) vA vB vC vD vE vF vG vH vI vJ vK vL vM vN vO vP vQ vR vS vT vU vV vW vX vY vZ o0 o1 o2 o3 o4 o5 o6 o7 o8 o9 oA oB oC oD oE oF oG oH oI oJ oK oL oM oN oO oP oQ oR oS oT oU oV oW oX oY oZ f0 f1 f2 f3 f4 f5 f6 f7 f8 f9 fA fB fC fD fE fF fG fH fI fJ fK fL fM fN fO fP fQ fR fS fT fU fV fW fX fY w8 R)))))))))
else
((if (y5 == 2)=true then
(∃ (A9:Option Addr) (n9_ c9_:Nat),w.cell? ⟨yg2,20,N⟩=some (S A9 n9_ c9_)∧
(Leaf (qq35.j6 y1 yg2 yg4 y5 (decide ((n9_:Int) > 0)) d0 d3 d6 d7 d8 d9 dA dB dC dD dE dF dG dH dI dJ dK dL dM dN dO dP dQ dR dS dT dU dV dW dX dY dZ k0 k1 k2 k3 k4 k5 k6 k7 k8 k9 kA kB kC kD kE kF kG kH kI kJ kK (T y57) kM kN kO kP kQ kR kS kT kU kV kW kX kY kZ v0 v1 v2 v3 v4 v5 v6 v7 v8 v9 (I L y5) (T (y5 == 2)) (T true) (P (some ⟨yg2,20,N⟩)) (S A9 n9_ c9_) (I L (n9_:Int)) (T (decide ((n9_:Int) > 0))) (T (decide ((n9_:Int) > 0))) vJ vK vL vM vN vO vP vQ vR vS vT vU vV vW vX vY vZ o0 o1 o2 o3 o4 o5 o6 o7 o8 o9 oA oB oC oD oE oF oG oH oI oJ oK oL oM oN oO oP oQ oR oS oT oU oV oW oX oY oZ f0 f1 f2 f3 f4 f5 f6 f7 f8 f9 fA fB fC fD fE fF fG fH fI fJ fK fL fM fN fO fP fQ fR fS fT fU fV fW fX fY w R)))
else
(Leaf (qq35.j6 y1 yg2 yg4 y5 false d0 d3 d6 d7 d8 d9 dA dB dC dD dE dF dG dH dI dJ dK dL dM dN dO dP dQ dR dS dT dU dV dW dX dY dZ k0 k1 k2 k3 k4 k5 k6 k7 k8 k9 kA kB kC kD kE kF kG kH kI kJ kK (T y57) kM kN kO kP kQ kR kS kT kU kV kW kX kY kZ v0 v1 v2 v3 v4 v5 v6 v7 v8 v9 (I L y5) (T (y5 == 2)) (T false) U U U U (T false) vJ vK vL vM vN vO vP vQ vR vS vT vU vV vW vX vY vZ o0 o1 o2 o3 o4 o5 o6 o7 o8 o9 oA oB oC oD oE oF oG oH oI oJ oK oL oM oN oO oP oQ oR oS oT oU oV oW oX oY oZ f0 f1 f2 f3 f4 f5 f6 f7 f8 f9 fA fB fC fD fE fF fG fH fI fJ fK fL fM fN fO fP fQ fR fS fT fU fV fW fX fY w R)))))):=by kernel_rfl
theorem qq35.j6_eq:qq35.j6 y1 yg2 yg4 y5 y82 d0 d3 d6 d7 d8 d9 dA dB dC dD dE dF dG dH dI dJ dK dL dM dN dO dP dQ dR dS dT dU dV dW dX dY dZ k0 k1 k2 k3 k4 k5 k6 k7 k8 k9 kA kB kC kD kE kF kG kH kI kJ kK kL kM kN kO kP kQ kR kS kT kU kV kW kX kY kZ v0 v1 v2 v3 v4 v5 v6 v7 v8 v9 vB vC vD vE vF vG vH vI vJ vK vL vM vN vO vP vQ vR vS vT vU vV vW vX vY vZ o0 o1 o2 o3 o4 o5 o6 o7 o8 o9 oA oB oC oD oE oF oG oH oI oJ oK oL oM oN oO oP oQ oR oS oT oU oV oW oX oY oZ f0 f1 f2 f3 f4 f5 f6 f7 f8 f9 fA fB fC fD fE fF fG fH fI fJ fK fL fM fN fO fP fQ fR fS fT fU fV fW fX fY w R =
((if y82=true then
(∃ S1:W→Prop,S1 w.drew∧
(Let (w.drew) fun w2:W=>
 ∃ (A3:Option Addr) (n3_ c3_:Nat),(∀ w',S1 w'→w'.cell? ⟨yg2,20,N⟩=some (S A3 n3_ c3_))∧
(∃ (A4:Option Addr) (n4_ c4_:Nat),(∀ w',S1 w'→w'.cell? ⟨yg2,20,N⟩=some (S A4 n4_ c4_))∧
((n4_:Int)≠0∧
(Let (Int.tmod y1 (n4_:Int)) fun x5:Int=>
 ∃ (A6:Option Addr) (n6_ c6_:Nat),(∀ w',S1 w'→w'.cell? ⟨yg2,20,N⟩=some (S A6 n6_ c6_))∧
(∃ (A7:Option Addr) (n7_ c7_:Nat),(∀ w',S1 w'→w'.cell? ⟨yg2,20,N⟩=some (S A7 n7_ c7_))∧
((n7_:Int)≠0∧
(Let (Int.tmod y1 (n7_:Int)) fun x8:Int=>
 ∃ a9:Addr,A6=some a9∧(0≤x8∧x8 < (n6_:Int))∧
(∃ x10:Int,(∀ w',S1 w'→w'.cell? ((a9.add (x8.toNat * 2)).add 1)=some (I H x10))∧
(Let (Int.tmod y1 5) fun x11:Int=>
 Let (L.wrap (1+x11)) fun x12:Int=>
 Let (H.wrap x12) fun x13:Int=>
 Let (H.wrap (x10+x13)) fun x14:Int=>
 ∃ a15:Addr,A3=some a15∧(0≤x5∧x5 < (n3_:Int))∧
(MayC w2 ((a15.add (x5.toNat * 2)).add 1)∧
(Let (w2.setCell ((a15.add (x5.toNat * 2)).add 1) (I H x14)) fun w16:W=>
 Leaf (qq35.j4 yg2 yg4 d0 (I L y1) d3 (I L y5) d6 d7 d8 d9 dA dB dC dD dE dF dG dH dI dJ dK dL dM dN dO dP dQ dR dS dT dU dV dW dX dY dZ k0 k1 k2 k3 k4 k5 k6 k7 k8 k9 kA kB kC kD kE kF kG kH kI kJ kK kL kM kN kO kP kQ kR kS kT kU kV kW kX kY kZ v0 v1 v2 v3 v4 v5 v6 v7 v8 v9 (T y82) vB vC vD vE vF vG vH vI (P (some ⟨yg2,20,N⟩)) (S A3 n3_ c3_) (I L y1) (P (some ⟨yg2,20,N⟩)) (S A4 n4_ c4_) (I L (n4_:Int)) (I L x5) (P (some ⟨yg2,20,N⟩)) (S A6 n6_ c6_) (I L y1) (P (some ⟨yg2,20,N⟩)) (S A7 n7_ c7_) (I L (n7_:Int)) (I L x8) (P (some (a9.add (x8.toNat * 2)))) (P (some ((a9.add (x8.toNat * 2)).add 1))) (I H x10) (I L y1) (I L x11) (I L x12) (I H x13) (I H x14) (P (some (a15.add (x5.toNat * 2)))) (P (some ((a15.add (x5.toNat * 2)).add 1))) o7 o8 o9 oA oB oC oD oE oF oG oH oI oJ oK oL oM oN oO oP oQ oR oS oT oU oV oW oX oY oZ f0 f1 f2 f3 f4 f5 f6 f7 f8 f9 fA fB fC fD fE fF fG fH fI fJ fK fL fM fN fO fP fQ fR fS fT fU fV fW fX fY w16 R)))))))))))))
else
((if (y5 == 3)=true then
(∃ x17:Int,w.cell? ⟨yg2,16,N⟩=some (I H x17)∧
(Let (Int.tmod y1 3) fun x18:Int=>
 Let (L.wrap (1+x18)) fun x19:Int=>
 Let (H.wrap x19) fun x20:Int=>
 Let (H.wrap (x17+x20)) fun x21:Int=>
 MayC w ⟨yg2,16,N⟩∧
(Let (w.setCell ⟨yg2,16,N⟩ (I H x21)) fun w22:W=>
 ∃ x23:Int,w22.cell? ⟨yg2,18,N⟩=some (I D x23)∧
(Let (Int.tmod y1 3) fun x24:Int=>
 Let (D.wrap x24) fun x25:Int=>
 Let (D.wrap (x23+x25)) fun x26:Int=>
 MayC w22 ⟨yg2,18,N⟩∧
(Let (w22.setCell ⟨yg2,18,N⟩ (I D x26)) fun w27:W=>
 Leaf (qq35.j4 yg2 yg4 d0 (I L y1) d3 (I L y5) d6 d7 d8 d9 dA dB dC dD dE dF dG dH dI dJ dK dL dM dN dO dP dQ dR dS dT dU dV dW dX dY dZ k0 k1 k2 k3 k4 k5 k6 k7 k8 k9 kA kB kC kD kE kF kG kH kI kJ kK kL kM kN kO kP kQ kR kS kT kU kV kW kX kY kZ v0 v1 v2 v3 v4 v5 v6 v7 v8 v9 (T y82) vB vC vD vE vF vG vH vI vJ vK vL vM vN vO vP vQ vR vS vT vU vV vW vX vY vZ o0 o1 o2 o3 o4 o5 o6 (T (y5 == 3)) (I L y5) (T (y5 == 3)) (P (some ⟨yg2,13,N⟩)) (P (some ⟨yg2,16,N⟩)) (I H x17) (I L y1) (I L x18) (I L x19) (I H x20) (I H x21) (P (some ⟨yg2,13,N⟩)) (P (some ⟨yg2,16,N⟩)) (P (some ⟨yg2,18,N⟩)) (I D x23) (I L y1) (I L x24) (I D x25) (I D x26) (P (some ⟨yg2,18,N⟩)) oR oS oT oU oV oW oX oY oZ f0 f1 f2 f3 f4 f5 f6 f7 f8 f9 fA fB fC fD fE fF fG fH fI fJ fK fL fM fN fO fP fQ fR fS fT fU fV fW fX fY w27 R))))))
else
((if (y5 == 4)=true then
(∃ x28:Int,w.cell? ⟨yg2,14,N⟩=some (I D x28)∧
(Let (Int.tmod y1 3) fun x29:Int=>
 Let (L.wrap (1+x29)) fun x30:Int=>
 Let (D.wrap x30) fun x31:Int=>
 Let (D.wrap (x28+x31)) fun x32:Int=>
 MayC w ⟨yg2,14,N⟩∧
(Let (w.setCell ⟨yg2,14,N⟩ (I D x32)) fun w33:W=>
 ∃ x34:Int,w33.cell? ⟨yg2,22,N⟩=some (I H x34)∧
(Let (Int.tmod y1 3) fun x35:Int=>
 Let (H.wrap x35) fun x36:Int=>
 Let (H.wrap (x34+x36)) fun x37:Int=>
 MayC w33 ⟨yg2,22,N⟩∧
(Let (w33.setCell ⟨yg2,22,N⟩ (I H x37)) fun w38:W=>
 Leaf (qq35.j4 yg2 yg4 d0 (I L y1) d3 (I L y5) d6 d7 d8 d9 dA dB dC dD dE dF dG dH dI dJ dK dL dM dN dO dP dQ dR dS dT dU dV dW dX dY dZ k0 k1 k2 k3 k4 k5 k6 k7 k8 k9 kA kB kC kD kE kF kG kH kI kJ kK kL kM kN kO kP kQ kR kS kT kU kV kW kX kY kZ v0 v1 v2 v3 v4 v5 v6 v7 v8 v9 (T y82) vB vC vD vE vF vG vH vI vJ vK vL vM vN vO vP vQ vR vS vT vU vV vW vX vY vZ o0 o1 o2 o3 o4 o5 o6 (T (y5 == 3)) (I L y5) (T (y5 == 3)) oA oB oC oD oE oF oG oH oI oJ oK oL oM oN oO oP oQ (T (y5 == 4)) (I L y5) (T (y5 == 4)) (P (some ⟨yg2,13,N⟩)) (P (some ⟨yg2,14,N⟩)) (I D x28) (I L y1) (I L x29) (I L x30) (I D x31) (I D x32) (P (some ⟨yg2,13,N⟩)) (P (some ⟨yg2,14,N⟩)) (P (some ⟨yg2,22,N⟩)) (I H x34) (I L y1) (I L x35) (I H x36) (I H x37) (P (some ⟨yg2,22,N⟩)) fB fC fD fE fF fG fH fI fJ fK fL fM fN fO fP fQ fR fS fT fU fV fW fX fY w38 R))))))
else
((if (y5 == 5)=true then
(∃ x39:Int,w.cell? ⟨yg2,17,N⟩=some (I H x39)∧
(Let (Int.tmod y1 3) fun x40:Int=>
 Let (L.wrap (1+x40)) fun x41:Int=>
 Let (H.wrap x41) fun x42:Int=>
 Let (H.wrap (x39+x42)) fun x43:Int=>
 MayC w ⟨yg2,17,N⟩∧
(Let (w.setCell ⟨yg2,17,N⟩ (I H x43)) fun w44:W=>
 ∃ x45:Int,w44.cell? ⟨yg2,3,N⟩=some (I H x45)∧
(Let (H.wrap y1) fun x46:Int=>
 Let (H.wrap (x45+x46)) fun x47:Int=>
 MayC w44 ⟨yg2,3,N⟩∧
(Let (w44.setCell ⟨yg2,3,N⟩ (I H x47)) fun w48:W=>
 Leaf (qq35.j4 yg2 yg4 d0 (I L y1) d3 (I L y5) d6 d7 d8 d9 dA dB dC dD dE dF dG dH dI dJ dK dL dM dN dO dP dQ dR dS dT dU dV dW dX dY dZ k0 k1 k2 k3 k4 k5 k6 k7 k8 k9 kA kB kC kD kE kF kG kH kI kJ kK kL kM kN kO kP kQ kR kS kT kU kV kW kX kY kZ v0 v1 v2 v3 v4 v5 v6 v7 v8 v9 (T y82) vB vC vD vE vF vG vH vI vJ vK vL vM vN vO vP vQ vR vS vT vU vV vW vX vY vZ o0 o1 o2 o3 o4 o5 o6 (T (y5 == 3)) (I L y5) (T (y5 == 3)) oA oB oC oD oE oF oG oH oI oJ oK oL oM oN oO oP oQ (T (y5 == 4)) (I L y5) (T (y5 == 4)) oU oV oW oX oY oZ f0 f1 f2 f3 f4 f5 f6 f7 f8 f9 fA (T (y5 == 5)) (I L y5) (T (y5 == 5)) (P (some ⟨yg2,13,N⟩)) (P (some ⟨yg2,17,N⟩)) (I H x39) (I L y1) (I L x40) (I L x41) (I H x42) (I H x43) (P (some ⟨yg2,13,N⟩)) (P (some ⟨yg2,17,N⟩)) (P (some ⟨yg2,2,N⟩)) (P (some ⟨yg2,2,N⟩)) (P (some ⟨yg2,3,N⟩)) (I H x45) (I L y1) (I H x46) (I H x47) (P (some ⟨yg2,2,N⟩)) (P (some ⟨yg2,2,N⟩)) (P (some ⟨yg2,3,N⟩)) fY w48 R))))))
else
(Leaf (qq35.j4 yg2 yg4 d0 (I L y1) d3 (I L y5) d6 d7 d8 d9 dA dB dC dD dE dF dG dH dI dJ dK dL dM dN dO dP dQ dR dS dT dU dV dW dX dY dZ k0 k1 k2 k3 k4 k5 k6 k7 k8 k9 kA kB kC kD kE kF kG kH kI kJ kK kL kM kN kO kP kQ kR kS kT kU kV kW kX kY kZ v0 v1 v2 v3 v4 v5 v6 v7 v8 v9 (T y82) vB vC vD vE vF vG vH vI vJ vK vL vM vN vO vP vQ vR vS vT vU vV vW vX vY vZ o0 o1 o2 o3 o4 o5 o6 (T (y5 == 3)) (I L y5) (T (y5 == 3)) oA oB oC oD oE oF oG oH oI oJ oK oL oM oN oO oP oQ (T (y5 == 4)) (I L y5) (T (y5 == 4)) oU oV oW oX oY oZ f0 f1 f2 f3 f4 f5 f6 f7 f8 f9 fA (T (y5 == 5)) (I L y5) (T (y5 == 5)) fE fF fG fH fI fJ fK fL fM fN fO fP fQ fR fS fT fU fV fW fX fY w R)))))))))):=by kernel_rfl
def qq35.s (i0_0:Int) (i0_1:Bool) (i0_2 i0_3:Int) (i0_4 i0_5:Bool) (i0_6 i0_7 i0_8 i0_9 i0_10:Int) (I0_11:Option Addr) (in0_11 ic0_11:Nat) (I0_12:Option Addr) (in0_12 ic0_12:Nat) (i0_13 i0_14 i0_15 i0_16 i0_17 i0_18 i0_19:Int) (I0_20:Option Addr) (in0_20 ic0_20:Nat) (i0_21 i0_22 i1:Int) (w:W) (R:E):Prop:=
(Let (w.heap.size) fun g1:Nat=>
 Let (w.alloc (.cells #[I L i0_0,T i0_1,I B i0_2,I H i0_3,T i0_4,T i0_5,I L i0_6,I B i0_7,I B i0_8,I D i0_9,I D i0_10,S I0_11 in0_11 ic0_11,S I0_12 in0_12 ic0_12,I D i0_13,I D i0_14,I B i0_15,I H i0_16,I H i0_17,I D i0_18,I D i0_19,S I0_20 in0_20 ic0_20,I B i0_21,I H i0_22] 42)) fun w2:W=>
 Let (w2.heap.size) fun g3:Nat=>
 Let (w2.alloc (.cells #[I L 0,T false,I B 0,I H 0,T false,T false,I L 0,I B 0,I B 0,I D 0,I D 0,S N 0 0,S N 0 0,I D 0,I D 0,I B 0,I H 0,I H 0,I D 0,I D 0,S N 0 0,I B 0,I H 0] 42)) fun w4:W=>
(if decide (i1 < 0)=true then
(Let (L.wrap (i1+1)) fun x5:Int=>
 Let (L.wrap (0-x5)) fun x6:Int=>
 Leaf (qq35.j1 x6 g1 g3 (G #[I L i0_0,T i0_1,I B i0_2,I H i0_3,T i0_4,T i0_5,I L i0_6,I B i0_7,I B i0_8,I D i0_9,I D i0_10,S I0_11 in0_11 ic0_11,S I0_12 in0_12 ic0_12,I D i0_13,I D i0_14,I B i0_15,I H i0_16,I H i0_17,I D i0_18,I D i0_19,S I0_20 in0_20 ic0_20,I B i0_21,I H i0_22]) U U (I L i1) (T (decide (i1 < 0))) (I L i1) (I L x5) (I L x6) U U U U U U U U U U U U U U U U U U U U U U U U U U U U U U U U U U U U U U U U U U U U U U U U U U U U U U U U U U U U U U U U U U U U U U U U U U U U U U U U U U U U U U U U U U U U U U U U U U U U U U U U U U U U U U U U U U U U U U U U U U U U U U U U U U U U U U U U U U U U U U U U U U U U U U U U U U U U U U U U U U U U U U U U w4 R))
else
(Leaf (qq35.j1 i1 g1 g3 (G #[I L i0_0,T i0_1,I B i0_2,I H i0_3,T i0_4,T i0_5,I L i0_6,I B i0_7,I B i0_8,I D i0_9,I D i0_10,S I0_11 in0_11 ic0_11,S I0_12 in0_12 ic0_12,I D i0_13,I D i0_14,I B i0_15,I H i0_16,I H i0_17,I D i0_18,I D i0_19,S I0_20 in0_20 ic0_20,I B i0_21,I H i0_22]) U U (I L i1) (T (decide (i1 < 0))) U U U U U U U U U U U U U U U U U U U U U U U U U U U U U U U U U U U U U U U U U U U U U U U U U U U U U U U U U U U U U U U U U U U U U U U U U U U U U U U U U U U U U U U U U U U U U U U U U U U U U U U U U U U U U U U U U U U U U U U U U U U U U U U U U U U U U U U U U U U U U U U U U U U U U U U U U U U U U U U U U U U U U U U U U U U w4 R))))
theorem qq35.run (h:qq35.s i0_0 i0_1 i0_2 i0_3 i0_4 i0_5 i0_6 i0_7 i0_8 i0_9 i0_10 I0_11 in0_11 ic0_11 I0_12 in0_12 ic0_12 i0_13 i0_14 i0_15 i0_16 i0_17 i0_18 i0_19 I0_20 in0_20 ic0_20 i0_21 i0_22 i1 w R):Calls Tryz.prog 9 #[G #[I L i0_0,T i0_1,I B i0_2,I H i0_3,T i0_4,T i0_5,I L i0_6,I B i0_7,I B i0_8,I D i0_9,I D i0_10,S I0_11 in0_11 ic0_11,S I0_12 in0_12 ic0_12,I D i0_13,I D i0_14,I B i0_15,I H i0_16,I H i0_17,I D i0_18,I D i0_19,S I0_20 in0_20 ic0_20,I B i0_21,I H i0_22],I L i1] w R:=
 calls_segk (ords:=qq35.ords) (J:=qq35.joins) ents mixed Tryz.func9 rfl h (by kernel_rfl)
def qq6.ords:Nat→Od
 | 11=>(.tk 0 (.tk 1 (.tk 2 (.tk 3 (.tk 4 (.on 5 (.last 6)))))))
 | 24=>(.tk 0 (.tk 1 (.tk 2 (.tk 3 (.tk 4 (.tk 5 (.tk 6 (.tk 7 (.on 8 (.tk 9 .nil))))))))))
 | _=>.nil
def qq6.joins (p:List Nat):Bool:=p == [1,1,1] || p == [1,0,0,0,1,0,0,1,0,1,1,1,1,1,1] || p == [1,0,0,1,0,0,1,0,1,1,1,1,1,1] || p == [1,1,1,1,0,0,1,0,0,1,0,1,1,1,1,1,1]
def qq6.j1 (Y2:Option Addr) (yn2 yc2:Nat) (Y3:Option Addr) (yn3 yc3 yg9:Nat) (d0 d1 d4 d5 d6 d7 d8 dA dB dC dD dE dF dG dH dI dJ dK dL dM dN dO dP dQ dR dS dT dU dV dW dX dY dZ k0 k1 k2 k3 k4 k5 k6 k7 k8 k9 kA kB kC kD kE kF kG kH kI kJ kK kL kM kN kO kP kQ kR kS kT kU kV kW kX kY kZ v0 v1 v2 v3 v4 v5 v6 v7 v8 v9 vA vB vC vD vE vF vG vH vI vJ vK vL vM vN vO vP vQ vR vS vT vU vV vW vX vY vZ o0 o1 o2 o3 o4 o5 o6 o7:V) (w:W) (R:E):Prop:=
 seg Tryz.prog entE qq6.ords qq6.joins Tryz.f4 [1,1,1] [1,1,1] [] [d0,d1,S Y2 yn2 yc2,S Y3 yn3 yc3,d4,d5,d6,d7,d8,P (some ⟨yg9,0,N⟩),dA,dB,dC,dD,dE,dF,dG,dH,dI,dJ,dK,dL,dM,dN,dO,dP,dQ,dR,dS,dT,dU,dV,dW,dX,dY,dZ,k0,k1,k2,k3,k4,k5,k6,k7,k8,k9,kA,kB,kC,kD,kE,kF,kG,kH,kI,kJ,kK,kL,kM,kN,kO,kP,kQ,kR,kS,kT,kU,kV,kW,kX,kY,kZ,v0,v1,v2,v3,v4,v5,v6,v7,v8,v9,vA,vB,vC,vD,vE,vF,vG,vH,vI,vJ,vK,vL,vM,vN,vO,vP,vQ,vR,vS,vT,vU,vV,vW,vX,vY,vZ,o0,o1,o2,o3,o4,o5,o6,o7] w R
def qq6.l1 (n:Nat) (Y2:Option Addr) (yn2 yc2:Nat) (Y3:Option Addr) (yn3 yc3 yg9:Nat) (Y11:Option Addr) (yn11 yc11:Nat) (Y12:Option Addr) (yn12 yc12 yg13:Nat) (y14 y15:Int) (d0 d1 d4 d5 d6 d7 d8 dA dG dH dI dJ dK dL dM dN dO dP dQ dR dS dT dU dV dW dX dY dZ k0 k1 k2 k3 k4 k5 k6 k7 k8 k9 kA kB kC kD kE kF kG kH kI kJ kK kL kM kN kO kP kQ kR kS kT kU kV kW kX kY kZ v0 v1 v2 v3 v4 v5 v6 v7 v8 v9 vA vB vC vD vE vF vG vH vI vJ vK vL vM vN vO vP vQ vR vS vT vU vV vW vX vY vZ o0 o1 o2 o3 o4 o5 o6 o7:V) (w:W) (R:E):Prop:=
 lseg Tryz.prog entE qq6.ords qq6.joins Tryz.f4 [1,1,1,1,1,1,0,1,0] [0,1,0,1,1,1,1,1,1] [] n [d0,d1,S Y2 yn2 yc2,S Y3 yn3 yc3,d4,d5,d6,d7,d8,P (some ⟨yg9,0,N⟩),dA,S Y11 yn11 yc11,S Y12 yn12 yc12,P (some ⟨yg13,0,N⟩),I L y14,I L y15,dG,dH,dI,dJ,dK,dL,dM,dN,dO,dP,dQ,dR,dS,dT,dU,dV,dW,dX,dY,dZ,k0,k1,k2,k3,k4,k5,k6,k7,k8,k9,kA,kB,kC,kD,kE,kF,kG,kH,kI,kJ,kK,kL,kM,kN,kO,kP,kQ,kR,kS,kT,kU,kV,kW,kX,kY,kZ,v0,v1,v2,v3,v4,v5,v6,v7,v8,v9,vA,vB,vC,vD,vE,vF,vG,vH,vI,vJ,vK,vL,vM,vN,vO,vP,vQ,vR,vS,vT,vU,vV,vW,vX,vY,vZ,o0,o1,o2,o3,o4,o5,o6,o7] w R
def qq6.j2 (m0:Nat) (Y2:Option Addr) (yn2 yc2:Nat) (Y3:Option Addr) (yn3 yc3 yg9:Nat) (Y11:Option Addr) (yn11 yc11:Nat) (Y12:Option Addr) (yn12 yc12 yg13:Nat) (y14 y15:Int) (y51:Bool) (d0 d1 d4 d5 d6 d7 d8 dA dG dH dI dJ dK dL dM dN dO dP dQ dR dS dT dU dV dW dX dY dZ k0 k1 k2 k3 k4 k5 k6 k7 k8 k9 kA kB kC kD kE kG kH kI kJ kK kL kM kN kO kP kQ kR kS kT kU kV kW kX kY kZ v0 v1 v2 v3 v4 v5 v6 v7 v8 v9 vA vB vC vD vE vF vG vH vI vJ vK vL vM vN vO vP vQ vR vS vT vU vV vW vX vY vZ o0 o1 o2 o3 o4 o5 o6 o7:V) (w:W) (R:E):Prop:=
 seg Tryz.prog entE qq6.ords qq6.joins Tryz.f4 [1,1,1,1,1,1,0,1,0,0,1,0,0,0,1] [1,0,0,0,1,0,0,1,0,1,1,1,1,1,1] [m0] [d0,d1,S Y2 yn2 yc2,S Y3 yn3 yc3,d4,d5,d6,d7,d8,P (some ⟨yg9,0,N⟩),dA,S Y11 yn11 yc11,S Y12 yn12 yc12,P (some ⟨yg13,0,N⟩),I L y14,I L y15,dG,dH,dI,dJ,dK,dL,dM,dN,dO,dP,dQ,dR,dS,dT,dU,dV,dW,dX,dY,dZ,k0,k1,k2,k3,k4,k5,k6,k7,k8,k9,kA,kB,kC,kD,kE,T y51,kG,kH,kI,kJ,kK,kL,kM,kN,kO,kP,kQ,kR,kS,kT,kU,kV,kW,kX,kY,kZ,v0,v1,v2,v3,v4,v5,v6,v7,v8,v9,vA,vB,vC,vD,vE,vF,vG,vH,vI,vJ,vK,vL,vM,vN,vO,vP,vQ,vR,vS,vT,vU,vV,vW,vX,vY,vZ,o0,o1,o2,o3,o4,o5,o6,o7] w R
def qq6.l2 (n:Nat) (Y11:Option Addr) (yn11 yc11:Nat) (Y12:Option Addr) (yn12 yc12:Nat) (y18:Int) (d0 d1 d2 d3 d4 d5 d6 d7 d8 d9 dA dD dE dF dG dH dJ dK dL dM dN dO dP dQ dR dS dT dU dV dW dX dY dZ k0 k1 k2 k3 k4 k5 k6 k7 k8 k9 kA kB kC kD kE kF kG kH kI kJ kK kL kM kN kO kP kQ kR kS kT kU kV kW kX kY kZ v0 v1 v2 v3 v4 v5 v6 v7 v8 v9 vA vB vC vD vE vF vG vH vI vJ vK vL vM vN vO vP vQ vR vS vT vU vV vW vX vY vZ o0 o1 o2 o3 o4 o5 o6 o7:V) (w:W) (R:E):Prop:=
 lseg Tryz.prog entE qq6.ords qq6.joins Tryz.f4 [1,1,1,1,1,1,1,0,1,0] [0,1,0,1,1,1,1,1,1,1] [] n [d0,d1,d2,d3,d4,d5,d6,d7,d8,d9,dA,S Y11 yn11 yc11,S Y12 yn12 yc12,dD,dE,dF,dG,dH,I L y18,dJ,dK,dL,dM,dN,dO,dP,dQ,dR,dS,dT,dU,dV,dW,dX,dY,dZ,k0,k1,k2,k3,k4,k5,k6,k7,k8,k9,kA,kB,kC,kD,kE,kF,kG,kH,kI,kJ,kK,kL,kM,kN,kO,kP,kQ,kR,kS,kT,kU,kV,kW,kX,kY,kZ,v0,v1,v2,v3,v4,v5,v6,v7,v8,v9,vA,vB,vC,vD,vE,vF,vG,vH,vI,vJ,vK,vL,vM,vN,vO,vP,vQ,vR,vS,vT,vU,vV,vW,vX,vY,vZ,o0,o1,o2,o3,o4,o5,o6,o7] w R
def qq6.j3 (m0:Nat) (Y2:Option Addr) (yn2 yc2:Nat) (Y3:Option Addr) (yn3 yc3 yg9:Nat) (Y11:Option Addr) (yn11 yc11:Nat) (Y12:Option Addr) (yn12 yc12 yg13:Nat) (y14 y15:Int) (d0 d1 d4 d5 d6 d7 d8 dA dG dH dI dJ dK dL dM dN dO dP dQ dR dS dT dU dV dW dX dY dZ k0 k1 k2 k3 k4 k5 k6 k7 k8 k9 kA kB kC kD kE kF kG kH kI kJ kK kL kM kN kO kP kQ kR kS kT kU kV kW kX kY kZ v0 v1 v2 v3 v4 v5 v6 v7 v8 v9 vA vB vC vD vE vF vG vH vI vJ vK vL vM vN vO vP vQ vR vS vT vU vV vW vX vY vZ o0 o1 o2 o3 o4 o5 o6 o7:V) (w:W) (R:E):Prop:=
 seg Tryz.prog entE qq6.ords qq6.joins Tryz.f4 [1,1,1,1,1,1,0,1,0,0,1,0,0,1] [1,0,0,1,0,0,1,0,1,1,1,1,1,1] [m0] [d0,d1,S Y2 yn2 yc2,S Y3 yn3 yc3,d4,d5,d6,d7,d8,P (some ⟨yg9,0,N⟩),dA,S Y11 yn11 yc11,S Y12 yn12 yc12,P (some ⟨yg13,0,N⟩),I L y14,I L y15,dG,dH,dI,dJ,dK,dL,dM,dN,dO,dP,dQ,dR,dS,dT,dU,dV,dW,dX,dY,dZ,k0,k1,k2,k3,k4,k5,k6,k7,k8,k9,kA,kB,kC,kD,kE,kF,kG,kH,kI,kJ,kK,kL,kM,kN,kO,kP,kQ,kR,kS,kT,kU,kV,kW,kX,kY,kZ,v0,v1,v2,v3,v4,v5,v6,v7,v8,v9,vA,vB,vC,vD,vE,vF,vG,vH,vI,vJ,vK,vL,vM,vN,vO,vP,vQ,vR,vS,vT,vU,vV,vW,vX,vY,vZ,o0,o1,o2,o3,o4,o5,o6,o7] w R
def qq6.j4 (m0:Nat) (Y2:Option Addr) (yn2 yc2:Nat) (Y3:Option Addr) (yn3 yc3 yg9:Nat) (Y11:Option Addr) (yn11 yc11:Nat) (Y12:Option Addr) (yn12 yc12 yg13:Nat) (y14 y15:Int) (yg16 yg17:Nat) (d0 d1 d4 d5 d6 d7 d8 dA dI dJ dK dL dM dN dO dP dQ dR dS dT dU dV dW dX dY dZ k0 k1 k2 k3 k4 k5 k6 k7 k8 k9 kA kB kC kD kE kF kG kH kI kJ kK kL kM kN kO kP kQ kR kS kT kU kV kW kX kY kZ v0 v1 v2 v3 v4 v5 v6 v7 v8 v9 vA vB vC vD vE vF vG vH vI vJ vK vL vM vN vO vP vQ vR vS vT vU vV vW vX vY vZ o0 o1 o2 o3 o4 o5 o6 o7:V) (w:W) (R:E):Prop:=
 seg Tryz.prog entE qq6.ords qq6.joins Tryz.f4 [1,1,1,1,1,1,0,1,0,0,1,0,0,1,1,1,1] [1,1,1,1,0,0,1,0,0,1,0,1,1,1,1,1,1] [m0] [d0,d1,S Y2 yn2 yc2,S Y3 yn3 yc3,d4,d5,d6,d7,d8,P (some ⟨yg9,0,N⟩),dA,S Y11 yn11 yc11,S Y12 yn12 yc12,P (some ⟨yg13,0,N⟩),I L y14,I L y15,P (some ⟨yg16,0,N⟩),P (some ⟨yg17,0,N⟩),dI,dJ,dK,dL,dM,dN,dO,dP,dQ,dR,dS,dT,dU,dV,dW,dX,dY,dZ,k0,k1,k2,k3,k4,k5,k6,k7,k8,k9,kA,kB,kC,kD,kE,kF,kG,kH,kI,kJ,kK,kL,kM,kN,kO,kP,kQ,kR,kS,kT,kU,kV,kW,kX,kY,kZ,v0,v1,v2,v3,v4,v5,v6,v7,v8,v9,vA,vB,vC,vD,vE,vF,vG,vH,vI,vJ,vK,vL,vM,vN,vO,vP,vQ,vR,vS,vT,vU,vV,vW,vX,vY,vZ,o0,o1,o2,o3,o4,o5,o6,o7] w R
abbrev qq6.J1 (Y2:Option Addr) (yn2 yc2:Nat) (Y3:Option Addr) (yn3 yc3 yg9:Nat) (w:W) (R:E):Prop:=∀ d0 d1 d4 d5 d6 d7 d8 dA dB dC dD dE dF dG dH dI dJ dK dL dM dN dO dP dQ dR dS dT dU dV dW dX dY dZ k0 k1 k2 k3 k4 k5 k6 k7 k8 k9 kA kB kC kD kE kF kG kH kI kJ kK kL kM kN kO kP kQ kR kS kT kU kV kW kX kY kZ v0 v1 v2 v3 v4 v5 v6 v7 v8 v9 vA vB vC vD vE vF vG vH vI vJ vK vL vM vN vO vP vQ vR vS vT vU vV vW vX vY vZ o0 o1 o2 o3 o4 o5 o6 o7,qq6.j1 Y2 yn2 yc2 Y3 yn3 yc3 yg9 d0 d1 d4 d5 d6 d7 d8 dA dB dC dD dE dF dG dH dI dJ dK dL dM dN dO dP dQ dR dS dT dU dV dW dX dY dZ k0 k1 k2 k3 k4 k5 k6 k7 k8 k9 kA kB kC kD kE kF kG kH kI kJ kK kL kM kN kO kP kQ kR kS kT kU kV kW kX kY kZ v0 v1 v2 v3 v4 v5 v6 v7 v8 v9 vA vB vC vD vE vF vG vH vI vJ vK vL vM vN vO vP vQ vR vS vT vU vV vW vX vY vZ o0 o1 o2 o3 o4 o5 o6 o7 w R
abbrev qq6.L1 (n:Nat) (Y2:Option Addr) (yn2 yc2:Nat) (Y3:Option Addr) (yn3 yc3 yg9:Nat) (Y11:Option Addr) (yn11 yc11:Nat) (Y12:Option Addr) (yn12 yc12 yg13:Nat) (y14 y15:Int) (w:W) (R:E):Prop:=∀ d0 d1 d4 d5 d6 d7 d8 dA dG dH dI dJ dK dL dM dN dO dP dQ dR dS dT dU dV dW dX dY dZ k0 k1 k2 k3 k4 k5 k6 k7 k8 k9 kA kB kC kD kE kF kG kH kI kJ kK kL kM kN kO kP kQ kR kS kT kU kV kW kX kY kZ v0 v1 v2 v3 v4 v5 v6 v7 v8 v9 vA vB vC vD vE vF vG vH vI vJ vK vL vM vN vO vP vQ vR vS vT vU vV vW vX vY vZ o0 o1 o2 o3 o4 o5 o6 o7,qq6.l1 n Y2 yn2 yc2 Y3 yn3 yc3 yg9 Y11 yn11 yc11 Y12 yn12 yc12 yg13 y14 y15 d0 d1 d4 d5 d6 d7 d8 dA dG dH dI dJ dK dL dM dN dO dP dQ dR dS dT dU dV dW dX dY dZ k0 k1 k2 k3 k4 k5 k6 k7 k8 k9 kA kB kC kD kE kF kG kH kI kJ kK kL kM kN kO kP kQ kR kS kT kU kV kW kX kY kZ v0 v1 v2 v3 v4 v5 v6 v7 v8 v9 vA vB vC vD vE vF vG vH vI vJ vK vL vM vN vO vP vQ vR vS vT vU vV vW vX vY vZ o0 o1 o2 o3 o4 o5 o6 o7 w R
abbrev qq6.J2 (m0:Nat) (Y2:Option Addr) (yn2 yc2:Nat) (Y3:Option Addr) (yn3 yc3 yg9:Nat) (Y11:Option Addr) (yn11 yc11:Nat) (Y12:Option Addr) (yn12 yc12 yg13:Nat) (y14 y15:Int) (y51:Bool) (w:W) (R:E):Prop:=∀ d0 d1 d4 d5 d6 d7 d8 dA dG dH dI dJ dK dL dM dN dO dP dQ dR dS dT dU dV dW dX dY dZ k0 k1 k2 k3 k4 k5 k6 k7 k8 k9 kA kB kC kD kE kG kH kI kJ kK kL kM kN kO kP kQ kR kS kT kU kV kW kX kY kZ v0 v1 v2 v3 v4 v5 v6 v7 v8 v9 vA vB vC vD vE vF vG vH vI vJ vK vL vM vN vO vP vQ vR vS vT vU vV vW vX vY vZ o0 o1 o2 o3 o4 o5 o6 o7,qq6.j2 m0 Y2 yn2 yc2 Y3 yn3 yc3 yg9 Y11 yn11 yc11 Y12 yn12 yc12 yg13 y14 y15 y51 d0 d1 d4 d5 d6 d7 d8 dA dG dH dI dJ dK dL dM dN dO dP dQ dR dS dT dU dV dW dX dY dZ k0 k1 k2 k3 k4 k5 k6 k7 k8 k9 kA kB kC kD kE kG kH kI kJ kK kL kM kN kO kP kQ kR kS kT kU kV kW kX kY kZ v0 v1 v2 v3 v4 v5 v6 v7 v8 v9 vA vB vC vD vE vF vG vH vI vJ vK vL vM vN vO vP vQ vR vS vT vU vV vW vX vY vZ o0 o1 o2 o3 o4 o5 o6 o7 w R
abbrev qq6.L2 (n:Nat) (Y11:Option Addr) (yn11 yc11:Nat) (Y12:Option Addr) (yn12 yc12:Nat) (y18:Int) (w:W) (R:E):Prop:=∀ d0 d1 d2 d3 d4 d5 d6 d7 d8 d9 dA dD dE dF dG dH dJ dK dL dM dN dO dP dQ dR dS dT dU dV dW dX dY dZ k0 k1 k2 k3 k4 k5 k6 k7 k8 k9 kA kB kC kD kE kF kG kH kI kJ kK kL kM kN kO kP kQ kR kS kT kU kV kW kX kY kZ v0 v1 v2 v3 v4 v5 v6 v7 v8 v9 vA vB vC vD vE vF vG vH vI vJ vK vL vM vN vO vP vQ vR vS vT vU vV vW vX vY vZ o0 o1 o2 o3 o4 o5 o6 o7,qq6.l2 n Y11 yn11 yc11 Y12 yn12 yc12 y18 d0 d1 d2 d3 d4 d5 d6 d7 d8 d9 dA dD dE dF dG dH dJ dK dL dM dN dO dP dQ dR dS dT dU dV dW dX dY dZ k0 k1 k2 k3 k4 k5 k6 k7 k8 k9 kA kB kC kD kE kF kG kH kI kJ kK kL kM kN kO kP kQ kR kS kT kU kV kW kX kY kZ v0 v1 v2 v3 v4 v5 v6 v7 v8 v9 vA vB vC vD vE vF vG vH vI vJ vK vL vM vN vO vP vQ vR vS vT vU vV vW vX vY vZ o0 o1 o2 o3 o4 o5 o6 o7 w R
abbrev qq6.J3 (m0:Nat) (Y2:Option Addr) (yn2 yc2:Nat) (Y3:Option Addr) (yn3 yc3 yg9:Nat) (Y11:Option Addr) (yn11 yc11:Nat) (Y12:Option Addr) (yn12 yc12 yg13:Nat) (y14 y15:Int) (w:W) (R:E):Prop:=∀ d0 d1 d4 d5 d6 d7 d8 dA dG dH dI dJ dK dL dM dN dO dP dQ dR dS dT dU dV dW dX dY dZ k0 k1 k2 k3 k4 k5 k6 k7 k8 k9 kA kB kC kD kE kF kG kH kI kJ kK kL kM kN kO kP kQ kR kS kT kU kV kW kX kY kZ v0 v1 v2 v3 v4 v5 v6 v7 v8 v9 vA vB vC vD vE vF vG vH vI vJ vK vL vM vN vO vP vQ vR vS vT vU vV vW vX vY vZ o0 o1 o2 o3 o4 o5 o6 o7,qq6.j3 m0 Y2 yn2 yc2 Y3 yn3 yc3 yg9 Y11 yn11 yc11 Y12 yn12 yc12 yg13 y14 y15 d0 d1 d4 d5 d6 d7 d8 dA dG dH dI dJ dK dL dM dN dO dP dQ dR dS dT dU dV dW dX dY dZ k0 k1 k2 k3 k4 k5 k6 k7 k8 k9 kA kB kC kD kE kF kG kH kI kJ kK kL kM kN kO kP kQ kR kS kT kU kV kW kX kY kZ v0 v1 v2 v3 v4 v5 v6 v7 v8 v9 vA vB vC vD vE vF vG vH vI vJ vK vL vM vN vO vP vQ vR vS vT vU vV vW vX vY vZ o0 o1 o2 o3 o4 o5 o6 o7 w R
abbrev qq6.J4 (m0:Nat) (Y2:Option Addr) (yn2 yc2:Nat) (Y3:Option Addr) (yn3 yc3 yg9:Nat) (Y11:Option Addr) (yn11 yc11:Nat) (Y12:Option Addr) (yn12 yc12 yg13:Nat) (y14 y15:Int) (yg16 yg17:Nat) (w:W) (R:E):Prop:=∀ d0 d1 d4 d5 d6 d7 d8 dA dI dJ dK dL dM dN dO dP dQ dR dS dT dU dV dW dX dY dZ k0 k1 k2 k3 k4 k5 k6 k7 k8 k9 kA kB kC kD kE kF kG kH kI kJ kK kL kM kN kO kP kQ kR kS kT kU kV kW kX kY kZ v0 v1 v2 v3 v4 v5 v6 v7 v8 v9 vA vB vC vD vE vF vG vH vI vJ vK vL vM vN vO vP vQ vR vS vT vU vV vW vX vY vZ o0 o1 o2 o3 o4 o5 o6 o7,qq6.j4 m0 Y2 yn2 yc2 Y3 yn3 yc3 yg9 Y11 yn11 yc11 Y12 yn12 yc12 yg13 y14 y15 yg16 yg17 d0 d1 d4 d5 d6 d7 d8 dA dI dJ dK dL dM dN dO dP dQ dR dS dT dU dV dW dX dY dZ k0 k1 k2 k3 k4 k5 k6 k7 k8 k9 kA kB kC kD kE kF kG kH kI kJ kK kL kM kN kO kP kQ kR kS kT kU kV kW kX kY kZ v0 v1 v2 v3 v4 v5 v6 v7 v8 v9 vA vB vC vD vE vF vG vH vI vJ vK vL vM vN vO vP vQ vR vS vT vU vV vW vX vY vZ o0 o1 o2 o3 o4 o5 o6 o7 w R
theorem qq6.j1_eq:qq6.j1 Y2 yn2 yc2 Y3 yn3 yc3 yg9 d0 d1 d4 d5 d6 d7 d8 dA dB dC dD dE dF dG dH dI dJ dK dL dM dN dO dP dQ dR dS dT dU dV dW dX dY dZ k0 k1 k2 k3 k4 k5 k6 k7 k8 k9 kA kB kC kD kE kF kG kH kI kJ kK kL kM kN kO kP kQ kR kS kT kU kV kW kX kY kZ v0 v1 v2 v3 v4 v5 v6 v7 v8 v9 vA vB vC vD vE vF vG vH vI vJ vK vL vM vN vO vP vQ vR vS vT vU vV vW vX vY vZ o0 o1 o2 o3 o4 o5 o6 o7 w R =
(Let (w.heap.size) fun g1:Nat=>
 Let (w.alloc (.cells #[I L 0,T false,I B 0,I H 0,T false,T false,I L 0,I B 0,I B 0,I D 0,I D 0,S N 0 0,S N 0 0,I D 0,I D 0,I B 0,I H 0,I H 0,I D 0,I D 0,S N 0 0,I B 0,I H 0] 42)) fun w2:W=>
 ∃ n3:Nat,qq6.l1 n3 Y2 yn2 yc2 Y3 yn3 yc3 yg9 N 0 0 N 0 0 g1 0 0 d0 d1 d4 d5 d6 d7 d8 dA dG dH dI dJ dK dL dM dN dO dP dQ dR dS dT dU dV dW dX dY dZ k0 k1 k2 k3 k4 k5 k6 k7 k8 k9 kA kB kC kD kE kF kG kH kI kJ kK kL kM kN kO kP kQ kR kS kT kU kV kW kX kY kZ v0 v1 v2 v3 v4 v5 v6 v7 v8 v9 vA vB vC vD vE vF vG vH vI vJ vK vL vM vN vO vP vQ vR vS vT vU vV vW vX vY vZ o0 o1 o2 o3 o4 o5 o6 o7 w2 R):=by kernel_rfl
theorem qq6.l1_eq {n:Nat}:qq6.l1 (n+1) Y2 yn2 yc2 Y3 yn3 yc3 yg9 Y11 yn11 yc11 Y12 yn12 yc12 yg13 y14 y15 d0 d1 d4 d5 d6 d7 d8 dA dG dH dI dJ dK dL dM dN dO dP dQ dR dS dT dU dV dW dX dY dZ k0 k1 k2 k3 k4 k5 k6 k7 k8 k9 kA kB kC kD kE kF kG kH kI kJ kK kL kM kN kO kP kQ kR kS kT kU kV kW kX kY kZ v0 v1 v2 v3 v4 v5 v6 v7 v8 v9 vA vB vC vD vE vF vG vH vI vJ vK vL vM vN vO vP vQ vR vS vT vU vV vW vX vY vZ o0 o1 o2 o3 o4 o5 o6 o7 w R =
((if decide (y15 < (yn2:Int))=true then
((if decide (y15 > 0)=true then
((if decide (y15 < (yn3:Int))=true then
(∃ a1:Addr,Y3=some a1∧(0≤y15∧y15 < (yn3:Int))∧
(∃ x2:Int,w.cell? (a1.add y15.toNat)=some (I L x2)∧
(Leaf (qq6.j2 n Y2 yn2 yc2 Y3 yn3 yc3 yg9 Y11 yn11 yc11 Y12 yn12 yc12 yg13 y14 y15 (x2 != 0) d0 d1 d4 d5 d6 d7 d8 dA dG dH dI dJ dK dL dM dN dO dP dQ dR dS dT dU (I L y15) (S Y2 yn2 yc2) (I L (yn2:Int)) (T (decide (y15 < (yn2:Int)))) dZ k0 (I L y15) (T (decide (y15 > 0))) (T true) (I L y15) (S Y3 yn3 yc3) (I L (yn3:Int)) (T (decide (y15 < (yn3:Int)))) (T (decide (y15 < (yn3:Int)))) (T true) (S Y3 yn3 yc3) (I L y15) (P (some (a1.add y15.toNat))) (I L x2) (T (x2 != 0)) kG kH kI kJ kK kL kM kN kO kP kQ kR kS kT kU kV kW kX kY kZ v0 v1 v2 v3 v4 v5 v6 v7 v8 v9 vA vB vC vD vE vF vG vH vI vJ vK vL vM vN vO vP vQ vR vS vT vU vV vW vX vY vZ o0 o1 o2 o3 o4 o5 o6 o7 w R))))
else
(Leaf (qq6.j2 n Y2 yn2 yc2 Y3 yn3 yc3 yg9 Y11 yn11 yc11 Y12 yn12 yc12 yg13 y14 y15 false d0 d1 d4 d5 d6 d7 d8 dA dG dH dI dJ dK dL dM dN dO dP dQ dR dS dT dU (I L y15) (S Y2 yn2 yc2) (I L (yn2:Int)) (T (decide (y15 < (yn2:Int)))) dZ k0 (I L y15) (T (decide (y15 > 0))) (T true) (I L y15) (S Y3 yn3 yc3) (I L (yn3:Int)) (T (decide (y15 < (yn3:Int)))) (T (decide (y15 < (yn3:Int)))) (T false) U U U U U kG kH kI kJ kK kL kM kN kO kP kQ kR kS kT kU kV kW kX kY kZ v0 v1 v2 v3 v4 v5 v6 v7 v8 v9 vA vB vC vD vE vF vG vH vI vJ vK vL vM vN vO vP vQ vR vS vT vU vV vW vX vY vZ o0 o1 o2 o3 o4 o5 o6 o7 w R))))
else
(Leaf (qq6.j2 n Y2 yn2 yc2 Y3 yn3 yc3 yg9 Y11 yn11 yc11 Y12 yn12 yc12 yg13 y14 y15 false d0 d1 d4 d5 d6 d7 d8 dA dG dH dI dJ dK dL dM dN dO dP dQ dR dS dT dU (I L y15) (S Y2 yn2 yc2) (I L (yn2:Int)) (T (decide (y15 < (yn2:Int)))) dZ k0 (I L y15) (T (decide (y15 > 0))) (T false) U U U U (T false) (T false) U U U U U kG kH kI kJ kK kL kM kN kO kP kQ kR kS kT kU kV kW kX kY kZ v0 v1 v2 v3 v4 v5 v6 v7 v8 v9 vA vB vC vD vE vF vG vH vI vJ vK vL vM vN vO vP vQ vR vS vT vU vV vW vX vY vZ o0 o1 o2 o3 o4 o5 o6 o7 w R))))
else
(∃ n3:Nat,qq6.l2 n3 Y11 yn11 yc11 Y12 yn12 yc12 0 d0 d1 (S Y2 yn2 yc2) (S Y3 yn3 yc3) d4 d5 d6 d7 d8 (P (some ⟨yg9,0,N⟩)) dA (P (some ⟨yg13,0,N⟩)) (I L y14) (I L y15) dG dH dJ dK dL dM dN dO dP dQ dR dS dT dU (I L y15) (S Y2 yn2 yc2) (I L (yn2:Int)) (T (decide (y15 < (yn2:Int)))) dZ k0 k1 k2 k3 k4 k5 k6 k7 k8 k9 kA kB kC kD kE kF kG kH kI kJ kK kL kM kN kO kP kQ kR kS kT kU kV kW kX kY kZ v0 v1 v2 v3 v4 v5 v6 v7 v8 v9 vA vB vC vD vE vF vG vH vI vJ vK vL vM vN vO vP vQ vR vS vT vU vV vW vX vY vZ o0 o1 o2 o3 o4 o5 o6 o7 w R))):=by kernel_rfl
theorem qq6.j2_eq:qq6.j2 m0 Y2 yn2 yc2 Y3 yn3 yc3 yg9 Y11 yn11 yc11 Y12 yn12 yc12 yg13 y14 y15 y51 d0 d1 d4 d5 d6 d7 d8 dA dG dH dI dJ dK dL dM dN dO dP dQ dR dS dT dU dV dW dX dY dZ k0 k1 k2 k3 k4 k5 k6 k7 k8 k9 kA kB kC kD kE kG kH kI kJ kK kL kM kN kO kP kQ kR kS kT kU kV kW kX kY kZ v0 v1 v2 v3 v4 v5 v6 v7 v8 v9 vA vB vC vD vE vF vG vH vI vJ vK vL vM vN vO vP vQ vR vS vT vU vV vW vX vY vZ o0 o1 o2 o3 o4 o5 o6 o7 w R =
((if y51=true then
(∃ S1:W→Prop,S1 w.drew∧
(Let (w.drew) fun w2:W=>
 ∃ x3:Int,∃ b4:Bool,∃ x5 x6:Int,∃ b7 b8:Bool,∃ x9 x10 x11 x12 x13:Int,∃ (A14:Option Addr) (n14_ c14_:Nat),∃ (A15:Option Addr) (n15_ c15_:Nat),∃ x16 x17 x18 x19 x20 x21 x22:Int,∃ (A23:Option Addr) (n23_ c23_:Nat),∃ x24 x25:Int,(23=23∧(∀ w',S1 w'→At w' ⟨yg13,0,N⟩ [I L x3,T b4,I B x5,I H x6,T b7,T b8,I L x9,I B x10,I B x11,I D x12,I D x13,S A14 n14_ c14_,S A15 n15_ c15_,I D x16,I D x17,I B x18,I H x19,I H x20,I D x21,I D x22,S A23 n23_ c23_,I B x24,I H x25]))∧
(∃ a26:Addr,Y3=some a26∧(0≤y15∧y15 < (yn3:Int))∧
(∃ x27:Int,(∀ w',S1 w'→w'.cell? (a26.add y15.toNat)=some (I L x27))∧
(Calls Tryz.prog 9 #[G #[I L x3,T b4,I B x5,I H x6,T b7,T b8,I L x9,I B x10,I B x11,I D x12,I D x13,S A14 n14_ c14_,S A15 n15_ c15_,I D x16,I D x17,I B x18,I H x19,I H x20,I D x21,I D x22,S A23 n23_ c23_,I B x24,I H x25],I L x27] w2 (fun (e29:Ending) (w28:W)=>
 ∃ x30:Int,∃ b31:Bool,∃ x32 x33:Int,∃ b34 b35:Bool,∃ x36 x37 x38 x39 x40:Int,∃ (A41:Option Addr) (n41_ c41_:Nat),∃ (A42:Option Addr) (n42_ c42_:Nat),∃ x43 x44 x45 x46 x47 x48 x49:Int,∃ (A50:Option Addr) (n50_ c50_:Nat),∃ x51 x52:Int,e29=.returned (G #[I L x30,T b31,I B x32,I H x33,T b34,T b35,I L x36,I B x37,I B x38,I D x39,I D x40,S A41 n41_ c41_,S A42 n42_ c42_,I D x43,I D x44,I B x45,I H x46,I H x47,I D x48,I D x49,S A50 n50_ c50_,I B x51,I H x52])∧
(S1 w28∧
(May w28 ⟨yg13,0,N⟩ 23∧
(Let (putCells w28 ⟨yg13,0,N⟩ [I L x30,T b31,I B x32,I H x33,T b34,T b35,I L x36,I B x37,I B x38,I D x39,I D x40,S A41 n41_ c41_,S A42 n42_ c42_,I D x43,I D x44,I B x45,I H x46,I H x47,I D x48,I D x49,S A50 n50_ c50_,I B x51,I H x52] 0) fun w53:W=>
 Leaf (qq6.j3 m0 Y2 yn2 yc2 Y3 yn3 yc3 yg9 Y11 yn11 yc11 Y12 yn12 yc12 yg13 y14 y15 d0 d1 d4 d5 d6 d7 d8 dA dG dH dI dJ dK dL dM dN dO dP dQ dR dS dT dU dV dW dX dY dZ k0 k1 k2 k3 k4 k5 k6 k7 k8 k9 kA kB kC kD kE (T y51) (G #[I L x3,T b4,I B x5,I H x6,T b7,T b8,I L x9,I B x10,I B x11,I D x12,I D x13,S A14 n14_ c14_,S A15 n15_ c15_,I D x16,I D x17,I B x18,I H x19,I H x20,I D x21,I D x22,S A23 n23_ c23_,I B x24,I H x25]) (S Y3 yn3 yc3) (I L y15) (P (some (a26.add y15.toNat))) (I L x27) (G #[I L x30,T b31,I B x32,I H x33,T b34,T b35,I L x36,I B x37,I B x38,I D x39,I D x40,S A41 n41_ c41_,S A42 n42_ c42_,I D x43,I D x44,I B x45,I H x46,I H x47,I D x48,I D x49,S A50 n50_ c50_,I B x51,I H x52]) kM kN kO kP kQ kR kS kT kU kV kW kX kY kZ v0 v1 v2 v3 v4 v5 v6 v7 v8 v9 vA vB vC vD vE vF vG vH vI vJ vK vL vM vN vO vP vQ vR vS vT vU vV vW vX vY vZ o0 o1 o2 o3 o4 o5 o6 o7 w53 R))))))))))
else
(∃ a54:Addr,Y2=some a54∧(0≤y15∧y15 < (yn2:Int))∧
(∃ x55:Int,∃ b56:Bool,∃ x57 x58:Int,∃ b59 b60:Bool,∃ x61 x62 x63 x64 x65:Int,∃ (A66:Option Addr) (n66_ c66_:Nat),∃ (A67:Option Addr) (n67_ c67_:Nat),∃ x68 x69 x70 x71 x72 x73 x74:Int,∃ (A75:Option Addr) (n75_ c75_:Nat),∃ x76 x77:Int,(23=23∧At w (a54.add (y15.toNat * 23)) [I L x55,T b56,I B x57,I H x58,T b59,T b60,I L x61,I B x62,I B x63,I D x64,I D x65,S A66 n66_ c66_,S A67 n67_ c67_,I D x68,I D x69,I B x70,I H x71,I H x72,I D x73,I D x74,S A75 n75_ c75_,I B x76,I H x77])∧
(Calls Tryz.prog 10 #[G #[I L x55,T b56,I B x57,I H x58,T b59,T b60,I L x61,I B x62,I B x63,I D x64,I D x65,S A66 n66_ c66_,S A67 n67_ c67_,I D x68,I D x69,I B x70,I H x71,I H x72,I D x73,I D x74,S A75 n75_ c75_,I B x76,I H x77]] w (fun (e79:Ending) (w78:W)=>
 ∃ x80:Int,∃ b81:Bool,∃ x82 x83:Int,∃ b84 b85:Bool,∃ x86 x87 x88 x89 x90:Int,∃ (A91:Option Addr) (n91_ c91_:Nat),∃ (A92:Option Addr) (n92_ c92_:Nat),∃ x93 x94 x95 x96 x97 x98 x99:Int,∃ (A100:Option Addr) (n100_ c100_:Nat),∃ x101 x102:Int,e79=.returned (G #[I L x80,T b81,I B x82,I H x83,T b84,T b85,I L x86,I B x87,I B x88,I D x89,I D x90,S A91 n91_ c91_,S A92 n92_ c92_,I D x93,I D x94,I B x95,I H x96,I H x97,I D x98,I D x99,S A100 n100_ c100_,I B x101,I H x102])∧
(May w78 ⟨yg13,0,N⟩ 23∧
(Let (putCells w78 ⟨yg13,0,N⟩ [I L x80,T b81,I B x82,I H x83,T b84,T b85,I L x86,I B x87,I B x88,I D x89,I D x90,S A91 n91_ c91_,S A92 n92_ c92_,I D x93,I D x94,I B x95,I H x96,I H x97,I D x98,I D x99,S A100 n100_ c100_,I B x101,I H x102] 0) fun w103:W=>
 Leaf (qq6.j3 m0 Y2 yn2 yc2 Y3 yn3 yc3 yg9 Y11 yn11 yc11 Y12 yn12 yc12 yg13 y14 y15 d0 d1 d4 d5 d6 d7 d8 dA dG dH dI dJ dK dL dM dN dO dP dQ dR dS dT dU dV dW dX dY dZ k0 k1 k2 k3 k4 k5 k6 k7 k8 k9 kA kB kC kD kE (T y51) kG kH kI kJ kK kL (S Y2 yn2 yc2) (I L y15) (P (some (a54.add (y15.toNat * 23)))) (G #[I L x55,T b56,I B x57,I H x58,T b59,T b60,I L x61,I B x62,I B x63,I D x64,I D x65,S A66 n66_ c66_,S A67 n67_ c67_,I D x68,I D x69,I B x70,I H x71,I H x72,I D x73,I D x74,S A75 n75_ c75_,I B x76,I H x77]) (G #[I L x80,T b81,I B x82,I H x83,T b84,T b85,I L x86,I B x87,I B x88,I D x89,I D x90,S A91 n91_ c91_,S A92 n92_ c92_,I D x93,I D x94,I B x95,I H x96,I H x97,I D x98,I D x99,S A100 n100_ c100_,I B x101,I H x102]) kR kS kT kU kV kW kX kY kZ v0 v1 v2 v3 v4 v5 v6 v7 v8 v9 vA vB vC vD vE vF vG vH vI vJ vK vL vM vN vO vP vQ vR vS vT vU vV vW vX vY vZ o0 o1 o2 o3 o4 o5 o6 o7 w103 R))))))))):=by kernel_rfl
theorem qq6.l2_eq {n:Nat}:qq6.l2 (n+1) Y11 yn11 yc11 Y12 yn12 yc12 y18 d0 d1 d2 d3 d4 d5 d6 d7 d8 d9 dA dD dE dF dG dH dJ dK dL dM dN dO dP dQ dR dS dT dU dV dW dX dY dZ k0 k1 k2 k3 k4 k5 k6 k7 k8 k9 kA kB kC kD kE kF kG kH kI kJ kK kL kM kN kO kP kQ kR kS kT kU kV kW kX kY kZ v0 v1 v2 v3 v4 v5 v6 v7 v8 v9 vA vB vC vD vE vF vG vH vI vJ vK vL vM vN vO vP vQ vR vS vT vU vV vW vX vY vZ o0 o1 o2 o3 o4 o5 o6 o7 w R =
((if decide (y18 < (yn11:Int))=true then
(∃ S1:W→Prop,S1 w.drew∧
(Let (w.drew) fun w2:W=>
 ∃ a3:Addr,Y11=some a3∧(0≤y18∧y18 < (yn11:Int))∧
(∃ x4 x5:Int,∃ b6 b7:Bool,∃ x8 x9 x10 x11 x12:Int,∃ (A13:Option Addr) (n13_ c13_:Nat),∃ (A14:Option Addr) (n14_ c14_:Nat),∃ x15 x16:Int,(13=13∧(∀ w',S1 w'→At w' (a3.add (y18.toNat * 13)) [I B x4,I H x5,T b6,T b7,I L x8,I B x9,I B x10,I D x11,I D x12,S A13 n13_ c13_,S A14 n14_ c14_,I L x15,I L x16]))∧
(∃ a17:Addr,Y12=some a17∧(0≤y18∧y18 < (yn12:Int))∧
(∃ x18 x19:Int,∃ b20 b21:Bool,∃ x22 x23 x24 x25 x26:Int,∃ (A27:Option Addr) (n27_ c27_:Nat),∃ (A28:Option Addr) (n28_ c28_:Nat),∃ x29 x30:Int,(13=13∧(∀ w',S1 w'→At w' (a17.add (y18.toNat * 13)) [I B x18,I H x19,T b20,T b21,I L x22,I B x23,I B x24,I D x25,I D x26,S A27 n27_ c27_,S A28 n28_ c28_,I L x29,I L x30]))∧
(Calls Tryz.prog 13 #[G #[I B x4,I H x5,T b6,T b7,I L x8,I B x9,I B x10,I D x11,I D x12,S A13 n13_ c13_,S A14 n14_ c14_,I L x15,I L x16],G #[I B x18,I H x19,T b20,T b21,I L x22,I B x23,I B x24,I D x25,I D x26,S A27 n27_ c27_,S A28 n28_ c28_,I L x29,I L x30]] w2 (fun (e32:Ending) (w31:W)=>
 ∃ b33:Bool,e32=.returned (T b33)∧
(S1 w31∧
((if (!b33)=true then
(R (.returned (T false)) w31)
else
(Let (L.wrap (y18+1)) fun x34:Int=>
 qq6.l2 n Y11 yn11 yc11 Y12 yn12 yc12 x34 d0 d1 d2 d3 d4 d5 d6 d7 d8 d9 dA dD dE dF dG dH dJ dK dL dM dN dO dP dQ dR dS dT dU dV dW dX dY dZ k0 k1 k2 k3 k4 k5 k6 k7 k8 k9 kA kB kC kD kE kF kG kH kI kJ kK kL kM kN kO kP kQ kR kS kT kU kV kW kX kY kZ v0 v1 v2 v3 v4 v5 v6 v7 v8 v9 vA vB vC vD vE vF vG vH vI vJ vK vL vM vN vO vP vQ vR (I L y18) (S Y11 yn11 yc11) (I L (yn11:Int)) (T (decide (y18 < (yn11:Int)))) (I L y18) (I L x34) (S Y11 yn11 yc11) (I L y18) (P (some (a3.add (y18.toNat * 13)))) (G #[I B x4,I H x5,T b6,T b7,I L x8,I B x9,I B x10,I D x11,I D x12,S A13 n13_ c13_,S A14 n14_ c14_,I L x15,I L x16]) (S Y12 yn12 yc12) (I L y18) (P (some (a17.add (y18.toNat * 13)))) (G #[I B x18,I H x19,T b20,T b21,I L x22,I B x23,I B x24,I D x25,I D x26,S A27 n27_ c27_,S A28 n28_ c28_,I L x29,I L x30]) (T b33) (T (!b33)) w31 R)))))))))))
else
(R (.returned (T true)) w))):=by kernel_rfl
theorem qq6.j3_eq:qq6.j3 m0 Y2 yn2 yc2 Y3 yn3 yc3 yg9 Y11 yn11 yc11 Y12 yn12 yc12 yg13 y14 y15 d0 d1 d4 d5 d6 d7 d8 dA dG dH dI dJ dK dL dM dN dO dP dQ dR dS dT dU dV dW dX dY dZ k0 k1 k2 k3 k4 k5 k6 k7 k8 k9 kA kB kC kD kE kF kG kH kI kJ kK kL kM kN kO kP kQ kR kS kT kU kV kW kX kY kZ v0 v1 v2 v3 v4 v5 v6 v7 v8 v9 vA vB vC vD vE vF vG vH vI vJ vK vL vM vN vO vP vQ vR vS vT vU vV vW vX vY vZ o0 o1 o2 o3 o4 o5 o6 o7 w R =
(∃ x1:Int,∃ b2:Bool,∃ x3 x4:Int,∃ b5 b6:Bool,∃ x7 x8 x9 x10 x11:Int,∃ (A12:Option Addr) (n12_ c12_:Nat),∃ (A13:Option Addr) (n13_ c13_:Nat),∃ x14 x15 x16 x17 x18 x19 x20:Int,∃ (A21:Option Addr) (n21_ c21_:Nat),∃ x22 x23:Int,(23=23∧At w ⟨yg13,0,N⟩ [I L x1,T b2,I B x3,I H x4,T b5,T b6,I L x7,I B x8,I B x9,I D x10,I D x11,S A12 n12_ c12_,S A13 n13_ c13_,I D x14,I D x15,I B x16,I H x17,I H x18,I D x19,I D x20,S A21 n21_ c21_,I B x22,I H x23])∧
(Calls Tryz.prog 11 #[G #[I L x1,T b2,I B x3,I H x4,T b5,T b6,I L x7,I B x8,I B x9,I D x10,I D x11,S A12 n12_ c12_,S A13 n13_ c13_,I D x14,I D x15,I B x16,I H x17,I H x18,I D x19,I D x20,S A21 n21_ c21_,I B x22,I H x23]] w (fun (e25:Ending) (w24:W)=>
 ∃ x26 x27:Int,∃ b28 b29:Bool,∃ x30 x31 x32 x33 x34:Int,∃ (A35:Option Addr) (n35_ c35_:Nat),∃ (A36:Option Addr) (n36_ c36_:Nat),∃ x37 x38:Int,e25=.returned (G #[I B x26,I H x27,T b28,T b29,I L x30,I B x31,I B x32,I D x33,I D x34,S A35 n35_ c35_,S A36 n36_ c36_,I L x37,I L x38])∧
(Let (w24.heap.size) fun g39:Nat=>
 Let (w24.alloc (.cells #[I B 0,I H 0,T false,T false,I L 0,I B 0,I B 0,I D 0,I D 0,S N 0 0,S N 0 0,I L 0,I L 0] 51)) fun w40:W=>
 May w40 ⟨g39,0,N⟩ 13∧
(Let (putCells w40 ⟨g39,0,N⟩ [I B x26,I H x27,T b28,T b29,I L x30,I B x31,I B x32,I D x33,I D x34,S A35 n35_ c35_,S A36 n36_ c36_,I L x37,I L x38] 0) fun w41:W=>
 ∃ x42:Int,∃ b43:Bool,∃ x44 x45:Int,∃ b46 b47:Bool,∃ x48 x49 x50 x51 x52:Int,∃ (A53:Option Addr) (n53_ c53_:Nat),∃ (A54:Option Addr) (n54_ c54_:Nat),∃ x55 x56 x57 x58 x59 x60 x61:Int,∃ (A62:Option Addr) (n62_ c62_:Nat),∃ x63 x64:Int,(23=23∧At w41 ⟨yg13,0,N⟩ [I L x42,T b43,I B x44,I H x45,T b46,T b47,I L x48,I B x49,I B x50,I D x51,I D x52,S A53 n53_ c53_,S A54 n54_ c54_,I D x55,I D x56,I B x57,I H x58,I H x59,I D x60,I D x61,S A62 n62_ c62_,I B x63,I H x64])∧
(Calls Tryz.prog 12 #[G #[I L x42,T b43,I B x44,I H x45,T b46,T b47,I L x48,I B x49,I B x50,I D x51,I D x52,S A53 n53_ c53_,S A54 n54_ c54_,I D x55,I D x56,I B x57,I H x58,I H x59,I D x60,I D x61,S A62 n62_ c62_,I B x63,I H x64]] w41 (fun (e66:Ending) (w65:W)=>
 ∃ x67 x68:Int,∃ b69 b70:Bool,∃ x71 x72 x73 x74 x75:Int,∃ (A76:Option Addr) (n76_ c76_:Nat),∃ (A77:Option Addr) (n77_ c77_:Nat),∃ x78 x79:Int,e66=.returned (G #[I B x67,I H x68,T b69,T b70,I L x71,I B x72,I B x73,I D x74,I D x75,S A76 n76_ c76_,S A77 n77_ c77_,I L x78,I L x79])∧
(Let (w65.heap.size) fun g80:Nat=>
 Let (w65.alloc (.cells #[I B 0,I H 0,T false,T false,I L 0,I B 0,I B 0,I D 0,I D 0,S N 0 0,S N 0 0,I L 0,I L 0] 51)) fun w81:W=>
 May w81 ⟨g80,0,N⟩ 13∧
(Let (putCells w81 ⟨g80,0,N⟩ [I B x67,I H x68,T b69,T b70,I L x71,I B x72,I B x73,I D x74,I D x75,S A76 n76_ c76_,S A77 n77_ c77_,I L x78,I L x79] 0) fun w82:W=>
 ∃ x83 x84:Int,∃ b85 b86:Bool,∃ x87 x88 x89 x90 x91:Int,∃ (A92:Option Addr) (n92_ c92_:Nat),∃ (A93:Option Addr) (n93_ c93_:Nat),∃ x94 x95:Int,(13=13∧At w82 ⟨g39,0,N⟩ [I B x83,I H x84,T b85,T b86,I L x87,I B x88,I B x89,I D x90,I D x91,S A92 n92_ c92_,S A93 n93_ c93_,I L x94,I L x95])∧
(∃ x96 x97:Int,∃ b98 b99:Bool,∃ x100 x101 x102 x103 x104:Int,∃ (A105:Option Addr) (n105_ c105_:Nat),∃ (A106:Option Addr) (n106_ c106_:Nat),∃ x107 x108:Int,(13=13∧At w82 ⟨g80,0,N⟩ [I B x96,I H x97,T b98,T b99,I L x100,I B x101,I B x102,I D x103,I D x104,S A105 n105_ c105_,S A106 n106_ c106_,I L x107,I L x108])∧
(Calls Tryz.prog 13 #[G #[I B x83,I H x84,T b85,T b86,I L x87,I B x88,I B x89,I D x90,I D x91,S A92 n92_ c92_,S A93 n93_ c93_,I L x94,I L x95],G #[I B x96,I H x97,T b98,T b99,I L x100,I B x101,I B x102,I D x103,I D x104,S A105 n105_ c105_,S A106 n106_ c106_,I L x107,I L x108]] w82 (fun (e110:Ending) (w109:W)=>
 ∃ b111:Bool,e110=.returned (T b111)∧
((if (!b111)=true then
(R (.returned (T false)) w109)
else
(∃ p112:Option Addr,∃ p113:Option Addr,(2=2∧At w109 ⟨yg9,0,N⟩ [P p112,P p113])∧
(∃ x114:Int,∃ b115:Bool,∃ x116 x117:Int,∃ b118 b119:Bool,∃ x120 x121 x122 x123 x124:Int,∃ (A125:Option Addr) (n125_ c125_:Nat),∃ (A126:Option Addr) (n126_ c126_:Nat),∃ x127 x128 x129 x130 x131 x132 x133:Int,∃ (A134:Option Addr) (n134_ c134_:Nat),∃ x135 x136:Int,(23=23∧At w109 ⟨yg13,0,N⟩ [I L x114,T b115,I B x116,I H x117,T b118,T b119,I L x120,I B x121,I B x122,I D x123,I D x124,S A125 n125_ c125_,S A126 n126_ c126_,I D x127,I D x128,I B x129,I H x130,I H x131,I D x132,I D x133,S A134 n134_ c134_,I B x135,I H x136])∧
(Calls Tryz.prog 7 #[G #[P p112,P p113],G #[I L x114,T b115,I B x116,I H x117,T b118,T b119,I L x120,I B x121,I B x122,I D x123,I D x124,S A125 n125_ c125_,S A126 n126_ c126_,I D x127,I D x128,I B x129,I H x130,I H x131,I D x132,I D x133,S A134 n134_ c134_,I B x135,I H x136]] w109 (fun (e138:Ending) (w137:W)=>
 ∃ b139:Bool,e138=.returned (T b139)∧
((if (!b139)=true then
(R (.returned (T false)) w137)
else
(Leaf (qq6.j4 m0 Y2 yn2 yc2 Y3 yn3 yc3 yg9 Y11 yn11 yc11 Y12 yn12 yc12 yg13 y14 y15 g39 g80 d0 d1 d4 d5 d6 d7 d8 dA dI dJ dK dL dM dN dO dP dQ dR dS dT dU dV dW dX dY dZ k0 k1 k2 k3 k4 k5 k6 k7 k8 k9 kA kB kC kD kE kF kG kH kI kJ kK kL kM kN kO kP kQ (G #[I L x1,T b2,I B x3,I H x4,T b5,T b6,I L x7,I B x8,I B x9,I D x10,I D x11,S A12 n12_ c12_,S A13 n13_ c13_,I D x14,I D x15,I B x16,I H x17,I H x18,I D x19,I D x20,S A21 n21_ c21_,I B x22,I H x23]) (G #[I B x26,I H x27,T b28,T b29,I L x30,I B x31,I B x32,I D x33,I D x34,S A35 n35_ c35_,S A36 n36_ c36_,I L x37,I L x38]) (G #[I L x42,T b43,I B x44,I H x45,T b46,T b47,I L x48,I B x49,I B x50,I D x51,I D x52,S A53 n53_ c53_,S A54 n54_ c54_,I D x55,I D x56,I B x57,I H x58,I H x59,I D x60,I D x61,S A62 n62_ c62_,I B x63,I H x64]) (G #[I B x67,I H x68,T b69,T b70,I L x71,I B x72,I B x73,I D x74,I D x75,S A76 n76_ c76_,S A77 n77_ c77_,I L x78,I L x79]) (G #[I B x83,I H x84,T b85,T b86,I L x87,I B x88,I B x89,I D x90,I D x91,S A92 n92_ c92_,S A93 n93_ c93_,I L x94,I L x95]) (G #[I B x96,I H x97,T b98,T b99,I L x100,I B x101,I B x102,I D x103,I D x104,S A105 n105_ c105_,S A106 n106_ c106_,I L x107,I L x108]) (T b111) (T (!b111)) (T false) (G #[P p112,P p113]) (G #[I L x114,T b115,I B x116,I H x117,T b118,T b119,I L x120,I B x121,I B x122,I D x123,I D x124,S A125 n125_ c125_,S A126 n126_ c126_,I D x127,I D x128,I B x129,I H x130,I H x131,I D x132,I D x133,S A134 n134_ c134_,I B x135,I H x136]) (T b139) (T (!b139)) (T (!b139)) v5 v6 v7 v8 v9 vA vB vC vD vE vF vG vH vI vJ vK vL vM vN vO vP vQ vR vS vT vU vV vW vX vY vZ o0 o1 o2 o3 o4 o5 o6 o7 w137 R)))))))))))))))))))))):=by kernel_rfl
theorem qq6.j4_eq:qq6.j4 m0 Y2 yn2 yc2 Y3 yn3 yc3 yg9 Y11 yn11 yc11 Y12 yn12 yc12 yg13 y14 y15 yg16 yg17 d0 d1 d4 d5 d6 d7 d8 dA dI dJ dK dL dM dN dO dP dQ dR dS dT dU dV dW dX dY dZ k0 k1 k2 k3 k4 k5 k6 k7 k8 k9 kA kB kC kD kE kF kG kH kI kJ kK kL kM kN kO kP kQ kR kS kT kU kV kW kX kY kZ v0 v1 v2 v3 v4 v5 v6 v7 v8 v9 vA vB vC vD vE vF vG vH vI vJ vK vL vM vN vO vP vQ vR vS vT vU vV vW vX vY vZ o0 o1 o2 o3 o4 o5 o6 o7 w R =
(Let (L.wrap (y14+800)) fun x1:Int=>
 ∃ (A2:Option Addr) (n2_ c2_:Nat),w.cell? ⟨yg16,10,N⟩=some (S A2 n2_ c2_)∧
(Let (L.wrap (x1+(n2_:Int))) fun x3:Int=>
 ∃ (A4:Option Addr) (n4_ c4_:Nat),w.cell? ⟨yg16,9,N⟩=some (S A4 n4_ c4_)∧
(Let (L.wrap (x3+(n4_:Int))) fun x5:Int=>
(if decide (x5≤33554432)=true then
(∃ x6 x7:Int,∃ b8 b9:Bool,∃ x10 x11 x12 x13 x14:Int,∃ (A15:Option Addr) (n15_ c15_:Nat),∃ (A16:Option Addr) (n16_ c16_:Nat),∃ x17 x18:Int,(13=13∧At w ⟨yg16,0,N⟩ [I B x6,I H x7,T b8,T b9,I L x10,I B x11,I B x12,I D x13,I D x14,S A15 n15_ c15_,S A16 n16_ c16_,I L x17,I L x18])∧
(Let (w.heap.size) fun g19:Nat=>
 Let (w.alloc (.cells #[I B x6,I H x7,T b8,T b9,I L x10,I B x11,I B x12,I D x13,I D x14,S A15 n15_ c15_,S A16 n16_ c16_,I L x17,I L x18] 51)) fun w20:W=>
 AppE w20 13 96 51 [I B 0,I H 0,T false,T false,I L 0,I B 0,I B 0,I D 0,I D 0,S N 0 0,S N 0 0,I L 0,I L 0] Y11 yn11 yc11 (some ⟨g19,0,N⟩) 1 (fun (A21:Option Addr) (c22:Nat) (w23:W)=>
 ∃ x24 x25:Int,∃ b26 b27:Bool,∃ x28 x29 x30 x31 x32:Int,∃ (A33:Option Addr) (n33_ c33_:Nat),∃ (A34:Option Addr) (n34_ c34_:Nat),∃ x35 x36:Int,(13=13∧At w23 ⟨yg17,0,N⟩ [I B x24,I H x25,T b26,T b27,I L x28,I B x29,I B x30,I D x31,I D x32,S A33 n33_ c33_,S A34 n34_ c34_,I L x35,I L x36])∧
(Let (w23.heap.size) fun g37:Nat=>
 Let (w23.alloc (.cells #[I B x24,I H x25,T b26,T b27,I L x28,I B x29,I B x30,I D x31,I D x32,S A33 n33_ c33_,S A34 n34_ c34_,I L x35,I L x36] 51)) fun w38:W=>
 AppE w38 13 96 51 [I B 0,I H 0,T false,T false,I L 0,I B 0,I B 0,I D 0,I D 0,S N 0 0,S N 0 0,I L 0,I L 0] Y12 yn12 yc12 (some ⟨g37,0,N⟩) 1 (fun (A39:Option Addr) (c40:Nat) (w41:W)=>
 Let (L.wrap (y15+1)) fun x42:Int=>
 qq6.l1 m0 Y2 yn2 yc2 Y3 yn3 yc3 yg9 A21 (yn11+1) c22 A39 (yn12+1) c40 yg13 x5 x42 d0 d1 d4 d5 d6 d7 d8 dA (P (some ⟨yg16,0,N⟩)) (P (some ⟨yg17,0,N⟩)) dI dJ dK dL dM dN dO dP dQ dR dS dT dU dV dW dX dY (I L y15) (I L x42) k1 k2 k3 k4 k5 k6 k7 k8 k9 kA kB kC kD kE kF kG kH kI kJ kK kL kM kN kO kP kQ kR kS kT kU kV kW kX kY kZ v0 v1 v2 v3 v4 (I L y14) (I L x1) (P (some ⟨yg16,0,N⟩)) (P (some ⟨yg16,10,N⟩)) (S A2 n2_ c2_) (I L (n2_:Int)) (I L x3) (P (some ⟨yg16,0,N⟩)) (P (some ⟨yg16,0,N⟩)) (P (some ⟨yg16,9,N⟩)) (S A4 n4_ c4_) (I L (n4_:Int)) (I L x5) (I L x5) (T (decide (x5≤33554432))) (S Y11 yn11 yc11) (G #[I B x6,I H x7,T b8,T b9,I L x10,I B x11,I B x12,I D x13,I D x14,S A15 n15_ c15_,S A16 n16_ c16_,I L x17,I L x18]) (S (some ⟨g19,0,N⟩) 1 1) (S A21 (yn11+1) c22) (S Y12 yn12 yc12) (G #[I B x24,I H x25,T b26,T b27,I L x28,I B x29,I B x30,I D x31,I D x32,S A33 n33_ c33_,S A34 n34_ c34_,I L x35,I L x36]) (S (some ⟨g37,0,N⟩) 1 1) (S A39 (yn12+1) c40) vS vT vU vV vW vX vY vZ o0 o1 o2 o3 o4 o5 o6 o7 w41 R)))))
else
(Let (L.wrap (y15+1)) fun x43:Int=>
 qq6.l1 m0 Y2 yn2 yc2 Y3 yn3 yc3 yg9 Y11 yn11 yc11 Y12 yn12 yc12 yg13 x5 x43 d0 d1 d4 d5 d6 d7 d8 dA (P (some ⟨yg16,0,N⟩)) (P (some ⟨yg17,0,N⟩)) dI dJ dK dL dM dN dO dP dQ dR dS dT dU dV dW dX dY (I L y15) (I L x43) k1 k2 k3 k4 k5 k6 k7 k8 k9 kA kB kC kD kE kF kG kH kI kJ kK kL kM kN kO kP kQ kR kS kT kU kV kW kX kY kZ v0 v1 v2 v3 v4 (I L y14) (I L x1) (P (some ⟨yg16,0,N⟩)) (P (some ⟨yg16,10,N⟩)) (S A2 n2_ c2_) (I L (n2_:Int)) (I L x3) (P (some ⟨yg16,0,N⟩)) (P (some ⟨yg16,0,N⟩)) (P (some ⟨yg16,9,N⟩)) (S A4 n4_ c4_) (I L (n4_:Int)) (I L x5) (I L x5) (T (decide (x5≤33554432))) vK vL vM vN vO vP vQ vR vS vT vU vV vW vX vY vZ o0 o1 o2 o3 o4 o5 o6 o7 w R))))):=by kernel_rfl
def qq6.s (i0 i1:Int) (I2:Option Addr) (in2 ic2:Nat) (I3:Option Addr) (in3 ic3:Nat) (w:W) (R:E):Prop:=
(Calls Tryz.prog 5 #[I H i0,I H i1] w (fun (e2:Ending) (w1:W)=>
 ∃ p3:Option Addr,∃ p4:Option Addr,∃ b5:Bool,e2=.returned (.tuple #[G #[P p3,P p4],T b5])∧
(Let (w1.heap.size) fun g6:Nat=>
 Let (w1.alloc (.cells #[P N,P N] 27)) fun w7:W=>
 May w7 ⟨g6,0,N⟩ 2∧
(Let (putCells w7 ⟨g6,0,N⟩ [P p3,P p4] 0) fun w8:W=>
 Calls Tryz.prog 6 #[] w8 (fun (e10:Ending) (w9:W)=>
 ∃ b11:Bool,e10=.returned (T b11)∧
((if (!b11)=true then
(R (.returned (T false)) w9)
else
((if (!b5)=true then
(R (.returned (T false)) w9)
else
(Leaf (qq6.j1 I2 in2 ic2 I3 in3 ic3 g6 (I H i0) (I H i1) U U U U (T false) (T b5) U U U U U U U U (.tuple #[G #[P p3,P p4],T b5]) (I H i0) (I H i1) (.tuple #[G #[P p3,P p4],T b5]) (G #[P p3,P p4]) (T b5) (T b11) (T (!b11)) (T false) (T b5) (T (!b5)) (T (!b5)) U U U U U U U U U U U U U U U U U U U U U U U U U U U U U U U U U U U U U U U U U U U U U U U U U U U U U U U U U U U U U U U U U U U U U U U U U U U U U U U U U U U U U w9 R)))))))))))
theorem qq6.run (h:qq6.s i0 i1 I2 in2 ic2 I3 in3 ic3 w R):Calls Tryz.prog 4 #[I H i0,I H i1,S I2 in2 ic2,S I3 in3 ic3] w R:=
 calls_segk (ords:=qq6.ords) (J:=qq6.joins) ents mixed Tryz.func4 rfl h (by kernel_rfl)
end Go.Proofs.YtphbdmafchjjeaaGreatDoorS
