/- What runs of the program's functions compute, on a heap of the run's own, and that the machine does what such a run says: the conditions stand in each theorem. -/
import Derived.Test.YtejedmocjdcdgaaProg
import Derived.Test.YtejedmocjdcdgaaMgM3
/- The functions that the law reaches, as tables of steps, and that each table is what the program has. -/
set_option maxRecDepth 100000
namespace Go.Proofs.Ytejedmocjdcdgaa.D
open Go Go.Det

/-- bakelite/bakekeep2.MendGood -/
def xbakekeep2_MendGood : XFunc := .code (.seq (.ops [⟨some 8, .mov (.const (.bool false)), none⟩] [0, 1, 2, 3]) (.seq (.ops [⟨some 15, .mov (.tmp 0), none⟩, ⟨some 16, .call 46 [.tmp 15, .const (.int .i64 128)], none⟩, ⟨some 9, .new 23 1 [.slice none 0 0], none⟩, ⟨none, .st 1 (.tmp 9) (.tmp 16), none⟩] [1, 2, 3, 9]) (.seq (.ops [⟨some 17, .mkf (.func 47) [] [.tmp 9], none⟩, ⟨some 10, .mov (.tmp 17), none⟩] [1, 2, 3, 9, 10]) (.seq (.ops [⟨some 18, .mov (.tmp 1), none⟩, ⟨some 19, .call 14 [.tmp 18, .const (.int .i64 40)], none⟩, ⟨some 20, .mov (.tmp 2), none⟩, ⟨some 21, .call 14 [.tmp 20, .const (.int .i64 40)], none⟩, ⟨some 22, .bin .add (.const (.int .i64 40)) (.tmp 21), none⟩, ⟨some 23, .mov (.tmp 3), none⟩, ⟨some 24, .call 14 [.tmp 23, .const (.int .i64 40)], none⟩, ⟨some 25, .bin .add (.const (.int .i64 80)) (.tmp 24), none⟩, ⟨some 1, .mov (.tmp 19), none⟩, ⟨some 2, .mov (.tmp 22), none⟩, ⟨some 3, .mov (.tmp 25), none⟩] [1, 2, 3, 9, 10]) (.seq (.ops [⟨some 27, .mov (.tmp 10), none⟩, ⟨some 28, .mov (.tmp 1), none⟩, ⟨some 29, .callv (.tmp 27) [.tmp 28, .const (.bool true)], none⟩, ⟨some 30, .bslice 87 4 1 [.int .i64 0, .int .i64 0, .slice none 0 0, .bool false] [(0, .tmp 29)], none⟩, ⟨some 31, .mov (.tmp 10), none⟩, ⟨some 32, .mov (.tmp 2), none⟩, ⟨some 33, .callv (.tmp 31) [.tmp 32, .const (.bool true)], none⟩, ⟨some 34, .bslice 87 4 1 [.int .i64 0, .int .i64 0, .slice none 0 0, .bool false] [(0, .tmp 33)], none⟩, ⟨some 35, .mov (.tmp 10), none⟩, ⟨some 36, .mov (.tmp 3), none⟩, ⟨some 37, .callv (.tmp 35) [.tmp 36, .const (.bool true)], none⟩, ⟨some 38, .bslice 87 4 1 [.int .i64 0, .int .i64 0, .slice none 0 0, .bool false] [(0, .tmp 37)], none⟩, ⟨some 39, .bslice 79 1 3 [.slice none 0 0] [(0, .tmp 30), (1, .tmp 34), (2, .tmp 38)], none⟩, ⟨some 40, .call 48 [.tmp 39], none⟩, ⟨some 26, .mov (.tmp 40), none⟩, ⟨some 41, .ext (.tmp 26) 0, none⟩, ⟨some 42, .ext (.tmp 26) 1, none⟩, ⟨some 11, .mov (.tmp 41), none⟩, ⟨some 12, .mov (.tmp 42), none⟩] [1, 2, 9, 10, 11, 12]) (.seq (.ops [⟨some 44, .mov (.tmp 10), none⟩, ⟨some 45, .mov (.tmp 1), none⟩, ⟨some 46, .callv (.tmp 44) [.tmp 45, .const (.bool true)], none⟩, ⟨some 47, .bslice 87 4 1 [.int .i64 0, .int .i64 0, .slice none 0 0, .bool false] [(0, .tmp 46)], none⟩, ⟨some 48, .mov (.tmp 10), none⟩, ⟨some 49, .mov (.tmp 2), none⟩, ⟨some 50, .callv (.tmp 48) [.tmp 49, .const (.bool false)], none⟩, ⟨some 51, .bslice 87 4 1 [.int .i64 0, .int .i64 0, .slice none 0 0, .bool false] [(0, .tmp 50)], none⟩, ⟨some 52, .bslice 79 1 3 [.slice none 0 0] [(0, .tmp 47), (1, .const (.slice none 0 0)), (2, .tmp 51)], none⟩, ⟨some 53, .call 48 [.tmp 52], none⟩, ⟨some 43, .mov (.tmp 53), none⟩, ⟨some 54, .ext (.tmp 43) 0, none⟩, ⟨some 55, .ext (.tmp 43) 1, none⟩, ⟨some 13, .mov (.tmp 54), none⟩, ⟨some 14, .mov (.tmp 55), none⟩] [9, 11, 12, 13, 14]) (.seq (.seq (.ops [⟨some 56, .mov (.tmp 12), none⟩, ⟨some 57, .bin .neq (.tmp 56) (.const (.int .i64 0)), none⟩, ⟨some 58, .mov (.tmp 57), none⟩, ⟨some 59, .mov (.tmp 14), some (58, false)⟩, ⟨some 60, .bin .neq (.tmp 59) (.const (.int .i64 0)), some (58, false)⟩, ⟨some 61, .pick (.tmp 58) (.const (.bool true)) (.tmp 60), none⟩, ⟨some 62, .mov (.tmp 61), none⟩, ⟨some 63, .mov (.tmp 11), some (62, false)⟩, ⟨some 64, .len (.tmp 63), some (62, false)⟩, ⟨some 65, .bin .neq (.tmp 64) (.const (.int .i64 1)), some (62, false)⟩, ⟨some 66, .pick (.tmp 62) (.const (.bool true)) (.tmp 65), none⟩, ⟨some 67, .mov (.tmp 66), none⟩, ⟨some 68, .mov (.tmp 13), some (67, false)⟩, ⟨some 69, .len (.tmp 68), some (67, false)⟩, ⟨some 70, .bin .neq (.tmp 69) (.const (.int .i64 1)), some (67, false)⟩, ⟨some 71, .pick (.tmp 67) (.const (.bool true)) (.tmp 70), none⟩] [9, 11, 13, 71]) (.cond (.tmp 71) (.seq (.ops [⟨some 8, .mov (.const (.bool false)), none⟩] [8]) .ret) .skip)) (.seq (.dops [.mk ⟨some 72, .mov (.tmp 11), none⟩ [11] 0 [], .mk ⟨some 73, .idxA 7 (.tmp 72) (.const (.int .i64 0)), none⟩ [72] 0 [], .mk ⟨some 74, .fldA 0 (.tmp 73), none⟩ [73] 0 [], .mk ⟨some 75, .fldA 2 (.tmp 74), none⟩ [74] 0 [], .mk ⟨some 76, .ld none (.tmp 75), none⟩ [75] 1 [], .mk ⟨some 77, .ld none (.tmp 9), none⟩ [9] 1 [], .mk ⟨some 78, .call 18 [.tmp 76, .tmp 77], none⟩ [76, 77] 2 [], .mk ⟨some 79, .mov (.tmp 78), none⟩ [78] 0 [], .mk ⟨some 80, .mov (.tmp 11), some (79, true)⟩ [11, 79] 0 [], .mk ⟨some 81, .idxA 7 (.tmp 80) (.const (.int .i64 0)), some (79, true)⟩ [80, 79] 0 [], .mk ⟨some 82, .fldA 0 (.tmp 81), some (79, true)⟩ [81, 79] 0 [], .mk ⟨some 83, .fldA 3 (.tmp 82), some (79, true)⟩ [82, 79] 0 [], .mk ⟨some 84, .ld none (.tmp 83), some (79, true)⟩ [83, 79] 1 [], .mk ⟨some 85, .pick (.tmp 79) (.tmp 84) (.const (.bool false)), none⟩ [79, 84] 0 [], .mk ⟨some 86, .mov (.tmp 85), none⟩ [85] 0 [], .mk ⟨some 87, .mov (.tmp 11), some (86, true)⟩ [11, 86] 0 [], .mk ⟨some 88, .idxA 7 (.tmp 87) (.const (.int .i64 0)), some (86, true)⟩ [87, 86] 0 [], .mk ⟨some 89, .fldA 4 (.tmp 88), some (86, true)⟩ [88, 86] 0 [], .mk ⟨some 90, .ld none (.tmp 89), some (86, true)⟩ [89, 86] 1 [], .mk ⟨some 91, .bin .eql (.tmp 90) (.const (.int .i64 3)), some (86, true)⟩ [90, 86] 0 [], .mk ⟨some 92, .pick (.tmp 86) (.tmp 91) (.const (.bool false)), none⟩ [86, 91] 0 [], .mk ⟨some 93, .mov (.tmp 92), none⟩ [92] 0 [], .mk ⟨some 94, .mov (.tmp 11), some (93, true)⟩ [11, 93] 0 [], .mk ⟨some 95, .idxA 7 (.tmp 94) (.const (.int .i64 0)), some (93, true)⟩ [94, 93] 0 [], .mk ⟨some 96, .fldA 5 (.tmp 95), some (93, true)⟩ [95, 93] 0 [], .mk ⟨some 97, .ld none (.tmp 96), some (93, true)⟩ [96, 93] 1 [], .mk ⟨some 98, .bin .eql (.tmp 97) (.const (.int .i64 0)), some (93, true)⟩ [97, 93] 0 [], .mk ⟨some 99, .pick (.tmp 93) (.tmp 98) (.const (.bool false)), none⟩ [93, 98] 0 [], .mk ⟨some 100, .mov (.tmp 99), none⟩ [99] 0 [], .mk ⟨some 101, .mov (.tmp 11), some (100, true)⟩ [11, 100] 0 [], .mk ⟨some 102, .idxA 7 (.tmp 101) (.const (.int .i64 0)), some (100, true)⟩ [101, 100] 0 [], .mk ⟨some 103, .fldA 6 (.tmp 102), some (100, true)⟩ [102, 100] 0 [], .mk ⟨some 104, .ld none (.tmp 103), some (100, true)⟩ [103, 100] 1 [], .mk ⟨some 105, .bin .eql (.tmp 104) (.const (.int .i64 125)), some (100, true)⟩ [104, 100] 0 [], .mk ⟨some 106, .pick (.tmp 100) (.tmp 105) (.const (.bool false)), none⟩ [100, 105] 0 [], .mk ⟨some 107, .mov (.tmp 106), none⟩ [106] 0 [], .mk ⟨some 108, .mov (.tmp 13), some (107, true)⟩ [13, 107] 0 [], .mk ⟨some 109, .idxA 7 (.tmp 108) (.const (.int .i64 0)), some (107, true)⟩ [108, 107] 0 [], .mk ⟨some 110, .fldA 0 (.tmp 109), some (107, true)⟩ [109, 107] 0 [], .mk ⟨some 111, .fldA 2 (.tmp 110), some (107, true)⟩ [110, 107] 0 [], .mk ⟨some 112, .ld none (.tmp 111), some (107, true)⟩ [111, 107] 1 [], .mk ⟨some 113, .ld none (.tmp 9), some (107, true)⟩ [9, 107] 1 [], .mk ⟨some 114, .call 18 [.tmp 112, .tmp 113], some (107, true)⟩ [112, 113, 107] 2 [], .mk ⟨some 115, .pick (.tmp 107) (.tmp 114) (.const (.bool false)), none⟩ [107, 114] 0 [], .mk ⟨some 116, .mov (.tmp 115), none⟩ [115] 0 [], .mk ⟨some 117, .mov (.tmp 13), some (116, true)⟩ [13, 116] 0 [], .mk ⟨some 118, .idxA 7 (.tmp 117) (.const (.int .i64 0)), some (116, true)⟩ [117, 116] 0 [], .mk ⟨some 119, .fldA 0 (.tmp 118), some (116, true)⟩ [118, 116] 0 [], .mk ⟨some 120, .fldA 3 (.tmp 119), some (116, true)⟩ [119, 116] 0 [], .mk ⟨some 121, .ld none (.tmp 120), some (116, true)⟩ [120, 116] 1 [], .mk ⟨some 122, .flat (.unOp .not 4 (.tmp 121)) 4, some (116, true)⟩ [121, 116] 0 [], .mk ⟨some 123, .pick (.tmp 116) (.tmp 122) (.const (.bool false)), none⟩ [116, 122] 0 [], .mk ⟨some 124, .mov (.tmp 123), none⟩ [123] 0 [], .mk ⟨some 125, .mov (.tmp 13), some (124, true)⟩ [13, 124] 0 [], .mk ⟨some 126, .idxA 7 (.tmp 125) (.const (.int .i64 0)), some (124, true)⟩ [125, 124] 0 [], .mk ⟨some 127, .fldA 4 (.tmp 126), some (124, true)⟩ [126, 124] 0 [], .mk ⟨some 128, .ld none (.tmp 127), some (124, true)⟩ [127, 124] 1 [], .mk ⟨some 129, .bin .eql (.tmp 128) (.const (.int .i64 2)), some (124, true)⟩ [128, 124] 0 [], .mk ⟨some 130, .pick (.tmp 124) (.tmp 129) (.const (.bool false)), none⟩ [124, 129] 0 [], .mk ⟨some 131, .mov (.tmp 130), none⟩ [130] 0 [], .mk ⟨some 132, .mov (.tmp 13), some (131, true)⟩ [13, 131] 0 [], .mk ⟨some 133, .idxA 7 (.tmp 132) (.const (.int .i64 0)), some (131, true)⟩ [132, 131] 0 [], .mk ⟨some 134, .fldA 5 (.tmp 133), some (131, true)⟩ [133, 131] 0 [], .mk ⟨some 135, .ld none (.tmp 134), some (131, true)⟩ [134, 131] 1 [], .mk ⟨some 136, .bin .eql (.tmp 135) (.const (.int .i64 1)), some (131, true)⟩ [135, 131] 0 [], .mk ⟨some 137, .pick (.tmp 131) (.tmp 136) (.const (.bool false)), none⟩ [131, 136] 0 [], .mk ⟨some 138, .mov (.tmp 137), none⟩ [137] 0 [], .mk ⟨some 139, .mov (.tmp 13), some (138, true)⟩ [13, 138] 0 [], .mk ⟨some 140, .idxA 7 (.tmp 139) (.const (.int .i64 0)), some (138, true)⟩ [139, 138] 0 [], .mk ⟨some 141, .fldA 6 (.tmp 140), some (138, true)⟩ [140, 138] 0 [], .mk ⟨some 142, .ld none (.tmp 141), some (138, true)⟩ [141, 138] 1 [], .mk ⟨some 143, .bin .eql (.tmp 142) (.const (.int .i64 127)), some (138, true)⟩ [142, 138] 0 [], .mk ⟨some 144, .pick (.tmp 138) (.tmp 143) (.const (.bool false)), none⟩ [138, 143] 0 [], .mk ⟨some 8, .mov (.tmp 144), none⟩ [144] 0 []] [8]) .ret)))))))) [.tmp 8]
theorem xbakekeep2_MendGood_ok : cFunc Try.prog Try.f9 [[0,1,2,3],[1,2,3,9],[1,2,3,9,10],[1,2,3,9,10],[1,2,9,10,11,12],[9,11,12,13,14],[9,11,13,71],[8],[8]] = some xbakekeep2_MendGood := by kernel_rfl
/-- bakelite/bakemake.Below -/
def xbakemake_Below : XFunc := .code (.seq (.ops [⟨some 4, .mov (.const (.int .i64 0)), none⟩] [0, 1]) (.seq (.seq (.ops [⟨some 5, .mov (.tmp 0), none⟩, ⟨some 6, .mov (.tmp 1), none⟩, ⟨some 7, .bin .rem (.tmp 5) (.tmp 6), none⟩, ⟨some 0, .mov (.tmp 7), none⟩] [0, 1]) (.seq (.ops [⟨some 8, .mov (.tmp 0), none⟩, ⟨some 9, .bin .lss (.tmp 8) (.const (.int .i64 0)), none⟩] [0, 1, 9]) (.cond (.tmp 9) (.ops [⟨some 10, .mov (.tmp 0), none⟩, ⟨some 11, .mov (.tmp 1), none⟩, ⟨some 12, .bin .add (.tmp 10) (.tmp 11), none⟩, ⟨some 0, .mov (.tmp 12), none⟩] [0]) .skip))) (.seq (.ops [⟨some 13, .mov (.tmp 0), none⟩, ⟨some 4, .mov (.tmp 13), none⟩] [4]) .ret))) [.tmp 4]
theorem xbakemake_Below_ok : cFunc Try.prog Try.f14 [[0,1],[0,1],[0,1,9],[0],[4]] = some xbakemake_Below := by kernel_rfl
def xslices_Equal_Sbyte_byte_l0 : XCode := .seq (.ops [⟨some 14, .bin .lss (.tmp 13) (.tmp 12), none⟩] [0, 1, 12, 13, 14]) (.seq (.cond (.tmp 14) .skip (.exit 0)) (.seq (.block 1 (.seq (.ops [⟨some 15, .mov (.tmp 13), none⟩, ⟨some 5, .mov (.tmp 15), none⟩] [0, 1, 5, 12, 13]) (.seq (.dops [.mk ⟨some 16, .mov (.tmp 0), none⟩ [0] 0 [], .mk ⟨some 17, .mov (.tmp 5), none⟩ [5] 0 [], .mk ⟨some 18, .idxA 1 (.tmp 16) (.tmp 17), none⟩ [16, 17] 0 [], .mk ⟨some 19, .ld none (.tmp 18), none⟩ [18] 1 [], .mk ⟨some 20, .mov (.tmp 1), none⟩ [1] 0 [], .mk ⟨some 21, .mov (.tmp 5), none⟩ [5] 0 [], .mk ⟨some 22, .idxA 1 (.tmp 20) (.tmp 21), none⟩ [20, 21] 0 [], .mk ⟨some 23, .ld none (.tmp 22), none⟩ [22] 1 [], .mk ⟨some 24, .bin .neq (.tmp 19) (.tmp 23), none⟩ [19, 23] 0 []] [0, 1, 12, 13, 24]) (.cond (.tmp 24) (.seq (.ops [⟨some 4, .mov (.const (.bool false)), none⟩] [4]) .ret) .skip)))) (.ops [⟨some 25, .bin .add (.tmp 13) (.const (.int .i64 1)), none⟩, ⟨some 13, .mov (.tmp 25), none⟩] [0, 1, 12, 13])))
/-- slices.Equal[[]byte,byte] -/
def xslices_Equal_Sbyte_byte : XFunc := .code (.seq (.ops [⟨some 4, .mov (.const (.bool false)), none⟩] [0, 1]) (.seq (.seq (.ops [⟨some 6, .mov (.tmp 0), none⟩, ⟨some 7, .len (.tmp 6), none⟩, ⟨some 8, .mov (.tmp 1), none⟩, ⟨some 9, .len (.tmp 8), none⟩, ⟨some 10, .bin .neq (.tmp 7) (.tmp 9), none⟩] [0, 1, 10]) (.cond (.tmp 10) (.seq (.ops [⟨some 4, .mov (.const (.bool false)), none⟩] [4]) .ret) .skip)) (.seq (.seq (.ops [⟨some 11, .mov (.tmp 0), none⟩, ⟨some 12, .len (.tmp 11), none⟩, ⟨some 13, .mov (.const (.int .i64 0)), none⟩] [0, 1, 12, 13]) (.block 0 (.loop xslices_Equal_Sbyte_byte_l0))) (.seq (.ops [⟨some 4, .mov (.const (.bool true)), none⟩] [4]) .ret)))) [.tmp 4]
theorem xslices_Equal_Sbyte_byte_ok : cFunc Try.prog Try.f18 [[0,1],[0,1,10],[4],[0,1,12,13],[0,1,12,13,14],[0,1,5,12,13],[0,1,12,13,24],[4],[0,1,12,13],[4]] = some xslices_Equal_Sbyte_byte := by kernel_rfl
/-- slices.Clone[[]byte,byte] -/
def xslices_Clone_Sbyte_byte : XFunc := .code (.seq (.ops [⟨some 2, .mov (.const (.slice none 0 0)), none⟩] [0]) (.seq (.seq (.ops [⟨some 3, .mov (.tmp 0), none⟩, ⟨some 4, .isnil false (.slice none 0 0) (.tmp 3), none⟩] [0, 4]) (.cond (.tmp 4) (.seq (.ops [⟨some 2, .mov (.const (.slice none 0 0)), none⟩] [2]) .ret) .skip)) (.seq (.ops [⟨some 5, .bslice 5 1 0 [.int .u8 0] [], none⟩, ⟨some 6, .mov (.tmp 0), none⟩, ⟨some 7, .app 5 1 1 [.int .u8 0] (.tmp 5) (.tmp 6), none⟩, ⟨some 2, .mov (.tmp 7), none⟩] [2]) .ret))) [.tmp 2]
theorem xslices_Clone_Sbyte_byte_ok : cFunc Try.prog Try.f36 [[0],[0,4],[2],[2]] = some xslices_Clone_Sbyte_byte := by kernel_rfl
def xbakemake_Bytes_l0 : XCode := .seq (.ops [⟨some 17, .bin .lss (.tmp 16) (.tmp 15), none⟩] [5, 6, 15, 16, 17]) (.seq (.cond (.tmp 17) .skip (.exit 0)) (.seq (.block 1 (.seq (.ops [⟨some 18, .mov (.tmp 16), none⟩, ⟨some 7, .mov (.tmp 18), none⟩] [5, 6, 7, 15, 16]) (.ops [⟨some 19, .mov (.tmp 6), none⟩, ⟨some 20, .mov (.tmp 7), none⟩, ⟨some 21, .mov (.tmp 5), none⟩, ⟨some 22, .call 67 [.tmp 21, .const (.int .i64 256)], none⟩, ⟨some 23, .conv .u8 (.tmp 22), none⟩, ⟨some 24, .idxA 1 (.tmp 19) (.tmp 20), none⟩, ⟨none, .st 1 (.tmp 24) (.tmp 23), none⟩] [5, 6, 15, 16]))) (.ops [⟨some 25, .bin .add (.tmp 16) (.const (.int .i64 1)), none⟩, ⟨some 16, .mov (.tmp 25), none⟩] [5, 6, 15, 16])))
/-- bakelite/bakemake.Bytes -/
def xbakemake_Bytes : XFunc := .code (.seq (.ops [⟨some 4, .mov (.const (.slice none 0 0)), none⟩] [0, 1]) (.seq (.ops [⟨some 8, .mov (.tmp 0), none⟩, ⟨some 9, .build [.slice none 0 0] [(0, 1, .tmp 8)], none⟩, ⟨some 10, .box 124 1 (.tmp 9), none⟩, ⟨some 5, .mov (.tmp 10), none⟩] [1, 5]) (.seq (.ops [⟨some 11, .mov (.tmp 1), none⟩, ⟨some 12, .flat (.call (.mk (.builtin .max) #[.const (.int .i64 0), .tmp 11] #[3, 3])) 3, none⟩, ⟨some 13, .mks 5 1 1 [.int .u8 0] (.tmp 12) (.tmp 12), none⟩, ⟨some 6, .mov (.tmp 13), none⟩] [5, 6]) (.seq (.seq (.ops [⟨some 14, .mov (.tmp 6), none⟩, ⟨some 15, .len (.tmp 14), none⟩, ⟨some 16, .mov (.const (.int .i64 0)), none⟩] [5, 6, 15, 16]) (.block 0 (.loop xbakemake_Bytes_l0))) (.seq (.ops [⟨some 26, .mov (.tmp 6), none⟩, ⟨some 4, .mov (.tmp 26), none⟩] [4]) .ret))))) [.tmp 4]
theorem xbakemake_Bytes_ok : cFunc Try.prog Try.f46 [[0,1],[1,5],[5,6],[5,6,15,16],[5,6,15,16,17],[5,6,7,15,16],[5,6,15,16],[5,6,15,16],[4]] = some xbakemake_Bytes := by kernel_rfl
/-- bakelite/bakekeep2.MendGood$1 -/
def xbakekeep2_MendGood_1 : XFunc := .code (.seq (.ops [⟨some 5, .new 87 1 [.int .i64 0, .int .i64 0, .slice none 0 0, .bool false], none⟩] [0, 1, 2, 5]) (.seq (.ops [⟨some 7, .mov (.tmp 1), none⟩, ⟨some 8, .ld none (.tmp 2), none⟩, ⟨some 9, .call 36 [.tmp 8], none⟩, ⟨some 10, .build [.int .i64 0, .int .i64 0, .slice none 0 0, .bool false] [(0, 1, .const (.int .i64 1)), (1, 1, .const (.int .i64 2)), (3, 1, .tmp 7), (2, 1, .tmp 9)], none⟩, ⟨some 6, .new 87 1 [.int .i64 0, .int .i64 0, .slice none 0 0, .bool false], none⟩, ⟨none, .st 4 (.tmp 6) (.tmp 10), none⟩] [0, 1, 5, 6]) (.seq (.seq (.ops [⟨some 11, .mov (.tmp 1), none⟩] [0, 5, 6, 11]) (.cond (.tmp 11) (.ops [⟨some 12, .fldA 2 (.tmp 6), none⟩, ⟨some 13, .ld none (.tmp 12), none⟩, ⟨some 14, .mov (.tmp 0), none⟩, ⟨some 15, .idxA 1 (.tmp 13) (.tmp 14), none⟩, ⟨some 16, .ld none (.tmp 15), none⟩, ⟨some 17, .bin .xor (.tmp 16) (.const (.int .u8 255)), none⟩, ⟨some 18, .idxA 1 (.tmp 13) (.tmp 14), none⟩, ⟨none, .st 1 (.tmp 18) (.tmp 17), none⟩] [5, 6]) .skip)) (.seq (.ops [⟨some 19, .ld (some 4) (.tmp 6), none⟩, ⟨none, .st 4 (.tmp 5) (.tmp 19), none⟩] [5]) .ret)))) [.cell 5 (some 4)]
theorem xbakekeep2_MendGood_1_ok : cFunc Try.prog Try.f47 [[0,1,2,5],[0,1,5,6],[0,5,6,11],[5,6],[5]] = some xbakekeep2_MendGood_1 := by kernel_rfl
def xmend_Join_l0 : XCode := .seq (.seq (.dops [.mk ⟨some 23, .mov (.tmp 8), none⟩ [8] 0 [], .mk ⟨some 24, .mov (.tmp 5), none⟩ [5] 0 [], .mk ⟨some 25, .len (.tmp 24), none⟩ [24] 0 [], .mk ⟨some 26, .bin .lss (.tmp 23) (.tmp 25), none⟩ [23, 25] 0 [], .mk ⟨some 27, .mov (.tmp 26), none⟩ [26] 0 [], .mk ⟨some 28, .mov (.tmp 5), some (27, true)⟩ [5, 27] 0 [], .mk ⟨some 29, .mov (.tmp 8), some (27, true)⟩ [8, 27] 0 [], .mk ⟨some 30, .idxA 4 (.tmp 28) (.tmp 29), some (27, true)⟩ [28, 29, 27] 0 [], .mk ⟨some 31, .fldA 0 (.tmp 30), some (27, true)⟩ [30, 27] 0 [], .mk ⟨some 32, .ld none (.tmp 31), some (27, true)⟩ [31, 27] 1 [], .mk ⟨some 33, .mov (.tmp 5), some (27, true)⟩ [5, 27] 0 [], .mk ⟨some 34, .mov (.tmp 7), some (27, true)⟩ [7, 27] 0 [], .mk ⟨some 35, .idxA 4 (.tmp 33) (.tmp 34), some (27, true)⟩ [33, 34, 27] 0 [], .mk ⟨some 36, .fldA 0 (.tmp 35), some (27, true)⟩ [35, 27] 0 [], .mk ⟨some 37, .ld none (.tmp 36), some (27, true)⟩ [36, 27] 1 [], .mk ⟨some 38, .bin .eql (.tmp 32) (.tmp 37), some (27, true)⟩ [32, 37, 27] 0 [], .mk ⟨some 39, .pick (.tmp 27) (.tmp 38) (.const (.bool false)), none⟩ [27, 38] 0 [], .mk ⟨some 40, .mov (.tmp 39), none⟩ [39] 0 [], .mk ⟨some 41, .mov (.tmp 5), some (40, true)⟩ [5, 40] 0 [], .mk ⟨some 42, .mov (.tmp 8), some (40, true)⟩ [8, 40] 0 [], .mk ⟨some 43, .idxA 4 (.tmp 41) (.tmp 42), some (40, true)⟩ [41, 42, 40] 0 [], .mk ⟨some 44, .fldA 1 (.tmp 43), some (40, true)⟩ [43, 40] 0 [], .mk ⟨some 45, .ld none (.tmp 44), some (40, true)⟩ [44, 40] 1 [], .mk ⟨some 46, .mov (.tmp 5), some (40, true)⟩ [5, 40] 0 [], .mk ⟨some 47, .mov (.tmp 7), some (40, true)⟩ [7, 40] 0 [], .mk ⟨some 48, .idxA 4 (.tmp 46) (.tmp 47), some (40, true)⟩ [46, 47, 40] 0 [], .mk ⟨some 49, .fldA 1 (.tmp 48), some (40, true)⟩ [48, 40] 0 [], .mk ⟨some 50, .ld none (.tmp 49), some (40, true)⟩ [49, 40] 1 [], .mk ⟨some 51, .bin .eql (.tmp 45) (.tmp 50), some (40, true)⟩ [45, 50, 40] 0 [], .mk ⟨some 52, .pick (.tmp 40) (.tmp 51) (.const (.bool false)), none⟩ [40, 51] 0 []] [5, 6, 7, 8, 52]) (.cond (.tmp 52) .skip (.exit 2))) (.block 3 (.ops [⟨some 53, .mov (.tmp 8), none⟩, ⟨some 54, .bin .add (.tmp 53) (.const (.int .i64 1)), none⟩, ⟨some 8, .mov (.tmp 54), none⟩] [5, 6, 7, 8]))
def xmend_Join_l1 : XCode := .seq (.seq (.ops [⟨some 18, .mov (.tmp 7), none⟩, ⟨some 19, .mov (.tmp 5), none⟩, ⟨some 20, .len (.tmp 19), none⟩, ⟨some 21, .bin .lss (.tmp 18) (.tmp 20), none⟩] [5, 6, 7, 21]) (.cond (.tmp 21) .skip (.exit 0))) (.block 1 (.seq (.ops [⟨some 22, .mov (.tmp 7), none⟩, ⟨some 8, .mov (.tmp 22), none⟩] [5, 6, 7, 8]) (.seq (.block 2 (.loop xmend_Join_l0)) (.ops [⟨some 55, .mov (.tmp 6), none⟩, ⟨some 56, .mov (.tmp 5), none⟩, ⟨some 57, .mov (.tmp 7), none⟩, ⟨some 58, .mov (.tmp 8), none⟩, ⟨some 59, .slc 4 (.tmp 56) (some (.tmp 57)) (some (.tmp 58)) none, none⟩, ⟨some 60, .call 102 [.tmp 59], none⟩, ⟨some 61, .bslice 94 7 1 [.int .i64 0, .int .i64 0, .slice none 0 0, .bool false, .int .i64 0, .int .i64 0, .int .i64 0] [(0, .tmp 60)], none⟩, ⟨some 62, .app 94 7 72 [.int .i64 0, .int .i64 0, .slice none 0 0, .bool false, .int .i64 0, .int .i64 0, .int .i64 0] (.tmp 55) (.tmp 61), none⟩, ⟨some 63, .mov (.tmp 8), none⟩, ⟨some 6, .mov (.tmp 62), none⟩, ⟨some 7, .mov (.tmp 63), none⟩] [5, 6, 7]))))
/-- bakelite/mend.Join -/
def xmend_Join : XFunc := .code (.seq (.ops [⟨some 2, .mov (.const (.slice none 0 0)), none⟩, ⟨some 3, .mov (.const (.int .i64 0)), none⟩] [0]) (.seq (.seq (.ops [⟨some 9, .mov (.tmp 0), none⟩, ⟨some 10, .call 96 [.tmp 9], none⟩, ⟨some 4, .mov (.tmp 10), none⟩] [0, 4]) (.seq (.ops [⟨some 11, .mov (.tmp 4), none⟩, ⟨some 12, .bin .neq (.tmp 11) (.const (.int .i64 0)), none⟩] [0, 4, 12]) (.cond (.tmp 12) (.seq (.ops [⟨some 13, .mov (.tmp 4), none⟩, ⟨some 2, .mov (.const (.slice none 0 0)), none⟩, ⟨some 3, .mov (.tmp 13), none⟩] [2, 3]) .ret) .skip))) (.seq (.ops [⟨some 14, .mov (.tmp 0), none⟩, ⟨some 15, .call 97 [.tmp 14], none⟩, ⟨some 5, .mov (.tmp 15), none⟩] [5]) (.seq (.ops [⟨some 16, .mov (.tmp 5), none⟩, ⟨some 17, .call 98 [.tmp 16, .func 99], none⟩] [5]) (.seq (.ops [⟨some 6, .mov (.const (.slice none 0 0)), none⟩] [5, 6]) (.seq (.seq (.ops [⟨some 7, .mov (.const (.int .i64 0)), none⟩] [5, 6, 7]) (.block 0 (.loop xmend_Join_l1))) (.seq (.ops [⟨some 64, .mov (.tmp 6), none⟩, ⟨some 2, .mov (.tmp 64), none⟩, ⟨some 3, .mov (.const (.int .i64 0)), none⟩] [2, 3]) .ret))))))) [.tmp 2, .tmp 3]
theorem xmend_Join_ok : cFunc Try.prog Try.f48 [[0],[0,4],[0,4,12],[2,3],[5],[5],[5,6],[5,6,7],[5,6,7,21],[5,6,7,8],[5,6,7,8,52],[5,6,7,8],[5,6,7],[2,3]] = some xmend_Join := by kernel_rfl
/-- (*bakelite/bakemake.Stream).Next -/
def xbakemake_Stream_Next : XFunc := .code (.seq (.ops [⟨some 4, .mov (.const (.int .i64 0)), none⟩] [0, 1]) (.seq (.seq (.ops [⟨some 6, .mov (.tmp 1), none⟩, ⟨some 7, .bin .lss (.tmp 6) (.const (.int .i64 1)), none⟩, ⟨some 8, .mov (.tmp 7), none⟩, ⟨some 9, .mov (.tmp 0), some (8, false)⟩, ⟨some 10, .nilck (.tmp 9), some (8, false)⟩, ⟨some 11, .fldA 0 (.tmp 10), some (8, false)⟩, ⟨some 12, .ld none (.tmp 11), some (8, false)⟩, ⟨some 13, .len (.tmp 12), some (8, false)⟩, ⟨some 14, .bin .eql (.tmp 13) (.const (.int .i64 0)), some (8, false)⟩, ⟨some 15, .pick (.tmp 8) (.const (.bool true)) (.tmp 14), none⟩] [0, 1, 15]) (.cond (.tmp 15) (.seq (.ops [⟨some 4, .mov (.const (.int .i64 0)), none⟩] [4]) .ret) .skip)) (.seq (.ops [⟨some 16, .mov (.tmp 0), none⟩, ⟨some 17, .nilck (.tmp 16), none⟩, ⟨some 18, .fldA 0 (.tmp 17), none⟩, ⟨some 19, .ld none (.tmp 18), none⟩, ⟨some 20, .idxA 1 (.tmp 19) (.const (.int .i64 0)), none⟩, ⟨some 21, .ld none (.tmp 20), none⟩, ⟨some 5, .mov (.tmp 21), none⟩] [0, 1, 5]) (.seq (.ops [⟨some 22, .mov (.tmp 0), none⟩, ⟨some 23, .mov (.tmp 0), none⟩, ⟨some 24, .nilck (.tmp 23), none⟩, ⟨some 25, .fldA 0 (.tmp 24), none⟩, ⟨some 26, .ld none (.tmp 25), none⟩, ⟨some 27, .slc 1 (.tmp 26) (some (.const (.int .i64 1))) none none, none⟩, ⟨some 28, .nilck (.tmp 22), none⟩, ⟨some 29, .fldA 0 (.tmp 28), none⟩, ⟨none, .st 1 (.tmp 29) (.tmp 27), none⟩] [1, 5]) (.seq (.ops [⟨some 30, .mov (.tmp 5), none⟩, ⟨some 31, .mov (.tmp 1), none⟩, ⟨some 32, .call 14 [.tmp 30, .tmp 31], none⟩, ⟨some 4, .mov (.tmp 32), none⟩] [4]) .ret))))) [.tmp 4]
theorem xbakemake_Stream_Next_ok : cFunc Try.prog Try.f67 [[0,1],[0,1,15],[4],[0,1,5],[1,5],[4]] = some xbakemake_Stream_Next := by kernel_rfl
def xmend_Check_l0 : XCode := .seq (.ops [⟨some 22, .bin .lss (.tmp 21) (.tmp 20), none⟩] [10, 11, 12, 19, 20, 21, 22]) (.seq (.cond (.tmp 22) .skip (.exit 2)) (.seq (.block 3 (.seq (.ops [⟨some 23, .idxA 4 (.tmp 19) (.tmp 21), none⟩, ⟨some 24, .ld (some 4) (.tmp 23), none⟩, ⟨some 6, .new 87 1 [.int .i64 0, .int .i64 0, .slice none 0 0, .bool false], none⟩, ⟨none, .st 4 (.tmp 6) (.tmp 24), none⟩] [6, 10, 11, 12, 19, 20, 21]) (.seq (.ops [⟨some 25, .fldA 2 (.tmp 6), none⟩, ⟨some 26, .ld none (.tmp 25), none⟩, ⟨some 27, .len (.tmp 26), none⟩, ⟨some 28, .bin .neq (.tmp 27) (.const (.int .i64 128)), none⟩] [10, 11, 12, 19, 20, 21, 28]) (.cond (.tmp 28) (.seq (.ops [⟨some 2, .mov (.const (.int .i64 3)), none⟩] [2]) .ret) .skip)))) (.ops [⟨some 29, .bin .add (.tmp 21) (.const (.int .i64 1)), none⟩, ⟨some 21, .mov (.tmp 29), none⟩] [10, 11, 12, 19, 20, 21])))
def xmend_Check_l1 : XCode := .seq (.ops [⟨some 13, .bin .lss (.tmp 12) (.tmp 11), none⟩] [10, 11, 12, 13]) (.seq (.cond (.tmp 13) .skip (.exit 0)) (.seq (.block 1 (.seq (.ops [⟨some 14, .idxA 1 (.tmp 10) (.tmp 12), none⟩, ⟨some 15, .ld none (.tmp 14), none⟩, ⟨some 4, .mov (.tmp 15), none⟩] [4, 10, 11, 12]) (.seq (.seq (.ops [⟨some 16, .mov (.tmp 4), none⟩, ⟨some 17, .len (.tmp 16), none⟩, ⟨some 18, .bin .gtr (.tmp 17) (.const (.int .i64 12)), none⟩] [4, 10, 11, 12, 18]) (.cond (.tmp 18) (.seq (.ops [⟨some 2, .mov (.const (.int .i64 2)), none⟩] [2]) .ret) .skip)) (.seq (.ops [⟨some 19, .mov (.tmp 4), none⟩, ⟨some 20, .len (.tmp 19), none⟩, ⟨some 21, .mov (.const (.int .i64 0)), none⟩] [10, 11, 12, 19, 20, 21]) (.block 2 (.loop xmend_Check_l0)))))) (.ops [⟨some 30, .bin .add (.tmp 12) (.const (.int .i64 1)), none⟩, ⟨some 12, .mov (.tmp 30), none⟩] [10, 11, 12])))
/-- bakelite/mend.Check -/
def xmend_Check : XFunc := .code (.seq (.ops [⟨some 2, .mov (.const (.int .i64 0)), none⟩] [0]) (.seq (.seq (.ops [⟨some 7, .mov (.tmp 0), none⟩, ⟨some 8, .len (.tmp 7), none⟩, ⟨some 9, .bin .gtr (.tmp 8) (.const (.int .i64 20)), none⟩] [0, 9]) (.cond (.tmp 9) (.seq (.ops [⟨some 2, .mov (.const (.int .i64 2)), none⟩] [2]) .ret) .skip)) (.seq (.seq (.ops [⟨some 10, .mov (.tmp 0), none⟩, ⟨some 11, .len (.tmp 10), none⟩, ⟨some 12, .mov (.const (.int .i64 0)), none⟩] [10, 11, 12]) (.block 0 (.loop xmend_Check_l1))) (.seq (.ops [⟨some 2, .mov (.const (.int .i64 0)), none⟩] [2]) .ret)))) [.tmp 2]
theorem xmend_Check_ok : cFunc Try.prog Try.f96 [[0],[0,9],[2],[10,11,12],[10,11,12,13],[4,10,11,12],[4,10,11,12,18],[2],[10,11,12,19,20,21],[10,11,12,19,20,21,22],[6,10,11,12,19,20,21],[10,11,12,19,20,21,28],[2],[10,11,12,19,20,21],[10,11,12],[2]] = some xmend_Check := by kernel_rfl
def xslices_Concat_Sapi_SectorData_api_SectorData_l0 : XCode := .seq (.ops [⟨some 12, .bin .lss (.tmp 11) (.tmp 10), none⟩] [0, 3, 9, 10, 11, 12]) (.seq (.cond (.tmp 12) .skip (.exit 0)) (.seq (.block 1 (.seq (.ops [⟨some 13, .idxA 1 (.tmp 9) (.tmp 11), none⟩, ⟨some 14, .ld none (.tmp 13), none⟩, ⟨some 5, .mov (.tmp 14), none⟩] [0, 3, 5, 9, 10, 11]) (.seq (.ops [⟨some 15, .mov (.tmp 3), none⟩, ⟨some 16, .mov (.tmp 5), none⟩, ⟨some 17, .len (.tmp 16), none⟩, ⟨some 18, .bin .add (.tmp 15) (.tmp 17), none⟩, ⟨some 3, .mov (.tmp 18), none⟩] [0, 3, 9, 10, 11]) (.seq (.ops [⟨some 19, .mov (.tmp 3), none⟩, ⟨some 20, .bin .lss (.tmp 19) (.const (.int .i64 0)), none⟩] [0, 3, 9, 10, 11, 20]) (.cond (.tmp 20) (.ops [⟨some 21, .mkI 9 (.const (.string (ByteArray.mk #[108, 101, 110, 32, 111, 117, 116, 32, 111, 102, 32, 114, 97, 110, 103, 101]))), none⟩, ⟨none, .ext (.const (.bool false)) 0, none⟩] [0, 3, 9, 10, 11]) .skip))))) (.ops [⟨some 22, .bin .add (.tmp 11) (.const (.int .i64 1)), none⟩, ⟨some 11, .mov (.tmp 22), none⟩] [0, 3, 9, 10, 11])))
def xslices_Concat_Sapi_SectorData_api_SectorData_l1 : XCode := .seq (.ops [⟨some 28, .bin .lss (.tmp 27) (.tmp 26), none⟩] [6, 25, 26, 27, 28]) (.seq (.cond (.tmp 28) .skip (.exit 2)) (.seq (.block 3 (.seq (.ops [⟨some 29, .idxA 1 (.tmp 25) (.tmp 27), none⟩, ⟨some 30, .ld none (.tmp 29), none⟩, ⟨some 8, .mov (.tmp 30), none⟩] [6, 8, 25, 26, 27]) (.ops [⟨some 31, .mov (.tmp 6), none⟩, ⟨some 32, .mov (.tmp 8), none⟩, ⟨some 33, .app 87 4 48 [.int .i64 0, .int .i64 0, .slice none 0 0, .bool false] (.tmp 31) (.tmp 32), none⟩, ⟨some 6, .mov (.tmp 33), none⟩] [6, 25, 26, 27]))) (.ops [⟨some 34, .bin .add (.tmp 27) (.const (.int .i64 1)), none⟩, ⟨some 27, .mov (.tmp 34), none⟩] [6, 25, 26, 27])))
/-- slices.Concat[[]bakelite/api.SectorData,bakelite/api.SectorData] -/
def xslices_Concat_Sapi_SectorData_api_SectorData : XFunc := .code (.seq (.ops [⟨some 2, .mov (.const (.slice none 0 0)), none⟩] [0]) (.seq (.ops [⟨some 3, .mov (.const (.int .i64 0)), none⟩] [0, 3]) (.seq (.seq (.ops [⟨some 9, .mov (.tmp 0), none⟩, ⟨some 10, .len (.tmp 9), none⟩, ⟨some 11, .mov (.const (.int .i64 0)), none⟩] [0, 3, 9, 10, 11]) (.block 0 (.loop xslices_Concat_Sapi_SectorData_api_SectorData_l0))) (.seq (.ops [⟨some 23, .mov (.tmp 3), none⟩, ⟨some 24, .call 128 [.const (.slice none 0 0), .tmp 23], none⟩, ⟨some 6, .mov (.tmp 24), none⟩] [0, 6]) (.seq (.seq (.ops [⟨some 25, .mov (.tmp 0), none⟩, ⟨some 26, .len (.tmp 25), none⟩, ⟨some 27, .mov (.const (.int .i64 0)), none⟩] [6, 25, 26, 27]) (.block 2 (.loop xslices_Concat_Sapi_SectorData_api_SectorData_l1))) (.seq (.ops [⟨some 35, .mov (.tmp 6), none⟩, ⟨some 2, .mov (.tmp 35), none⟩] [2]) .ret)))))) [.tmp 2]
theorem xslices_Concat_Sapi_SectorData_api_SectorData_ok : cFunc Try.prog Try.f97 [[0],[0,3],[0,3,9,10,11],[0,3,9,10,11,12],[0,3,5,9,10,11],[0,3,9,10,11],[0,3,9,10,11,20],[0,3,9,10,11],[0,3,9,10,11],[0,6],[6,25,26,27],[6,25,26,27,28],[6,8,25,26,27],[6,25,26,27],[6,25,26,27],[2]] = some xslices_Concat_Sapi_SectorData_api_SectorData := by kernel_rfl
/-- slices.SortStableFunc[[]bakelite/api.SectorData,bakelite/api.SectorData] -/
def xslices_SortStableFunc_Sapi_SectorData_api_SectorData : XFunc := .code (.ops [⟨some 4, .mov (.tmp 0), none⟩, ⟨some 5, .mov (.tmp 0), none⟩, ⟨some 6, .len (.tmp 5), none⟩, ⟨some 7, .mov (.tmp 1), none⟩, ⟨some 8, .call 129 [.tmp 4, .tmp 6, .tmp 7], none⟩] []) []
theorem xslices_SortStableFunc_Sapi_SectorData_api_SectorData_ok : cFunc Try.prog Try.f98 [[]] = some xslices_SortStableFunc_Sapi_SectorData_api_SectorData := by kernel_rfl
/-- bakelite/mend.Join$1 -/
def xmend_Join_1 : XFunc := .code (.seq (.ops [⟨some 2, .box 87 1 (.tmp 0), none⟩, ⟨some 3, .box 87 1 (.tmp 1), none⟩, ⟨some 4, .mov (.const (.int .i64 0)), none⟩] [2, 3]) (.seq (.dops [.mk ⟨some 5, .fldA 0 (.tmp 2), none⟩ [2] 0 [], .mk ⟨some 6, .ld none (.tmp 5), none⟩ [5] 1 [], .mk ⟨some 7, .fldA 0 (.tmp 3), none⟩ [3] 0 [], .mk ⟨some 8, .ld none (.tmp 7), none⟩ [7] 1 [], .mk ⟨some 9, .call 101 [.tmp 6, .tmp 8], none⟩ [6, 8] 2 [], .mk ⟨some 10, .fldA 1 (.tmp 2), none⟩ [2] 0 [], .mk ⟨some 11, .ld none (.tmp 10), none⟩ [10] 1 [0], .mk ⟨some 12, .fldA 1 (.tmp 3), none⟩ [3] 0 [], .mk ⟨some 13, .ld none (.tmp 12), none⟩ [12] 1 [0], .mk ⟨some 14, .call 101 [.tmp 11, .tmp 13], none⟩ [11, 13] 2 [], .mk ⟨some 15, .bslice 3 1 2 [.int .i64 0] [(0, .tmp 9), (1, .tmp 14)], none⟩ [9, 14] 2 [], .mk ⟨some 16, .call 100 [.tmp 15], none⟩ [15] 2 [], .mk ⟨some 4, .mov (.tmp 16), none⟩ [16] 0 []] [4]) .ret)) [.tmp 4]
theorem xmend_Join_1_ok : cFunc Try.prog Try.f99 [[2,3],[4]] = some xmend_Join_1 := by kernel_rfl
def xcmp_Or_int_l0 : XCode := .seq (.ops [⟨some 9, .bin .lss (.tmp 8) (.tmp 7), none⟩] [3, 6, 7, 8, 9]) (.seq (.cond (.tmp 9) .skip (.exit 0)) (.seq (.block 1 (.seq (.ops [⟨some 10, .idxA 1 (.tmp 6) (.tmp 8), none⟩, ⟨some 11, .ld none (.tmp 10), none⟩, ⟨some 5, .mov (.tmp 11), none⟩] [3, 5, 6, 7, 8]) (.seq (.ops [⟨some 12, .mov (.tmp 5), none⟩, ⟨some 13, .mov (.tmp 3), none⟩, ⟨some 14, .bin .neq (.tmp 12) (.tmp 13), none⟩] [3, 5, 6, 7, 8, 14]) (.cond (.tmp 14) (.seq (.ops [⟨some 15, .mov (.tmp 5), none⟩, ⟨some 2, .mov (.tmp 15), none⟩] [2]) .ret) .skip)))) (.ops [⟨some 16, .bin .add (.tmp 8) (.const (.int .i64 1)), none⟩, ⟨some 8, .mov (.tmp 16), none⟩] [3, 6, 7, 8])))
/-- cmp.Or[int] -/
def xcmp_Or_int : XFunc := .code (.seq (.ops [⟨some 2, .mov (.const (.int .i64 0)), none⟩] [0]) (.seq (.ops [⟨some 3, .mov (.const (.int .i64 0)), none⟩] [0, 3]) (.seq (.seq (.ops [⟨some 6, .mov (.tmp 0), none⟩, ⟨some 7, .len (.tmp 6), none⟩, ⟨some 8, .mov (.const (.int .i64 0)), none⟩] [3, 6, 7, 8]) (.block 0 (.loop xcmp_Or_int_l0))) (.seq (.ops [⟨some 17, .mov (.tmp 3), none⟩, ⟨some 2, .mov (.tmp 17), none⟩] [2]) .ret)))) [.tmp 2]
theorem xcmp_Or_int_ok : cFunc Try.prog Try.f100 [[0],[0,3],[3,6,7,8],[3,6,7,8,9],[3,5,6,7,8],[3,5,6,7,8,14],[2],[3,6,7,8],[2]] = some xcmp_Or_int := by kernel_rfl
/-- cmp.Compare[int] -/
def xcmp_Compare_int : XFunc := .code (.seq (.ops [⟨some 4, .mov (.const (.int .i64 0)), none⟩] [0, 1]) (.seq (.ops [⟨some 7, .mov (.tmp 0), none⟩, ⟨some 8, .call 130 [.tmp 7], none⟩, ⟨some 5, .mov (.tmp 8), none⟩] [0, 1, 5]) (.seq (.ops [⟨some 9, .mov (.tmp 1), none⟩, ⟨some 10, .call 130 [.tmp 9], none⟩, ⟨some 6, .mov (.tmp 10), none⟩] [0, 1, 5, 6]) (.seq (.seq (.ops [⟨some 11, .mov (.tmp 5), none⟩] [0, 1, 6, 11]) (.cond (.tmp 11) (.seq (.seq (.ops [⟨some 12, .mov (.tmp 6), none⟩] [12]) (.cond (.tmp 12) (.seq (.ops [⟨some 4, .mov (.const (.int .i64 0)), none⟩] [4]) .ret) .skip)) (.seq (.ops [⟨some 4, .mov (.const (.int .i64 (-1))), none⟩] [4]) .ret)) .skip)) (.seq (.seq (.ops [⟨some 13, .mov (.tmp 6), none⟩] [0, 1, 13]) (.cond (.tmp 13) (.seq (.ops [⟨some 4, .mov (.const (.int .i64 1)), none⟩] [4]) .ret) .skip)) (.seq (.seq (.ops [⟨some 14, .mov (.tmp 0), none⟩, ⟨some 15, .mov (.tmp 1), none⟩, ⟨some 16, .bin .lss (.tmp 14) (.tmp 15), none⟩] [0, 1, 16]) (.cond (.tmp 16) (.seq (.ops [⟨some 4, .mov (.const (.int .i64 (-1))), none⟩] [4]) .ret) .skip)) (.seq (.seq (.ops [⟨some 17, .mov (.tmp 0), none⟩, ⟨some 18, .mov (.tmp 1), none⟩, ⟨some 19, .bin .gtr (.tmp 17) (.tmp 18), none⟩] [19]) (.cond (.tmp 19) (.seq (.ops [⟨some 4, .mov (.const (.int .i64 1)), none⟩] [4]) .ret) .skip)) (.seq (.ops [⟨some 4, .mov (.const (.int .i64 0)), none⟩] [4]) .ret)))))))) [.tmp 4]
theorem xcmp_Compare_int_ok : cFunc Try.prog Try.f101 [[0,1],[0,1,5],[0,1,5,6],[0,1,6,11],[12],[4],[4],[0,1,13],[4],[0,1,16],[4],[19],[4],[4]] = some xcmp_Compare_int := by kernel_rfl
def xmend_joined_l0 : XCode := .seq (.ops [⟨some 27, .bin .lss (.tmp 26) (.tmp 25), none⟩] [0, 2, 3, 4, 25, 26, 27]) (.seq (.cond (.tmp 27) .skip (.exit 0)) (.seq (.block 1 (.seq (.ops [⟨some 28, .mov (.tmp 26), none⟩, ⟨some 5, .mov (.tmp 28), none⟩] [0, 2, 3, 4, 5, 25, 26]) (.seq (.ops [⟨some 30, .mov (.tmp 0), none⟩, ⟨some 31, .mov (.tmp 5), none⟩, ⟨some 32, .call 131 [.tmp 30, .tmp 31], none⟩, ⟨some 29, .mov (.tmp 32), none⟩, ⟨some 33, .ext (.tmp 29) 0, none⟩, ⟨some 34, .ext (.tmp 29) 1, none⟩, ⟨some 6, .mov (.tmp 33), none⟩, ⟨some 7, .mov (.tmp 34), none⟩] [0, 2, 3, 4, 5, 6, 7, 25, 26]) (.seq (.ops [⟨some 35, .mov (.tmp 4), none⟩, ⟨some 36, .mov (.tmp 5), none⟩, ⟨some 37, .mov (.tmp 6), none⟩, ⟨some 38, .idxA 1 (.tmp 35) (.tmp 36), none⟩, ⟨none, .st 1 (.tmp 38) (.tmp 37), none⟩] [0, 2, 3, 4, 7, 25, 26]) (.seq (.ops [⟨some 39, .mov (.tmp 7), none⟩] [0, 2, 3, 4, 25, 26, 39]) (.cond (.tmp 39) (.ops [⟨some 40, .fldA 6 (.tmp 3), none⟩, ⟨some 41, .ld none (.tmp 40), none⟩, ⟨some 42, .bin .add (.tmp 41) (.const (.int .i64 1)), none⟩, ⟨some 43, .fldA 6 (.tmp 3), none⟩, ⟨none, .st 1 (.tmp 43) (.tmp 42), none⟩] [0, 2, 3, 4, 25, 26]) .skip)))))) (.ops [⟨some 44, .bin .add (.tmp 26) (.const (.int .i64 1)), none⟩, ⟨some 26, .mov (.tmp 44), none⟩] [0, 2, 3, 4, 25, 26])))
def xmend_joined_l1 : XCode := .seq (.ops [⟨some 63, .bin .lss (.tmp 62) (.tmp 61), none⟩] [2, 3, 4, 60, 61, 62, 63]) (.seq (.cond (.tmp 63) .skip (.exit 2)) (.seq (.block 3 (.seq (.ops [⟨some 64, .idxA 4 (.tmp 60) (.tmp 62), none⟩, ⟨some 65, .ld (some 4) (.tmp 64), none⟩, ⟨some 10, .new 87 1 [.int .i64 0, .int .i64 0, .slice none 0 0, .bool false], none⟩, ⟨none, .st 4 (.tmp 10) (.tmp 65), none⟩] [2, 3, 4, 10, 60, 61, 62]) (.seq (.ops [⟨some 66, .fldA 2 (.tmp 10), none⟩, ⟨some 67, .ld none (.tmp 66), none⟩, ⟨some 68, .mov (.tmp 4), none⟩, ⟨some 69, .call 18 [.tmp 67, .tmp 68], none⟩] [2, 3, 4, 60, 61, 62, 69]) (.cond (.tmp 69) (.ops [⟨some 70, .fldA 5 (.tmp 3), none⟩, ⟨some 71, .ld none (.tmp 70), none⟩, ⟨some 72, .bin .add (.tmp 71) (.const (.int .i64 1)), none⟩, ⟨some 73, .fldA 5 (.tmp 3), none⟩, ⟨none, .st 1 (.tmp 73) (.tmp 72), none⟩] [2, 3, 4, 60, 61, 62]) .skip)))) (.ops [⟨some 74, .bin .add (.tmp 62) (.const (.int .i64 1)), none⟩, ⟨some 62, .mov (.tmp 74), none⟩] [2, 3, 4, 60, 61, 62])))
/-- bakelite/mend.joined -/
def xmend_joined : XFunc := .code (.seq (.ops [⟨some 2, .new 94 1 [.int .i64 0, .int .i64 0, .slice none 0 0, .bool false, .int .i64 0, .int .i64 0, .int .i64 0], none⟩] [0, 2]) (.seq (.dops [.mk ⟨some 11, .mov (.tmp 0), none⟩ [0] 0 [], .mk ⟨some 12, .idxA 4 (.tmp 11) (.const (.int .i64 0)), none⟩ [11] 0 [], .mk ⟨some 13, .fldA 0 (.tmp 12), none⟩ [12] 0 [], .mk ⟨some 14, .ld none (.tmp 13), none⟩ [13] 1 [13], .mk ⟨some 15, .mov (.tmp 0), none⟩ [0] 0 [], .mk ⟨some 16, .idxA 4 (.tmp 15) (.const (.int .i64 0)), none⟩ [15] 0 [], .mk ⟨some 17, .fldA 1 (.tmp 16), none⟩ [16] 0 [], .mk ⟨some 18, .ld none (.tmp 17), none⟩ [17] 1 [13], .mk ⟨some 19, .build [.int .i64 0, .int .i64 0, .slice none 0 0, .bool false] [(0, 1, .tmp 14), (1, 1, .tmp 18), (3, 1, .const (.bool true))], none⟩ [14, 18] 0 [], .mk ⟨some 20, .mov (.tmp 0), none⟩ [0] 0 [], .mk ⟨some 21, .len (.tmp 20), none⟩ [20] 0 [], .mk ⟨some 22, .build [.int .i64 0, .int .i64 0, .slice none 0 0, .bool false, .int .i64 0, .int .i64 0, .int .i64 0] [(0, 4, .tmp 19), (4, 1, .tmp 21)], none⟩ [19, 21] 0 [], .mk ⟨some 3, .new 94 1 [.int .i64 0, .int .i64 0, .slice none 0 0, .bool false, .int .i64 0, .int .i64 0, .int .i64 0], none⟩ [] 3 [], .mk ⟨none, .st 7 (.tmp 3) (.tmp 22), none⟩ [3, 22] 2 []] [0, 2, 3]) (.seq (.ops [⟨some 23, .mks 5 1 1 [.int .u8 0] (.const (.int .i64 128)) (.const (.int .i64 128)), none⟩, ⟨some 4, .mov (.tmp 23), none⟩] [0, 2, 3, 4]) (.seq (.seq (.ops [⟨some 24, .mov (.tmp 4), none⟩, ⟨some 25, .len (.tmp 24), none⟩, ⟨some 26, .mov (.const (.int .i64 0)), none⟩] [0, 2, 3, 4, 25, 26]) (.block 0 (.loop xmend_joined_l0))) (.seq (.seq (.ops [⟨some 45, .mov (.tmp 0), none⟩, ⟨some 46, .call 132 [.tmp 45, .func 133], none⟩, ⟨some 8, .mov (.tmp 46), none⟩] [0, 2, 3, 4, 8]) (.seq (.ops [⟨some 47, .mov (.tmp 8), none⟩, ⟨some 48, .bin .geq (.tmp 47) (.const (.int .i64 0)), none⟩] [0, 2, 3, 4, 8, 48]) (.cond (.tmp 48) (.ops [⟨some 49, .mov (.tmp 0), none⟩, ⟨some 50, .mov (.tmp 8), none⟩, ⟨some 51, .idxA 4 (.tmp 49) (.tmp 50), none⟩, ⟨some 52, .fldA 2 (.tmp 51), none⟩, ⟨some 53, .ld none (.tmp 52), none⟩, ⟨some 54, .call 36 [.tmp 53], none⟩, ⟨some 4, .mov (.tmp 54), none⟩, ⟨some 55, .fldA 0 (.tmp 3), none⟩, ⟨some 56, .fldA 3 (.tmp 55), none⟩, ⟨none, .st 1 (.tmp 56) (.const (.bool false)), none⟩] [0, 2, 3, 4]) .skip))) (.seq (.ops [⟨some 57, .mov (.tmp 4), none⟩, ⟨some 58, .fldA 0 (.tmp 3), none⟩, ⟨some 59, .fldA 2 (.tmp 58), none⟩, ⟨none, .st 1 (.tmp 59) (.tmp 57), none⟩] [0, 2, 3, 4]) (.seq (.seq (.ops [⟨some 60, .mov (.tmp 0), none⟩, ⟨some 61, .len (.tmp 60), none⟩, ⟨some 62, .mov (.const (.int .i64 0)), none⟩] [2, 3, 4, 60, 61, 62]) (.block 2 (.loop xmend_joined_l1))) (.seq (.ops [⟨some 75, .ld (some 7) (.tmp 3), none⟩, ⟨none, .st 7 (.tmp 2) (.tmp 75), none⟩] [2]) .ret)))))))) [.cell 2 (some 7)]
theorem xmend_joined_ok : cFunc Try.prog Try.f102 [[0,2],[0,2,3],[0,2,3,4],[0,2,3,4,25,26],[0,2,3,4,25,26,27],[0,2,3,4,5,25,26],[0,2,3,4,5,6,7,25,26],[0,2,3,4,7,25,26],[0,2,3,4,25,26,39],[0,2,3,4,25,26],[0,2,3,4,25,26],[0,2,3,4,8],[0,2,3,4,8,48],[0,2,3,4],[0,2,3,4],[2,3,4,60,61,62],[2,3,4,60,61,62,63],[2,3,4,10,60,61,62],[2,3,4,60,61,62,69],[2,3,4,60,61,62],[2,3,4,60,61,62],[2]] = some xmend_joined := by kernel_rfl
/-- slices.Grow[[]bakelite/api.SectorData,bakelite/api.SectorData] -/
def xslices_Grow_Sapi_SectorData_api_SectorData : XFunc := .code (.seq (.ops [⟨some 4, .mov (.const (.slice none 0 0)), none⟩] [0, 1]) (.seq (.seq (.ops [⟨some 5, .mov (.tmp 1), none⟩, ⟨some 6, .bin .lss (.tmp 5) (.const (.int .i64 0)), none⟩] [0, 1, 6]) (.cond (.tmp 6) (.ops [⟨some 7, .mkI 9 (.const (.string (ByteArray.mk #[99, 97, 110, 110, 111, 116, 32, 98, 101, 32, 110, 101, 103, 97, 116, 105, 118, 101]))), none⟩, ⟨none, .ext (.const (.bool false)) 0, none⟩] [0, 1]) .skip)) (.seq (.seq (.ops [⟨some 8, .mov (.tmp 1), none⟩, ⟨some 9, .mov (.tmp 0), none⟩, ⟨some 10, .cap (.tmp 9), none⟩, ⟨some 11, .mov (.tmp 0), none⟩, ⟨some 12, .len (.tmp 11), none⟩, ⟨some 13, .bin .sub (.tmp 10) (.tmp 12), none⟩, ⟨some 14, .bin .sub (.tmp 8) (.tmp 13), none⟩, ⟨some 1, .mov (.tmp 14), none⟩] [0, 1]) (.seq (.ops [⟨some 15, .mov (.tmp 1), none⟩, ⟨some 16, .bin .gtr (.tmp 15) (.const (.int .i64 0)), none⟩] [0, 1, 16]) (.cond (.tmp 16) (.ops [⟨some 17, .mov (.tmp 0), none⟩, ⟨some 18, .mov (.tmp 0), none⟩, ⟨some 19, .cap (.tmp 18), none⟩, ⟨some 20, .slc 4 (.tmp 17) none (some (.tmp 19)) none, none⟩, ⟨some 21, .mov (.tmp 1), none⟩, ⟨some 22, .appN 87 4 48 [.int .i64 0, .int .i64 0, .slice none 0 0, .bool false] (.tmp 20) (.tmp 21), none⟩, ⟨some 23, .mov (.tmp 0), none⟩, ⟨some 24, .len (.tmp 23), none⟩, ⟨some 25, .slc 4 (.tmp 22) none (some (.tmp 24)) none, none⟩, ⟨some 0, .mov (.tmp 25), none⟩] [0]) .skip))) (.seq (.ops [⟨some 26, .mov (.tmp 0), none⟩, ⟨some 4, .mov (.tmp 26), none⟩] [4]) .ret)))) [.tmp 4]
theorem xslices_Grow_Sapi_SectorData_api_SectorData_ok : cFunc Try.prog Try.f128 [[0,1],[0,1,6],[0,1],[0,1],[0,1,16],[0],[4]] = some xslices_Grow_Sapi_SectorData_api_SectorData := by kernel_rfl
def xslices_stableCmpFunc_api_SectorData_l0 : XCode := .seq (.seq (.ops [⟨some 11, .mov (.tmp 8), none⟩, ⟨some 12, .mov (.tmp 1), none⟩, ⟨some 13, .bin .leq (.tmp 11) (.tmp 12), none⟩] [0, 1, 2, 6, 7, 8, 13]) (.cond (.tmp 13) .skip (.exit 0))) (.block 1 (.seq (.ops [⟨some 14, .mov (.tmp 0), none⟩, ⟨some 15, .mov (.tmp 7), none⟩, ⟨some 16, .mov (.tmp 8), none⟩, ⟨some 17, .mov (.tmp 2), none⟩, ⟨some 18, .call 141 [.tmp 14, .tmp 15, .tmp 16, .tmp 17], none⟩] [0, 1, 2, 6, 8]) (.seq (.ops [⟨some 19, .mov (.tmp 8), none⟩, ⟨some 7, .mov (.tmp 19), none⟩] [0, 1, 2, 6, 7, 8]) (.ops [⟨some 20, .mov (.tmp 8), none⟩, ⟨some 21, .mov (.tmp 6), none⟩, ⟨some 22, .bin .add (.tmp 20) (.tmp 21), none⟩, ⟨some 8, .mov (.tmp 22), none⟩] [0, 1, 2, 6, 7, 8]))))
def xslices_stableCmpFunc_api_SectorData_l1 : XCode := .seq (.seq (.ops [⟨some 33, .mov (.tmp 8), none⟩, ⟨some 34, .mov (.tmp 1), none⟩, ⟨some 35, .bin .leq (.tmp 33) (.tmp 34), none⟩] [0, 1, 2, 6, 7, 8, 35]) (.cond (.tmp 35) .skip (.exit 4))) (.block 5 (.seq (.ops [⟨some 36, .mov (.tmp 0), none⟩, ⟨some 37, .mov (.tmp 7), none⟩, ⟨some 38, .mov (.tmp 7), none⟩, ⟨some 39, .mov (.tmp 6), none⟩, ⟨some 40, .bin .add (.tmp 38) (.tmp 39), none⟩, ⟨some 41, .mov (.tmp 8), none⟩, ⟨some 42, .mov (.tmp 2), none⟩, ⟨some 43, .call 142 [.tmp 36, .tmp 37, .tmp 40, .tmp 41, .tmp 42], none⟩] [0, 1, 2, 6, 8]) (.seq (.ops [⟨some 44, .mov (.tmp 8), none⟩, ⟨some 7, .mov (.tmp 44), none⟩] [0, 1, 2, 6, 7, 8]) (.ops [⟨some 45, .mov (.tmp 8), none⟩, ⟨some 46, .mov (.tmp 6), none⟩, ⟨some 47, .bin .mul (.const (.int .i64 2)) (.tmp 46), none⟩, ⟨some 48, .bin .add (.tmp 45) (.tmp 47), none⟩, ⟨some 8, .mov (.tmp 48), none⟩] [0, 1, 2, 6, 7, 8]))))
def xslices_stableCmpFunc_api_SectorData_l2 : XCode := .seq (.seq (.ops [⟨some 28, .mov (.tmp 6), none⟩, ⟨some 29, .mov (.tmp 1), none⟩, ⟨some 30, .bin .lss (.tmp 28) (.tmp 29), none⟩] [0, 1, 2, 6, 30]) (.cond (.tmp 30) .skip (.exit 2))) (.block 3 (.seq (.ops [⟨some 31, .mov (.tmp 6), none⟩, ⟨some 32, .bin .mul (.const (.int .i64 2)) (.tmp 31), none⟩, ⟨some 7, .mov (.const (.int .i64 0)), none⟩, ⟨some 8, .mov (.tmp 32), none⟩] [0, 1, 2, 6, 7, 8]) (.seq (.block 4 (.loop xslices_stableCmpFunc_api_SectorData_l1)) (.seq (.seq (.ops [⟨some 49, .mov (.tmp 7), none⟩, ⟨some 50, .mov (.tmp 6), none⟩, ⟨some 51, .bin .add (.tmp 49) (.tmp 50), none⟩, ⟨some 9, .mov (.tmp 51), none⟩] [0, 1, 2, 6, 7, 9]) (.seq (.ops [⟨some 52, .mov (.tmp 9), none⟩, ⟨some 53, .mov (.tmp 1), none⟩, ⟨some 54, .bin .lss (.tmp 52) (.tmp 53), none⟩] [0, 1, 2, 6, 7, 9, 54]) (.cond (.tmp 54) (.ops [⟨some 55, .mov (.tmp 0), none⟩, ⟨some 56, .mov (.tmp 7), none⟩, ⟨some 57, .mov (.tmp 9), none⟩, ⟨some 58, .mov (.tmp 1), none⟩, ⟨some 59, .mov (.tmp 2), none⟩, ⟨some 60, .call 142 [.tmp 55, .tmp 56, .tmp 57, .tmp 58, .tmp 59], none⟩] [0, 1, 2, 6]) .skip))) (.ops [⟨some 61, .mov (.tmp 6), none⟩, ⟨some 62, .bin .mul (.tmp 61) (.const (.int .i64 2)), none⟩, ⟨some 6, .mov (.tmp 62), none⟩] [0, 1, 2, 6])))))
/-- slices.stableCmpFunc[bakelite/api.SectorData] -/
def xslices_stableCmpFunc_api_SectorData : XFunc := .code (.seq (.ops [⟨some 6, .mov (.const (.int .i64 20)), none⟩] [0, 1, 2, 6]) (.seq (.ops [⟨some 10, .mov (.tmp 6), none⟩, ⟨some 7, .mov (.const (.int .i64 0)), none⟩, ⟨some 8, .mov (.tmp 10), none⟩] [0, 1, 2, 6, 7, 8]) (.seq (.block 0 (.loop xslices_stableCmpFunc_api_SectorData_l0)) (.seq (.ops [⟨some 23, .mov (.tmp 0), none⟩, ⟨some 24, .mov (.tmp 7), none⟩, ⟨some 25, .mov (.tmp 1), none⟩, ⟨some 26, .mov (.tmp 2), none⟩, ⟨some 27, .call 141 [.tmp 23, .tmp 24, .tmp 25, .tmp 26], none⟩] [0, 1, 2, 6]) (.block 2 (.loop xslices_stableCmpFunc_api_SectorData_l2)))))) []
theorem xslices_stableCmpFunc_api_SectorData_ok : cFunc Try.prog Try.f129 [[0,1,2,6],[0,1,2,6,7,8],[0,1,2,6,7,8,13],[0,1,2,6,8],[0,1,2,6,7,8],[0,1,2,6,7,8],[0,1,2,6],[0,1,2,6,30],[0,1,2,6,7,8],[0,1,2,6,7,8,35],[0,1,2,6,8],[0,1,2,6,7,8],[0,1,2,6,7,8],[0,1,2,6,7,9],[0,1,2,6,7,9,54],[0,1,2,6],[0,1,2,6]] = some xslices_stableCmpFunc_api_SectorData := by kernel_rfl
/-- cmp.isNaN[int] -/
def xcmp_isNaN_int : XFunc := .code (.seq (.ops [⟨some 2, .mov (.const (.bool false)), none⟩] [0]) (.seq (.ops [⟨some 3, .mov (.tmp 0), none⟩, ⟨some 4, .mov (.tmp 0), none⟩, ⟨some 5, .bin .neq (.tmp 3) (.tmp 4), none⟩, ⟨some 2, .mov (.tmp 5), none⟩] [2]) .ret)) [.tmp 2]
theorem xcmp_isNaN_int_ok : cFunc Try.prog Try.f130 [[0],[2]] = some xcmp_isNaN_int := by kernel_rfl
def xmend_vote_l0 : XCode := .seq (.ops [⟨some 14, .bin .lss (.tmp 13) (.tmp 12), none⟩] [0, 1, 6, 11, 12, 13, 14]) (.seq (.cond (.tmp 14) .skip (.exit 0)) (.seq (.block 1 (.seq (.ops [⟨some 15, .idxA 4 (.tmp 11) (.tmp 13), none⟩, ⟨some 16, .ld (some 4) (.tmp 15), none⟩, ⟨some 8, .new 87 1 [.int .i64 0, .int .i64 0, .slice none 0 0, .bool false], none⟩, ⟨none, .st 4 (.tmp 8) (.tmp 16), none⟩] [0, 1, 6, 8, 11, 12, 13]) (.ops [⟨some 17, .fldA 2 (.tmp 8), none⟩, ⟨some 18, .ld none (.tmp 17), none⟩, ⟨some 19, .mov (.tmp 1), none⟩, ⟨some 20, .idxA 1 (.tmp 18) (.tmp 19), none⟩, ⟨some 21, .ld none (.tmp 20), none⟩, ⟨some 22, .idxAA 256 1 (.tmp 6) (.tmp 21), none⟩, ⟨some 23, .ld none (.tmp 22), none⟩, ⟨some 24, .bin .add (.tmp 23) (.const (.int .i64 1)), none⟩, ⟨some 25, .idxAA 256 1 (.tmp 6) (.tmp 21), none⟩, ⟨none, .st 1 (.tmp 25) (.tmp 24), none⟩] [0, 1, 6, 11, 12, 13]))) (.ops [⟨some 26, .bin .add (.tmp 13) (.const (.int .i64 1)), none⟩, ⟨some 13, .mov (.tmp 26), none⟩] [0, 1, 6, 11, 12, 13])))
def xmend_vote_l1 : XCode := .seq (.ops [⟨some 28, .bin .lss (.tmp 27) (.const (.int .i64 256)), none⟩] [0, 6, 9, 27, 28]) (.seq (.cond (.tmp 28) .skip (.exit 2)) (.seq (.block 3 (.seq (.ops [⟨some 29, .mov (.tmp 27), none⟩, ⟨some 10, .mov (.tmp 29), none⟩] [0, 6, 9, 10, 27]) (.seq (.dops [.mk ⟨some 30, .mov (.tmp 10), none⟩ [10] 0 [], .mk ⟨some 31, .idxAA 256 1 (.tmp 6) (.tmp 30), none⟩ [6, 30] 0 [], .mk ⟨some 32, .ld none (.tmp 31), none⟩ [31] 1 [], .mk ⟨some 33, .mov (.tmp 9), none⟩ [9] 0 [], .mk ⟨some 34, .idxAA 256 1 (.tmp 6) (.tmp 33), none⟩ [6, 33] 0 [], .mk ⟨some 35, .ld none (.tmp 34), none⟩ [34] 1 [], .mk ⟨some 36, .bin .gtr (.tmp 32) (.tmp 35), none⟩ [32, 35] 0 []] [0, 6, 9, 10, 27, 36]) (.cond (.tmp 36) (.ops [⟨some 37, .mov (.tmp 10), none⟩, ⟨some 9, .mov (.tmp 37), none⟩] [0, 6, 9, 27]) .skip)))) (.ops [⟨some 38, .bin .add (.tmp 27) (.const (.int .i64 1)), none⟩, ⟨some 27, .mov (.tmp 38), none⟩] [0, 6, 9, 27])))
/-- bakelite/mend.vote -/
def xmend_vote : XFunc := .code (.seq (.ops [⟨some 4, .mov (.const (.int .u8 0)), none⟩, ⟨some 5, .mov (.const (.bool false)), none⟩] [0, 1]) (.seq (.ops [⟨some 6, .new 209 1 [.int .i64 0, .int .i64 0, .int .i64 0, .int .i64 0, .int .i64 0, .int .i64 0, .int .i64 0, .int .i64 0, .int .i64 0, .int .i64 0, .int .i64 0, .int .i64 0, .int .i64 0, .int .i64 0, .int .i64 0, .int .i64 0, .int .i64 0, .int .i64 0, .int .i64 0, .int .i64 0, .int .i64 0, .int .i64 0, .int .i64 0, .int .i64 0, .int .i64 0, .int .i64 0, .int .i64 0, .int .i64 0, .int .i64 0, .int .i64 0, .int .i64 0, .int .i64 0, .int .i64 0, .int .i64 0, .int .i64 0, .int .i64 0, .int .i64 0, .int .i64 0, .int .i64 0, .int .i64 0, .int .i64 0, .int .i64 0, .int .i64 0, .int .i64 0, .int .i64 0, .int .i64 0, .int .i64 0, .int .i64 0, .int .i64 0, .int .i64 0, .int .i64 0, .int .i64 0, .int .i64 0, .int .i64 0, .int .i64 0, .int .i64 0, .int .i64 0, .int .i64 0, .int .i64 0, .int .i64 0, .int .i64 0, .int .i64 0, .int .i64 0, .int .i64 0, .int .i64 0, .int .i64 0, .int .i64 0, .int .i64 0, .int .i64 0, .int .i64 0, .int .i64 0, .int .i64 0, .int .i64 0, .int .i64 0, .int .i64 0, .int .i64 0, .int .i64 0, .int .i64 0, .int .i64 0, .int .i64 0, .int .i64 0, .int .i64 0, .int .i64 0, .int .i64 0, .int .i64 0, .int .i64 0, .int .i64 0, .int .i64 0, .int .i64 0, .int .i64 0, .int .i64 0, .int .i64 0, .int .i64 0, .int .i64 0, .int .i64 0, .int .i64 0, .int .i64 0, .int .i64 0, .int .i64 0, .int .i64 0, .int .i64 0, .int .i64 0, .int .i64 0, .int .i64 0, .int .i64 0, .int .i64 0, .int .i64 0, .int .i64 0, .int .i64 0, .int .i64 0, .int .i64 0, .int .i64 0, .int .i64 0, .int .i64 0, .int .i64 0, .int .i64 0, .int .i64 0, .int .i64 0, .int .i64 0, .int .i64 0, .int .i64 0, .int .i64 0, .int .i64 0, .int .i64 0, .int .i64 0, .int .i64 0, .int .i64 0, .int .i64 0, .int .i64 0, .int .i64 0, .int .i64 0, .int .i64 0, .int .i64 0, .int .i64 0, .int .i64 0, .int .i64 0, .int .i64 0, .int .i64 0, .int .i64 0, .int .i64 0, .int .i64 0, .int .i64 0, .int .i64 0, .int .i64 0, .int .i64 0, .int .i64 0, .int .i64 0, .int .i64 0, .int .i64 0, .int .i64 0, .int .i64 0, .int .i64 0, .int .i64 0, .int .i64 0, .int .i64 0, .int .i64 0, .int .i64 0, .int .i64 0, .int .i64 0, .int .i64 0, .int .i64 0, .int .i64 0, .int .i64 0, .int .i64 0, .int .i64 0, .int .i64 0, .int .i64 0, .int .i64 0, .int .i64 0, .int .i64 0, .int .i64 0, .int .i64 0, .int .i64 0, .int .i64 0, .int .i64 0, .int .i64 0, .int .i64 0, .int .i64 0, .int .i64 0, .int .i64 0, .int .i64 0, .int .i64 0, .int .i64 0, .int .i64 0, .int .i64 0, .int .i64 0, .int .i64 0, .int .i64 0, .int .i64 0, .int .i64 0, .int .i64 0, .int .i64 0, .int .i64 0, .int .i64 0, .int .i64 0, .int .i64 0, .int .i64 0, .int .i64 0, .int .i64 0, .int .i64 0, .int .i64 0, .int .i64 0, .int .i64 0, .int .i64 0, .int .i64 0, .int .i64 0, .int .i64 0, .int .i64 0, .int .i64 0, .int .i64 0, .int .i64 0, .int .i64 0, .int .i64 0, .int .i64 0, .int .i64 0, .int .i64 0, .int .i64 0, .int .i64 0, .int .i64 0, .int .i64 0, .int .i64 0, .int .i64 0, .int .i64 0, .int .i64 0, .int .i64 0, .int .i64 0, .int .i64 0, .int .i64 0, .int .i64 0, .int .i64 0, .int .i64 0, .int .i64 0, .int .i64 0, .int .i64 0, .int .i64 0, .int .i64 0, .int .i64 0, .int .i64 0, .int .i64 0, .int .i64 0, .int .i64 0, .int .i64 0, .int .i64 0, .int .i64 0, .int .i64 0, .int .i64 0, .int .i64 0, .int .i64 0, .int .i64 0, .int .i64 0, .int .i64 0, .int .i64 0, .int .i64 0, .int .i64 0, .int .i64 0, .int .i64 0], none⟩] [0, 1, 6]) (.seq (.seq (.ops [⟨some 11, .mov (.tmp 0), none⟩, ⟨some 12, .len (.tmp 11), none⟩, ⟨some 13, .mov (.const (.int .i64 0)), none⟩] [0, 1, 6, 11, 12, 13]) (.block 0 (.loop xmend_vote_l0))) (.seq (.ops [⟨some 9, .mov (.const (.int .i64 0)), none⟩] [0, 6, 9]) (.seq (.seq (.ops [⟨some 27, .mov (.const (.int .i64 0)), none⟩] [0, 6, 9, 27]) (.block 2 (.loop xmend_vote_l1))) (.seq (.dops [.mk ⟨some 39, .mov (.tmp 9), none⟩ [9] 0 [], .mk ⟨some 40, .conv .u8 (.tmp 39), none⟩ [39] 0 [], .mk ⟨some 41, .mov (.tmp 9), none⟩ [9] 0 [], .mk ⟨some 42, .idxAA 256 1 (.tmp 6) (.tmp 41), none⟩ [6, 41] 0 [], .mk ⟨some 43, .ld none (.tmp 42), none⟩ [42] 1 [], .mk ⟨some 44, .mov (.tmp 0), none⟩ [0] 0 [], .mk ⟨some 45, .len (.tmp 44), none⟩ [44] 0 [], .mk ⟨some 46, .bin .eql (.tmp 43) (.tmp 45), none⟩ [43, 45] 0 [], .mk ⟨some 4, .mov (.tmp 40), none⟩ [40] 0 [], .mk ⟨some 5, .mov (.tmp 46), none⟩ [46] 0 []] [4, 5]) .ret)))))) [.tmp 4, .tmp 5]
theorem xmend_vote_ok : cFunc Try.prog Try.f131 [[0,1],[0,1,6],[0,1,6,11,12,13],[0,1,6,11,12,13,14],[0,1,6,8,11,12,13],[0,1,6,11,12,13],[0,1,6,11,12,13],[0,6,9],[0,6,9,27],[0,6,9,27,28],[0,6,9,10,27],[0,6,9,10,27,36],[0,6,9,27],[0,6,9,27],[4,5]] = some xmend_vote := by kernel_rfl
def xslices_IndexFunc_Sapi_SectorData_api_SectorData_l0 : XCode := .seq (.ops [⟨some 9, .bin .lss (.tmp 8) (.tmp 7), none⟩] [0, 1, 7, 8, 9]) (.seq (.cond (.tmp 9) .skip (.exit 0)) (.seq (.block 1 (.seq (.ops [⟨some 10, .mov (.tmp 8), none⟩, ⟨some 5, .mov (.tmp 10), none⟩] [0, 1, 5, 7, 8]) (.seq (.ops [⟨some 11, .mov (.tmp 1), none⟩, ⟨some 12, .mov (.tmp 0), none⟩, ⟨some 13, .mov (.tmp 5), none⟩, ⟨some 14, .idxA 4 (.tmp 12) (.tmp 13), none⟩, ⟨some 15, .ld (some 4) (.tmp 14), none⟩, ⟨some 16, .callv (.tmp 11) [.tmp 15], none⟩] [0, 1, 5, 7, 8, 16]) (.cond (.tmp 16) (.seq (.ops [⟨some 17, .mov (.tmp 5), none⟩, ⟨some 4, .mov (.tmp 17), none⟩] [4]) .ret) .skip)))) (.ops [⟨some 18, .bin .add (.tmp 8) (.const (.int .i64 1)), none⟩, ⟨some 8, .mov (.tmp 18), none⟩] [0, 1, 7, 8])))
/-- slices.IndexFunc[[]bakelite/api.SectorData,bakelite/api.SectorData] -/
def xslices_IndexFunc_Sapi_SectorData_api_SectorData : XFunc := .code (.seq (.ops [⟨some 4, .mov (.const (.int .i64 0)), none⟩] [0, 1]) (.seq (.seq (.ops [⟨some 6, .mov (.tmp 0), none⟩, ⟨some 7, .len (.tmp 6), none⟩, ⟨some 8, .mov (.const (.int .i64 0)), none⟩] [0, 1, 7, 8]) (.block 0 (.loop xslices_IndexFunc_Sapi_SectorData_api_SectorData_l0))) (.seq (.ops [⟨some 4, .mov (.const (.int .i64 (-1))), none⟩] [4]) .ret))) [.tmp 4]
theorem xslices_IndexFunc_Sapi_SectorData_api_SectorData_ok : cFunc Try.prog Try.f132 [[0,1],[0,1,7,8],[0,1,7,8,9],[0,1,5,7,8],[0,1,5,7,8,16],[4],[0,1,7,8],[4]] = some xslices_IndexFunc_Sapi_SectorData_api_SectorData := by kernel_rfl
/-- bakelite/mend.joined$1 -/
def xmend_joined_1 : XFunc := .code (.seq (.ops [⟨some 1, .box 87 1 (.tmp 0), none⟩, ⟨some 2, .mov (.const (.bool false)), none⟩] [1]) (.seq (.ops [⟨some 3, .fldA 3 (.tmp 1), none⟩, ⟨some 4, .ld none (.tmp 3), none⟩, ⟨some 5, .flat (.unOp .not 4 (.tmp 4)) 4, none⟩, ⟨some 2, .mov (.tmp 5), none⟩] [2]) .ret)) [.tmp 2]
theorem xmend_joined_1_ok : cFunc Try.prog Try.f133 [[1],[2]] = some xmend_joined_1 := by kernel_rfl
def xslices_insertionSortCmpFunc_api_SectorData_l0 : XCode := .seq (.seq (.dops [.mk ⟨some 18, .mov (.tmp 9), none⟩ [9] 0 [], .mk ⟨some 19, .mov (.tmp 1), none⟩ [1] 0 [], .mk ⟨some 20, .bin .gtr (.tmp 18) (.tmp 19), none⟩ [18, 19] 0 [], .mk ⟨some 21, .mov (.tmp 20), none⟩ [20] 0 [], .mk ⟨some 22, .mov (.tmp 3), some (21, true)⟩ [3, 21] 0 [], .mk ⟨some 23, .mov (.tmp 0), some (21, true)⟩ [0, 21] 0 [], .mk ⟨some 24, .mov (.tmp 9), some (21, true)⟩ [9, 21] 0 [], .mk ⟨some 25, .idxA 4 (.tmp 23) (.tmp 24), some (21, true)⟩ [23, 24, 21] 0 [], .mk ⟨some 26, .ld (some 4) (.tmp 25), some (21, true)⟩ [25, 21] 1 [], .mk ⟨some 27, .mov (.tmp 0), some (21, true)⟩ [0, 21] 0 [], .mk ⟨some 28, .mov (.tmp 9), some (21, true)⟩ [9, 21] 0 [], .mk ⟨some 29, .bin .sub (.tmp 28) (.const (.int .i64 1)), some (21, true)⟩ [28, 21] 0 [], .mk ⟨some 30, .idxA 4 (.tmp 27) (.tmp 29), some (21, true)⟩ [27, 29, 21] 0 [], .mk ⟨some 31, .ld (some 4) (.tmp 30), some (21, true)⟩ [30, 21] 1 [], .mk ⟨some 32, .callv (.tmp 22) [.tmp 26, .tmp 31], some (21, true)⟩ [22, 26, 31, 21] 2 [], .mk ⟨some 33, .bin .lss (.tmp 32) (.const (.int .i64 0)), some (21, true)⟩ [32, 21] 0 [], .mk ⟨some 34, .pick (.tmp 21) (.tmp 33) (.const (.bool false)), none⟩ [21, 33] 0 []] [0, 1, 2, 3, 8, 9, 34]) (.cond (.tmp 34) .skip (.exit 2))) (.seq (.block 3 (.dops [.mk ⟨some 37, .mov (.tmp 0), none⟩ [0] 0 [], .mk ⟨some 38, .mov (.tmp 9), none⟩ [9] 0 [], .mk ⟨some 39, .mov (.tmp 0), none⟩ [0] 0 [], .mk ⟨some 40, .mov (.tmp 9), none⟩ [9] 0 [], .mk ⟨some 41, .bin .sub (.tmp 40) (.const (.int .i64 1)), none⟩ [40] 0 [], .mk ⟨some 42, .mov (.tmp 0), none⟩ [0] 0 [], .mk ⟨some 43, .mov (.tmp 9), none⟩ [9] 0 [], .mk ⟨some 44, .bin .sub (.tmp 43) (.const (.int .i64 1)), none⟩ [43] 0 [], .mk ⟨some 45, .idxA 4 (.tmp 42) (.tmp 44), none⟩ [42, 44] 0 [], .mk ⟨some 46, .ld (some 4) (.tmp 45), none⟩ [45] 1 [], .mk ⟨some 47, .mov (.tmp 0), none⟩ [0] 0 [], .mk ⟨some 48, .mov (.tmp 9), none⟩ [9] 0 [], .mk ⟨some 49, .idxA 4 (.tmp 47) (.tmp 48), none⟩ [47, 48] 0 [], .mk ⟨some 50, .ld (some 4) (.tmp 49), none⟩ [49] 1 [], .mk ⟨some 51, .idxA 4 (.tmp 37) (.tmp 38), none⟩ [37, 38] 0 [], .mk ⟨none, .st 4 (.tmp 51) (.tmp 46), none⟩ [51, 46] 2 [], .mk ⟨some 52, .idxA 4 (.tmp 39) (.tmp 41), none⟩ [39, 41] 0 [], .mk ⟨none, .st 4 (.tmp 52) (.tmp 50), none⟩ [52, 50] 2 []] [0, 1, 2, 3, 8, 9])) (.ops [⟨some 35, .mov (.tmp 9), none⟩, ⟨some 36, .bin .sub (.tmp 35) (.const (.int .i64 1)), none⟩, ⟨some 9, .mov (.tmp 36), none⟩] [0, 1, 2, 3, 8, 9]))
def xslices_insertionSortCmpFunc_api_SectorData_l1 : XCode := .seq (.seq (.ops [⟨some 12, .mov (.tmp 8), none⟩, ⟨some 13, .mov (.tmp 2), none⟩, ⟨some 14, .bin .lss (.tmp 12) (.tmp 13), none⟩] [0, 1, 2, 3, 8, 14]) (.cond (.tmp 14) .skip (.exit 0))) (.seq (.block 1 (.seq (.ops [⟨some 17, .mov (.tmp 8), none⟩, ⟨some 9, .mov (.tmp 17), none⟩] [0, 1, 2, 3, 8, 9]) (.block 2 (.loop xslices_insertionSortCmpFunc_api_SectorData_l0)))) (.ops [⟨some 15, .mov (.tmp 8), none⟩, ⟨some 16, .bin .add (.tmp 15) (.const (.int .i64 1)), none⟩, ⟨some 8, .mov (.tmp 16), none⟩] [0, 1, 2, 3, 8]))
/-- slices.insertionSortCmpFunc[bakelite/api.SectorData] -/
def xslices_insertionSortCmpFunc_api_SectorData : XFunc := .code (.seq (.ops [⟨some 10, .mov (.tmp 1), none⟩, ⟨some 11, .bin .add (.tmp 10) (.const (.int .i64 1)), none⟩, ⟨some 8, .mov (.tmp 11), none⟩] [0, 1, 2, 3, 8]) (.block 0 (.loop xslices_insertionSortCmpFunc_api_SectorData_l1))) []
theorem xslices_insertionSortCmpFunc_api_SectorData_ok : cFunc Try.prog Try.f141 [[0,1,2,3,8],[0,1,2,3,8,14],[0,1,2,3,8,9],[0,1,2,3,8,9,34],[0,1,2,3,8,9],[0,1,2,3,8,9],[0,1,2,3,8]] = some xslices_insertionSortCmpFunc_api_SectorData := by kernel_rfl
def xslices_symMergeCmpFunc_api_SectorData_l0 : XCode := .seq (.seq (.ops [⟨some 31, .mov (.tmp 10), none⟩, ⟨some 32, .mov (.tmp 11), none⟩, ⟨some 33, .bin .lss (.tmp 31) (.tmp 32), none⟩] [0, 1, 4, 10, 11, 33]) (.cond (.tmp 33) .skip (.exit 0))) (.block 1 (.seq (.ops [⟨some 34, .mov (.tmp 10), none⟩, ⟨some 35, .mov (.tmp 11), none⟩, ⟨some 36, .bin .add (.tmp 34) (.tmp 35), none⟩, ⟨some 37, .conv .u64 (.tmp 36), none⟩, ⟨some 38, .bin .shr (.tmp 37) (.const (.int .u64 1)), none⟩, ⟨some 39, .conv .i64 (.tmp 38), none⟩, ⟨some 12, .mov (.tmp 39), none⟩] [0, 1, 4, 10, 11, 12]) (.seq (.dops [.mk ⟨some 40, .mov (.tmp 4), none⟩ [4] 0 [], .mk ⟨some 41, .mov (.tmp 0), none⟩ [0] 0 [], .mk ⟨some 42, .mov (.tmp 12), none⟩ [12] 0 [], .mk ⟨some 43, .idxA 4 (.tmp 41) (.tmp 42), none⟩ [41, 42] 0 [], .mk ⟨some 44, .ld (some 4) (.tmp 43), none⟩ [43] 1 [], .mk ⟨some 45, .mov (.tmp 0), none⟩ [0] 0 [], .mk ⟨some 46, .mov (.tmp 1), none⟩ [1] 0 [], .mk ⟨some 47, .idxA 4 (.tmp 45) (.tmp 46), none⟩ [45, 46] 0 [], .mk ⟨some 48, .ld (some 4) (.tmp 47), none⟩ [47] 1 [], .mk ⟨some 49, .callv (.tmp 40) [.tmp 44, .tmp 48], none⟩ [40, 44, 48] 2 [], .mk ⟨some 50, .bin .lss (.tmp 49) (.const (.int .i64 0)), none⟩ [49] 0 []] [0, 1, 4, 10, 11, 12, 50]) (.cond (.tmp 50) (.ops [⟨some 51, .mov (.tmp 12), none⟩, ⟨some 52, .bin .add (.tmp 51) (.const (.int .i64 1)), none⟩, ⟨some 10, .mov (.tmp 52), none⟩] [0, 1, 4, 10, 11]) (.ops [⟨some 53, .mov (.tmp 12), none⟩, ⟨some 11, .mov (.tmp 53), none⟩] [0, 1, 4, 10, 11])))))
def xslices_symMergeCmpFunc_api_SectorData_l1 : XCode := .seq (.seq (.ops [⟨some 55, .mov (.tmp 13), none⟩, ⟨some 56, .mov (.tmp 10), none⟩, ⟨some 57, .bin .sub (.tmp 56) (.const (.int .i64 1)), none⟩, ⟨some 58, .bin .lss (.tmp 55) (.tmp 57), none⟩] [0, 10, 13, 58]) (.cond (.tmp 58) .skip (.exit 2))) (.seq (.block 3 (.dops [.mk ⟨some 61, .mov (.tmp 0), none⟩ [0] 0 [], .mk ⟨some 62, .mov (.tmp 13), none⟩ [13] 0 [], .mk ⟨some 63, .mov (.tmp 0), none⟩ [0] 0 [], .mk ⟨some 64, .mov (.tmp 13), none⟩ [13] 0 [], .mk ⟨some 65, .bin .add (.tmp 64) (.const (.int .i64 1)), none⟩ [64] 0 [], .mk ⟨some 66, .mov (.tmp 0), none⟩ [0] 0 [], .mk ⟨some 67, .mov (.tmp 13), none⟩ [13] 0 [], .mk ⟨some 68, .bin .add (.tmp 67) (.const (.int .i64 1)), none⟩ [67] 0 [], .mk ⟨some 69, .idxA 4 (.tmp 66) (.tmp 68), none⟩ [66, 68] 0 [], .mk ⟨some 70, .ld (some 4) (.tmp 69), none⟩ [69] 1 [], .mk ⟨some 71, .mov (.tmp 0), none⟩ [0] 0 [], .mk ⟨some 72, .mov (.tmp 13), none⟩ [13] 0 [], .mk ⟨some 73, .idxA 4 (.tmp 71) (.tmp 72), none⟩ [71, 72] 0 [], .mk ⟨some 74, .ld (some 4) (.tmp 73), none⟩ [73] 1 [], .mk ⟨some 75, .idxA 4 (.tmp 61) (.tmp 62), none⟩ [61, 62] 0 [], .mk ⟨none, .st 4 (.tmp 75) (.tmp 70), none⟩ [75, 70] 2 [], .mk ⟨some 76, .idxA 4 (.tmp 63) (.tmp 65), none⟩ [63, 65] 0 [], .mk ⟨none, .st 4 (.tmp 76) (.tmp 74), none⟩ [76, 74] 2 []] [0, 10, 13])) (.ops [⟨some 59, .mov (.tmp 13), none⟩, ⟨some 60, .bin .add (.tmp 59) (.const (.int .i64 1)), none⟩, ⟨some 13, .mov (.tmp 60), none⟩] [0, 10, 13]))
def xslices_symMergeCmpFunc_api_SectorData_l2 : XCode := .seq (.seq (.ops [⟨some 83, .mov (.tmp 14), none⟩, ⟨some 84, .mov (.tmp 15), none⟩, ⟨some 85, .bin .lss (.tmp 83) (.tmp 84), none⟩] [0, 2, 4, 14, 15, 85]) (.cond (.tmp 85) .skip (.exit 4))) (.block 5 (.seq (.ops [⟨some 86, .mov (.tmp 14), none⟩, ⟨some 87, .mov (.tmp 15), none⟩, ⟨some 88, .bin .add (.tmp 86) (.tmp 87), none⟩, ⟨some 89, .conv .u64 (.tmp 88), none⟩, ⟨some 90, .bin .shr (.tmp 89) (.const (.int .u64 1)), none⟩, ⟨some 91, .conv .i64 (.tmp 90), none⟩, ⟨some 16, .mov (.tmp 91), none⟩] [0, 2, 4, 14, 15, 16]) (.seq (.dops [.mk ⟨some 92, .mov (.tmp 4), none⟩ [4] 0 [], .mk ⟨some 93, .mov (.tmp 0), none⟩ [0] 0 [], .mk ⟨some 94, .mov (.tmp 2), none⟩ [2] 0 [], .mk ⟨some 95, .idxA 4 (.tmp 93) (.tmp 94), none⟩ [93, 94] 0 [], .mk ⟨some 96, .ld (some 4) (.tmp 95), none⟩ [95] 1 [], .mk ⟨some 97, .mov (.tmp 0), none⟩ [0] 0 [], .mk ⟨some 98, .mov (.tmp 16), none⟩ [16] 0 [], .mk ⟨some 99, .idxA 4 (.tmp 97) (.tmp 98), none⟩ [97, 98] 0 [], .mk ⟨some 100, .ld (some 4) (.tmp 99), none⟩ [99] 1 [], .mk ⟨some 101, .callv (.tmp 92) [.tmp 96, .tmp 100], none⟩ [92, 96, 100] 2 [], .mk ⟨some 102, .bin .lss (.tmp 101) (.const (.int .i64 0)), none⟩ [101] 0 [], .mk ⟨some 103, .flat (.unOp .not 4 (.tmp 102)) 4, none⟩ [102] 0 []] [0, 2, 4, 14, 15, 16, 103]) (.cond (.tmp 103) (.ops [⟨some 104, .mov (.tmp 16), none⟩, ⟨some 105, .bin .add (.tmp 104) (.const (.int .i64 1)), none⟩, ⟨some 14, .mov (.tmp 105), none⟩] [0, 2, 4, 14, 15]) (.ops [⟨some 106, .mov (.tmp 16), none⟩, ⟨some 15, .mov (.tmp 106), none⟩] [0, 2, 4, 14, 15])))))
def xslices_symMergeCmpFunc_api_SectorData_l3 : XCode := .seq (.seq (.ops [⟨some 108, .mov (.tmp 17), none⟩, ⟨some 109, .mov (.tmp 14), none⟩, ⟨some 110, .bin .gtr (.tmp 108) (.tmp 109), none⟩] [0, 14, 17, 110]) (.cond (.tmp 110) .skip (.exit 6))) (.seq (.block 7 (.dops [.mk ⟨some 113, .mov (.tmp 0), none⟩ [0] 0 [], .mk ⟨some 114, .mov (.tmp 17), none⟩ [17] 0 [], .mk ⟨some 115, .mov (.tmp 0), none⟩ [0] 0 [], .mk ⟨some 116, .mov (.tmp 17), none⟩ [17] 0 [], .mk ⟨some 117, .bin .sub (.tmp 116) (.const (.int .i64 1)), none⟩ [116] 0 [], .mk ⟨some 118, .mov (.tmp 0), none⟩ [0] 0 [], .mk ⟨some 119, .mov (.tmp 17), none⟩ [17] 0 [], .mk ⟨some 120, .bin .sub (.tmp 119) (.const (.int .i64 1)), none⟩ [119] 0 [], .mk ⟨some 121, .idxA 4 (.tmp 118) (.tmp 120), none⟩ [118, 120] 0 [], .mk ⟨some 122, .ld (some 4) (.tmp 121), none⟩ [121] 1 [], .mk ⟨some 123, .mov (.tmp 0), none⟩ [0] 0 [], .mk ⟨some 124, .mov (.tmp 17), none⟩ [17] 0 [], .mk ⟨some 125, .idxA 4 (.tmp 123) (.tmp 124), none⟩ [123, 124] 0 [], .mk ⟨some 126, .ld (some 4) (.tmp 125), none⟩ [125] 1 [], .mk ⟨some 127, .idxA 4 (.tmp 113) (.tmp 114), none⟩ [113, 114] 0 [], .mk ⟨none, .st 4 (.tmp 127) (.tmp 122), none⟩ [127, 122] 2 [], .mk ⟨some 128, .idxA 4 (.tmp 115) (.tmp 117), none⟩ [115, 117] 0 [], .mk ⟨none, .st 4 (.tmp 128) (.tmp 126), none⟩ [128, 126] 2 []] [0, 14, 17])) (.ops [⟨some 111, .mov (.tmp 17), none⟩, ⟨some 112, .bin .sub (.tmp 111) (.const (.int .i64 1)), none⟩, ⟨some 17, .mov (.tmp 112), none⟩] [0, 14, 17]))
def xslices_symMergeCmpFunc_api_SectorData_l4 : XCode := .seq (.seq (.ops [⟨some 149, .mov (.tmp 20), none⟩, ⟨some 150, .mov (.tmp 21), none⟩, ⟨some 151, .bin .lss (.tmp 149) (.tmp 150), none⟩] [0, 1, 2, 3, 4, 18, 19, 20, 21, 22, 151]) (.cond (.tmp 151) .skip (.exit 8))) (.block 9 (.seq (.ops [⟨some 152, .mov (.tmp 20), none⟩, ⟨some 153, .mov (.tmp 21), none⟩, ⟨some 154, .bin .add (.tmp 152) (.tmp 153), none⟩, ⟨some 155, .conv .u64 (.tmp 154), none⟩, ⟨some 156, .bin .shr (.tmp 155) (.const (.int .u64 1)), none⟩, ⟨some 157, .conv .i64 (.tmp 156), none⟩, ⟨some 23, .mov (.tmp 157), none⟩] [0, 1, 2, 3, 4, 18, 19, 20, 21, 22, 23]) (.seq (.dops [.mk ⟨some 158, .mov (.tmp 4), none⟩ [4] 0 [], .mk ⟨some 159, .mov (.tmp 0), none⟩ [0] 0 [], .mk ⟨some 160, .mov (.tmp 22), none⟩ [22] 0 [], .mk ⟨some 161, .mov (.tmp 23), none⟩ [23] 0 [], .mk ⟨some 162, .bin .sub (.tmp 160) (.tmp 161), none⟩ [160, 161] 0 [], .mk ⟨some 163, .idxA 4 (.tmp 159) (.tmp 162), none⟩ [159, 162] 0 [], .mk ⟨some 164, .ld (some 4) (.tmp 163), none⟩ [163] 1 [], .mk ⟨some 165, .mov (.tmp 0), none⟩ [0] 0 [], .mk ⟨some 166, .mov (.tmp 23), none⟩ [23] 0 [], .mk ⟨some 167, .idxA 4 (.tmp 165) (.tmp 166), none⟩ [165, 166] 0 [], .mk ⟨some 168, .ld (some 4) (.tmp 167), none⟩ [167] 1 [], .mk ⟨some 169, .callv (.tmp 158) [.tmp 164, .tmp 168], none⟩ [158, 164, 168] 2 [], .mk ⟨some 170, .bin .lss (.tmp 169) (.const (.int .i64 0)), none⟩ [169] 0 [], .mk ⟨some 171, .flat (.unOp .not 4 (.tmp 170)) 4, none⟩ [170] 0 []] [0, 1, 2, 3, 4, 18, 19, 20, 21, 22, 23, 171]) (.cond (.tmp 171) (.ops [⟨some 172, .mov (.tmp 23), none⟩, ⟨some 173, .bin .add (.tmp 172) (.const (.int .i64 1)), none⟩, ⟨some 20, .mov (.tmp 173), none⟩] [0, 1, 2, 3, 4, 18, 19, 20, 21, 22]) (.ops [⟨some 174, .mov (.tmp 23), none⟩, ⟨some 21, .mov (.tmp 174), none⟩] [0, 1, 2, 3, 4, 18, 19, 20, 21, 22])))))
/-- slices.symMergeCmpFunc[bakelite/api.SectorData] -/
def xslices_symMergeCmpFunc_api_SectorData : XFunc := .code (.seq (.seq (.ops [⟨some 25, .mov (.tmp 2), none⟩, ⟨some 26, .mov (.tmp 1), none⟩, ⟨some 27, .bin .sub (.tmp 25) (.tmp 26), none⟩, ⟨some 28, .bin .eql (.tmp 27) (.const (.int .i64 1)), none⟩] [0, 1, 2, 3, 4, 28]) (.cond (.tmp 28) (.seq (.ops [⟨some 29, .mov (.tmp 2), none⟩, ⟨some 10, .mov (.tmp 29), none⟩] [0, 1, 3, 4, 10]) (.seq (.ops [⟨some 30, .mov (.tmp 3), none⟩, ⟨some 11, .mov (.tmp 30), none⟩] [0, 1, 4, 10, 11]) (.seq (.block 0 (.loop xslices_symMergeCmpFunc_api_SectorData_l0)) (.seq (.seq (.ops [⟨some 54, .mov (.tmp 1), none⟩, ⟨some 13, .mov (.tmp 54), none⟩] [0, 10, 13]) (.block 2 (.loop xslices_symMergeCmpFunc_api_SectorData_l1))) .ret)))) .skip)) (.seq (.seq (.ops [⟨some 77, .mov (.tmp 3), none⟩, ⟨some 78, .mov (.tmp 2), none⟩, ⟨some 79, .bin .sub (.tmp 77) (.tmp 78), none⟩, ⟨some 80, .bin .eql (.tmp 79) (.const (.int .i64 1)), none⟩] [0, 1, 2, 3, 4, 80]) (.cond (.tmp 80) (.seq (.ops [⟨some 81, .mov (.tmp 1), none⟩, ⟨some 14, .mov (.tmp 81), none⟩] [0, 2, 4, 14]) (.seq (.ops [⟨some 82, .mov (.tmp 2), none⟩, ⟨some 15, .mov (.tmp 82), none⟩] [0, 2, 4, 14, 15]) (.seq (.block 4 (.loop xslices_symMergeCmpFunc_api_SectorData_l2)) (.seq (.seq (.ops [⟨some 107, .mov (.tmp 2), none⟩, ⟨some 17, .mov (.tmp 107), none⟩] [0, 14, 17]) (.block 6 (.loop xslices_symMergeCmpFunc_api_SectorData_l3))) .ret)))) .skip)) (.seq (.ops [⟨some 129, .mov (.tmp 1), none⟩, ⟨some 130, .mov (.tmp 3), none⟩, ⟨some 131, .bin .add (.tmp 129) (.tmp 130), none⟩, ⟨some 132, .conv .u64 (.tmp 131), none⟩, ⟨some 133, .bin .shr (.tmp 132) (.const (.int .u64 1)), none⟩, ⟨some 134, .conv .i64 (.tmp 133), none⟩, ⟨some 18, .mov (.tmp 134), none⟩] [0, 1, 2, 3, 4, 18]) (.seq (.ops [⟨some 135, .mov (.tmp 18), none⟩, ⟨some 136, .mov (.tmp 2), none⟩, ⟨some 137, .bin .add (.tmp 135) (.tmp 136), none⟩, ⟨some 19, .mov (.tmp 137), none⟩] [0, 1, 2, 3, 4, 18, 19]) (.seq (.ops [⟨some 20, .mov (.const (.int .i64 0)), none⟩, ⟨some 21, .mov (.const (.int .i64 0)), none⟩] [0, 1, 2, 3, 4, 18, 19]) (.seq (.seq (.ops [⟨some 138, .mov (.tmp 2), none⟩, ⟨some 139, .mov (.tmp 18), none⟩, ⟨some 140, .bin .gtr (.tmp 138) (.tmp 139), none⟩] [0, 1, 2, 3, 4, 18, 19, 140]) (.cond (.tmp 140) (.seq (.ops [⟨some 141, .mov (.tmp 19), none⟩, ⟨some 142, .mov (.tmp 3), none⟩, ⟨some 143, .bin .sub (.tmp 141) (.tmp 142), none⟩, ⟨some 20, .mov (.tmp 143), none⟩] [0, 1, 2, 3, 4, 18, 19, 20]) (.ops [⟨some 144, .mov (.tmp 18), none⟩, ⟨some 21, .mov (.tmp 144), none⟩] [0, 1, 2, 3, 4, 18, 19, 20, 21])) (.seq (.ops [⟨some 145, .mov (.tmp 1), none⟩, ⟨some 20, .mov (.tmp 145), none⟩] [0, 1, 2, 3, 4, 18, 19, 20]) (.ops [⟨some 146, .mov (.tmp 2), none⟩, ⟨some 21, .mov (.tmp 146), none⟩] [0, 1, 2, 3, 4, 18, 19, 20, 21])))) (.seq (.ops [⟨some 147, .mov (.tmp 19), none⟩, ⟨some 148, .bin .sub (.tmp 147) (.const (.int .i64 1)), none⟩, ⟨some 22, .mov (.tmp 148), none⟩] [0, 1, 2, 3, 4, 18, 19, 20, 21, 22]) (.seq (.block 8 (.loop xslices_symMergeCmpFunc_api_SectorData_l4)) (.seq (.ops [⟨some 175, .mov (.tmp 19), none⟩, ⟨some 176, .mov (.tmp 20), none⟩, ⟨some 177, .bin .sub (.tmp 175) (.tmp 176), none⟩, ⟨some 24, .mov (.tmp 177), none⟩] [0, 1, 2, 3, 4, 18, 20, 24]) (.seq (.seq (.ops [⟨some 178, .mov (.tmp 20), none⟩, ⟨some 179, .mov (.tmp 2), none⟩, ⟨some 180, .bin .lss (.tmp 178) (.tmp 179), none⟩, ⟨some 181, .mov (.tmp 180), none⟩, ⟨some 182, .mov (.tmp 2), some (181, true)⟩, ⟨some 183, .mov (.tmp 24), some (181, true)⟩, ⟨some 184, .bin .lss (.tmp 182) (.tmp 183), some (181, true)⟩, ⟨some 185, .pick (.tmp 181) (.tmp 184) (.const (.bool false)), none⟩] [0, 1, 2, 3, 4, 18, 20, 24, 185]) (.cond (.tmp 185) (.ops [⟨some 186, .mov (.tmp 0), none⟩, ⟨some 187, .mov (.tmp 20), none⟩, ⟨some 188, .mov (.tmp 2), none⟩, ⟨some 189, .mov (.tmp 24), none⟩, ⟨some 190, .mov (.tmp 4), none⟩, ⟨some 191, .call 144 [.tmp 186, .tmp 187, .tmp 188, .tmp 189, .tmp 190], none⟩] [0, 1, 3, 4, 18, 20, 24]) .skip)) (.seq (.seq (.ops [⟨some 192, .mov (.tmp 1), none⟩, ⟨some 193, .mov (.tmp 20), none⟩, ⟨some 194, .bin .lss (.tmp 192) (.tmp 193), none⟩, ⟨some 195, .mov (.tmp 194), none⟩, ⟨some 196, .mov (.tmp 20), some (195, true)⟩, ⟨some 197, .mov (.tmp 18), some (195, true)⟩, ⟨some 198, .bin .lss (.tmp 196) (.tmp 197), some (195, true)⟩, ⟨some 199, .pick (.tmp 195) (.tmp 198) (.const (.bool false)), none⟩] [0, 1, 3, 4, 18, 20, 24, 199]) (.cond (.tmp 199) (.ops [⟨some 200, .mov (.tmp 0), none⟩, ⟨some 201, .mov (.tmp 1), none⟩, ⟨some 202, .mov (.tmp 20), none⟩, ⟨some 203, .mov (.tmp 18), none⟩, ⟨some 204, .mov (.tmp 4), none⟩, ⟨some 205, .call 142 [.tmp 200, .tmp 201, .tmp 202, .tmp 203, .tmp 204], none⟩] [0, 3, 4, 18, 24]) .skip)) (.seq (.ops [⟨some 206, .mov (.tmp 18), none⟩, ⟨some 207, .mov (.tmp 24), none⟩, ⟨some 208, .bin .lss (.tmp 206) (.tmp 207), none⟩, ⟨some 209, .mov (.tmp 208), none⟩, ⟨some 210, .mov (.tmp 24), some (209, true)⟩, ⟨some 211, .mov (.tmp 3), some (209, true)⟩, ⟨some 212, .bin .lss (.tmp 210) (.tmp 211), some (209, true)⟩, ⟨some 213, .pick (.tmp 209) (.tmp 212) (.const (.bool false)), none⟩] [0, 3, 4, 18, 24, 213]) (.cond (.tmp 213) (.ops [⟨some 214, .mov (.tmp 0), none⟩, ⟨some 215, .mov (.tmp 18), none⟩, ⟨some 216, .mov (.tmp 24), none⟩, ⟨some 217, .mov (.tmp 3), none⟩, ⟨some 218, .mov (.tmp 4), none⟩, ⟨some 219, .call 142 [.tmp 214, .tmp 215, .tmp 216, .tmp 217, .tmp 218], none⟩] []) .skip))))))))))))) []
theorem xslices_symMergeCmpFunc_api_SectorData_ok : cFunc Try.prog Try.f142 [[0,1,2,3,4,28],[0,1,3,4,10],[0,1,4,10,11],[0,1,4,10,11,33],[0,1,4,10,11,12],[0,1,4,10,11,12,50],[0,1,4,10,11],[0,1,4,10,11],[0,10,13],[0,10,13,58],[0,10,13],[0,10,13],[0,1,2,3,4,80],[0,2,4,14],[0,2,4,14,15],[0,2,4,14,15,85],[0,2,4,14,15,16],[0,2,4,14,15,16,103],[0,2,4,14,15],[0,2,4,14,15],[0,14,17],[0,14,17,110],[0,14,17],[0,14,17],[0,1,2,3,4,18],[0,1,2,3,4,18,19],[0,1,2,3,4,18,19],[0,1,2,3,4,18,19,140],[0,1,2,3,4,18,19,20],[0,1,2,3,4,18,19,20,21],[0,1,2,3,4,18,19,20],[0,1,2,3,4,18,19,20,21],[0,1,2,3,4,18,19,20,21,22],[0,1,2,3,4,18,19,20,21,22,151],[0,1,2,3,4,18,19,20,21,22,23],[0,1,2,3,4,18,19,20,21,22,23,171],[0,1,2,3,4,18,19,20,21,22],[0,1,2,3,4,18,19,20,21,22],[0,1,2,3,4,18,20,24],[0,1,2,3,4,18,20,24,185],[0,1,3,4,18,20,24],[0,1,3,4,18,20,24,199],[0,3,4,18,24],[0,3,4,18,24,213],[]] = some xslices_symMergeCmpFunc_api_SectorData := by kernel_rfl
def xslices_rotateCmpFunc_api_SectorData_l0 : XCode := .seq (.seq (.ops [⟨some 18, .mov (.tmp 10), none⟩, ⟨some 19, .mov (.tmp 11), none⟩, ⟨some 20, .bin .neq (.tmp 18) (.tmp 19), none⟩] [0, 2, 4, 10, 11, 20]) (.cond (.tmp 20) .skip (.exit 0))) (.block 1 (.seq (.ops [⟨some 21, .mov (.tmp 10), none⟩, ⟨some 22, .mov (.tmp 11), none⟩, ⟨some 23, .bin .gtr (.tmp 21) (.tmp 22), none⟩] [0, 2, 4, 10, 11, 23]) (.cond (.tmp 23) (.seq (.ops [⟨some 24, .mov (.tmp 0), none⟩, ⟨some 25, .mov (.tmp 2), none⟩, ⟨some 26, .mov (.tmp 10), none⟩, ⟨some 27, .bin .sub (.tmp 25) (.tmp 26), none⟩, ⟨some 28, .mov (.tmp 2), none⟩, ⟨some 29, .mov (.tmp 11), none⟩, ⟨some 30, .mov (.tmp 4), none⟩, ⟨some 31, .call 146 [.tmp 24, .tmp 27, .tmp 28, .tmp 29, .tmp 30], none⟩] [0, 2, 4, 10, 11]) (.ops [⟨some 32, .mov (.tmp 10), none⟩, ⟨some 33, .mov (.tmp 11), none⟩, ⟨some 34, .bin .sub (.tmp 32) (.tmp 33), none⟩, ⟨some 10, .mov (.tmp 34), none⟩] [0, 2, 4, 10, 11])) (.seq (.ops [⟨some 35, .mov (.tmp 0), none⟩, ⟨some 36, .mov (.tmp 2), none⟩, ⟨some 37, .mov (.tmp 10), none⟩, ⟨some 38, .bin .sub (.tmp 36) (.tmp 37), none⟩, ⟨some 39, .mov (.tmp 2), none⟩, ⟨some 40, .mov (.tmp 11), none⟩, ⟨some 41, .bin .add (.tmp 39) (.tmp 40), none⟩, ⟨some 42, .mov (.tmp 10), none⟩, ⟨some 43, .bin .sub (.tmp 41) (.tmp 42), none⟩, ⟨some 44, .mov (.tmp 10), none⟩, ⟨some 45, .mov (.tmp 4), none⟩, ⟨some 46, .call 146 [.tmp 35, .tmp 38, .tmp 43, .tmp 44, .tmp 45], none⟩] [0, 2, 4, 10, 11]) (.ops [⟨some 47, .mov (.tmp 11), none⟩, ⟨some 48, .mov (.tmp 10), none⟩, ⟨some 49, .bin .sub (.tmp 47) (.tmp 48), none⟩, ⟨some 11, .mov (.tmp 49), none⟩] [0, 2, 4, 10, 11])))))
/-- slices.rotateCmpFunc[bakelite/api.SectorData] -/
def xslices_rotateCmpFunc_api_SectorData : XFunc := .code (.seq (.ops [⟨some 12, .mov (.tmp 2), none⟩, ⟨some 13, .mov (.tmp 1), none⟩, ⟨some 14, .bin .sub (.tmp 12) (.tmp 13), none⟩, ⟨some 10, .mov (.tmp 14), none⟩] [0, 2, 3, 4, 10]) (.seq (.ops [⟨some 15, .mov (.tmp 3), none⟩, ⟨some 16, .mov (.tmp 2), none⟩, ⟨some 17, .bin .sub (.tmp 15) (.tmp 16), none⟩, ⟨some 11, .mov (.tmp 17), none⟩] [0, 2, 4, 10, 11]) (.seq (.block 0 (.loop xslices_rotateCmpFunc_api_SectorData_l0)) (.ops [⟨some 50, .mov (.tmp 0), none⟩, ⟨some 51, .mov (.tmp 2), none⟩, ⟨some 52, .mov (.tmp 10), none⟩, ⟨some 53, .bin .sub (.tmp 51) (.tmp 52), none⟩, ⟨some 54, .mov (.tmp 2), none⟩, ⟨some 55, .mov (.tmp 10), none⟩, ⟨some 56, .mov (.tmp 4), none⟩, ⟨some 57, .call 146 [.tmp 50, .tmp 53, .tmp 54, .tmp 55, .tmp 56], none⟩] [])))) []
theorem xslices_rotateCmpFunc_api_SectorData_ok : cFunc Try.prog Try.f144 [[0,2,3,4,10],[0,2,4,10,11],[0,2,4,10,11,20],[0,2,4,10,11,23],[0,2,4,10,11],[0,2,4,10,11],[0,2,4,10,11],[0,2,4,10,11],[]] = some xslices_rotateCmpFunc_api_SectorData := by kernel_rfl
def xslices_swapRangeCmpFunc_api_SectorData_l0 : XCode := .seq (.seq (.ops [⟨some 11, .mov (.tmp 10), none⟩, ⟨some 12, .mov (.tmp 3), none⟩, ⟨some 13, .bin .lss (.tmp 11) (.tmp 12), none⟩] [0, 1, 2, 3, 10, 13]) (.cond (.tmp 13) .skip (.exit 0))) (.seq (.block 1 (.dops [.mk ⟨some 16, .mov (.tmp 0), none⟩ [0] 0 [], .mk ⟨some 17, .mov (.tmp 1), none⟩ [1] 0 [], .mk ⟨some 18, .mov (.tmp 10), none⟩ [10] 0 [], .mk ⟨some 19, .bin .add (.tmp 17) (.tmp 18), none⟩ [17, 18] 0 [], .mk ⟨some 20, .mov (.tmp 0), none⟩ [0] 0 [], .mk ⟨some 21, .mov (.tmp 2), none⟩ [2] 0 [], .mk ⟨some 22, .mov (.tmp 10), none⟩ [10] 0 [], .mk ⟨some 23, .bin .add (.tmp 21) (.tmp 22), none⟩ [21, 22] 0 [], .mk ⟨some 24, .mov (.tmp 0), none⟩ [0] 0 [], .mk ⟨some 25, .mov (.tmp 2), none⟩ [2] 0 [], .mk ⟨some 26, .mov (.tmp 10), none⟩ [10] 0 [], .mk ⟨some 27, .bin .add (.tmp 25) (.tmp 26), none⟩ [25, 26] 0 [], .mk ⟨some 28, .idxA 4 (.tmp 24) (.tmp 27), none⟩ [24, 27] 0 [], .mk ⟨some 29, .ld (some 4) (.tmp 28), none⟩ [28] 1 [], .mk ⟨some 30, .mov (.tmp 0), none⟩ [0] 0 [], .mk ⟨some 31, .mov (.tmp 1), none⟩ [1] 0 [], .mk ⟨some 32, .mov (.tmp 10), none⟩ [10] 0 [], .mk ⟨some 33, .bin .add (.tmp 31) (.tmp 32), none⟩ [31, 32] 0 [], .mk ⟨some 34, .idxA 4 (.tmp 30) (.tmp 33), none⟩ [30, 33] 0 [], .mk ⟨some 35, .ld (some 4) (.tmp 34), none⟩ [34] 1 [], .mk ⟨some 36, .idxA 4 (.tmp 16) (.tmp 19), none⟩ [16, 19] 0 [], .mk ⟨none, .st 4 (.tmp 36) (.tmp 29), none⟩ [36, 29] 2 [], .mk ⟨some 37, .idxA 4 (.tmp 20) (.tmp 23), none⟩ [20, 23] 0 [], .mk ⟨none, .st 4 (.tmp 37) (.tmp 35), none⟩ [37, 35] 2 []] [0, 1, 2, 3, 10])) (.ops [⟨some 14, .mov (.tmp 10), none⟩, ⟨some 15, .bin .add (.tmp 14) (.const (.int .i64 1)), none⟩, ⟨some 10, .mov (.tmp 15), none⟩] [0, 1, 2, 3, 10]))
/-- slices.swapRangeCmpFunc[bakelite/api.SectorData] -/
def xslices_swapRangeCmpFunc_api_SectorData : XFunc := .code (.seq (.ops [⟨some 10, .mov (.const (.int .i64 0)), none⟩] [0, 1, 2, 3, 10]) (.block 0 (.loop xslices_swapRangeCmpFunc_api_SectorData_l0))) []
theorem xslices_swapRangeCmpFunc_api_SectorData_ok : cFunc Try.prog Try.f146 [[0,1,2,3,10],[0,1,2,3,10,13],[0,1,2,3,10],[0,1,2,3,10]] = some xslices_swapRangeCmpFunc_api_SectorData := by kernel_rfl
def tab : XTab := fun n => (bif Nat.blt n 100 then (bif Nat.blt n 48 then (bif Nat.blt n 36 then (bif Nat.blt n 14 then (bif Nat.beq n 9 then some xbakekeep2_MendGood else none) else (bif Nat.blt n 18 then (bif Nat.beq n 14 then some xbakemake_Below else none) else (bif Nat.beq n 18 then some xslices_Equal_Sbyte_byte else none))) else (bif Nat.blt n 46 then (bif Nat.beq n 36 then some xslices_Clone_Sbyte_byte else none) else (bif Nat.blt n 47 then (bif Nat.beq n 46 then some xbakemake_Bytes else none) else (bif Nat.beq n 47 then some xbakekeep2_MendGood_1 else none)))) else (bif Nat.blt n 97 then (bif Nat.blt n 67 then (bif Nat.beq n 48 then some xmend_Join else none) else (bif Nat.blt n 96 then (bif Nat.beq n 67 then some xbakemake_Stream_Next else none) else (bif Nat.beq n 96 then some xmend_Check else none))) else (bif Nat.blt n 98 then (bif Nat.beq n 97 then some xslices_Concat_Sapi_SectorData_api_SectorData else none) else (bif Nat.blt n 99 then (bif Nat.beq n 98 then some xslices_SortStableFunc_Sapi_SectorData_api_SectorData else none) else (bif Nat.beq n 99 then some xmend_Join_1 else none))))) else (bif Nat.blt n 131 then (bif Nat.blt n 128 then (bif Nat.blt n 101 then (bif Nat.beq n 100 then some xcmp_Or_int else none) else (bif Nat.blt n 102 then (bif Nat.beq n 101 then some xcmp_Compare_int else none) else (bif Nat.beq n 102 then some xmend_joined else none))) else (bif Nat.blt n 129 then (bif Nat.beq n 128 then some xslices_Grow_Sapi_SectorData_api_SectorData else none) else (bif Nat.blt n 130 then (bif Nat.beq n 129 then some xslices_stableCmpFunc_api_SectorData else none) else (bif Nat.beq n 130 then some xcmp_isNaN_int else none)))) else (bif Nat.blt n 141 then (bif Nat.blt n 132 then (bif Nat.beq n 131 then some xmend_vote else none) else (bif Nat.blt n 133 then (bif Nat.beq n 132 then some xslices_IndexFunc_Sapi_SectorData_api_SectorData else none) else (bif Nat.beq n 133 then some xmend_joined_1 else none))) else (bif Nat.blt n 144 then (bif Nat.blt n 142 then (bif Nat.beq n 141 then some xslices_insertionSortCmpFunc_api_SectorData else none) else (bif Nat.beq n 142 then some xslices_symMergeCmpFunc_api_SectorData else none)) else (bif Nat.blt n 146 then (bif Nat.beq n 144 then some xslices_rotateCmpFunc_api_SectorData else none) else (bif Nat.beq n 146 then some xslices_swapRangeCmpFunc_api_SectorData else none))))))
theorem tab_ok : ∀ n x, tab n = some x → FMatch Try.prog n x := by
  intro n x h
  unfold tab at h
  rcases two_ok h with h | h
  · rcases two_ok h with h | h
    · rcases two_ok h with h | h
      · rcases two_ok h with h | h
        · exact one_ok (f := n) (x := x) h (fun h2 h3 => by subst h2 h3; exact ⟨Try.f9, [[0,1,2,3],[1,2,3,9],[1,2,3,9,10],[1,2,3,9,10],[1,2,9,10,11,12],[9,11,12,13,14],[9,11,13,71],[8],[8]], Try.func9, xbakekeep2_MendGood_ok⟩)
        · rcases two_ok h with h | h
          · exact one_ok (f := n) (x := x) h (fun h2 h3 => by subst h2 h3; exact ⟨Try.f14, [[0,1],[0,1],[0,1,9],[0],[4]], Try.func14, xbakemake_Below_ok⟩)
          · exact one_ok (f := n) (x := x) h (fun h2 h3 => by subst h2 h3; exact ⟨Try.f18, [[0,1],[0,1,10],[4],[0,1,12,13],[0,1,12,13,14],[0,1,5,12,13],[0,1,12,13,24],[4],[0,1,12,13],[4]], Try.func18, xslices_Equal_Sbyte_byte_ok⟩)
      · rcases two_ok h with h | h
        · exact one_ok (f := n) (x := x) h (fun h2 h3 => by subst h2 h3; exact ⟨Try.f36, [[0],[0,4],[2],[2]], Try.func36, xslices_Clone_Sbyte_byte_ok⟩)
        · rcases two_ok h with h | h
          · exact one_ok (f := n) (x := x) h (fun h2 h3 => by subst h2 h3; exact ⟨Try.f46, [[0,1],[1,5],[5,6],[5,6,15,16],[5,6,15,16,17],[5,6,7,15,16],[5,6,15,16],[5,6,15,16],[4]], Try.func46, xbakemake_Bytes_ok⟩)
          · exact one_ok (f := n) (x := x) h (fun h2 h3 => by subst h2 h3; exact ⟨Try.f47, [[0,1,2,5],[0,1,5,6],[0,5,6,11],[5,6],[5]], Try.func47, xbakekeep2_MendGood_1_ok⟩)
    · rcases two_ok h with h | h
      · rcases two_ok h with h | h
        · exact one_ok (f := n) (x := x) h (fun h2 h3 => by subst h2 h3; exact ⟨Try.f48, [[0],[0,4],[0,4,12],[2,3],[5],[5],[5,6],[5,6,7],[5,6,7,21],[5,6,7,8],[5,6,7,8,52],[5,6,7,8],[5,6,7],[2,3]], Try.func48, xmend_Join_ok⟩)
        · rcases two_ok h with h | h
          · exact one_ok (f := n) (x := x) h (fun h2 h3 => by subst h2 h3; exact ⟨Try.f67, [[0,1],[0,1,15],[4],[0,1,5],[1,5],[4]], Try.func67, xbakemake_Stream_Next_ok⟩)
          · exact one_ok (f := n) (x := x) h (fun h2 h3 => by subst h2 h3; exact ⟨Try.f96, [[0],[0,9],[2],[10,11,12],[10,11,12,13],[4,10,11,12],[4,10,11,12,18],[2],[10,11,12,19,20,21],[10,11,12,19,20,21,22],[6,10,11,12,19,20,21],[10,11,12,19,20,21,28],[2],[10,11,12,19,20,21],[10,11,12],[2]], Try.func96, xmend_Check_ok⟩)
      · rcases two_ok h with h | h
        · exact one_ok (f := n) (x := x) h (fun h2 h3 => by subst h2 h3; exact ⟨Try.f97, [[0],[0,3],[0,3,9,10,11],[0,3,9,10,11,12],[0,3,5,9,10,11],[0,3,9,10,11],[0,3,9,10,11,20],[0,3,9,10,11],[0,3,9,10,11],[0,6],[6,25,26,27],[6,25,26,27,28],[6,8,25,26,27],[6,25,26,27],[6,25,26,27],[2]], Try.func97, xslices_Concat_Sapi_SectorData_api_SectorData_ok⟩)
        · rcases two_ok h with h | h
          · exact one_ok (f := n) (x := x) h (fun h2 h3 => by subst h2 h3; exact ⟨Try.f98, [[]], Try.func98, xslices_SortStableFunc_Sapi_SectorData_api_SectorData_ok⟩)
          · exact one_ok (f := n) (x := x) h (fun h2 h3 => by subst h2 h3; exact ⟨Try.f99, [[2,3],[4]], Try.func99, xmend_Join_1_ok⟩)
  · rcases two_ok h with h | h
    · rcases two_ok h with h | h
      · rcases two_ok h with h | h
        · exact one_ok (f := n) (x := x) h (fun h2 h3 => by subst h2 h3; exact ⟨Try.f100, [[0],[0,3],[3,6,7,8],[3,6,7,8,9],[3,5,6,7,8],[3,5,6,7,8,14],[2],[3,6,7,8],[2]], Try.func100, xcmp_Or_int_ok⟩)
        · rcases two_ok h with h | h
          · exact one_ok (f := n) (x := x) h (fun h2 h3 => by subst h2 h3; exact ⟨Try.f101, [[0,1],[0,1,5],[0,1,5,6],[0,1,6,11],[12],[4],[4],[0,1,13],[4],[0,1,16],[4],[19],[4],[4]], Try.func101, xcmp_Compare_int_ok⟩)
          · exact one_ok (f := n) (x := x) h (fun h2 h3 => by subst h2 h3; exact ⟨Try.f102, [[0,2],[0,2,3],[0,2,3,4],[0,2,3,4,25,26],[0,2,3,4,25,26,27],[0,2,3,4,5,25,26],[0,2,3,4,5,6,7,25,26],[0,2,3,4,7,25,26],[0,2,3,4,25,26,39],[0,2,3,4,25,26],[0,2,3,4,25,26],[0,2,3,4,8],[0,2,3,4,8,48],[0,2,3,4],[0,2,3,4],[2,3,4,60,61,62],[2,3,4,60,61,62,63],[2,3,4,10,60,61,62],[2,3,4,60,61,62,69],[2,3,4,60,61,62],[2,3,4,60,61,62],[2]], Try.func102, xmend_joined_ok⟩)
      · rcases two_ok h with h | h
        · exact one_ok (f := n) (x := x) h (fun h2 h3 => by subst h2 h3; exact ⟨Try.f128, [[0,1],[0,1,6],[0,1],[0,1],[0,1,16],[0],[4]], Try.func128, xslices_Grow_Sapi_SectorData_api_SectorData_ok⟩)
        · rcases two_ok h with h | h
          · exact one_ok (f := n) (x := x) h (fun h2 h3 => by subst h2 h3; exact ⟨Try.f129, [[0,1,2,6],[0,1,2,6,7,8],[0,1,2,6,7,8,13],[0,1,2,6,8],[0,1,2,6,7,8],[0,1,2,6,7,8],[0,1,2,6],[0,1,2,6,30],[0,1,2,6,7,8],[0,1,2,6,7,8,35],[0,1,2,6,8],[0,1,2,6,7,8],[0,1,2,6,7,8],[0,1,2,6,7,9],[0,1,2,6,7,9,54],[0,1,2,6],[0,1,2,6]], Try.func129, xslices_stableCmpFunc_api_SectorData_ok⟩)
          · exact one_ok (f := n) (x := x) h (fun h2 h3 => by subst h2 h3; exact ⟨Try.f130, [[0],[2]], Try.func130, xcmp_isNaN_int_ok⟩)
    · rcases two_ok h with h | h
      · rcases two_ok h with h | h
        · exact one_ok (f := n) (x := x) h (fun h2 h3 => by subst h2 h3; exact ⟨Try.f131, [[0,1],[0,1,6],[0,1,6,11,12,13],[0,1,6,11,12,13,14],[0,1,6,8,11,12,13],[0,1,6,11,12,13],[0,1,6,11,12,13],[0,6,9],[0,6,9,27],[0,6,9,27,28],[0,6,9,10,27],[0,6,9,10,27,36],[0,6,9,27],[0,6,9,27],[4,5]], Try.func131, xmend_vote_ok⟩)
        · rcases two_ok h with h | h
          · exact one_ok (f := n) (x := x) h (fun h2 h3 => by subst h2 h3; exact ⟨Try.f132, [[0,1],[0,1,7,8],[0,1,7,8,9],[0,1,5,7,8],[0,1,5,7,8,16],[4],[0,1,7,8],[4]], Try.func132, xslices_IndexFunc_Sapi_SectorData_api_SectorData_ok⟩)
          · exact one_ok (f := n) (x := x) h (fun h2 h3 => by subst h2 h3; exact ⟨Try.f133, [[1],[2]], Try.func133, xmend_joined_1_ok⟩)
      · rcases two_ok h with h | h
        · rcases two_ok h with h | h
          · exact one_ok (f := n) (x := x) h (fun h2 h3 => by subst h2 h3; exact ⟨Try.f141, [[0,1,2,3,8],[0,1,2,3,8,14],[0,1,2,3,8,9],[0,1,2,3,8,9,34],[0,1,2,3,8,9],[0,1,2,3,8,9],[0,1,2,3,8]], Try.func141, xslices_insertionSortCmpFunc_api_SectorData_ok⟩)
          · exact one_ok (f := n) (x := x) h (fun h2 h3 => by subst h2 h3; exact ⟨Try.f142, [[0,1,2,3,4,28],[0,1,3,4,10],[0,1,4,10,11],[0,1,4,10,11,33],[0,1,4,10,11,12],[0,1,4,10,11,12,50],[0,1,4,10,11],[0,1,4,10,11],[0,10,13],[0,10,13,58],[0,10,13],[0,10,13],[0,1,2,3,4,80],[0,2,4,14],[0,2,4,14,15],[0,2,4,14,15,85],[0,2,4,14,15,16],[0,2,4,14,15,16,103],[0,2,4,14,15],[0,2,4,14,15],[0,14,17],[0,14,17,110],[0,14,17],[0,14,17],[0,1,2,3,4,18],[0,1,2,3,4,18,19],[0,1,2,3,4,18,19],[0,1,2,3,4,18,19,140],[0,1,2,3,4,18,19,20],[0,1,2,3,4,18,19,20,21],[0,1,2,3,4,18,19,20],[0,1,2,3,4,18,19,20,21],[0,1,2,3,4,18,19,20,21,22],[0,1,2,3,4,18,19,20,21,22,151],[0,1,2,3,4,18,19,20,21,22,23],[0,1,2,3,4,18,19,20,21,22,23,171],[0,1,2,3,4,18,19,20,21,22],[0,1,2,3,4,18,19,20,21,22],[0,1,2,3,4,18,20,24],[0,1,2,3,4,18,20,24,185],[0,1,3,4,18,20,24],[0,1,3,4,18,20,24,199],[0,3,4,18,24],[0,3,4,18,24,213],[]], Try.func142, xslices_symMergeCmpFunc_api_SectorData_ok⟩)
        · rcases two_ok h with h | h
          · exact one_ok (f := n) (x := x) h (fun h2 h3 => by subst h2 h3; exact ⟨Try.f144, [[0,2,3,4,10],[0,2,4,10,11],[0,2,4,10,11,20],[0,2,4,10,11,23],[0,2,4,10,11],[0,2,4,10,11],[0,2,4,10,11],[0,2,4,10,11],[]], Try.func144, xslices_rotateCmpFunc_api_SectorData_ok⟩)
          · exact one_ok (f := n) (x := x) h (fun h2 h3 => by subst h2 h3; exact ⟨Try.f146, [[0,1,2,3,10],[0,1,2,3,10,13],[0,1,2,3,10],[0,1,2,3,10]], Try.func146, xslices_swapRangeCmpFunc_api_SectorData_ok⟩)
end Go.Proofs.Ytejedmocjdcdgaa.D

set_option linter.unusedSimpArgs false
set_option linter.unusedVariables false
namespace Go.Proofs.Ytejedmocjdcdgaa.D
open Go Go.Det

/-- The running sums of a list. -/
def sums : Int → List Int → List Int
  | _, [] => []
  | a, p :: t => (a + p) :: sums (a + p) t
/-- The differences of a list. -/
def difs : Int → List Int → List Int
  | _, [] => []
  | a, x :: t => (x - a) :: difs x t
theorem sums_len (t : List Int) : ∀ a, (sums a t).length = t.length := by
  induction t with
  | nil => intro a; rfl
  | cons p t ih => intro a; simp [sums, ih]
theorem difs_len (t : List Int) : ∀ a, (difs a t).length = t.length := by
  induction t with
  | nil => intro a; rfl
  | cons p t ih => intro a; simp [difs, ih]
theorem difs_sums (t : List Int) : ∀ a, difs a (sums a t) = t := by
  induction t with
  | nil => intro a; rfl
  | cons p t ih => intro a; simp only [sums, difs, ih]; rw [Int.add_comm a p, Int.add_sub_cancel]
theorem sums_difs (t : List Int) : ∀ a, sums a (difs a t) = t := by
  induction t with
  | nil => intro a; rfl
  | cons p t ih =>
    intro a
    simp only [sums, difs]
    have : a + (p - a) = p := by omega
    rw [this, ih]
/-- Times that a track may have. -/
def Ok (t : List Int) : Prop := ∀ p ∈ t, 1 ≤ p ∧ p ≤ 100000
/-- The track of raw numbers. -/
def trk (l : List Int) : List Int := (l.take 1000).map fun x => 8 + x % 300
theorem trk_len (l : List Int) : (trk l).length ≤ 1000 := by simp [trk]; omega
theorem trk_ok (l : List Int) : ∀ p ∈ trk l, 8 ≤ p ∧ p ≤ 307 := by
  intro p hp
  simp only [trk, List.mem_map] at hp
  obtain ⟨x, _, rfl⟩ := hp
  omega
theorem sums_bnd (t : List Int) : ∀ a, 0 ≤ a → Ok t → ∀ x ∈ sums a t, 0 ≤ x ∧ x ≤ a + 100000 * (t.length : Int) := by
  induction t with
  | nil => intro a _ _ x hx; simp [sums] at hx
  | cons p t ih =>
    intro a h0 h x hx
    have hp := h p (by simp)
    simp only [sums, List.mem_cons] at hx
    simp only [List.length_cons]
    rcases hx with rfl | hx
    · omega
    · have := ih (a + p) (by omega) (fun q hq => h q (by simp [hq])) x hx
      omega
theorem app1 (pre : List Int) (a : Int) (rest : List Int) : pre ++ a :: rest = (pre ++ [a]) ++ rest := by simp
theorem below_xc' (a b : Int) (H : AH) (hb : 0 < b) (hb' : b < 4611686018427387904) : xc Try.prog tab 14 [.int .i64 a, .int .i64 b] H = some (.int .i64 (a % b), H) := by
  have go : Got (xc Try.prog tab 14 [.int .i64 a, .int .i64 b] H) fun v H' => v = .int .i64 (a % b) ∧ H' = H := by
    refine got_call (res := [.tmp 4]) rfl ?_
    have hb0 : ¬ b = 0 := by omega
    have h1 := Int.tmod_lt_of_pos a hb
    have h2 : -b < Int.tmod a b := by
      have := Int.lt_tmod_of_pos a hb; simpa using this
    have e : a % b = if Int.tmod a b < 0 then Int.tmod a b + b else Int.tmod a b := by
      have h3 : a = b * Int.tdiv a b + Int.tmod a b := (Int.mul_tdiv_add_tmod a b).symm
      have h4 : a % b = Int.tmod a b % b := by
        conv => lhs; rw [h3]
        rw [Int.mul_add_emod_self_left]
      rw [h4]
      split
      · rw [← Int.add_emod_right, Int.emod_eq_of_lt (by omega) (by omega)]
      · rw [Int.emod_eq_of_lt (by omega) (by omega)]
    simp only [ofArgs, run_seq, run_block, run_ops, run_skip, run_exit, run_ret, thenQ_normal, thenQ_exit, thenQ_ret, blockQ_normal, blockQ_exit, blockQ_ret, retQ_ret, retQ_normal, ops_nil, ops_none, got_some, ops_wT, ops_wTn, ops_wF, ops_wFn, ops_wU, dops_wT, dops_wTn, dops_wF, dops_wFn, dops_wU, run_condT, run_condF, alt2_int, altB_bool, altI_int, altBB_bool, v_min, v_max, v_not, v_neg, optEv_none, optEv_some, isSome'_none, isSome'_some, pExt0, pExt1, pExt2, Bool.false_and, Bool.true_and, Bool.not_true, Bool.not_false, cond_true, cond_false, dops_nil, dops_none, xval_call, v_mov, v_bin, v_len, v_ext, v_idxA, v_ld, v_st, v_app, v_appN, v_cvs, v_bs1, pBs1, v_slc, v_conv, v_fld, v_fldA, v_new, v_box, v_mks, v_copy, v_isnil, v_nilck, v_pick, ev, evs_nil, evs_cons, fr_get_cons, fr_put_nil, fr_put_cons, fr_put_some, fr_put_none, fr_keep_nil, fr_keep_cons, fr_has_nil, fr_has_cons, Option.bind_some, Option.map_some, xbin, ibin, xresult_eq, xress_nil, xress_tmp, resV, ex_some, if_true, if_false, ite_true, ite_false, reduceIte, reduceCtorEq, Nat.reduceEqDiff, Nat.reduceLT, Nat.reduceLeDiff, Int.reduceLT, Int.reduceLE, Nat.zero_add, Nat.reduceAdd, Bool.false_eq_true, decide_eq_true_eq, decide_eq_false_iff_not, true_implies, false_implies, and_true, true_and, run_cond, cond_some, hb0]
    refine ⟨fun h => ?_, fun h => ?_⟩
    · rw [wrI _ (by omega) (by omega), e, if_pos h]
    · rw [e, if_neg h]
  obtain ⟨v, H', h, rfl, rfl⟩ := go
  exact h
theorem below_xc (a b : Int) (H : AH) (hb : 0 < b) (hb' : b < 1000000) : xc Try.prog tab 14 [.int .i64 a, .int .i64 b] H = some (.int .i64 (a % b), H) := below_xc' a b H hb (by omega)

theorem got_xc {f : FuncId} {args : List Value} {H : AH} {v : Value} (h : Got (xc Try.prog tab f args H) fun v' H' => v' = v ∧ H' = H) : xc Try.prog tab f args H = some (v, H) := by
  obtain ⟨v, H', h, rfl, rfl⟩ := h
  exact h

end Go.Proofs.Ytejedmocjdcdgaa.D

set_option linter.unusedSimpArgs false
set_option linter.unusedVariables false
namespace Go.Proofs.Ytejedmocjdcdgaa.D
open Go Go.Det

theorem hext_ints {H H' : AH} {s : Value} {l : List Int} (hx : HExt H H') (hs : Ints H s l) : Ints H' s l := Sl.ext hx hs

end Go.Proofs.Ytejedmocjdcdgaa.D

set_option linter.unusedSimpArgs false
set_option linter.unusedVariables false
namespace Go.Proofs.Ytejedmocjdcdgaa.D
open Go Go.Det

def nears (d : Int) : List Int → List Int → Bool
  | a :: s, b :: t => decide (a - b ≤ d) && decide (b - a ≤ d) && nears d s t
  | _, _ => true

end Go.Proofs.Ytejedmocjdcdgaa.D

set_option linter.unusedSimpArgs false
set_option linter.unusedVariables false
namespace Go.Proofs.Ytejedmocjdcdgaa.D
open Go Go.Det

theorem dbl (t : List Int) : ∀ a, difs (2 * a) ((sums a t).map fun x => Int.tdiv (x * 2) 1) = t.map fun x => 2 * x := by
  induction t with
  | nil => intro a; rfl
  | cons p t ih =>
    intro a
    simp only [sums, difs, List.map_cons]
    have e : Int.tdiv ((a + p) * 2) 1 = 2 * (a + p) := by rw [Int.tdiv_one]; omega
    rw [e, ih]
    congr 1
    omega
theorem dbl_sum (t : List Int) : (t.map fun x => 2 * x).sum = 2 * t.sum := by
  induction t with
  | nil => rfl
  | cons p t ih => simp [ih]; omega
theorem same_map (t : List Int) (n : Int) (hn : 1 ≤ n) : (t.map fun x => Int.tdiv (x * n) n) = t := by
  induction t with
  | nil => rfl
  | cons p t ih =>
    simp only [List.map_cons, ih]
    rw [Int.mul_tdiv_cancel _ (by omega)]
theorem nears_self (t : List Int) : nears 0 t t = true := by
  induction t with
  | nil => rfl
  | cons p t ih => simp [nears, ih]
theorem sum_bnd (t : List Int) (h : Ok t) : 0 ≤ t.sum ∧ t.sum ≤ 100000 * (t.length : Int) := by
  induction t with
  | nil => simp
  | cons p t ih =>
    have hp := h p (by simp)
    have := ih (fun q hq => h q (by simp [hq]))
    simp only [List.sum_cons, List.length_cons]
    omega

end Go.Proofs.Ytejedmocjdcdgaa.D

set_option linter.unusedSimpArgs false
set_option linter.unusedVariables false
namespace Go.Proofs.Ytejedmocjdcdgaa.D
open Go Go.Det

/-- a number, limited to most on both sides -/
def clampI (most x : Int) : Int := if -most < (if x < most then x else most) then (if x < most then x else most) else -most
/-- by how much the change number k is moved -/
def mvAt (l : List Int) (most : Int) (k : Nat) : Int := if l.length = 0 then 0 else clampI most (l.getD (k % l.length) 0)
def shk (l : List Int) (most : Int) : Nat → List Int → List Int
  | _, [] => []
  | k, x :: r => (x + mvAt l most k) :: shk l most (k + 1) r
def anyM (l : List Int) (most : Int) : Nat → Nat → Bool
  | _, 0 => false
  | k, n + 1 => (mvAt l most k != 0) || anyM l most (k + 1) n

theorem clamp_bnd (most x : Int) (h : 0 ≤ most) : -most ≤ clampI most x ∧ clampI most x ≤ most := by
  unfold clampI; split <;> split at * <;> omega
theorem mv_bnd (l : List Int) (most : Int) (h : 0 ≤ most) (k : Nat) : -most ≤ mvAt l most k ∧ mvAt l most k ≤ most := by
  unfold mvAt
  split
  · omega
  · exact clamp_bnd most _ h
theorem shk_len (l : List Int) (most : Int) (s : List Int) : ∀ k, (shk l most k s).length = s.length := by
  induction s with
  | nil => intro k; rfl
  | cons x r ih => intro k; simp [shk, ih]
theorem shk_ok (l : List Int) (most : Int) (h : 0 ≤ most) (h3 : most ≤ 3) (t : List Int) : ∀ (a m0 : Int) (k : Nat), -3 ≤ m0 → m0 ≤ 3 → (∀ p ∈ t, 8 ≤ p ∧ p ≤ 307) → Ok (difs (a + m0) (shk l most k (sums a t))) := by
  induction t with
  | nil => intro a m0 k _ _ _ p hp; simp [sums, shk, difs] at hp
  | cons p t ih =>
    intro a m0 k h1 h2 hp q hq
    have hb := mv_bnd l most h k
    have h8 := hp p (by simp)
    simp only [sums, shk, difs, List.mem_cons] at hq
    rcases hq with rfl | hq
    · omega
    · exact ih (a + p) (mvAt l most k) (k + 1) (by omega) (by omega) (fun x hx => hp x (by simp [hx])) q hq
theorem shk_near (l : List Int) (most : Int) (h : 0 ≤ most) (s : List Int) : ∀ k, nears most s (shk l most k s) = true := by
  induction s with
  | nil => intro k; rfl
  | cons x r ih =>
    intro k
    have hb := mv_bnd l most h k
    simp only [shk, nears, ih, Bool.and_true, Bool.and_eq_true, decide_eq_true_eq]
    omega
theorem shk_near0 (l : List Int) (most : Int) (s : List Int) : ∀ k, nears 0 s (shk l most k s) = !(anyM l most k s.length) := by
  induction s with
  | nil => intro k; rfl
  | cons x r ih =>
    intro k
    simp only [shk, nears, ih, List.length_cons, anyM]
    by_cases hm : mvAt l most k = 0
    · have e1 : decide (x - (x + mvAt l most k) ≤ 0) = true := by simp; omega
      have e2 : decide (x + mvAt l most k - x ≤ 0) = true := by simp; omega
      rw [e1, e2, hm]; simp
    · have hne : (mvAt l most k != 0) = true := by simpa using hm
      rw [hne]
      by_cases hp : 0 < mvAt l most k
      · have e2 : decide (x + mvAt l most k - x ≤ 0) = false := by simp; omega
        rw [e2]; simp
      · have e1 : decide (x - (x + mvAt l most k) ≤ 0) = false := by simp; omega
        rw [e1]; simp
theorem shk_eq (l : List Int) (most : Int) (s : List Int) : ∀ k, (s = shk l most k s) ↔ anyM l most k s.length = false := by
  induction s with
  | nil => intro k; simp [shk, anyM]
  | cons x r ih =>
    intro k
    simp only [shk, List.length_cons, anyM, List.cons.injEq, Bool.or_eq_false_iff, ih (k + 1)]
    have : x = x + mvAt l most k ↔ (mvAt l most k != 0) = false := by simp; omega
    rw [this]

end Go.Proofs.Ytejedmocjdcdgaa.D

set_option linter.unusedSimpArgs false
set_option linter.unusedVariables false
namespace Go.Proofs.Ytejedmocjdcdgaa.D
open Go Go.Det

theorem pNil_ptr (a : Addr) (H : AH) : pNil (.pointer (some a)) H = some (.pointer (some a), H) := rfl
theorem pFldA_ptr (off B o : Nat) (H : AH) : pFldA off (.pointer (some ⟨B, o, none⟩)) H = some (.pointer (some ⟨B, o + off, none⟩), H) := rfl
theorem pLd_box {H : AH} {B : Nat} {v : Value} {sz : Nat} {opn ro : Bool} (h : H.get B = some ⟨[v], sz, opn, ro⟩) : pLd none (.pointer (some ⟨B, 0, none⟩)) H = some (v, H) := by
  unfold pLd
  simp only [h, Option.bind_some, partV]
  rfl
theorem pSt_box {H : AH} {B : Nat} {v u : Value} {sz : Nat} {opn : Bool} (h : H.get B = some ⟨[v], sz, opn, false⟩) (h1 : one u = true) (h2 : vcells u = [u]) : pSt 1 (.pointer (some ⟨B, 0, none⟩)) u H = some (undef, H.set B ⟨[u], sz, opn, false⟩) := by
  unfold pSt
  simp only [h, Option.bind_some, h2, List.length_singleton, List.all_cons, List.all_nil, h1]
  rfl

theorem Sl.set {H : AH} {B sz n : Nat} {s : Value} {cs : List Value} {blk : Blk} (h : Sl H sz s n cs) (hB : ¬ inB s B) : Sl (H.set B blk) sz s n cs := by
  have hg : ∀ b, inB s b → (H.set B blk).get b = H.get b := by
    intro b hb
    rw [AH.get_set, if_neg (fun e : b = B => hB (by rw [← e]; exact hb))]
  rcases h with h | ⟨C, o, h1, h2, h3, h4⟩ | ⟨C, o, c, b, h1, h2, h3, h4⟩
  · exact .inl h
  · exact .inr (.inl ⟨C, o, h1, h2, (hg C ⟨_, _, _, h1⟩).trans h3, h4⟩)
  · exact .inr (.inr ⟨C, o, c, b, h1, h2, (hg C ⟨_, _, _, h1⟩).trans h3, h4⟩)

/-- a stream of numbers: a box with what is left -/
structure Strm (n0 : Nat) (H : AH) (B : Nat) (v : Value) (l : List Int) : Prop where
  nb : n0 ≤ B
  lt : B < H.n
  box : H.get B = some ⟨[v], 1, false, false⟩
  ints : Ints H v l
  out : ∀ b, inB v b → b < n0

theorem sl_slice {H : AH} {sz n : Nat} {s : Value} {cs : List Value} (h : Sl H sz s n cs) : one s = true ∧ vcells s = [s] := by
  rcases h with ⟨rfl, _⟩ | ⟨B, o, rfl, _⟩ | ⟨B, o, c, blk, rfl, _⟩ <;> exact ⟨rfl, rfl⟩

theorem next_ok (n0 B : Nat) (v : Value) (l : List Int) (n : Int) (hn : 0 < n) (hn' : n < 1000000) (H : AH) (Q : Value → AH → Prop) (hs : Strm n0 H B v l)
    (hq : ∀ v' H', H'.n = H.n → (∀ b, b ≠ B → H'.get b = H.get b) → Strm n0 H' B v' l.tail → Q (.int .i64 (l.headD 0 % n)) H') : Got (xc Try.prog tab 67 [.pointer (some ⟨B, 0, none⟩), .int .i64 n] H) Q := by
  refine got_call (res := [.tmp 4]) rfl ?_
  have c1 : ¬ n < 1 := by omega
  have e1 := pLd_box hs.box
  have e2 := ints_len hs.ints
  cases l with
  | nil =>
    have := hq v H rfl (fun _ _ => rfl) hs
    simp only [ofArgs, run_seq, run_block, run_ops, run_skip, run_exit, run_ret, thenQ_normal, thenQ_exit, thenQ_ret, blockQ_normal, blockQ_exit, blockQ_ret, retQ_ret, retQ_normal, ops_nil, ops_none, got_some, ops_wT, ops_wTn, ops_wF, ops_wFn, ops_wU, dops_wT, dops_wTn, dops_wF, dops_wFn, dops_wU, run_condT, run_condF, alt2_int, altB_bool, altI_int, altBB_bool, v_min, v_max, v_not, v_neg, optEv_none, optEv_some, isSome'_none, isSome'_some, pExt0, pExt1, pExt2, Bool.false_and, Bool.true_and, Bool.not_true, Bool.not_false, cond_true, cond_false, dops_nil, dops_none, xval_call, v_mov, v_bin, v_len, v_ext, v_idxA, v_ld, v_st, v_app, v_appN, v_cvs, v_bs1, pBs1, v_slc, v_conv, v_fld, v_fldA, v_new, v_box, v_mks, v_copy, v_isnil, v_nilck, v_pick, ev, evs_nil, evs_cons, fr_get_cons, fr_put_nil, fr_put_cons, fr_put_some, fr_put_none, fr_keep_nil, fr_keep_cons, fr_has_nil, fr_has_cons, Option.bind_some, Option.map_some, xbin, ibin, xresult_eq, xress_nil, xress_tmp, resV, ex_some, if_true, if_false, ite_true, ite_false, reduceIte, reduceCtorEq, Nat.reduceEqDiff, Nat.reduceLT, Nat.reduceLeDiff, Int.reduceLT, Int.reduceLE, Nat.zero_add, Nat.reduceAdd, Bool.false_eq_true, decide_eq_true_eq, decide_eq_false_iff_not, true_implies, false_implies, and_true, true_and, pNil_ptr, pFldA_ptr, Nat.add_zero, e1, e2, c1, decide_false, List.length_nil, Int.ofNat_zero, Int.natCast_zero, beq_self_eq_true]
    simpa using this
  | cons x r =>
    have c2 : (((x :: r).length : Int) == 0) = false := by simp; omega
    have e3 := ints_idx hs.ints 0 0 rfl (by simp)
    have e4 := ints_ld hs.ints 0 x rfl
    have e5 := fun H => below_xc x n H hn hn'
    obtain ⟨s', k1, k2, k3, _⟩ := xslc_ok (lo := some (.int .i64 1)) (hi := none) (i := 1) (h := (x :: r).length) hs.ints rfl rfl (by simp) (Nat.le_refl _)
    have k2' : Ints H s' r := by
      unfold Ints
      have e : (r.map (Value.int .i64)).take r.length = r.map (Value.int .i64) := List.take_of_length_le (by simp)
      simpa [e] using k2
    obtain ⟨o1, o2⟩ := sl_slice k2'
    have e6 := pSt_box hs.box o1 o2
    simp only [ofArgs, run_seq, run_block, run_ops, run_skip, run_exit, run_ret, thenQ_normal, thenQ_exit, thenQ_ret, blockQ_normal, blockQ_exit, blockQ_ret, retQ_ret, retQ_normal, ops_nil, ops_none, got_some, ops_wT, ops_wTn, ops_wF, ops_wFn, ops_wU, dops_wT, dops_wTn, dops_wF, dops_wFn, dops_wU, run_condT, run_condF, alt2_int, altB_bool, altI_int, altBB_bool, v_min, v_max, v_not, v_neg, optEv_none, optEv_some, isSome'_none, isSome'_some, pExt0, pExt1, pExt2, Bool.false_and, Bool.true_and, Bool.not_true, Bool.not_false, cond_true, cond_false, dops_nil, dops_none, xval_call, v_mov, v_bin, v_len, v_ext, v_idxA, v_ld, v_st, v_app, v_appN, v_cvs, v_bs1, pBs1, v_slc, v_conv, v_fld, v_fldA, v_new, v_box, v_mks, v_copy, v_isnil, v_nilck, v_pick, ev, evs_nil, evs_cons, fr_get_cons, fr_put_nil, fr_put_cons, fr_put_some, fr_put_none, fr_keep_nil, fr_keep_cons, fr_has_nil, fr_has_cons, Option.bind_some, Option.map_some, xbin, ibin, xresult_eq, xress_nil, xress_tmp, resV, ex_some, if_true, if_false, ite_true, ite_false, reduceIte, reduceCtorEq, Nat.reduceEqDiff, Nat.reduceLT, Nat.reduceLeDiff, Int.reduceLT, Int.reduceLE, Nat.zero_add, Nat.reduceAdd, Bool.false_eq_true, decide_eq_true_eq, decide_eq_false_iff_not, true_implies, false_implies, and_true, true_and, pNil_ptr, pFldA_ptr, Nat.add_zero, e1, e2, e3, e4, e5, c1, c2, k1, e6, decide_false]
    refine hq s' (H.set B ⟨[s'], 1, false, false⟩) rfl (fun b hb => by rw [AH.get_set, if_neg hb]) ⟨hs.nb, hs.lt, by rw [AH.get_set, if_pos rfl], ?_, fun b hb => hs.out b ((k3 b).1 hb)⟩
    refine Sl.set k2' (fun hb => ?_)
    have := hs.out B ((k3 B).1 hb)
    have := hs.nb
    omega

/-- slices of bytes -/
def Byts (H : AH) (v : Value) (l : List Int) : Prop := Sl H 1 v l.length (l.map (.int .u8))
def OwnB (n0 : Nat) (H : AH) (v : Value) (l : List Int) : Prop := Own n0 1 H v l.length (l.map (.int .u8))
/-- numbers that are bytes -/
def B8 (l : List Int) : Prop := ∀ b ∈ l, 0 ≤ b ∧ b < 256
/-- the bytes that a stream gives -/
def byts : Nat → List Int → List Int
  | 0, _ => []
  | k + 1, l => (l.headD 0 % 256) :: byts k l.tail
theorem byts_len (k : Nat) : ∀ l, (byts k l).length = k := by
  induction k with
  | zero => intro l; rfl
  | succ k ih => intro l; simp [byts, ih]
theorem byts_b8 (k : Nat) : ∀ l, B8 (byts k l) := by
  induction k with
  | zero => intro l b hb; simp [byts] at hb
  | succ k ih =>
    intro l b hb
    simp only [byts, List.mem_cons] at hb
    rcases hb with rfl | hb
    · exact ⟨Int.emod_nonneg _ (by omega), Int.emod_lt_of_pos _ (by omega)⟩
    · exact ih _ b hb
theorem wrU8 (n : Int) (h0 : 0 ≤ n) (h1 : n < 256) : IntKind.u8.wrap n = n := by
  show (if (false && decide (n % (2 ^ 8 : Int) ≥ (2 ^ 7 : Int))) = true then n % (2 ^ 8 : Int) - (2 ^ 8 : Int) else n % (2 ^ 8 : Int)) = n
  rw [show (2 : Int) ^ 8 = 256 from rfl]
  simp only [Bool.false_and, Bool.false_eq_true, if_false]
  omega

theorem Own.set {H : AH} {n0 sz n : Nat} {s : Value} {cs : List Value} {H' : AH} (h : Own n0 sz H s n cs) (hn : H'.n = H.n) (hg : ∀ b, inB s b → H'.get b = H.get b) : Own n0 sz H' s n cs := by
  obtain ⟨h1, h2⟩ := h
  refine ⟨?_, fun C o l c e => ?_⟩
  · rcases h1 with h | ⟨C, o, h1, h2, h3, h4⟩ | ⟨C, o, c, b, h1, h2, h3, h4⟩
    · exact .inl h
    · exact .inr (.inl ⟨C, o, h1, by omega, (hg C ⟨_, _, _, h1⟩).trans h3, h4⟩)
    · exact .inr (.inr ⟨C, o, c, b, h1, by omega, (hg C ⟨_, _, _, h1⟩).trans h3, h4⟩)
  · obtain ⟨a, blk, b, c⟩ := h2 C o l c e
    exact ⟨a, blk, (hg C ⟨_, _, _, e⟩).trans b, c⟩

theorem pMks_ok (z : Value) (k : Nat) (hk : k ≤ 140737488355328) (kd : IntKind) (H : AH) (m : Int) (hm : m = (k : Int)) : pMks 1 1 [z] (.int kd m) (.int kd m) H = some (.slice (some ⟨H.n, 0, none⟩) k k, H.push ⟨rep k [z], 1, false, false⟩) := by
  subst hm
  show (bif Nat.ble k k && Nat.ble (k * 1) 140737488355328 && Nat.ble k 140737488355328 then some (Value.slice (some ⟨H.n, 0, none⟩) k k, H.push ⟨rep k [z], 1, false, false⟩) else none) = _
  rw [ble_of (Nat.le_refl k), ble_of (by omega : k * 1 ≤ 140737488355328), ble_of hk]
  rfl
theorem rep_one (z : Value) (k : Nat) : rep k [z] = List.replicate k z := by
  induction k with
  | zero => rfl
  | succ k ih => simp [rep, ih, List.replicate_succ]

theorem bytes_l0 (n0 B : Nat) (s : Value) (r : Nat) : ∀ (pre : List Int) (v : Value) (l : List Int) (H : AH) (i N : Int) (Q : XExit → Fr → AH → Prop), Strm n0 H B v l → OwnB n0 H s (pre ++ List.replicate r 0) → ¬ inB s B → n0 ≤ H.n → pre.length + r ≤ 1000000 → i = (pre.length : Int) → N = ((pre.length + r : Nat) : Int) →
    (∀ H', OwnB n0 H' s (pre ++ byts r l) → Keep n0 H H' → Q (.exit 0) [(5, .pointer (some ⟨B, 0, none⟩)), (6, s), (15, .int .i64 N), (16, .int .i64 N), (17, .bool false)] H') →
    Run Try.prog tab (.loop xbakemake_Bytes_l0) [(5, .pointer (some ⟨B, 0, none⟩)), (6, s), (15, .int .i64 N), (16, .int .i64 i)] H Q := by
  induction r with
  | zero =>
    intro pre v l H i N Q hs ho hsB hn hl hi hN hq
    rw [run_loop]
    generalize hL : XCode.loop xbakemake_Bytes_l0 = L
    have hiN : i = N := by omega
    subst hiN
    have hf : ¬ i < i := by omega
    simp only [xbakemake_Bytes_l0, ofArgs, run_seq, run_block, run_ops, run_skip, run_exit, run_ret, thenQ_normal, thenQ_exit, thenQ_ret, blockQ_normal, blockQ_exit, blockQ_ret, retQ_ret, retQ_normal, ops_nil, ops_none, got_some, ops_wT, ops_wTn, ops_wF, ops_wFn, ops_wU, dops_wT, dops_wTn, dops_wF, dops_wFn, dops_wU, run_condT, run_condF, alt2_int, altB_bool, altI_int, altBB_bool, v_min, v_max, v_not, v_neg, optEv_none, optEv_some, isSome'_none, isSome'_some, pExt0, pExt1, pExt2, Bool.false_and, Bool.true_and, Bool.not_true, Bool.not_false, cond_true, cond_false, dops_nil, dops_none, xval_call, v_mov, v_bin, v_len, v_ext, v_idxA, v_ld, v_st, v_app, v_appN, v_cvs, v_bs1, pBs1, v_slc, v_conv, v_fld, v_fldA, v_new, v_box, v_mks, v_copy, v_isnil, v_nilck, v_pick, ev, evs_nil, evs_cons, fr_get_cons, fr_put_nil, fr_put_cons, fr_put_some, fr_put_none, fr_keep_nil, fr_keep_cons, fr_has_nil, fr_has_cons, Option.bind_some, Option.map_some, xbin, ibin, xresult_eq, xress_nil, xress_tmp, resV, ex_some, if_true, if_false, ite_true, ite_false, reduceIte, reduceCtorEq, Nat.reduceEqDiff, Nat.reduceLT, Nat.reduceLeDiff, Int.reduceLT, Int.reduceLE, Nat.zero_add, Nat.reduceAdd, Bool.false_eq_true, decide_eq_true_eq, decide_eq_false_iff_not, true_implies, false_implies, and_true, true_and, hf, decide_false]
    have := hq H (by simpa [byts] using ho) (.refl _ _)
    simpa using this
  | succ r ih =>
    intro pre v l H i N Q hs ho hsB hn hl hi hN hq
    rw [run_loop]
    generalize hL : XCode.loop xbakemake_Bytes_l0 = L
    have hlt : i < N := by omega
    have e4 := wrI (i + 1) (by omega) (by omega)
    have h0 : (0 : Int) ≤ l.headD 0 % 256 := Int.emod_nonneg _ (by omega)
    have h3 : l.headD 0 % 256 < 256 := Int.emod_lt_of_pos _ (by omega)
    have e3 := wrU8 (l.headD 0 % 256) h0 h3
    simp only [xbakemake_Bytes_l0, ofArgs, run_seq, run_block, run_ops, run_skip, run_exit, run_ret, thenQ_normal, thenQ_exit, thenQ_ret, blockQ_normal, blockQ_exit, blockQ_ret, retQ_ret, retQ_normal, ops_nil, ops_none, got_some, ops_wT, ops_wTn, ops_wF, ops_wFn, ops_wU, dops_wT, dops_wTn, dops_wF, dops_wFn, dops_wU, run_condT, run_condF, alt2_int, altB_bool, altI_int, altBB_bool, v_min, v_max, v_not, v_neg, optEv_none, optEv_some, isSome'_none, isSome'_some, pExt0, pExt1, pExt2, Bool.false_and, Bool.true_and, Bool.not_true, Bool.not_false, cond_true, cond_false, dops_nil, dops_none, xval_call, v_mov, v_bin, v_len, v_ext, v_idxA, v_ld, v_st, v_app, v_appN, v_cvs, v_bs1, pBs1, v_slc, v_conv, v_fld, v_fldA, v_new, v_box, v_mks, v_copy, v_isnil, v_nilck, v_pick, ev, evs_nil, evs_cons, fr_get_cons, fr_put_nil, fr_put_cons, fr_put_some, fr_put_none, fr_keep_nil, fr_keep_cons, fr_has_nil, fr_has_cons, Option.bind_some, Option.map_some, xbin, ibin, xresult_eq, xress_nil, xress_tmp, resV, ex_some, if_true, if_false, ite_true, ite_false, reduceIte, reduceCtorEq, Nat.reduceEqDiff, Nat.reduceLT, Nat.reduceLeDiff, Int.reduceLT, Int.reduceLE, Nat.zero_add, Nat.reduceAdd, Bool.false_eq_true, decide_eq_true_eq, decide_eq_false_iff_not, true_implies, false_implies, and_true, true_and, hlt, decide_true, e4]
    refine next_ok n0 B v l 256 (by omega) (by omega) H _ hs ?_
    intro v' H' hn' hg hs'
    have ho' : OwnB n0 H' s (pre ++ List.replicate (r + 1) 0) := Own.set ho hn' (fun b hb => hg b (fun e => hsB (e ▸ hb)))
    have e1 := pIdx_one ho'.1 .i64 i pre.length hi (by simp)
    simp only [ofArgs, run_seq, run_block, run_ops, run_skip, run_exit, run_ret, thenQ_normal, thenQ_exit, thenQ_ret, blockQ_normal, blockQ_exit, blockQ_ret, retQ_ret, retQ_normal, ops_nil, ops_none, got_some, ops_wT, ops_wTn, ops_wF, ops_wFn, ops_wU, dops_wT, dops_wTn, dops_wF, dops_wFn, dops_wU, run_condT, run_condF, alt2_int, altB_bool, altI_int, altBB_bool, v_min, v_max, v_not, v_neg, optEv_none, optEv_some, isSome'_none, isSome'_some, pExt0, pExt1, pExt2, Bool.false_and, Bool.true_and, Bool.not_true, Bool.not_false, cond_true, cond_false, dops_nil, dops_none, xval_call, v_mov, v_bin, v_len, v_ext, v_idxA, v_ld, v_st, v_app, v_appN, v_cvs, v_bs1, pBs1, v_slc, v_conv, v_fld, v_fldA, v_new, v_box, v_mks, v_copy, v_isnil, v_nilck, v_pick, ev, evs_nil, evs_cons, fr_get_cons, fr_put_nil, fr_put_cons, fr_put_some, fr_put_none, fr_keep_nil, fr_keep_cons, fr_has_nil, fr_has_cons, Option.bind_some, Option.map_some, xbin, ibin, xresult_eq, xress_nil, xress_tmp, resV, ex_some, if_true, if_false, ite_true, ite_false, reduceIte, reduceCtorEq, Nat.reduceEqDiff, Nat.reduceLT, Nat.reduceLeDiff, Int.reduceLT, Int.reduceLE, Nat.zero_add, Nat.reduceAdd, Bool.false_eq_true, decide_eq_true_eq, decide_eq_false_iff_not, true_implies, false_implies, and_true, true_and, pConv, e3, e1]
    refine pSt_own ho' (by simp) rfl rfl ?_
    intro H2 ho2 hs2
    subst hL
    have hk2 := hs2.keep ho' (by omega)
    have hstr : Strm n0 H2 B v' l.tail := by
      have hb2 : H2.get B = H'.get B := hs2.get B hs'.lt hsB
      exact ⟨hs'.nb, Nat.lt_of_lt_of_le hs'.lt hs2.n, hb2.trans hs'.box, Ints.keep hs'.ints hk2 hs'.out, hs'.out⟩
    have el : pre ++ [l.headD 0 % 256] ++ List.replicate r 0 = pre ++ (l.headD 0 % 256) :: List.replicate r 0 := by simp
    have ho3 : OwnB n0 H2 s (pre ++ [l.headD 0 % 256] ++ List.replicate r 0) := by
      unfold OwnB
      have e5 : (pre ++ [l.headD 0 % 256] ++ List.replicate r 0).length = (pre ++ List.replicate (r + 1) 0).length := by simp <;> omega
      have e6 : (pre ++ [l.headD 0 % 256] ++ List.replicate r 0).map (Value.int .u8) = ((pre ++ List.replicate (r + 1) 0).map (Value.int .u8)).set pre.length (.int .u8 (l.headD 0 % 256)) := by
        simp [List.replicate_succ]
      rw [e5, e6]; exact ho2
    refine ih (pre ++ [l.headD 0 % 256]) v' l.tail H2 (i + 1) N Q hstr ho3 hsB (by have := hs2.n; omega) (by simp <;> omega) (by simp <;> omega) (by simp <;> omega) ?_
    intro H3 o3 k3
    refine hq H3 (by simpa [byts] using o3) ?_
    have k1 : Keep n0 H H' := ⟨by omega, fun b hb => hg b (by have := hs.nb; omega)⟩
    exact k1.trans (hk2.trans k3)

def pMk1 (v : Value) (H : AH) : Option (Value × AH) :=
  match vcells v with
  | [u] => bif one u then some (.agg [u].toArray, H) else none
  | _ => none
theorem v_mk1 {P : Program} {T : XTab} (fr : Fr) (H : AH) (dd : Option Nat) (x : Operand) (z : Value) : xval P (xc P T) ⟨dd, .build [z] [(0, 1, x)], none⟩ fr H = (ev fr x).bind fun v => pMk1 v H := by
  rw [xval_op dd _ fr H rfl, e_build]
  rcases hx : ev fr x with _ | v
  · simp [xfill, hx]
  · simp only [Option.bind_some, pMk1, xfill, hx]
    rcases vcells v with _ | ⟨u, _ | ⟨u2, r⟩⟩
    · rfl
    · cases h : one u
      · simp [h]
      · simp [h, splice, show Nat.ble 1 1 = true from rfl]
    · have hb : (u :: u2 :: r).length.beq 1 = false := by rw [Tr.beq_eq]; simp
      simp only [hb, Bool.false_and, cond_false]
      rfl
theorem pMk1_slice {v : Value} (H : AH) (h1 : one v = true) (h2 : vcells v = [v]) : pMk1 v H = some (.agg [v].toArray, H) := by
  unfold pMk1
  rw [h2]
  simp only [h1, cond_true]
theorem box1 (v : Value) (H : AH) : vcells (.agg [v].toArray) = [v] := rfl

theorem Bytes_ok (l : List Int) (k : Nat) (hk : k ≤ 1000000) (s : Value) (H : AH) (Q : Value → AH → Prop) (hs : Ints H s l)
    (hq : ∀ v H', OwnB H.n H' v (byts k l) → HExt H H' → Q v H') : Got (xc Try.prog tab 46 [s, .int .i64 (k : Int)] H) Q := by
  refine got_call (res := [.tmp 4]) rfl ?_
  obtain ⟨o1, o2⟩ := sl_slice hs
  have hm : (if (0 : Int) < (k : Int) then (k : Int) else 0) = (k : Int) := by split <;> omega
  have hmk := fun H => pMks_ok (.int .u8 0) k (by omega) .i64 H (k : Int) rfl
  have o3 := fun H => pMk1_slice H o1 o2
  simp only [ofArgs, run_seq, run_block, run_ops, run_skip, run_exit, run_ret, thenQ_normal, thenQ_exit, thenQ_ret, blockQ_normal, blockQ_exit, blockQ_ret, retQ_ret, retQ_normal, ops_nil, ops_none, got_some, ops_wT, ops_wTn, ops_wF, ops_wFn, ops_wU, dops_wT, dops_wTn, dops_wF, dops_wFn, dops_wU, run_condT, run_condF, alt2_int, altB_bool, altI_int, altBB_bool, v_min, v_max, v_not, v_neg, optEv_none, optEv_some, isSome'_none, isSome'_some, pExt0, pExt1, pExt2, Bool.false_and, Bool.true_and, Bool.not_true, Bool.not_false, cond_true, cond_false, dops_nil, dops_none, xval_call, v_mov, v_bin, v_len, v_ext, v_idxA, v_ld, v_st, v_app, v_appN, v_cvs, v_bs1, pBs1, v_slc, v_conv, v_fld, v_fldA, v_new, v_box, v_mks, v_copy, v_isnil, v_nilck, v_pick, ev, evs_nil, evs_cons, fr_get_cons, fr_put_nil, fr_put_cons, fr_put_some, fr_put_none, fr_keep_nil, fr_keep_cons, fr_has_nil, fr_has_cons, Option.bind_some, Option.map_some, xbin, ibin, xresult_eq, xress_nil, xress_tmp, resV, ex_some, if_true, if_false, ite_true, ite_false, reduceIte, reduceCtorEq, Nat.reduceEqDiff, Nat.reduceLT, Nat.reduceLeDiff, Int.reduceLT, Int.reduceLE, Nat.zero_add, Nat.reduceAdd, Bool.false_eq_true, decide_eq_true_eq, decide_eq_false_iff_not, true_implies, false_implies, and_true, true_and, v_mk1, o3, box1, hm, hmk, pLen, Int.ofNat_eq_natCast, AH.push_n]
  have h1 : Strm H.n ((H.push ⟨[s], 1, false, false⟩).push ⟨rep k [.int .u8 0], 1, false, false⟩) H.n s l := by
    refine ⟨Nat.le_refl _, by simp; omega, by rw [AH.get_push, if_neg (by simp), AH.get_push, if_pos rfl], ?_, fun b hb => Sl.lt hs hb⟩
    exact Sl.ext ((hext_push H _).trans (hext_push _ _)) hs
  have h2 : OwnB H.n ((H.push ⟨[s], 1, false, false⟩).push ⟨rep k [.int .u8 0], 1, false, false⟩) (.slice (some ⟨H.n + 1, 0, none⟩) k k) ([] ++ List.replicate k 0) := by
    have hp := Own.pushed (H.push ⟨[s], 1, false, false⟩) (rep k [.int .u8 0]) 1 k false (by rw [rep_length]; simp)
    have hp' := hp.le (n0 := H.n) (by simp)
    unfold OwnB
    rw [rep_one] at hp'
    simpa [rep_one] using hp'
  refine bytes_l0 H.n H.n _ k [] s l _ _ _ _ h1 h2 (fun ⟨o, l', c, e⟩ => by simp at e) (by simp; omega) (by simp; omega) (by simp) (by simp) ?_
  intro H' o1' k1
  simp only [ofArgs, run_seq, run_block, run_ops, run_skip, run_exit, run_ret, thenQ_normal, thenQ_exit, thenQ_ret, blockQ_normal, blockQ_exit, blockQ_ret, retQ_ret, retQ_normal, ops_nil, ops_none, got_some, ops_wT, ops_wTn, ops_wF, ops_wFn, ops_wU, dops_wT, dops_wTn, dops_wF, dops_wFn, dops_wU, run_condT, run_condF, alt2_int, altB_bool, altI_int, altBB_bool, v_min, v_max, v_not, v_neg, optEv_none, optEv_some, isSome'_none, isSome'_some, pExt0, pExt1, pExt2, Bool.false_and, Bool.true_and, Bool.not_true, Bool.not_false, cond_true, cond_false, dops_nil, dops_none, xval_call, v_mov, v_bin, v_len, v_ext, v_idxA, v_ld, v_st, v_app, v_appN, v_cvs, v_bs1, pBs1, v_slc, v_conv, v_fld, v_fldA, v_new, v_box, v_mks, v_copy, v_isnil, v_nilck, v_pick, ev, evs_nil, evs_cons, fr_get_cons, fr_put_nil, fr_put_cons, fr_put_some, fr_put_none, fr_keep_nil, fr_keep_cons, fr_has_nil, fr_has_cons, Option.bind_some, Option.map_some, xbin, ibin, xresult_eq, xress_nil, xress_tmp, resV, ex_some, if_true, if_false, ite_true, ite_false, reduceIte, reduceCtorEq, Nat.reduceEqDiff, Nat.reduceLT, Nat.reduceLeDiff, Int.reduceLT, Int.reduceLE, Nat.zero_add, Nat.reduceAdd, Bool.false_eq_true, decide_eq_true_eq, decide_eq_false_iff_not, true_implies, false_implies, and_true, true_and]
  refine hq _ H' (by simpa using o1') ?_
  have := ((hext_push H ⟨[s], 1, false, false⟩).trans (hext_push _ ⟨rep k [.int .u8 0], 1, false, false⟩))
  exact (this.keep (Nat.le_refl _)).trans k1
end Go.Proofs.Ytejedmocjdcdgaa.D

set_option linter.unusedSimpArgs false
set_option linter.unusedVariables false
namespace Go.Proofs.Ytejedmocjdcdgaa.D
open Go Go.Det

/-- one step of the sum -/
def crcStep (x : Nat) : Nat := if 65535 < x * 2 then (x * 2) ^^^ 69665 else x * 2
def crcRounds : Nat → Nat → Nat
  | 0, x => x
  | k + 1, x => crcRounds k (crcStep x)
/-- the sum with a further byte -/
def nx (s c : Nat) : Nat := crcRounds 8 ((s &&& 65535) ^^^ (c * 256))

theorem crcStep_lt (x : Nat) (h : x < 65536) : crcStep x < 65536 := by
  unfold crcStep
  split
  · have h1 : ((x * 2) ^^^ 69665) = ((x * 2 - 65536) ^^^ 4129) := by
      have e1 : x * 2 = 2 ^ 16 * 1 + (x * 2 - 65536) := by omega
      have e2 : (69665 : Nat) = 2 ^ 16 * 1 + 4129 := by decide
      apply Nat.eq_of_testBit_eq
      intro b
      rw [Nat.testBit_xor, Nat.testBit_xor]
      rcases Nat.lt_or_ge b 16 with hb | hb
      · have a1 : (x * 2).testBit b = (x * 2 - 65536).testBit b := by
          conv => lhs; rw [e1]
          rw [Nat.testBit_two_pow_mul_add _ (by omega), if_pos hb]
        have a2 : (69665 : Nat).testBit b = (4129 : Nat).testBit b := by
          rw [e2, Nat.testBit_two_pow_mul_add _ (by omega), if_pos hb]
        rw [a1, a2]
      · have a1 : (x * 2).testBit b = (1 : Nat).testBit (b - 16) := by
          conv => lhs; rw [e1]
          rw [Nat.testBit_two_pow_mul_add _ (by omega), if_neg (by omega)]
        have a2 : (69665 : Nat).testBit b = (1 : Nat).testBit (b - 16) := by
          rw [e2, Nat.testBit_two_pow_mul_add _ (by omega), if_neg (by omega)]
        have a3 : (x * 2 - 65536).testBit b = false := Nat.testBit_lt_two_pow (Nat.lt_of_lt_of_le (by omega : x * 2 - 65536 < 2 ^ 16) (Nat.pow_le_pow_right (by omega) hb))
        have a4 : (4129 : Nat).testBit b = false := Nat.testBit_lt_two_pow (Nat.lt_of_lt_of_le (by omega : 4129 < 2 ^ 16) (Nat.pow_le_pow_right (by omega) hb))
        rw [a1, a2, a3, a4]; simp
    rw [h1]
    exact Nat.xor_lt_two_pow (n := 16) (by omega) (by omega)
  · omega

theorem nx_lt0 (s c : Nat) (hc : c < 256) : (s &&& 65535) ^^^ (c * 256) < 65536 :=
  Nat.xor_lt_two_pow (n := 16) (Nat.lt_of_le_of_lt Nat.and_le_right (by omega)) (by omega)
theorem rounds_lt (k : Nat) : ∀ x, x < 65536 → crcRounds k x < 65536 := by
  induction k with
  | zero => intro x h; exact h
  | succ k ih => intro x h; exact ih _ (crcStep_lt x h)
theorem nx_lt (s c : Nat) (hc : c < 256) : nx s c < 65536 := rounds_lt 8 _ (nx_lt0 s c hc)

end Go.Proofs.Ytejedmocjdcdgaa.D

set_option linter.unusedSimpArgs false
set_option linter.unusedVariables false
namespace Go.Proofs.Ytejedmocjdcdgaa.D
open Go Go.Det

theorem byts_idx {H : AH} {s : Value} {l : List Int} (h : Byts H s l) (i : Int) (k : Nat) (hi : i = (k : Int)) (hk : k < l.length) : pIdx 1 s (.int .i64 i) H = some (ptrAt s k, H) := pIdx_one h .i64 i k hi hk
theorem byts_ld {H : AH} {s : Value} {l : List Int} (h : Byts H s l) (k : Nat) (a : Int) (ha : l[k]? = some a) : pLd none (ptrAt s k) H = some (.int .u8 a, H) := pLd_one h k _ (by simp [ha])
theorem byts_len' {H : AH} {s : Value} {l : List Int} (hs : Byts H s l) : pLen s H = some (.int .i64 (l.length : Int), H) := pLen_ok hs
theorem Byts.app1 {H : AH} {s : Value} {pre rest : List Int} {a : Int} (hs : Byts H s (pre ++ a :: rest)) : Byts H s ((pre ++ [a]) ++ rest) := by
  rw [List.append_assoc]; exact hs

def crcFold (s : Nat) (l : List Int) : Nat := l.foldl (fun s c => nx s c.toNat) s
theorem crcFold_cons (s : Nat) (c : Int) (l : List Int) : crcFold s (c :: l) = crcFold (nx s c.toNat) l := by
  unfold crcFold; rw [List.foldl_cons]
theorem crcFold_lt (l : List Int) (h : B8 l) : ∀ s, s < 65536 → crcFold s l < 65536 := by
  induction l with
  | nil => intro s hs; exact hs
  | cons c l ih =>
    intro s hs
    have hc := h c (by simp)
    have hn := nx_lt s c.toNat (by omega)
    rw [crcFold_cons]
    generalize nx s c.toNat = y at hn
    exact ih (fun b hb => h b (by simp [hb])) y hn

def xorFold (s : Nat) (l : List Int) : Nat := l.foldl (fun s c => s ^^^ c.toNat) s
theorem xorFold_cons (s : Nat) (c : Int) (l : List Int) : xorFold s (c :: l) = xorFold (s ^^^ c.toNat) l := by
  unfold xorFold; rw [List.foldl_cons]
theorem b8_sum (l : List Int) (hb : B8 l) : 0 ≤ l.sum ∧ l.sum ≤ 256 * (l.length : Int) := by
  induction l with
  | nil => simp
  | cons a l ih =>
    have ha := hb a (by simp)
    have := ih (fun b h => hb b (by simp [h]))
    simp only [List.sum_cons, List.length_cons]
    omega

end Go.Proofs.Ytejedmocjdcdgaa.D

set_option linter.unusedSimpArgs false
set_option linter.unusedVariables false
namespace Go.Proofs.Ytejedmocjdcdgaa.D
open Go Go.Det

/-- some bytes of raw numbers -/
def someB (l : List Int) (n : Int) : List Int := byts (l.headD 0 % n).toNat l
theorem someB_b8 (l : List Int) (n : Int) : B8 (someB l n) := byts_b8 _ _
theorem someB_len (l : List Int) (n : Int) (hn : 0 < n) (hn' : n ≤ 1000000) : (someB l n).length < n.toNat := by
  have h1 := Int.emod_lt_of_pos (l.headD 0) hn
  have h0 := Int.emod_nonneg (l.headD 0) (by omega : n ≠ 0)
  unfold someB
  rw [byts_len]; omega

end Go.Proofs.Ytejedmocjdcdgaa.D

set_option linter.unusedSimpArgs false
set_option linter.unusedVariables false
namespace Go.Proofs.Ytejedmocjdcdgaa.D
open Go Go.Det

end Go.Proofs.Ytejedmocjdcdgaa.D

set_option linter.unusedSimpArgs false
set_option linter.unusedVariables false
namespace Go.Proofs.Ytejedmocjdcdgaa.D
open Go Go.Det

theorem u8s_one (l : List Int) : (l.map (Value.int .u8)).all one = true := ints_one l .u8

end Go.Proofs.Ytejedmocjdcdgaa.D

set_option linter.unusedSimpArgs false
set_option linter.unusedVariables false
namespace Go.Proofs.Ytejedmocjdcdgaa.D
open Go Go.Det

theorem crcFold_app (l m : List Int) (s : Nat) : crcFold s (l ++ m) = crcFold (crcFold s l) m := by
  unfold crcFold; rw [List.foldl_append]
theorem xorFold_app (m : List Int) : ∀ s t : Nat, xorFold (s ^^^ t) m = s ^^^ xorFold t m := by
  induction m with
  | nil => intro s t; rfl
  | cons a m ih => intro s t; rw [xorFold_cons, xorFold_cons, Nat.xor_assoc, ih]
theorem xorFold_join (l m : List Int) : xorFold 0 (l ++ m) = xorFold 0 l ^^^ xorFold 0 m := by
  have h1 : xorFold 0 (l ++ m) = xorFold (xorFold 0 l) m := by unfold xorFold; rw [List.foldl_append]
  have h2 := xorFold_app m (xorFold 0 l) 0
  rw [Nat.xor_zero] at h2
  rw [h1, h2]
theorem xorFold_lt (l : List Int) (h : B8 l) : ∀ s, s < 256 → xorFold s l < 256 := by
  induction l with
  | nil => intro s hs; exact hs
  | cons c l ih =>
    intro s hs
    have hc := h c (by simp)
    rw [xorFold_cons]
    exact ih (fun b hb => h b (by simp [hb])) _ (Nat.xor_lt_two_pow (n := 8) (by omega) (by omega))

theorem v_bsl2 {P : Program} {T : XTab} (fr : Fr) (H : AH) (dd : Option Nat) (e : TypeId) (z u v : Value) (x y : Operand) (hx : ev fr x = some u) (hy : ev fr y = some v) (h1 : one u = true) (h2 : vcells u = [u]) (h3 : one v = true) (h4 : vcells v = [v]) :
    xval P (xc P T) ⟨dd, .bslice e 1 2 [z] [(0, x), (1, y)], none⟩ fr H = some (.slice (some ⟨H.n, 0, none⟩) 2 2, H.push ⟨[u, v], 1, false, false⟩) := by
  rw [xval_op dd _ fr H rfl, e_bslice]
  simp only [List.map_cons, List.map_nil, rep, List.append_nil, xfill, hx, hy, h2, h4, List.all_cons, List.all_nil, h1, h3]
  rfl

end Go.Proofs.Ytejedmocjdcdgaa.D

set_option linter.unusedSimpArgs false
set_option linter.unusedVariables false
namespace Go.Proofs.Ytejedmocjdcdgaa.D
open Go Go.Det
/-! ### the sum is linear over the exclusive or -/
theorem step_bit (x j : Nat) (h : x < 65536) : (crcStep x).testBit j = (decide (j < 16) && ((decide (1 ≤ j) && x.testBit (j - 1)) ^^ (x.testBit 15 && (4129 : Nat).testBit j))) := by
  have hm : (x * 2).testBit j = (decide (1 ≤ j) && x.testBit (j - 1)) := by
    have := Nat.testBit_mul_two_pow x j 1
    simpa using this
  have hx : ∀ i, 16 ≤ i → x.testBit i = false := fun i hi => Nat.testBit_lt_two_pow (Nat.lt_of_lt_of_le (by omega : x < 2 ^ 16) (Nat.pow_le_pow_right (by omega) hi))
  unfold crcStep
  split
  · rename_i hc
    have h15 : x.testBit 15 = true := by
      rw [Nat.testBit_eq_decide_div_mod_eq]; simp; omega
    rw [Nat.testBit_xor, hm, h15]
    rcases Nat.lt_or_ge j 16 with hj | hj
    · have a2 : (69665 : Nat).testBit j = (4129 : Nat).testBit j := by
        have e2 : (69665 : Nat) = 2 ^ 16 * 1 + 4129 := by decide
        rw [e2, Nat.testBit_two_pow_mul_add _ (by omega), if_pos hj]
      rw [a2]; simp [hj]
    · have hn : ¬ j < 16 := by omega
      simp only [hn, decide_false, Bool.false_and]
      rcases Nat.eq_or_lt_of_le hj with e | e
      · subst e; rw [show 16 - 1 = 15 from rfl, h15]; decide
      · rw [hx (j - 1) (by omega)]
        have : (69665 : Nat).testBit j = false := Nat.testBit_lt_two_pow (Nat.lt_of_lt_of_le (by omega : 69665 < 2 ^ 17) (Nat.pow_le_pow_right (by omega) e))
        rw [this]; simp
  · rename_i hc
    have h15 : x.testBit 15 = false := by
      rw [Nat.testBit_eq_decide_div_mod_eq]; simp; omega
    rw [hm, h15]
    rcases Nat.lt_or_ge j 16 with hj | hj
    · simp [hj]
    · have hn : ¬ j < 16 := by omega
      have : x.testBit (j - 1) = false := Nat.testBit_lt_two_pow (Nat.lt_of_lt_of_le (by omega : x < 2 ^ 15) (Nat.pow_le_pow_right (by omega) (by omega)))
      simp [hn, this]
theorem step_xor (a b : Nat) (ha : a < 65536) (hb : b < 65536) : crcStep (a ^^^ b) = crcStep a ^^^ crcStep b := by
  have hab : a ^^^ b < 65536 := Nat.xor_lt_two_pow (n := 16) (by omega) (by omega)
  apply Nat.eq_of_testBit_eq
  intro j
  rw [Nat.testBit_xor (crcStep a), step_bit _ _ hab, step_bit _ _ ha, step_bit _ _ hb, Nat.testBit_xor, Nat.testBit_xor]
  cases decide (j < 16) <;> cases decide (1 ≤ j) <;> cases a.testBit (j - 1) <;> cases b.testBit (j - 1) <;> cases a.testBit 15 <;> cases b.testBit 15 <;> cases (4129 : Nat).testBit j <;> rfl
theorem step_zero (x : Nat) (h : x < 65536) (hz : crcStep x = 0) : x = 0 := by
  have h0 := step_bit x 0 h
  rw [hz] at h0
  have h15 : x.testBit 15 = false := by
    have : (4129 : Nat).testBit 0 = true := by decide
    simpa [this] using h0
  apply Nat.eq_of_testBit_eq
  intro j
  rw [Nat.zero_testBit]
  have h1 := step_bit x (j + 1) h
  rw [hz, h15] at h1
  rcases Nat.lt_or_ge j 15 with hj | hj
  · simpa [show j + 1 < 16 by omega] using h1
  · rcases Nat.eq_or_lt_of_le hj with e | e
    · subst e; exact h15
    · exact Nat.testBit_lt_two_pow (Nat.lt_of_lt_of_le (by omega : x < 2 ^ 16) (Nat.pow_le_pow_right (by omega) (by omega)))
theorem rounds_xor (k : Nat) : ∀ a b, a < 65536 → b < 65536 → crcRounds k (a ^^^ b) = crcRounds k a ^^^ crcRounds k b := by
  induction k with
  | zero => intro a b _ _; rfl
  | succ k ih => intro a b ha hb; simp only [crcRounds]; rw [step_xor a b ha hb, ih _ _ (crcStep_lt a ha) (crcStep_lt b hb)]
theorem rounds_ne (k : Nat) : ∀ a, a < 65536 → a ≠ 0 → crcRounds k a ≠ 0 := by
  induction k with
  | zero => intro a _ h; exact h
  | succ k ih => intro a ha h; exact ih _ (crcStep_lt a ha) (fun e => h (step_zero a ha e))
theorem rounds_zero (k : Nat) : crcRounds k 0 = 0 := by
  induction k with
  | zero => rfl
  | succ k ih => exact ih
theorem rounds_add (a b : Nat) : ∀ x, crcRounds (a + b) x = crcRounds b (crcRounds a x) := by
  induction a with
  | zero => intro x; rw [Nat.zero_add]; rfl
  | succ a ih => intro x; rw [Nat.succ_add]; exact ih _
theorem rounds_pow (k : Nat) : ∀ j, j + k ≤ 15 → crcRounds k (2 ^ j) = 2 ^ (j + k) := by
  induction k with
  | zero => intro j _; rfl
  | succ k ih =>
    intro j hj
    have hp : crcStep (2 ^ j) = 2 ^ (j + 1) := by
      unfold crcStep
      have h1 : 2 ^ j ≤ 2 ^ 14 := Nat.pow_le_pow_right (by omega) (by omega)
      rw [if_neg (by omega), Nat.pow_succ]
    show crcRounds k (crcStep (2 ^ j)) = _
    rw [hp, ih (j + 1) (by omega)]; congr 1; omega
theorem and16 (s : Nat) (h : s < 65536) : s &&& 65535 = s := by
  rw [Nat.and_two_pow_sub_one_eq_mod s 16]; omega
theorem x16 {a b : Nat} (ha : a < 65536) (hb : b < 65536) : a ^^^ b < 65536 := Nat.xor_lt_two_pow (n := 16) (by omega) (by omega)
theorem nx_xor (s t c m : Nat) (hs : s < 65536) (ht : t < 65536) (hc : c < 256) (hm : m < 256) : nx (s ^^^ t) (c ^^^ m) = nx s c ^^^ crcRounds 8 (t ^^^ m * 256) := by
  unfold nx
  rw [and16 _ (x16 hs ht), and16 _ hs, ← rounds_xor 8 _ _ (x16 hs (by omega)) (x16 ht (by omega))]
  congr 1
  have : (c ^^^ m) * 256 = c * 256 ^^^ m * 256 := by
    have := Nat.shiftLeft_xor_distrib (a := c) (b := m) (i := 8)
    simpa [Nat.shiftLeft_eq] using this
  rw [this]
  rw [Nat.xor_assoc, Nat.xor_assoc]; congr 1
  rw [← Nat.xor_assoc, Nat.xor_comm t, Nat.xor_assoc]
theorem crcFold_xor (l : List Int) (hb : B8 l) : ∀ s t, s < 65536 → t < 65536 → crcFold (s ^^^ t) l = crcFold s l ^^^ crcRounds (8 * l.length) t := by
  induction l with
  | nil => intro s t _ _; rfl
  | cons c l ih =>
    intro s t hs ht
    have hc := hb c (by simp)
    have h1 := nx_xor s t c.toNat 0 hs ht (by omega) (by omega)
    simp only [Nat.xor_zero, Nat.zero_mul] at h1
    rw [crcFold_cons, crcFold_cons, h1]
    have h2 := nx_lt s c.toNat (by omega)
    have h3 := rounds_lt 8 t ht
    rw [ih (fun b h => hb b (by simp [h])) _ _ h2 h3, List.length_cons, Nat.mul_succ, Nat.add_comm, rounds_add]
theorem crcFold_set (l : List Int) (hb : B8 l) (m : Nat) (hm : m < 256) : ∀ (q s : Nat), s < 65536 → q < l.length →
    crcFold s (l.set q (((l.getD q 0).toNat ^^^ m : Nat) : Int)) = crcFold s l ^^^ crcRounds (8 * (l.length - q)) (m * 256) := by
  induction l with
  | nil => intro q s _ h; simp at h
  | cons c l ih =>
    intro q s hs hq
    have hc := hb c (by simp)
    have hb' : B8 l := fun b h => hb b (by simp [h])
    have h2 := nx_lt s c.toNat (by omega)
    cases q with
    | zero =>
      simp only [List.set_cons_zero, List.getD_cons_zero, List.length_cons, Nat.sub_zero]
      rw [crcFold_cons, crcFold_cons, Int.toNat_natCast]
      have h1 := nx_xor s 0 c.toNat m hs (by omega) (by omega) hm
      rw [Nat.xor_zero, Nat.zero_xor] at h1
      have h3 := rounds_lt 8 (m * 256) (by omega)
      rw [h1, crcFold_xor l hb' _ _ h2 h3, show 8 * (l.length + 1) = 8 + 8 * l.length by omega, rounds_add]
    | succ q =>
      simp only [List.set_cons_succ, List.getD_cons_succ, List.length_cons, Nat.succ_sub_succ]
      rw [crcFold_cons, crcFold_cons]
      generalize nx s c.toNat = y at h2
      exact ih hb' q y h2 (by simpa using hq)

/-! ### bits -/
def flip (l : List Int) (i : Nat) : List Int := l.set (i / 8) (((l.getD (i / 8) 0).toNat ^^^ (128 >>> (i % 8)) : Nat) : Int)
def flips (l : List Int) (at' ch : Nat) : Nat → List Int
  | 0 => l
  | k + 1 => if ch.testBit k then flip (flips l at' ch k) (at' + k) else flips l at' ch k
def chs (ch : Nat) : Nat → Nat
  | 0 => 0
  | k + 1 => if ch.testBit k then chs ch k ^^^ 2 ^ (15 - k) else chs ch k
def bitAt (l : List Int) (i : Nat) : Bool := (l.getD (i / 8) 0).toNat.testBit (7 - i % 8)
theorem shr128 (r : Nat) (h : r < 8) : 128 >>> r = 2 ^ (7 - r) := by
  revert h; revert r; decide
theorem shr_lt (r : Nat) : 128 >>> r < 256 := by
  rw [Nat.shiftRight_eq_div_pow]
  exact Nat.lt_of_le_of_lt (Nat.div_le_self _ _) (by omega)
theorem flip_len (l : List Int) (i : Nat) : (flip l i).length = l.length := by unfold flip; simp
theorem b8_get (l : List Int) (hb : B8 l) (q : Nat) : 0 ≤ l.getD q 0 ∧ l.getD q 0 < 256 := by
  rw [List.getD_eq_getElem?_getD]
  cases h : l[q]? with
  | none => simp
  | some a => exact hb a (List.mem_of_getElem? h)
theorem b8_set (l : List Int) (hb : B8 l) (q : Nat) (a : Int) (h0 : 0 ≤ a) (h1 : a < 256) : B8 (l.set q a) := by
  intro b h
  rcases List.mem_or_eq_of_mem_set h with h | h
  · exact hb b h
  · subst h; exact ⟨h0, h1⟩
theorem x8 {a b : Nat} (ha : a < 256) (hb : b < 256) : a ^^^ b < 256 := Nat.xor_lt_two_pow (n := 8) (by omega) (by omega)
theorem flip_b8 (l : List Int) (hb : B8 l) (i : Nat) : B8 (flip l i) := by
  have := b8_get l hb (i / 8)
  have h1 := x8 (a := (l.getD (i / 8) 0).toNat) (b := 128 >>> (i % 8)) (by omega) (shr_lt _)
  exact b8_set l hb _ _ (by omega) (by omega)
theorem flips_len (l : List Int) (a ch : Nat) : ∀ k, (flips l a ch k).length = l.length := by
  intro k
  induction k with
  | zero => rfl
  | succ k ih => simp only [flips]; split <;> simp [flip_len, ih]
theorem flips_b8 (l : List Int) (hb : B8 l) (a ch : Nat) : ∀ k, B8 (flips l a ch k) := by
  intro k
  induction k with
  | zero => exact hb
  | succ k ih => simp only [flips]; split; exact flip_b8 _ ih _; exact ih
theorem crc_flip (l : List Int) (hb : B8 l) (a k s : Nat) (hs : s < 65536) (hk : k ≤ 15) (hi : a + k < 8 * l.length) : crcFold s (flip l (a + k)) = crcFold s l ^^^ crcRounds (8 * l.length - a) (2 ^ (15 - k)) := by
  have e3 : 8 * l.length - a = k + (8 * l.length - (a + k)) := by omega
  rw [e3, rounds_add, rounds_pow _ _ (by omega)]
  rw [show 15 - k + k = 15 by omega]
  clear e3
  generalize a + k = i at hi
  have h := crcFold_set l hb (128 >>> (i % 8)) (shr_lt _) (i / 8) s hs (by omega)
  unfold flip
  rw [h, shr128 _ (by omega)]
  clear h
  congr 1
  have e2 : 8 * (l.length - i / 8) = i % 8 + (8 * l.length - i) := by omega
  have e1 : 2 ^ (7 - i % 8) * 256 = 2 ^ (15 - i % 8) := by
    rw [show 256 = 2 ^ 8 from rfl, ← Nat.pow_add]; congr 1; omega
  rw [e1, e2, rounds_add, rounds_pow _ _ (by omega)]
  congr 2; omega
theorem chs_lt (ch : Nat) : ∀ k, chs ch k < 65536 := by
  intro k
  induction k with
  | zero => simp [chs]
  | succ k ih =>
    simp only [chs]; split
    · exact x16 ih (Nat.lt_of_le_of_lt (Nat.pow_le_pow_right (by omega) (by omega : 15 - k ≤ 15)) (by omega))
    · exact ih
theorem chs_bit (ch : Nat) : ∀ k, k ≤ 16 → ∀ j, j ≤ 15 → (chs ch k).testBit (15 - j) = (decide (j < k) && ch.testBit j) := by
  intro k
  induction k with
  | zero => intro _ j _; simp [chs]
  | succ k ih =>
    intro hk j hj
    have := ih (by omega) j hj
    simp only [chs]
    split
    · rename_i hb
      rw [Nat.testBit_xor, this, Nat.testBit_two_pow]
      by_cases e : j = k
      · subst e; simp [hb]
      · have e1 : ¬ (15 - k = 15 - j) := by omega
        have e2 : decide (j < k + 1) = decide (j < k) := by simp; omega
        simp [e1, e2]
    · rename_i hb
      rw [this]
      by_cases e : j = k
      · subst e; simp [hb]
      · have e2 : decide (j < k + 1) = decide (j < k) := by simp; omega
        rw [e2]
theorem chs_ne (ch : Nat) (h0 : ch ≠ 0) (h1 : ch < 65536) : chs ch 16 ≠ 0 := by
  obtain ⟨j, hj⟩ := Nat.exists_testBit_of_ne_zero h0
  have hj16 : j < 16 := by
    rcases Nat.lt_or_ge j 16 with h | h
    · exact h
    · have : ch.testBit j = false := Nat.testBit_lt_two_pow (Nat.lt_of_lt_of_le (by omega : ch < 2 ^ 16) (Nat.pow_le_pow_right (by omega) h))
      rw [this] at hj; cases hj
  intro e
  have := chs_bit ch 16 (by omega) j (by omega)
  rw [e, hj] at this
  simp [hj16] at this
theorem crc_flips (l : List Int) (hb : B8 l) (a ch s : Nat) (hs : s < 65536) (ha : a + 16 ≤ 8 * l.length) : ∀ k, k ≤ 16 → crcFold s (flips l a ch k) = crcFold s l ^^^ crcRounds (8 * l.length - a) (chs ch k) := by
  intro k
  induction k with
  | zero => intro _; simp only [flips, chs]; rw [rounds_zero, Nat.xor_zero]
  | succ k ih =>
    intro hk
    have h := ih (by omega)
    simp only [flips, chs]
    split
    · have hl := flips_len l a ch k
      have h2 := crc_flip (flips l a ch k) (flips_b8 l hb a ch k) a k s hs (by omega) (by omega)
      have h3 : 2 ^ (15 - k) < 65536 := Nat.lt_of_le_of_lt (Nat.pow_le_pow_right (by omega) (by omega : 15 - k ≤ 15)) (by omega)
      rw [h2, h, hl, rounds_xor _ _ _ (chs_lt ch k) h3, Nat.xor_assoc]
    · exact h
theorem bit_flip (l : List Int) (i j : Nat) (hi : i < 8 * l.length) : bitAt (flip l i) j = (bitAt l j ^^ decide (i = j)) := by
  unfold bitAt flip
  by_cases h : i / 8 = j / 8
  · rw [h, List.getD_eq_getElem?_getD, List.getElem?_set_self (by omega), Option.getD_some, Int.toNat_natCast, Nat.testBit_xor, shr128 _ (by omega), Nat.testBit_two_pow]
    congr 1
    apply decide_eq_decide.2
    omega
  · have : ¬ i = j := fun e => h (by rw [e])
    rw [List.getD_eq_getElem?_getD, List.getElem?_set_ne h, ← List.getD_eq_getElem?_getD]
    simp [this]
theorem bit_flips (l : List Int) (a ch j : Nat) (ha : a + 16 ≤ 8 * l.length) : ∀ k, k ≤ 16 → bitAt (flips l a ch k) j = (bitAt l j ^^ (decide (a ≤ j) && decide (j < a + k) && ch.testBit (j - a))) := by
  intro k
  induction k with
  | zero =>
    intro _
    simp only [flips]
    have h2 : (decide (a ≤ j) && decide (j < a + 0)) = false := by
      by_cases h : a ≤ j
      · have : ¬ j < a + 0 := by omega
        simp [this]
      · simp [h]
    rw [h2, Bool.false_and, Bool.xor_false]
  | succ k ih =>
    intro hk
    have h := ih (by omega)
    simp only [flips]
    split
    · rename_i hb
      rw [bit_flip _ _ _ (by rw [flips_len]; omega), h]
      by_cases e : a + k = j
      · subst e; simp [hb]
      · have e2 : decide (j < a + (k + 1)) = decide (j < a + k) := by simp; omega
        simp [e, e2]
    · rename_i hb
      rw [h]
      by_cases e : a + k = j
      · subst e; simp [hb]
      · have e2 : decide (j < a + (k + 1)) = decide (j < a + k) := by simp; omega
        rw [e2]

/-! ### the burst -/
def bf (p : Nat → Bool) : Nat → Int × Int
  | 0 => (-1, -1)
  | n + 1 => if p n then (if (bf p n).1 < 0 then (n : Int) else (bf p n).1, (n : Int)) else bf p n
def bv (p : Nat → Bool) (n : Nat) : Int := if (bf p n).1 < 0 then 0 else (bf p n).2 - (bf p n).1 + 1
theorem bf_range (p : Nat → Bool) (n : Nat) : (bf p n).1 < 0 ∧ (bf p n).1 = -1 ∧ (bf p n).2 = -1 ∨ 0 ≤ (bf p n).1 ∧ (bf p n).1 ≤ (bf p n).2 ∧ (bf p n).2 < (n : Int) := by
  induction n with
  | zero => simp [bf]
  | succ n ih =>
    simp only [bf]
    split
    · split <;> simp only [] <;> omega
    · omega
theorem bf_in (p : Nat → Bool) (a : Nat) (hp : ∀ i, p i = true → a ≤ i ∧ i < a + 16) (n : Nat) : ((bf p n).1 < 0 ∧ ∀ i, i < n → p i = false) ∨ ((a : Int) ≤ (bf p n).1 ∧ (bf p n).1 ≤ (bf p n).2 ∧ (bf p n).2 < (a : Int) + 16) := by
  induction n with
  | zero => left; exact ⟨by simp [bf], fun i hi => by omega⟩
  | succ n ih =>
    simp only [bf]
    by_cases h : p n = true
    · have := hp n h
      right
      simp only [h, if_true]
      have hr := bf_range p n
      split <;> omega
    · simp only [h]
      rcases ih with ⟨h1, h2⟩ | h1
      · left
        refine ⟨by simpa using h1, fun i hi => ?_⟩
        rcases Nat.lt_or_eq_of_le (Nat.le_of_lt_succ hi) with h3 | h3
        · exact h2 i h3
        · subst h3; simpa using h
      · right; simpa using h1
theorem bv_in (p : Nat → Bool) (a n i : Nat) (hp : ∀ i, p i = true → a ≤ i ∧ i < a + 16) (hi : i < n) (hpi : p i = true) : 1 ≤ bv p n ∧ bv p n ≤ 16 := by
  unfold bv
  rcases bf_in p a hp n with ⟨_, h2⟩ | h
  · rw [h2 i hi] at hpi; cases hpi
  · rw [if_neg (by omega)]; omega
theorem crc_found (s : List Int) (hb : B8 s) (a ch : Nat) (h0 : ch ≠ 0) (h1 : ch < 65536) (ha : a + 16 ≤ 8 * s.length) (hz : crcFold 65535 s = 0) : crcFold 65535 (flips s a ch 16) ≠ 0 := by
  rw [crc_flips s hb a ch 65535 (by omega) ha 16 (by omega), hz, Nat.zero_xor]
  exact rounds_ne _ _ (chs_lt _ _) (chs_ne ch h0 h1)
theorem burst_found (s : List Int) (a ch : Nat) (h0 : ch ≠ 0) (h1 : ch < 65536) (ha : a + 16 ≤ 8 * s.length) :
    1 ≤ bv (fun i => bitAt s i ^^ bitAt (flips s a ch 16) i) (8 * s.length) ∧ bv (fun i => bitAt s i ^^ bitAt (flips s a ch 16) i) (8 * s.length) ≤ 16 := by
  obtain ⟨j, hj⟩ := Nat.exists_testBit_of_ne_zero h0
  have hj16 : j < 16 := by
    rcases Nat.lt_or_ge j 16 with h | h
    · exact h
    · have : ch.testBit j = false := Nat.testBit_lt_two_pow (Nat.lt_of_lt_of_le (by omega : ch < 2 ^ 16) (Nat.pow_le_pow_right (by omega) h))
      rw [this] at hj; cases hj
  have e : ∀ i, (bitAt s i ^^ bitAt (flips s a ch 16) i) = (decide (a ≤ i) && decide (i < a + 16) && ch.testBit (i - a)) := by
    intro i
    rw [bit_flips s a ch i ha 16 (by omega), ← Bool.xor_assoc, Bool.xor_self, Bool.false_xor]
  refine bv_in _ a _ (a + j) ?_ (by omega) ?_
  · intro i hi
    rw [e i] at hi
    simp at hi
    omega
  · simp only [e]
    simp [hj16, hj]
theorem burst_comm (s t : List Int) (n : Nat) : bv (fun i => bitAt t i ^^ bitAt s i) n = bv (fun i => bitAt s i ^^ bitAt t i) n := by
  congr 1; funext i; exact Bool.xor_comm _ _
end Go.Proofs.Ytejedmocjdcdgaa.D

set_option linter.unusedSimpArgs false
set_option linter.unusedVariables false
namespace Go.Proofs.Ytejedmocjdcdgaa.D
open Go Go.Det

theorem equalB_l0 (s u : Value) (H : AH) (t : List Int) : ∀ (w pre qre : List Int) (i N : Int) (Q : XExit → Fr → AH → Prop), Byts H s (pre ++ t) → Byts H u (qre ++ w) → t.length = w.length → pre.length = qre.length → pre.length + t.length < 4611686018427387904 → i = (pre.length : Int) → N = ((pre ++ t).length : Int) →
    (t = w → Q (.exit 0) [(0, s), (1, u), (12, .int .i64 N), (13, .int .i64 N), (14, .bool false)] H) → (t ≠ w → Q .ret [(4, .bool false)] H) →
    Run Try.prog tab (.loop xslices_Equal_Sbyte_byte_l0) [(0, s), (1, u), (12, .int .i64 N), (13, .int .i64 i)] H Q := by
  induction t with
  | nil =>
    intro w pre qre i N Q hs hu hw hp hl hi hN hq hq2
    obtain rfl : w = [] := by cases w <;> simp_all
    rw [run_loop]
    generalize hL : XCode.loop xslices_Equal_Sbyte_byte_l0 = L
    have hiN : i = N := by simp at hN; omega
    subst hiN
    have hf : ¬ i < i := by omega
    simp only [xslices_Equal_Sbyte_byte_l0, ofArgs, run_seq, run_block, run_ops, run_skip, run_exit, run_ret, thenQ_normal, thenQ_exit, thenQ_ret, blockQ_normal, blockQ_exit, blockQ_ret, retQ_ret, retQ_normal, ops_nil, ops_none, got_some, ops_wT, ops_wTn, ops_wF, ops_wFn, ops_wU, dops_wT, dops_wTn, dops_wF, dops_wFn, dops_wU, run_condT, run_condF, alt2_int, altB_bool, altI_int, altBB_bool, v_min, v_max, v_not, v_neg, optEv_none, optEv_some, isSome'_none, isSome'_some, pExt0, pExt1, pExt2, Bool.false_and, Bool.true_and, Bool.not_true, Bool.not_false, cond_true, cond_false, dops_nil, dops_none, xval_call, v_mov, v_bin, v_len, v_ext, v_idxA, v_ld, v_st, v_app, v_appN, v_cvs, v_bs1, pBs1, v_slc, v_conv, v_fld, v_fldA, v_new, v_box, v_mks, v_copy, v_isnil, v_nilck, v_pick, ev, evs_nil, evs_cons, fr_get_cons, fr_put_nil, fr_put_cons, fr_put_some, fr_put_none, fr_keep_nil, fr_keep_cons, fr_has_nil, fr_has_cons, Option.bind_some, Option.map_some, xbin, ibin, xresult_eq, xress_nil, xress_tmp, resV, ex_some, if_true, if_false, ite_true, ite_false, reduceIte, reduceCtorEq, Nat.reduceEqDiff, Nat.reduceLT, Nat.reduceLeDiff, Int.reduceLT, Int.reduceLE, Nat.zero_add, Nat.reduceAdd, Bool.false_eq_true, decide_eq_true_eq, decide_eq_false_iff_not, true_implies, false_implies, and_true, true_and, hf, decide_false]
    simpa using hq rfl
  | cons a t ih =>
    intro w pre qre i N Q hs hu hw hp hl hi hN hq hq2
    cases w with
    | nil => simp at hw
    | cons b w =>
      simp only [List.length_cons] at hl hw
      rw [run_loop]
      generalize hL : XCode.loop xslices_Equal_Sbyte_byte_l0 = L
      have hlt : i < N := by simp at hN; omega
      have e1 := byts_idx hs i pre.length hi (by simp)
      have e2 := byts_ld hs pre.length a (by simp)
      have e3 := byts_idx hu i pre.length hi (by simp; omega)
      have e5 := byts_ld hu pre.length b (by simp [hp])
      have e4 := wrI (i + 1) (by omega) (by omega)
      simp only [xslices_Equal_Sbyte_byte_l0, ofArgs, run_seq, run_block, run_ops, run_skip, run_exit, run_ret, thenQ_normal, thenQ_exit, thenQ_ret, blockQ_normal, blockQ_exit, blockQ_ret, retQ_ret, retQ_normal, ops_nil, ops_none, got_some, ops_wT, ops_wTn, ops_wF, ops_wFn, ops_wU, dops_wT, dops_wTn, dops_wF, dops_wFn, dops_wU, run_condT, run_condF, alt2_int, altB_bool, altI_int, altBB_bool, v_min, v_max, v_not, v_neg, optEv_none, optEv_some, isSome'_none, isSome'_some, pExt0, pExt1, pExt2, Bool.false_and, Bool.true_and, Bool.not_true, Bool.not_false, cond_true, cond_false, dops_nil, dops_none, xval_call, v_mov, v_bin, v_len, v_ext, v_idxA, v_ld, v_st, v_app, v_appN, v_cvs, v_bs1, pBs1, v_slc, v_conv, v_fld, v_fldA, v_new, v_box, v_mks, v_copy, v_isnil, v_nilck, v_pick, ev, evs_nil, evs_cons, fr_get_cons, fr_put_nil, fr_put_cons, fr_put_some, fr_put_none, fr_keep_nil, fr_keep_cons, fr_has_nil, fr_has_cons, Option.bind_some, Option.map_some, xbin, ibin, xresult_eq, xress_nil, xress_tmp, resV, ex_some, if_true, if_false, ite_true, ite_false, reduceIte, reduceCtorEq, Nat.reduceEqDiff, Nat.reduceLT, Nat.reduceLeDiff, Int.reduceLT, Int.reduceLE, Nat.zero_add, Nat.reduceAdd, Bool.false_eq_true, decide_eq_true_eq, decide_eq_false_iff_not, true_implies, false_implies, and_true, true_and, hlt, decide_true]
      refine run_dops _ _ _ _ _ rfl ?_
      by_cases hab : a = b
      · subst hab
        simp only [ofArgs, run_seq, run_block, run_ops, run_skip, run_exit, run_ret, thenQ_normal, thenQ_exit, thenQ_ret, blockQ_normal, blockQ_exit, blockQ_ret, retQ_ret, retQ_normal, ops_nil, ops_none, got_some, ops_wT, ops_wTn, ops_wF, ops_wFn, ops_wU, dops_wT, dops_wTn, dops_wF, dops_wFn, dops_wU, run_condT, run_condF, alt2_int, altB_bool, altI_int, altBB_bool, v_min, v_max, v_not, v_neg, optEv_none, optEv_some, isSome'_none, isSome'_some, pExt0, pExt1, pExt2, Bool.false_and, Bool.true_and, Bool.not_true, Bool.not_false, cond_true, cond_false, dops_nil, dops_none, xval_call, v_mov, v_bin, v_len, v_ext, v_idxA, v_ld, v_st, v_app, v_appN, v_cvs, v_bs1, pBs1, v_slc, v_conv, v_fld, v_fldA, v_new, v_box, v_mks, v_copy, v_isnil, v_nilck, v_pick, ev, evs_nil, evs_cons, fr_get_cons, fr_put_nil, fr_put_cons, fr_put_some, fr_put_none, fr_keep_nil, fr_keep_cons, fr_has_nil, fr_has_cons, Option.bind_some, Option.map_some, xbin, ibin, xresult_eq, xress_nil, xress_tmp, resV, ex_some, if_true, if_false, ite_true, ite_false, reduceIte, reduceCtorEq, Nat.reduceEqDiff, Nat.reduceLT, Nat.reduceLeDiff, Int.reduceLT, Int.reduceLE, Nat.zero_add, Nat.reduceAdd, Bool.false_eq_true, decide_eq_true_eq, decide_eq_false_iff_not, true_implies, false_implies, and_true, true_and, e1, e2, e3, e5, e4, bne_self_eq_false]
        subst hL
        exact ih w (pre ++ [a]) (qre ++ [a]) (i + 1) N Q (Byts.app1 hs) (Byts.app1 hu) (by omega) (by simp; omega) (by simp; omega) (by simp; omega) (by simpa using hN) (fun h => hq (by rw [h])) (fun h => hq2 (by simpa using h))
      · have hne : (a != b) = true := by simpa using hab
        simp only [ofArgs, run_seq, run_block, run_ops, run_skip, run_exit, run_ret, thenQ_normal, thenQ_exit, thenQ_ret, blockQ_normal, blockQ_exit, blockQ_ret, retQ_ret, retQ_normal, ops_nil, ops_none, got_some, ops_wT, ops_wTn, ops_wF, ops_wFn, ops_wU, dops_wT, dops_wTn, dops_wF, dops_wFn, dops_wU, run_condT, run_condF, alt2_int, altB_bool, altI_int, altBB_bool, v_min, v_max, v_not, v_neg, optEv_none, optEv_some, isSome'_none, isSome'_some, pExt0, pExt1, pExt2, Bool.false_and, Bool.true_and, Bool.not_true, Bool.not_false, cond_true, cond_false, dops_nil, dops_none, xval_call, v_mov, v_bin, v_len, v_ext, v_idxA, v_ld, v_st, v_app, v_appN, v_cvs, v_bs1, pBs1, v_slc, v_conv, v_fld, v_fldA, v_new, v_box, v_mks, v_copy, v_isnil, v_nilck, v_pick, ev, evs_nil, evs_cons, fr_get_cons, fr_put_nil, fr_put_cons, fr_put_some, fr_put_none, fr_keep_nil, fr_keep_cons, fr_has_nil, fr_has_cons, Option.bind_some, Option.map_some, xbin, ibin, xresult_eq, xress_nil, xress_tmp, resV, ex_some, if_true, if_false, ite_true, ite_false, reduceIte, reduceCtorEq, Nat.reduceEqDiff, Nat.reduceLT, Nat.reduceLeDiff, Int.reduceLT, Int.reduceLE, Nat.zero_add, Nat.reduceAdd, Bool.false_eq_true, decide_eq_true_eq, decide_eq_false_iff_not, true_implies, false_implies, and_true, true_and, e1, e2, e3, e5, e4, hne]
        exact hq2 (by simp [hab])

theorem equalB_xc (t w : List Int) (s u : Value) (H : AH) (hs : Byts H s t) (hu : Byts H u w) (hl : t.length ≤ 1000000) (hl2 : w.length ≤ 1000000) : xc Try.prog tab 18 [s, u] H = some (.bool (decide (t = w)), H) := by
  refine got_xc (got_call (res := [.tmp 4]) rfl ?_)
  have e1 := byts_len' hs
  have e2 := byts_len' hu
  by_cases hlen : t.length = w.length
  · have hc : ((t.length : Int) != (w.length : Int)) = false := by simp [hlen]
    simp only [ofArgs, run_seq, run_block, run_ops, run_skip, run_exit, run_ret, thenQ_normal, thenQ_exit, thenQ_ret, blockQ_normal, blockQ_exit, blockQ_ret, retQ_ret, retQ_normal, ops_nil, ops_none, got_some, ops_wT, ops_wTn, ops_wF, ops_wFn, ops_wU, dops_wT, dops_wTn, dops_wF, dops_wFn, dops_wU, run_condT, run_condF, alt2_int, altB_bool, altI_int, altBB_bool, v_min, v_max, v_not, v_neg, optEv_none, optEv_some, isSome'_none, isSome'_some, pExt0, pExt1, pExt2, Bool.false_and, Bool.true_and, Bool.not_true, Bool.not_false, cond_true, cond_false, dops_nil, dops_none, xval_call, v_mov, v_bin, v_len, v_ext, v_idxA, v_ld, v_st, v_app, v_appN, v_cvs, v_bs1, pBs1, v_slc, v_conv, v_fld, v_fldA, v_new, v_box, v_mks, v_copy, v_isnil, v_nilck, v_pick, ev, evs_nil, evs_cons, fr_get_cons, fr_put_nil, fr_put_cons, fr_put_some, fr_put_none, fr_keep_nil, fr_keep_cons, fr_has_nil, fr_has_cons, Option.bind_some, Option.map_some, xbin, ibin, xresult_eq, xress_nil, xress_tmp, resV, ex_some, if_true, if_false, ite_true, ite_false, reduceIte, reduceCtorEq, Nat.reduceEqDiff, Nat.reduceLT, Nat.reduceLeDiff, Int.reduceLT, Int.reduceLE, Nat.zero_add, Nat.reduceAdd, Bool.false_eq_true, decide_eq_true_eq, decide_eq_false_iff_not, true_implies, false_implies, and_true, true_and, e1, e2, hc]
    refine equalB_l0 s u H t w [] [] _ _ _ hs hu hlen rfl (by simp; omega) (by simp) (by simp) ?_ ?_
    · intro h
      simp only [ofArgs, run_seq, run_block, run_ops, run_skip, run_exit, run_ret, thenQ_normal, thenQ_exit, thenQ_ret, blockQ_normal, blockQ_exit, blockQ_ret, retQ_ret, retQ_normal, ops_nil, ops_none, got_some, ops_wT, ops_wTn, ops_wF, ops_wFn, ops_wU, dops_wT, dops_wTn, dops_wF, dops_wFn, dops_wU, run_condT, run_condF, alt2_int, altB_bool, altI_int, altBB_bool, v_min, v_max, v_not, v_neg, optEv_none, optEv_some, isSome'_none, isSome'_some, pExt0, pExt1, pExt2, Bool.false_and, Bool.true_and, Bool.not_true, Bool.not_false, cond_true, cond_false, dops_nil, dops_none, xval_call, v_mov, v_bin, v_len, v_ext, v_idxA, v_ld, v_st, v_app, v_appN, v_cvs, v_bs1, pBs1, v_slc, v_conv, v_fld, v_fldA, v_new, v_box, v_mks, v_copy, v_isnil, v_nilck, v_pick, ev, evs_nil, evs_cons, fr_get_cons, fr_put_nil, fr_put_cons, fr_put_some, fr_put_none, fr_keep_nil, fr_keep_cons, fr_has_nil, fr_has_cons, Option.bind_some, Option.map_some, xbin, ibin, xresult_eq, xress_nil, xress_tmp, resV, ex_some, if_true, if_false, ite_true, ite_false, reduceIte, reduceCtorEq, Nat.reduceEqDiff, Nat.reduceLT, Nat.reduceLeDiff, Int.reduceLT, Int.reduceLE, Nat.zero_add, Nat.reduceAdd, Bool.false_eq_true, decide_eq_true_eq, decide_eq_false_iff_not, true_implies, false_implies, and_true, true_and, h, decide_true]
    · intro h
      simp only [ofArgs, run_seq, run_block, run_ops, run_skip, run_exit, run_ret, thenQ_normal, thenQ_exit, thenQ_ret, blockQ_normal, blockQ_exit, blockQ_ret, retQ_ret, retQ_normal, ops_nil, ops_none, got_some, ops_wT, ops_wTn, ops_wF, ops_wFn, ops_wU, dops_wT, dops_wTn, dops_wF, dops_wFn, dops_wU, run_condT, run_condF, alt2_int, altB_bool, altI_int, altBB_bool, v_min, v_max, v_not, v_neg, optEv_none, optEv_some, isSome'_none, isSome'_some, pExt0, pExt1, pExt2, Bool.false_and, Bool.true_and, Bool.not_true, Bool.not_false, cond_true, cond_false, dops_nil, dops_none, xval_call, v_mov, v_bin, v_len, v_ext, v_idxA, v_ld, v_st, v_app, v_appN, v_cvs, v_bs1, pBs1, v_slc, v_conv, v_fld, v_fldA, v_new, v_box, v_mks, v_copy, v_isnil, v_nilck, v_pick, ev, evs_nil, evs_cons, fr_get_cons, fr_put_nil, fr_put_cons, fr_put_some, fr_put_none, fr_keep_nil, fr_keep_cons, fr_has_nil, fr_has_cons, Option.bind_some, Option.map_some, xbin, ibin, xresult_eq, xress_nil, xress_tmp, resV, ex_some, if_true, if_false, ite_true, ite_false, reduceIte, reduceCtorEq, Nat.reduceEqDiff, Nat.reduceLT, Nat.reduceLeDiff, Int.reduceLT, Int.reduceLE, Nat.zero_add, Nat.reduceAdd, Bool.false_eq_true, decide_eq_true_eq, decide_eq_false_iff_not, true_implies, false_implies, and_true, true_and, h, decide_false]
  · have hc : ((t.length : Int) != (w.length : Int)) = true := by simp; omega
    have hne : ¬ t = w := fun h => hlen (by rw [h])
    simp only [ofArgs, run_seq, run_block, run_ops, run_skip, run_exit, run_ret, thenQ_normal, thenQ_exit, thenQ_ret, blockQ_normal, blockQ_exit, blockQ_ret, retQ_ret, retQ_normal, ops_nil, ops_none, got_some, ops_wT, ops_wTn, ops_wF, ops_wFn, ops_wU, dops_wT, dops_wTn, dops_wF, dops_wFn, dops_wU, run_condT, run_condF, alt2_int, altB_bool, altI_int, altBB_bool, v_min, v_max, v_not, v_neg, optEv_none, optEv_some, isSome'_none, isSome'_some, pExt0, pExt1, pExt2, Bool.false_and, Bool.true_and, Bool.not_true, Bool.not_false, cond_true, cond_false, dops_nil, dops_none, xval_call, v_mov, v_bin, v_len, v_ext, v_idxA, v_ld, v_st, v_app, v_appN, v_cvs, v_bs1, pBs1, v_slc, v_conv, v_fld, v_fldA, v_new, v_box, v_mks, v_copy, v_isnil, v_nilck, v_pick, ev, evs_nil, evs_cons, fr_get_cons, fr_put_nil, fr_put_cons, fr_put_some, fr_put_none, fr_keep_nil, fr_keep_cons, fr_has_nil, fr_has_cons, Option.bind_some, Option.map_some, xbin, ibin, xresult_eq, xress_nil, xress_tmp, resV, ex_some, if_true, if_false, ite_true, ite_false, reduceIte, reduceCtorEq, Nat.reduceEqDiff, Nat.reduceLT, Nat.reduceLeDiff, Int.reduceLT, Int.reduceLE, Nat.zero_add, Nat.reduceAdd, Bool.false_eq_true, decide_eq_true_eq, decide_eq_false_iff_not, true_implies, false_implies, and_true, true_and, e1, e2, hc, hne, decide_false]


theorem appB {n0 : Nat} {H : AH} {v y : Value} {l m : List Int} {Q : Value → AH → Prop} (ho : OwnB n0 H v l) (hn : n0 ≤ H.n) (hs : Byts H y m) (hl : l.length + m.length ≤ 1000000000)
    (hq : ∀ v' H', OwnB n0 H' v' (l ++ m) → Stp v H v' H' → Q v' H') : Got (xapp H 1 1 v y) Q := by
  refine xapp_own ho hn hs (u8s_one m) (Nat.le_refl _) (Nat.le_refl _) (by omega) ?_
  intro v' H' o s
  refine hq v' H' ?_ s
  unfold OwnB
  simpa using o

theorem clone_ok (l : List Int) (hl : l.length ≤ 1000000) (s : Value) (H : AH) (Q : Value → AH → Prop) (hs : Byts H s l) (hnn : ∃ B o l c, s = .slice (some ⟨B, o, none⟩) l c)
    (hq : ∀ v H', OwnB H.n H' v l → HExt H H' → Q v H') : Got (xc Try.prog tab 36 [s] H) Q := by
  refine got_call (res := [.tmp 2]) rfl ?_
  obtain ⟨B, o, n, c, rfl⟩ := hnn
  have e1 : xisnil (.slice none 0 0) (.slice (some ⟨B, o, none⟩) n c) = some false := rfl
  simp only [ofArgs, run_seq, run_block, run_ops, run_skip, run_exit, run_ret, thenQ_normal, thenQ_exit, thenQ_ret, blockQ_normal, blockQ_exit, blockQ_ret, retQ_ret, retQ_normal, ops_nil, ops_none, got_some, ops_wT, ops_wTn, ops_wF, ops_wFn, ops_wU, dops_wT, dops_wTn, dops_wF, dops_wFn, dops_wU, run_condT, run_condF, alt2_int, altB_bool, altI_int, altBB_bool, v_min, v_max, v_not, v_neg, optEv_none, optEv_some, isSome'_none, isSome'_some, pExt0, pExt1, pExt2, Bool.false_and, Bool.true_and, Bool.not_true, Bool.not_false, cond_true, cond_false, dops_nil, dops_none, xval_call, v_mov, v_bin, v_len, v_ext, v_idxA, v_ld, v_st, v_app, v_appN, v_cvs, v_bs1, pBs1, v_slc, v_conv, v_fld, v_fldA, v_new, v_box, v_mks, v_copy, v_isnil, v_nilck, v_pick, ev, evs_nil, evs_cons, fr_get_cons, fr_put_nil, fr_put_cons, fr_put_some, fr_put_none, fr_keep_nil, fr_keep_cons, fr_has_nil, fr_has_cons, Option.bind_some, Option.map_some, xbin, ibin, xresult_eq, xress_nil, xress_tmp, resV, ex_some, if_true, if_false, ite_true, ite_false, reduceIte, reduceCtorEq, Nat.reduceEqDiff, Nat.reduceLT, Nat.reduceLeDiff, Int.reduceLT, Int.reduceLE, Nat.zero_add, Nat.reduceAdd, Bool.false_eq_true, decide_eq_true_eq, decide_eq_false_iff_not, true_implies, false_implies, and_true, true_and, e1, v_bs0]
  refine appB (l := []) (own_bs0 H) (by simp) (Sl.ext (hext_push _ _) hs) (by simp; omega) ?_
  intro v H' o' s'
  exact hq v H' (by simpa using o') (Keep.trans (n0 := H.n) (hext_push H _) (s'.keep (own_bs0 H) (by simp)))

theorem wrap8_hi (n : Nat) (h : n < 65536) : IntKind.u8.wrap (((n : Int)).fdiv (2 ^ 8)) = ((n / 256 : Nat) : Int) := by
  rw [shrN, Nat.shiftRight_eq_div_pow, wrU8' _ (by omega) (by omega)]
theorem wrap8_lo (n : Nat) : IntKind.u8.wrap (n : Int) = ((n % 256 : Nat) : Int) := by
  rw [wrU8m]; omega

def sealed (l : List Int) : List Int := l ++ [((crcFold 65535 l / 256 : Nat) : Int), ((crcFold 65535 l % 256 : Nat) : Int)]
theorem sealed_len (l : List Int) : (sealed l).length = l.length + 2 := by simp [sealed]
theorem sealed_b8 (l : List Int) (hb : B8 l) : B8 (sealed l) := by
  have := crcFold_lt l hb 65535 (by omega)
  intro b h
  unfold sealed at h
  rcases List.mem_append.1 h with h | h
  · exact hb b h
  · simp at h; omega

theorem getD_get (l : List Int) (q : Nat) (h : q < l.length) : l[q]? = some (l.getD q 0) := by
  rw [List.getD_eq_getElem?_getD, List.getElem?_eq_getElem h]; rfl

end Go.Proofs.Ytejedmocjdcdgaa.D

set_option linter.unusedSimpArgs false
set_option linter.unusedVariables false
namespace Go.Proofs.Ytejedmocjdcdgaa.D
open Go Go.Det

theorem mulb (a c : Int) (h1 : 1 ≤ a) (h2 : a ≤ 100) (h3 : 2 ≤ c) (h4 : c ≤ 1000) : 2 ≤ a * c ∧ a * c ≤ 100000 := by
  have e1 : 1 * c ≤ a * c := Int.mul_le_mul_of_nonneg_right h1 (by omega)
  have e2 : a * c ≤ 100 * c := Int.mul_le_mul_of_nonneg_right h2 (by omega)
  omega
/-- the track of numbers of cells -/
def pul (cell : Int) (l : List Int) : List Int := l.map fun a => a * cell
/-- the number of cells of a time -/
def celOf (cell p : Int) : Int := Int.tdiv (2 * p + cell) (2 * cell)
/-! what a shake does to pulses -/
def shd (l : List Int) (most : Int) : Nat → Int → List Int → List Int
  | _, _, [] => []
  | k, m0, p :: t => (p + mvAt l most k - m0) :: shd l most (k + 1) (mvAt l most k) t
theorem shd_len (l : List Int) (most : Int) (t : List Int) : ∀ k m0, (shd l most k m0 t).length = t.length := by
  induction t with
  | nil => intro k m0; rfl
  | cons p t ih => intro k m0; simp [shd, ih]
theorem shk_shd (l : List Int) (most : Int) (t : List Int) : ∀ (a m0 : Int) (k : Nat), difs (a + m0) (shk l most k (sums a t)) = shd l most k m0 t := by
  induction t with
  | nil => intro a m0 k; rfl
  | cons p t ih =>
    intro a m0 k
    simp only [sums, shk, difs, shd]
    rw [ih (a + p) (mvAt l most k) (k + 1)]
    congr 1
    omega
theorem cel_near (cell most k d e : Int) (hc : 2 ≤ cell) (hm : 4 * most ≤ cell - 1) (hd : -most ≤ d ∧ d ≤ most) (he : -most ≤ e ∧ e ≤ most) (hk : 1 ≤ k) (hk2 : k ≤ 50) (hc2 : cell ≤ 1000) :
    celOf cell (k * cell + d - e) = k ∧ 1 ≤ k * cell + d - e ∧ k * cell + d - e ≤ 100000 := by
  have hb := mulb k cell hk (by omega) hc hc2
  have h1 : 1 * cell ≤ k * cell := Int.mul_le_mul_of_nonneg_right hk (by omega)
  have h2 : k * cell ≤ 50 * cell := Int.mul_le_mul_of_nonneg_right hk2 (by omega)
  refine ⟨?_, by omega, by omega⟩
  unfold celOf
  rw [Int.tdiv_eq_ediv_of_nonneg (by omega)]
  have e1 : 2 * (k * cell + d - e) + cell = (2 * (d - e) + cell) + k * (2 * cell) := by
    have : k * (2 * cell) = 2 * (k * cell) := by rw [Int.mul_left_comm]
    omega
  rw [e1, Int.add_mul_ediv_right _ _ (by omega), Int.ediv_eq_zero_of_lt (by omega) (by omega)]
  omega
theorem shd_cells (l : List Int) (cell most : Int) (h0 : 0 ≤ most) (hc : 2 ≤ cell) (hc2 : cell ≤ 1000) (hm : 4 * most ≤ cell - 1) (t : List Int) (ht : ∀ a ∈ t, 1 ≤ a ∧ a ≤ 50) : ∀ (k : Nat) (m0 : Int), -most ≤ m0 → m0 ≤ most →
    Ok (shd l most k m0 (pul cell t)) ∧ (shd l most k m0 (pul cell t)).map (celOf cell) = t := by
  induction t with
  | nil => intro k m0 _ _; exact ⟨fun p hp => by simp [pul, shd] at hp, rfl⟩
  | cons a t ih =>
    intro k m0 h1 h2
    have ha := ht a (by simp)
    have hb := mv_bnd l most h0 k
    have hn := cel_near cell most a (mvAt l most k) m0 hc hm hb ⟨h1, h2⟩ ha.1 ha.2 hc2
    obtain ⟨i1, i2⟩ := ih (fun x hx => ht x (by simp [hx])) (k + 1) (mvAt l most k) hb.1 hb.2
    refine ⟨fun p hp => ?_, ?_⟩
    · simp only [pul, List.map_cons, shd, List.mem_cons] at hp
      rcases hp with rfl | hp
      · exact hn.2
      · exact i1 p hp
    · simp only [pul, List.map_cons, shd]
      rw [hn.1]
      congr 1
theorem pul_cells (cell : Int) (hc : 2 ≤ cell) (hc2 : cell ≤ 1000) (t : List Int) (ht : ∀ a ∈ t, 1 ≤ a ∧ a ≤ 50) : (pul cell t).map (celOf cell) = t := by
  induction t with
  | nil => rfl
  | cons a t ih =>
    have ha := ht a (by simp)
    have hn := cel_near cell 0 a 0 0 hc (by omega) (by omega) (by omega) ha.1 ha.2 hc2
    have e := ih (fun x hx => ht x (by simp [hx]))
    unfold pul at e ⊢
    simp only [List.map_cons]
    rw [e]
    congr 1
    simpa using hn.1
theorem pul_ok (cell : Int) (hc : 2 ≤ cell) (hc2 : cell ≤ 1000) (t : List Int) (ht : ∀ a ∈ t, 1 ≤ a ∧ a ≤ 100) : Ok (pul cell t) := by
  intro p hp
  simp only [pul, List.mem_map] at hp
  obtain ⟨a, ha, rfl⟩ := hp
  have := mulb a cell (ht a ha).1 (ht a ha).2 hc hc2
  omega
theorem pul_sum (cell : Int) (t : List Int) : (pul cell t).sum = t.sum * cell := by
  induction t with
  | nil => simp [pul]
  | cons a t ih =>
    have : pul cell (a :: t) = a * cell :: pul cell t := rfl
    rw [this, List.sum_cons, ih, List.sum_cons, Int.add_mul]
end Go.Proofs.Ytejedmocjdcdgaa.D

set_option linter.unusedSimpArgs false
set_option linter.unusedVariables false
namespace Go.Proofs.Ytejedmocjdcdgaa.D
open Go Go.Det

/-- the cells of the last bits of a byte -/
def fmb (c : Nat) : Nat → List Int
  | 0 => []
  | k + 1 => (if c.testBit k then [1, 1] else [2]) ++ fmb c k
def fmw (l : List Int) : List Int := l.flatMap fun c => fmb c.toNat 8
theorem fmb_len (c k : Nat) : (fmb c k).length ≤ 2 * k := by
  induction k with
  | zero => simp [fmb]
  | succ k ih => simp only [fmb, List.length_append]; split <;> simp <;> omega
theorem fmb_sum (c k : Nat) : (fmb c k).sum = 2 * (k : Int) := by
  induction k with
  | zero => simp [fmb]
  | succ k ih => simp only [fmb, List.sum_append, ih]; split <;> simp <;> omega
theorem fmb_12 (c k : Nat) : ∀ a ∈ fmb c k, 1 ≤ a ∧ a ≤ 2 := by
  induction k with
  | zero => intro a h; simp [fmb] at h
  | succ k ih =>
    intro a h
    simp only [fmb, List.mem_append] at h
    rcases h with h | h
    · split at h <;> simp at h <;> omega
    · exact ih a h
theorem fmw_cons (c : Int) (l : List Int) : fmw (c :: l) = fmb c.toNat 8 ++ fmw l := by simp [fmw]
theorem fmw_len (l : List Int) : (fmw l).length ≤ 16 * l.length := by
  induction l with
  | nil => simp [fmw]
  | cons c l ih => rw [fmw_cons, List.length_append, List.length_cons]; have := fmb_len c.toNat 8; omega
theorem fmw_sum (l : List Int) : (fmw l).sum = 16 * (l.length : Int) := by
  induction l with
  | nil => simp [fmw]
  | cons c l ih => rw [fmw_cons, List.sum_append, fmb_sum, ih, List.length_cons]; omega
theorem fmw_12 (l : List Int) : ∀ a ∈ fmw l, 1 ≤ a ∧ a ≤ 2 := by
  induction l with
  | nil => intro a h; simp [fmw] at h
  | cons c l ih =>
    intro a h
    rw [fmw_cons, List.mem_append] at h
    rcases h with h | h
    · exact fmb_12 _ _ a h
    · exact ih a h

theorem app_two {n0 : Nat} {H : AH} {v : Value} {acc : List Int} {x y : Int} {Q : Value → AH → Prop} (ho : OwnI n0 H v acc) (hn : n0 ≤ H.n) (hle : acc.length + 2 ≤ 17592186044416)
    (hq : ∀ v' H', OwnI n0 H' v' (acc ++ [x, y]) → Stp v H v' H' → Q v' H') : Got (xapp (H.push ⟨[.int .i64 x, .int .i64 y], 1, false, false⟩) 1 8 v (.slice (some ⟨H.n, 0, none⟩) 2 2)) Q := by
  refine xapp_own (Own.ext (hext_push H _) ho) (by simp; omega) (Sl.pushed H [.int .i64 x, .int .i64 y] 1 2 false false rfl) rfl (Nat.le_refl _) (by omega) (by omega) ?_
  intro v' H' h1 h2
  refine hq v' H' (by simpa [OwnI] using h1) ⟨by have := h2.n; simp at this; omega, fun b hb hnb => ?_, fun b h => ?_⟩
  · rw [h2.get b (by simp; omega) hnb, AH.get_push, if_neg (by omega)]
  · rcases h2.new b h with h | h
    · exact .inl h
    · exact .inr (by simp at h; omega)
theorem app_oneB {n0 : Nat} {H : AH} {v : Value} {acc : List Int} {x : Int} {Q : Value → AH → Prop} (ho : OwnB n0 H v acc) (hn : n0 ≤ H.n) (hle : acc.length + 1 ≤ 1000000000)
    (hq : ∀ v' H', OwnB n0 H' v' (acc ++ [x]) → Stp v H v' H' → Q v' H') : Got (xapp (H.push ⟨[.int .u8 x], 1, false, false⟩) 1 1 v (.slice (some ⟨H.n, 0, none⟩) 1 1)) Q := by
  refine xapp_own (Own.ext (hext_push H _) ho) (by simp; omega) (Sl.pushed H [.int .u8 x] 1 1 false false rfl) rfl (Nat.le_refl _) (by omega) (by omega) ?_
  intro v' H' h1 h2
  refine hq v' H' (by simpa [OwnB] using h1) ⟨by have := h2.n; simp at this; omega, fun b hb hnb => ?_, fun b h => ?_⟩
  · rw [h2.get b (by simp; omega) hnb, AH.get_push, if_neg (by omega)]
  · rcases h2.new b h with h | h
    · exact .inl h
    · exact .inr (by simp at h; omega)

end Go.Proofs.Ytejedmocjdcdgaa.D

set_option linter.unusedSimpArgs false
set_option linter.unusedVariables false
namespace Go.Proofs.Ytejedmocjdcdgaa.D
open Go Go.Det

theorem shr_step (c k : Nat) : 2 * (c >>> (k + 1)) + (c.testBit k).toNat = c >>> k := by
  rw [Nat.shiftRight_succ, Nat.testBit_eq_decide_div_mod_eq, ← Nat.shiftRight_eq_div_pow]
  generalize c >>> k = x
  rcases Nat.mod_two_eq_zero_or_one x with h | h <;> simp [h] <;> omega
theorem shr_lt2 (c k : Nat) (hc : c < 256) : c >>> (k + 1) < 128 := by
  rw [Nat.shiftRight_eq_div_pow, Nat.pow_succ]
  have : c / (2 ^ k * 2) ≤ c / 2 := Nat.div_le_div_left (by have := Nat.pow_pos (n := k) (by omega : 0 < 2); omega) (by omega)
  omega
end Go.Proofs.Ytejedmocjdcdgaa.D

set_option linter.unusedSimpArgs false
set_option linter.unusedVariables false
namespace Go.Proofs.Ytejedmocjdcdgaa.D
open Go Go.Det

theorem st3_0 {H : AH} {B : Nat} {a b c a' : Value} (h : H.get B = some ⟨[a, b, c], 1, false, false⟩) (h1 : one a' = true) (h2 : vcells a' = [a']) : pSt 1 (.pointer (some ⟨B, 0, none⟩)) a' H = some (undef, H.set B ⟨[a', b, c], 1, false, false⟩) := by
  unfold pSt
  simp only [h, Option.bind_some, h2, List.all_cons, List.all_nil, h1]
  rfl
theorem st3_1 {H : AH} {B : Nat} {a b c b' : Value} (h : H.get B = some ⟨[a, b, c], 1, false, false⟩) (h1 : one b' = true) (h2 : vcells b' = [b']) : pSt 1 (.pointer (some ⟨B, 1, none⟩)) b' H = some (undef, H.set B ⟨[a, b', c], 1, false, false⟩) := by
  unfold pSt
  simp only [h, Option.bind_some, h2, List.all_cons, List.all_nil, h1]
  rfl

/-! ### places and the lengths between changes -/
theorem snoc_ind {P : List Bool → Prop} (h0 : P []) (h1 : ∀ q b, P q → P (q ++ [b])) (q : List Bool) : P q := by
  have key : ∀ r : List Bool, P r.reverse := by
    intro r
    induction r with
    | nil => exact h0
    | cons b r ih => rw [List.reverse_cons]; exact h1 _ _ ih
  have := key q.reverse
  rwa [List.reverse_reverse] at this
def plc (s : List Int × Nat) (b : Bool) : List Int × Nat := if b then (s.1 ++ [((s.2 + 1 : Nat) : Int)], 0) else (s.1, s.2 + 1)
def gaps (q : List Bool) : List Int × Nat := q.foldl plc ([], 0)
theorem gaps_snoc (q : List Bool) (b : Bool) : gaps (q ++ [b]) = plc (gaps q) b := by unfold gaps; rw [List.foldl_append]; rfl
theorem gaps_len (q : List Bool) : (gaps q).1.length ≤ q.length ∧ (gaps q).2 ≤ q.length := by
  refine snoc_ind (P := fun q => (gaps q).1.length ≤ q.length ∧ (gaps q).2 ≤ q.length) (by simp [gaps]) (fun q b ih => ?_) q
  rw [gaps_snoc, List.length_append]
  unfold plc
  split <;> simp <;> omega
def expand : List Int → List Bool
  | [] => []
  | g :: l => List.replicate (g.toNat - 1) false ++ true :: expand l
theorem expand_app (l m : List Int) : expand (l ++ m) = expand l ++ expand m := by
  induction l with
  | nil => rfl
  | cons g l ih => simp [expand, ih]
theorem expand_gaps (q : List Bool) : expand (gaps q).1 ++ List.replicate (gaps q).2 false = q := by
  refine snoc_ind (P := fun q => expand (gaps q).1 ++ List.replicate (gaps q).2 false = q) rfl (fun q b ih => ?_) q
  rw [gaps_snoc]
  unfold plc
  cases b with
  | true =>
    simp only [if_true]
    rw [expand_app]
    conv => rhs; rw [← ih]
    simp [expand]
  | false =>
    simp only [Bool.false_eq_true, if_false]
    conv => rhs; rw [← ih]
    rw [List.replicate_succ', List.append_assoc]
theorem gaps_pos (q : List Bool) : ∀ g ∈ (gaps q).1, 1 ≤ g := by
  refine snoc_ind (P := fun q => ∀ g ∈ (gaps q).1, 1 ≤ g) (by simp [gaps]) (fun q b ih => ?_) q
  intro g h
  rw [gaps_snoc] at h
  unfold plc at h
  split at h
  · rcases List.mem_append.1 h with h | h
    · exact ih g h
    · simp at h; omega
  · exact ih g h

/-- the bits of a byte, each with its clock -/
def msym (c : Nat) (mark : Bool) : Nat → Bool → List Bool
  | 0, _ => []
  | r + 1, last => (!(c.testBit r) && !last && !(mark && decide (r = 2))) :: c.testBit r :: msym c mark r (c.testBit r)
theorem msym_len (c : Nat) (mark : Bool) (r : Nat) : ∀ last, (msym c mark r last).length = 2 * r := by
  induction r with
  | zero => intro last; rfl
  | succ r ih => intro last; simp [msym, ih]; omega

/-- a writer -/
def Wr (n0 : Nat) (H : AH) (W : Nat) (q : List Bool) (last : Bool) : Prop :=
  W < n0 ∧ n0 ≤ H.n ∧ ∃ vl, H.get W = some ⟨[vl, .int .i64 ((gaps q).2 : Nat), .bool last], 1, false, false⟩ ∧ OwnI n0 H vl (gaps q).1
/-- all up to n0 is there, but for one block -/
def KeepB (n0 W : Nat) (H H' : AH) : Prop := H.n ≤ H'.n ∧ ∀ b, b < n0 → b ≠ W → H'.get b = H.get b
theorem KeepB.refl (n0 W : Nat) (H : AH) : KeepB n0 W H H := ⟨Nat.le_refl _, fun _ _ _ => rfl⟩
theorem KeepB.trans {n0 W : Nat} {A B C : AH} (h : KeepB n0 W A B) (k : KeepB n0 W B C) : KeepB n0 W A C := ⟨Nat.le_trans h.1 k.1, fun b hb hw => (k.2 b hb hw).trans (h.2 b hb hw)⟩

theorem kset (n0 W : Nat) (H : AH) (blk : Blk) : KeepB n0 W H (H.set W blk) := ⟨Nat.le_refl _, fun b _ hb => by rw [AH.get_set, if_neg hb]⟩
end Go.Proofs.Ytejedmocjdcdgaa.D

set_option linter.unusedSimpArgs false
set_option linter.unusedVariables false
namespace Go.Proofs.Ytejedmocjdcdgaa.D
open Go Go.Det

def syms : List Int → Bool → List Bool
  | [], _ => []
  | c :: l, last => msym c.toNat false 8 last ++ syms l (c.toNat.testBit 0)
def lastOf : List Int → Bool → Bool
  | [], last => last
  | c :: l, _ => lastOf l (c.toNat.testBit 0)
theorem syms_len (l : List Int) : ∀ last, (syms l last).length = 16 * l.length := by
  induction l with
  | nil => intro last; rfl
  | cons c l ih => intro last; simp [syms, msym_len, ih]; omega
/-- all places of a part alone, and the closing bit -/
def full (mark : Bool) (a : List Int) : List Bool := (if mark then msym 161 true 8 true else []) ++ syms a true ++ [false, true]
theorem full_len (mark : Bool) (a : List Int) : (full mark a).length = 2 * (8 * ((if mark then 1 else 0) + a.length) + 1) := by
  unfold full; cases mark <;> simp [msym_len, syms_len] <;> omega

/-! ### no length is above 4 -/
theorem gaps_app (q m : List Bool) : gaps (q ++ m) = m.foldl plc (gaps q) := by unfold gaps; rw [List.foldl_append]
def GB (q : List Bool) (last : Bool) : Prop := (∀ g ∈ (gaps q).1, g ≤ 4) ∧ (gaps q).2 ≤ 2 ∧ (last = true → (gaps q).2 = 0)
theorem gb_bit (q : List Bool) (last bit : Bool) (h : GB q last) : GB (q ++ [(!bit && !last), bit]) bit := by
  obtain ⟨h1, h2, h3⟩ := h
  unfold GB
  rw [gaps_app]
  generalize gaps q = s at h1 h2 h3
  obtain ⟨l, g⟩ := s
  simp only [] at h1 h2 h3
  cases bit <;> cases last
  · simp [plc]
    intro a ha
    rcases ha with ha | ha
    · exact h1 a ha
    · omega
  · have := h3 rfl
    subst this
    simp [plc]
    exact h1
  · simp [plc]
    intro a ha
    rcases ha with ha | ha
    · exact h1 a ha
    · omega
  · simp [plc]
    intro a ha
    rcases ha with ha | ha
    · exact h1 a ha
    · omega
theorem gb_sym (c : Nat) (r : Nat) : ∀ q last, GB q last → GB (q ++ msym c false r last) (if r = 0 then last else c.testBit 0) := by
  induction r with
  | zero => intro q last h; simpa [msym] using h
  | succ r ih =>
    intro q last h
    have h1 := ih _ _ (gb_bit q last (c.testBit r) h)
    have e : q ++ msym c false (r + 1) last = q ++ [(!(c.testBit r) && !last), c.testBit r] ++ msym c false r (c.testBit r) := by simp [msym]
    rw [e, if_neg (by omega)]
    by_cases hr : r = 0
    · subst hr; simpa using h1
    · rw [if_neg hr] at h1; exact h1
theorem gb_syms (a : List Int) : ∀ q last, GB q last → GB (q ++ syms a last) (lastOf a last) := by
  induction a with
  | nil => intro q last h; simpa [syms, lastOf] using h
  | cons c a ih =>
    intro q last h
    have h1 := ih _ _ (by simpa using gb_sym c.toNat 8 q last h)
    simpa [syms, lastOf] using h1
theorem gb_mark : GB (msym 161 true 8 true) true := by
  have e : gaps (msym 161 true 8 true) = ([2, 4, 3, 4, 3], 0) := by decide
  unfold GB
  rw [e]
  simp
theorem full_gb (mark : Bool) (a : List Int) : (∀ g ∈ (gaps (full mark a)).1, 1 ≤ g ∧ g ≤ 4) ∧ (gaps (full mark a)).2 = 0 := by
  have h0 : GB (if mark then msym 161 true 8 true else []) true := by
    cases mark
    · simp [GB, gaps]
    · exact gb_mark
  have h1 := gb_syms a _ _ h0
  have hp := gaps_pos (full mark a)
  have h2 : ∀ g ∈ (gaps (full mark a)).1, g ≤ 4 := by
    unfold full
    rw [gaps_app]
    generalize (if mark then msym 161 true 8 true else []) ++ syms a true = q at h1
    obtain ⟨g1, g2, g3⟩ := h1
    generalize gaps q = s at g1 g2 g3
    obtain ⟨l, g⟩ := s
    simp [plc] at g1 g2 ⊢
    intro b hb
    rcases hb with hb | hb
    · exact g1 b hb
    · omega
  refine ⟨fun g hg => ⟨hp g hg, h2 g hg⟩, ?_⟩
  unfold full
  rw [gaps_app]
  simp [plc]

/-! ### a list of one part -/
theorem ld_part {H : AH} {vp m va : Value} (h : Sl H 2 vp 1 [m, va]) : pIdx 2 vp (.int .i64 0) H = some (ptrAt vp 0, H) ∧ pLd (some 2) (ptrAt vp 0) H = some (.agg #[m, va], H) := by
  refine ⟨by have := pIdx_ok h .i64 0 0 rfl (by omega); simpa using this, ?_⟩
  obtain ⟨B, o, c, blk, rfl, h1, h2, h3, h4, h5, h6⟩ := h.live (by omega)
  show ((H.get B).bind fun blk => (partV blk.cells (o + 0) (some 2)).map fun v => (v, H)) = _
  rw [h2]
  have hle : Nat.ble (o + 0 + 2) blk.cells.length = true := by rw [Nat.ble_eq]; omega
  have e : ((blk.cells.drop o).take 2) = [m, va] := by simpa using h6
  simp only [Option.bind_some, partV, hle, cond_true, Nat.add_zero, e, Option.map_some]
theorem st2 {H : AH} {B : Nat} {a b a' b' : Value} (h : H.get B = some ⟨[a, b], 1, false, false⟩) (h1 : one a' = true) (h2 : one b' = true) : pSt 2 (.pointer (some ⟨B, 0, none⟩)) (.agg #[a', b']) H = some (undef, H.set B ⟨[a', b'], 1, false, false⟩) := by
  have e : vcells (.agg #[a', b']) = [a', b'] := rfl
  unfold pSt
  simp only [h, Option.bind_some, e, List.all_cons, List.all_nil, h1, h2]
  rfl
theorem ld2_0 {H : AH} {B : Nat} {a b : Value} (h : H.get B = some ⟨[a, b], 1, false, false⟩) : pLd none (.pointer (some ⟨B, 0, none⟩)) H = some (a, H) := by unfold pLd; simp only [h]; rfl
theorem ld2_1 {H : AH} {B : Nat} {a b : Value} (h : H.get B = some ⟨[a, b], 1, false, false⟩) : pLd none (.pointer (some ⟨B, 1, none⟩)) H = some (b, H) := by unfold pLd; simp only [h]; rfl
/-- a struct of two is loaded into a box of its own -/
theorem set_ext (H : AH) (x y : Blk) : HExt H ((H.push x).set H.n y) := ⟨by show _ ≤ H.n + 1; omega, fun b hb => by rw [AH.get_set, if_neg (by omega), AH.get_push, if_neg (by omega)]⟩

theorem KeepB.keep {n0 W m : Nat} {A B : AH} (h : KeepB n0 W A B) (hm : m ≤ W) (hm2 : m ≤ n0) : Keep m A B := ⟨h.1, fun b hb => h.2 b (by omega) (by omega)⟩
end Go.Proofs.Ytejedmocjdcdgaa.D

set_option linter.unusedSimpArgs false
set_option linter.unusedVariables false
namespace Go.Proofs.Ytejedmocjdcdgaa.D
open Go Go.Det

theorem flat_neb {P : Program} {fr : Fr} {H : AH} (x y : Operand) (t t' ty : TypeId) (a b : Bool) (hu : P.underlying t = some .bool) (hx : ev fr x = some (.bool a)) (hy : ev fr y = some (.bool b)) : xop P fr H (.flat (.binOp .neq t x y ty) t') = some (.bool (!(a == b)), H) := by
  refine flat_eq ?_ ?_ rfl
  · simp [Op.operands, evFlat, hx, hy, flatD]
  · simp [execOp, flatOper, hx, hy, eqGuard, binOp, Op.equal, show Op.maxDepth = 9999 + 1 from rfl, pureRun_bind, pureRun_map, pureRun_pure, pureRun_eqb 9999 a b hu]
theorem v_neb {P : Program} {T : XTab} {fr : Fr} {H : AH} {t : TypeId} (hu : P.underlying t = some .bool) (dd : Option Nat) (x y : Operand) (t' ty : TypeId) : xval P (xc P T) ⟨dd, .flat (.binOp .neq t x y ty) t', none⟩ fr H =
    altBB (ev fr x) (ev fr y) (fun a b => some (.bool (!(a == b)), H)) (xop P fr H (.flat (.binOp .neq t x y ty) t')) := by
  rw [xval_op dd _ fr H rfl]
  unfold altBB
  split
  · rename_i a b h1 h2; exact flat_neb x y t t' ty a b hu h1 h2
  · rfl

/-! ### the bits of lengths -/
def Boos (H : AH) (v : Value) (l : List Bool) : Prop := Sl H 1 v l.length (l.map .bool)
def OwnO (n0 : Nat) (H : AH) (v : Value) (l : List Bool) : Prop := Own n0 1 H v l.length (l.map .bool)
theorem boos_idx {H : AH} {s : Value} {l : List Bool} (h : Boos H s l) (i : Int) (k : Nat) (hi : i = (k : Int)) (hk : k < l.length) : pIdx 1 s (.int .i64 i) H = some (ptrAt s k, H) := pIdx_one h .i64 i k hi hk
theorem boos_ld {H : AH} {s : Value} {l : List Bool} (h : Boos H s l) (k : Nat) (a : Bool) (ha : l[k]? = some a) : pLd none (ptrAt s k) H = some (.bool a, H) := pLd_one h k _ (by simp [ha])
theorem boos_len {H : AH} {s : Value} {l : List Bool} (hs : Boos H s l) : pLen s H = some (.int .i64 (l.length : Int), H) := pLen_ok hs
def dataL (p : Nat) (q : List Bool) (n : Nat) : List Bool := (List.range n).map fun i => decide (2 * i + 1 < p) && q.getD (2 * i + 1) false
def clockL (p : Nat) (q : List Bool) (n : Nat) : List Bool := (List.range n).map fun i => decide (2 * i < p) && q.getD (2 * i) false
theorem dataL_len (p : Nat) (q : List Bool) (n : Nat) : (dataL p q n).length = n := by simp [dataL]
theorem clockL_len (p : Nat) (q : List Bool) (n : Nat) : (clockL p q n).length = n := by simp [clockL]
theorem dataL_get (p : Nat) (q : List Bool) (n i : Nat) (hi : i < n) : (dataL p q n)[i]? = some (decide (2 * i + 1 < p) && q.getD (2 * i + 1) false) := by simp [dataL, hi]
theorem clockL_get (p : Nat) (q : List Bool) (n i : Nat) (hi : i < n) : (clockL p q n)[i]? = some (decide (2 * i < p) && q.getD (2 * i) false) := by simp [clockL, hi]
theorem dataL_none (p : Nat) (q : List Bool) (n i : Nat) (hi : n ≤ i) : (dataL p q n)[i]? = none := List.getElem?_eq_none (by rw [dataL_len]; exact hi)
theorem clockL_none (p : Nat) (q : List Bool) (n i : Nat) (hi : n ≤ i) : (clockL p q n)[i]? = none := List.getElem?_eq_none (by rw [clockL_len]; exact hi)
theorem step_even (q : List Bool) (n p g : Nat) (hg : 1 ≤ g) (h1 : ∀ j, p ≤ j → j < p + g - 1 → q.getD j false = false) (h2 : q.getD (p + g - 1) false = true) (hn : p + g ≤ 2 * n) (he : (p + g) % 2 = 0) :
    dataL (p + g) q n = (dataL p q n).set ((p + g) / 2 - 1) true ∧ clockL (p + g) q n = clockL p q n := by
  constructor
  · apply List.ext_getElem?
    intro i
    rcases Nat.lt_or_ge i n with hi | hi
    · rw [dataL_get _ _ _ _ hi]
      by_cases hk : (p + g) / 2 - 1 = i
      · subst hk
        rw [List.getElem?_set_self (by rw [dataL_len]; exact hi)]
        have e : 2 * ((p + g) / 2 - 1) + 1 = p + g - 1 := by omega
        rw [e, h2]
        have : p + g - 1 < p + g := by omega
        simp [this]
      · rw [List.getElem?_set_ne hk, dataL_get _ _ _ _ hi]
        by_cases c1 : 2 * i + 1 < p
        · have c2 : 2 * i + 1 < p + g := by omega
          simp [c1, c2]
        · by_cases c2 : 2 * i + 1 < p + g
          · rw [h1 (2 * i + 1) (by omega) (by omega)]; simp
          · simp [c1, c2]
    · rw [dataL_none _ _ _ _ hi, List.getElem?_eq_none (by simp [dataL_len]; exact hi)]
  · apply List.ext_getElem?
    intro i
    rcases Nat.lt_or_ge i n with hi | hi
    · rw [clockL_get _ _ _ _ hi, clockL_get _ _ _ _ hi]
      by_cases c1 : 2 * i < p
      · have c2 : 2 * i < p + g := by omega
        simp [c1, c2]
      · by_cases c2 : 2 * i < p + g
        · rw [h1 (2 * i) (by omega) (by omega)]; simp
        · simp [c1, c2]
    · rw [clockL_none _ _ _ _ hi, clockL_none _ _ _ _ hi]
theorem step_odd (q : List Bool) (n p g : Nat) (hg : 1 ≤ g) (h1 : ∀ j, p ≤ j → j < p + g - 1 → q.getD j false = false) (h2 : q.getD (p + g - 1) false = true) (hn : p + g ≤ 2 * n) (he : ¬ (p + g) % 2 = 0) :
    clockL (p + g) q n = (clockL p q n).set ((p + g) / 2) true ∧ dataL (p + g) q n = dataL p q n := by
  constructor
  · apply List.ext_getElem?
    intro i
    rcases Nat.lt_or_ge i n with hi | hi
    · rw [clockL_get _ _ _ _ hi]
      by_cases hk : (p + g) / 2 = i
      · subst hk
        rw [List.getElem?_set_self (by rw [clockL_len]; exact hi)]
        have e : 2 * ((p + g) / 2) = p + g - 1 := by omega
        rw [e, h2]
        have : p + g - 1 < p + g := by omega
        simp [this]
      · rw [List.getElem?_set_ne hk, clockL_get _ _ _ _ hi]
        by_cases c1 : 2 * i < p
        · have c2 : 2 * i < p + g := by omega
          simp [c1, c2]
        · by_cases c2 : 2 * i < p + g
          · rw [h1 (2 * i) (by omega) (by omega)]; simp
          · simp [c1, c2]
    · rw [clockL_none _ _ _ _ hi, List.getElem?_eq_none (by simp [clockL_len]; exact hi)]
  · apply List.ext_getElem?
    intro i
    rcases Nat.lt_or_ge i n with hi | hi
    · rw [dataL_get _ _ _ _ hi, dataL_get _ _ _ _ hi]
      by_cases c1 : 2 * i + 1 < p
      · have c2 : 2 * i + 1 < p + g := by omega
        simp [c1, c2]
      · by_cases c2 : 2 * i + 1 < p + g
        · rw [h1 (2 * i + 1) (by omega) (by omega)]; simp
        · simp [c1, c2]
    · rw [dataL_none _ _ _ _ hi, dataL_none _ _ _ _ hi]

theorem expand_len (l : List Int) (h : ∀ g ∈ l, 1 ≤ g) : ((expand l).length : Int) = l.sum := by
  induction l with
  | nil => rfl
  | cons g l ih =>
    have hg := h g (by simp)
    have := ih (fun x hx => h x (by simp [hx]))
    simp only [expand, List.length_append, List.length_replicate, List.length_cons, List.sum_cons]
    omega
theorem sum_nonneg (l : List Int) (h : ∀ g ∈ l, 1 ≤ g) : 0 ≤ l.sum := by
  induction l with
  | nil => simp
  | cons g l ih =>
    have hg := h g (by simp)
    have := ih (fun x hx => h x (by simp [hx]))
    rw [List.sum_cons]; omega

theorem OwnO.set' {n0 : Nat} {H : AH} {v : Value} {l : List Bool} {k : Nat} {Q : Value → AH → Prop} (ho : OwnO n0 H v l) (hk : k < l.length) (hq : ∀ H', OwnO n0 H' v (l.set k true) → Stp v H v H' → Q undef H') : Got (pSt 1 (ptrAt v k) (.bool true) H) Q := by
  refine pSt_own ho (by simpa using hk) rfl rfl ?_
  intro H' o s
  refine hq H' ?_ s
  unfold OwnO
  rw [List.length_set, List.map_set]
  exact o

end Go.Proofs.Ytejedmocjdcdgaa.D

set_option linter.unusedSimpArgs false
set_option linter.unusedVariables false
namespace Go.Proofs.Ytejedmocjdcdgaa.D
open Go Go.Det

/-- the bit ahead of bit k of a byte -/
def lastAt (c : Nat) (last0 : Bool) (k : Nat) : Bool := if k = 0 then last0 else c.testBit (8 - k)

end Go.Proofs.Ytejedmocjdcdgaa.D

set_option linter.unusedSimpArgs false
set_option linter.unusedVariables false
namespace Go.Proofs.Ytejedmocjdcdgaa.D
open Go Go.Det

def pB2 (z0 : Value) (v : Value) (H : AH) : Option (Value × AH) :=
  match vcells v with
  | [u] => bif one u then some (.agg #[z0, u], H) else none
  | _ => none
theorem v_b2 {P : Program} {T : XTab} (fr : Fr) (H : AH) (dd : Option Nat) (x : Operand) (z0 z1 : Value) : xval P (xc P T) ⟨dd, .build [z0, z1] [(1, 1, x)], none⟩ fr H = (ev fr x).bind fun v => pB2 z0 v H := by
  rw [xval_op dd _ fr H rfl, e_build]
  rcases hx : ev fr x with _ | v
  · simp [xfill, hx]
  · simp only [Option.bind_some, pB2, xfill, hx]
    rcases vcells v with _ | ⟨u, _ | ⟨u2, r⟩⟩
    · rfl
    · cases h : one u
      · simp [h]
      · simp [h, splice, show Nat.ble 2 2 = true from rfl]
    · have hb : (u :: u2 :: r).length.beq 1 = false := by rw [Tr.beq_eq]; simp
      simp only [hb, Bool.false_and, cond_false]
      rfl
theorem pB2_sl (z0 : Value) (p : Option Addr) (l c : Nat) (H : AH) : pB2 z0 (.slice p l c) H = some (.agg #[z0, .slice p l c], H) := rfl
theorem pB2_of (z0 v : Value) (H : AH) (h1 : one v = true) (h2 : vcells v = [v]) : pB2 z0 v H = some (.agg #[z0, v], H) := by unfold pB2; rw [h2]; simp only [h1, cond_true]
def pS2 (v : Value) (H : AH) : Option (Value × AH) :=
  match vcells v with
  | [a, b] => bif one a && one b then some (.slice (some ⟨H.n, 0, none⟩) 1 1, H.push ⟨[a, b], 2, false, false⟩) else none
  | _ => none
theorem v_bs21 {P : Program} {T : XTab} (fr : Fr) (H : AH) (dd : Option Nat) (e : TypeId) (x : Operand) (z0 z1 : Value) : xval P (xc P T) ⟨dd, .bslice e 2 1 [z0, z1] [(0, x)], none⟩ fr H = (ev fr x).bind fun v => pS2 v H := by
  rw [xval_op dd _ fr H rfl, e_bslice]
  rcases hx : ev fr x with _ | v
  · simp [xfill, hx]
  · simp only [List.map_cons, List.map_nil, rep, List.append_nil, Option.bind_some, pS2, xfill, hx]
    rcases vcells v with _ | ⟨a, _ | ⟨b, _ | ⟨d, r⟩⟩⟩
    · rfl
    · have hb : [a].length.beq 2 = false := by rw [Tr.beq_eq]; simp
      simp only [hb, Bool.false_and, cond_false]
      rfl
    · cases h : one a <;> cases h2 : one b <;> simp [h, h2, splice, show Nat.ble 2 2 = true from rfl, show (2 : Nat).beq 2 = true from rfl]
    · have hb : (a :: b :: d :: r).length.beq 2 = false := by rw [Tr.beq_eq]; simp
      simp only [hb, Bool.false_and, cond_false]
      rfl
theorem pS2_of (m : Bool) (v : Value) (H : AH) (h1 : one v = true) : pS2 (.agg #[.bool m, v]) H = some (.slice (some ⟨H.n, 0, none⟩) 1 1, H.push ⟨[.bool m, v], 2, false, false⟩) := by
  have e : vcells (.agg #[.bool m, v]) = [.bool m, v] := rfl
  unfold pS2; rw [e]; simp only [h1, show one (.bool m) = true from rfl, Bool.true_and, cond_true]
theorem pS2_sl (m : Bool) (p : Option Addr) (l c : Nat) (H : AH) : pS2 (.agg #[.bool m, .slice p l c]) H = some (.slice (some ⟨H.n, 0, none⟩) 1 1, H.push ⟨[.bool m, .slice p l c], 2, false, false⟩) := rfl

/-! ### what a byte's places hold -/
theorem msym_get (c : Nat) (m : Bool) (r : Nat) : ∀ (last : Bool) (k : Nat), k < r → (msym c m r last)[2 * k + 1]? = some (c.testBit (r - 1 - k)) ∧ (msym c m r last)[2 * k]? = some (!(c.testBit (r - 1 - k)) && !(if k = 0 then last else c.testBit (r - k)) && !(m && decide (r - 1 - k = 2))) := by
  induction r with
  | zero => intro last k hk; omega
  | succ r ih =>
    intro last k hk
    cases k with
    | zero => simp [msym]
    | succ k =>
      have := ih (c.testBit r) k (by omega)
      have e1 : 2 * (k + 1) + 1 = 2 * k + 1 + 1 + 1 := by omega
      have e2 : 2 * (k + 1) = 2 * k + 1 + 1 := by omega
      have e3 : r + 1 - 1 - (k + 1) = r - 1 - k := by omega
      have e4 : r + 1 - (k + 1) = r - k := by omega
      rw [e1, e3, e4, e2]
      simp only [msym, List.getElem?_cons_succ]
      refine ⟨this.1, ?_⟩
      rw [this.2]
      by_cases hk0 : k = 0
      · subst hk0; simp
      · simp [hk0]

/-- at most one part -/
def OutS (n0 : Nat) (H : AH) (vo : Value) (m : Bool) (bs : List Int) : Prop :=
  (vo = .slice none 0 0 ∧ m = false ∧ bs = []) ∨ ∃ vb, Own n0 2 H vo 1 [.bool m, vb] ∧ OwnB n0 H vb bs ∧ ∀ b, inB vb b → ¬ inB vo b

theorem first_part (n0 : Nat) (H : AH) (m : Bool) (vb : Value) (bs : List Int) (hn : n0 ≤ H.n) (hb : OwnB n0 H vb bs) (Q : Value → AH → Prop) (hq : ∀ vo H', OutS n0 H' vo m bs → Keep n0 H H' → Q vo H') :
    Got (xapp (H.push ⟨[.bool m, vb], 2, false, false⟩) 2 32 (.slice none 0 0) (.slice (some ⟨H.n, 0, none⟩) 1 1)) Q := by
  obtain ⟨s1, s2⟩ := sl_slice hb.1
  have on : Own n0 2 (H.push ⟨[.bool m, vb], 2, false, false⟩) (.slice none 0 0) 0 [] := Own.nil _ _ _
  have ob2 : OwnB n0 (H.push ⟨[.bool m, vb], 2, false, false⟩) vb bs := Own.ext (hext_push _ _) hb
  refine xapp_own on (by simp; omega) (Sl.pushed H [.bool m, vb] 2 1 false false rfl) (by simp [s1, show one (.bool m) = true from rfl]) (by omega) (by omega) (by omega) ?_
  intro vo H' o st
  have hx : HExt (H.push ⟨[.bool m, vb], 2, false, false⟩) H' := ⟨st.n, fun b hb => st.get b hb fun ⟨o, l, c, e⟩ => by cases e⟩
  refine hq vo H' (.inr ⟨vb, by simpa using o, Own.ext hx ob2, fun b hbv hv => ?_⟩) (Keep.trans (HExt.keep (hext_push H _) hn) (HExt.keep hx (by simp; omega)))
  rcases st.new b hv with h | h
  · obtain ⟨o, l, c, e⟩ := h; cases e
  · have := Sl.lt ob2.1 hbv; omega

end Go.Proofs.Ytejedmocjdcdgaa.D

set_option linter.unusedSimpArgs false
set_option linter.unusedVariables false
namespace Go.Proofs.Ytejedmocjdcdgaa.D
open Go Go.Det

/-! ### bytes and marks, one behind the other -/
abbrev It := Bool × Nat
def isym : List It → Bool → List Bool
  | [], _ => []
  | p :: r, last => msym p.2 p.1 8 last ++ isym r (p.2.testBit 0)
def ilast : List It → Bool → Bool
  | [], last => last
  | p :: r, _ => ilast r (p.2.testBit 0)
theorem isym_len (l : List It) : ∀ last, (isym l last).length = 16 * l.length := by
  induction l with
  | nil => intro last; rfl
  | cons p l ih => intro last; simp only [isym, List.length_append, msym_len, ih, List.length_cons]; omega
theorem isym_app (l r : List It) : ∀ last, isym (l ++ r) last = isym l last ++ isym r (ilast l last) := by
  induction l with
  | nil => intro last; rfl
  | cons p l ih => intro last; simp only [List.cons_append, isym, ilast, ih, List.append_assoc]
theorem ilast_app (l r : List It) : ∀ last, ilast (l ++ r) last = ilast r (ilast l last) := by
  induction l with
  | nil => intro last; rfl
  | cons p l ih => intro last; simp only [List.cons_append, ilast, ih]
def byI (a : List Int) : List It := a.map fun c => (false, c.toNat)
theorem isym_by (a : List Int) : ∀ last, isym (byI a) last = syms a last := by
  induction a with
  | nil => intro last; rfl
  | cons c a ih => intro last; simp only [byI, List.map_cons, isym, syms] at ih ⊢; rw [ih]
theorem ilast_by (a : List Int) : ∀ last, ilast (byI a) last = lastOf a last := by
  induction a with
  | nil => intro last; rfl
  | cons c a ih => intro last; simp only [byI, List.map_cons, ilast, lastOf] at ih ⊢; rw [ih]
abbrev Pt := Bool × List Int
def items (p : Pt) : List It := (if p.1 then [(true, 161)] else []) ++ byI p.2
def itemsL (ps : List Pt) : List It := ps.flatMap items
def fullI (l : List It) : List Bool := isym l true ++ [false, true]
theorem fullI_len (l : List It) : (fullI l).length = 2 * (8 * l.length + 1) := by
  unfold fullI; simp [isym_len]; omega
def ItOk (l : List It) : Prop := ∀ p ∈ l, p.2 < 256 ∧ (p.1 = true → p.2 = 161)
theorem gb_markL (q : List Bool) (last : Bool) (h : GB q last) : GB (q ++ msym 161 true 8 last) ((161 : Nat).testBit 0) := by
  obtain ⟨h1, h2, h3⟩ := h
  have e : msym 161 true 8 last = [false, true, false, false, false, true, false, false, true, false, false, false, true, false, false, true] := by cases last <;> decide
  have eg : gaps (q ++ msym 161 true 8 last) = ((gaps q).1 ++ [(((gaps q).2 + 2 : Nat) : Int), 4, 3, 4, 3], 0) := by
    rw [e, gaps_app]
    generalize gaps q = s
    simp [plc]
    omega
  unfold GB
  rw [eg]
  refine ⟨fun g hg => ?_, by simp, fun _ => rfl⟩
  simp only [List.mem_append, List.mem_cons, List.not_mem_nil, or_false] at hg
  rcases hg with hg | hg | hg | hg | hg | hg
  · exact h1 g hg
  all_goals omega
theorem gb_isym (l : List It) : ∀ q last, GB q last → ItOk l → GB (q ++ isym l last) (ilast l last) := by
  induction l with
  | nil => intro q last h _; simpa [isym, ilast] using h
  | cons p l ih =>
    intro q last h hok
    obtain ⟨m, c⟩ := p
    simp only [isym, ilast]
    rw [← List.append_assoc]
    refine ih _ _ ?_ (fun x hx => hok x (by simp [hx]))
    cases m
    · have := gb_sym c 8 q last h
      simpa using this
    · have := (hok (true, c) (by simp)).2 rfl
      simp only at this
      subst this
      exact gb_markL q last h
theorem fullI_gb (l : List It) (hok : ItOk l) : (∀ g ∈ (gaps (fullI l)).1, 1 ≤ g ∧ g ≤ 4) ∧ (gaps (fullI l)).2 = 0 := by
  have h0 : GB [] true := ⟨by simp [gaps], by simp [gaps], fun _ => rfl⟩
  have h := gb_isym l [] true h0 hok
  simp only [List.nil_append] at h
  obtain ⟨h1, h2, h3⟩ := h
  have eg : gaps (fullI l) = ((gaps (isym l true)).1 ++ [(((gaps (isym l true)).2 + 2 : Nat) : Int)], 0) := by
    unfold fullI
    rw [gaps_app]
    generalize gaps (isym l true) = s
    simp [plc]
    omega
  refine ⟨fun g hg => ⟨gaps_pos _ g hg, ?_⟩, by rw [eg]⟩
  rw [eg] at hg
  simp only [List.mem_append, List.mem_cons, List.not_mem_nil, or_false] at hg
  rcases hg with hg | hg
  · exact h1 g hg
  · omega

/-! ### the parts that are read -/
def addB (c : Int) : List Pt → List Pt
  | [] => [(false, [c])]
  | [p] => [(p.1, p.2 ++ [c])]
  | p :: q :: r => p :: addB c (q :: r)
theorem addB_snoc (c : Int) (li : List Pt) (p : Pt) : addB c (li ++ [p]) = li ++ [(p.1, p.2 ++ [c])] := by
  induction li with
  | nil => rfl
  | cons x li ih =>
    cases li with
    | nil => rfl
    | cons y li => simp only [List.cons_append, addB] at ih ⊢; rw [ih]
def rdI (ps : List Pt) (p : It) : List Pt := if p.1 then ps ++ [(true, [])] else addB (p.2 : Int) ps
theorem rd_by (a : List Int) (h8 : B8 a) (li : List Pt) : ∀ (m : Bool) (bs : List Int), (byI a).foldl rdI (li ++ [(m, bs)]) = li ++ [(m, bs ++ a)] := by
  induction a with
  | nil => intro m bs; simp [byI]
  | cons c a ih =>
    intro m bs
    have hc := h8 c (by simp)
    have e : ((c.toNat : Nat) : Int) = c := by omega
    show (byI a).foldl rdI (rdI (li ++ [(m, bs)]) (false, c.toNat)) = _
    have : rdI (li ++ [(m, bs)]) (false, c.toNat) = li ++ [(m, bs ++ [c])] := by
      show addB ((c.toNat : Nat) : Int) (li ++ [(m, bs)]) = _
      rw [addB_snoc, e]
    rw [this, ih (fun b hb => h8 b (by simp [hb]))]
    simp
theorem rd_marks (ps : List Pt) : ∀ li, (∀ p ∈ ps, p.1 = true) → (∀ p ∈ ps, B8 p.2) → (itemsL ps).foldl rdI li = li ++ ps := by
  induction ps with
  | nil => intro li _ _; simp [itemsL]
  | cons p ps ih =>
    intro li h1 h8
    obtain ⟨m, bs⟩ := p
    have hm : m = true := h1 (m, bs) (by simp)
    subst hm
    have e : itemsL ((true, bs) :: ps) = (true, 161) :: (byI bs ++ itemsL ps) := by simp [itemsL, items]
    rw [e]
    show (byI bs ++ itemsL ps).foldl rdI (li ++ [(true, [])]) = _
    rw [List.foldl_append, rd_by bs (h8 (true, bs) (by simp)) li true [], ih _ (fun p hp => h1 p (by simp [hp])) (fun p hp => h8 p (by simp [hp]))]
    simp
/-- parts as they are read: the first one may be without a mark, if it has bytes -/
def Canon (ps : List Pt) : Prop := (∀ p ∈ ps, B8 p.2) ∧ (∀ p ∈ ps.tail, p.1 = true) ∧ (∀ p, ps.head? = some p → p.1 = true ∨ p.2 ≠ [])
theorem rd_canon (ps : List Pt) (h : Canon ps) : (itemsL ps).foldl rdI [] = ps := by
  obtain ⟨h8, h1, h2⟩ := h
  cases ps with
  | nil => rfl
  | cons p ps =>
    obtain ⟨m, bs⟩ := p
    cases m with
    | true =>
      have := rd_marks ((true, bs) :: ps) [] (fun p hp => by
        rcases List.mem_cons.1 hp with rfl | h
        · rfl
        · exact h1 p h) h8
      simpa using this
    | false =>
      have hne : bs ≠ [] := by
        rcases h2 (false, bs) rfl with h | h
        · cases h
        · exact h
      cases bs with
      | nil => exact absurd rfl hne
      | cons c a =>
        have hb := h8 (false, c :: a) (by simp)
        have hc := hb c (by simp)
        have e : itemsL ((false, c :: a) :: ps) = (false, c.toNat) :: (byI a ++ itemsL ps) := by simp [itemsL, items, byI]
        rw [e]
        show (byI a ++ itemsL ps).foldl rdI [(false, [((c.toNat : Nat) : Int)])] = _
        have ec : ((c.toNat : Nat) : Int) = c := by omega
        have r1 := rd_by a (fun b hx => hb b (by simp [hx])) [] false [c]
        rw [ec, List.foldl_append, show [(false, [c])] = [] ++ [(false, [c])] from rfl, r1, rd_marks ps _ h1 (fun p hp => h8 p (by simp [hp]))]
        simp
theorem items_ok (ps : List Pt) (h8 : ∀ p ∈ ps, B8 p.2) : ItOk (itemsL ps) := by
  intro x hx
  unfold itemsL items byI at hx
  simp only [List.mem_flatMap, List.mem_append, List.mem_map] at hx
  obtain ⟨p, hp, h | ⟨c, hc, rfl⟩⟩ := hx
  · cases hm : p.1 <;> rw [hm] at h
    · simp at h
    · simp at h; subst h; exact ⟨by decide, fun _ => rfl⟩
  · have := h8 p hp c hc
    exact ⟨by show c.toNat < 256; omega, fun h => by cases h⟩
def szP (ps : List Pt) : Nat := (itemsL ps).length
theorem szP_cons (p : Pt) (ps : List Pt) : szP (p :: ps) = (p.2.length + (if p.1 then 1 else 0)) + szP ps := by
  unfold szP itemsL items byI
  simp only [List.flatMap_cons, List.length_append, List.length_map]
  cases p.1 <;> simp <;> omega
end Go.Proofs.Ytejedmocjdcdgaa.D

set_option linter.unusedSimpArgs false
set_option linter.unusedVariables false
namespace Go.Proofs.Ytejedmocjdcdgaa.D
open Go Go.Det

/-! ### the writer of mfm, beside a block E that stays -/
def WrE (n0 E : Nat) (H : AH) (W : Nat) (q : List Bool) (last : Bool) : Prop :=
  W < n0 ∧ n0 ≤ H.n ∧ ∃ vl, H.get W = some ⟨[vl, .int .i64 ((gaps q).2 : Nat), .bool last], 1, false, false⟩ ∧ OwnI n0 H vl (gaps q).1 ∧ (E < H.n ∧ E ≠ W ∧ ¬ inB vl E)
def KeepE (n0 E W : Nat) (H H' : AH) : Prop := KeepB n0 W H H' ∧ H'.get E = H.get E
theorem KeepE.refl (n0 E W : Nat) (H : AH) : KeepE n0 E W H H := ⟨KeepB.refl n0 W H, rfl⟩
theorem KeepE.trans {n0 E W : Nat} {A B C : AH} (h : KeepE n0 E W A B) (k : KeepE n0 E W B C) : KeepE n0 E W A C := ⟨h.1.trans k.1, k.2.trans h.2⟩
theorem ksetE (n0 E W : Nat) (H : AH) (blk : Blk) (hE : E ≠ W) : KeepE n0 E W H (H.set W blk) := ⟨kset n0 W H blk, by rw [AH.get_set, if_neg hE]⟩
end Go.Proofs.Ytejedmocjdcdgaa.D

set_option linter.unusedSimpArgs false
set_option linter.unusedVariables false
namespace Go.Proofs.Ytejedmocjdcdgaa.D
open Go Go.Det

/-! ### lists of parts that are read only -/
abbrev T3 := Bool × List Int × Value
def strip (p : T3) : Pt := (p.1, p.2.1)
def prc : List T3 → List Value
  | [] => []
  | p :: r => .bool p.1 :: p.2.2 :: prc r
theorem prc_app (l r : List T3) : prc (l ++ r) = prc l ++ prc r := by
  induction l with
  | nil => rfl
  | cons p l ih => simp [prc, ih]
theorem prc_len (l : List T3) : (prc l).length = l.length * 2 := by
  induction l with
  | nil => rfl
  | cons p l ih => simp [prc, ih]; omega
def RP (H : AH) (v : Value) (l : List T3) : Prop := Sl H 2 v l.length (prc l) ∧ ∀ p ∈ l, Byts H p.2.2 p.2.1
theorem RP.ext {H H' : AH} {v : Value} {l : List T3} (h : RP H v l) (x : HExt H H') : RP H' v l := ⟨Sl.ext x h.1, fun p hp => Sl.ext x (h.2 p hp)⟩
theorem RP.keep {n0 : Nat} {H H' : AH} {v : Value} {l : List T3} (h : RP H v l) (k : Keep n0 H H') (hv : ∀ b, inB v b → b < n0) (hp : ∀ p ∈ l, ∀ b, inB p.2.2 b → b < n0) : RP H' v l := ⟨Sl.keep k h.1 hv, fun p h' => Sl.keep k (h.2 p h') (hp p h')⟩
theorem rp_idx {H : AH} {v : Value} {pre rest : List T3} {p : T3} (h : RP H v (pre ++ p :: rest)) (kd : IntKind) (i : Int) (hi : i = (pre.length : Int)) : pIdx 2 v (.int kd i) H = some (ptrAt v (pre.length * 2), H) := pIdx_ok h.1 kd i pre.length hi (by simp)
theorem rp_ld {H : AH} {v : Value} {pre rest : List T3} {p : T3} (h : RP H v (pre ++ p :: rest)) : pLd (some 2) (ptrAt v (pre.length * 2)) H = some (.agg #[.bool p.1, p.2.2], H) := by
  rw [sl_ldn h.1 (by simp), prc_app, List.drop_left' (prc_len pre)]
  rfl
/-- a part in a box of its own -/
def b2 (H : AH) (m : Bool) (w : Value) : AH := (H.push ⟨[.bool false, .slice none 0 0], 1, false, false⟩).set H.n ⟨[.bool m, w], 1, false, false⟩
theorem b2_ext (H : AH) (m : Bool) (w : Value) : HExt H (b2 H m w) := box_ext _ _ _
theorem b2_n (H : AH) (m : Bool) (w : Value) : (b2 H m w).n = H.n + 1 := rfl
theorem b2_get (H : AH) (m : Bool) (w : Value) : (b2 H m w).get H.n = some ⟨[.bool m, w], 1, false, false⟩ := box_get _ _ _
theorem b2_st (H : AH) (m : Bool) (w : Value) (hw : one w = true) : pSt 2 (.pointer (some ⟨H.n, 0, none⟩)) (.agg #[.bool m, w]) (H.push ⟨[.bool false, .slice none 0 0], 1, false, false⟩) = some (undef, b2 H m w) :=
  bx2_st (by rw [AH.get_push, if_pos rfl]) rfl hw

def szT (l : List T3) : Nat := szP (l.map strip)
theorem szT_cons (p : T3) (l : List T3) : szT (p :: l) = (p.2.1.length + (if p.1 then 1 else 0)) + szT l := szP_cons (strip p) (l.map strip)
/-! ### parts are written -/
end Go.Proofs.Ytejedmocjdcdgaa.D

set_option linter.unusedSimpArgs false
set_option linter.unusedVariables false
namespace Go.Proofs.Ytejedmocjdcdgaa.D
open Go Go.Det

/-! ### parts of our own, the last of which may grow -/
structure OutP (n0 : Nat) (H : AH) (vo : Value) (l : List T3) : Prop where
  own : Own n0 2 H vo l.length (prc l)
  byt : ∀ p ∈ l, OwnB n0 H p.2.2 p.2.1
  dis : ∀ p ∈ l, ∀ b, inB p.2.2 b → ¬ inB vo b
  pw : l.Pairwise fun p q => ∀ b, inB p.2.2 b → ¬ inB q.2.2 b
theorem OutP.rp {n0 : Nat} {H : AH} {vo : Value} {l : List T3} (h : OutP n0 H vo l) : RP H vo l := ⟨h.own.1, fun p hp => (h.byt p hp).1⟩
theorem OutP.nil (n0 : Nat) (H : AH) : OutP n0 H (.slice none 0 0) [] := ⟨Own.nil _ _ _, fun p hp => by simp at hp, fun p hp => by simp at hp, .nil⟩
theorem OutP.ext {n0 : Nat} {H H' : AH} {vo : Value} {l : List T3} (h : OutP n0 H vo l) (x : HExt H H') : OutP n0 H' vo l := ⟨Own.ext x h.own, fun p hp => Own.ext x (h.byt p hp), h.dis, h.pw⟩
theorem OutP.le {n0 n1 : Nat} {H : AH} {vo : Value} {l : List T3} (h : OutP n1 H vo l) (hl : n0 ≤ n1) : OutP n0 H vo l := ⟨h.own.le hl, fun p hp => (h.byt p hp).le hl, h.dis, h.pw⟩

/-- a part more -/
theorem out_push (n0 : Nat) (H : AH) (vo : Value) (l : List T3) (m : Bool) (w : Value) (bs : List Int) (h : OutP n0 H vo l) (hn : n0 ≤ H.n) (hl : l.length ≤ 1000000) (hw : OwnB n0 H w bs) (hd : ∀ b, inB w b → ¬ inB vo b) (hp : ∀ p ∈ l, ∀ b, inB p.2.2 b → ¬ inB w b) (Q : Value → AH → Prop) (hq : ∀ vo' H', OutP n0 H' vo' (l ++ [(m, bs, w)]) → Keep n0 H H' → (∀ b, b < H.n → ¬ inB vo b → H'.get b = H.get b) → Q vo' H') :
    Got (xapp (H.push ⟨[.bool m, w], 2, false, false⟩) 2 32 vo (.slice (some ⟨H.n, 0, none⟩) 1 1)) Q := by
  obtain ⟨s1, s2⟩ := slice_one hw.1
  have x1 := hext_push H ⟨[.bool m, w], 2, false, false⟩
  have hn1 : (H.push ⟨[.bool m, w], 2, false, false⟩).n = H.n + 1 := rfl
  have o1 := h.ext x1
  have hw1 : OwnB n0 (H.push ⟨[.bool m, w], 2, false, false⟩) w bs := Own.ext x1 hw
  refine xapp_own o1.own (by omega) (Sl.pushed H [.bool m, w] 2 1 false false rfl) (by simp [s1, show one (.bool m) = true from rfl]) (by omega) (by omega) (by omega) ?_
  intro vo' H' o st
  have hnw : ∀ p ∈ l, ∀ b, inB p.2.2 b → ¬ inB vo' b := fun p hp b hb hv => by
    rcases st.new b hv with h1 | h1
    · exact h.dis p hp b hb h1
    · have := (h.byt p hp).1.lt hb; omega
  have hww : ∀ b, inB w b → ¬ inB vo' b := fun b hb hv => by
    rcases st.new b hv with h1 | h1
    · exact hd b hb h1
    · have := hw.1.lt hb; omega
  refine hq vo' H' ⟨?_, ?_, ?_, ?_⟩ ?_ ?_
  · have el : (l ++ [(m, bs, w)]).length = l.length + 1 := by simp
    rw [el, prc_app]
    exact o
  · intro p hp
    rcases List.mem_append.1 hp with h1 | h1
    · exact Own.stp st (o1.byt p h1) (fun b hb hv => h.dis p h1 b hb hv)
    · simp only [List.mem_singleton] at h1
      subst h1
      exact Own.stp st hw1 (fun b hb hv => hd b hb hv)
  · intro p hp
    rcases List.mem_append.1 hp with h1 | h1
    · exact hnw p h1
    · simp only [List.mem_singleton] at h1
      subst h1
      exact hww
  · rw [List.pairwise_append]
    refine ⟨h.pw, by simp, fun p hp' q hq' => ?_⟩
    simp only [List.mem_singleton] at hq'
    subst hq'
    exact hp p hp'
  · refine Keep.trans (HExt.keep x1 hn) (st.keep o1.own (by omega))
  · intro b hb hv
    exact (st.get b (by omega) hv).trans (x1.2 b hb)
/-- the cell of the last part's bytes -/
theorem out_last {H : AH} {vo : Value} {li : List T3} {p : T3} (h : Sl H 2 vo (li ++ [p]).length (prc (li ++ [p]))) : pLd none (ptrAt vo (li.length * 2 + 1)) H = some (p.2.2, H) := by
  refine pLd_one h (li.length * 2 + 1) _ ?_
  rw [prc_app, List.getElem?_append_right (by rw [prc_len]; omega), prc_len]
  have : li.length * 2 + 1 - li.length * 2 = 1 := by omega
  rw [this]
  rfl
/-- a byte more for the last part -/
theorem out_grow (n0 : Nat) (H : AH) (vo : Value) (li : List T3) (m : Bool) (w : Value) (bs : List Int) (c : Int) (h : OutP n0 H vo (li ++ [(m, bs, w)])) (hn : n0 ≤ H.n) (hbl : bs.length ≤ 1000000) (Q : Value → AH → Prop)
    (hq : ∀ w' H', OutP n0 H' vo (li ++ [(m, bs ++ [c], w')]) → Keep n0 H H' → Q undef H') :
    Got (xapp (H.push ⟨[.int .u8 c], 1, false, false⟩) 1 1 w (.slice (some ⟨H.n, 0, none⟩) 1 1)) fun w' H1 => Got (pSt 1 (ptrAt vo (li.length * 2 + 1)) w' H1) Q := by
  have hw : OwnB n0 H w bs := h.byt (m, bs, w) (by simp)
  refine app_oneB hw hn (by omega) ?_
  intro w' H1 o1 st
  have hmem : (m, bs, w) ∈ li ++ [(m, bs, w)] := by simp
  have hpw := h.pw
  rw [List.pairwise_append] at hpw
  obtain ⟨pw1, _, pw2⟩ := hpw
  have hvo : ∀ b, inB vo b → ¬ inB w b := fun b h1 h2 => h.dis _ hmem b h2 h1
  have own1 := Own.stp st h.own hvo
  have hap := st.apart h.own hvo
  obtain ⟨s1, s2⟩ := slice_one o1.1
  refine pSt_own own1 (by rw [prc_len]; simp; omega) s1 s2 ?_
  intro H2 own2 st2
  have li1 : ∀ p ∈ li, OwnB n0 H1 p.2.2 p.2.1 := fun p hp => Own.stp st (h.byt p (by simp [hp])) (fun b h1 h2 => pw2 p hp (m, bs, w) (by simp) b h1 h2)
  have li1w : ∀ p ∈ li, ∀ b, inB p.2.2 b → ¬ inB w' b := fun p hp b h1 h2 => st.apart (h.byt p (by simp [hp])) (fun b h1 h2 => pw2 p hp (m, bs, w) (by simp) b h1 h2) b h1 h2
  refine hq w' H2 ⟨?_, ?_, ?_, ?_⟩ ((st.keep hw hn).trans (st2.keep own1 (by have := st.n; omega)))
  · have e1 : (li ++ [(m, bs ++ [c], w')]).length = (li ++ [(m, bs, w)]).length := by simp
    have e2 : prc (li ++ [(m, bs ++ [c], w')]) = (prc (li ++ [(m, bs, w)])).set (li.length * 2 + 1) w' := by
      rw [prc_app, prc_app, List.set_append_right _ _ (by rw [prc_len]; omega), prc_len]
      have : li.length * 2 + 1 - li.length * 2 = 1 := by omega
      rw [this]
      rfl
    rw [e1, e2]
    exact own2
  · intro p hp
    rcases List.mem_append.1 hp with h1 | h1
    · exact Own.stp st2 (li1 p h1) (fun b hb hv => h.dis p (by simp [h1]) b hb hv)
    · simp only [List.mem_singleton] at h1
      subst h1
      exact Own.stp st2 o1 (fun b hb hv => hap b hv hb)
  · intro p hp
    rcases List.mem_append.1 hp with h1 | h1
    · exact h.dis p (by simp [h1])
    · simp only [List.mem_singleton] at h1
      subst h1
      exact fun b hb hv => hap b hv hb
  · rw [List.pairwise_append]
    refine ⟨pw1, by simp, fun p hp q hq' => ?_⟩
    simp only [List.mem_singleton] at hq'
    subst hq'
    exact li1w p hp

end Go.Proofs.Ytejedmocjdcdgaa.D

set_option linter.unusedSimpArgs false
set_option linter.unusedVariables false
namespace Go.Proofs.Ytejedmocjdcdgaa.D
open Go Go.Det

theorem szT_le (l : List T3) : l.length ≤ szT l + 1 → True := fun _ => trivial
theorem expand_full (it : List It) (hok : ItOk it) : expand (gaps (fullI it)).1 = fullI it := by
  have h := expand_gaps (fullI it)
  rw [(fullI_gb it hok).2] at h
  simpa using h
theorem gaps_sum (it : List It) (hok : ItOk it) : (gaps (fullI it)).1.sum = 16 * (it.length : Int) + 2 := by
  have h := expand_len (gaps (fullI it)).1 (fun g hg => ((fullI_gb it hok).1 g hg).1)
  rw [expand_full it hok, fullI_len] at h
  omega
/-! ### parts are compared -/
theorem tyB : Try.prog.underlying 4 = some .bool := by kernel_rfl
end Go.Proofs.Ytejedmocjdcdgaa.D

set_option linter.unusedSimpArgs false
set_option linter.unusedVariables false
namespace Go.Proofs.Ytejedmocjdcdgaa.D
open Go Go.Det

/-! ### the law's parts -/
theorem v_b2t {P : Program} {T : XTab} (fr : Fr) (H : AH) (dd : Option Nat) (x : Operand) (z0 z1 : Value) : xval P (xc P T) ⟨dd, .build [z0, z1] [(0, 1, .const (.bool true)), (1, 1, x)], none⟩ fr H = (ev fr x).bind fun v => pB2 (.bool true) v H := by
  have e : xop P fr H (.build [z0, z1] [(0, 1, .const (.bool true)), (1, 1, x)]) = xop P fr H (.build [.bool true, z1] [(1, 1, x)]) := by rw [e_build, e_build]; rfl
  rw [xval_op dd _ fr H rfl, e, ← xval_op (P := P) (T := T) dd _ fr H rfl]
  exact v_b2 fr H dd x (.bool true) z1
theorem v_bs02 {P : Program} {T : XTab} (fr : Fr) (H : AH) (dd : Option Nat) (e : TypeId) (z0 z1 : Value) : xval P (xc P T) ⟨dd, .bslice e 2 0 [z0, z1] [], none⟩ fr H = some (.slice (some ⟨H.n, 0, none⟩) 0 0, H.push ⟨[], 2, false, false⟩) := rfl
def pBs4 (a b c : Value) (v : Value) (H : AH) : Option (Value × AH) :=
  match v with
  | .int k n => some (.slice (some ⟨H.n, 0, none⟩) 4 4, H.push ⟨[.int k n, a, b, c], 1, false, false⟩)
  | _ => none
def altN (o : Option Value) (f : IntKind → Int → Option (Value × AH)) (z : Option (Value × AH)) : Option (Value × AH) :=
  match o with
  | some (.int k n) => f k n
  | _ => z
theorem altN_int (k : IntKind) (n : Int) (f : IntKind → Int → Option (Value × AH)) (z : Option (Value × AH)) : altN (some (.int k n)) f z = f k n := rfl
theorem v_bs4 {P : Program} {T : XTab} (fr : Fr) (H : AH) (dd : Option Nat) (e : TypeId) (x : Operand) (z : Value) (ka kb kc : IntKind) (a b c : Int) : xval P (xc P T) ⟨dd, .bslice e 1 4 [z] [(0, x), (1, .const (.int ka a)), (2, .const (.int kb b)), (3, .const (.int kc c))], none⟩ fr H =
    altN (ev fr x) (fun k n => some (.slice (some ⟨H.n, 0, none⟩) 4 4, H.push ⟨[.int k n, .int ka a, .int kb b, .int kc c], 1, false, false⟩)) (xop P fr H (.bslice e 1 4 [z] [(0, x), (1, .const (.int ka a)), (2, .const (.int kb b)), (3, .const (.int kc c))])) := by
  rw [xval_op dd _ fr H rfl]
  unfold altN
  split
  · rename_i k n h
    rw [e_bslice]
    simp only [List.map_cons, List.map_nil, xfill, h]
    rfl
  · rfl
theorem OutP.same {n1 : Nat} {H H' : AH} {vo : Value} {l : List T3} (h : OutP n1 H vo l) (hn : H.n ≤ H'.n) (hg : ∀ b, n1 ≤ b → b < H.n → H'.get b = H.get b) : OutP n1 H' vo l := by
  refine ⟨Own.same h.own hn fun b hb => ?_, fun p hp => Own.same (h.byt p hp) hn fun b hb => ?_, h.dis, h.pw⟩
  · refine hg b ?_ (h.own.1.lt hb)
    obtain ⟨o, l, c, e⟩ := hb
    exact (h.own.2 b o l c e).1
  · refine hg b ?_ ((h.byt p hp).1.lt hb)
    obtain ⟨o, l, c, e⟩ := hb
    exact ((h.byt p hp).2 b o l c e).1
theorem Strm.same {nS : Nat} {H H' : AH} {B : Nat} {v : Value} {l : List Int} (h : Strm nS H B v l) (hn : H.n ≤ H'.n) (hB : H'.get B = H.get B) (hg : ∀ b, b < nS → H'.get b = H.get b) : Strm nS H' B v l :=
  ⟨h.nb, Nat.lt_of_lt_of_le h.lt hn, hB.trans h.box, Sl.same h.ints hn fun b hb => hg b (h.out b hb), h.out⟩
theorem canon_snoc (ps : List Pt) (bs : List Int) (h : Canon ps) (hb : B8 bs) : Canon (ps ++ [(true, bs)]) := by
  obtain ⟨h1, h2, h3⟩ := h
  refine ⟨fun p hp => ?_, fun p hp => ?_, fun p hp => ?_⟩
  · rcases List.mem_append.1 hp with h | h
    · exact h1 p h
    · simp only [List.mem_singleton] at h; subst h; exact hb
  · cases ps with
    | nil => simp at hp
    | cons a ps =>
      simp only [List.cons_append, List.tail_cons] at hp
      rcases List.mem_append.1 hp with h | h
      · exact h2 p h
      · simp only [List.mem_singleton] at h; subst h; rfl
  · cases ps with
    | nil => simp only [List.nil_append, List.head?_cons, Option.some.injEq] at hp; subst hp; exact .inl rfl
    | cons a ps => exact h3 p hp

end Go.Proofs.Ytejedmocjdcdgaa.D

set_option linter.unusedSimpArgs false
set_option linter.unusedVariables false
namespace Go.Proofs.Ytejedmocjdcdgaa.D
open Go Go.Det

end Go.Proofs.Ytejedmocjdcdgaa.D

set_option linter.unusedSimpArgs false
set_option linter.unusedVariables false
namespace Go.Proofs.Ytejedmocjdcdgaa.D
open Go Go.Det

theorem rounds8 (x : Nat) (h : x < 256) : crcRounds 8 x = x * 256 := by
  have key : ∀ k x, x * 2 ^ k < 65536 → crcRounds k x = x * 2 ^ k := by
    intro k
    induction k with
    | zero => intro x _; simp [crcRounds]
    | succ k ih =>
      intro x hx
      have hs : crcStep x = x * 2 := by
        unfold crcStep
        rw [if_neg]
        have h1 : x * 2 * 2 ^ k < 65536 := by rw [Nat.mul_assoc, ← Nat.pow_succ']; exact hx
        have h2 : x * 2 ≤ x * 2 * 2 ^ k := Nat.le_mul_of_pos_right _ (Nat.pow_pos (by omega))
        omega
      show crcRounds k (crcStep x) = _
      rw [hs, ih _ (by rw [Nat.mul_assoc, ← Nat.pow_succ']; exact hx), Nat.mul_assoc, ← Nat.pow_succ']
  exact key 8 x (by omega)
theorem nx_two (n : Nat) (hn : n < 65536) : nx (nx n (n / 256)) (n % 256) = 0 := by
  have hhi : n / 256 < 256 := by omega
  have hlo : n % 256 < 256 := by omega
  have e1 : n ^^^ n / 256 * 256 = n % 256 := by
    apply Nat.eq_of_testBit_eq
    intro j
    have h1 : (n / 256 * 256).testBit j = (decide (8 ≤ j) && n.testBit j) := by
      rw [show n / 256 * 256 = n / 2 ^ 8 * 2 ^ 8 from rfl, Nat.testBit_mul_two_pow, Nat.testBit_div_two_pow]
      by_cases h : 8 ≤ j
      · simp [h, show j - 8 + 8 = j by omega]
      · simp [h]
    have h2 : (n % 256).testBit j = (decide (j < 8) && n.testBit j) := Nat.testBit_mod_two_pow n 8 j
    rw [Nat.testBit_xor, h1, h2]
    by_cases h : 8 ≤ j
    · have : ¬ j < 8 := by omega
      simp [h, this]
    · have : j < 8 := by omega
      simp [h, this]
  have e2 : nx n (n / 256) = n % 256 * 256 := by
    unfold nx
    rw [and16 _ hn, e1]
    exact rounds8 _ hlo
  rw [e2]
  unfold nx
  rw [and16 _ (by omega), Nat.xor_self]
  exact rounds_zero 8
theorem crc_sealed (l : List Int) (hb : B8 l) : crcFold 65535 (sealed l) = 0 := by
  have h := crcFold_lt l hb 65535 (by omega)
  unfold sealed
  rw [crcFold_app]
  generalize crcFold 65535 l = n at h
  rw [crcFold_cons, crcFold_cons, Int.toNat_natCast, Int.toNat_natCast, nx_two n h]
  rfl

end Go.Proofs.Ytejedmocjdcdgaa.D

set_option linter.unusedSimpArgs false
set_option linter.unusedVariables false
namespace Go.Proofs.Ytejedmocjdcdgaa.D
open Go Go.Det

/-! ### sectors -/
structure SD where
  tr : Int
  nu : Int
  w : Value
  bs : List Int
  bad : Bool
def SDL : LS SD := ⟨4, fun s => [.int .i64 s.tr, .int .i64 s.nu, s.w, .bool s.bad], fun _ => rfl, by decide⟩
def SdOk (s : SD) : Prop := 0 ≤ s.tr ∧ s.tr ≤ 255 ∧ 0 ≤ s.nu ∧ s.nu ≤ 255 ∧ s.bs.length = 128 ∧ B8 s.bs
def SDs (H : AH) (v : Value) (l : List SD) : Prop := SL SDL H v l ∧ ∀ s ∈ l, Byts H s.w s.bs
theorem SDs.ext {H H' : AH} {v : Value} {l : List SD} (h : SDs H v l) (x : HExt H H') : SDs H' v l := ⟨h.1.ext x, fun s hs => Sl.ext x (h.2 s hs)⟩
theorem sds_idx {H : AH} {v : Value} {pre rest : List SD} {s : SD} (h : SDs H v (pre ++ s :: rest)) (i : Int) (hi : i = (pre.length : Int)) : pIdx 4 v (.int .i64 i) H = some (ptrAt v (pre.length * 4), H) := h.1.idx .i64 i hi
theorem sds_ld {H : AH} {v : Value} {pre rest : List SD} {s : SD} (h : SDs H v (pre ++ s :: rest)) : pLd (some 4) (ptrAt v (pre.length * 4)) H = some (.agg #[.int .i64 s.tr, .int .i64 s.nu, s.w, .bool s.bad], H) := h.1.ld
/-- a sector in a box of its own -/
def ZSD : Blk := ⟨[.int .i64 0, .int .i64 0, .slice none 0 0, .bool false], 1, false, false⟩
def bxS (H : AH) (s : SD) : AH := (H.push ⟨[.int .i64 0, .int .i64 0, .slice none 0 0, .bool false], 1, false, false⟩).set H.n ⟨[.int .i64 s.tr, .int .i64 s.nu, s.w, .bool s.bad], 1, false, false⟩
theorem bxS_ext (H : AH) (s : SD) : HExt H (bxS H s) := box_ext _ _ _
theorem bxS_n (H : AH) (s : SD) : (bxS H s).n = H.n + 1 := rfl
theorem bxS_get (H : AH) (s : SD) : (bxS H s).get H.n = some ⟨[.int .i64 s.tr, .int .i64 s.nu, s.w, .bool s.bad], 1, false, false⟩ := box_get _ _ _
theorem bxS_st (H : AH) (s : SD) (hw : one s.w = true) : pSt 4 (.pointer (some ⟨H.n, 0, none⟩)) (.agg #[.int .i64 s.tr, .int .i64 s.nu, s.w, .bool s.bad]) (H.push ⟨[.int .i64 0, .int .i64 0, .slice none 0 0, .bool false], 1, false, false⟩) = some (undef, bxS H s) :=
  bx4_st (by rw [AH.get_push, if_pos rfl]) rfl rfl hw rfl

/-! ### gaps -/
def gp : List Int := [78, 78, 78, 78, 78, 78, 78, 78]
theorem gp_b8 : B8 gp := by unfold gp; intro b hb; simp at hb; omega
end Go.Proofs.Ytejedmocjdcdgaa.D

set_option linter.unusedSimpArgs false
set_option linter.unusedVariables false
namespace Go.Proofs.Ytejedmocjdcdgaa.D
open Go Go.Det

/-! ### what is written of a sector -/
def flipl (l : List Int) : List Int := l.set (l.length - 1) (((l.getD (l.length - 1) 0).toNat ^^^ 255 : Nat) : Int)
theorem flipl_len (l : List Int) : (flipl l).length = l.length := by simp [flipl]
theorem flipl_b8 (l : List Int) (h : B8 l) : B8 (flipl l) := by
  have h1 := b8_get l h (l.length - 1)
  have := x8 (a := (l.getD (l.length - 1) 0).toNat) (b := 255) (by omega) (by omega)
  exact b8_set l h _ _ (by omega) (by omega)
theorem flipl_crc (l : List Int) (h : B8 l) (hl : 1 ≤ l.length) (hz : crcFold 65535 l = 0) : crcFold 65535 (flipl l) ≠ 0 := by
  unfold flipl
  rw [crcFold_set l h 255 (by omega) (l.length - 1) 65535 (by omega) (by omega), hz, Nat.zero_xor]
  exact rounds_ne _ _ (by omega) (by omega)
def hdS (s : SD) : List Int := sealed [254, s.tr, s.nu]
def bdS (s : SD) : List Int := if s.bad then flipl (sealed (251 :: s.bs)) else sealed (251 :: s.bs)
def ptS (s : SD) : List Pt := [(true, hdS s ++ gp), (true, bdS s ++ gp)]
def fmtP (l : List SD) : List Pt := (false, gp) :: l.flatMap ptS
theorem hd_b8 (s : SD) (h : SdOk s) : B8 [254, s.tr, s.nu] := by
  obtain ⟨s1, s2, s3, s4, s5, s6⟩ := h
  intro b hb
  simp at hb
  omega
theorem bd_b8 (s : SD) (h : SdOk s) : B8 (251 :: s.bs) := by
  obtain ⟨s1, s2, s3, s4, s5, s6⟩ := h
  intro b hb
  rcases List.mem_cons.1 hb with h | h
  · omega
  · exact s6 b h
theorem hdS_len (s : SD) : (hdS s).length = 5 := by simp [hdS, sealed_len]
theorem bdS_len (s : SD) (h : SdOk s) : (bdS s).length = 131 := by
  unfold bdS
  split
  · rw [flipl_len, sealed_len, List.length_cons, h.2.2.2.2.1]
  · rw [sealed_len, List.length_cons, h.2.2.2.2.1]
theorem bdS_b8 (s : SD) (h : SdOk s) : B8 (bdS s) := by
  unfold bdS
  split
  · exact flipl_b8 _ (sealed_b8 _ (bd_b8 s h))
  · exact sealed_b8 _ (bd_b8 s h)
theorem b8_app {a b : List Int} (ha : B8 a) (hb : B8 b) : B8 (a ++ b) := fun x hx => by
  rcases List.mem_append.1 hx with h | h
  · exact ha x h
  · exact hb x h
theorem fmt_canon (l : List SD) (h : ∀ s ∈ l, SdOk s) : Canon (fmtP l) := by
  refine ⟨fun p hp => ?_, fun p hp => ?_, fun p hp => ?_⟩
  · rcases List.mem_cons.1 hp with h1 | h1
    · subst h1; exact gp_b8
    · obtain ⟨s, hs, h2⟩ := List.mem_flatMap.1 h1
      simp only [ptS, List.mem_cons, List.not_mem_nil, or_false] at h2
      rcases h2 with rfl | rfl
      · exact b8_app (sealed_b8 _ (hd_b8 s (h s hs))) gp_b8
      · exact b8_app (bdS_b8 s (h s hs)) gp_b8
  · obtain ⟨s, hs, h2⟩ := List.mem_flatMap.1 hp
    simp only [ptS, List.mem_cons, List.not_mem_nil, or_false] at h2
    rcases h2 with rfl | rfl <;> rfl
  · simp only [fmtP, List.head?_cons, Option.some.injEq] at hp
    subst hp
    exact .inr (by decide)
theorem fmt_sz (l : List SD) (h : ∀ s ∈ l, SdOk s) : szP (fmtP l) = 8 + 154 * l.length := by
  have key : szP (l.flatMap ptS) = 154 * l.length := by
    induction l with
    | nil => rfl
    | cons s l ih =>
      have e : (s :: l).flatMap ptS = (true, hdS s ++ gp) :: (true, bdS s ++ gp) :: l.flatMap ptS := by simp [ptS]
      rw [e, szP_cons, szP_cons, ih (fun y hy => h y (by simp [hy]))]
      have h1 := hdS_len s
      have h2 := bdS_len s (h s (by simp))
      simp only [List.length_append, h1, h2, gp, List.length_cons, List.length_nil, if_true]
      omega
  unfold fmtP
  rw [szP_cons, key]
  simp [gp]

/-! ### structs in the making -/
def altNN (o1 o2 : Option Value) (f : IntKind → Int → IntKind → Int → Option (Value × AH)) (z : Option (Value × AH)) : Option (Value × AH) :=
  match o1, o2 with
  | some (.int k n), some (.int k2 n2) => f k n k2 n2
  | _, _ => z
theorem altNN_int (k k2 : IntKind) (n n2 : Int) (f : IntKind → Int → IntKind → Int → Option (Value × AH)) (z : Option (Value × AH)) : altNN (some (.int k n)) (some (.int k2 n2)) f z = f k n k2 n2 := rfl
theorem v_bs3 {P : Program} {T : XTab} (fr : Fr) (H : AH) (dd : Option Nat) (e : TypeId) (x y : Operand) (z : Value) (ka : IntKind) (a : Int) : xval P (xc P T) ⟨dd, .bslice e 1 3 [z] [(0, .const (.int ka a)), (1, x), (2, y)], none⟩ fr H =
    altNN (ev fr x) (ev fr y) (fun k n k2 n2 => some (.slice (some ⟨H.n, 0, none⟩) 3 3, H.push ⟨[.int ka a, .int k n, .int k2 n2], 1, false, false⟩)) (xop P fr H (.bslice e 1 3 [z] [(0, .const (.int ka a)), (1, x), (2, y)])) := by
  rw [xval_op dd _ fr H rfl]
  unfold altNN
  split
  · rename_i k n k2 n2 h h2
    rw [e_bslice]
    simp only [List.map_cons, List.map_nil, xfill, h, h2]
    rfl
  · rfl
def altAA (o1 o2 : Option Value) (f : Bool → Value → Bool → Value → Option (Value × AH)) (z : Option (Value × AH)) : Option (Value × AH) :=
  match o1, o2 with
  | some (.agg ⟨[.bool m, w]⟩), some (.agg ⟨[.bool m2, w2]⟩) => if one w = true ∧ one w2 = true then f m w m2 w2 else z
  | _, _ => z
theorem altAA_val (m m2 : Bool) (w w2 : Value) (h1 : one w = true) (h2 : one w2 = true) (f : Bool → Value → Bool → Value → Option (Value × AH)) (z : Option (Value × AH)) : altAA (some (.agg #[.bool m, w])) (some (.agg #[.bool m2, w2])) f z = f m w m2 w2 := by
  show (if one w = true ∧ one w2 = true then f m w m2 w2 else z) = _
  rw [if_pos ⟨h1, h2⟩]
theorem v_bs22 {P : Program} {T : XTab} (fr : Fr) (H : AH) (dd : Option Nat) (e : TypeId) (x y : Operand) (z0 z1 : Value) : xval P (xc P T) ⟨dd, .bslice e 2 2 [z0, z1] [(0, x), (1, y)], none⟩ fr H =
    altAA (ev fr x) (ev fr y) (fun m w m2 w2 => some (.slice (some ⟨H.n, 0, none⟩) 2 2, H.push ⟨[.bool m, w, .bool m2, w2], 2, false, false⟩)) (xop P fr H (.bslice e 2 2 [z0, z1] [(0, x), (1, y)])) := by
  rw [xval_op dd _ fr H rfl]
  unfold altAA
  split
  · rename_i m w m2 w2 h h2
    split
    · rename_i hh
      rw [e_bslice]
      have e1 : vcells (.agg ⟨[.bool m, w]⟩) = [.bool m, w] := rfl
      have e2 : vcells (.agg ⟨[.bool m2, w2]⟩) = [.bool m2, w2] := rfl
      simp only [List.map_cons, List.map_nil, xfill, h, h2, e1, e2, List.all_cons, List.all_nil, hh.1, hh.2]
      rfl
    · rfl
  · rfl

/-! ### parts in the making -/
def PTL : LS T3 := ⟨2, fun p => [.bool p.1, p.2.2], fun _ => rfl, by decide⟩
theorem prc_cells (l : List T3) : PTL.cells l = prc l := by
  induction l with
  | nil => rfl
  | cons p l ih =>
    have : PTL.cells (p :: l) = PTL.f p ++ PTL.cells l := by simp [LS.cells]
    rw [this, ih]
    rfl
structure OutF (n0 : Nat) (H : AH) (v : Value) (l : List T3) : Prop where
  own : OL PTL n0 H v l
  byt : ∀ p ∈ l, Byts H p.2.2 p.2.1
  dis : ∀ p ∈ l, ∀ b, inB p.2.2 b → ¬ inB v b
theorem OutF.rp {n0 : Nat} {H : AH} {v : Value} {l : List T3} (h : OutF n0 H v l) : RP H v l := ⟨by have := h.own.1; rw [prc_cells] at this; exact this, h.byt⟩
theorem OutF.ext {n0 : Nat} {H H' : AH} {v : Value} {l : List T3} (h : OutF n0 H v l) (x : HExt H H') : OutF n0 H' v l := ⟨h.own.ext x, fun p hp => Sl.ext x (h.byt p hp), h.dis⟩

theorem OwnB.flip {n0 : Nat} {H : AH} {v : Value} {l : List Int} {k : Nat} {c : Int} {Q : Value → AH → Prop} (ho : OwnB n0 H v l) (hk : k < l.length) (hq : ∀ H', OwnB n0 H' v (l.set k c) → Stp v H v H' → Q undef H') : Got (pSt 1 (ptrAt v k) (.int .u8 c) H) Q := by
  refine pSt_own ho (by simpa using hk) rfl rfl ?_
  intro H' o s
  refine hq H' ?_ s
  have el : (l.set k c).length = l.length := by simp
  unfold OwnB
  rw [el]
  have em : (l.set k c).map (Value.int .u8) = (l.map (Value.int .u8)).set k (.int .u8 c) := by simp
  rw [em]; exact o

end Go.Proofs.Ytejedmocjdcdgaa.D

set_option linter.unusedSimpArgs false
set_option linter.unusedVariables false
namespace Go.Proofs.Ytejedmocjdcdgaa.D
open Go Go.Det

theorem flat_parts (l : List T3) (hcan : Canon (l.map strip)) : ∀ p ∈ l, B8 p.2.1 := fun p hp => hcan.1 (strip p) (List.mem_map_of_mem hp)
theorem fmtP_len (l : List SD) : (fmtP l).length = 1 + 2 * l.length := by
  have key : (l.flatMap ptS).length = 2 * l.length := by
    induction l with
    | nil => rfl
    | cons s l ih => rw [List.flatMap_cons, List.length_append, ih]; simp [ptS]; omega
  unfold fmtP
  rw [List.length_cons, key]; omega
/-! ### sectors are found -/
structure OutD (n0 : Nat) (H : AH) (v : Value) (l : List SD) : Prop where
  own : OL SDL n0 H v l
  byt : ∀ s ∈ l, Byts H s.w s.bs
  dis : ∀ s ∈ l, ∀ b, inB s.w b → ¬ inB v b
theorem OutD.ext {n0 : Nat} {H H' : AH} {v : Value} {l : List SD} (h : OutD n0 H v l) (x : HExt H H') : OutD n0 H' v l := ⟨h.own.ext x, fun p hp => Sl.ext x (h.byt p hp), h.dis⟩
theorem OutD.sds {n0 : Nat} {H : AH} {v : Value} {l : List SD} (h : OutD n0 H v l) : SDs H v l := ⟨h.own.1, h.byt⟩
theorem OutD.nil (n0 : Nat) (H : AH) : OutD n0 H (.slice none 0 0) [] := ⟨OL.nil _ _ _, fun s h => by simp at h, fun s h => by simp at h⟩
theorem OutD.le {n0 n1 : Nat} {H : AH} {v : Value} {l : List SD} (h : OutD n1 H v l) (hl : n0 ≤ n1) : OutD n0 H v l := ⟨h.own.le hl, h.byt, h.dis⟩
theorem OutD.set {n0 : Nat} {H : AH} {v : Value} {l : List SD} {E : Nat} {x : Blk} (h : OutD n0 H v l) (h1 : ¬ inB v E) (h2 : ∀ s ∈ l, ¬ inB s.w E) : OutD n0 (H.set E x) v l :=
  ⟨Own.same h.own (Nat.le_refl _) fun b hb => by rw [AH.get_set, if_neg (fun e : b = E => h1 (e ▸ hb))], fun s hs => Sl.same (h.byt s hs) (Nat.le_refl _) fun b hb => by rw [AH.get_set, if_neg (fun e : b = E => h2 s hs (e ▸ hb))], h.dis⟩
/-- what is told of a sector: all but where its bytes lie -/
def told (s : SD) : Int × Int × List Int × Bool := (s.tr, s.nu, s.bs, s.bad)
theorem v_b4ii {P : Program} {T : XTab} (fr : Fr) (H : AH) (dd : Option Nat) (x y : Operand) (z0 z1 z2 z3 : Value) : xval P (xc P T) ⟨dd, .build [z0, z1, z2, z3] [(0, 1, x), (1, 1, y)], none⟩ fr H =
    altNN (ev fr x) (ev fr y) (fun k n k2 n2 => some (.agg #[.int k n, .int k2 n2, z2, z3], H)) (xop P fr H (.build [z0, z1, z2, z3] [(0, 1, x), (1, 1, y)])) := by
  rw [xval_op dd _ fr H rfl]
  unfold altNN
  split
  · rename_i k n k2 n2 h h2
    rw [e_build]
    simp only [xfill, h, h2]
    rfl
  · rfl
def pS4 (v : Value) (H : AH) : Option (Value × AH) :=
  match vcells v with
  | [a, b, c, d] => bif one a && one b && one c && one d then some (.slice (some ⟨H.n, 0, none⟩) 1 1, H.push ⟨[a, b, c, d], 4, false, false⟩) else none
  | _ => none
theorem v_bs41 {P : Program} {T : XTab} (fr : Fr) (H : AH) (dd : Option Nat) (e : TypeId) (x : Operand) (z0 z1 z2 z3 : Value) : xval P (xc P T) ⟨dd, .bslice e 4 1 [z0, z1, z2, z3] [(0, x)], none⟩ fr H = (ev fr x).bind fun v => pS4 v H := by
  rw [xval_op dd _ fr H rfl, e_bslice]
  rcases hx : ev fr x with _ | v
  · simp [xfill, hx]
  · simp only [List.map_cons, List.map_nil, rep, List.append_nil, Option.bind_some, pS4, xfill, hx]
    rcases vcells v with _ | ⟨a, _ | ⟨b, _ | ⟨d, _ | ⟨d2, _ | ⟨d3, r⟩⟩⟩⟩⟩
    · rfl
    · have hb : [a].length.beq 4 = false := by rw [Tr.beq_eq]; simp
      simp only [hb, Bool.false_and, cond_false]
      rfl
    · have hb : [a, b].length.beq 4 = false := by rw [Tr.beq_eq]; simp
      simp only [hb, Bool.false_and, cond_false]
      rfl
    · have hb : [a, b, d].length.beq 4 = false := by rw [Tr.beq_eq]; simp
      simp only [hb, Bool.false_and, cond_false]
      rfl
    · cases h : one a <;> cases h2 : one b <;> cases h3 : one d <;> cases h4 : one d2 <;> simp [h, h2, h3, h4, splice, show Nat.ble 4 4 = true from rfl, show (4 : Nat).beq 4 = true from rfl]
    · have hb : (a :: b :: d :: d2 :: d3 :: r).length.beq 4 = false := by rw [Tr.beq_eq]; simp
      simp only [hb, Bool.false_and, cond_false]
      rfl
theorem pS4_of (s : SD) (H : AH) (h1 : one s.w = true) : pS4 (.agg #[.int .i64 s.tr, .int .i64 s.nu, s.w, .bool s.bad]) H = some (.slice (some ⟨H.n, 0, none⟩) 1 1, H.push ⟨SDL.cells [s], 4, false, false⟩) := by
  have e : vcells (.agg #[.int .i64 s.tr, .int .i64 s.nu, s.w, .bool s.bad]) = [.int .i64 s.tr, .int .i64 s.nu, s.w, .bool s.bad] := rfl
  unfold pS4; rw [e]
  simp only [show one (.int .i64 s.tr) = true from rfl, show one (.int .i64 s.nu) = true from rfl, h1, show one (.bool s.bad) = true from rfl, Bool.true_and, cond_true]
  rfl
theorem bd_parts (s : SD) (h : SdOk s) : ∃ t : List Int, t.length = 2 ∧ bdS s = 251 :: (s.bs ++ t) := by
  have hb := h.2.2.2.2.1
  have hl := bdS_len s h
  have hs : (sealed (251 :: s.bs)).take 129 = 251 :: s.bs := by
    unfold sealed
    rw [List.take_left' (by simp [hb])]
  have ht : (bdS s).take 129 = 251 :: s.bs := by
    unfold bdS
    split
    · unfold flipl
      have hL : (sealed (251 :: s.bs)).length = 131 := by rw [sealed_len, List.length_cons, hb]
      rw [hL, List.take_set, List.set_eq_of_length_le (by rw [List.length_take]; omega), hs]
    · exact hs
  refine ⟨(bdS s).drop 129, by rw [List.length_drop, hl], ?_⟩
  have := List.take_append_drop 129 (bdS s)
  rw [ht] at this
  exact this.symm
end Go.Proofs.Ytejedmocjdcdgaa.D

set_option linter.unusedSimpArgs false
set_option linter.unusedVariables false
namespace Go.Proofs.Ytejedmocjdcdgaa.D
open Go Go.Det

end Go.Proofs.Ytejedmocjdcdgaa.D

set_option linter.unusedSimpArgs false
set_option linter.unusedVariables false
namespace Go.Proofs.Ytejedmocjdcdgaa.D
open Go Go.Det

theorem OutD.same {n0 : Nat} {H H' : AH} {v : Value} {l : List SD} (h : OutD n0 H v l) (hn : H.n ≤ H'.n) (hlo : ∀ t ∈ l, ∀ b, inB t.w b → n0 ≤ b) (hg : ∀ b, n0 ≤ b → b < H.n → H'.get b = H.get b) : OutD n0 H' v l :=
  ⟨h.own.same hn hg, fun s hs => Sl.same (h.byt s hs) hn fun b hb => hg b (hlo s hs b hb) ((h.byt s hs).lt hb), h.dis⟩
theorem RP.same {H H' : AH} {v : Value} {l : List T3} (h : RP H v l) (hn : H.n ≤ H'.n) (hv : ∀ b, inB v b → H'.get b = H.get b) (hp : ∀ p ∈ l, ∀ b, inB p.2.2 b → H'.get b = H.get b) : RP H' v l := ⟨Sl.same h.1 hn hv, fun p h' => Sl.same (h.2 p h') hn (hp p h')⟩
end Go.Proofs.Ytejedmocjdcdgaa.D

set_option linter.unusedSimpArgs false
set_option linter.unusedVariables false
namespace Go.Proofs.Ytejedmocjdcdgaa.D
open Go Go.Det

/-! ### the law's sectors -/
def altSD (o1 o2 o3 o4 : Option Value) (f : Int → Int → Bool → Option Addr → Nat → Nat → Option (Value × AH)) (z : Option (Value × AH)) : Option (Value × AH) :=
  match o1, o2, o3, o4 with
  | some (.int .i64 a), some (.int .i64 b), some (.bool t), some (.slice p l c) => f a b t p l c
  | _, _, _, _ => z
theorem altSD_val (a b : Int) (t : Bool) (p : Option Addr) (l c : Nat) (f : Int → Int → Bool → Option Addr → Nat → Nat → Option (Value × AH)) (z : Option (Value × AH)) : altSD (some (.int .i64 a)) (some (.int .i64 b)) (some (.bool t)) (some (.slice p l c)) f z = f a b t p l c := rfl
theorem v_b4sd {P : Program} {T : XTab} (fr : Fr) (H : AH) (dd : Option Nat) (x y t u : Operand) (z0 z1 z2 z3 : Value) : xval P (xc P T) ⟨dd, .build [z0, z1, z2, z3] [(0, 1, x), (1, 1, y), (3, 1, t), (2, 1, u)], none⟩ fr H =
    altSD (ev fr x) (ev fr y) (ev fr t) (ev fr u) (fun a b t p l c => some (.agg #[.int .i64 a, .int .i64 b, .slice p l c, .bool t], H)) (xop P fr H (.build [z0, z1, z2, z3] [(0, 1, x), (1, 1, y), (3, 1, t), (2, 1, u)])) := by
  rw [xval_op dd _ fr H rfl]
  unfold altSD
  split
  · rename_i a b t p l c h1 h2 h3 h4
    rw [e_build]
    simp only [xfill, h1, h2, h3, h4]
    rfl
  · rfl
end Go.Proofs.Ytejedmocjdcdgaa.D

set_option linter.unusedSimpArgs false
set_option linter.unusedVariables false
namespace Go.Proofs.Ytejedmocjdcdgaa.D
open Go Go.Det

/-! ### a block of many cells -/
def pAA' (n sz : Nat) (a b : Value) (H : AH) : Option (Value × AH) :=
  match a, b with
  | .pointer (some ⟨B, o, none⟩), .int _ (.ofNat k) => bif Nat.blt k n then some (.pointer (some ⟨B, o + k * sz, none⟩), H) else none
  | _, _ => none
theorem v_iaa {P : Program} {T : XTab} (fr : Fr) (H : AH) (dd : Option Nat) (n sz : Nat) (x i : Operand) : xval P (xc P T) ⟨dd, .idxAA n sz x i, none⟩ fr H = (ev fr x).bind fun a => (ev fr i).bind fun b => pAA' n sz a b H := by
  rw [xval_op dd _ fr H rfl]
  show (match ev fr x, ev fr i with | some (.pointer (some ⟨B, o, none⟩)), some (.int _ (.ofNat k)) => bif Nat.blt k n then some (Value.pointer (some ⟨B, o + k * sz, none⟩), H) else none | _, _ => none) = _
  cases hx : ev fr x with
  | none => rfl
  | some a =>
    cases hi : ev fr i with
    | none => simp only [Option.bind_some, Option.bind_none]
    | some b =>
      simp only [Option.bind_some]
      unfold pAA'
      split
      · rename_i h1 h2
        cases h1; cases h2; rfl
      · rename_i h1
        split
        · rename_i B o kd k
          exact absurd rfl (h1 B o kd k rfl)
        · rfl
theorem pAA'_of (n B : Nat) (kd : IntKind) (i : Int) (k : Nat) (hi : i = (k : Int)) (hk : k < n) (H : AH) : pAA' n 1 (.pointer (some ⟨B, 0, none⟩)) (.int kd i) H = some (.pointer (some ⟨B, k, none⟩), H) := by
  subst hi
  show (bif Nat.blt k n then some (Value.pointer (some ⟨B, 0 + k * 1, none⟩), H) else none) = _
  have : Nat.blt k n = true := by simpa [Nat.blt_eq] using hk
  rw [this, cond_true, Nat.zero_add, Nat.mul_one]
/-- a block of whole numbers -/
def Arr (H : AH) (A : Nat) (cs : List Int) : Prop := H.get A = some ⟨cs.map (.int .i64), 1, false, false⟩ ∧ A < H.n
theorem Arr.ext {H H' : AH} {A : Nat} {cs : List Int} (h : Arr H A cs) (x : HExt H H') : Arr H' A cs := ⟨(x.2 A h.2).trans h.1, Nat.lt_of_lt_of_le h.2 x.1⟩
theorem Arr.ld {H : AH} {A : Nat} {cs : List Int} (h : Arr H A cs) (k : Nat) (x : Int) (hx : cs[k]? = some x) : pLd none (.pointer (some ⟨A, k, none⟩)) H = some (.int .i64 x, H) := by
  unfold pLd
  simp only [h.1, Option.bind_some]
  have : partV (cs.map (Value.int .i64)) k none = some (.int .i64 x) := by
    show (cs.map (Value.int .i64))[k]? = _
    rw [List.getElem?_map, hx]; rfl
  rw [this]; rfl
theorem Arr.st {H : AH} {A : Nat} {cs : List Int} (h : Arr H A cs) (k : Nat) (hk : k < cs.length) (x : Int) : pSt 1 (.pointer (some ⟨A, k, none⟩)) (.int .i64 x) H = some (undef, H.set A ⟨(cs.set k x).map (.int .i64), 1, false, false⟩) := by
  have e : vcells (.int .i64 x) = [.int .i64 x] := rfl
  unfold pSt
  simp only [h.1, Option.bind_some, e]
  have h2 : Nat.ble (k + 1) (cs.map (Value.int .i64)).length = true := by rw [List.length_map, Nat.ble_eq]; exact hk
  have h3 : splice (cs.map (Value.int .i64)) k [.int .i64 x] = (cs.set k x).map (.int .i64) := by
    rw [List.map_set, ← splice_cons _ _ _ _ (by rw [List.length_map, List.length_nil]; omega), splice_nil]
  rw [h2, h3]
  rfl
theorem Arr.set {H : AH} {A : Nat} {cs : List Int} (h : Arr H A cs) (cs' : List Int) : Arr (H.set A ⟨cs'.map (.int .i64), 1, false, false⟩) A cs' := ⟨by rw [AH.get_set, if_pos rfl], h.2⟩

/-! ### votes -/
def hist (l : List Int) : List Int := (List.range 256).map fun c : Nat => ((l.count (c : Int) : Nat) : Int)
theorem hist_len (l : List Int) : (hist l).length = 256 := by simp [hist]
theorem hist_get (l : List Int) (k : Nat) (hk : k < 256) : (hist l)[k]? = some ((l.count (k : Int) : Nat) : Int) := by
  unfold hist
  rw [List.getElem?_map, List.getElem?_range hk]; rfl
theorem hist_snoc (l : List Int) (k : Nat) (hk : k < 256) : (hist l).set k (((l.count (k : Int) : Nat) : Int) + 1) = hist (l ++ [(k : Int)]) := by
  refine List.ext_getElem? fun j => ?_
  rw [List.getElem?_set]
  by_cases hj : j < 256
  · rw [hist_get l j hj, hist_get (l ++ [(k : Int)]) j hj, List.count_append]
    by_cases h : k = j
    · subst h
      simp [hist_len, hj]
    · rw [if_neg h]
      have : List.count (j : Int) [(k : Int)] = 0 := by
        rw [List.count_eq_zero]; simp; omega
      rw [this, Nat.add_zero]
  · rw [List.getElem?_eq_none (by rw [hist_len]; omega), List.getElem?_eq_none (by rw [hist_len]; omega)]
    rw [if_neg (by omega)]
theorem hist_nil : hist [] = List.replicate 256 0 := by
  unfold hist
  have : (fun c : Nat => ((([] : List Int).count (c : Int) : Nat) : Int)) = fun _ => 0 := rfl
  rw [this, List.map_const', List.length_range]
end Go.Proofs.Ytejedmocjdcdgaa.D
