/- What runs of the program's functions compute, on a heap of the run's own, and that the machine does what such a run says: the conditions stand in each theorem. -/
import Derived.Test.YtejedmocjdcdgaaProg
import Derived.Test.YtejedmocjdcdgaaTpM3
/- The functions that the law reaches, as tables of steps, and that each table is what the program has. -/
set_option maxRecDepth 100000
namespace Go.Proofs.Ytejedmocjdcdgaa.D
open Go Go.Det

def xbakekeep2_TapeBack_l0 : XCode := .seq (.ops [⟨some 81, .bin .lss (.tmp 80) (.tmp 79), none⟩] [1, 7, 8, 15, 78, 79, 80, 81]) (.seq (.cond (.tmp 81) .skip (.exit 0)) (.seq (.block 1 (.seq (.ops [⟨some 82, .idxA 2 (.tmp 78) (.tmp 80), none⟩, ⟨some 83, .ld (some 2) (.tmp 82), none⟩, ⟨some 17, .new 47 1 [.int .i64 0, .slice none 0 0], none⟩, ⟨none, .st 2 (.tmp 17) (.tmp 83), none⟩] [1, 7, 8, 15, 17, 78, 79, 80]) (.ops [⟨some 84, .mov (.tmp 15), none⟩, ⟨some 85, .fldA 0 (.tmp 17), none⟩, ⟨some 86, .ld none (.tmp 85), none⟩, ⟨some 87, .flat (.call (.mk (.builtin .min) #[.tmp 84, .tmp 86] #[3, 3])) 3, none⟩, ⟨some 15, .mov (.tmp 87), none⟩] [1, 7, 8, 15, 78, 79, 80]))) (.ops [⟨some 88, .bin .add (.tmp 80) (.const (.int .i64 1)), none⟩, ⟨some 80, .mov (.tmp 88), none⟩] [1, 7, 8, 15, 78, 79, 80])))
def xbakekeep2_TapeBack_l1 : XCode := .seq (.ops [⟨some 92, .bin .lss (.tmp 91) (.tmp 90), none⟩] [7, 8, 15, 18, 89, 90, 91, 92]) (.seq (.cond (.tmp 92) .skip (.exit 2)) (.seq (.block 3 (.seq (.ops [⟨some 93, .idxA 1 (.tmp 89) (.tmp 91), none⟩, ⟨some 94, .ld none (.tmp 93), none⟩, ⟨some 20, .mov (.tmp 94), none⟩] [7, 8, 15, 18, 20, 89, 90, 91]) (.ops [⟨some 95, .mov (.tmp 18), none⟩, ⟨some 96, .mov (.tmp 20), none⟩, ⟨some 97, .mov (.tmp 15), none⟩, ⟨some 98, .bin .quo (.tmp 97) (.const (.int .i64 4)), none⟩, ⟨some 99, .bin .add (.tmp 98) (.const (.int .i64 1)), none⟩, ⟨some 100, .call 14 [.tmp 96, .tmp 99], none⟩, ⟨some 101, .mov (.tmp 15), none⟩, ⟨some 102, .bin .quo (.tmp 101) (.const (.int .i64 8)), none⟩, ⟨some 103, .bin .sub (.tmp 100) (.tmp 102), none⟩, ⟨some 104, .bslice 3 1 1 [.int .i64 0] [(0, .tmp 103)], none⟩, ⟨some 105, .app 3 1 8 [.int .i64 0] (.tmp 95) (.tmp 104), none⟩, ⟨some 18, .mov (.tmp 105), none⟩] [7, 8, 15, 18, 89, 90, 91]))) (.ops [⟨some 106, .bin .add (.tmp 91) (.const (.int .i64 1)), none⟩, ⟨some 91, .mov (.tmp 106), none⟩] [7, 8, 15, 18, 89, 90, 91])))
/-- bakelite/bakekeep2.TapeBack -/
def xbakekeep2_TapeBack : XFunc := .code (.seq (.ops [⟨some 6, .mov (.const (.bool false)), none⟩] [0, 1, 2]) (.seq (.ops [⟨some 27, .mov (.tmp 0), none⟩, ⟨some 28, .call 22 [.tmp 27], none⟩, ⟨some 7, .mov (.tmp 28), none⟩] [1, 2, 7]) (.seq (.ops [⟨some 30, .mov (.tmp 7), none⟩, ⟨some 31, .call 23 [.tmp 30], none⟩, ⟨some 29, .mov (.tmp 31), none⟩, ⟨some 32, .ext (.tmp 29) 0, none⟩, ⟨some 33, .ext (.tmp 29) 1, none⟩, ⟨some 8, .mov (.tmp 32), none⟩, ⟨some 9, .mov (.tmp 33), none⟩] [1, 2, 7, 8, 9]) (.seq (.ops [⟨some 34, .mov (.tmp 2), none⟩, ⟨some 35, .call 14 [.tmp 34, .const (.int .i64 10)], none⟩, ⟨some 36, .bin .add (.const (.int .i64 1)) (.tmp 35), none⟩, ⟨some 2, .mov (.tmp 36), none⟩] [1, 2, 7, 8, 9]) (.seq (.ops [⟨some 38, .mov (.tmp 8), none⟩, ⟨some 39, .mov (.tmp 2), none⟩, ⟨some 40, .call 24 [.tmp 38, .tmp 39, .const (.int .i64 1)], none⟩, ⟨some 37, .mov (.tmp 40), none⟩, ⟨some 41, .ext (.tmp 37) 0, none⟩, ⟨some 42, .ext (.tmp 37) 1, none⟩, ⟨some 10, .mov (.tmp 41), none⟩, ⟨some 11, .mov (.tmp 42), none⟩] [1, 2, 7, 8, 9, 10, 11]) (.seq (.ops [⟨some 44, .mov (.tmp 10), none⟩, ⟨some 45, .call 25 [.tmp 44], none⟩, ⟨some 43, .mov (.tmp 45), none⟩, ⟨some 46, .ext (.tmp 43) 0, none⟩, ⟨some 47, .ext (.tmp 43) 1, none⟩, ⟨some 48, .ext (.tmp 43) 2, none⟩, ⟨some 12, .mov (.tmp 46), none⟩, ⟨some 13, .mov (.tmp 47), none⟩, ⟨some 14, .mov (.tmp 48), none⟩] [1, 2, 7, 8, 9, 11, 12, 13, 14]) (.seq (.seq (.ops [⟨some 49, .mov (.tmp 9), none⟩, ⟨some 50, .bin .neq (.tmp 49) (.const (.int .i64 0)), none⟩, ⟨some 51, .mov (.tmp 50), none⟩, ⟨some 52, .mov (.tmp 11), some (51, false)⟩, ⟨some 53, .bin .neq (.tmp 52) (.const (.int .i64 0)), some (51, false)⟩, ⟨some 54, .pick (.tmp 51) (.const (.bool true)) (.tmp 53), none⟩, ⟨some 55, .mov (.tmp 54), none⟩, ⟨some 56, .mov (.tmp 14), some (55, false)⟩, ⟨some 57, .bin .neq (.tmp 56) (.const (.int .i64 0)), some (55, false)⟩, ⟨some 58, .pick (.tmp 55) (.const (.bool true)) (.tmp 57), none⟩, ⟨some 59, .mov (.tmp 58), none⟩, ⟨some 60, .mov (.tmp 13), some (59, false)⟩, ⟨some 61, .bin .neq (.tmp 60) (.const (.int .i64 0)), some (59, false)⟩, ⟨some 62, .pick (.tmp 59) (.const (.bool true)) (.tmp 61), none⟩, ⟨some 63, .mov (.tmp 62), none⟩, ⟨some 64, .mov (.tmp 7), some (63, false)⟩, ⟨some 65, .mov (.tmp 12), some (63, false)⟩, ⟨some 66, .mov (.tmp 2), some (63, false)⟩, ⟨some 67, .call 26 [.tmp 64, .tmp 65, .tmp 66], some (63, false)⟩, ⟨some 68, .flat (.unOp .not 4 (.tmp 67)) 4, some (63, false)⟩, ⟨some 69, .pick (.tmp 63) (.const (.bool true)) (.tmp 68), none⟩, ⟨some 70, .mov (.tmp 69), none⟩, ⟨some 71, .mov (.tmp 8), some (70, false)⟩, ⟨some 72, .len (.tmp 71), some (70, false)⟩, ⟨some 73, .mov (.tmp 7), some (70, false)⟩, ⟨some 74, .len (.tmp 73), some (70, false)⟩, ⟨some 75, .bin .mul (.const (.int .i64 65)) (.tmp 74), some (70, false)⟩, ⟨some 76, .bin .lss (.tmp 72) (.tmp 75), some (70, false)⟩, ⟨some 77, .pick (.tmp 70) (.const (.bool true)) (.tmp 76), none⟩] [1, 7, 8, 77]) (.cond (.tmp 77) (.seq (.ops [⟨some 6, .mov (.const (.bool false)), none⟩] [6]) .ret) .skip)) (.seq (.ops [⟨some 15, .mov (.const (.int .i64 800)), none⟩] [1, 7, 8, 15]) (.seq (.seq (.ops [⟨some 78, .mov (.tmp 7), none⟩, ⟨some 79, .len (.tmp 78), none⟩, ⟨some 80, .mov (.const (.int .i64 0)), none⟩] [1, 7, 8, 15, 78, 79, 80]) (.block 0 (.loop xbakekeep2_TapeBack_l0))) (.seq (.ops [⟨some 18, .mov (.const (.slice none 0 0)), none⟩] [1, 7, 8, 15, 18]) (.seq (.seq (.ops [⟨some 89, .mov (.tmp 1), none⟩, ⟨some 90, .len (.tmp 89), none⟩, ⟨some 91, .mov (.const (.int .i64 0)), none⟩] [7, 8, 15, 18, 89, 90, 91]) (.block 2 (.loop xbakekeep2_TapeBack_l1))) (.seq (.ops [⟨some 108, .mov (.tmp 8), none⟩, ⟨some 109, .mov (.tmp 18), none⟩, ⟨some 110, .mov (.tmp 15), none⟩, ⟨some 111, .bin .quo (.tmp 110) (.const (.int .i64 8)), none⟩, ⟨some 112, .call 27 [.tmp 108, .tmp 109, .tmp 111], none⟩, ⟨some 107, .mov (.tmp 112), none⟩, ⟨some 113, .ext (.tmp 107) 0, none⟩, ⟨some 114, .ext (.tmp 107) 1, none⟩, ⟨some 21, .mov (.tmp 113), none⟩, ⟨some 22, .mov (.tmp 114), none⟩] [7, 21, 22]) (.seq (.ops [⟨some 116, .mov (.tmp 21), none⟩, ⟨some 117, .call 25 [.tmp 116], none⟩, ⟨some 115, .mov (.tmp 117), none⟩, ⟨some 118, .ext (.tmp 115) 0, none⟩, ⟨some 119, .ext (.tmp 115) 1, none⟩, ⟨some 120, .ext (.tmp 115) 2, none⟩, ⟨some 23, .mov (.tmp 118), none⟩, ⟨some 13, .mov (.tmp 119), none⟩, ⟨some 24, .mov (.tmp 120), none⟩] [7, 13, 22, 23, 24]) (.seq (.ops [⟨some 122, .build [.int .i64 0, .slice none 0 0] [(0, 1, .const (.int .i64 4))], none⟩, ⟨some 123, .bslice 47 2 1 [.int .i64 0, .slice none 0 0] [(0, .tmp 122)], none⟩, ⟨some 124, .call 23 [.tmp 123], none⟩, ⟨some 121, .mov (.tmp 124), none⟩, ⟨some 125, .ext (.tmp 121) 0, none⟩, ⟨some 126, .ext (.tmp 121) 1, none⟩, ⟨some 25, .mov (.tmp 125), none⟩, ⟨some 26, .mov (.tmp 126), none⟩] [7, 13, 22, 23, 24, 25, 26]) (.seq (.ops [⟨some 127, .mov (.tmp 22), none⟩, ⟨some 128, .bin .eql (.tmp 127) (.const (.int .i64 0)), none⟩, ⟨some 129, .mov (.tmp 128), none⟩, ⟨some 130, .mov (.tmp 24), some (129, true)⟩, ⟨some 131, .bin .eql (.tmp 130) (.const (.int .i64 0)), some (129, true)⟩, ⟨some 132, .pick (.tmp 129) (.tmp 131) (.const (.bool false)), none⟩, ⟨some 133, .mov (.tmp 132), none⟩, ⟨some 134, .mov (.tmp 13), some (133, true)⟩, ⟨some 135, .bin .eql (.tmp 134) (.const (.int .i64 0)), some (133, true)⟩, ⟨some 136, .pick (.tmp 133) (.tmp 135) (.const (.bool false)), none⟩, ⟨some 137, .mov (.tmp 136), none⟩, ⟨some 138, .mov (.tmp 7), some (137, true)⟩, ⟨some 139, .mov (.tmp 23), some (137, true)⟩, ⟨some 140, .call 26 [.tmp 138, .tmp 139, .const (.int .i64 1)], some (137, true)⟩, ⟨some 141, .pick (.tmp 137) (.tmp 140) (.const (.bool false)), none⟩, ⟨some 142, .mov (.tmp 141), none⟩, ⟨some 143, .mov (.tmp 26), some (142, true)⟩, ⟨some 144, .bin .eql (.tmp 143) (.const (.int .i64 0)), some (142, true)⟩, ⟨some 145, .pick (.tmp 142) (.tmp 144) (.const (.bool false)), none⟩, ⟨some 146, .mov (.tmp 145), none⟩, ⟨some 147, .mov (.tmp 25), some (146, true)⟩, ⟨some 148, .len (.tmp 147), some (146, true)⟩, ⟨some 149, .bin .eql (.tmp 148) (.const (.int .i64 65)), some (146, true)⟩, ⟨some 150, .pick (.tmp 146) (.tmp 149) (.const (.bool false)), none⟩, ⟨some 6, .mov (.tmp 150), none⟩] [6]) .ret))))))))))))))) [.tmp 6]
theorem xbakekeep2_TapeBack_ok : cFunc Try.prog Try.f4 [[0,1,2],[1,2,7],[1,2,7,8,9],[1,2,7,8,9],[1,2,7,8,9,10,11],[1,2,7,8,9,11,12,13,14],[1,7,8,77],[6],[1,7,8,15],[1,7,8,15,78,79,80],[1,7,8,15,78,79,80,81],[1,7,8,15,17,78,79,80],[1,7,8,15,78,79,80],[1,7,8,15,78,79,80],[1,7,8,15,18],[7,8,15,18,89,90,91],[7,8,15,18,89,90,91,92],[7,8,15,18,20,89,90,91],[7,8,15,18,89,90,91],[7,8,15,18,89,90,91],[7,21,22],[7,13,22,23,24],[7,13,22,23,24,25,26],[6]] = some xbakekeep2_TapeBack := by kernel_rfl
/-- bakelite/bakemake.Below -/
def xbakemake_Below : XFunc := .code (.seq (.ops [⟨some 4, .mov (.const (.int .i64 0)), none⟩] [0, 1]) (.seq (.seq (.ops [⟨some 5, .mov (.tmp 0), none⟩, ⟨some 6, .mov (.tmp 1), none⟩, ⟨some 7, .bin .rem (.tmp 5) (.tmp 6), none⟩, ⟨some 0, .mov (.tmp 7), none⟩] [0, 1]) (.seq (.ops [⟨some 8, .mov (.tmp 0), none⟩, ⟨some 9, .bin .lss (.tmp 8) (.const (.int .i64 0)), none⟩] [0, 1, 9]) (.cond (.tmp 9) (.ops [⟨some 10, .mov (.tmp 0), none⟩, ⟨some 11, .mov (.tmp 1), none⟩, ⟨some 12, .bin .add (.tmp 10) (.tmp 11), none⟩, ⟨some 0, .mov (.tmp 12), none⟩] [0]) .skip))) (.seq (.ops [⟨some 13, .mov (.tmp 0), none⟩, ⟨some 4, .mov (.tmp 13), none⟩] [4]) .ret))) [.tmp 4]
theorem xbakemake_Below_ok : cFunc Try.prog Try.f14 [[0,1],[0,1],[0,1,9],[0],[4]] = some xbakemake_Below := by kernel_rfl
def xslices_Equal_Sbyte_byte_l0 : XCode := .seq (.ops [⟨some 14, .bin .lss (.tmp 13) (.tmp 12), none⟩] [0, 1, 12, 13, 14]) (.seq (.cond (.tmp 14) .skip (.exit 0)) (.seq (.block 1 (.seq (.ops [⟨some 15, .mov (.tmp 13), none⟩, ⟨some 5, .mov (.tmp 15), none⟩] [0, 1, 5, 12, 13]) (.seq (.dops [.mk ⟨some 16, .mov (.tmp 0), none⟩ [0] 0 [], .mk ⟨some 17, .mov (.tmp 5), none⟩ [5] 0 [], .mk ⟨some 18, .idxA 1 (.tmp 16) (.tmp 17), none⟩ [16, 17] 0 [], .mk ⟨some 19, .ld none (.tmp 18), none⟩ [18] 1 [], .mk ⟨some 20, .mov (.tmp 1), none⟩ [1] 0 [], .mk ⟨some 21, .mov (.tmp 5), none⟩ [5] 0 [], .mk ⟨some 22, .idxA 1 (.tmp 20) (.tmp 21), none⟩ [20, 21] 0 [], .mk ⟨some 23, .ld none (.tmp 22), none⟩ [22] 1 [], .mk ⟨some 24, .bin .neq (.tmp 19) (.tmp 23), none⟩ [19, 23] 0 []] [0, 1, 12, 13, 24]) (.cond (.tmp 24) (.seq (.ops [⟨some 4, .mov (.const (.bool false)), none⟩] [4]) .ret) .skip)))) (.ops [⟨some 25, .bin .add (.tmp 13) (.const (.int .i64 1)), none⟩, ⟨some 13, .mov (.tmp 25), none⟩] [0, 1, 12, 13])))
/-- slices.Equal[[]byte,byte] -/
def xslices_Equal_Sbyte_byte : XFunc := .code (.seq (.ops [⟨some 4, .mov (.const (.bool false)), none⟩] [0, 1]) (.seq (.seq (.ops [⟨some 6, .mov (.tmp 0), none⟩, ⟨some 7, .len (.tmp 6), none⟩, ⟨some 8, .mov (.tmp 1), none⟩, ⟨some 9, .len (.tmp 8), none⟩, ⟨some 10, .bin .neq (.tmp 7) (.tmp 9), none⟩] [0, 1, 10]) (.cond (.tmp 10) (.seq (.ops [⟨some 4, .mov (.const (.bool false)), none⟩] [4]) .ret) .skip)) (.seq (.seq (.ops [⟨some 11, .mov (.tmp 0), none⟩, ⟨some 12, .len (.tmp 11), none⟩, ⟨some 13, .mov (.const (.int .i64 0)), none⟩] [0, 1, 12, 13]) (.block 0 (.loop xslices_Equal_Sbyte_byte_l0))) (.seq (.ops [⟨some 4, .mov (.const (.bool true)), none⟩] [4]) .ret)))) [.tmp 4]
theorem xslices_Equal_Sbyte_byte_ok : cFunc Try.prog Try.f18 [[0,1],[0,1,10],[4],[0,1,12,13],[0,1,12,13,14],[0,1,5,12,13],[0,1,12,13,24],[4],[0,1,12,13],[4]] = some xslices_Equal_Sbyte_byte := by kernel_rfl
def xbakekeep2_blocks_l0 : XCode := .seq (.ops [⟨some 25, .bin .lss (.tmp 24) (.tmp 23), none⟩] [3, 4, 5, 11, 12, 23, 24, 25]) (.seq (.cond (.tmp 25) .skip (.exit 2)) (.seq (.block 3 (.seq (.ops [⟨some 26, .mov (.tmp 24), none⟩, ⟨some 6, .mov (.tmp 26), none⟩] [3, 4, 5, 6, 11, 12, 23, 24]) (.dops [.mk ⟨some 27, .fldA 1 (.tmp 5), none⟩ [5] 0 [], .mk ⟨some 28, .ld none (.tmp 27), none⟩ [27] 1 [5], .mk ⟨some 29, .mov (.tmp 6), none⟩ [6] 0 [], .mk ⟨some 30, .mov (.tmp 3), none⟩ [3] 0 [], .mk ⟨some 31, .call 67 [.tmp 30, .const (.int .i64 256)], none⟩ [30] 2 [], .mk ⟨some 32, .conv .u8 (.tmp 31), none⟩ [31] 0 [], .mk ⟨some 33, .idxA 1 (.tmp 28) (.tmp 29), none⟩ [28, 29] 0 [], .mk ⟨none, .st 1 (.tmp 33) (.tmp 32), none⟩ [33, 32] 2 []] [3, 4, 5, 11, 12, 23, 24]))) (.ops [⟨some 34, .bin .add (.tmp 24) (.const (.int .i64 1)), none⟩, ⟨some 24, .mov (.tmp 34), none⟩] [3, 4, 5, 11, 12, 23, 24])))
def xbakekeep2_blocks_l1 : XCode := .seq (.ops [⟨some 13, .bin .lss (.tmp 12) (.tmp 11), none⟩] [3, 4, 11, 12, 13]) (.seq (.cond (.tmp 13) .skip (.exit 0)) (.seq (.block 1 (.seq (.ops [⟨some 14, .mov (.tmp 3), none⟩, ⟨some 15, .call 67 [.tmp 14, .const (.int .i64 96)], none⟩, ⟨some 16, .bin .add (.const (.int .i64 4)) (.tmp 15), none⟩, ⟨some 17, .mov (.tmp 3), none⟩, ⟨some 18, .call 67 [.tmp 17, .const (.int .i64 20)], none⟩, ⟨some 19, .mks 5 1 1 [.int .u8 0] (.tmp 18) (.tmp 18), none⟩, ⟨some 20, .build [.int .i64 0, .slice none 0 0] [(0, 1, .tmp 16), (1, 1, .tmp 19)], none⟩, ⟨some 5, .new 47 1 [.int .i64 0, .slice none 0 0], none⟩, ⟨none, .st 2 (.tmp 5) (.tmp 20), none⟩] [3, 4, 5, 11, 12]) (.seq (.seq (.ops [⟨some 21, .fldA 1 (.tmp 5), none⟩, ⟨some 22, .ld none (.tmp 21), none⟩, ⟨some 23, .len (.tmp 22), none⟩, ⟨some 24, .mov (.const (.int .i64 0)), none⟩] [3, 4, 5, 11, 12, 23, 24]) (.block 2 (.loop xbakekeep2_blocks_l0))) (.ops [⟨some 35, .mov (.tmp 4), none⟩, ⟨some 36, .ld (some 2) (.tmp 5), none⟩, ⟨some 37, .bslice 47 2 1 [.int .i64 0, .slice none 0 0] [(0, .tmp 36)], none⟩, ⟨some 38, .app 47 2 32 [.int .i64 0, .slice none 0 0] (.tmp 35) (.tmp 37), none⟩, ⟨some 4, .mov (.tmp 38), none⟩] [3, 4, 11, 12])))) (.ops [⟨some 39, .bin .add (.tmp 12) (.const (.int .i64 1)), none⟩, ⟨some 12, .mov (.tmp 39), none⟩] [3, 4, 11, 12])))
/-- bakelite/bakekeep2.blocks -/
def xbakekeep2_blocks : XFunc := .code (.seq (.ops [⟨some 2, .mov (.const (.slice none 0 0)), none⟩] [0]) (.seq (.ops [⟨some 7, .mov (.tmp 0), none⟩, ⟨some 8, .build [.slice none 0 0] [(0, 1, .tmp 7)], none⟩, ⟨some 9, .box 124 1 (.tmp 8), none⟩, ⟨some 3, .mov (.tmp 9), none⟩] [3]) (.seq (.ops [⟨some 4, .mov (.const (.slice none 0 0)), none⟩] [3, 4]) (.seq (.seq (.ops [⟨some 10, .mov (.tmp 3), none⟩, ⟨some 11, .call 67 [.tmp 10, .const (.int .i64 4)], none⟩, ⟨some 12, .mov (.const (.int .i64 0)), none⟩] [3, 4, 11, 12]) (.block 0 (.loop xbakekeep2_blocks_l1))) (.seq (.ops [⟨some 40, .mov (.tmp 4), none⟩, ⟨some 2, .mov (.tmp 40), none⟩] [2]) .ret))))) [.tmp 2]
theorem xbakekeep2_blocks_ok : cFunc Try.prog Try.f22 [[0],[3],[3,4],[3,4,11,12],[3,4,11,12,13],[3,4,5,11,12],[3,4,5,11,12,23,24],[3,4,5,11,12,23,24,25],[3,4,5,6,11,12,23,24],[3,4,5,11,12,23,24],[3,4,5,11,12,23,24],[3,4,11,12],[3,4,11,12],[2]] = some xbakekeep2_blocks := by kernel_rfl
def xtape_Write_l0 : XCode := .seq (.ops [⟨some 24, .bin .lss (.tmp 23) (.const (.int .i64 16)), none⟩] [5, 7, 17, 18, 19, 23, 24]) (.seq (.cond (.tmp 24) .skip (.exit 2)) (.seq (.block 3 (.ops [⟨some 25, .mov (.tmp 5), none⟩, ⟨some 26, .fldA 0 (.tmp 7), none⟩, ⟨some 27, .ld none (.tmp 26), none⟩, ⟨some 28, .bin .mul (.const (.int .i64 8)) (.tmp 27), none⟩, ⟨some 29, .bslice 3 1 1 [.int .i64 0] [(0, .tmp 28)], none⟩, ⟨some 30, .app 3 1 8 [.int .i64 0] (.tmp 25) (.tmp 29), none⟩, ⟨some 5, .mov (.tmp 30), none⟩] [5, 7, 17, 18, 19, 23])) (.ops [⟨some 31, .bin .add (.tmp 23) (.const (.int .i64 1)), none⟩, ⟨some 23, .mov (.tmp 31), none⟩] [5, 7, 17, 18, 19, 23])))
def xtape_Write_l1 : XCode := .seq (.seq (.ops [⟨some 62, .mov (.tmp 10), none⟩, ⟨some 63, .bin .geq (.tmp 62) (.const (.int .i64 0)), none⟩] [5, 7, 9, 10, 17, 18, 19, 56, 57, 58, 63]) (.cond (.tmp 63) .skip (.exit 6))) (.seq (.block 7 (.seq (.ops [⟨some 66, .fldA 0 (.tmp 7), none⟩, ⟨some 67, .ld none (.tmp 66), none⟩, ⟨some 68, .bin .mul (.const (.int .i64 2)) (.tmp 67), none⟩, ⟨some 11, .mov (.tmp 68), none⟩] [5, 7, 9, 10, 11, 17, 18, 19, 56, 57, 58]) (.seq (.seq (.ops [⟨some 69, .mov (.tmp 9), none⟩, ⟨some 70, .mov (.tmp 10), none⟩, ⟨some 71, .bin .shr (.tmp 69) (.tmp 70), none⟩, ⟨some 72, .bin .and (.tmp 71) (.const (.int .u8 1)), none⟩, ⟨some 73, .bin .eql (.tmp 72) (.const (.int .u8 1)), none⟩] [5, 7, 9, 10, 11, 17, 18, 19, 56, 57, 58, 73]) (.cond (.tmp 73) (.ops [⟨some 74, .fldA 0 (.tmp 7), none⟩, ⟨some 75, .ld none (.tmp 74), none⟩, ⟨some 76, .bin .mul (.const (.int .i64 4)) (.tmp 75), none⟩, ⟨some 11, .mov (.tmp 76), none⟩] [5, 7, 9, 10, 11, 17, 18, 19, 56, 57, 58]) .skip)) (.ops [⟨some 77, .mov (.tmp 5), none⟩, ⟨some 78, .mov (.tmp 11), none⟩, ⟨some 79, .mov (.tmp 11), none⟩, ⟨some 80, .bslice 3 1 2 [.int .i64 0] [(0, .tmp 78), (1, .tmp 79)], none⟩, ⟨some 81, .app 3 1 8 [.int .i64 0] (.tmp 77) (.tmp 80), none⟩, ⟨some 5, .mov (.tmp 81), none⟩] [5, 7, 9, 10, 17, 18, 19, 56, 57, 58])))) (.ops [⟨some 64, .mov (.tmp 10), none⟩, ⟨some 65, .bin .sub (.tmp 64) (.const (.int .i64 1)), none⟩, ⟨some 10, .mov (.tmp 65), none⟩] [5, 7, 9, 10, 17, 18, 19, 56, 57, 58]))
def xtape_Write_l2 : XCode := .seq (.ops [⟨some 59, .bin .lss (.tmp 58) (.tmp 57), none⟩] [5, 7, 17, 18, 19, 56, 57, 58, 59]) (.seq (.cond (.tmp 59) .skip (.exit 4)) (.seq (.block 5 (.seq (.ops [⟨some 60, .idxA 1 (.tmp 56) (.tmp 58), none⟩, ⟨some 61, .ld none (.tmp 60), none⟩, ⟨some 9, .mov (.tmp 61), none⟩] [5, 7, 9, 17, 18, 19, 56, 57, 58]) (.seq (.ops [⟨some 10, .mov (.const (.int .i64 7)), none⟩] [5, 7, 9, 10, 17, 18, 19, 56, 57, 58]) (.block 6 (.loop xtape_Write_l1))))) (.ops [⟨some 82, .bin .add (.tmp 58) (.const (.int .i64 1)), none⟩, ⟨some 58, .mov (.tmp 82), none⟩] [5, 7, 17, 18, 19, 56, 57, 58])))
def xtape_Write_l3 : XCode := .seq (.ops [⟨some 20, .bin .lss (.tmp 19) (.tmp 18), none⟩] [5, 17, 18, 19, 20]) (.seq (.cond (.tmp 20) .skip (.exit 0)) (.seq (.block 1 (.seq (.ops [⟨some 21, .idxA 2 (.tmp 17) (.tmp 19), none⟩, ⟨some 22, .ld (some 2) (.tmp 21), none⟩, ⟨some 7, .new 47 1 [.int .i64 0, .slice none 0 0], none⟩, ⟨none, .st 2 (.tmp 7) (.tmp 22), none⟩] [5, 7, 17, 18, 19]) (.seq (.seq (.ops [⟨some 23, .mov (.const (.int .i64 0)), none⟩] [5, 7, 17, 18, 19, 23]) (.block 2 (.loop xtape_Write_l0))) (.seq (.ops [⟨some 32, .mov (.tmp 5), none⟩, ⟨some 33, .fldA 0 (.tmp 7), none⟩, ⟨some 34, .ld none (.tmp 33), none⟩, ⟨some 35, .bin .mul (.const (.int .i64 16)) (.tmp 34), none⟩, ⟨some 36, .bslice 3 1 1 [.int .i64 0] [(0, .tmp 35)], none⟩, ⟨some 37, .app 3 1 8 [.int .i64 0] (.tmp 32) (.tmp 36), none⟩, ⟨some 5, .mov (.tmp 37), none⟩] [5, 7, 17, 18, 19]) (.seq (.dops [.mk ⟨some 38, .fldA 1 (.tmp 7), none⟩ [7] 0 [], .mk ⟨some 39, .ld none (.tmp 38), none⟩ [38] 1 [], .mk ⟨some 40, .len (.tmp 39), none⟩ [39] 0 [], .mk ⟨some 41, .bin .shr (.tmp 40) (.const (.int .u64 8)), none⟩ [40] 0 [], .mk ⟨some 42, .conv .u8 (.tmp 41), none⟩ [41] 0 [], .mk ⟨some 43, .fldA 1 (.tmp 7), none⟩ [7] 0 [], .mk ⟨some 44, .ld none (.tmp 43), none⟩ [43] 1 [], .mk ⟨some 45, .len (.tmp 44), none⟩ [44] 0 [], .mk ⟨some 46, .conv .u8 (.tmp 45), none⟩ [45] 0 [], .mk ⟨some 47, .bslice 5 1 2 [.int .u8 0] [(0, .tmp 42), (1, .tmp 46)], none⟩ [42, 46] 2 [], .mk ⟨some 48, .fldA 1 (.tmp 7), none⟩ [7] 0 [], .mk ⟨some 49, .ld none (.tmp 48), none⟩ [48] 1 [0], .mk ⟨some 50, .app 5 1 1 [.int .u8 0] (.tmp 47) (.tmp 49), none⟩ [47, 49] 2 [], .mk ⟨some 51, .fldA 1 (.tmp 7), none⟩ [7] 0 [], .mk ⟨some 52, .ld none (.tmp 51), none⟩ [51] 1 [0, 10], .mk ⟨some 53, .call 69 [.tmp 52], none⟩ [52] 2 [], .mk ⟨some 54, .conv .u8 (.tmp 53), none⟩ [53] 0 [], .mk ⟨some 55, .bslice 5 1 1 [.int .u8 0] [(0, .tmp 54)], none⟩ [54] 2 [], .mk ⟨some 56, .app 5 1 1 [.int .u8 0] (.tmp 50) (.tmp 55), none⟩ [50, 55] 2 [], .mk ⟨some 57, .len (.tmp 56), none⟩ [56] 0 [], .mk ⟨some 58, .mov (.const (.int .i64 0)), none⟩ [] 0 []] [5, 7, 17, 18, 19, 56, 57, 58]) (.block 4 (.loop xtape_Write_l2))))))) (.ops [⟨some 83, .bin .add (.tmp 19) (.const (.int .i64 1)), none⟩, ⟨some 19, .mov (.tmp 83), none⟩] [5, 17, 18, 19])))
/-- bakelite/tape.Write -/
def xtape_Write : XFunc := .code (.seq (.ops [⟨some 2, .mov (.const (.slice none 0 0)), none⟩, ⟨some 3, .mov (.const (.int .i64 0)), none⟩] [0]) (.seq (.seq (.ops [⟨some 12, .mov (.tmp 0), none⟩, ⟨some 13, .call 68 [.tmp 12], none⟩, ⟨some 4, .mov (.tmp 13), none⟩] [0, 4]) (.seq (.ops [⟨some 14, .mov (.tmp 4), none⟩, ⟨some 15, .bin .neq (.tmp 14) (.const (.int .i64 0)), none⟩] [0, 4, 15]) (.cond (.tmp 15) (.seq (.ops [⟨some 16, .mov (.tmp 4), none⟩, ⟨some 2, .mov (.const (.slice none 0 0)), none⟩, ⟨some 3, .mov (.tmp 16), none⟩] [2, 3]) .ret) .skip))) (.seq (.ops [⟨some 5, .mov (.const (.slice none 0 0)), none⟩] [0, 5]) (.seq (.seq (.ops [⟨some 17, .mov (.tmp 0), none⟩, ⟨some 18, .len (.tmp 17), none⟩, ⟨some 19, .mov (.const (.int .i64 0)), none⟩] [5, 17, 18, 19]) (.block 0 (.loop xtape_Write_l3))) (.seq (.ops [⟨some 84, .mov (.tmp 5), none⟩, ⟨some 2, .mov (.tmp 84), none⟩, ⟨some 3, .mov (.const (.int .i64 0)), none⟩] [2, 3]) .ret))))) [.tmp 2, .tmp 3]
theorem xtape_Write_ok : cFunc Try.prog Try.f23 [[0],[0,4],[0,4,15],[2,3],[0,5],[5,17,18,19],[5,17,18,19,20],[5,7,17,18,19],[5,7,17,18,19,23],[5,7,17,18,19,23,24],[5,7,17,18,19,23],[5,7,17,18,19,23],[5,7,17,18,19],[5,7,17,18,19,56,57,58],[5,7,17,18,19,56,57,58,59],[5,7,9,17,18,19,56,57,58],[5,7,9,10,17,18,19,56,57,58],[5,7,9,10,17,18,19,56,57,58,63],[5,7,9,10,11,17,18,19,56,57,58],[5,7,9,10,11,17,18,19,56,57,58,73],[5,7,9,10,11,17,18,19,56,57,58],[5,7,9,10,17,18,19,56,57,58],[5,7,9,10,17,18,19,56,57,58],[5,7,17,18,19,56,57,58],[5,17,18,19],[2,3]] = some xtape_Write := by kernel_rfl
def xflux_Speed_l0 : XCode := .seq (.ops [⟨some 36, .bin .lss (.tmp 35) (.tmp 34), none⟩] [1, 2, 8, 34, 35, 36]) (.seq (.cond (.tmp 36) .skip (.exit 0)) (.seq (.block 1 (.seq (.ops [⟨some 37, .mov (.tmp 35), none⟩, ⟨some 10, .mov (.tmp 37), none⟩] [1, 2, 8, 10, 34, 35]) (.ops [⟨some 38, .mov (.tmp 8), none⟩, ⟨some 39, .mov (.tmp 10), none⟩, ⟨some 40, .mov (.tmp 8), none⟩, ⟨some 41, .mov (.tmp 10), none⟩, ⟨some 42, .idxA 1 (.tmp 40) (.tmp 41), none⟩, ⟨some 43, .ld none (.tmp 42), none⟩, ⟨some 44, .mov (.tmp 1), none⟩, ⟨some 45, .bin .mul (.tmp 43) (.tmp 44), none⟩, ⟨some 46, .mov (.tmp 2), none⟩, ⟨some 47, .bin .quo (.tmp 45) (.tmp 46), none⟩, ⟨some 48, .idxA 1 (.tmp 38) (.tmp 39), none⟩, ⟨none, .st 1 (.tmp 48) (.tmp 47), none⟩] [1, 2, 8, 34, 35]))) (.ops [⟨some 49, .bin .add (.tmp 35) (.const (.int .i64 1)), none⟩, ⟨some 35, .mov (.tmp 49), none⟩] [1, 2, 8, 34, 35])))
/-- bakelite/flux.Speed -/
def xflux_Speed : XFunc := .code (.seq (.ops [⟨some 6, .mov (.const (.slice none 0 0)), none⟩, ⟨some 7, .mov (.const (.int .i64 0)), none⟩] [0, 1, 2]) (.seq (.ops [⟨some 12, .mov (.tmp 0), none⟩, ⟨some 13, .call 70 [.tmp 12], none⟩, ⟨some 11, .mov (.tmp 13), none⟩, ⟨some 14, .ext (.tmp 11) 0, none⟩, ⟨some 15, .ext (.tmp 11) 1, none⟩, ⟨some 8, .mov (.tmp 14), none⟩, ⟨some 9, .mov (.tmp 15), none⟩] [1, 2, 8, 9]) (.seq (.seq (.ops [⟨some 16, .mov (.tmp 9), none⟩, ⟨some 17, .bin .neq (.tmp 16) (.const (.int .i64 0)), none⟩] [1, 2, 8, 9, 17]) (.cond (.tmp 17) (.seq (.ops [⟨some 18, .mov (.tmp 9), none⟩, ⟨some 6, .mov (.const (.slice none 0 0)), none⟩, ⟨some 7, .mov (.tmp 18), none⟩] [6, 7]) .ret) .skip)) (.seq (.seq (.ops [⟨some 19, .mov (.tmp 1), none⟩, ⟨some 20, .bin .lss (.tmp 19) (.const (.int .i64 1)), none⟩, ⟨some 21, .mov (.tmp 20), none⟩, ⟨some 22, .mov (.tmp 1), some (21, false)⟩, ⟨some 23, .bin .gtr (.tmp 22) (.const (.int .i64 1000)), some (21, false)⟩, ⟨some 24, .pick (.tmp 21) (.const (.bool true)) (.tmp 23), none⟩, ⟨some 25, .mov (.tmp 24), none⟩, ⟨some 26, .mov (.tmp 2), some (25, false)⟩, ⟨some 27, .bin .lss (.tmp 26) (.const (.int .i64 1)), some (25, false)⟩, ⟨some 28, .pick (.tmp 25) (.const (.bool true)) (.tmp 27), none⟩, ⟨some 29, .mov (.tmp 28), none⟩, ⟨some 30, .mov (.tmp 2), some (29, false)⟩, ⟨some 31, .bin .gtr (.tmp 30) (.const (.int .i64 1000)), some (29, false)⟩, ⟨some 32, .pick (.tmp 29) (.const (.bool true)) (.tmp 31), none⟩] [1, 2, 8, 32]) (.cond (.tmp 32) (.seq (.ops [⟨some 6, .mov (.const (.slice none 0 0)), none⟩, ⟨some 7, .mov (.const (.int .i64 1)), none⟩] [6, 7]) .ret) .skip)) (.seq (.seq (.ops [⟨some 33, .mov (.tmp 8), none⟩, ⟨some 34, .len (.tmp 33), none⟩, ⟨some 35, .mov (.const (.int .i64 0)), none⟩] [1, 2, 8, 34, 35]) (.block 0 (.loop xflux_Speed_l0))) (.seq (.ops [⟨some 50, .mov (.tmp 8), none⟩, ⟨some 51, .call 71 [.tmp 50], none⟩, ⟨some 52, .ext (.tmp 51) 0, none⟩, ⟨some 53, .ext (.tmp 51) 1, none⟩, ⟨some 6, .mov (.tmp 52), none⟩, ⟨some 7, .mov (.tmp 53), none⟩] [6, 7]) .ret)))))) [.tmp 6, .tmp 7]
theorem xflux_Speed_ok : cFunc Try.prog Try.f24 [[0,1,2],[1,2,8,9],[1,2,8,9,17],[6,7],[1,2,8,32],[6,7],[1,2,8,34,35],[1,2,8,34,35,36],[1,2,8,10,34,35],[1,2,8,34,35],[1,2,8,34,35],[6,7]] = some xflux_Speed := by kernel_rfl
def xtape_Read_l0 : XCode := .seq (.seq (.ops [⟨some 18, .mov (.tmp 6), none⟩, ⟨some 19, .nilck (.tmp 18), none⟩, ⟨some 20, .fldA 1 (.tmp 19), none⟩, ⟨some 21, .ld none (.tmp 20), none⟩, ⟨some 22, .mov (.tmp 0), none⟩, ⟨some 23, .len (.tmp 22), none⟩, ⟨some 24, .bin .lss (.tmp 21) (.tmp 23), none⟩] [0, 6, 7, 24]) (.cond (.tmp 24) .skip (.exit 0))) (.block 1 (.seq (.ops [⟨some 26, .mov (.tmp 6), none⟩, ⟨some 27, .call 72 [.tmp 26], none⟩, ⟨some 25, .mov (.tmp 27), none⟩, ⟨some 28, .ext (.tmp 25) 0, none⟩, ⟨some 29, .ext (.tmp 25) 1, none⟩, ⟨some 8, .new 47 1 [.int .i64 0, .slice none 0 0], none⟩, ⟨none, .st 2 (.tmp 8) (.tmp 28), none⟩, ⟨some 9, .mov (.tmp 29), none⟩] [0, 6, 7, 8, 9]) (.seq (.seq (.ops [⟨some 30, .mov (.tmp 9), none⟩, ⟨some 31, .bin .neq (.tmp 30) (.const (.int .i64 0)), none⟩] [0, 6, 7, 8, 9, 31]) (.cond (.tmp 31) (.seq (.ops [⟨some 32, .mov (.tmp 7), none⟩, ⟨some 33, .mov (.tmp 9), none⟩, ⟨some 2, .mov (.tmp 32), none⟩, ⟨some 3, .mov (.tmp 33), none⟩, ⟨some 4, .mov (.const (.int .i64 0)), none⟩] [2, 3, 4]) .ret) .skip)) (.seq (.ops [⟨some 34, .mov (.tmp 7), none⟩, ⟨some 35, .ld (some 2) (.tmp 8), none⟩, ⟨some 36, .bslice 47 2 1 [.int .i64 0, .slice none 0 0] [(0, .tmp 35)], none⟩, ⟨some 37, .app 47 2 32 [.int .i64 0, .slice none 0 0] (.tmp 34) (.tmp 36), none⟩, ⟨some 7, .mov (.tmp 37), none⟩] [0, 6, 7]) (.seq (.ops [⟨some 38, .mov (.tmp 7), none⟩, ⟨some 39, .len (.tmp 38), none⟩, ⟨some 40, .bin .gtr (.tmp 39) (.const (.int .i64 8)), none⟩] [0, 6, 7, 40]) (.cond (.tmp 40) (.seq (.ops [⟨some 2, .mov (.const (.slice none 0 0)), none⟩, ⟨some 3, .mov (.const (.int .i64 0)), none⟩, ⟨some 4, .mov (.const (.int .i64 2)), none⟩] [2, 3, 4]) .ret) .skip))))))
/-- bakelite/tape.Read -/
def xtape_Read : XFunc := .code (.seq (.ops [⟨some 2, .mov (.const (.slice none 0 0)), none⟩, ⟨some 3, .mov (.const (.int .i64 0)), none⟩, ⟨some 4, .mov (.const (.int .i64 0)), none⟩] [0]) (.seq (.seq (.ops [⟨some 10, .mov (.tmp 0), none⟩, ⟨some 11, .call 65 [.tmp 10], none⟩, ⟨some 5, .mov (.tmp 11), none⟩] [0, 5]) (.seq (.ops [⟨some 12, .mov (.tmp 5), none⟩, ⟨some 13, .bin .neq (.tmp 12) (.const (.int .i64 0)), none⟩] [0, 5, 13]) (.cond (.tmp 13) (.seq (.ops [⟨some 14, .mov (.tmp 5), none⟩, ⟨some 2, .mov (.const (.slice none 0 0)), none⟩, ⟨some 3, .mov (.const (.int .i64 0)), none⟩, ⟨some 4, .mov (.tmp 14), none⟩] [2, 3, 4]) .ret) .skip))) (.seq (.ops [⟨some 15, .mov (.tmp 0), none⟩, ⟨some 16, .build [.slice none 0 0, .int .i64 0, .int .i64 0] [(0, 1, .tmp 15)], none⟩, ⟨some 17, .box 132 1 (.tmp 16), none⟩, ⟨some 6, .mov (.tmp 17), none⟩] [0, 6]) (.seq (.ops [⟨some 7, .mov (.const (.slice none 0 0)), none⟩] [0, 6, 7]) (.seq (.block 0 (.loop xtape_Read_l0)) (.seq (.ops [⟨some 41, .mov (.tmp 7), none⟩, ⟨some 2, .mov (.tmp 41), none⟩, ⟨some 3, .mov (.const (.int .i64 0)), none⟩, ⟨some 4, .mov (.const (.int .i64 0)), none⟩] [2, 3, 4]) .ret)))))) [.tmp 2, .tmp 3, .tmp 4]
theorem xtape_Read_ok : cFunc Try.prog Try.f25 [[0],[0,5],[0,5,13],[2,3,4],[0,6],[0,6,7],[0,6,7,24],[0,6,7,8,9],[0,6,7,8,9,31],[2,3,4],[0,6,7],[0,6,7,40],[2,3,4],[2,3,4]] = some xtape_Read := by kernel_rfl
/-- bakelite/bakekeep2.sameBlocks -/
def xbakekeep2_sameBlocks : XFunc := .code (.seq (.ops [⟨some 5, .box 3 1 (.tmp 2), none⟩, ⟨some 6, .mov (.const (.bool false)), none⟩] [0, 1, 5]) (.seq (.ops [⟨some 7, .mov (.tmp 0), none⟩, ⟨some 8, .mov (.tmp 1), none⟩, ⟨some 9, .mkf (.func 74) [] [.tmp 5], none⟩, ⟨some 10, .call 73 [.tmp 7, .tmp 8, .tmp 9], none⟩, ⟨some 6, .mov (.tmp 10), none⟩] [6]) .ret)) [.tmp 6]
theorem xbakekeep2_sameBlocks_ok : cFunc Try.prog Try.f26 [[0,1,5],[6]] = some xbakekeep2_sameBlocks := by kernel_rfl
def xflux_Shake_l0 : XCode := .seq (.ops [⟨some 28, .bin .lss (.tmp 27) (.tmp 26), none⟩] [1, 2, 8, 26, 27, 28]) (.seq (.cond (.tmp 28) .skip (.exit 0)) (.seq (.block 1 (.seq (.ops [⟨some 29, .mov (.tmp 27), none⟩, ⟨some 10, .mov (.tmp 29), none⟩] [1, 2, 8, 10, 26, 27]) (.seq (.ops [⟨some 30, .mov (.tmp 1), none⟩, ⟨some 31, .len (.tmp 30), none⟩, ⟨some 32, .bin .gtr (.tmp 31) (.const (.int .i64 0)), none⟩] [1, 2, 8, 10, 26, 27, 32]) (.cond (.tmp 32) (.dops [.mk ⟨some 33, .mov (.tmp 8), none⟩ [8] 0 [], .mk ⟨some 34, .mov (.tmp 10), none⟩ [10] 0 [], .mk ⟨some 35, .idxA 1 (.tmp 33) (.tmp 34), none⟩ [33, 34] 0 [], .mk ⟨some 36, .ld none (.tmp 35), none⟩ [35] 1 [], .mk ⟨some 37, .mov (.tmp 2), none⟩ [2] 0 [], .mk ⟨some 38, .flat (.unOp .neg 3 (.tmp 37)) 3, none⟩ [37] 0 [], .mk ⟨some 39, .mov (.tmp 2), none⟩ [2] 0 [], .mk ⟨some 40, .mov (.tmp 1), none⟩ [1] 0 [], .mk ⟨some 41, .mov (.tmp 10), none⟩ [10] 0 [], .mk ⟨some 42, .mov (.tmp 1), none⟩ [1] 0 [], .mk ⟨some 43, .len (.tmp 42), none⟩ [42] 0 [], .mk ⟨some 44, .bin .rem (.tmp 41) (.tmp 43), none⟩ [41, 43] 0 [], .mk ⟨some 45, .idxA 1 (.tmp 40) (.tmp 44), none⟩ [40, 44] 0 [], .mk ⟨some 46, .ld none (.tmp 45), none⟩ [45] 1 [], .mk ⟨some 47, .flat (.call (.mk (.builtin .min) #[.tmp 39, .tmp 46] #[3, 3])) 3, none⟩ [39, 46] 0 [], .mk ⟨some 48, .flat (.call (.mk (.builtin .max) #[.tmp 38, .tmp 47] #[3, 3])) 3, none⟩ [38, 47] 0 [], .mk ⟨some 49, .bin .add (.tmp 36) (.tmp 48), none⟩ [36, 48] 0 [], .mk ⟨some 50, .idxA 1 (.tmp 33) (.tmp 34), none⟩ [33, 34] 0 [], .mk ⟨none, .st 1 (.tmp 50) (.tmp 49), none⟩ [50, 49] 2 []] [1, 2, 8, 26, 27]) .skip)))) (.ops [⟨some 51, .bin .add (.tmp 27) (.const (.int .i64 1)), none⟩, ⟨some 27, .mov (.tmp 51), none⟩] [1, 2, 8, 26, 27])))
/-- bakelite/flux.Shake -/
def xflux_Shake : XFunc := .code (.seq (.ops [⟨some 6, .mov (.const (.slice none 0 0)), none⟩, ⟨some 7, .mov (.const (.int .i64 0)), none⟩] [0, 1, 2]) (.seq (.ops [⟨some 12, .mov (.tmp 0), none⟩, ⟨some 13, .call 70 [.tmp 12], none⟩, ⟨some 11, .mov (.tmp 13), none⟩, ⟨some 14, .ext (.tmp 11) 0, none⟩, ⟨some 15, .ext (.tmp 11) 1, none⟩, ⟨some 8, .mov (.tmp 14), none⟩, ⟨some 9, .mov (.tmp 15), none⟩] [1, 2, 8, 9]) (.seq (.seq (.ops [⟨some 16, .mov (.tmp 9), none⟩, ⟨some 17, .bin .neq (.tmp 16) (.const (.int .i64 0)), none⟩] [1, 2, 8, 9, 17]) (.cond (.tmp 17) (.seq (.ops [⟨some 18, .mov (.tmp 9), none⟩, ⟨some 6, .mov (.const (.slice none 0 0)), none⟩, ⟨some 7, .mov (.tmp 18), none⟩] [6, 7]) .ret) .skip)) (.seq (.seq (.ops [⟨some 19, .mov (.tmp 2), none⟩, ⟨some 20, .bin .lss (.tmp 19) (.const (.int .i64 0)), none⟩, ⟨some 21, .mov (.tmp 20), none⟩, ⟨some 22, .mov (.tmp 2), some (21, false)⟩, ⟨some 23, .bin .gtr (.tmp 22) (.const (.int .i64 100000)), some (21, false)⟩, ⟨some 24, .pick (.tmp 21) (.const (.bool true)) (.tmp 23), none⟩] [1, 2, 8, 24]) (.cond (.tmp 24) (.seq (.ops [⟨some 6, .mov (.const (.slice none 0 0)), none⟩, ⟨some 7, .mov (.const (.int .i64 1)), none⟩] [6, 7]) .ret) .skip)) (.seq (.seq (.ops [⟨some 25, .mov (.tmp 8), none⟩, ⟨some 26, .len (.tmp 25), none⟩, ⟨some 27, .mov (.const (.int .i64 0)), none⟩] [1, 2, 8, 26, 27]) (.block 0 (.loop xflux_Shake_l0))) (.seq (.ops [⟨some 52, .mov (.tmp 8), none⟩, ⟨some 53, .call 71 [.tmp 52], none⟩, ⟨some 54, .ext (.tmp 53) 0, none⟩, ⟨some 55, .ext (.tmp 53) 1, none⟩, ⟨some 6, .mov (.tmp 54), none⟩, ⟨some 7, .mov (.tmp 55), none⟩] [6, 7]) .ret)))))) [.tmp 6, .tmp 7]
theorem xflux_Shake_ok : cFunc Try.prog Try.f27 [[0,1,2],[1,2,8,9],[1,2,8,9,17],[6,7],[1,2,8,24],[6,7],[1,2,8,26,27],[1,2,8,26,27,28],[1,2,8,10,26,27],[1,2,8,10,26,27,32],[1,2,8,26,27],[1,2,8,26,27],[6,7]] = some xflux_Shake := by kernel_rfl
def xflux_Check_l0 : XCode := .seq (.ops [⟨some 11, .bin .lss (.tmp 10) (.tmp 9), none⟩] [8, 9, 10, 11]) (.seq (.cond (.tmp 11) .skip (.exit 0)) (.seq (.block 1 (.seq (.ops [⟨some 12, .idxA 1 (.tmp 8) (.tmp 10), none⟩, ⟨some 13, .ld none (.tmp 12), none⟩, ⟨some 4, .mov (.tmp 13), none⟩] [4, 8, 9, 10]) (.seq (.ops [⟨some 14, .mov (.tmp 4), none⟩, ⟨some 15, .bin .lss (.tmp 14) (.const (.int .i64 1)), none⟩, ⟨some 16, .mov (.tmp 15), none⟩, ⟨some 17, .mov (.tmp 4), some (16, false)⟩, ⟨some 18, .bin .gtr (.tmp 17) (.const (.int .i64 100000)), some (16, false)⟩, ⟨some 19, .pick (.tmp 16) (.const (.bool true)) (.tmp 18), none⟩] [8, 9, 10, 19]) (.cond (.tmp 19) (.seq (.ops [⟨some 2, .mov (.const (.int .i64 1)), none⟩] [2]) .ret) .skip)))) (.ops [⟨some 20, .bin .add (.tmp 10) (.const (.int .i64 1)), none⟩, ⟨some 10, .mov (.tmp 20), none⟩] [8, 9, 10])))
/-- bakelite/flux.Check -/
def xflux_Check : XFunc := .code (.seq (.ops [⟨some 2, .mov (.const (.int .i64 0)), none⟩] [0]) (.seq (.seq (.ops [⟨some 5, .mov (.tmp 0), none⟩, ⟨some 6, .len (.tmp 5), none⟩, ⟨some 7, .bin .gtr (.tmp 6) (.const (.int .i64 40000)), none⟩] [0, 7]) (.cond (.tmp 7) (.seq (.ops [⟨some 2, .mov (.const (.int .i64 2)), none⟩] [2]) .ret) .skip)) (.seq (.seq (.ops [⟨some 8, .mov (.tmp 0), none⟩, ⟨some 9, .len (.tmp 8), none⟩, ⟨some 10, .mov (.const (.int .i64 0)), none⟩] [8, 9, 10]) (.block 0 (.loop xflux_Check_l0))) (.seq (.ops [⟨some 2, .mov (.const (.int .i64 0)), none⟩] [2]) .ret)))) [.tmp 2]
theorem xflux_Check_ok : cFunc Try.prog Try.f65 [[0],[0,7],[2],[8,9,10],[8,9,10,11],[4,8,9,10],[8,9,10,19],[2],[8,9,10],[2]] = some xflux_Check := by kernel_rfl
/-- (*bakelite/bakemake.Stream).Next -/
def xbakemake_Stream_Next : XFunc := .code (.seq (.ops [⟨some 4, .mov (.const (.int .i64 0)), none⟩] [0, 1]) (.seq (.seq (.ops [⟨some 6, .mov (.tmp 1), none⟩, ⟨some 7, .bin .lss (.tmp 6) (.const (.int .i64 1)), none⟩, ⟨some 8, .mov (.tmp 7), none⟩, ⟨some 9, .mov (.tmp 0), some (8, false)⟩, ⟨some 10, .nilck (.tmp 9), some (8, false)⟩, ⟨some 11, .fldA 0 (.tmp 10), some (8, false)⟩, ⟨some 12, .ld none (.tmp 11), some (8, false)⟩, ⟨some 13, .len (.tmp 12), some (8, false)⟩, ⟨some 14, .bin .eql (.tmp 13) (.const (.int .i64 0)), some (8, false)⟩, ⟨some 15, .pick (.tmp 8) (.const (.bool true)) (.tmp 14), none⟩] [0, 1, 15]) (.cond (.tmp 15) (.seq (.ops [⟨some 4, .mov (.const (.int .i64 0)), none⟩] [4]) .ret) .skip)) (.seq (.ops [⟨some 16, .mov (.tmp 0), none⟩, ⟨some 17, .nilck (.tmp 16), none⟩, ⟨some 18, .fldA 0 (.tmp 17), none⟩, ⟨some 19, .ld none (.tmp 18), none⟩, ⟨some 20, .idxA 1 (.tmp 19) (.const (.int .i64 0)), none⟩, ⟨some 21, .ld none (.tmp 20), none⟩, ⟨some 5, .mov (.tmp 21), none⟩] [0, 1, 5]) (.seq (.ops [⟨some 22, .mov (.tmp 0), none⟩, ⟨some 23, .mov (.tmp 0), none⟩, ⟨some 24, .nilck (.tmp 23), none⟩, ⟨some 25, .fldA 0 (.tmp 24), none⟩, ⟨some 26, .ld none (.tmp 25), none⟩, ⟨some 27, .slc 1 (.tmp 26) (some (.const (.int .i64 1))) none none, none⟩, ⟨some 28, .nilck (.tmp 22), none⟩, ⟨some 29, .fldA 0 (.tmp 28), none⟩, ⟨none, .st 1 (.tmp 29) (.tmp 27), none⟩] [1, 5]) (.seq (.ops [⟨some 30, .mov (.tmp 5), none⟩, ⟨some 31, .mov (.tmp 1), none⟩, ⟨some 32, .call 14 [.tmp 30, .tmp 31], none⟩, ⟨some 4, .mov (.tmp 32), none⟩] [4]) .ret))))) [.tmp 4]
theorem xbakemake_Stream_Next_ok : cFunc Try.prog Try.f67 [[0,1],[0,1,15],[4],[0,1,5],[1,5],[4]] = some xbakemake_Stream_Next := by kernel_rfl
def xtape_Check_l0 : XCode := .seq (.ops [⟨some 11, .bin .lss (.tmp 10) (.tmp 9), none⟩] [8, 9, 10, 11]) (.seq (.cond (.tmp 11) .skip (.exit 0)) (.seq (.block 1 (.seq (.ops [⟨some 12, .idxA 2 (.tmp 8) (.tmp 10), none⟩, ⟨some 13, .ld (some 2) (.tmp 12), none⟩, ⟨some 4, .new 47 1 [.int .i64 0, .slice none 0 0], none⟩, ⟨none, .st 2 (.tmp 4) (.tmp 13), none⟩] [4, 8, 9, 10]) (.seq (.seq (.ops [⟨some 14, .fldA 1 (.tmp 4), none⟩, ⟨some 15, .ld none (.tmp 14), none⟩, ⟨some 16, .len (.tmp 15), none⟩, ⟨some 17, .bin .gtr (.tmp 16) (.const (.int .i64 256)), none⟩] [4, 8, 9, 10, 17]) (.cond (.tmp 17) (.seq (.ops [⟨some 2, .mov (.const (.int .i64 2)), none⟩] [2]) .ret) .skip)) (.seq (.ops [⟨some 18, .fldA 0 (.tmp 4), none⟩, ⟨some 19, .ld none (.tmp 18), none⟩, ⟨some 20, .bin .lss (.tmp 19) (.const (.int .i64 4)), none⟩, ⟨some 21, .mov (.tmp 20), none⟩, ⟨some 22, .fldA 0 (.tmp 4), some (21, false)⟩, ⟨some 23, .ld none (.tmp 22), some (21, false)⟩, ⟨some 24, .bin .gtr (.tmp 23) (.const (.int .i64 1000)), some (21, false)⟩, ⟨some 25, .pick (.tmp 21) (.const (.bool true)) (.tmp 24), none⟩] [8, 9, 10, 25]) (.cond (.tmp 25) (.seq (.ops [⟨some 2, .mov (.const (.int .i64 1)), none⟩] [2]) .ret) .skip))))) (.ops [⟨some 26, .bin .add (.tmp 10) (.const (.int .i64 1)), none⟩, ⟨some 10, .mov (.tmp 26), none⟩] [8, 9, 10])))
/-- bakelite/tape.Check -/
def xtape_Check : XFunc := .code (.seq (.ops [⟨some 2, .mov (.const (.int .i64 0)), none⟩] [0]) (.seq (.seq (.ops [⟨some 5, .mov (.tmp 0), none⟩, ⟨some 6, .len (.tmp 5), none⟩, ⟨some 7, .bin .gtr (.tmp 6) (.const (.int .i64 8)), none⟩] [0, 7]) (.cond (.tmp 7) (.seq (.ops [⟨some 2, .mov (.const (.int .i64 2)), none⟩] [2]) .ret) .skip)) (.seq (.seq (.ops [⟨some 8, .mov (.tmp 0), none⟩, ⟨some 9, .len (.tmp 8), none⟩, ⟨some 10, .mov (.const (.int .i64 0)), none⟩] [8, 9, 10]) (.block 0 (.loop xtape_Check_l0))) (.seq (.ops [⟨some 2, .mov (.const (.int .i64 0)), none⟩] [2]) .ret)))) [.tmp 2]
theorem xtape_Check_ok : cFunc Try.prog Try.f68 [[0],[0,7],[2],[8,9,10],[8,9,10,11],[4,8,9,10],[4,8,9,10,17],[2],[8,9,10,25],[2],[8,9,10],[2]] = some xtape_Check := by kernel_rfl
def xcrc_Xor_l0 : XCode := .seq (.ops [⟨some 9, .bin .lss (.tmp 8) (.tmp 7), none⟩] [3, 6, 7, 8, 9]) (.seq (.cond (.tmp 9) .skip (.exit 0)) (.seq (.block 1 (.seq (.ops [⟨some 10, .idxA 1 (.tmp 6) (.tmp 8), none⟩, ⟨some 11, .ld none (.tmp 10), none⟩, ⟨some 5, .mov (.tmp 11), none⟩] [3, 5, 6, 7, 8]) (.ops [⟨some 12, .mov (.tmp 3), none⟩, ⟨some 13, .mov (.tmp 5), none⟩, ⟨some 14, .conv .i64 (.tmp 13), none⟩, ⟨some 15, .bin .xor (.tmp 12) (.tmp 14), none⟩, ⟨some 3, .mov (.tmp 15), none⟩] [3, 6, 7, 8]))) (.ops [⟨some 16, .bin .add (.tmp 8) (.const (.int .i64 1)), none⟩, ⟨some 8, .mov (.tmp 16), none⟩] [3, 6, 7, 8])))
/-- bakelite/crc.Xor -/
def xcrc_Xor : XFunc := .code (.seq (.ops [⟨some 2, .mov (.const (.int .i64 0)), none⟩] [0]) (.seq (.ops [⟨some 3, .mov (.const (.int .i64 0)), none⟩] [0, 3]) (.seq (.seq (.ops [⟨some 6, .mov (.tmp 0), none⟩, ⟨some 7, .len (.tmp 6), none⟩, ⟨some 8, .mov (.const (.int .i64 0)), none⟩] [3, 6, 7, 8]) (.block 0 (.loop xcrc_Xor_l0))) (.seq (.ops [⟨some 17, .mov (.tmp 3), none⟩, ⟨some 2, .mov (.tmp 17), none⟩] [2]) .ret)))) [.tmp 2]
theorem xcrc_Xor_ok : cFunc Try.prog Try.f69 [[0],[0,3],[3,6,7,8],[3,6,7,8,9],[3,5,6,7,8],[3,6,7,8],[3,6,7,8],[2]] = some xcrc_Xor := by kernel_rfl
def xflux_Marks_l0 : XCode := .seq (.ops [⟨some 17, .bin .lss (.tmp 16) (.tmp 15), none⟩] [5, 6, 14, 15, 16, 17]) (.seq (.cond (.tmp 17) .skip (.exit 0)) (.seq (.block 1 (.seq (.ops [⟨some 18, .idxA 1 (.tmp 14) (.tmp 16), none⟩, ⟨some 19, .ld none (.tmp 18), none⟩, ⟨some 8, .mov (.tmp 19), none⟩] [5, 6, 8, 14, 15, 16]) (.seq (.ops [⟨some 20, .mov (.tmp 6), none⟩, ⟨some 21, .mov (.tmp 8), none⟩, ⟨some 22, .bin .add (.tmp 20) (.tmp 21), none⟩, ⟨some 6, .mov (.tmp 22), none⟩] [5, 6, 14, 15, 16]) (.ops [⟨some 23, .mov (.tmp 5), none⟩, ⟨some 24, .mov (.tmp 6), none⟩, ⟨some 25, .bslice 3 1 1 [.int .i64 0] [(0, .tmp 24)], none⟩, ⟨some 26, .app 3 1 8 [.int .i64 0] (.tmp 23) (.tmp 25), none⟩, ⟨some 5, .mov (.tmp 26), none⟩] [5, 6, 14, 15, 16])))) (.ops [⟨some 27, .bin .add (.tmp 16) (.const (.int .i64 1)), none⟩, ⟨some 16, .mov (.tmp 27), none⟩] [5, 6, 14, 15, 16])))
/-- bakelite/flux.Marks -/
def xflux_Marks : XFunc := .code (.seq (.ops [⟨some 2, .mov (.const (.slice none 0 0)), none⟩, ⟨some 3, .mov (.const (.int .i64 0)), none⟩] [0]) (.seq (.seq (.ops [⟨some 9, .mov (.tmp 0), none⟩, ⟨some 10, .call 65 [.tmp 9], none⟩, ⟨some 4, .mov (.tmp 10), none⟩] [0, 4]) (.seq (.ops [⟨some 11, .mov (.tmp 4), none⟩, ⟨some 12, .bin .neq (.tmp 11) (.const (.int .i64 0)), none⟩] [0, 4, 12]) (.cond (.tmp 12) (.seq (.ops [⟨some 13, .mov (.tmp 4), none⟩, ⟨some 2, .mov (.const (.slice none 0 0)), none⟩, ⟨some 3, .mov (.tmp 13), none⟩] [2, 3]) .ret) .skip))) (.seq (.ops [⟨some 5, .mov (.const (.slice none 0 0)), none⟩] [0, 5]) (.seq (.ops [⟨some 6, .mov (.const (.int .i64 0)), none⟩] [0, 5, 6]) (.seq (.seq (.ops [⟨some 14, .mov (.tmp 0), none⟩, ⟨some 15, .len (.tmp 14), none⟩, ⟨some 16, .mov (.const (.int .i64 0)), none⟩] [5, 6, 14, 15, 16]) (.block 0 (.loop xflux_Marks_l0))) (.seq (.ops [⟨some 28, .mov (.tmp 5), none⟩, ⟨some 2, .mov (.tmp 28), none⟩, ⟨some 3, .mov (.const (.int .i64 0)), none⟩] [2, 3]) .ret)))))) [.tmp 2, .tmp 3]
theorem xflux_Marks_ok : cFunc Try.prog Try.f70 [[0],[0,4],[0,4,12],[2,3],[0,5],[0,5,6],[5,6,14,15,16],[5,6,14,15,16,17],[5,6,8,14,15,16],[5,6,14,15,16],[5,6,14,15,16],[5,6,14,15,16],[2,3]] = some xflux_Marks := by kernel_rfl
def xflux_Of_l0 : XCode := .seq (.ops [⟨some 14, .bin .lss (.tmp 13) (.tmp 12), none⟩] [4, 5, 11, 12, 13, 14]) (.seq (.cond (.tmp 14) .skip (.exit 0)) (.seq (.block 1 (.seq (.ops [⟨some 15, .idxA 1 (.tmp 11) (.tmp 13), none⟩, ⟨some 16, .ld none (.tmp 15), none⟩, ⟨some 7, .mov (.tmp 16), none⟩] [4, 5, 7, 11, 12, 13]) (.seq (.seq (.ops [⟨some 17, .mov (.tmp 7), none⟩, ⟨some 18, .mov (.tmp 5), none⟩, ⟨some 19, .bin .leq (.tmp 17) (.tmp 18), none⟩] [4, 5, 7, 11, 12, 13, 19]) (.cond (.tmp 19) (.seq (.ops [⟨some 2, .mov (.const (.slice none 0 0)), none⟩, ⟨some 3, .mov (.const (.int .i64 9)), none⟩] [2, 3]) .ret) .skip)) (.seq (.seq (.ops [⟨some 20, .mov (.tmp 7), none⟩, ⟨some 21, .mov (.tmp 5), none⟩, ⟨some 22, .bin .sub (.tmp 20) (.tmp 21), none⟩, ⟨some 23, .bin .gtr (.tmp 22) (.const (.int .i64 100000)), none⟩] [4, 5, 7, 11, 12, 13, 23]) (.cond (.tmp 23) (.seq (.ops [⟨some 2, .mov (.const (.slice none 0 0)), none⟩, ⟨some 3, .mov (.const (.int .i64 1)), none⟩] [2, 3]) .ret) .skip)) (.ops [⟨some 24, .mov (.tmp 4), none⟩, ⟨some 25, .mov (.tmp 7), none⟩, ⟨some 26, .mov (.tmp 5), none⟩, ⟨some 27, .bin .sub (.tmp 25) (.tmp 26), none⟩, ⟨some 28, .bslice 3 1 1 [.int .i64 0] [(0, .tmp 27)], none⟩, ⟨some 29, .app 3 1 8 [.int .i64 0] (.tmp 24) (.tmp 28), none⟩, ⟨some 30, .mov (.tmp 7), none⟩, ⟨some 4, .mov (.tmp 29), none⟩, ⟨some 5, .mov (.tmp 30), none⟩] [4, 5, 11, 12, 13]))))) (.ops [⟨some 31, .bin .add (.tmp 13) (.const (.int .i64 1)), none⟩, ⟨some 13, .mov (.tmp 31), none⟩] [4, 5, 11, 12, 13])))
/-- bakelite/flux.Of -/
def xflux_Of : XFunc := .code (.seq (.ops [⟨some 2, .mov (.const (.slice none 0 0)), none⟩, ⟨some 3, .mov (.const (.int .i64 0)), none⟩] [0]) (.seq (.seq (.ops [⟨some 8, .mov (.tmp 0), none⟩, ⟨some 9, .len (.tmp 8), none⟩, ⟨some 10, .bin .gtr (.tmp 9) (.const (.int .i64 40000)), none⟩] [0, 10]) (.cond (.tmp 10) (.seq (.ops [⟨some 2, .mov (.const (.slice none 0 0)), none⟩, ⟨some 3, .mov (.const (.int .i64 2)), none⟩] [2, 3]) .ret) .skip)) (.seq (.ops [⟨some 4, .mov (.const (.slice none 0 0)), none⟩] [0, 4]) (.seq (.ops [⟨some 5, .mov (.const (.int .i64 0)), none⟩] [0, 4, 5]) (.seq (.seq (.ops [⟨some 11, .mov (.tmp 0), none⟩, ⟨some 12, .len (.tmp 11), none⟩, ⟨some 13, .mov (.const (.int .i64 0)), none⟩] [4, 5, 11, 12, 13]) (.block 0 (.loop xflux_Of_l0))) (.seq (.ops [⟨some 32, .mov (.tmp 4), none⟩, ⟨some 2, .mov (.tmp 32), none⟩, ⟨some 3, .mov (.const (.int .i64 0)), none⟩] [2, 3]) .ret)))))) [.tmp 2, .tmp 3]
theorem xflux_Of_ok : cFunc Try.prog Try.f71 [[0],[0,10],[2,3],[0,4],[0,4,5],[4,5,11,12,13],[4,5,11,12,13,14],[4,5,7,11,12,13],[4,5,7,11,12,13,19],[2,3],[4,5,7,11,12,13,23],[2,3],[4,5,11,12,13],[4,5,11,12,13],[2,3]] = some xflux_Of := by kernel_rfl
def xtape_reader_block_l0 : XCode := .seq (.ops [⟨some 41, .bin .lss (.tmp 40) (.tmp 39), none⟩] [0, 2, 4, 38, 39, 40, 41]) (.seq (.cond (.tmp 41) .skip (.exit 0)) (.seq (.block 1 (.seq (.ops [⟨some 42, .idxA 1 (.tmp 38) (.tmp 40), none⟩, ⟨some 43, .ld none (.tmp 42), none⟩, ⟨some 6, .mov (.tmp 43), none⟩] [0, 2, 4, 6, 38, 39, 40]) (.ops [⟨some 44, .mov (.tmp 4), none⟩, ⟨some 45, .mov (.tmp 6), none⟩, ⟨some 46, .bin .add (.tmp 44) (.tmp 45), none⟩, ⟨some 4, .mov (.tmp 46), none⟩] [0, 2, 4, 38, 39, 40]))) (.ops [⟨some 47, .bin .add (.tmp 40) (.const (.int .i64 1)), none⟩, ⟨some 40, .mov (.tmp 47), none⟩] [0, 2, 4, 38, 39, 40])))
def xtape_reader_block_l1 : XCode := .seq (.ops [⟨some 69, .bin .lss (.tmp 68) (.const (.int .i64 16)), none⟩] [0, 2, 68, 69]) (.seq (.cond (.tmp 69) .skip (.exit 2)) (.seq (.block 3 (.seq (.ops [⟨some 70, .mov (.tmp 0), none⟩, ⟨some 71, .call 115 [.tmp 70], none⟩, ⟨some 72, .call 114 [.tmp 71, .const (.int .i64 8)], none⟩, ⟨some 73, .flat (.unOp .not 4 (.tmp 72)) 4, none⟩] [0, 2, 68, 73]) (.cond (.tmp 73) (.seq (.ops [⟨some 74, .build [.int .i64 0, .slice none 0 0] [], none⟩, ⟨none, .st 2 (.tmp 2) (.tmp 74), none⟩, ⟨some 3, .mov (.const (.int .i64 3)), none⟩] [2, 3]) .ret) .skip))) (.ops [⟨some 75, .bin .add (.tmp 68) (.const (.int .i64 1)), none⟩, ⟨some 68, .mov (.tmp 75), none⟩] [0, 2, 68])))
def xtape_reader_block_l2 : XCode := .seq (.seq (.ops [⟨some 81, .mov (.tmp 8), none⟩, ⟨some 82, .mov (.tmp 9), none⟩, ⟨some 83, .bin .lss (.tmp 81) (.tmp 82), none⟩] [0, 2, 7, 8, 9, 83]) (.cond (.tmp 83) .skip (.exit 4))) (.seq (.block 5 (.seq (.ops [⟨some 87, .mov (.tmp 0), none⟩, ⟨some 88, .call 116 [.tmp 87], none⟩, ⟨some 86, .mov (.tmp 88), none⟩, ⟨some 89, .ext (.tmp 86) 0, none⟩, ⟨some 90, .ext (.tmp 86) 1, none⟩, ⟨some 10, .mov (.tmp 89), none⟩, ⟨some 11, .mov (.tmp 90), none⟩] [0, 2, 7, 8, 9, 10, 11]) (.seq (.seq (.ops [⟨some 91, .mov (.tmp 11), none⟩, ⟨some 92, .bin .neq (.tmp 91) (.const (.int .i64 0)), none⟩] [0, 2, 7, 8, 9, 10, 11, 92]) (.cond (.tmp 92) (.seq (.ops [⟨some 93, .build [.int .i64 0, .slice none 0 0] [], none⟩, ⟨some 94, .mov (.tmp 11), none⟩, ⟨none, .st 2 (.tmp 2) (.tmp 93), none⟩, ⟨some 3, .mov (.tmp 94), none⟩] [2, 3]) .ret) .skip)) (.seq (.ops [⟨some 95, .mov (.tmp 7), none⟩, ⟨some 96, .mov (.tmp 10), none⟩, ⟨some 97, .conv .u8 (.tmp 96), none⟩, ⟨some 98, .bslice 5 1 1 [.int .u8 0] [(0, .tmp 97)], none⟩, ⟨some 99, .app 5 1 1 [.int .u8 0] (.tmp 95) (.tmp 98), none⟩, ⟨some 7, .mov (.tmp 99), none⟩] [0, 2, 7, 8, 9]) (.seq (.ops [⟨some 100, .mov (.tmp 8), none⟩, ⟨some 101, .bin .eql (.tmp 100) (.const (.int .i64 1)), none⟩] [0, 2, 7, 8, 9, 101]) (.cond (.tmp 101) (.seq (.dops [.mk ⟨some 102, .mov (.tmp 7), none⟩ [7] 0 [], .mk ⟨some 103, .idxA 1 (.tmp 102) (.const (.int .i64 0)), none⟩ [102] 0 [], .mk ⟨some 104, .ld none (.tmp 103), none⟩ [103] 1 [], .mk ⟨some 105, .conv .i64 (.tmp 104), none⟩ [104] 0 [], .mk ⟨some 106, .bin .shl (.tmp 105) (.const (.int .u64 8)), none⟩ [105] 0 [], .mk ⟨some 107, .mov (.tmp 7), none⟩ [7] 0 [], .mk ⟨some 108, .idxA 1 (.tmp 107) (.const (.int .i64 1)), none⟩ [107] 0 [], .mk ⟨some 109, .ld none (.tmp 108), none⟩ [108] 1 [], .mk ⟨some 110, .conv .i64 (.tmp 109), none⟩ [109] 0 [], .mk ⟨some 111, .bin .add (.tmp 106) (.tmp 110), none⟩ [106, 110] 0 [], .mk ⟨some 112, .bin .add (.tmp 111) (.const (.int .i64 3)), none⟩ [111] 0 [], .mk ⟨some 9, .mov (.tmp 112), none⟩ [112] 0 []] [0, 2, 7, 8, 9]) (.seq (.ops [⟨some 113, .mov (.tmp 9), none⟩, ⟨some 114, .bin .gtr (.tmp 113) (.const (.int .i64 259)), none⟩] [0, 2, 7, 8, 9, 114]) (.cond (.tmp 114) (.seq (.ops [⟨some 115, .build [.int .i64 0, .slice none 0 0] [], none⟩, ⟨none, .st 2 (.tmp 2) (.tmp 115), none⟩, ⟨some 3, .mov (.const (.int .i64 2)), none⟩] [2, 3]) .ret) .skip))) .skip)))))) (.ops [⟨some 84, .mov (.tmp 8), none⟩, ⟨some 85, .bin .add (.tmp 84) (.const (.int .i64 1)), none⟩, ⟨some 8, .mov (.tmp 85), none⟩] [0, 2, 7, 8, 9]))
/-- (*bakelite/tape.reader).block -/
def xtape_reader_block : XFunc := .code (.seq (.ops [⟨some 2, .new 47 1 [.int .i64 0, .slice none 0 0], none⟩, ⟨some 3, .mov (.const (.int .i64 0)), none⟩] [0, 2]) (.seq (.seq (.dops [.mk ⟨some 13, .mov (.tmp 0), none⟩ [0] 0 [], .mk ⟨some 14, .nilck (.tmp 13), none⟩ [13] 0 [], .mk ⟨some 15, .fldA 0 (.tmp 14), none⟩ [14] 0 [], .mk ⟨some 16, .ld none (.tmp 15), none⟩ [15] 1 [], .mk ⟨some 17, .len (.tmp 16), none⟩ [16] 0 [], .mk ⟨some 18, .mov (.tmp 0), none⟩ [0] 0 [], .mk ⟨some 19, .nilck (.tmp 18), none⟩ [18] 0 [], .mk ⟨some 20, .fldA 1 (.tmp 19), none⟩ [19] 0 [], .mk ⟨some 21, .ld none (.tmp 20), none⟩ [20] 1 [], .mk ⟨some 22, .bin .sub (.tmp 17) (.tmp 21), none⟩ [17, 21] 0 [], .mk ⟨some 23, .bin .lss (.tmp 22) (.const (.int .i64 17)), none⟩ [22] 0 []] [0, 2, 23]) (.cond (.tmp 23) (.seq (.ops [⟨some 24, .build [.int .i64 0, .slice none 0 0] [], none⟩, ⟨none, .st 2 (.tmp 2) (.tmp 24), none⟩, ⟨some 3, .mov (.const (.int .i64 13)), none⟩] [2, 3]) .ret) .skip)) (.seq (.ops [⟨some 4, .mov (.const (.int .i64 0)), none⟩] [0, 2, 4]) (.seq (.seq (.dops [.mk ⟨some 25, .mov (.tmp 0), none⟩ [0] 0 [], .mk ⟨some 26, .nilck (.tmp 25), none⟩ [25] 0 [], .mk ⟨some 27, .fldA 0 (.tmp 26), none⟩ [26] 0 [], .mk ⟨some 28, .ld none (.tmp 27), none⟩ [27] 1 [], .mk ⟨some 29, .mov (.tmp 0), none⟩ [0] 0 [], .mk ⟨some 30, .nilck (.tmp 29), none⟩ [29] 0 [], .mk ⟨some 31, .fldA 1 (.tmp 30), none⟩ [30] 0 [], .mk ⟨some 32, .ld none (.tmp 31), none⟩ [31] 1 [], .mk ⟨some 33, .mov (.tmp 0), none⟩ [0] 0 [], .mk ⟨some 34, .nilck (.tmp 33), none⟩ [33] 0 [], .mk ⟨some 35, .fldA 1 (.tmp 34), none⟩ [34] 0 [], .mk ⟨some 36, .ld none (.tmp 35), none⟩ [35] 1 [], .mk ⟨some 37, .bin .add (.tmp 36) (.const (.int .i64 16)), none⟩ [36] 0 [], .mk ⟨some 38, .slc 1 (.tmp 28) (some (.tmp 32)) (some (.tmp 37)) none, none⟩ [28, 32, 37] 1 [], .mk ⟨some 39, .len (.tmp 38), none⟩ [38] 0 [], .mk ⟨some 40, .mov (.const (.int .i64 0)), none⟩ [] 0 []] [0, 2, 4, 38, 39, 40]) (.block 0 (.loop xtape_reader_block_l0))) (.seq (.seq (.ops [⟨some 48, .mov (.tmp 0), none⟩, ⟨some 49, .mov (.tmp 4), none⟩, ⟨some 50, .bin .mul (.const (.int .i64 2)) (.tmp 49), none⟩, ⟨some 51, .bin .add (.tmp 50) (.const (.int .i64 128)), none⟩, ⟨some 52, .bin .quo (.tmp 51) (.const (.int .i64 256)), none⟩, ⟨some 53, .nilck (.tmp 48), none⟩, ⟨some 54, .fldA 2 (.tmp 53), none⟩, ⟨none, .st 1 (.tmp 54) (.tmp 52), none⟩] [0, 2]) (.seq (.ops [⟨some 55, .mov (.tmp 0), none⟩, ⟨some 56, .nilck (.tmp 55), none⟩, ⟨some 57, .fldA 2 (.tmp 56), none⟩, ⟨some 58, .ld none (.tmp 57), none⟩, ⟨some 59, .bin .lss (.tmp 58) (.const (.int .i64 4)), none⟩, ⟨some 60, .mov (.tmp 59), none⟩, ⟨some 61, .mov (.tmp 0), some (60, false)⟩, ⟨some 62, .nilck (.tmp 61), some (60, false)⟩, ⟨some 63, .fldA 2 (.tmp 62), some (60, false)⟩, ⟨some 64, .ld none (.tmp 63), some (60, false)⟩, ⟨some 65, .bin .gtr (.tmp 64) (.const (.int .i64 1000)), some (60, false)⟩, ⟨some 66, .pick (.tmp 60) (.const (.bool true)) (.tmp 65), none⟩] [0, 2, 66]) (.cond (.tmp 66) (.seq (.ops [⟨some 67, .build [.int .i64 0, .slice none 0 0] [], none⟩, ⟨none, .st 2 (.tmp 2) (.tmp 67), none⟩, ⟨some 3, .mov (.const (.int .i64 3)), none⟩] [2, 3]) .ret) .skip))) (.seq (.seq (.ops [⟨some 68, .mov (.const (.int .i64 0)), none⟩] [0, 2, 68]) (.block 2 (.loop xtape_reader_block_l1))) (.seq (.seq (.ops [⟨some 76, .mov (.tmp 0), none⟩, ⟨some 77, .call 115 [.tmp 76], none⟩, ⟨some 78, .call 114 [.tmp 77, .const (.int .i64 16)], none⟩, ⟨some 79, .flat (.unOp .not 4 (.tmp 78)) 4, none⟩] [0, 2, 79]) (.cond (.tmp 79) (.seq (.ops [⟨some 80, .build [.int .i64 0, .slice none 0 0] [], none⟩, ⟨none, .st 2 (.tmp 2) (.tmp 80), none⟩, ⟨some 3, .mov (.const (.int .i64 3)), none⟩] [2, 3]) .ret) .skip)) (.seq (.ops [⟨some 7, .mov (.const (.slice none 0 0)), none⟩] [0, 2, 7]) (.seq (.seq (.ops [⟨some 8, .mov (.const (.int .i64 0)), none⟩, ⟨some 9, .mov (.const (.int .i64 3)), none⟩] [0, 2, 7, 8, 9]) (.block 4 (.loop xtape_reader_block_l2))) (.seq (.ops [⟨some 116, .bslice 5 1 0 [.int .u8 0] [], none⟩, ⟨some 117, .mov (.tmp 7), none⟩, ⟨some 118, .mov (.tmp 7), none⟩, ⟨some 119, .len (.tmp 118), none⟩, ⟨some 120, .bin .sub (.tmp 119) (.const (.int .i64 1)), none⟩, ⟨some 121, .slc 1 (.tmp 117) (some (.const (.int .i64 2))) (some (.tmp 120)) none, none⟩, ⟨some 122, .app 5 1 1 [.int .u8 0] (.tmp 116) (.tmp 121), none⟩, ⟨some 12, .mov (.tmp 122), none⟩] [0, 2, 7, 12]) (.seq (.seq (.dops [.mk ⟨some 123, .mov (.tmp 12), none⟩ [12] 0 [], .mk ⟨some 124, .call 69 [.tmp 123], none⟩ [123] 2 [], .mk ⟨some 125, .mov (.tmp 7), none⟩ [7] 0 [], .mk ⟨some 126, .mov (.tmp 7), none⟩ [7] 0 [], .mk ⟨some 127, .len (.tmp 126), none⟩ [126] 0 [], .mk ⟨some 128, .bin .sub (.tmp 127) (.const (.int .i64 1)), none⟩ [127] 0 [], .mk ⟨some 129, .idxA 1 (.tmp 125) (.tmp 128), none⟩ [125, 128] 0 [], .mk ⟨some 130, .ld none (.tmp 129), none⟩ [129] 1 [0], .mk ⟨some 131, .conv .i64 (.tmp 130), none⟩ [130] 0 [], .mk ⟨some 132, .bin .neq (.tmp 124) (.tmp 131), none⟩ [124, 131] 0 []] [0, 2, 12, 132]) (.cond (.tmp 132) (.seq (.ops [⟨some 133, .build [.int .i64 0, .slice none 0 0] [], none⟩, ⟨none, .st 2 (.tmp 2) (.tmp 133), none⟩, ⟨some 3, .mov (.const (.int .i64 12)), none⟩] [2, 3]) .ret) .skip)) (.seq (.ops [⟨some 134, .mov (.tmp 0), none⟩, ⟨some 135, .nilck (.tmp 134), none⟩, ⟨some 136, .fldA 2 (.tmp 135), none⟩, ⟨some 137, .ld none (.tmp 136), none⟩, ⟨some 138, .mov (.tmp 12), none⟩, ⟨some 139, .build [.int .i64 0, .slice none 0 0] [(0, 1, .tmp 137), (1, 1, .tmp 138)], none⟩, ⟨none, .st 2 (.tmp 2) (.tmp 139), none⟩, ⟨some 3, .mov (.const (.int .i64 0)), none⟩] [2, 3]) .ret)))))))))))) [.cell 2 (some 2), .tmp 3]
theorem xtape_reader_block_ok : cFunc Try.prog Try.f72 [[0,2],[0,2,23],[2,3],[0,2,4],[0,2,4,38,39,40],[0,2,4,38,39,40,41],[0,2,4,6,38,39,40],[0,2,4,38,39,40],[0,2,4,38,39,40],[0,2],[0,2,66],[2,3],[0,2,68],[0,2,68,69],[0,2,68,73],[2,3],[0,2,68],[0,2,79],[2,3],[0,2,7],[0,2,7,8,9],[0,2,7,8,9,83],[0,2,7,8,9,10,11],[0,2,7,8,9,10,11,92],[2,3],[0,2,7,8,9],[0,2,7,8,9,101],[0,2,7,8,9],[0,2,7,8,9,114],[2,3],[0,2,7,8,9],[0,2,7,12],[0,2,12,132],[2,3],[2,3]] = some xtape_reader_block := by kernel_rfl
def xslices_EqualFunc_Stape_Block_Stape_Block_tape_Block_tape_Block_l0 : XCode := .seq (.ops [⟨some 18, .bin .lss (.tmp 17) (.tmp 16), none⟩] [1, 2, 15, 16, 17, 18]) (.seq (.cond (.tmp 18) .skip (.exit 0)) (.seq (.block 1 (.seq (.ops [⟨some 19, .mov (.tmp 17), none⟩, ⟨some 20, .idxA 2 (.tmp 15) (.tmp 17), none⟩, ⟨some 21, .ld (some 2) (.tmp 20), none⟩, ⟨some 8, .new 47 1 [.int .i64 0, .slice none 0 0], none⟩, ⟨some 7, .mov (.tmp 19), none⟩, ⟨none, .st 2 (.tmp 8) (.tmp 21), none⟩] [1, 2, 7, 8, 15, 16, 17]) (.seq (.ops [⟨some 22, .mov (.tmp 1), none⟩, ⟨some 23, .mov (.tmp 7), none⟩, ⟨some 24, .idxA 2 (.tmp 22) (.tmp 23), none⟩, ⟨some 25, .ld (some 2) (.tmp 24), none⟩, ⟨some 9, .new 47 1 [.int .i64 0, .slice none 0 0], none⟩, ⟨none, .st 2 (.tmp 9) (.tmp 25), none⟩] [1, 2, 8, 9, 15, 16, 17]) (.seq (.ops [⟨some 26, .mov (.tmp 2), none⟩, ⟨some 27, .ld (some 2) (.tmp 8), none⟩, ⟨some 28, .ld (some 2) (.tmp 9), none⟩, ⟨some 29, .callv (.tmp 26) [.tmp 27, .tmp 28], none⟩, ⟨some 30, .flat (.unOp .not 4 (.tmp 29)) 4, none⟩] [1, 2, 15, 16, 17, 30]) (.cond (.tmp 30) (.seq (.ops [⟨some 6, .mov (.const (.bool false)), none⟩] [6]) .ret) .skip))))) (.ops [⟨some 31, .bin .add (.tmp 17) (.const (.int .i64 1)), none⟩, ⟨some 17, .mov (.tmp 31), none⟩] [1, 2, 15, 16, 17])))
/-- slices.EqualFunc[[]bakelite/tape.Block,[]bakelite/tape.Block,bakelite/tape.Block,bakelite/tape.Block] -/
def xslices_EqualFunc_Stape_Block_Stape_Block_tape_Block_tape_Block : XFunc := .code (.seq (.ops [⟨some 6, .mov (.const (.bool false)), none⟩] [0, 1, 2]) (.seq (.seq (.ops [⟨some 10, .mov (.tmp 0), none⟩, ⟨some 11, .len (.tmp 10), none⟩, ⟨some 12, .mov (.tmp 1), none⟩, ⟨some 13, .len (.tmp 12), none⟩, ⟨some 14, .bin .neq (.tmp 11) (.tmp 13), none⟩] [0, 1, 2, 14]) (.cond (.tmp 14) (.seq (.ops [⟨some 6, .mov (.const (.bool false)), none⟩] [6]) .ret) .skip)) (.seq (.seq (.ops [⟨some 15, .mov (.tmp 0), none⟩, ⟨some 16, .len (.tmp 15), none⟩, ⟨some 17, .mov (.const (.int .i64 0)), none⟩] [1, 2, 15, 16, 17]) (.block 0 (.loop xslices_EqualFunc_Stape_Block_Stape_Block_tape_Block_tape_Block_l0))) (.seq (.ops [⟨some 6, .mov (.const (.bool true)), none⟩] [6]) .ret)))) [.tmp 6]
theorem xslices_EqualFunc_Stape_Block_Stape_Block_tape_Block_tape_Block_ok : cFunc Try.prog Try.f73 [[0,1,2],[0,1,2,14],[6],[1,2,15,16,17],[1,2,15,16,17,18],[1,2,7,8,15,16,17],[1,2,8,9,15,16,17],[1,2,15,16,17,30],[6],[1,2,15,16,17],[6]] = some xslices_EqualFunc_Stape_Block_Stape_Block_tape_Block_tape_Block := by kernel_rfl
/-- bakelite/bakekeep2.sameBlocks$1 -/
def xbakekeep2_sameBlocks_1 : XFunc := .code (.seq (.ops [⟨some 3, .box 47 1 (.tmp 0), none⟩, ⟨some 4, .box 47 1 (.tmp 1), none⟩, ⟨some 5, .mov (.const (.bool false)), none⟩] [2, 3, 4]) (.seq (.ops [⟨some 6, .ld none (.tmp 2), none⟩, ⟨some 7, .fldA 0 (.tmp 3), none⟩, ⟨some 8, .ld none (.tmp 7), none⟩, ⟨some 9, .bin .mul (.tmp 6) (.tmp 8), none⟩, ⟨some 10, .fldA 0 (.tmp 4), none⟩, ⟨some 11, .ld none (.tmp 10), none⟩, ⟨some 12, .bin .eql (.tmp 9) (.tmp 11), none⟩, ⟨some 13, .mov (.tmp 12), none⟩, ⟨some 14, .fldA 1 (.tmp 3), some (13, true)⟩, ⟨some 15, .ld none (.tmp 14), some (13, true)⟩, ⟨some 16, .fldA 1 (.tmp 4), some (13, true)⟩, ⟨some 17, .ld none (.tmp 16), some (13, true)⟩, ⟨some 18, .call 18 [.tmp 15, .tmp 17], some (13, true)⟩, ⟨some 19, .pick (.tmp 13) (.tmp 18) (.const (.bool false)), none⟩, ⟨some 5, .mov (.tmp 19), none⟩] [5]) .ret)) [.tmp 5]
theorem xbakekeep2_sameBlocks_1_ok : cFunc Try.prog Try.f74 [[2,3,4],[5]] = some xbakekeep2_sameBlocks_1 := by kernel_rfl
/-- bakelite/tape.is -/
def xtape_is : XFunc := .code (.seq (.ops [⟨some 4, .mov (.const (.bool false)), none⟩] [0, 1]) (.seq (.ops [⟨some 5, .mov (.tmp 0), none⟩, ⟨some 6, .bin .mul (.const (.int .i64 4)) (.tmp 5), none⟩, ⟨some 7, .mov (.tmp 1), none⟩, ⟨some 8, .bin .mul (.const (.int .i64 3)) (.tmp 7), none⟩, ⟨some 9, .bin .geq (.tmp 6) (.tmp 8), none⟩, ⟨some 10, .mov (.tmp 9), none⟩, ⟨some 11, .mov (.tmp 0), some (10, true)⟩, ⟨some 12, .bin .mul (.const (.int .i64 4)) (.tmp 11), some (10, true)⟩, ⟨some 13, .mov (.tmp 1), some (10, true)⟩, ⟨some 14, .bin .mul (.const (.int .i64 5)) (.tmp 13), some (10, true)⟩, ⟨some 15, .bin .leq (.tmp 12) (.tmp 14), some (10, true)⟩, ⟨some 16, .pick (.tmp 10) (.tmp 15) (.const (.bool false)), none⟩, ⟨some 4, .mov (.tmp 16), none⟩] [4]) .ret)) [.tmp 4]
theorem xtape_is_ok : cFunc Try.prog Try.f114 [[0,1],[4]] = some xtape_is := by kernel_rfl
/-- (*bakelite/tape.reader).pulse -/
def xtape_reader_pulse : XFunc := .code (.seq (.ops [⟨some 2, .mov (.const (.int .i64 0)), none⟩] [0]) (.seq (.ops [⟨some 3, .mov (.tmp 0), none⟩, ⟨some 4, .nilck (.tmp 3), none⟩, ⟨some 5, .fldA 1 (.tmp 4), none⟩, ⟨some 6, .ld none (.tmp 5), none⟩, ⟨some 7, .bin .add (.tmp 6) (.const (.int .i64 1)), none⟩, ⟨some 8, .nilck (.tmp 3), none⟩, ⟨some 9, .fldA 1 (.tmp 8), none⟩, ⟨none, .st 1 (.tmp 9) (.tmp 7), none⟩] [0]) (.seq (.dops [.mk ⟨some 10, .mov (.tmp 0), none⟩ [0] 0 [], .mk ⟨some 11, .nilck (.tmp 10), none⟩ [10] 0 [], .mk ⟨some 12, .fldA 0 (.tmp 11), none⟩ [11] 0 [], .mk ⟨some 13, .ld none (.tmp 12), none⟩ [12] 1 [], .mk ⟨some 14, .mov (.tmp 0), none⟩ [0] 0 [], .mk ⟨some 15, .nilck (.tmp 14), none⟩ [14] 0 [], .mk ⟨some 16, .fldA 1 (.tmp 15), none⟩ [15] 0 [], .mk ⟨some 17, .ld none (.tmp 16), none⟩ [16] 1 [], .mk ⟨some 18, .bin .sub (.tmp 17) (.const (.int .i64 1)), none⟩ [17] 0 [], .mk ⟨some 19, .idxA 1 (.tmp 13) (.tmp 18), none⟩ [13, 18] 0 [], .mk ⟨some 20, .ld none (.tmp 19), none⟩ [19] 1 [], .mk ⟨some 21, .bin .mul (.const (.int .i64 2)) (.tmp 20), none⟩ [20] 0 [], .mk ⟨some 22, .mov (.tmp 0), none⟩ [0] 0 [], .mk ⟨some 23, .nilck (.tmp 22), none⟩ [22] 0 [], .mk ⟨some 24, .fldA 2 (.tmp 23), none⟩ [23] 0 [], .mk ⟨some 25, .ld none (.tmp 24), none⟩ [24] 1 [], .mk ⟨some 26, .bin .add (.tmp 21) (.tmp 25), none⟩ [21, 25] 0 [], .mk ⟨some 27, .mov (.tmp 0), none⟩ [0] 0 [], .mk ⟨some 28, .nilck (.tmp 27), none⟩ [27] 0 [], .mk ⟨some 29, .fldA 2 (.tmp 28), none⟩ [28] 0 [], .mk ⟨some 30, .ld none (.tmp 29), none⟩ [29] 1 [], .mk ⟨some 31, .bin .mul (.const (.int .i64 2)) (.tmp 30), none⟩ [30] 0 [], .mk ⟨some 32, .bin .quo (.tmp 26) (.tmp 31), none⟩ [26, 31] 0 [], .mk ⟨some 2, .mov (.tmp 32), none⟩ [32] 0 []] [2]) .ret))) [.tmp 2]
theorem xtape_reader_pulse_ok : cFunc Try.prog Try.f115 [[0],[0],[2]] = some xtape_reader_pulse := by kernel_rfl
def xtape_reader_byte_l0 : XCode := .seq (.ops [⟨some 8, .bin .lss (.tmp 7) (.const (.int .i64 8)), none⟩] [0, 4, 7, 8]) (.seq (.cond (.tmp 8) .skip (.exit 0)) (.seq (.block 1 (.seq (.ops [⟨some 10, .mov (.tmp 0), none⟩, ⟨some 11, .call 134 [.tmp 10], none⟩, ⟨some 9, .mov (.tmp 11), none⟩, ⟨some 12, .ext (.tmp 9) 0, none⟩, ⟨some 13, .ext (.tmp 9) 1, none⟩, ⟨some 5, .mov (.tmp 12), none⟩, ⟨some 6, .mov (.tmp 13), none⟩] [0, 4, 5, 6, 7]) (.seq (.seq (.ops [⟨some 14, .mov (.tmp 6), none⟩, ⟨some 15, .bin .neq (.tmp 14) (.const (.int .i64 0)), none⟩] [0, 4, 5, 6, 7, 15]) (.cond (.tmp 15) (.seq (.ops [⟨some 16, .mov (.tmp 6), none⟩, ⟨some 2, .mov (.const (.int .i64 0)), none⟩, ⟨some 3, .mov (.tmp 16), none⟩] [2, 3]) .ret) .skip)) (.ops [⟨some 17, .mov (.tmp 4), none⟩, ⟨some 18, .bin .mul (.const (.int .i64 2)) (.tmp 17), none⟩, ⟨some 19, .mov (.tmp 5), none⟩, ⟨some 20, .bin .add (.tmp 18) (.tmp 19), none⟩, ⟨some 4, .mov (.tmp 20), none⟩] [0, 4, 7])))) (.ops [⟨some 21, .bin .add (.tmp 7) (.const (.int .i64 1)), none⟩, ⟨some 7, .mov (.tmp 21), none⟩] [0, 4, 7])))
/-- (*bakelite/tape.reader).byte -/
def xtape_reader_byte : XFunc := .code (.seq (.ops [⟨some 2, .mov (.const (.int .i64 0)), none⟩, ⟨some 3, .mov (.const (.int .i64 0)), none⟩] [0]) (.seq (.ops [⟨some 4, .mov (.const (.int .i64 0)), none⟩] [0, 4]) (.seq (.seq (.ops [⟨some 7, .mov (.const (.int .i64 0)), none⟩] [0, 4, 7]) (.block 0 (.loop xtape_reader_byte_l0))) (.seq (.ops [⟨some 22, .mov (.tmp 4), none⟩, ⟨some 2, .mov (.tmp 22), none⟩, ⟨some 3, .mov (.const (.int .i64 0)), none⟩] [2, 3]) .ret)))) [.tmp 2, .tmp 3]
theorem xtape_reader_byte_ok : cFunc Try.prog Try.f116 [[0],[0,4],[0,4,7],[0,4,7,8],[0,4,5,6,7],[0,4,5,6,7,15],[2,3],[0,4,7],[0,4,7],[2,3]] = some xtape_reader_byte := by kernel_rfl
/-- (*bakelite/tape.reader).bit -/
def xtape_reader_bit : XFunc := .code (.seq (.ops [⟨some 2, .mov (.const (.int .i64 0)), none⟩, ⟨some 3, .mov (.const (.int .i64 0)), none⟩] [0]) (.seq (.seq (.dops [.mk ⟨some 6, .mov (.tmp 0), none⟩ [0] 0 [], .mk ⟨some 7, .nilck (.tmp 6), none⟩ [6] 0 [], .mk ⟨some 8, .fldA 0 (.tmp 7), none⟩ [7] 0 [], .mk ⟨some 9, .ld none (.tmp 8), none⟩ [8] 1 [], .mk ⟨some 10, .len (.tmp 9), none⟩ [9] 0 [], .mk ⟨some 11, .mov (.tmp 0), none⟩ [0] 0 [], .mk ⟨some 12, .nilck (.tmp 11), none⟩ [11] 0 [], .mk ⟨some 13, .fldA 1 (.tmp 12), none⟩ [12] 0 [], .mk ⟨some 14, .ld none (.tmp 13), none⟩ [13] 1 [], .mk ⟨some 15, .bin .sub (.tmp 10) (.tmp 14), none⟩ [10, 14] 0 [], .mk ⟨some 16, .bin .lss (.tmp 15) (.const (.int .i64 2)), none⟩ [15] 0 []] [0, 16]) (.cond (.tmp 16) (.seq (.ops [⟨some 2, .mov (.const (.int .i64 0)), none⟩, ⟨some 3, .mov (.const (.int .i64 13)), none⟩] [2, 3]) .ret) .skip)) (.seq (.ops [⟨some 17, .mov (.tmp 0), none⟩, ⟨some 18, .call 115 [.tmp 17], none⟩, ⟨some 19, .mov (.tmp 0), none⟩, ⟨some 20, .call 115 [.tmp 19], none⟩, ⟨some 4, .mov (.tmp 18), none⟩, ⟨some 5, .mov (.tmp 20), none⟩] [4, 5]) (.seq (.block 0 (.seq (.ops [⟨some 22, .mov (.tmp 4), none⟩, ⟨some 23, .call 114 [.tmp 22, .const (.int .i64 2)], none⟩, ⟨some 24, .mov (.tmp 23), none⟩, ⟨some 25, .mov (.tmp 5), some (24, true)⟩, ⟨some 26, .call 114 [.tmp 25, .const (.int .i64 2)], some (24, true)⟩, ⟨some 27, .pick (.tmp 24) (.tmp 26) (.const (.bool false)), none⟩, ⟨some 21, .mov (.tmp 27), none⟩] [4, 5, 21]) (.cond (.tmp 21) (.seq (.ops [⟨some 2, .mov (.const (.int .i64 0)), none⟩, ⟨some 3, .mov (.const (.int .i64 0)), none⟩] [2, 3]) .ret) (.seq (.ops [⟨some 29, .mov (.tmp 4), none⟩, ⟨some 30, .call 114 [.tmp 29, .const (.int .i64 4)], none⟩, ⟨some 31, .mov (.tmp 30), none⟩, ⟨some 32, .mov (.tmp 5), some (31, true)⟩, ⟨some 33, .call 114 [.tmp 32, .const (.int .i64 4)], some (31, true)⟩, ⟨some 34, .pick (.tmp 31) (.tmp 33) (.const (.bool false)), none⟩, ⟨some 28, .mov (.tmp 34), none⟩] [28]) (.cond (.tmp 28) (.seq (.ops [⟨some 2, .mov (.const (.int .i64 1)), none⟩, ⟨some 3, .mov (.const (.int .i64 0)), none⟩] [2, 3]) .ret) .skip))))) (.seq (.ops [⟨some 2, .mov (.const (.int .i64 0)), none⟩, ⟨some 3, .mov (.const (.int .i64 18)), none⟩] [2, 3]) .ret))))) [.tmp 2, .tmp 3]
theorem xtape_reader_bit_ok : cFunc Try.prog Try.f134 [[0],[0,16],[2,3],[4,5],[4,5,21],[2,3],[28],[2,3],[2,3]] = some xtape_reader_bit := by kernel_rfl
def tab : XTab := fun n => (bif Nat.blt n 68 then (bif Nat.blt n 24 then (bif Nat.blt n 18 then (bif Nat.blt n 14 then (bif Nat.beq n 4 then some xbakekeep2_TapeBack else none) else (bif Nat.beq n 14 then some xbakemake_Below else none)) else (bif Nat.blt n 22 then (bif Nat.beq n 18 then some xslices_Equal_Sbyte_byte else none) else (bif Nat.blt n 23 then (bif Nat.beq n 22 then some xbakekeep2_blocks else none) else (bif Nat.beq n 23 then some xtape_Write else none)))) else (bif Nat.blt n 27 then (bif Nat.blt n 25 then (bif Nat.beq n 24 then some xflux_Speed else none) else (bif Nat.blt n 26 then (bif Nat.beq n 25 then some xtape_Read else none) else (bif Nat.beq n 26 then some xbakekeep2_sameBlocks else none))) else (bif Nat.blt n 65 then (bif Nat.beq n 27 then some xflux_Shake else none) else (bif Nat.blt n 67 then (bif Nat.beq n 65 then some xflux_Check else none) else (bif Nat.beq n 67 then some xbakemake_Stream_Next else none))))) else (bif Nat.blt n 73 then (bif Nat.blt n 70 then (bif Nat.blt n 69 then (bif Nat.beq n 68 then some xtape_Check else none) else (bif Nat.beq n 69 then some xcrc_Xor else none)) else (bif Nat.blt n 71 then (bif Nat.beq n 70 then some xflux_Marks else none) else (bif Nat.blt n 72 then (bif Nat.beq n 71 then some xflux_Of else none) else (bif Nat.beq n 72 then some xtape_reader_block else none)))) else (bif Nat.blt n 115 then (bif Nat.blt n 74 then (bif Nat.beq n 73 then some xslices_EqualFunc_Stape_Block_Stape_Block_tape_Block_tape_Block else none) else (bif Nat.blt n 114 then (bif Nat.beq n 74 then some xbakekeep2_sameBlocks_1 else none) else (bif Nat.beq n 114 then some xtape_is else none))) else (bif Nat.blt n 116 then (bif Nat.beq n 115 then some xtape_reader_pulse else none) else (bif Nat.blt n 134 then (bif Nat.beq n 116 then some xtape_reader_byte else none) else (bif Nat.beq n 134 then some xtape_reader_bit else none))))))
theorem tab_ok : ∀ n x, tab n = some x → FMatch Try.prog n x := by
  intro n x h
  unfold tab at h
  rcases two_ok h with h | h
  · rcases two_ok h with h | h
    · rcases two_ok h with h | h
      · rcases two_ok h with h | h
        · exact one_ok (f := n) (x := x) h (fun h2 h3 => by subst h2 h3; exact ⟨Try.f4, [[0,1,2],[1,2,7],[1,2,7,8,9],[1,2,7,8,9],[1,2,7,8,9,10,11],[1,2,7,8,9,11,12,13,14],[1,7,8,77],[6],[1,7,8,15],[1,7,8,15,78,79,80],[1,7,8,15,78,79,80,81],[1,7,8,15,17,78,79,80],[1,7,8,15,78,79,80],[1,7,8,15,78,79,80],[1,7,8,15,18],[7,8,15,18,89,90,91],[7,8,15,18,89,90,91,92],[7,8,15,18,20,89,90,91],[7,8,15,18,89,90,91],[7,8,15,18,89,90,91],[7,21,22],[7,13,22,23,24],[7,13,22,23,24,25,26],[6]], Try.func4, xbakekeep2_TapeBack_ok⟩)
        · exact one_ok (f := n) (x := x) h (fun h2 h3 => by subst h2 h3; exact ⟨Try.f14, [[0,1],[0,1],[0,1,9],[0],[4]], Try.func14, xbakemake_Below_ok⟩)
      · rcases two_ok h with h | h
        · exact one_ok (f := n) (x := x) h (fun h2 h3 => by subst h2 h3; exact ⟨Try.f18, [[0,1],[0,1,10],[4],[0,1,12,13],[0,1,12,13,14],[0,1,5,12,13],[0,1,12,13,24],[4],[0,1,12,13],[4]], Try.func18, xslices_Equal_Sbyte_byte_ok⟩)
        · rcases two_ok h with h | h
          · exact one_ok (f := n) (x := x) h (fun h2 h3 => by subst h2 h3; exact ⟨Try.f22, [[0],[3],[3,4],[3,4,11,12],[3,4,11,12,13],[3,4,5,11,12],[3,4,5,11,12,23,24],[3,4,5,11,12,23,24,25],[3,4,5,6,11,12,23,24],[3,4,5,11,12,23,24],[3,4,5,11,12,23,24],[3,4,11,12],[3,4,11,12],[2]], Try.func22, xbakekeep2_blocks_ok⟩)
          · exact one_ok (f := n) (x := x) h (fun h2 h3 => by subst h2 h3; exact ⟨Try.f23, [[0],[0,4],[0,4,15],[2,3],[0,5],[5,17,18,19],[5,17,18,19,20],[5,7,17,18,19],[5,7,17,18,19,23],[5,7,17,18,19,23,24],[5,7,17,18,19,23],[5,7,17,18,19,23],[5,7,17,18,19],[5,7,17,18,19,56,57,58],[5,7,17,18,19,56,57,58,59],[5,7,9,17,18,19,56,57,58],[5,7,9,10,17,18,19,56,57,58],[5,7,9,10,17,18,19,56,57,58,63],[5,7,9,10,11,17,18,19,56,57,58],[5,7,9,10,11,17,18,19,56,57,58,73],[5,7,9,10,11,17,18,19,56,57,58],[5,7,9,10,17,18,19,56,57,58],[5,7,9,10,17,18,19,56,57,58],[5,7,17,18,19,56,57,58],[5,17,18,19],[2,3]], Try.func23, xtape_Write_ok⟩)
    · rcases two_ok h with h | h
      · rcases two_ok h with h | h
        · exact one_ok (f := n) (x := x) h (fun h2 h3 => by subst h2 h3; exact ⟨Try.f24, [[0,1,2],[1,2,8,9],[1,2,8,9,17],[6,7],[1,2,8,32],[6,7],[1,2,8,34,35],[1,2,8,34,35,36],[1,2,8,10,34,35],[1,2,8,34,35],[1,2,8,34,35],[6,7]], Try.func24, xflux_Speed_ok⟩)
        · rcases two_ok h with h | h
          · exact one_ok (f := n) (x := x) h (fun h2 h3 => by subst h2 h3; exact ⟨Try.f25, [[0],[0,5],[0,5,13],[2,3,4],[0,6],[0,6,7],[0,6,7,24],[0,6,7,8,9],[0,6,7,8,9,31],[2,3,4],[0,6,7],[0,6,7,40],[2,3,4],[2,3,4]], Try.func25, xtape_Read_ok⟩)
          · exact one_ok (f := n) (x := x) h (fun h2 h3 => by subst h2 h3; exact ⟨Try.f26, [[0,1,5],[6]], Try.func26, xbakekeep2_sameBlocks_ok⟩)
      · rcases two_ok h with h | h
        · exact one_ok (f := n) (x := x) h (fun h2 h3 => by subst h2 h3; exact ⟨Try.f27, [[0,1,2],[1,2,8,9],[1,2,8,9,17],[6,7],[1,2,8,24],[6,7],[1,2,8,26,27],[1,2,8,26,27,28],[1,2,8,10,26,27],[1,2,8,10,26,27,32],[1,2,8,26,27],[1,2,8,26,27],[6,7]], Try.func27, xflux_Shake_ok⟩)
        · rcases two_ok h with h | h
          · exact one_ok (f := n) (x := x) h (fun h2 h3 => by subst h2 h3; exact ⟨Try.f65, [[0],[0,7],[2],[8,9,10],[8,9,10,11],[4,8,9,10],[8,9,10,19],[2],[8,9,10],[2]], Try.func65, xflux_Check_ok⟩)
          · exact one_ok (f := n) (x := x) h (fun h2 h3 => by subst h2 h3; exact ⟨Try.f67, [[0,1],[0,1,15],[4],[0,1,5],[1,5],[4]], Try.func67, xbakemake_Stream_Next_ok⟩)
  · rcases two_ok h with h | h
    · rcases two_ok h with h | h
      · rcases two_ok h with h | h
        · exact one_ok (f := n) (x := x) h (fun h2 h3 => by subst h2 h3; exact ⟨Try.f68, [[0],[0,7],[2],[8,9,10],[8,9,10,11],[4,8,9,10],[4,8,9,10,17],[2],[8,9,10,25],[2],[8,9,10],[2]], Try.func68, xtape_Check_ok⟩)
        · exact one_ok (f := n) (x := x) h (fun h2 h3 => by subst h2 h3; exact ⟨Try.f69, [[0],[0,3],[3,6,7,8],[3,6,7,8,9],[3,5,6,7,8],[3,6,7,8],[3,6,7,8],[2]], Try.func69, xcrc_Xor_ok⟩)
      · rcases two_ok h with h | h
        · exact one_ok (f := n) (x := x) h (fun h2 h3 => by subst h2 h3; exact ⟨Try.f70, [[0],[0,4],[0,4,12],[2,3],[0,5],[0,5,6],[5,6,14,15,16],[5,6,14,15,16,17],[5,6,8,14,15,16],[5,6,14,15,16],[5,6,14,15,16],[5,6,14,15,16],[2,3]], Try.func70, xflux_Marks_ok⟩)
        · rcases two_ok h with h | h
          · exact one_ok (f := n) (x := x) h (fun h2 h3 => by subst h2 h3; exact ⟨Try.f71, [[0],[0,10],[2,3],[0,4],[0,4,5],[4,5,11,12,13],[4,5,11,12,13,14],[4,5,7,11,12,13],[4,5,7,11,12,13,19],[2,3],[4,5,7,11,12,13,23],[2,3],[4,5,11,12,13],[4,5,11,12,13],[2,3]], Try.func71, xflux_Of_ok⟩)
          · exact one_ok (f := n) (x := x) h (fun h2 h3 => by subst h2 h3; exact ⟨Try.f72, [[0,2],[0,2,23],[2,3],[0,2,4],[0,2,4,38,39,40],[0,2,4,38,39,40,41],[0,2,4,6,38,39,40],[0,2,4,38,39,40],[0,2,4,38,39,40],[0,2],[0,2,66],[2,3],[0,2,68],[0,2,68,69],[0,2,68,73],[2,3],[0,2,68],[0,2,79],[2,3],[0,2,7],[0,2,7,8,9],[0,2,7,8,9,83],[0,2,7,8,9,10,11],[0,2,7,8,9,10,11,92],[2,3],[0,2,7,8,9],[0,2,7,8,9,101],[0,2,7,8,9],[0,2,7,8,9,114],[2,3],[0,2,7,8,9],[0,2,7,12],[0,2,12,132],[2,3],[2,3]], Try.func72, xtape_reader_block_ok⟩)
    · rcases two_ok h with h | h
      · rcases two_ok h with h | h
        · exact one_ok (f := n) (x := x) h (fun h2 h3 => by subst h2 h3; exact ⟨Try.f73, [[0,1,2],[0,1,2,14],[6],[1,2,15,16,17],[1,2,15,16,17,18],[1,2,7,8,15,16,17],[1,2,8,9,15,16,17],[1,2,15,16,17,30],[6],[1,2,15,16,17],[6]], Try.func73, xslices_EqualFunc_Stape_Block_Stape_Block_tape_Block_tape_Block_ok⟩)
        · rcases two_ok h with h | h
          · exact one_ok (f := n) (x := x) h (fun h2 h3 => by subst h2 h3; exact ⟨Try.f74, [[2,3,4],[5]], Try.func74, xbakekeep2_sameBlocks_1_ok⟩)
          · exact one_ok (f := n) (x := x) h (fun h2 h3 => by subst h2 h3; exact ⟨Try.f114, [[0,1],[4]], Try.func114, xtape_is_ok⟩)
      · rcases two_ok h with h | h
        · exact one_ok (f := n) (x := x) h (fun h2 h3 => by subst h2 h3; exact ⟨Try.f115, [[0],[0],[2]], Try.func115, xtape_reader_pulse_ok⟩)
        · rcases two_ok h with h | h
          · exact one_ok (f := n) (x := x) h (fun h2 h3 => by subst h2 h3; exact ⟨Try.f116, [[0],[0,4],[0,4,7],[0,4,7,8],[0,4,5,6,7],[0,4,5,6,7,15],[2,3],[0,4,7],[0,4,7],[2,3]], Try.func116, xtape_reader_byte_ok⟩)
          · exact one_ok (f := n) (x := x) h (fun h2 h3 => by subst h2 h3; exact ⟨Try.f134, [[0],[0,16],[2,3],[4,5],[4,5,21],[2,3],[28],[2,3],[2,3]], Try.func134, xtape_reader_bit_ok⟩)
end Go.Proofs.Ytejedmocjdcdgaa.D

set_option linter.unusedSimpArgs false
set_option linter.unusedVariables false
namespace Go.Proofs.Ytejedmocjdcdgaa.D
open Go Go.Det

/-- The running sums of a list. -/
def sums : Int → List Int → List Int
  | _, [] => []
  | a, p :: t => (a + p) :: sums (a + p) t
/-- The differences of a list. -/
def difs : Int → List Int → List Int
  | _, [] => []
  | a, x :: t => (x - a) :: difs x t
theorem sums_len (t : List Int) : ∀ a, (sums a t).length = t.length := by
  induction t with
  | nil => intro a; rfl
  | cons p t ih => intro a; simp [sums, ih]
theorem difs_len (t : List Int) : ∀ a, (difs a t).length = t.length := by
  induction t with
  | nil => intro a; rfl
  | cons p t ih => intro a; simp [difs, ih]
theorem difs_sums (t : List Int) : ∀ a, difs a (sums a t) = t := by
  induction t with
  | nil => intro a; rfl
  | cons p t ih => intro a; simp only [sums, difs, ih]; rw [Int.add_comm a p, Int.add_sub_cancel]
theorem sums_difs (t : List Int) : ∀ a, sums a (difs a t) = t := by
  induction t with
  | nil => intro a; rfl
  | cons p t ih =>
    intro a
    simp only [sums, difs]
    have : a + (p - a) = p := by omega
    rw [this, ih]
/-- Times that a track may have. -/
def Ok (t : List Int) : Prop := ∀ p ∈ t, 1 ≤ p ∧ p ≤ 100000
/-- The track of raw numbers. -/
def trk (l : List Int) : List Int := (l.take 1000).map fun x => 8 + x % 300
theorem trk_len (l : List Int) : (trk l).length ≤ 1000 := by simp [trk]; omega
theorem trk_ok (l : List Int) : ∀ p ∈ trk l, 8 ≤ p ∧ p ≤ 307 := by
  intro p hp
  simp only [trk, List.mem_map] at hp
  obtain ⟨x, _, rfl⟩ := hp
  omega
theorem sums_bnd (t : List Int) : ∀ a, 0 ≤ a → Ok t → ∀ x ∈ sums a t, 0 ≤ x ∧ x ≤ a + 100000 * (t.length : Int) := by
  induction t with
  | nil => intro a _ _ x hx; simp [sums] at hx
  | cons p t ih =>
    intro a h0 h x hx
    have hp := h p (by simp)
    simp only [sums, List.mem_cons] at hx
    simp only [List.length_cons]
    rcases hx with rfl | hx
    · omega
    · have := ih (a + p) (by omega) (fun q hq => h q (by simp [hq])) x hx
      omega
theorem app1 (pre : List Int) (a : Int) (rest : List Int) : pre ++ a :: rest = (pre ++ [a]) ++ rest := by simp
theorem below_xc' (a b : Int) (H : AH) (hb : 0 < b) (hb' : b < 4611686018427387904) : xc Try.prog tab 14 [.int .i64 a, .int .i64 b] H = some (.int .i64 (a % b), H) := by
  have go : Got (xc Try.prog tab 14 [.int .i64 a, .int .i64 b] H) fun v H' => v = .int .i64 (a % b) ∧ H' = H := by
    refine got_call (res := [.tmp 4]) rfl ?_
    have hb0 : ¬ b = 0 := by omega
    have h1 := Int.tmod_lt_of_pos a hb
    have h2 : -b < Int.tmod a b := by
      have := Int.lt_tmod_of_pos a hb; simpa using this
    have e : a % b = if Int.tmod a b < 0 then Int.tmod a b + b else Int.tmod a b := by
      have h3 : a = b * Int.tdiv a b + Int.tmod a b := (Int.mul_tdiv_add_tmod a b).symm
      have h4 : a % b = Int.tmod a b % b := by
        conv => lhs; rw [h3]
        rw [Int.mul_add_emod_self_left]
      rw [h4]
      split
      · rw [← Int.add_emod_right, Int.emod_eq_of_lt (by omega) (by omega)]
      · rw [Int.emod_eq_of_lt (by omega) (by omega)]
    simp only [ofArgs, run_seq, run_block, run_ops, run_skip, run_exit, run_ret, thenQ_normal, thenQ_exit, thenQ_ret, blockQ_normal, blockQ_exit, blockQ_ret, retQ_ret, retQ_normal, ops_nil, ops_none, got_some, ops_wT, ops_wTn, ops_wF, ops_wFn, ops_wU, dops_wT, dops_wTn, dops_wF, dops_wFn, dops_wU, run_condT, run_condF, alt2_int, altB_bool, altI_int, altBB_bool, v_min, v_max, v_not, v_neg, optEv_none, optEv_some, isSome'_none, isSome'_some, pExt0, pExt1, pExt2, Bool.false_and, Bool.true_and, Bool.not_true, Bool.not_false, cond_true, cond_false, dops_nil, dops_none, xval_call, v_mov, v_bin, v_len, v_ext, v_idxA, v_ld, v_st, v_app, v_appN, v_cvs, v_bs1, pBs1, v_slc, v_conv, v_fld, v_fldA, v_new, v_box, v_mks, v_copy, v_isnil, v_nilck, v_pick, ev, evs_nil, evs_cons, fr_get_cons, fr_put_nil, fr_put_cons, fr_put_some, fr_put_none, fr_keep_nil, fr_keep_cons, fr_has_nil, fr_has_cons, Option.bind_some, Option.map_some, xbin, ibin, xresult_eq, xress_nil, xress_tmp, resV, ex_some, if_true, if_false, ite_true, ite_false, reduceIte, reduceCtorEq, Nat.reduceEqDiff, Nat.reduceLT, Nat.reduceLeDiff, Int.reduceLT, Int.reduceLE, Nat.zero_add, Nat.reduceAdd, Bool.false_eq_true, decide_eq_true_eq, decide_eq_false_iff_not, true_implies, false_implies, and_true, true_and, run_cond, cond_some, hb0]
    refine ⟨fun h => ?_, fun h => ?_⟩
    · rw [wrI _ (by omega) (by omega), e, if_pos h]
    · rw [e, if_neg h]
  obtain ⟨v, H', h, rfl, rfl⟩ := go
  exact h
theorem below_xc (a b : Int) (H : AH) (hb : 0 < b) (hb' : b < 1000000) : xc Try.prog tab 14 [.int .i64 a, .int .i64 b] H = some (.int .i64 (a % b), H) := below_xc' a b H hb (by omega)

theorem check_l0 (s : Value) (H : AH) (rest : List Int) : ∀ (pre : List Int) (i N : Int) (Q : XExit → Fr → AH → Prop), Ints H s (pre ++ rest) → pre.length + rest.length ≤ 40000 → Ok rest → i = (pre.length : Int) → N = ((pre ++ rest).length : Int) →
    Q (.exit 0) [(8, s), (9, .int .i64 N), (10, .int .i64 N), (11, .bool false)] H → Run Try.prog tab (.loop xflux_Check_l0) [(8, s), (9, .int .i64 N), (10, .int .i64 i)] H Q := by
  induction rest with
  | nil =>
    intro pre i N Q hs hl hok hi hN hq
    rw [run_loop]
    generalize hL : XCode.loop xflux_Check_l0 = L
    have hiN : i = N := by simp at hN; omega
    subst hiN
    have hf : ¬ i < i := by omega
    simp only [xflux_Check_l0, ofArgs, run_seq, run_block, run_ops, run_skip, run_exit, run_ret, thenQ_normal, thenQ_exit, thenQ_ret, blockQ_normal, blockQ_exit, blockQ_ret, retQ_ret, retQ_normal, ops_nil, ops_none, got_some, ops_wT, ops_wTn, ops_wF, ops_wFn, ops_wU, dops_wT, dops_wTn, dops_wF, dops_wFn, dops_wU, run_condT, run_condF, alt2_int, altB_bool, altI_int, altBB_bool, v_min, v_max, v_not, v_neg, optEv_none, optEv_some, isSome'_none, isSome'_some, pExt0, pExt1, pExt2, Bool.false_and, Bool.true_and, Bool.not_true, Bool.not_false, cond_true, cond_false, dops_nil, dops_none, xval_call, v_mov, v_bin, v_len, v_ext, v_idxA, v_ld, v_st, v_app, v_appN, v_cvs, v_bs1, pBs1, v_slc, v_conv, v_fld, v_fldA, v_new, v_box, v_mks, v_copy, v_isnil, v_nilck, v_pick, ev, evs_nil, evs_cons, fr_get_cons, fr_put_nil, fr_put_cons, fr_put_some, fr_put_none, fr_keep_nil, fr_keep_cons, fr_has_nil, fr_has_cons, Option.bind_some, Option.map_some, xbin, ibin, xresult_eq, xress_nil, xress_tmp, resV, ex_some, if_true, if_false, ite_true, ite_false, reduceIte, reduceCtorEq, Nat.reduceEqDiff, Nat.reduceLT, Nat.reduceLeDiff, Int.reduceLT, Int.reduceLE, Nat.zero_add, Nat.reduceAdd, Bool.false_eq_true, decide_eq_true_eq, decide_eq_false_iff_not, true_implies, false_implies, and_true, true_and, hf, decide_false]
    simpa using hq
  | cons a rest ih =>
    intro pre i N Q hs hl hok hi hN hq
    simp only [List.length_cons] at hl
    rw [run_loop]
    generalize hL : XCode.loop xflux_Check_l0 = L
    have hlt : i < N := by simp at hN; omega
    have ha := hok a (by simp)
    have c1 : ¬ a < 1 := by omega
    have c2 : ¬ a > 100000 := by omega
    have e1 := ints_idx hs i pre.length hi (by simp)
    have e2 := ints_ld hs pre.length a (by simp)
    have e4 := wrI (i + 1) (by omega) (by omega)
    simp only [xflux_Check_l0, ofArgs, run_seq, run_block, run_ops, run_skip, run_exit, run_ret, thenQ_normal, thenQ_exit, thenQ_ret, blockQ_normal, blockQ_exit, blockQ_ret, retQ_ret, retQ_normal, ops_nil, ops_none, got_some, ops_wT, ops_wTn, ops_wF, ops_wFn, ops_wU, dops_wT, dops_wTn, dops_wF, dops_wFn, dops_wU, run_condT, run_condF, alt2_int, altB_bool, altI_int, altBB_bool, v_min, v_max, v_not, v_neg, optEv_none, optEv_some, isSome'_none, isSome'_some, pExt0, pExt1, pExt2, Bool.false_and, Bool.true_and, Bool.not_true, Bool.not_false, cond_true, cond_false, dops_nil, dops_none, xval_call, v_mov, v_bin, v_len, v_ext, v_idxA, v_ld, v_st, v_app, v_appN, v_cvs, v_bs1, pBs1, v_slc, v_conv, v_fld, v_fldA, v_new, v_box, v_mks, v_copy, v_isnil, v_nilck, v_pick, ev, evs_nil, evs_cons, fr_get_cons, fr_put_nil, fr_put_cons, fr_put_some, fr_put_none, fr_keep_nil, fr_keep_cons, fr_has_nil, fr_has_cons, Option.bind_some, Option.map_some, xbin, ibin, xresult_eq, xress_nil, xress_tmp, resV, ex_some, if_true, if_false, ite_true, ite_false, reduceIte, reduceCtorEq, Nat.reduceEqDiff, Nat.reduceLT, Nat.reduceLeDiff, Int.reduceLT, Int.reduceLE, Nat.zero_add, Nat.reduceAdd, Bool.false_eq_true, decide_eq_true_eq, decide_eq_false_iff_not, true_implies, false_implies, and_true, true_and, hlt, decide_true, e1, e2, e4, c1, c2, decide_false]
    subst hL
    exact ih (pre ++ [a]) (i + 1) N Q (Ints.app1 hs) (by simp; omega) (fun p hp => hok p (by simp [hp])) (by simp; omega) (by simpa using hN) hq

theorem got_xc {f : FuncId} {args : List Value} {H : AH} {v : Value} (h : Got (xc Try.prog tab f args H) fun v' H' => v' = v ∧ H' = H) : xc Try.prog tab f args H = some (v, H) := by
  obtain ⟨v, H', h, rfl, rfl⟩ := h
  exact h

theorem check_xc (l : List Int) (s : Value) (H : AH) (hs : Ints H s l) (hl : l.length ≤ 40000) (hok : Ok l) : xc Try.prog tab 65 [s] H = some (.int .i64 0, H) := by
  refine got_xc (got_call (res := [.tmp 2]) rfl ?_)
  have e4 := ints_len hs
  have c1 : ¬ (l.length : Int) > 40000 := by omega
  simp only [ofArgs, run_seq, run_block, run_ops, run_skip, run_exit, run_ret, thenQ_normal, thenQ_exit, thenQ_ret, blockQ_normal, blockQ_exit, blockQ_ret, retQ_ret, retQ_normal, ops_nil, ops_none, got_some, ops_wT, ops_wTn, ops_wF, ops_wFn, ops_wU, dops_wT, dops_wTn, dops_wF, dops_wFn, dops_wU, run_condT, run_condF, alt2_int, altB_bool, altI_int, altBB_bool, v_min, v_max, v_not, v_neg, optEv_none, optEv_some, isSome'_none, isSome'_some, pExt0, pExt1, pExt2, Bool.false_and, Bool.true_and, Bool.not_true, Bool.not_false, cond_true, cond_false, dops_nil, dops_none, xval_call, v_mov, v_bin, v_len, v_ext, v_idxA, v_ld, v_st, v_app, v_appN, v_cvs, v_bs1, pBs1, v_slc, v_conv, v_fld, v_fldA, v_new, v_box, v_mks, v_copy, v_isnil, v_nilck, v_pick, ev, evs_nil, evs_cons, fr_get_cons, fr_put_nil, fr_put_cons, fr_put_some, fr_put_none, fr_keep_nil, fr_keep_cons, fr_has_nil, fr_has_cons, Option.bind_some, Option.map_some, xbin, ibin, xresult_eq, xress_nil, xress_tmp, resV, ex_some, if_true, if_false, ite_true, ite_false, reduceIte, reduceCtorEq, Nat.reduceEqDiff, Nat.reduceLT, Nat.reduceLeDiff, Int.reduceLT, Int.reduceLE, Nat.zero_add, Nat.reduceAdd, Bool.false_eq_true, decide_eq_true_eq, decide_eq_false_iff_not, true_implies, false_implies, and_true, true_and, e4, c1, decide_false]
  refine check_l0 s H l [] _ _ _ hs (by simpa using hl) hok (by simp) (by simp) ?_
  simp only [ofArgs, run_seq, run_block, run_ops, run_skip, run_exit, run_ret, thenQ_normal, thenQ_exit, thenQ_ret, blockQ_normal, blockQ_exit, blockQ_ret, retQ_ret, retQ_normal, ops_nil, ops_none, got_some, ops_wT, ops_wTn, ops_wF, ops_wFn, ops_wU, dops_wT, dops_wTn, dops_wF, dops_wFn, dops_wU, run_condT, run_condF, alt2_int, altB_bool, altI_int, altBB_bool, v_min, v_max, v_not, v_neg, optEv_none, optEv_some, isSome'_none, isSome'_some, pExt0, pExt1, pExt2, Bool.false_and, Bool.true_and, Bool.not_true, Bool.not_false, cond_true, cond_false, dops_nil, dops_none, xval_call, v_mov, v_bin, v_len, v_ext, v_idxA, v_ld, v_st, v_app, v_appN, v_cvs, v_bs1, pBs1, v_slc, v_conv, v_fld, v_fldA, v_new, v_box, v_mks, v_copy, v_isnil, v_nilck, v_pick, ev, evs_nil, evs_cons, fr_get_cons, fr_put_nil, fr_put_cons, fr_put_some, fr_put_none, fr_keep_nil, fr_keep_cons, fr_has_nil, fr_has_cons, Option.bind_some, Option.map_some, xbin, ibin, xresult_eq, xress_nil, xress_tmp, resV, ex_some, if_true, if_false, ite_true, ite_false, reduceIte, reduceCtorEq, Nat.reduceEqDiff, Nat.reduceLT, Nat.reduceLeDiff, Int.reduceLT, Int.reduceLE, Nat.zero_add, Nat.reduceAdd, Bool.false_eq_true, decide_eq_true_eq, decide_eq_false_iff_not, true_implies, false_implies, and_true, true_and]

theorem marks_l0 (n0 : Nat) (s : Value) (rest : List Int) : ∀ (pre acc : List Int) (at0 : Int) (v : Value) (H : AH) (i N : Int) (Q : XExit → Fr → AH → Prop), Ints H s (pre ++ rest) → (∀ b, inB s b → b < n0) → OwnI n0 H v acc → n0 ≤ H.n →
    pre.length + rest.length ≤ 40000 → acc.length ≤ pre.length → Ok rest → 0 ≤ at0 → at0 ≤ 100000 * (pre.length : Int) → i = (pre.length : Int) → N = ((pre ++ rest).length : Int) →
    (∀ v' x H', OwnI n0 H' v' (acc ++ sums at0 rest) → Keep n0 H H' → Q (.exit 0) [(5, v'), (6, x), (14, s), (15, .int .i64 N), (16, .int .i64 N), (17, .bool false)] H') →
    Run Try.prog tab (.loop xflux_Marks_l0) [(5, v), (6, .int .i64 at0), (14, s), (15, .int .i64 N), (16, .int .i64 i)] H Q := by
  induction rest with
  | nil =>
    intro pre acc at0 v H i N Q hs hsb ho hn hl hal hok h0 h1 hi hN hq
    rw [run_loop]
    generalize hL : XCode.loop xflux_Marks_l0 = L
    have hiN : i = N := by simp at hN; omega
    subst hiN
    have hf : ¬ i < i := by omega
    simp only [xflux_Marks_l0, ofArgs, run_seq, run_block, run_ops, run_skip, run_exit, run_ret, thenQ_normal, thenQ_exit, thenQ_ret, blockQ_normal, blockQ_exit, blockQ_ret, retQ_ret, retQ_normal, ops_nil, ops_none, got_some, ops_wT, ops_wTn, ops_wF, ops_wFn, ops_wU, dops_wT, dops_wTn, dops_wF, dops_wFn, dops_wU, run_condT, run_condF, alt2_int, altB_bool, altI_int, altBB_bool, v_min, v_max, v_not, v_neg, optEv_none, optEv_some, isSome'_none, isSome'_some, pExt0, pExt1, pExt2, Bool.false_and, Bool.true_and, Bool.not_true, Bool.not_false, cond_true, cond_false, dops_nil, dops_none, xval_call, v_mov, v_bin, v_len, v_ext, v_idxA, v_ld, v_st, v_app, v_appN, v_cvs, v_bs1, pBs1, v_slc, v_conv, v_fld, v_fldA, v_new, v_box, v_mks, v_copy, v_isnil, v_nilck, v_pick, ev, evs_nil, evs_cons, fr_get_cons, fr_put_nil, fr_put_cons, fr_put_some, fr_put_none, fr_keep_nil, fr_keep_cons, fr_has_nil, fr_has_cons, Option.bind_some, Option.map_some, xbin, ibin, xresult_eq, xress_nil, xress_tmp, resV, ex_some, if_true, if_false, ite_true, ite_false, reduceIte, reduceCtorEq, Nat.reduceEqDiff, Nat.reduceLT, Nat.reduceLeDiff, Int.reduceLT, Int.reduceLE, Nat.zero_add, Nat.reduceAdd, Bool.false_eq_true, decide_eq_true_eq, decide_eq_false_iff_not, true_implies, false_implies, and_true, true_and, hf, decide_false]
    have := hq v (.int .i64 at0) H (by simpa [sums] using ho) (.refl _ _)
    simpa using this
  | cons a rest ih =>
    intro pre acc at0 v H i N Q hs hsb ho hn hl hal hok h0 h1 hi hN hq
    simp only [List.length_cons] at hl
    rw [run_loop]
    generalize hL : XCode.loop xflux_Marks_l0 = L
    have hlt : i < N := by simp at hN; omega
    have ha := hok a (by simp)
    have e1 := ints_idx hs i pre.length hi (by simp)
    have e2 := ints_ld hs pre.length a (by simp)
    have e3 := wrI (at0 + a) (by omega) (by omega)
    have e4 := wrI (i + 1) (by omega) (by omega)
    simp only [xflux_Marks_l0, ofArgs, run_seq, run_block, run_ops, run_skip, run_exit, run_ret, thenQ_normal, thenQ_exit, thenQ_ret, blockQ_normal, blockQ_exit, blockQ_ret, retQ_ret, retQ_normal, ops_nil, ops_none, got_some, ops_wT, ops_wTn, ops_wF, ops_wFn, ops_wU, dops_wT, dops_wTn, dops_wF, dops_wFn, dops_wU, run_condT, run_condF, alt2_int, altB_bool, altI_int, altBB_bool, v_min, v_max, v_not, v_neg, optEv_none, optEv_some, isSome'_none, isSome'_some, pExt0, pExt1, pExt2, Bool.false_and, Bool.true_and, Bool.not_true, Bool.not_false, cond_true, cond_false, dops_nil, dops_none, xval_call, v_mov, v_bin, v_len, v_ext, v_idxA, v_ld, v_st, v_app, v_appN, v_cvs, v_bs1, pBs1, v_slc, v_conv, v_fld, v_fldA, v_new, v_box, v_mks, v_copy, v_isnil, v_nilck, v_pick, ev, evs_nil, evs_cons, fr_get_cons, fr_put_nil, fr_put_cons, fr_put_some, fr_put_none, fr_keep_nil, fr_keep_cons, fr_has_nil, fr_has_cons, Option.bind_some, Option.map_some, xbin, ibin, xresult_eq, xress_nil, xress_tmp, resV, ex_some, if_true, if_false, ite_true, ite_false, reduceIte, reduceCtorEq, Nat.reduceEqDiff, Nat.reduceLT, Nat.reduceLeDiff, Int.reduceLT, Int.reduceLE, Nat.zero_add, Nat.reduceAdd, Bool.false_eq_true, decide_eq_true_eq, decide_eq_false_iff_not, true_implies, false_implies, and_true, true_and, hlt, decide_true, e1, e2, e3, e4]
    refine app_one ho hn (by omega) fun v' H' ho' hs' => ?_
    have hk := hs'.keep ho hn
    subst hL
    refine ih (pre ++ [a]) (acc ++ [at0 + a]) (at0 + a) v' H' (i + 1) N Q (Ints.app1 (Ints.keep hs hk hsb)) hsb ho' (by have := hk.1; omega) (by simp; omega) (by simp; omega) (fun p hp => hok p (by simp [hp])) (by omega) (by simp; omega) (by simp; omega) (by simpa using hN) ?_
    intro v2 x2 H2 ho2 hk2
    exact hq v2 x2 H2 (by simpa [sums] using ho2) (hk.trans hk2)

theorem marks_ok (l : List Int) (s : Value) (H : AH) (Q : Value → AH → Prop) (hs : Ints H s l) (hl : l.length ≤ 40000) (hok : Ok l)
    (hq : ∀ v H', OwnI H.n H' v (sums 0 l) → HExt H H' → Q (.tuple [v, .int .i64 0].toArray) H') : Got (xc Try.prog tab 70 [s] H) Q := by
  refine got_call (res := [.tmp 2, .tmp 3]) rfl ?_
  have e4 := ints_len hs
  have e5 := check_xc l s H hs hl hok
  simp only [ofArgs, run_seq, run_block, run_ops, run_skip, run_exit, run_ret, thenQ_normal, thenQ_exit, thenQ_ret, blockQ_normal, blockQ_exit, blockQ_ret, retQ_ret, retQ_normal, ops_nil, ops_none, got_some, ops_wT, ops_wTn, ops_wF, ops_wFn, ops_wU, dops_wT, dops_wTn, dops_wF, dops_wFn, dops_wU, run_condT, run_condF, alt2_int, altB_bool, altI_int, altBB_bool, v_min, v_max, v_not, v_neg, optEv_none, optEv_some, isSome'_none, isSome'_some, pExt0, pExt1, pExt2, Bool.false_and, Bool.true_and, Bool.not_true, Bool.not_false, cond_true, cond_false, dops_nil, dops_none, xval_call, v_mov, v_bin, v_len, v_ext, v_idxA, v_ld, v_st, v_app, v_appN, v_cvs, v_bs1, pBs1, v_slc, v_conv, v_fld, v_fldA, v_new, v_box, v_mks, v_copy, v_isnil, v_nilck, v_pick, ev, evs_nil, evs_cons, fr_get_cons, fr_put_nil, fr_put_cons, fr_put_some, fr_put_none, fr_keep_nil, fr_keep_cons, fr_has_nil, fr_has_cons, Option.bind_some, Option.map_some, xbin, ibin, xresult_eq, xress_nil, xress_tmp, resV, ex_some, if_true, if_false, ite_true, ite_false, reduceIte, reduceCtorEq, Nat.reduceEqDiff, Nat.reduceLT, Nat.reduceLeDiff, Int.reduceLT, Int.reduceLE, Nat.zero_add, Nat.reduceAdd, Bool.false_eq_true, decide_eq_true_eq, decide_eq_false_iff_not, true_implies, false_implies, and_true, true_and, e4, e5, bne_self_eq_false]
  refine marks_l0 H.n s l [] [] 0 _ H _ _ _ hs (fun b hb => hs.lt b hb) (OwnI.nil _ _) (Nat.le_refl _) (by simpa using hl) (by simp) hok (by omega) (by simp) (by simp) (by simp) ?_
  intro v' x H' h1 h2
  simp only [ofArgs, run_seq, run_block, run_ops, run_skip, run_exit, run_ret, thenQ_normal, thenQ_exit, thenQ_ret, blockQ_normal, blockQ_exit, blockQ_ret, retQ_ret, retQ_normal, ops_nil, ops_none, got_some, ops_wT, ops_wTn, ops_wF, ops_wFn, ops_wU, dops_wT, dops_wTn, dops_wF, dops_wFn, dops_wU, run_condT, run_condF, alt2_int, altB_bool, altI_int, altBB_bool, v_min, v_max, v_not, v_neg, optEv_none, optEv_some, isSome'_none, isSome'_some, pExt0, pExt1, pExt2, Bool.false_and, Bool.true_and, Bool.not_true, Bool.not_false, cond_true, cond_false, dops_nil, dops_none, xval_call, v_mov, v_bin, v_len, v_ext, v_idxA, v_ld, v_st, v_app, v_appN, v_cvs, v_bs1, pBs1, v_slc, v_conv, v_fld, v_fldA, v_new, v_box, v_mks, v_copy, v_isnil, v_nilck, v_pick, ev, evs_nil, evs_cons, fr_get_cons, fr_put_nil, fr_put_cons, fr_put_some, fr_put_none, fr_keep_nil, fr_keep_cons, fr_has_nil, fr_has_cons, Option.bind_some, Option.map_some, xbin, ibin, xresult_eq, xress_nil, xress_tmp, resV, ex_some, if_true, if_false, ite_true, ite_false, reduceIte, reduceCtorEq, Nat.reduceEqDiff, Nat.reduceLT, Nat.reduceLeDiff, Int.reduceLT, Int.reduceLE, Nat.zero_add, Nat.reduceAdd, Bool.false_eq_true, decide_eq_true_eq, decide_eq_false_iff_not, true_implies, false_implies, and_true, true_and]
  exact hq v' H' (by simpa using h1) h2

theorem of_l0 (n0 : Nat) (s : Value) (rest : List Int) : ∀ (pre acc : List Int) (at0 : Int) (v : Value) (H : AH) (i N : Int) (Q : XExit → Fr → AH → Prop), Ints H s (pre ++ rest) → (∀ b, inB s b → b < n0) → OwnI n0 H v acc → n0 ≤ H.n →
    pre.length + rest.length ≤ 40000 → acc.length ≤ pre.length → Ok (difs at0 rest) → 0 ≤ at0 → at0 ≤ 100000 * (pre.length : Int) → i = (pre.length : Int) → N = ((pre ++ rest).length : Int) →
    (∀ v' x H', OwnI n0 H' v' (acc ++ difs at0 rest) → Keep n0 H H' → Q (.exit 0) [(4, v'), (5, x), (11, s), (12, .int .i64 N), (13, .int .i64 N), (14, .bool false)] H') →
    Run Try.prog tab (.loop xflux_Of_l0) [(4, v), (5, .int .i64 at0), (11, s), (12, .int .i64 N), (13, .int .i64 i)] H Q := by
  induction rest with
  | nil =>
    intro pre acc at0 v H i N Q hs hsb ho hn hl hal hok h0 h1 hi hN hq
    rw [run_loop]
    generalize hL : XCode.loop xflux_Of_l0 = L
    have hiN : i = N := by simp at hN; omega
    subst hiN
    have hf : ¬ i < i := by omega
    simp only [xflux_Of_l0, ofArgs, run_seq, run_block, run_ops, run_skip, run_exit, run_ret, thenQ_normal, thenQ_exit, thenQ_ret, blockQ_normal, blockQ_exit, blockQ_ret, retQ_ret, retQ_normal, ops_nil, ops_none, got_some, ops_wT, ops_wTn, ops_wF, ops_wFn, ops_wU, dops_wT, dops_wTn, dops_wF, dops_wFn, dops_wU, run_condT, run_condF, alt2_int, altB_bool, altI_int, altBB_bool, v_min, v_max, v_not, v_neg, optEv_none, optEv_some, isSome'_none, isSome'_some, pExt0, pExt1, pExt2, Bool.false_and, Bool.true_and, Bool.not_true, Bool.not_false, cond_true, cond_false, dops_nil, dops_none, xval_call, v_mov, v_bin, v_len, v_ext, v_idxA, v_ld, v_st, v_app, v_appN, v_cvs, v_bs1, pBs1, v_slc, v_conv, v_fld, v_fldA, v_new, v_box, v_mks, v_copy, v_isnil, v_nilck, v_pick, ev, evs_nil, evs_cons, fr_get_cons, fr_put_nil, fr_put_cons, fr_put_some, fr_put_none, fr_keep_nil, fr_keep_cons, fr_has_nil, fr_has_cons, Option.bind_some, Option.map_some, xbin, ibin, xresult_eq, xress_nil, xress_tmp, resV, ex_some, if_true, if_false, ite_true, ite_false, reduceIte, reduceCtorEq, Nat.reduceEqDiff, Nat.reduceLT, Nat.reduceLeDiff, Int.reduceLT, Int.reduceLE, Nat.zero_add, Nat.reduceAdd, Bool.false_eq_true, decide_eq_true_eq, decide_eq_false_iff_not, true_implies, false_implies, and_true, true_and, hf, decide_false]
    have := hq v (.int .i64 at0) H (by simpa [difs] using ho) (.refl _ _)
    simpa using this
  | cons a rest ih =>
    intro pre acc at0 v H i N Q hs hsb ho hn hl hal hok h0 h1 hi hN hq
    simp only [List.length_cons] at hl
    rw [run_loop]
    generalize hL : XCode.loop xflux_Of_l0 = L
    have hlt : i < N := by simp at hN; omega
    have ha := hok (a - at0) (by simp [difs])
    have e1 := ints_idx hs i pre.length hi (by simp)
    have e2 := ints_ld hs pre.length a (by simp)
    have e3 := wrI (a - at0) (by omega) (by omega)
    have e4 := wrI (i + 1) (by omega) (by omega)
    have c1 : ¬ a ≤ at0 := by omega
    have c2 : ¬ a - at0 > 100000 := by omega
    simp only [xflux_Of_l0, ofArgs, run_seq, run_block, run_ops, run_skip, run_exit, run_ret, thenQ_normal, thenQ_exit, thenQ_ret, blockQ_normal, blockQ_exit, blockQ_ret, retQ_ret, retQ_normal, ops_nil, ops_none, got_some, ops_wT, ops_wTn, ops_wF, ops_wFn, ops_wU, dops_wT, dops_wTn, dops_wF, dops_wFn, dops_wU, run_condT, run_condF, alt2_int, altB_bool, altI_int, altBB_bool, v_min, v_max, v_not, v_neg, optEv_none, optEv_some, isSome'_none, isSome'_some, pExt0, pExt1, pExt2, Bool.false_and, Bool.true_and, Bool.not_true, Bool.not_false, cond_true, cond_false, dops_nil, dops_none, xval_call, v_mov, v_bin, v_len, v_ext, v_idxA, v_ld, v_st, v_app, v_appN, v_cvs, v_bs1, pBs1, v_slc, v_conv, v_fld, v_fldA, v_new, v_box, v_mks, v_copy, v_isnil, v_nilck, v_pick, ev, evs_nil, evs_cons, fr_get_cons, fr_put_nil, fr_put_cons, fr_put_some, fr_put_none, fr_keep_nil, fr_keep_cons, fr_has_nil, fr_has_cons, Option.bind_some, Option.map_some, xbin, ibin, xresult_eq, xress_nil, xress_tmp, resV, ex_some, if_true, if_false, ite_true, ite_false, reduceIte, reduceCtorEq, Nat.reduceEqDiff, Nat.reduceLT, Nat.reduceLeDiff, Int.reduceLT, Int.reduceLE, Nat.zero_add, Nat.reduceAdd, Bool.false_eq_true, decide_eq_true_eq, decide_eq_false_iff_not, true_implies, false_implies, and_true, true_and, hlt, decide_true, e1, e2, e3, e4, c1, c2, decide_false]
    refine app_one ho hn (by omega) fun v' H' ho' hs' => ?_
    have hk := hs'.keep ho hn
    subst hL
    refine ih (pre ++ [a]) (acc ++ [a - at0]) a v' H' (i + 1) N Q (Ints.app1 (Ints.keep hs hk hsb)) hsb ho' (by have := hk.1; omega) (by simp; omega) (by simp; omega) (fun p hp => hok p (by simp [difs, hp])) (by omega) (by simp; omega) (by simp; omega) (by simpa using hN) ?_
    intro v2 x2 H2 ho2 hk2
    exact hq v2 x2 H2 (by simpa [difs] using ho2) (hk.trans hk2)

theorem of_ok (l : List Int) (s : Value) (H : AH) (Q : Value → AH → Prop) (hs : Ints H s l) (hl : l.length ≤ 40000) (hok : Ok (difs 0 l))
    (hq : ∀ v H', OwnI H.n H' v (difs 0 l) → HExt H H' → Q (.tuple [v, .int .i64 0].toArray) H') : Got (xc Try.prog tab 71 [s] H) Q := by
  refine got_call (res := [.tmp 2, .tmp 3]) rfl ?_
  have e4 := ints_len hs
  have c1 : ¬ (l.length : Int) > 40000 := by omega
  simp only [ofArgs, run_seq, run_block, run_ops, run_skip, run_exit, run_ret, thenQ_normal, thenQ_exit, thenQ_ret, blockQ_normal, blockQ_exit, blockQ_ret, retQ_ret, retQ_normal, ops_nil, ops_none, got_some, ops_wT, ops_wTn, ops_wF, ops_wFn, ops_wU, dops_wT, dops_wTn, dops_wF, dops_wFn, dops_wU, run_condT, run_condF, alt2_int, altB_bool, altI_int, altBB_bool, v_min, v_max, v_not, v_neg, optEv_none, optEv_some, isSome'_none, isSome'_some, pExt0, pExt1, pExt2, Bool.false_and, Bool.true_and, Bool.not_true, Bool.not_false, cond_true, cond_false, dops_nil, dops_none, xval_call, v_mov, v_bin, v_len, v_ext, v_idxA, v_ld, v_st, v_app, v_appN, v_cvs, v_bs1, pBs1, v_slc, v_conv, v_fld, v_fldA, v_new, v_box, v_mks, v_copy, v_isnil, v_nilck, v_pick, ev, evs_nil, evs_cons, fr_get_cons, fr_put_nil, fr_put_cons, fr_put_some, fr_put_none, fr_keep_nil, fr_keep_cons, fr_has_nil, fr_has_cons, Option.bind_some, Option.map_some, xbin, ibin, xresult_eq, xress_nil, xress_tmp, resV, ex_some, if_true, if_false, ite_true, ite_false, reduceIte, reduceCtorEq, Nat.reduceEqDiff, Nat.reduceLT, Nat.reduceLeDiff, Int.reduceLT, Int.reduceLE, Nat.zero_add, Nat.reduceAdd, Bool.false_eq_true, decide_eq_true_eq, decide_eq_false_iff_not, true_implies, false_implies, and_true, true_and, e4, c1, decide_false]
  refine of_l0 H.n s l [] [] 0 _ H _ _ _ hs (fun b hb => hs.lt b hb) (OwnI.nil _ _) (Nat.le_refl _) (by simpa using hl) (by simp) hok (by omega) (by simp) (by simp) (by simp) ?_
  intro v' x H' h1 h2
  simp only [ofArgs, run_seq, run_block, run_ops, run_skip, run_exit, run_ret, thenQ_normal, thenQ_exit, thenQ_ret, blockQ_normal, blockQ_exit, blockQ_ret, retQ_ret, retQ_normal, ops_nil, ops_none, got_some, ops_wT, ops_wTn, ops_wF, ops_wFn, ops_wU, dops_wT, dops_wTn, dops_wF, dops_wFn, dops_wU, run_condT, run_condF, alt2_int, altB_bool, altI_int, altBB_bool, v_min, v_max, v_not, v_neg, optEv_none, optEv_some, isSome'_none, isSome'_some, pExt0, pExt1, pExt2, Bool.false_and, Bool.true_and, Bool.not_true, Bool.not_false, cond_true, cond_false, dops_nil, dops_none, xval_call, v_mov, v_bin, v_len, v_ext, v_idxA, v_ld, v_st, v_app, v_appN, v_cvs, v_bs1, pBs1, v_slc, v_conv, v_fld, v_fldA, v_new, v_box, v_mks, v_copy, v_isnil, v_nilck, v_pick, ev, evs_nil, evs_cons, fr_get_cons, fr_put_nil, fr_put_cons, fr_put_some, fr_put_none, fr_keep_nil, fr_keep_cons, fr_has_nil, fr_has_cons, Option.bind_some, Option.map_some, xbin, ibin, xresult_eq, xress_nil, xress_tmp, resV, ex_some, if_true, if_false, ite_true, ite_false, reduceIte, reduceCtorEq, Nat.reduceEqDiff, Nat.reduceLT, Nat.reduceLeDiff, Int.reduceLT, Int.reduceLE, Nat.zero_add, Nat.reduceAdd, Bool.false_eq_true, decide_eq_true_eq, decide_eq_false_iff_not, true_implies, false_implies, and_true, true_and]
  exact hq v' H' (by simpa using h1) h2
end Go.Proofs.Ytejedmocjdcdgaa.D

set_option linter.unusedSimpArgs false
set_option linter.unusedVariables false
namespace Go.Proofs.Ytejedmocjdcdgaa.D
open Go Go.Det

theorem hext_ints {H H' : AH} {s : Value} {l : List Int} (hx : HExt H H') (hs : Ints H s l) : Ints H' s l := Sl.ext hx hs

end Go.Proofs.Ytejedmocjdcdgaa.D

set_option linter.unusedSimpArgs false
set_option linter.unusedVariables false
namespace Go.Proofs.Ytejedmocjdcdgaa.D
open Go Go.Det

def nears (d : Int) : List Int → List Int → Bool
  | a :: s, b :: t => decide (a - b ≤ d) && decide (b - a ≤ d) && nears d s t
  | _, _ => true

theorem speed_l0 (n0 : Nat) (n d : Int) (hn : 1 ≤ n) (hn' : n ≤ 1000) (hd : 1 ≤ d) (hd' : d ≤ 1000) (v : Value) (rest : List Int) : ∀ (pre : List Int) (H : AH) (i N : Int) (Q : XExit → Fr → AH → Prop), OwnI n0 H v (pre ++ rest) → n0 ≤ H.n →
    pre.length + rest.length ≤ 40000 → (∀ x ∈ rest, 0 ≤ x ∧ x ≤ 10000000000) → i = (pre.length : Int) → N = ((pre ++ rest).length : Int) →
    (∀ H', OwnI n0 H' v (pre ++ rest.map fun x => Int.tdiv (x * n) d) → Keep n0 H H' → Q (.exit 0) [(1, .int .i64 n), (2, .int .i64 d), (8, v), (34, .int .i64 N), (35, .int .i64 N), (36, .bool false)] H') →
    Run Try.prog tab (.loop xflux_Speed_l0) [(1, .int .i64 n), (2, .int .i64 d), (8, v), (34, .int .i64 N), (35, .int .i64 i)] H Q := by
  induction rest with
  | nil =>
    intro pre H i N Q ho hH hl hb hi hN hq
    rw [run_loop]
    generalize hL : XCode.loop xflux_Speed_l0 = L
    have hiN : i = N := by simp at hN; omega
    subst hiN
    have hf : ¬ i < i := by omega
    simp only [xflux_Speed_l0, ofArgs, run_seq, run_block, run_ops, run_skip, run_exit, run_ret, thenQ_normal, thenQ_exit, thenQ_ret, blockQ_normal, blockQ_exit, blockQ_ret, retQ_ret, retQ_normal, ops_nil, ops_none, got_some, ops_wT, ops_wTn, ops_wF, ops_wFn, ops_wU, dops_wT, dops_wTn, dops_wF, dops_wFn, dops_wU, run_condT, run_condF, alt2_int, altB_bool, altI_int, altBB_bool, v_min, v_max, v_not, v_neg, optEv_none, optEv_some, isSome'_none, isSome'_some, pExt0, pExt1, pExt2, Bool.false_and, Bool.true_and, Bool.not_true, Bool.not_false, cond_true, cond_false, dops_nil, dops_none, xval_call, v_mov, v_bin, v_len, v_ext, v_idxA, v_ld, v_st, v_app, v_appN, v_cvs, v_bs1, pBs1, v_slc, v_conv, v_fld, v_fldA, v_new, v_box, v_mks, v_copy, v_isnil, v_nilck, v_pick, ev, evs_nil, evs_cons, fr_get_cons, fr_put_nil, fr_put_cons, fr_put_some, fr_put_none, fr_keep_nil, fr_keep_cons, fr_has_nil, fr_has_cons, Option.bind_some, Option.map_some, xbin, ibin, xresult_eq, xress_nil, xress_tmp, resV, ex_some, if_true, if_false, ite_true, ite_false, reduceIte, reduceCtorEq, Nat.reduceEqDiff, Nat.reduceLT, Nat.reduceLeDiff, Int.reduceLT, Int.reduceLE, Nat.zero_add, Nat.reduceAdd, Bool.false_eq_true, decide_eq_true_eq, decide_eq_false_iff_not, true_implies, false_implies, and_true, true_and, hf, decide_false]
    have := hq H (by simpa using ho) (.refl _ _)
    simpa using this
  | cons a rest ih =>
    intro pre H i N Q ho hH hl hb hi hN hq
    simp only [List.length_cons] at hl
    rw [run_loop]
    generalize hL : XCode.loop xflux_Speed_l0 = L
    have hlt : i < N := by simp at hN; omega
    have ha := hb a (by simp)
    have hs := ho.ints
    have m0 : 0 ≤ a * n := Int.mul_nonneg ha.1 (by omega)
    have m1 : a * n ≤ 10000000000 * 1000 := Int.mul_le_mul ha.2 hn' (by omega) (by omega)
    have t0 : 0 ≤ Int.tdiv (a * n) d := Int.tdiv_nonneg m0 (by omega)
    have t1 : Int.tdiv (a * n) d ≤ a * n := by
      rw [Int.tdiv_eq_ediv_of_nonneg m0]; exact Int.ediv_le_self _ m0
    have e1 := ints_idx hs i pre.length hi (by simp)
    have e2 := ints_ld hs pre.length a (by simp)
    have e3 := wrI (a * n) (by omega) (by omega)
    have e5 := wrI (Int.tdiv (a * n) d) (by omega) (by omega)
    have e4 := wrI (i + 1) (by omega) (by omega)
    have d0 : ¬ d = 0 := by omega
    simp only [xflux_Speed_l0, ofArgs, run_seq, run_block, run_ops, run_skip, run_exit, run_ret, thenQ_normal, thenQ_exit, thenQ_ret, blockQ_normal, blockQ_exit, blockQ_ret, retQ_ret, retQ_normal, ops_nil, ops_none, got_some, ops_wT, ops_wTn, ops_wF, ops_wFn, ops_wU, dops_wT, dops_wTn, dops_wF, dops_wFn, dops_wU, run_condT, run_condF, alt2_int, altB_bool, altI_int, altBB_bool, v_min, v_max, v_not, v_neg, optEv_none, optEv_some, isSome'_none, isSome'_some, pExt0, pExt1, pExt2, Bool.false_and, Bool.true_and, Bool.not_true, Bool.not_false, cond_true, cond_false, dops_nil, dops_none, xval_call, v_mov, v_bin, v_len, v_ext, v_idxA, v_ld, v_st, v_app, v_appN, v_cvs, v_bs1, pBs1, v_slc, v_conv, v_fld, v_fldA, v_new, v_box, v_mks, v_copy, v_isnil, v_nilck, v_pick, ev, evs_nil, evs_cons, fr_get_cons, fr_put_nil, fr_put_cons, fr_put_some, fr_put_none, fr_keep_nil, fr_keep_cons, fr_has_nil, fr_has_cons, Option.bind_some, Option.map_some, xbin, ibin, xresult_eq, xress_nil, xress_tmp, resV, ex_some, if_true, if_false, ite_true, ite_false, reduceIte, reduceCtorEq, Nat.reduceEqDiff, Nat.reduceLT, Nat.reduceLeDiff, Int.reduceLT, Int.reduceLE, Nat.zero_add, Nat.reduceAdd, Bool.false_eq_true, decide_eq_true_eq, decide_eq_false_iff_not, true_implies, false_implies, and_true, true_and, hlt, decide_true, e1, e2, e3, e4, e5, d0]
    refine pSt_own ho (by simp) rfl rfl ?_
    intro H' ho' hs'
    have hk := hs'.keep ho hH
    subst hL
    have ho2 : OwnI n0 H' v ((pre ++ [Int.tdiv (a * n) d]) ++ rest) := by
      have el : ((pre ++ [Int.tdiv (a * n) d]) ++ rest).length = (pre ++ a :: rest).length := by simp
      unfold OwnI
      rw [el]
      have em : ((pre ++ [Int.tdiv (a * n) d]) ++ rest).map (Value.int .i64) = ((pre ++ a :: rest).map (Value.int .i64)).set pre.length (.int .i64 (Int.tdiv (a * n) d)) := by simp
      rw [em]; exact ho'
    refine ih (pre ++ [Int.tdiv (a * n) d]) H' (i + 1) N Q ho2 (by have := hk.1; omega) (by simp; omega) (fun x hx => hb x (by simp [hx])) (by simp; omega) (by simpa using hN) ?_
    intro H2 ho3 hk2
    exact hq H2 (by simpa using ho3) (hk.trans hk2)

theorem speed_ok (t : List Int) (n d : Int) (s : Value) (H : AH) (Q : Value → AH → Prop) (hs : Ints H s t) (hn : 1 ≤ n) (hn' : n ≤ 1000) (hd : 1 ≤ d) (hd' : d ≤ 1000) (hl : t.length ≤ 40000) (ht : Ok t)
    (h3 : Ok (difs 0 ((sums 0 t).map fun x => Int.tdiv (x * n) d)))
    (hq : ∀ v H', OwnI H.n H' v (difs 0 ((sums 0 t).map fun x => Int.tdiv (x * n) d)) → HExt H H' → Q (.tuple [v, .int .i64 0].toArray) H') : Got (xc Try.prog tab 24 [s, .int .i64 n, .int .i64 d] H) Q := by
  refine got_call (res := [.tmp 6, .tmp 7]) rfl ?_
  simp only [ofArgs, run_seq, run_block, run_ops, run_skip, run_exit, run_ret, thenQ_normal, thenQ_exit, thenQ_ret, blockQ_normal, blockQ_exit, blockQ_ret, retQ_ret, retQ_normal, ops_nil, ops_none, got_some, ops_wT, ops_wTn, ops_wF, ops_wFn, ops_wU, dops_wT, dops_wTn, dops_wF, dops_wFn, dops_wU, run_condT, run_condF, alt2_int, altB_bool, altI_int, altBB_bool, v_min, v_max, v_not, v_neg, optEv_none, optEv_some, isSome'_none, isSome'_some, pExt0, pExt1, pExt2, Bool.false_and, Bool.true_and, Bool.not_true, Bool.not_false, cond_true, cond_false, dops_nil, dops_none, xval_call, v_mov, v_bin, v_len, v_ext, v_idxA, v_ld, v_st, v_app, v_appN, v_cvs, v_bs1, pBs1, v_slc, v_conv, v_fld, v_fldA, v_new, v_box, v_mks, v_copy, v_isnil, v_nilck, v_pick, ev, evs_nil, evs_cons, fr_get_cons, fr_put_nil, fr_put_cons, fr_put_some, fr_put_none, fr_keep_nil, fr_keep_cons, fr_has_nil, fr_has_cons, Option.bind_some, Option.map_some, xbin, ibin, xresult_eq, xress_nil, xress_tmp, resV, ex_some, if_true, if_false, ite_true, ite_false, reduceIte, reduceCtorEq, Nat.reduceEqDiff, Nat.reduceLT, Nat.reduceLeDiff, Int.reduceLT, Int.reduceLE, Nat.zero_add, Nat.reduceAdd, Bool.false_eq_true, decide_eq_true_eq, decide_eq_false_iff_not, true_implies, false_implies, and_true, true_and]
  refine marks_ok t s H _ hs hl ht ?_
  intro v1 H1 o1 x1
  have c1 : ¬ n < 1 := by omega
  have c2 : ¬ n > 1000 := by omega
  have c3 : ¬ d < 1 := by omega
  have c4 : ¬ d > 1000 := by omega
  have n1 := ints_len o1.ints
  simp only [ofArgs, run_seq, run_block, run_ops, run_skip, run_exit, run_ret, thenQ_normal, thenQ_exit, thenQ_ret, blockQ_normal, blockQ_exit, blockQ_ret, retQ_ret, retQ_normal, ops_nil, ops_none, got_some, ops_wT, ops_wTn, ops_wF, ops_wFn, ops_wU, dops_wT, dops_wTn, dops_wF, dops_wFn, dops_wU, run_condT, run_condF, alt2_int, altB_bool, altI_int, altBB_bool, v_min, v_max, v_not, v_neg, optEv_none, optEv_some, isSome'_none, isSome'_some, pExt0, pExt1, pExt2, Bool.false_and, Bool.true_and, Bool.not_true, Bool.not_false, cond_true, cond_false, dops_nil, dops_none, xval_call, v_mov, v_bin, v_len, v_ext, v_idxA, v_ld, v_st, v_app, v_appN, v_cvs, v_bs1, pBs1, v_slc, v_conv, v_fld, v_fldA, v_new, v_box, v_mks, v_copy, v_isnil, v_nilck, v_pick, ev, evs_nil, evs_cons, fr_get_cons, fr_put_nil, fr_put_cons, fr_put_some, fr_put_none, fr_keep_nil, fr_keep_cons, fr_has_nil, fr_has_cons, Option.bind_some, Option.map_some, xbin, ibin, xresult_eq, xress_nil, xress_tmp, resV, ex_some, if_true, if_false, ite_true, ite_false, reduceIte, reduceCtorEq, Nat.reduceEqDiff, Nat.reduceLT, Nat.reduceLeDiff, Int.reduceLT, Int.reduceLE, Nat.zero_add, Nat.reduceAdd, Bool.false_eq_true, decide_eq_true_eq, decide_eq_false_iff_not, true_implies, false_implies, and_true, true_and, c1, c2, c3, c4, n1, decide_false, bne_self_eq_false]
  refine speed_l0 H.n n d hn hn' hd hd' v1 (sums 0 t) [] H1 _ _ _ o1 x1.1 (by simp [sums_len]; omega) (fun x hx => by have := sums_bnd t 0 (by omega) ht x hx; omega) (by simp) (by simp) ?_
  intro H2 o2 k2
  simp only [ofArgs, run_seq, run_block, run_ops, run_skip, run_exit, run_ret, thenQ_normal, thenQ_exit, thenQ_ret, blockQ_normal, blockQ_exit, blockQ_ret, retQ_ret, retQ_normal, ops_nil, ops_none, got_some, ops_wT, ops_wTn, ops_wF, ops_wFn, ops_wU, dops_wT, dops_wTn, dops_wF, dops_wFn, dops_wU, run_condT, run_condF, alt2_int, altB_bool, altI_int, altBB_bool, v_min, v_max, v_not, v_neg, optEv_none, optEv_some, isSome'_none, isSome'_some, pExt0, pExt1, pExt2, Bool.false_and, Bool.true_and, Bool.not_true, Bool.not_false, cond_true, cond_false, dops_nil, dops_none, xval_call, v_mov, v_bin, v_len, v_ext, v_idxA, v_ld, v_st, v_app, v_appN, v_cvs, v_bs1, pBs1, v_slc, v_conv, v_fld, v_fldA, v_new, v_box, v_mks, v_copy, v_isnil, v_nilck, v_pick, ev, evs_nil, evs_cons, fr_get_cons, fr_put_nil, fr_put_cons, fr_put_some, fr_put_none, fr_keep_nil, fr_keep_cons, fr_has_nil, fr_has_cons, Option.bind_some, Option.map_some, xbin, ibin, xresult_eq, xress_nil, xress_tmp, resV, ex_some, if_true, if_false, ite_true, ite_false, reduceIte, reduceCtorEq, Nat.reduceEqDiff, Nat.reduceLT, Nat.reduceLeDiff, Int.reduceLT, Int.reduceLE, Nat.zero_add, Nat.reduceAdd, Bool.false_eq_true, decide_eq_true_eq, decide_eq_false_iff_not, true_implies, false_implies, and_true, true_and]
  simp only [List.nil_append] at o2
  refine of_ok _ v1 H2 _ o2.ints (by simp [sums_len]; omega) h3 ?_
  intro v3 H3 o3 x3
  simp only [ofArgs, run_seq, run_block, run_ops, run_skip, run_exit, run_ret, thenQ_normal, thenQ_exit, thenQ_ret, blockQ_normal, blockQ_exit, blockQ_ret, retQ_ret, retQ_normal, ops_nil, ops_none, got_some, ops_wT, ops_wTn, ops_wF, ops_wFn, ops_wU, dops_wT, dops_wTn, dops_wF, dops_wFn, dops_wU, run_condT, run_condF, alt2_int, altB_bool, altI_int, altBB_bool, v_min, v_max, v_not, v_neg, optEv_none, optEv_some, isSome'_none, isSome'_some, pExt0, pExt1, pExt2, Bool.false_and, Bool.true_and, Bool.not_true, Bool.not_false, cond_true, cond_false, dops_nil, dops_none, xval_call, v_mov, v_bin, v_len, v_ext, v_idxA, v_ld, v_st, v_app, v_appN, v_cvs, v_bs1, pBs1, v_slc, v_conv, v_fld, v_fldA, v_new, v_box, v_mks, v_copy, v_isnil, v_nilck, v_pick, ev, evs_nil, evs_cons, fr_get_cons, fr_put_nil, fr_put_cons, fr_put_some, fr_put_none, fr_keep_nil, fr_keep_cons, fr_has_nil, fr_has_cons, Option.bind_some, Option.map_some, xbin, ibin, xresult_eq, xress_nil, xress_tmp, resV, ex_some, if_true, if_false, ite_true, ite_false, reduceIte, reduceCtorEq, Nat.reduceEqDiff, Nat.reduceLT, Nat.reduceLeDiff, Int.reduceLT, Int.reduceLE, Nat.zero_add, Nat.reduceAdd, Bool.false_eq_true, decide_eq_true_eq, decide_eq_false_iff_not, true_implies, false_implies, and_true, true_and]
  have hn2 : H.n ≤ H2.n := Nat.le_trans x1.1 k2.1
  exact hq v3 H3 (o3.le hn2) ((Keep.ext (x1.keep (Nat.le_refl _) |>.trans k2)).trans x3)
end Go.Proofs.Ytejedmocjdcdgaa.D

set_option linter.unusedSimpArgs false
set_option linter.unusedVariables false
namespace Go.Proofs.Ytejedmocjdcdgaa.D
open Go Go.Det

theorem dbl (t : List Int) : ∀ a, difs (2 * a) ((sums a t).map fun x => Int.tdiv (x * 2) 1) = t.map fun x => 2 * x := by
  induction t with
  | nil => intro a; rfl
  | cons p t ih =>
    intro a
    simp only [sums, difs, List.map_cons]
    have e : Int.tdiv ((a + p) * 2) 1 = 2 * (a + p) := by rw [Int.tdiv_one]; omega
    rw [e, ih]
    congr 1
    omega
theorem dbl_sum (t : List Int) : (t.map fun x => 2 * x).sum = 2 * t.sum := by
  induction t with
  | nil => rfl
  | cons p t ih => simp [ih]; omega
theorem same_map (t : List Int) (n : Int) (hn : 1 ≤ n) : (t.map fun x => Int.tdiv (x * n) n) = t := by
  induction t with
  | nil => rfl
  | cons p t ih =>
    simp only [List.map_cons, ih]
    rw [Int.mul_tdiv_cancel _ (by omega)]
theorem nears_self (t : List Int) : nears 0 t t = true := by
  induction t with
  | nil => rfl
  | cons p t ih => simp [nears, ih]
theorem sum_bnd (t : List Int) (h : Ok t) : 0 ≤ t.sum ∧ t.sum ≤ 100000 * (t.length : Int) := by
  induction t with
  | nil => simp
  | cons p t ih =>
    have hp := h p (by simp)
    have := ih (fun q hq => h q (by simp [hq]))
    simp only [List.sum_cons, List.length_cons]
    omega

end Go.Proofs.Ytejedmocjdcdgaa.D

set_option linter.unusedSimpArgs false
set_option linter.unusedVariables false
namespace Go.Proofs.Ytejedmocjdcdgaa.D
open Go Go.Det

/-- a number, limited to most on both sides -/
def clampI (most x : Int) : Int := if -most < (if x < most then x else most) then (if x < most then x else most) else -most
/-- by how much the change number k is moved -/
def mvAt (l : List Int) (most : Int) (k : Nat) : Int := if l.length = 0 then 0 else clampI most (l.getD (k % l.length) 0)
def shk (l : List Int) (most : Int) : Nat → List Int → List Int
  | _, [] => []
  | k, x :: r => (x + mvAt l most k) :: shk l most (k + 1) r
def anyM (l : List Int) (most : Int) : Nat → Nat → Bool
  | _, 0 => false
  | k, n + 1 => (mvAt l most k != 0) || anyM l most (k + 1) n

theorem clamp_bnd (most x : Int) (h : 0 ≤ most) : -most ≤ clampI most x ∧ clampI most x ≤ most := by
  unfold clampI; split <;> split at * <;> omega
theorem mv_bnd (l : List Int) (most : Int) (h : 0 ≤ most) (k : Nat) : -most ≤ mvAt l most k ∧ mvAt l most k ≤ most := by
  unfold mvAt
  split
  · omega
  · exact clamp_bnd most _ h
theorem shk_len (l : List Int) (most : Int) (s : List Int) : ∀ k, (shk l most k s).length = s.length := by
  induction s with
  | nil => intro k; rfl
  | cons x r ih => intro k; simp [shk, ih]
theorem shk_ok (l : List Int) (most : Int) (h : 0 ≤ most) (h3 : most ≤ 3) (t : List Int) : ∀ (a m0 : Int) (k : Nat), -3 ≤ m0 → m0 ≤ 3 → (∀ p ∈ t, 8 ≤ p ∧ p ≤ 307) → Ok (difs (a + m0) (shk l most k (sums a t))) := by
  induction t with
  | nil => intro a m0 k _ _ _ p hp; simp [sums, shk, difs] at hp
  | cons p t ih =>
    intro a m0 k h1 h2 hp q hq
    have hb := mv_bnd l most h k
    have h8 := hp p (by simp)
    simp only [sums, shk, difs, List.mem_cons] at hq
    rcases hq with rfl | hq
    · omega
    · exact ih (a + p) (mvAt l most k) (k + 1) (by omega) (by omega) (fun x hx => hp x (by simp [hx])) q hq
theorem shk_near (l : List Int) (most : Int) (h : 0 ≤ most) (s : List Int) : ∀ k, nears most s (shk l most k s) = true := by
  induction s with
  | nil => intro k; rfl
  | cons x r ih =>
    intro k
    have hb := mv_bnd l most h k
    simp only [shk, nears, ih, Bool.and_true, Bool.and_eq_true, decide_eq_true_eq]
    omega
theorem shk_near0 (l : List Int) (most : Int) (s : List Int) : ∀ k, nears 0 s (shk l most k s) = !(anyM l most k s.length) := by
  induction s with
  | nil => intro k; rfl
  | cons x r ih =>
    intro k
    simp only [shk, nears, ih, List.length_cons, anyM]
    by_cases hm : mvAt l most k = 0
    · have e1 : decide (x - (x + mvAt l most k) ≤ 0) = true := by simp; omega
      have e2 : decide (x + mvAt l most k - x ≤ 0) = true := by simp; omega
      rw [e1, e2, hm]; simp
    · have hne : (mvAt l most k != 0) = true := by simpa using hm
      rw [hne]
      by_cases hp : 0 < mvAt l most k
      · have e2 : decide (x + mvAt l most k - x ≤ 0) = false := by simp; omega
        rw [e2]; simp
      · have e1 : decide (x - (x + mvAt l most k) ≤ 0) = false := by simp; omega
        rw [e1]; simp
theorem shk_eq (l : List Int) (most : Int) (s : List Int) : ∀ k, (s = shk l most k s) ↔ anyM l most k s.length = false := by
  induction s with
  | nil => intro k; simp [shk, anyM]
  | cons x r ih =>
    intro k
    simp only [shk, List.length_cons, anyM, List.cons.injEq, Bool.or_eq_false_iff, ih (k + 1)]
    have : x = x + mvAt l most k ↔ (mvAt l most k != 0) = false := by simp; omega
    rw [this]

theorem shake_l0 (n0 : Nat) (l : List Int) (u : Value) (most : Int) (h0 : 0 ≤ most) (h3 : most ≤ 1000) (hll : l.length ≤ 4611686018427387904) (v : Value) (rest : List Int) : ∀ (pre : List Int) (H : AH) (i N : Int) (Q : XExit → Fr → AH → Prop), OwnI n0 H v (pre ++ rest) → n0 ≤ H.n →
    Ints H u l → (∀ b, inB u b → b < n0) → pre.length + rest.length ≤ 40000 → (∀ x ∈ rest, 0 ≤ x ∧ x ≤ 10000000000) → i = (pre.length : Int) → N = ((pre ++ rest).length : Int) →
    (∀ H', OwnI n0 H' v (pre ++ shk l most pre.length rest) → Keep n0 H H' → Q (.exit 0) [(1, u), (2, .int .i64 most), (8, v), (26, .int .i64 N), (27, .int .i64 N), (28, .bool false)] H') →
    Run Try.prog tab (.loop xflux_Shake_l0) [(1, u), (2, .int .i64 most), (8, v), (26, .int .i64 N), (27, .int .i64 i)] H Q := by
  induction rest with
  | nil =>
    intro pre H i N Q ho hH hu hub hl hb hi hN hq
    rw [run_loop]
    generalize hL : XCode.loop xflux_Shake_l0 = L
    have hiN : i = N := by simp at hN; omega
    subst hiN
    have hf : ¬ i < i := by omega
    simp only [xflux_Shake_l0, ofArgs, run_seq, run_block, run_ops, run_skip, run_exit, run_ret, thenQ_normal, thenQ_exit, thenQ_ret, blockQ_normal, blockQ_exit, blockQ_ret, retQ_ret, retQ_normal, ops_nil, ops_none, got_some, ops_wT, ops_wTn, ops_wF, ops_wFn, ops_wU, dops_wT, dops_wTn, dops_wF, dops_wFn, dops_wU, run_condT, run_condF, alt2_int, altB_bool, altI_int, altBB_bool, v_min, v_max, v_not, v_neg, optEv_none, optEv_some, isSome'_none, isSome'_some, pExt0, pExt1, pExt2, Bool.false_and, Bool.true_and, Bool.not_true, Bool.not_false, cond_true, cond_false, dops_nil, dops_none, xval_call, v_mov, v_bin, v_len, v_ext, v_idxA, v_ld, v_st, v_app, v_appN, v_cvs, v_bs1, pBs1, v_slc, v_conv, v_fld, v_fldA, v_new, v_box, v_mks, v_copy, v_isnil, v_nilck, v_pick, ev, evs_nil, evs_cons, fr_get_cons, fr_put_nil, fr_put_cons, fr_put_some, fr_put_none, fr_keep_nil, fr_keep_cons, fr_has_nil, fr_has_cons, Option.bind_some, Option.map_some, xbin, ibin, xresult_eq, xress_nil, xress_tmp, resV, ex_some, if_true, if_false, ite_true, ite_false, reduceIte, reduceCtorEq, Nat.reduceEqDiff, Nat.reduceLT, Nat.reduceLeDiff, Int.reduceLT, Int.reduceLE, Nat.zero_add, Nat.reduceAdd, Bool.false_eq_true, decide_eq_true_eq, decide_eq_false_iff_not, true_implies, false_implies, and_true, true_and, hf, decide_false]
    have := hq H (by simpa [shk] using ho) (.refl _ _)
    simpa using this
  | cons a rest ih =>
    intro pre H i N Q ho hH hu hub hl hb hi hN hq
    simp only [List.length_cons] at hl
    rw [run_loop]
    generalize hL : XCode.loop xflux_Shake_l0 = L
    have hlt : i < N := by simp at hN; omega
    have ha := hb a (by simp)
    have hs := ho.ints
    have n1 := ints_len hu
    have e4 := wrI (i + 1) (by omega) (by omega)
    by_cases hl0 : l.length = 0
    · have c1 : ¬ (l.length : Int) > 0 := by omega
      simp only [xflux_Shake_l0, ofArgs, run_seq, run_block, run_ops, run_skip, run_exit, run_ret, thenQ_normal, thenQ_exit, thenQ_ret, blockQ_normal, blockQ_exit, blockQ_ret, retQ_ret, retQ_normal, ops_nil, ops_none, got_some, ops_wT, ops_wTn, ops_wF, ops_wFn, ops_wU, dops_wT, dops_wTn, dops_wF, dops_wFn, dops_wU, run_condT, run_condF, alt2_int, altB_bool, altI_int, altBB_bool, v_min, v_max, v_not, v_neg, optEv_none, optEv_some, isSome'_none, isSome'_some, pExt0, pExt1, pExt2, Bool.false_and, Bool.true_and, Bool.not_true, Bool.not_false, cond_true, cond_false, dops_nil, dops_none, xval_call, v_mov, v_bin, v_len, v_ext, v_idxA, v_ld, v_st, v_app, v_appN, v_cvs, v_bs1, pBs1, v_slc, v_conv, v_fld, v_fldA, v_new, v_box, v_mks, v_copy, v_isnil, v_nilck, v_pick, ev, evs_nil, evs_cons, fr_get_cons, fr_put_nil, fr_put_cons, fr_put_some, fr_put_none, fr_keep_nil, fr_keep_cons, fr_has_nil, fr_has_cons, Option.bind_some, Option.map_some, xbin, ibin, xresult_eq, xress_nil, xress_tmp, resV, ex_some, if_true, if_false, ite_true, ite_false, reduceIte, reduceCtorEq, Nat.reduceEqDiff, Nat.reduceLT, Nat.reduceLeDiff, Int.reduceLT, Int.reduceLE, Nat.zero_add, Nat.reduceAdd, Bool.false_eq_true, decide_eq_true_eq, decide_eq_false_iff_not, true_implies, false_implies, and_true, true_and, hlt, decide_true, n1, c1, decide_false, e4]
      subst hL
      have em : mvAt l most pre.length = 0 := by simp [mvAt, hl0]
      refine ih (pre ++ [a]) H (i + 1) N Q (by simpa [OwnI] using ho) hH hu hub (by simp; omega) (fun x hx => hb x (by simp [hx])) (by simp; omega) (by simpa using hN) ?_
      intro H2 o2 k2
      refine hq H2 ?_ k2
      simpa [shk, em] using o2
    · have c1 : (l.length : Int) > 0 := by omega
      have c2 : ¬ (l.length : Int) = 0 := by omega
      have hmod : pre.length % l.length < l.length := Nat.mod_lt _ (by omega)
      have er : Int.tmod i (l.length : Int) = ((pre.length % l.length : Nat) : Int) := by rw [hi, Int.ofNat_tmod]
      have e1 := ints_idx hs i pre.length hi (by simp)
      have e2 := ints_ld hs pre.length a (by simp)
      have e3 := ints_idx hu ((pre.length % l.length : Nat) : Int) (pre.length % l.length) rfl hmod
      have e5 := ints_ld hu (pre.length % l.length) (l.getD (pre.length % l.length) 0) (by rw [List.getD_eq_getElem?_getD, List.getElem?_eq_getElem hmod]; rfl)
      have e6 := wrI (-most) (by omega) (by omega)
      have hmv : mvAt l most pre.length = clampI most (l.getD (pre.length % l.length) 0) := by unfold mvAt; rw [if_neg hl0]
      have hbnd := mv_bnd l most h0 pre.length
      have e7 := wrI (a + mvAt l most pre.length) (by omega) (by omega)
      rw [hmv] at e7
      unfold clampI at e7
      simp only [xflux_Shake_l0, ofArgs, run_seq, run_block, run_ops, run_skip, run_exit, run_ret, thenQ_normal, thenQ_exit, thenQ_ret, blockQ_normal, blockQ_exit, blockQ_ret, retQ_ret, retQ_normal, ops_nil, ops_none, got_some, ops_wT, ops_wTn, ops_wF, ops_wFn, ops_wU, dops_wT, dops_wTn, dops_wF, dops_wFn, dops_wU, run_condT, run_condF, alt2_int, altB_bool, altI_int, altBB_bool, v_min, v_max, v_not, v_neg, optEv_none, optEv_some, isSome'_none, isSome'_some, pExt0, pExt1, pExt2, Bool.false_and, Bool.true_and, Bool.not_true, Bool.not_false, cond_true, cond_false, dops_nil, dops_none, xval_call, v_mov, v_bin, v_len, v_ext, v_idxA, v_ld, v_st, v_app, v_appN, v_cvs, v_bs1, pBs1, v_slc, v_conv, v_fld, v_fldA, v_new, v_box, v_mks, v_copy, v_isnil, v_nilck, v_pick, ev, evs_nil, evs_cons, fr_get_cons, fr_put_nil, fr_put_cons, fr_put_some, fr_put_none, fr_keep_nil, fr_keep_cons, fr_has_nil, fr_has_cons, Option.bind_some, Option.map_some, xbin, ibin, xresult_eq, xress_nil, xress_tmp, resV, ex_some, if_true, if_false, ite_true, ite_false, reduceIte, reduceCtorEq, Nat.reduceEqDiff, Nat.reduceLT, Nat.reduceLeDiff, Int.reduceLT, Int.reduceLE, Nat.zero_add, Nat.reduceAdd, Bool.false_eq_true, decide_eq_true_eq, decide_eq_false_iff_not, true_implies, false_implies, and_true, true_and, hlt, decide_true, n1, c1]
      refine run_dops _ _ _ _ _ rfl ?_
      simp only [ofArgs, run_seq, run_block, run_ops, run_skip, run_exit, run_ret, thenQ_normal, thenQ_exit, thenQ_ret, blockQ_normal, blockQ_exit, blockQ_ret, retQ_ret, retQ_normal, ops_nil, ops_none, got_some, ops_wT, ops_wTn, ops_wF, ops_wFn, ops_wU, dops_wT, dops_wTn, dops_wF, dops_wFn, dops_wU, run_condT, run_condF, alt2_int, altB_bool, altI_int, altBB_bool, v_min, v_max, v_not, v_neg, optEv_none, optEv_some, isSome'_none, isSome'_some, pExt0, pExt1, pExt2, Bool.false_and, Bool.true_and, Bool.not_true, Bool.not_false, cond_true, cond_false, dops_nil, dops_none, xval_call, v_mov, v_bin, v_len, v_ext, v_idxA, v_ld, v_st, v_app, v_appN, v_cvs, v_bs1, pBs1, v_slc, v_conv, v_fld, v_fldA, v_new, v_box, v_mks, v_copy, v_isnil, v_nilck, v_pick, ev, evs_nil, evs_cons, fr_get_cons, fr_put_nil, fr_put_cons, fr_put_some, fr_put_none, fr_keep_nil, fr_keep_cons, fr_has_nil, fr_has_cons, Option.bind_some, Option.map_some, xbin, ibin, xresult_eq, xress_nil, xress_tmp, resV, ex_some, if_true, if_false, ite_true, ite_false, reduceIte, reduceCtorEq, Nat.reduceEqDiff, Nat.reduceLT, Nat.reduceLeDiff, Int.reduceLT, Int.reduceLE, Nat.zero_add, Nat.reduceAdd, Bool.false_eq_true, decide_eq_true_eq, decide_eq_false_iff_not, true_implies, false_implies, and_true, true_and, n1, c2, er, e1, e2, e3, e5, e6, e7, e4]
      refine pSt_own ho (by simp) rfl rfl ?_
      intro H' ho' hs'
      have hk := hs'.keep ho hH
      subst hL
      have ho2 : OwnI n0 H' v ((pre ++ [a + mvAt l most pre.length]) ++ rest) := by
        have el : ((pre ++ [a + mvAt l most pre.length]) ++ rest).length = (pre ++ a :: rest).length := by simp
        unfold OwnI
        rw [el]
        have em : ((pre ++ [a + mvAt l most pre.length]) ++ rest).map (Value.int .i64) = ((pre ++ a :: rest).map (Value.int .i64)).set pre.length (.int .i64 (a + mvAt l most pre.length)) := by simp
        rw [em, hmv]; exact ho'
      refine ih (pre ++ [a + mvAt l most pre.length]) H' (i + 1) N Q ho2 (by have := hk.1; omega) (Ints.keep hu hk hub) hub (by simp; omega) (fun x hx => hb x (by simp [hx])) (by simp; omega) (by simpa using hN) ?_
      intro H2 ho3 hk2
      refine hq H2 ?_ (hk.trans hk2)
      simpa [shk] using ho3

theorem shake_ok (t l : List Int) (most : Int) (s u : Value) (H : AH) (Q : Value → AH → Prop) (hs : Ints H s t) (hu : Ints H u l) (hll : l.length ≤ 4611686018427387904) (h0 : 0 ≤ most) (h3 : most ≤ 1000) (hl : t.length ≤ 40000) (ht : Ok t)
    (hok : Ok (difs 0 (shk l most 0 (sums 0 t))))
    (hq : ∀ v H', OwnI H.n H' v (difs 0 (shk l most 0 (sums 0 t))) → HExt H H' → Q (.tuple [v, .int .i64 0].toArray) H') : Got (xc Try.prog tab 27 [s, u, .int .i64 most] H) Q := by
  refine got_call (res := [.tmp 6, .tmp 7]) rfl ?_
  simp only [ofArgs, run_seq, run_block, run_ops, run_skip, run_exit, run_ret, thenQ_normal, thenQ_exit, thenQ_ret, blockQ_normal, blockQ_exit, blockQ_ret, retQ_ret, retQ_normal, ops_nil, ops_none, got_some, ops_wT, ops_wTn, ops_wF, ops_wFn, ops_wU, dops_wT, dops_wTn, dops_wF, dops_wFn, dops_wU, run_condT, run_condF, alt2_int, altB_bool, altI_int, altBB_bool, v_min, v_max, v_not, v_neg, optEv_none, optEv_some, isSome'_none, isSome'_some, pExt0, pExt1, pExt2, Bool.false_and, Bool.true_and, Bool.not_true, Bool.not_false, cond_true, cond_false, dops_nil, dops_none, xval_call, v_mov, v_bin, v_len, v_ext, v_idxA, v_ld, v_st, v_app, v_appN, v_cvs, v_bs1, pBs1, v_slc, v_conv, v_fld, v_fldA, v_new, v_box, v_mks, v_copy, v_isnil, v_nilck, v_pick, ev, evs_nil, evs_cons, fr_get_cons, fr_put_nil, fr_put_cons, fr_put_some, fr_put_none, fr_keep_nil, fr_keep_cons, fr_has_nil, fr_has_cons, Option.bind_some, Option.map_some, xbin, ibin, xresult_eq, xress_nil, xress_tmp, resV, ex_some, if_true, if_false, ite_true, ite_false, reduceIte, reduceCtorEq, Nat.reduceEqDiff, Nat.reduceLT, Nat.reduceLeDiff, Int.reduceLT, Int.reduceLE, Nat.zero_add, Nat.reduceAdd, Bool.false_eq_true, decide_eq_true_eq, decide_eq_false_iff_not, true_implies, false_implies, and_true, true_and]
  refine marks_ok t s H _ hs hl ht ?_
  intro v1 H1 o1 x1
  have c1 : ¬ most < 0 := by omega
  have c2 : ¬ most > 100000 := by omega
  have n1 := ints_len o1.ints
  simp only [ofArgs, run_seq, run_block, run_ops, run_skip, run_exit, run_ret, thenQ_normal, thenQ_exit, thenQ_ret, blockQ_normal, blockQ_exit, blockQ_ret, retQ_ret, retQ_normal, ops_nil, ops_none, got_some, ops_wT, ops_wTn, ops_wF, ops_wFn, ops_wU, dops_wT, dops_wTn, dops_wF, dops_wFn, dops_wU, run_condT, run_condF, alt2_int, altB_bool, altI_int, altBB_bool, v_min, v_max, v_not, v_neg, optEv_none, optEv_some, isSome'_none, isSome'_some, pExt0, pExt1, pExt2, Bool.false_and, Bool.true_and, Bool.not_true, Bool.not_false, cond_true, cond_false, dops_nil, dops_none, xval_call, v_mov, v_bin, v_len, v_ext, v_idxA, v_ld, v_st, v_app, v_appN, v_cvs, v_bs1, pBs1, v_slc, v_conv, v_fld, v_fldA, v_new, v_box, v_mks, v_copy, v_isnil, v_nilck, v_pick, ev, evs_nil, evs_cons, fr_get_cons, fr_put_nil, fr_put_cons, fr_put_some, fr_put_none, fr_keep_nil, fr_keep_cons, fr_has_nil, fr_has_cons, Option.bind_some, Option.map_some, xbin, ibin, xresult_eq, xress_nil, xress_tmp, resV, ex_some, if_true, if_false, ite_true, ite_false, reduceIte, reduceCtorEq, Nat.reduceEqDiff, Nat.reduceLT, Nat.reduceLeDiff, Int.reduceLT, Int.reduceLE, Nat.zero_add, Nat.reduceAdd, Bool.false_eq_true, decide_eq_true_eq, decide_eq_false_iff_not, true_implies, false_implies, and_true, true_and, c1, c2, n1, decide_false, bne_self_eq_false]
  refine shake_l0 H.n l u most h0 h3 hll v1 (sums 0 t) [] H1 _ _ _ o1 x1.1 (hext_ints x1 hu) (fun b hb => hu.lt b hb) (by simp [sums_len]; omega) (fun x hx => by have := sums_bnd t 0 (by omega) ht x hx; omega) (by simp) (by simp) ?_
  intro H2 o2 k2
  simp only [ofArgs, run_seq, run_block, run_ops, run_skip, run_exit, run_ret, thenQ_normal, thenQ_exit, thenQ_ret, blockQ_normal, blockQ_exit, blockQ_ret, retQ_ret, retQ_normal, ops_nil, ops_none, got_some, ops_wT, ops_wTn, ops_wF, ops_wFn, ops_wU, dops_wT, dops_wTn, dops_wF, dops_wFn, dops_wU, run_condT, run_condF, alt2_int, altB_bool, altI_int, altBB_bool, v_min, v_max, v_not, v_neg, optEv_none, optEv_some, isSome'_none, isSome'_some, pExt0, pExt1, pExt2, Bool.false_and, Bool.true_and, Bool.not_true, Bool.not_false, cond_true, cond_false, dops_nil, dops_none, xval_call, v_mov, v_bin, v_len, v_ext, v_idxA, v_ld, v_st, v_app, v_appN, v_cvs, v_bs1, pBs1, v_slc, v_conv, v_fld, v_fldA, v_new, v_box, v_mks, v_copy, v_isnil, v_nilck, v_pick, ev, evs_nil, evs_cons, fr_get_cons, fr_put_nil, fr_put_cons, fr_put_some, fr_put_none, fr_keep_nil, fr_keep_cons, fr_has_nil, fr_has_cons, Option.bind_some, Option.map_some, xbin, ibin, xresult_eq, xress_nil, xress_tmp, resV, ex_some, if_true, if_false, ite_true, ite_false, reduceIte, reduceCtorEq, Nat.reduceEqDiff, Nat.reduceLT, Nat.reduceLeDiff, Int.reduceLT, Int.reduceLE, Nat.zero_add, Nat.reduceAdd, Bool.false_eq_true, decide_eq_true_eq, decide_eq_false_iff_not, true_implies, false_implies, and_true, true_and]
  simp only [List.nil_append, List.length_nil] at o2
  refine of_ok _ v1 H2 _ o2.ints (by simp [shk_len, sums_len]; omega) hok ?_
  intro v3 H3 o3 x3
  simp only [ofArgs, run_seq, run_block, run_ops, run_skip, run_exit, run_ret, thenQ_normal, thenQ_exit, thenQ_ret, blockQ_normal, blockQ_exit, blockQ_ret, retQ_ret, retQ_normal, ops_nil, ops_none, got_some, ops_wT, ops_wTn, ops_wF, ops_wFn, ops_wU, dops_wT, dops_wTn, dops_wF, dops_wFn, dops_wU, run_condT, run_condF, alt2_int, altB_bool, altI_int, altBB_bool, v_min, v_max, v_not, v_neg, optEv_none, optEv_some, isSome'_none, isSome'_some, pExt0, pExt1, pExt2, Bool.false_and, Bool.true_and, Bool.not_true, Bool.not_false, cond_true, cond_false, dops_nil, dops_none, xval_call, v_mov, v_bin, v_len, v_ext, v_idxA, v_ld, v_st, v_app, v_appN, v_cvs, v_bs1, pBs1, v_slc, v_conv, v_fld, v_fldA, v_new, v_box, v_mks, v_copy, v_isnil, v_nilck, v_pick, ev, evs_nil, evs_cons, fr_get_cons, fr_put_nil, fr_put_cons, fr_put_some, fr_put_none, fr_keep_nil, fr_keep_cons, fr_has_nil, fr_has_cons, Option.bind_some, Option.map_some, xbin, ibin, xresult_eq, xress_nil, xress_tmp, resV, ex_some, if_true, if_false, ite_true, ite_false, reduceIte, reduceCtorEq, Nat.reduceEqDiff, Nat.reduceLT, Nat.reduceLeDiff, Int.reduceLT, Int.reduceLE, Nat.zero_add, Nat.reduceAdd, Bool.false_eq_true, decide_eq_true_eq, decide_eq_false_iff_not, true_implies, false_implies, and_true, true_and]
  have hn2 : H.n ≤ H2.n := Nat.le_trans x1.1 k2.1
  exact hq v3 H3 (o3.le hn2) ((Keep.ext (x1.keep (Nat.le_refl _) |>.trans k2)).trans x3)
end Go.Proofs.Ytejedmocjdcdgaa.D

set_option linter.unusedSimpArgs false
set_option linter.unusedVariables false
namespace Go.Proofs.Ytejedmocjdcdgaa.D
open Go Go.Det

theorem pNil_ptr (a : Addr) (H : AH) : pNil (.pointer (some a)) H = some (.pointer (some a), H) := rfl
theorem pFldA_ptr (off B o : Nat) (H : AH) : pFldA off (.pointer (some ⟨B, o, none⟩)) H = some (.pointer (some ⟨B, o + off, none⟩), H) := rfl
theorem pLd_box {H : AH} {B : Nat} {v : Value} {sz : Nat} {opn ro : Bool} (h : H.get B = some ⟨[v], sz, opn, ro⟩) : pLd none (.pointer (some ⟨B, 0, none⟩)) H = some (v, H) := by
  unfold pLd
  simp only [h, Option.bind_some, partV]
  rfl
theorem pSt_box {H : AH} {B : Nat} {v u : Value} {sz : Nat} {opn : Bool} (h : H.get B = some ⟨[v], sz, opn, false⟩) (h1 : one u = true) (h2 : vcells u = [u]) : pSt 1 (.pointer (some ⟨B, 0, none⟩)) u H = some (undef, H.set B ⟨[u], sz, opn, false⟩) := by
  unfold pSt
  simp only [h, Option.bind_some, h2, List.length_singleton, List.all_cons, List.all_nil, h1]
  rfl

theorem Sl.set {H : AH} {B sz n : Nat} {s : Value} {cs : List Value} {blk : Blk} (h : Sl H sz s n cs) (hB : ¬ inB s B) : Sl (H.set B blk) sz s n cs := by
  have hg : ∀ b, inB s b → (H.set B blk).get b = H.get b := by
    intro b hb
    rw [AH.get_set, if_neg (fun e : b = B => hB (by rw [← e]; exact hb))]
  rcases h with h | ⟨C, o, h1, h2, h3, h4⟩ | ⟨C, o, c, b, h1, h2, h3, h4⟩
  · exact .inl h
  · exact .inr (.inl ⟨C, o, h1, h2, (hg C ⟨_, _, _, h1⟩).trans h3, h4⟩)
  · exact .inr (.inr ⟨C, o, c, b, h1, h2, (hg C ⟨_, _, _, h1⟩).trans h3, h4⟩)

/-- a stream of numbers: a box with what is left -/
structure Strm (n0 : Nat) (H : AH) (B : Nat) (v : Value) (l : List Int) : Prop where
  nb : n0 ≤ B
  lt : B < H.n
  box : H.get B = some ⟨[v], 1, false, false⟩
  ints : Ints H v l
  out : ∀ b, inB v b → b < n0

theorem sl_slice {H : AH} {sz n : Nat} {s : Value} {cs : List Value} (h : Sl H sz s n cs) : one s = true ∧ vcells s = [s] := by
  rcases h with ⟨rfl, _⟩ | ⟨B, o, rfl, _⟩ | ⟨B, o, c, blk, rfl, _⟩ <;> exact ⟨rfl, rfl⟩

theorem next_ok (n0 B : Nat) (v : Value) (l : List Int) (n : Int) (hn : 0 < n) (hn' : n < 1000000) (H : AH) (Q : Value → AH → Prop) (hs : Strm n0 H B v l)
    (hq : ∀ v' H', H'.n = H.n → (∀ b, b ≠ B → H'.get b = H.get b) → Strm n0 H' B v' l.tail → Q (.int .i64 (l.headD 0 % n)) H') : Got (xc Try.prog tab 67 [.pointer (some ⟨B, 0, none⟩), .int .i64 n] H) Q := by
  refine got_call (res := [.tmp 4]) rfl ?_
  have c1 : ¬ n < 1 := by omega
  have e1 := pLd_box hs.box
  have e2 := ints_len hs.ints
  cases l with
  | nil =>
    have := hq v H rfl (fun _ _ => rfl) hs
    simp only [ofArgs, run_seq, run_block, run_ops, run_skip, run_exit, run_ret, thenQ_normal, thenQ_exit, thenQ_ret, blockQ_normal, blockQ_exit, blockQ_ret, retQ_ret, retQ_normal, ops_nil, ops_none, got_some, ops_wT, ops_wTn, ops_wF, ops_wFn, ops_wU, dops_wT, dops_wTn, dops_wF, dops_wFn, dops_wU, run_condT, run_condF, alt2_int, altB_bool, altI_int, altBB_bool, v_min, v_max, v_not, v_neg, optEv_none, optEv_some, isSome'_none, isSome'_some, pExt0, pExt1, pExt2, Bool.false_and, Bool.true_and, Bool.not_true, Bool.not_false, cond_true, cond_false, dops_nil, dops_none, xval_call, v_mov, v_bin, v_len, v_ext, v_idxA, v_ld, v_st, v_app, v_appN, v_cvs, v_bs1, pBs1, v_slc, v_conv, v_fld, v_fldA, v_new, v_box, v_mks, v_copy, v_isnil, v_nilck, v_pick, ev, evs_nil, evs_cons, fr_get_cons, fr_put_nil, fr_put_cons, fr_put_some, fr_put_none, fr_keep_nil, fr_keep_cons, fr_has_nil, fr_has_cons, Option.bind_some, Option.map_some, xbin, ibin, xresult_eq, xress_nil, xress_tmp, resV, ex_some, if_true, if_false, ite_true, ite_false, reduceIte, reduceCtorEq, Nat.reduceEqDiff, Nat.reduceLT, Nat.reduceLeDiff, Int.reduceLT, Int.reduceLE, Nat.zero_add, Nat.reduceAdd, Bool.false_eq_true, decide_eq_true_eq, decide_eq_false_iff_not, true_implies, false_implies, and_true, true_and, pNil_ptr, pFldA_ptr, Nat.add_zero, e1, e2, c1, decide_false, List.length_nil, Int.ofNat_zero, Int.natCast_zero, beq_self_eq_true]
    simpa using this
  | cons x r =>
    have c2 : (((x :: r).length : Int) == 0) = false := by simp; omega
    have e3 := ints_idx hs.ints 0 0 rfl (by simp)
    have e4 := ints_ld hs.ints 0 x rfl
    have e5 := fun H => below_xc x n H hn hn'
    obtain ⟨s', k1, k2, k3, _⟩ := xslc_ok (lo := some (.int .i64 1)) (hi := none) (i := 1) (h := (x :: r).length) hs.ints rfl rfl (by simp) (Nat.le_refl _)
    have k2' : Ints H s' r := by
      unfold Ints
      have e : (r.map (Value.int .i64)).take r.length = r.map (Value.int .i64) := List.take_of_length_le (by simp)
      simpa [e] using k2
    obtain ⟨o1, o2⟩ := sl_slice k2'
    have e6 := pSt_box hs.box o1 o2
    simp only [ofArgs, run_seq, run_block, run_ops, run_skip, run_exit, run_ret, thenQ_normal, thenQ_exit, thenQ_ret, blockQ_normal, blockQ_exit, blockQ_ret, retQ_ret, retQ_normal, ops_nil, ops_none, got_some, ops_wT, ops_wTn, ops_wF, ops_wFn, ops_wU, dops_wT, dops_wTn, dops_wF, dops_wFn, dops_wU, run_condT, run_condF, alt2_int, altB_bool, altI_int, altBB_bool, v_min, v_max, v_not, v_neg, optEv_none, optEv_some, isSome'_none, isSome'_some, pExt0, pExt1, pExt2, Bool.false_and, Bool.true_and, Bool.not_true, Bool.not_false, cond_true, cond_false, dops_nil, dops_none, xval_call, v_mov, v_bin, v_len, v_ext, v_idxA, v_ld, v_st, v_app, v_appN, v_cvs, v_bs1, pBs1, v_slc, v_conv, v_fld, v_fldA, v_new, v_box, v_mks, v_copy, v_isnil, v_nilck, v_pick, ev, evs_nil, evs_cons, fr_get_cons, fr_put_nil, fr_put_cons, fr_put_some, fr_put_none, fr_keep_nil, fr_keep_cons, fr_has_nil, fr_has_cons, Option.bind_some, Option.map_some, xbin, ibin, xresult_eq, xress_nil, xress_tmp, resV, ex_some, if_true, if_false, ite_true, ite_false, reduceIte, reduceCtorEq, Nat.reduceEqDiff, Nat.reduceLT, Nat.reduceLeDiff, Int.reduceLT, Int.reduceLE, Nat.zero_add, Nat.reduceAdd, Bool.false_eq_true, decide_eq_true_eq, decide_eq_false_iff_not, true_implies, false_implies, and_true, true_and, pNil_ptr, pFldA_ptr, Nat.add_zero, e1, e2, e3, e4, e5, c1, c2, k1, e6, decide_false]
    refine hq s' (H.set B ⟨[s'], 1, false, false⟩) rfl (fun b hb => by rw [AH.get_set, if_neg hb]) ⟨hs.nb, hs.lt, by rw [AH.get_set, if_pos rfl], ?_, fun b hb => hs.out b ((k3 b).1 hb)⟩
    refine Sl.set k2' (fun hb => ?_)
    have := hs.out B ((k3 B).1 hb)
    have := hs.nb
    omega

/-- slices of bytes -/
def Byts (H : AH) (v : Value) (l : List Int) : Prop := Sl H 1 v l.length (l.map (.int .u8))
def OwnB (n0 : Nat) (H : AH) (v : Value) (l : List Int) : Prop := Own n0 1 H v l.length (l.map (.int .u8))
/-- numbers that are bytes -/
def B8 (l : List Int) : Prop := ∀ b ∈ l, 0 ≤ b ∧ b < 256
/-- the bytes that a stream gives -/
def byts : Nat → List Int → List Int
  | 0, _ => []
  | k + 1, l => (l.headD 0 % 256) :: byts k l.tail
theorem byts_len (k : Nat) : ∀ l, (byts k l).length = k := by
  induction k with
  | zero => intro l; rfl
  | succ k ih => intro l; simp [byts, ih]
theorem byts_b8 (k : Nat) : ∀ l, B8 (byts k l) := by
  induction k with
  | zero => intro l b hb; simp [byts] at hb
  | succ k ih =>
    intro l b hb
    simp only [byts, List.mem_cons] at hb
    rcases hb with rfl | hb
    · exact ⟨Int.emod_nonneg _ (by omega), Int.emod_lt_of_pos _ (by omega)⟩
    · exact ih _ b hb
theorem wrU8 (n : Int) (h0 : 0 ≤ n) (h1 : n < 256) : IntKind.u8.wrap n = n := by
  show (if (false && decide (n % (2 ^ 8 : Int) ≥ (2 ^ 7 : Int))) = true then n % (2 ^ 8 : Int) - (2 ^ 8 : Int) else n % (2 ^ 8 : Int)) = n
  rw [show (2 : Int) ^ 8 = 256 from rfl]
  simp only [Bool.false_and, Bool.false_eq_true, if_false]
  omega

theorem Own.set {H : AH} {n0 sz n : Nat} {s : Value} {cs : List Value} {H' : AH} (h : Own n0 sz H s n cs) (hn : H'.n = H.n) (hg : ∀ b, inB s b → H'.get b = H.get b) : Own n0 sz H' s n cs := by
  obtain ⟨h1, h2⟩ := h
  refine ⟨?_, fun C o l c e => ?_⟩
  · rcases h1 with h | ⟨C, o, h1, h2, h3, h4⟩ | ⟨C, o, c, b, h1, h2, h3, h4⟩
    · exact .inl h
    · exact .inr (.inl ⟨C, o, h1, by omega, (hg C ⟨_, _, _, h1⟩).trans h3, h4⟩)
    · exact .inr (.inr ⟨C, o, c, b, h1, by omega, (hg C ⟨_, _, _, h1⟩).trans h3, h4⟩)
  · obtain ⟨a, blk, b, c⟩ := h2 C o l c e
    exact ⟨a, blk, (hg C ⟨_, _, _, e⟩).trans b, c⟩

theorem pMks_ok (z : Value) (k : Nat) (hk : k ≤ 140737488355328) (kd : IntKind) (H : AH) (m : Int) (hm : m = (k : Int)) : pMks 1 1 [z] (.int kd m) (.int kd m) H = some (.slice (some ⟨H.n, 0, none⟩) k k, H.push ⟨rep k [z], 1, false, false⟩) := by
  subst hm
  show (bif Nat.ble k k && Nat.ble (k * 1) 140737488355328 && Nat.ble k 140737488355328 then some (Value.slice (some ⟨H.n, 0, none⟩) k k, H.push ⟨rep k [z], 1, false, false⟩) else none) = _
  rw [ble_of (Nat.le_refl k), ble_of (by omega : k * 1 ≤ 140737488355328), ble_of hk]
  rfl
theorem rep_one (z : Value) (k : Nat) : rep k [z] = List.replicate k z := by
  induction k with
  | zero => rfl
  | succ k ih => simp [rep, ih, List.replicate_succ]

def pMk1 (v : Value) (H : AH) : Option (Value × AH) :=
  match vcells v with
  | [u] => bif one u then some (.agg [u].toArray, H) else none
  | _ => none
theorem v_mk1 {P : Program} {T : XTab} (fr : Fr) (H : AH) (dd : Option Nat) (x : Operand) (z : Value) : xval P (xc P T) ⟨dd, .build [z] [(0, 1, x)], none⟩ fr H = (ev fr x).bind fun v => pMk1 v H := by
  rw [xval_op dd _ fr H rfl, e_build]
  rcases hx : ev fr x with _ | v
  · simp [xfill, hx]
  · simp only [Option.bind_some, pMk1, xfill, hx]
    rcases vcells v with _ | ⟨u, _ | ⟨u2, r⟩⟩
    · rfl
    · cases h : one u
      · simp [h]
      · simp [h, splice, show Nat.ble 1 1 = true from rfl]
    · have hb : (u :: u2 :: r).length.beq 1 = false := by rw [Tr.beq_eq]; simp
      simp only [hb, Bool.false_and, cond_false]
      rfl
theorem pMk1_slice {v : Value} (H : AH) (h1 : one v = true) (h2 : vcells v = [v]) : pMk1 v H = some (.agg [v].toArray, H) := by
  unfold pMk1
  rw [h2]
  simp only [h1, cond_true]
theorem box1 (v : Value) (H : AH) : vcells (.agg [v].toArray) = [v] := rfl

end Go.Proofs.Ytejedmocjdcdgaa.D

set_option linter.unusedSimpArgs false
set_option linter.unusedVariables false
namespace Go.Proofs.Ytejedmocjdcdgaa.D
open Go Go.Det

/-- one step of the sum -/
def crcStep (x : Nat) : Nat := if 65535 < x * 2 then (x * 2) ^^^ 69665 else x * 2
def crcRounds : Nat → Nat → Nat
  | 0, x => x
  | k + 1, x => crcRounds k (crcStep x)
/-- the sum with a further byte -/
def nx (s c : Nat) : Nat := crcRounds 8 ((s &&& 65535) ^^^ (c * 256))

theorem crcStep_lt (x : Nat) (h : x < 65536) : crcStep x < 65536 := by
  unfold crcStep
  split
  · have h1 : ((x * 2) ^^^ 69665) = ((x * 2 - 65536) ^^^ 4129) := by
      have e1 : x * 2 = 2 ^ 16 * 1 + (x * 2 - 65536) := by omega
      have e2 : (69665 : Nat) = 2 ^ 16 * 1 + 4129 := by decide
      apply Nat.eq_of_testBit_eq
      intro b
      rw [Nat.testBit_xor, Nat.testBit_xor]
      rcases Nat.lt_or_ge b 16 with hb | hb
      · have a1 : (x * 2).testBit b = (x * 2 - 65536).testBit b := by
          conv => lhs; rw [e1]
          rw [Nat.testBit_two_pow_mul_add _ (by omega), if_pos hb]
        have a2 : (69665 : Nat).testBit b = (4129 : Nat).testBit b := by
          rw [e2, Nat.testBit_two_pow_mul_add _ (by omega), if_pos hb]
        rw [a1, a2]
      · have a1 : (x * 2).testBit b = (1 : Nat).testBit (b - 16) := by
          conv => lhs; rw [e1]
          rw [Nat.testBit_two_pow_mul_add _ (by omega), if_neg (by omega)]
        have a2 : (69665 : Nat).testBit b = (1 : Nat).testBit (b - 16) := by
          rw [e2, Nat.testBit_two_pow_mul_add _ (by omega), if_neg (by omega)]
        have a3 : (x * 2 - 65536).testBit b = false := Nat.testBit_lt_two_pow (Nat.lt_of_lt_of_le (by omega : x * 2 - 65536 < 2 ^ 16) (Nat.pow_le_pow_right (by omega) hb))
        have a4 : (4129 : Nat).testBit b = false := Nat.testBit_lt_two_pow (Nat.lt_of_lt_of_le (by omega : 4129 < 2 ^ 16) (Nat.pow_le_pow_right (by omega) hb))
        rw [a1, a2, a3, a4]; simp
    rw [h1]
    exact Nat.xor_lt_two_pow (n := 16) (by omega) (by omega)
  · omega

theorem nx_lt0 (s c : Nat) (hc : c < 256) : (s &&& 65535) ^^^ (c * 256) < 65536 :=
  Nat.xor_lt_two_pow (n := 16) (Nat.lt_of_le_of_lt Nat.and_le_right (by omega)) (by omega)
theorem rounds_lt (k : Nat) : ∀ x, x < 65536 → crcRounds k x < 65536 := by
  induction k with
  | zero => intro x h; exact h
  | succ k ih => intro x h; exact ih _ (crcStep_lt x h)
theorem nx_lt (s c : Nat) (hc : c < 256) : nx s c < 65536 := rounds_lt 8 _ (nx_lt0 s c hc)

end Go.Proofs.Ytejedmocjdcdgaa.D

set_option linter.unusedSimpArgs false
set_option linter.unusedVariables false
namespace Go.Proofs.Ytejedmocjdcdgaa.D
open Go Go.Det

theorem byts_idx {H : AH} {s : Value} {l : List Int} (h : Byts H s l) (i : Int) (k : Nat) (hi : i = (k : Int)) (hk : k < l.length) : pIdx 1 s (.int .i64 i) H = some (ptrAt s k, H) := pIdx_one h .i64 i k hi hk
theorem byts_ld {H : AH} {s : Value} {l : List Int} (h : Byts H s l) (k : Nat) (a : Int) (ha : l[k]? = some a) : pLd none (ptrAt s k) H = some (.int .u8 a, H) := pLd_one h k _ (by simp [ha])
theorem byts_len' {H : AH} {s : Value} {l : List Int} (hs : Byts H s l) : pLen s H = some (.int .i64 (l.length : Int), H) := pLen_ok hs
theorem Byts.app1 {H : AH} {s : Value} {pre rest : List Int} {a : Int} (hs : Byts H s (pre ++ a :: rest)) : Byts H s ((pre ++ [a]) ++ rest) := by
  rw [List.append_assoc]; exact hs

def crcFold (s : Nat) (l : List Int) : Nat := l.foldl (fun s c => nx s c.toNat) s
theorem crcFold_cons (s : Nat) (c : Int) (l : List Int) : crcFold s (c :: l) = crcFold (nx s c.toNat) l := by
  unfold crcFold; rw [List.foldl_cons]
theorem crcFold_lt (l : List Int) (h : B8 l) : ∀ s, s < 65536 → crcFold s l < 65536 := by
  induction l with
  | nil => intro s hs; exact hs
  | cons c l ih =>
    intro s hs
    have hc := h c (by simp)
    have hn := nx_lt s c.toNat (by omega)
    rw [crcFold_cons]
    generalize nx s c.toNat = y at hn
    exact ih (fun b hb => h b (by simp [hb])) y hn

def xorFold (s : Nat) (l : List Int) : Nat := l.foldl (fun s c => s ^^^ c.toNat) s
theorem xorFold_cons (s : Nat) (c : Int) (l : List Int) : xorFold s (c :: l) = xorFold (s ^^^ c.toNat) l := by
  unfold xorFold; rw [List.foldl_cons]
theorem xor_l0 (s : Value) (H : AH) (rest : List Int) : ∀ (pre : List Int) (x : Nat) (i N : Int) (Q : XExit → Fr → AH → Prop), Byts H s (pre ++ rest) → B8 rest → x < 256 → pre.length + rest.length ≤ 100000000 → i = (pre.length : Int) → N = ((pre ++ rest).length : Int) →
    Q (.exit 0) [(3, .int .i64 (xorFold x rest : Nat)), (6, s), (7, .int .i64 N), (8, .int .i64 N), (9, .bool false)] H → Run Try.prog tab (.loop xcrc_Xor_l0) [(3, .int .i64 (x : Nat)), (6, s), (7, .int .i64 N), (8, .int .i64 i)] H Q := by
  induction rest with
  | nil =>
    intro pre x i N Q hs hb hx hl hi hN hq
    rw [run_loop]
    generalize hL : XCode.loop xcrc_Xor_l0 = L
    have hiN : i = N := by simp at hN; omega
    subst hiN
    have hf : ¬ i < i := by omega
    simp only [xcrc_Xor_l0, ofArgs, run_seq, run_block, run_ops, run_skip, run_exit, run_ret, thenQ_normal, thenQ_exit, thenQ_ret, blockQ_normal, blockQ_exit, blockQ_ret, retQ_ret, retQ_normal, ops_nil, ops_none, got_some, ops_wT, ops_wTn, ops_wF, ops_wFn, ops_wU, dops_wT, dops_wTn, dops_wF, dops_wFn, dops_wU, run_condT, run_condF, alt2_int, altB_bool, altI_int, altBB_bool, v_min, v_max, v_not, v_neg, optEv_none, optEv_some, isSome'_none, isSome'_some, pExt0, pExt1, pExt2, Bool.false_and, Bool.true_and, Bool.not_true, Bool.not_false, cond_true, cond_false, dops_nil, dops_none, xval_call, v_mov, v_bin, v_len, v_ext, v_idxA, v_ld, v_st, v_app, v_appN, v_cvs, v_bs1, pBs1, v_slc, v_conv, v_fld, v_fldA, v_new, v_box, v_mks, v_copy, v_isnil, v_nilck, v_pick, ev, evs_nil, evs_cons, fr_get_cons, fr_put_nil, fr_put_cons, fr_put_some, fr_put_none, fr_keep_nil, fr_keep_cons, fr_has_nil, fr_has_cons, Option.bind_some, Option.map_some, xbin, ibin, xresult_eq, xress_nil, xress_tmp, resV, ex_some, if_true, if_false, ite_true, ite_false, reduceIte, reduceCtorEq, Nat.reduceEqDiff, Nat.reduceLT, Nat.reduceLeDiff, Int.reduceLT, Int.reduceLE, Nat.zero_add, Nat.reduceAdd, Bool.false_eq_true, decide_eq_true_eq, decide_eq_false_iff_not, true_implies, false_implies, and_true, true_and, hf, decide_false]
    simpa [xorFold] using hq
  | cons a rest ih =>
    intro pre x i N Q hs hb hx hl hi hN hq
    simp only [List.length_cons] at hl
    rw [run_loop]
    generalize hL : XCode.loop xcrc_Xor_l0 = L
    have hlt : i < N := by simp at hN; omega
    have ha := hb a (by simp)
    have e1 := byts_idx hs i pre.length hi (by simp)
    have e2 := byts_ld hs pre.length a (by simp)
    have e4 := wrI (i + 1) (by omega) (by omega)
    have e3 := wrI a (by omega) (by omega)
    have e5 := w_xor (x : Int) a (by omega) (by omega) (by omega) (by omega)
    simp only [xcrc_Xor_l0, ofArgs, run_seq, run_block, run_ops, run_skip, run_exit, run_ret, thenQ_normal, thenQ_exit, thenQ_ret, blockQ_normal, blockQ_exit, blockQ_ret, retQ_ret, retQ_normal, ops_nil, ops_none, got_some, ops_wT, ops_wTn, ops_wF, ops_wFn, ops_wU, dops_wT, dops_wTn, dops_wF, dops_wFn, dops_wU, run_condT, run_condF, alt2_int, altB_bool, altI_int, altBB_bool, v_min, v_max, v_not, v_neg, optEv_none, optEv_some, isSome'_none, isSome'_some, pExt0, pExt1, pExt2, Bool.false_and, Bool.true_and, Bool.not_true, Bool.not_false, cond_true, cond_false, dops_nil, dops_none, xval_call, v_mov, v_bin, v_len, v_ext, v_idxA, v_ld, v_st, v_app, v_appN, v_cvs, v_bs1, pBs1, v_slc, v_conv, v_fld, v_fldA, v_new, v_box, v_mks, v_copy, v_isnil, v_nilck, v_pick, ev, evs_nil, evs_cons, fr_get_cons, fr_put_nil, fr_put_cons, fr_put_some, fr_put_none, fr_keep_nil, fr_keep_cons, fr_has_nil, fr_has_cons, Option.bind_some, Option.map_some, xbin, ibin, xresult_eq, xress_nil, xress_tmp, resV, ex_some, if_true, if_false, ite_true, ite_false, reduceIte, reduceCtorEq, Nat.reduceEqDiff, Nat.reduceLT, Nat.reduceLeDiff, Int.reduceLT, Int.reduceLE, Nat.zero_add, Nat.reduceAdd, Bool.false_eq_true, decide_eq_true_eq, decide_eq_false_iff_not, true_implies, false_implies, and_true, true_and, pConv, hlt, decide_true, e1, e2, e3, e4, e5, Int.toNat_natCast]
    subst hL
    have hn : x ^^^ a.toNat < 256 := Nat.xor_lt_two_pow (n := 8) (by omega) (by omega)
    rw [xorFold_cons] at hq
    generalize x ^^^ a.toNat = y at hn hq
    exact ih (pre ++ [a]) y (i + 1) N Q (Byts.app1 hs) (fun p hp => hb p (by simp [hp])) hn (by simp; omega) (by simp; omega) (by simpa using hN) hq

theorem xor_xc (l : List Int) (s : Value) (H : AH) (hs : Byts H s l) (hb : B8 l) (hl : l.length ≤ 100000000) : xc Try.prog tab 69 [s] H = some (.int .i64 (xorFold 0 l : Nat), H) := by
  refine got_xc (got_call (res := [.tmp 2]) rfl ?_)
  have e4 := byts_len' hs
  simp only [ofArgs, run_seq, run_block, run_ops, run_skip, run_exit, run_ret, thenQ_normal, thenQ_exit, thenQ_ret, blockQ_normal, blockQ_exit, blockQ_ret, retQ_ret, retQ_normal, ops_nil, ops_none, got_some, ops_wT, ops_wTn, ops_wF, ops_wFn, ops_wU, dops_wT, dops_wTn, dops_wF, dops_wFn, dops_wU, run_condT, run_condF, alt2_int, altB_bool, altI_int, altBB_bool, v_min, v_max, v_not, v_neg, optEv_none, optEv_some, isSome'_none, isSome'_some, pExt0, pExt1, pExt2, Bool.false_and, Bool.true_and, Bool.not_true, Bool.not_false, cond_true, cond_false, dops_nil, dops_none, xval_call, v_mov, v_bin, v_len, v_ext, v_idxA, v_ld, v_st, v_app, v_appN, v_cvs, v_bs1, pBs1, v_slc, v_conv, v_fld, v_fldA, v_new, v_box, v_mks, v_copy, v_isnil, v_nilck, v_pick, ev, evs_nil, evs_cons, fr_get_cons, fr_put_nil, fr_put_cons, fr_put_some, fr_put_none, fr_keep_nil, fr_keep_cons, fr_has_nil, fr_has_cons, Option.bind_some, Option.map_some, xbin, ibin, xresult_eq, xress_nil, xress_tmp, resV, ex_some, if_true, if_false, ite_true, ite_false, reduceIte, reduceCtorEq, Nat.reduceEqDiff, Nat.reduceLT, Nat.reduceLeDiff, Int.reduceLT, Int.reduceLE, Nat.zero_add, Nat.reduceAdd, Bool.false_eq_true, decide_eq_true_eq, decide_eq_false_iff_not, true_implies, false_implies, and_true, true_and, e4]
  refine xor_l0 s H l [] 0 _ _ _ hs hb (by omega) (by simpa using hl) (by simp) (by simp) ?_
  simp only [ofArgs, run_seq, run_block, run_ops, run_skip, run_exit, run_ret, thenQ_normal, thenQ_exit, thenQ_ret, blockQ_normal, blockQ_exit, blockQ_ret, retQ_ret, retQ_normal, ops_nil, ops_none, got_some, ops_wT, ops_wTn, ops_wF, ops_wFn, ops_wU, dops_wT, dops_wTn, dops_wF, dops_wFn, dops_wU, run_condT, run_condF, alt2_int, altB_bool, altI_int, altBB_bool, v_min, v_max, v_not, v_neg, optEv_none, optEv_some, isSome'_none, isSome'_some, pExt0, pExt1, pExt2, Bool.false_and, Bool.true_and, Bool.not_true, Bool.not_false, cond_true, cond_false, dops_nil, dops_none, xval_call, v_mov, v_bin, v_len, v_ext, v_idxA, v_ld, v_st, v_app, v_appN, v_cvs, v_bs1, pBs1, v_slc, v_conv, v_fld, v_fldA, v_new, v_box, v_mks, v_copy, v_isnil, v_nilck, v_pick, ev, evs_nil, evs_cons, fr_get_cons, fr_put_nil, fr_put_cons, fr_put_some, fr_put_none, fr_keep_nil, fr_keep_cons, fr_has_nil, fr_has_cons, Option.bind_some, Option.map_some, xbin, ibin, xresult_eq, xress_nil, xress_tmp, resV, ex_some, if_true, if_false, ite_true, ite_false, reduceIte, reduceCtorEq, Nat.reduceEqDiff, Nat.reduceLT, Nat.reduceLeDiff, Int.reduceLT, Int.reduceLE, Nat.zero_add, Nat.reduceAdd, Bool.false_eq_true, decide_eq_true_eq, decide_eq_false_iff_not, true_implies, false_implies, and_true, true_and]

theorem b8_sum (l : List Int) (hb : B8 l) : 0 ≤ l.sum ∧ l.sum ≤ 256 * (l.length : Int) := by
  induction l with
  | nil => simp
  | cons a l ih =>
    have ha := hb a (by simp)
    have := ih (fun b h => hb b (by simp [h]))
    simp only [List.sum_cons, List.length_cons]
    omega

end Go.Proofs.Ytejedmocjdcdgaa.D

set_option linter.unusedSimpArgs false
set_option linter.unusedVariables false
namespace Go.Proofs.Ytejedmocjdcdgaa.D
open Go Go.Det

/-- some bytes of raw numbers -/
def someB (l : List Int) (n : Int) : List Int := byts (l.headD 0 % n).toNat l
theorem someB_b8 (l : List Int) (n : Int) : B8 (someB l n) := byts_b8 _ _
theorem someB_len (l : List Int) (n : Int) (hn : 0 < n) (hn' : n ≤ 1000000) : (someB l n).length < n.toNat := by
  have h1 := Int.emod_lt_of_pos (l.headD 0) hn
  have h0 := Int.emod_nonneg (l.headD 0) (by omega : n ≠ 0)
  unfold someB
  rw [byts_len]; omega

end Go.Proofs.Ytejedmocjdcdgaa.D

set_option linter.unusedSimpArgs false
set_option linter.unusedVariables false
namespace Go.Proofs.Ytejedmocjdcdgaa.D
open Go Go.Det

end Go.Proofs.Ytejedmocjdcdgaa.D

set_option linter.unusedSimpArgs false
set_option linter.unusedVariables false
namespace Go.Proofs.Ytejedmocjdcdgaa.D
open Go Go.Det

theorem u8s_one (l : List Int) : (l.map (Value.int .u8)).all one = true := ints_one l .u8

end Go.Proofs.Ytejedmocjdcdgaa.D

set_option linter.unusedSimpArgs false
set_option linter.unusedVariables false
namespace Go.Proofs.Ytejedmocjdcdgaa.D
open Go Go.Det

theorem crcFold_app (l m : List Int) (s : Nat) : crcFold s (l ++ m) = crcFold (crcFold s l) m := by
  unfold crcFold; rw [List.foldl_append]
theorem xorFold_app (m : List Int) : ∀ s t : Nat, xorFold (s ^^^ t) m = s ^^^ xorFold t m := by
  induction m with
  | nil => intro s t; rfl
  | cons a m ih => intro s t; rw [xorFold_cons, xorFold_cons, Nat.xor_assoc, ih]
theorem xorFold_join (l m : List Int) : xorFold 0 (l ++ m) = xorFold 0 l ^^^ xorFold 0 m := by
  have h1 : xorFold 0 (l ++ m) = xorFold (xorFold 0 l) m := by unfold xorFold; rw [List.foldl_append]
  have h2 := xorFold_app m (xorFold 0 l) 0
  rw [Nat.xor_zero] at h2
  rw [h1, h2]
theorem xorFold_lt (l : List Int) (h : B8 l) : ∀ s, s < 256 → xorFold s l < 256 := by
  induction l with
  | nil => intro s hs; exact hs
  | cons c l ih =>
    intro s hs
    have hc := h c (by simp)
    rw [xorFold_cons]
    exact ih (fun b hb => h b (by simp [hb])) _ (Nat.xor_lt_two_pow (n := 8) (by omega) (by omega))

theorem v_bsl2 {P : Program} {T : XTab} (fr : Fr) (H : AH) (dd : Option Nat) (e : TypeId) (z u v : Value) (x y : Operand) (hx : ev fr x = some u) (hy : ev fr y = some v) (h1 : one u = true) (h2 : vcells u = [u]) (h3 : one v = true) (h4 : vcells v = [v]) :
    xval P (xc P T) ⟨dd, .bslice e 1 2 [z] [(0, x), (1, y)], none⟩ fr H = some (.slice (some ⟨H.n, 0, none⟩) 2 2, H.push ⟨[u, v], 1, false, false⟩) := by
  rw [xval_op dd _ fr H rfl, e_bslice]
  simp only [List.map_cons, List.map_nil, rep, List.append_nil, xfill, hx, hy, h2, h4, List.all_cons, List.all_nil, h1, h3]
  rfl

end Go.Proofs.Ytejedmocjdcdgaa.D

set_option linter.unusedSimpArgs false
set_option linter.unusedVariables false
namespace Go.Proofs.Ytejedmocjdcdgaa.D
open Go Go.Det
/-! ### the sum is linear over the exclusive or -/
theorem step_bit (x j : Nat) (h : x < 65536) : (crcStep x).testBit j = (decide (j < 16) && ((decide (1 ≤ j) && x.testBit (j - 1)) ^^ (x.testBit 15 && (4129 : Nat).testBit j))) := by
  have hm : (x * 2).testBit j = (decide (1 ≤ j) && x.testBit (j - 1)) := by
    have := Nat.testBit_mul_two_pow x j 1
    simpa using this
  have hx : ∀ i, 16 ≤ i → x.testBit i = false := fun i hi => Nat.testBit_lt_two_pow (Nat.lt_of_lt_of_le (by omega : x < 2 ^ 16) (Nat.pow_le_pow_right (by omega) hi))
  unfold crcStep
  split
  · rename_i hc
    have h15 : x.testBit 15 = true := by
      rw [Nat.testBit_eq_decide_div_mod_eq]; simp; omega
    rw [Nat.testBit_xor, hm, h15]
    rcases Nat.lt_or_ge j 16 with hj | hj
    · have a2 : (69665 : Nat).testBit j = (4129 : Nat).testBit j := by
        have e2 : (69665 : Nat) = 2 ^ 16 * 1 + 4129 := by decide
        rw [e2, Nat.testBit_two_pow_mul_add _ (by omega), if_pos hj]
      rw [a2]; simp [hj]
    · have hn : ¬ j < 16 := by omega
      simp only [hn, decide_false, Bool.false_and]
      rcases Nat.eq_or_lt_of_le hj with e | e
      · subst e; rw [show 16 - 1 = 15 from rfl, h15]; decide
      · rw [hx (j - 1) (by omega)]
        have : (69665 : Nat).testBit j = false := Nat.testBit_lt_two_pow (Nat.lt_of_lt_of_le (by omega : 69665 < 2 ^ 17) (Nat.pow_le_pow_right (by omega) e))
        rw [this]; simp
  · rename_i hc
    have h15 : x.testBit 15 = false := by
      rw [Nat.testBit_eq_decide_div_mod_eq]; simp; omega
    rw [hm, h15]
    rcases Nat.lt_or_ge j 16 with hj | hj
    · simp [hj]
    · have hn : ¬ j < 16 := by omega
      have : x.testBit (j - 1) = false := Nat.testBit_lt_two_pow (Nat.lt_of_lt_of_le (by omega : x < 2 ^ 15) (Nat.pow_le_pow_right (by omega) (by omega)))
      simp [hn, this]
theorem step_xor (a b : Nat) (ha : a < 65536) (hb : b < 65536) : crcStep (a ^^^ b) = crcStep a ^^^ crcStep b := by
  have hab : a ^^^ b < 65536 := Nat.xor_lt_two_pow (n := 16) (by omega) (by omega)
  apply Nat.eq_of_testBit_eq
  intro j
  rw [Nat.testBit_xor (crcStep a), step_bit _ _ hab, step_bit _ _ ha, step_bit _ _ hb, Nat.testBit_xor, Nat.testBit_xor]
  cases decide (j < 16) <;> cases decide (1 ≤ j) <;> cases a.testBit (j - 1) <;> cases b.testBit (j - 1) <;> cases a.testBit 15 <;> cases b.testBit 15 <;> cases (4129 : Nat).testBit j <;> rfl
theorem step_zero (x : Nat) (h : x < 65536) (hz : crcStep x = 0) : x = 0 := by
  have h0 := step_bit x 0 h
  rw [hz] at h0
  have h15 : x.testBit 15 = false := by
    have : (4129 : Nat).testBit 0 = true := by decide
    simpa [this] using h0
  apply Nat.eq_of_testBit_eq
  intro j
  rw [Nat.zero_testBit]
  have h1 := step_bit x (j + 1) h
  rw [hz, h15] at h1
  rcases Nat.lt_or_ge j 15 with hj | hj
  · simpa [show j + 1 < 16 by omega] using h1
  · rcases Nat.eq_or_lt_of_le hj with e | e
    · subst e; exact h15
    · exact Nat.testBit_lt_two_pow (Nat.lt_of_lt_of_le (by omega : x < 2 ^ 16) (Nat.pow_le_pow_right (by omega) (by omega)))
theorem rounds_xor (k : Nat) : ∀ a b, a < 65536 → b < 65536 → crcRounds k (a ^^^ b) = crcRounds k a ^^^ crcRounds k b := by
  induction k with
  | zero => intro a b _ _; rfl
  | succ k ih => intro a b ha hb; simp only [crcRounds]; rw [step_xor a b ha hb, ih _ _ (crcStep_lt a ha) (crcStep_lt b hb)]
theorem rounds_ne (k : Nat) : ∀ a, a < 65536 → a ≠ 0 → crcRounds k a ≠ 0 := by
  induction k with
  | zero => intro a _ h; exact h
  | succ k ih => intro a ha h; exact ih _ (crcStep_lt a ha) (fun e => h (step_zero a ha e))
theorem rounds_zero (k : Nat) : crcRounds k 0 = 0 := by
  induction k with
  | zero => rfl
  | succ k ih => exact ih
theorem rounds_add (a b : Nat) : ∀ x, crcRounds (a + b) x = crcRounds b (crcRounds a x) := by
  induction a with
  | zero => intro x; rw [Nat.zero_add]; rfl
  | succ a ih => intro x; rw [Nat.succ_add]; exact ih _
theorem rounds_pow (k : Nat) : ∀ j, j + k ≤ 15 → crcRounds k (2 ^ j) = 2 ^ (j + k) := by
  induction k with
  | zero => intro j _; rfl
  | succ k ih =>
    intro j hj
    have hp : crcStep (2 ^ j) = 2 ^ (j + 1) := by
      unfold crcStep
      have h1 : 2 ^ j ≤ 2 ^ 14 := Nat.pow_le_pow_right (by omega) (by omega)
      rw [if_neg (by omega), Nat.pow_succ]
    show crcRounds k (crcStep (2 ^ j)) = _
    rw [hp, ih (j + 1) (by omega)]; congr 1; omega
theorem and16 (s : Nat) (h : s < 65536) : s &&& 65535 = s := by
  rw [Nat.and_two_pow_sub_one_eq_mod s 16]; omega
theorem x16 {a b : Nat} (ha : a < 65536) (hb : b < 65536) : a ^^^ b < 65536 := Nat.xor_lt_two_pow (n := 16) (by omega) (by omega)
theorem nx_xor (s t c m : Nat) (hs : s < 65536) (ht : t < 65536) (hc : c < 256) (hm : m < 256) : nx (s ^^^ t) (c ^^^ m) = nx s c ^^^ crcRounds 8 (t ^^^ m * 256) := by
  unfold nx
  rw [and16 _ (x16 hs ht), and16 _ hs, ← rounds_xor 8 _ _ (x16 hs (by omega)) (x16 ht (by omega))]
  congr 1
  have : (c ^^^ m) * 256 = c * 256 ^^^ m * 256 := by
    have := Nat.shiftLeft_xor_distrib (a := c) (b := m) (i := 8)
    simpa [Nat.shiftLeft_eq] using this
  rw [this]
  rw [Nat.xor_assoc, Nat.xor_assoc]; congr 1
  rw [← Nat.xor_assoc, Nat.xor_comm t, Nat.xor_assoc]
theorem crcFold_xor (l : List Int) (hb : B8 l) : ∀ s t, s < 65536 → t < 65536 → crcFold (s ^^^ t) l = crcFold s l ^^^ crcRounds (8 * l.length) t := by
  induction l with
  | nil => intro s t _ _; rfl
  | cons c l ih =>
    intro s t hs ht
    have hc := hb c (by simp)
    have h1 := nx_xor s t c.toNat 0 hs ht (by omega) (by omega)
    simp only [Nat.xor_zero, Nat.zero_mul] at h1
    rw [crcFold_cons, crcFold_cons, h1]
    have h2 := nx_lt s c.toNat (by omega)
    have h3 := rounds_lt 8 t ht
    rw [ih (fun b h => hb b (by simp [h])) _ _ h2 h3, List.length_cons, Nat.mul_succ, Nat.add_comm, rounds_add]
theorem crcFold_set (l : List Int) (hb : B8 l) (m : Nat) (hm : m < 256) : ∀ (q s : Nat), s < 65536 → q < l.length →
    crcFold s (l.set q (((l.getD q 0).toNat ^^^ m : Nat) : Int)) = crcFold s l ^^^ crcRounds (8 * (l.length - q)) (m * 256) := by
  induction l with
  | nil => intro q s _ h; simp at h
  | cons c l ih =>
    intro q s hs hq
    have hc := hb c (by simp)
    have hb' : B8 l := fun b h => hb b (by simp [h])
    have h2 := nx_lt s c.toNat (by omega)
    cases q with
    | zero =>
      simp only [List.set_cons_zero, List.getD_cons_zero, List.length_cons, Nat.sub_zero]
      rw [crcFold_cons, crcFold_cons, Int.toNat_natCast]
      have h1 := nx_xor s 0 c.toNat m hs (by omega) (by omega) hm
      rw [Nat.xor_zero, Nat.zero_xor] at h1
      have h3 := rounds_lt 8 (m * 256) (by omega)
      rw [h1, crcFold_xor l hb' _ _ h2 h3, show 8 * (l.length + 1) = 8 + 8 * l.length by omega, rounds_add]
    | succ q =>
      simp only [List.set_cons_succ, List.getD_cons_succ, List.length_cons, Nat.succ_sub_succ]
      rw [crcFold_cons, crcFold_cons]
      generalize nx s c.toNat = y at h2
      exact ih hb' q y h2 (by simpa using hq)

/-! ### bits -/
def flip (l : List Int) (i : Nat) : List Int := l.set (i / 8) (((l.getD (i / 8) 0).toNat ^^^ (128 >>> (i % 8)) : Nat) : Int)
def flips (l : List Int) (at' ch : Nat) : Nat → List Int
  | 0 => l
  | k + 1 => if ch.testBit k then flip (flips l at' ch k) (at' + k) else flips l at' ch k
def chs (ch : Nat) : Nat → Nat
  | 0 => 0
  | k + 1 => if ch.testBit k then chs ch k ^^^ 2 ^ (15 - k) else chs ch k
def bitAt (l : List Int) (i : Nat) : Bool := (l.getD (i / 8) 0).toNat.testBit (7 - i % 8)
theorem shr128 (r : Nat) (h : r < 8) : 128 >>> r = 2 ^ (7 - r) := by
  revert h; revert r; decide
theorem shr_lt (r : Nat) : 128 >>> r < 256 := by
  rw [Nat.shiftRight_eq_div_pow]
  exact Nat.lt_of_le_of_lt (Nat.div_le_self _ _) (by omega)
theorem flip_len (l : List Int) (i : Nat) : (flip l i).length = l.length := by unfold flip; simp
theorem b8_get (l : List Int) (hb : B8 l) (q : Nat) : 0 ≤ l.getD q 0 ∧ l.getD q 0 < 256 := by
  rw [List.getD_eq_getElem?_getD]
  cases h : l[q]? with
  | none => simp
  | some a => exact hb a (List.mem_of_getElem? h)
theorem b8_set (l : List Int) (hb : B8 l) (q : Nat) (a : Int) (h0 : 0 ≤ a) (h1 : a < 256) : B8 (l.set q a) := by
  intro b h
  rcases List.mem_or_eq_of_mem_set h with h | h
  · exact hb b h
  · subst h; exact ⟨h0, h1⟩
theorem x8 {a b : Nat} (ha : a < 256) (hb : b < 256) : a ^^^ b < 256 := Nat.xor_lt_two_pow (n := 8) (by omega) (by omega)
theorem flip_b8 (l : List Int) (hb : B8 l) (i : Nat) : B8 (flip l i) := by
  have := b8_get l hb (i / 8)
  have h1 := x8 (a := (l.getD (i / 8) 0).toNat) (b := 128 >>> (i % 8)) (by omega) (shr_lt _)
  exact b8_set l hb _ _ (by omega) (by omega)
theorem flips_len (l : List Int) (a ch : Nat) : ∀ k, (flips l a ch k).length = l.length := by
  intro k
  induction k with
  | zero => rfl
  | succ k ih => simp only [flips]; split <;> simp [flip_len, ih]
theorem flips_b8 (l : List Int) (hb : B8 l) (a ch : Nat) : ∀ k, B8 (flips l a ch k) := by
  intro k
  induction k with
  | zero => exact hb
  | succ k ih => simp only [flips]; split; exact flip_b8 _ ih _; exact ih
theorem crc_flip (l : List Int) (hb : B8 l) (a k s : Nat) (hs : s < 65536) (hk : k ≤ 15) (hi : a + k < 8 * l.length) : crcFold s (flip l (a + k)) = crcFold s l ^^^ crcRounds (8 * l.length - a) (2 ^ (15 - k)) := by
  have e3 : 8 * l.length - a = k + (8 * l.length - (a + k)) := by omega
  rw [e3, rounds_add, rounds_pow _ _ (by omega)]
  rw [show 15 - k + k = 15 by omega]
  clear e3
  generalize a + k = i at hi
  have h := crcFold_set l hb (128 >>> (i % 8)) (shr_lt _) (i / 8) s hs (by omega)
  unfold flip
  rw [h, shr128 _ (by omega)]
  clear h
  congr 1
  have e2 : 8 * (l.length - i / 8) = i % 8 + (8 * l.length - i) := by omega
  have e1 : 2 ^ (7 - i % 8) * 256 = 2 ^ (15 - i % 8) := by
    rw [show 256 = 2 ^ 8 from rfl, ← Nat.pow_add]; congr 1; omega
  rw [e1, e2, rounds_add, rounds_pow _ _ (by omega)]
  congr 2; omega
theorem chs_lt (ch : Nat) : ∀ k, chs ch k < 65536 := by
  intro k
  induction k with
  | zero => simp [chs]
  | succ k ih =>
    simp only [chs]; split
    · exact x16 ih (Nat.lt_of_le_of_lt (Nat.pow_le_pow_right (by omega) (by omega : 15 - k ≤ 15)) (by omega))
    · exact ih
theorem chs_bit (ch : Nat) : ∀ k, k ≤ 16 → ∀ j, j ≤ 15 → (chs ch k).testBit (15 - j) = (decide (j < k) && ch.testBit j) := by
  intro k
  induction k with
  | zero => intro _ j _; simp [chs]
  | succ k ih =>
    intro hk j hj
    have := ih (by omega) j hj
    simp only [chs]
    split
    · rename_i hb
      rw [Nat.testBit_xor, this, Nat.testBit_two_pow]
      by_cases e : j = k
      · subst e; simp [hb]
      · have e1 : ¬ (15 - k = 15 - j) := by omega
        have e2 : decide (j < k + 1) = decide (j < k) := by simp; omega
        simp [e1, e2]
    · rename_i hb
      rw [this]
      by_cases e : j = k
      · subst e; simp [hb]
      · have e2 : decide (j < k + 1) = decide (j < k) := by simp; omega
        rw [e2]
theorem chs_ne (ch : Nat) (h0 : ch ≠ 0) (h1 : ch < 65536) : chs ch 16 ≠ 0 := by
  obtain ⟨j, hj⟩ := Nat.exists_testBit_of_ne_zero h0
  have hj16 : j < 16 := by
    rcases Nat.lt_or_ge j 16 with h | h
    · exact h
    · have : ch.testBit j = false := Nat.testBit_lt_two_pow (Nat.lt_of_lt_of_le (by omega : ch < 2 ^ 16) (Nat.pow_le_pow_right (by omega) h))
      rw [this] at hj; cases hj
  intro e
  have := chs_bit ch 16 (by omega) j (by omega)
  rw [e, hj] at this
  simp [hj16] at this
theorem crc_flips (l : List Int) (hb : B8 l) (a ch s : Nat) (hs : s < 65536) (ha : a + 16 ≤ 8 * l.length) : ∀ k, k ≤ 16 → crcFold s (flips l a ch k) = crcFold s l ^^^ crcRounds (8 * l.length - a) (chs ch k) := by
  intro k
  induction k with
  | zero => intro _; simp only [flips, chs]; rw [rounds_zero, Nat.xor_zero]
  | succ k ih =>
    intro hk
    have h := ih (by omega)
    simp only [flips, chs]
    split
    · have hl := flips_len l a ch k
      have h2 := crc_flip (flips l a ch k) (flips_b8 l hb a ch k) a k s hs (by omega) (by omega)
      have h3 : 2 ^ (15 - k) < 65536 := Nat.lt_of_le_of_lt (Nat.pow_le_pow_right (by omega) (by omega : 15 - k ≤ 15)) (by omega)
      rw [h2, h, hl, rounds_xor _ _ _ (chs_lt ch k) h3, Nat.xor_assoc]
    · exact h
theorem bit_flip (l : List Int) (i j : Nat) (hi : i < 8 * l.length) : bitAt (flip l i) j = (bitAt l j ^^ decide (i = j)) := by
  unfold bitAt flip
  by_cases h : i / 8 = j / 8
  · rw [h, List.getD_eq_getElem?_getD, List.getElem?_set_self (by omega), Option.getD_some, Int.toNat_natCast, Nat.testBit_xor, shr128 _ (by omega), Nat.testBit_two_pow]
    congr 1
    apply decide_eq_decide.2
    omega
  · have : ¬ i = j := fun e => h (by rw [e])
    rw [List.getD_eq_getElem?_getD, List.getElem?_set_ne h, ← List.getD_eq_getElem?_getD]
    simp [this]
theorem bit_flips (l : List Int) (a ch j : Nat) (ha : a + 16 ≤ 8 * l.length) : ∀ k, k ≤ 16 → bitAt (flips l a ch k) j = (bitAt l j ^^ (decide (a ≤ j) && decide (j < a + k) && ch.testBit (j - a))) := by
  intro k
  induction k with
  | zero =>
    intro _
    simp only [flips]
    have h2 : (decide (a ≤ j) && decide (j < a + 0)) = false := by
      by_cases h : a ≤ j
      · have : ¬ j < a + 0 := by omega
        simp [this]
      · simp [h]
    rw [h2, Bool.false_and, Bool.xor_false]
  | succ k ih =>
    intro hk
    have h := ih (by omega)
    simp only [flips]
    split
    · rename_i hb
      rw [bit_flip _ _ _ (by rw [flips_len]; omega), h]
      by_cases e : a + k = j
      · subst e; simp [hb]
      · have e2 : decide (j < a + (k + 1)) = decide (j < a + k) := by simp; omega
        simp [e, e2]
    · rename_i hb
      rw [h]
      by_cases e : a + k = j
      · subst e; simp [hb]
      · have e2 : decide (j < a + (k + 1)) = decide (j < a + k) := by simp; omega
        rw [e2]

/-! ### the burst -/
def bf (p : Nat → Bool) : Nat → Int × Int
  | 0 => (-1, -1)
  | n + 1 => if p n then (if (bf p n).1 < 0 then (n : Int) else (bf p n).1, (n : Int)) else bf p n
def bv (p : Nat → Bool) (n : Nat) : Int := if (bf p n).1 < 0 then 0 else (bf p n).2 - (bf p n).1 + 1
theorem bf_range (p : Nat → Bool) (n : Nat) : (bf p n).1 < 0 ∧ (bf p n).1 = -1 ∧ (bf p n).2 = -1 ∨ 0 ≤ (bf p n).1 ∧ (bf p n).1 ≤ (bf p n).2 ∧ (bf p n).2 < (n : Int) := by
  induction n with
  | zero => simp [bf]
  | succ n ih =>
    simp only [bf]
    split
    · split <;> simp only [] <;> omega
    · omega
theorem bf_in (p : Nat → Bool) (a : Nat) (hp : ∀ i, p i = true → a ≤ i ∧ i < a + 16) (n : Nat) : ((bf p n).1 < 0 ∧ ∀ i, i < n → p i = false) ∨ ((a : Int) ≤ (bf p n).1 ∧ (bf p n).1 ≤ (bf p n).2 ∧ (bf p n).2 < (a : Int) + 16) := by
  induction n with
  | zero => left; exact ⟨by simp [bf], fun i hi => by omega⟩
  | succ n ih =>
    simp only [bf]
    by_cases h : p n = true
    · have := hp n h
      right
      simp only [h, if_true]
      have hr := bf_range p n
      split <;> omega
    · simp only [h]
      rcases ih with ⟨h1, h2⟩ | h1
      · left
        refine ⟨by simpa using h1, fun i hi => ?_⟩
        rcases Nat.lt_or_eq_of_le (Nat.le_of_lt_succ hi) with h3 | h3
        · exact h2 i h3
        · subst h3; simpa using h
      · right; simpa using h1
theorem bv_in (p : Nat → Bool) (a n i : Nat) (hp : ∀ i, p i = true → a ≤ i ∧ i < a + 16) (hi : i < n) (hpi : p i = true) : 1 ≤ bv p n ∧ bv p n ≤ 16 := by
  unfold bv
  rcases bf_in p a hp n with ⟨_, h2⟩ | h
  · rw [h2 i hi] at hpi; cases hpi
  · rw [if_neg (by omega)]; omega
theorem crc_found (s : List Int) (hb : B8 s) (a ch : Nat) (h0 : ch ≠ 0) (h1 : ch < 65536) (ha : a + 16 ≤ 8 * s.length) (hz : crcFold 65535 s = 0) : crcFold 65535 (flips s a ch 16) ≠ 0 := by
  rw [crc_flips s hb a ch 65535 (by omega) ha 16 (by omega), hz, Nat.zero_xor]
  exact rounds_ne _ _ (chs_lt _ _) (chs_ne ch h0 h1)
theorem burst_found (s : List Int) (a ch : Nat) (h0 : ch ≠ 0) (h1 : ch < 65536) (ha : a + 16 ≤ 8 * s.length) :
    1 ≤ bv (fun i => bitAt s i ^^ bitAt (flips s a ch 16) i) (8 * s.length) ∧ bv (fun i => bitAt s i ^^ bitAt (flips s a ch 16) i) (8 * s.length) ≤ 16 := by
  obtain ⟨j, hj⟩ := Nat.exists_testBit_of_ne_zero h0
  have hj16 : j < 16 := by
    rcases Nat.lt_or_ge j 16 with h | h
    · exact h
    · have : ch.testBit j = false := Nat.testBit_lt_two_pow (Nat.lt_of_lt_of_le (by omega : ch < 2 ^ 16) (Nat.pow_le_pow_right (by omega) h))
      rw [this] at hj; cases hj
  have e : ∀ i, (bitAt s i ^^ bitAt (flips s a ch 16) i) = (decide (a ≤ i) && decide (i < a + 16) && ch.testBit (i - a)) := by
    intro i
    rw [bit_flips s a ch i ha 16 (by omega), ← Bool.xor_assoc, Bool.xor_self, Bool.false_xor]
  refine bv_in _ a _ (a + j) ?_ (by omega) ?_
  · intro i hi
    rw [e i] at hi
    simp at hi
    omega
  · simp only [e]
    simp [hj16, hj]
theorem burst_comm (s t : List Int) (n : Nat) : bv (fun i => bitAt t i ^^ bitAt s i) n = bv (fun i => bitAt s i ^^ bitAt t i) n := by
  congr 1; funext i; exact Bool.xor_comm _ _
end Go.Proofs.Ytejedmocjdcdgaa.D

set_option linter.unusedSimpArgs false
set_option linter.unusedVariables false
namespace Go.Proofs.Ytejedmocjdcdgaa.D
open Go Go.Det

theorem equalB_l0 (s u : Value) (H : AH) (t : List Int) : ∀ (w pre qre : List Int) (i N : Int) (Q : XExit → Fr → AH → Prop), Byts H s (pre ++ t) → Byts H u (qre ++ w) → t.length = w.length → pre.length = qre.length → pre.length + t.length < 4611686018427387904 → i = (pre.length : Int) → N = ((pre ++ t).length : Int) →
    (t = w → Q (.exit 0) [(0, s), (1, u), (12, .int .i64 N), (13, .int .i64 N), (14, .bool false)] H) → (t ≠ w → Q .ret [(4, .bool false)] H) →
    Run Try.prog tab (.loop xslices_Equal_Sbyte_byte_l0) [(0, s), (1, u), (12, .int .i64 N), (13, .int .i64 i)] H Q := by
  induction t with
  | nil =>
    intro w pre qre i N Q hs hu hw hp hl hi hN hq hq2
    obtain rfl : w = [] := by cases w <;> simp_all
    rw [run_loop]
    generalize hL : XCode.loop xslices_Equal_Sbyte_byte_l0 = L
    have hiN : i = N := by simp at hN; omega
    subst hiN
    have hf : ¬ i < i := by omega
    simp only [xslices_Equal_Sbyte_byte_l0, ofArgs, run_seq, run_block, run_ops, run_skip, run_exit, run_ret, thenQ_normal, thenQ_exit, thenQ_ret, blockQ_normal, blockQ_exit, blockQ_ret, retQ_ret, retQ_normal, ops_nil, ops_none, got_some, ops_wT, ops_wTn, ops_wF, ops_wFn, ops_wU, dops_wT, dops_wTn, dops_wF, dops_wFn, dops_wU, run_condT, run_condF, alt2_int, altB_bool, altI_int, altBB_bool, v_min, v_max, v_not, v_neg, optEv_none, optEv_some, isSome'_none, isSome'_some, pExt0, pExt1, pExt2, Bool.false_and, Bool.true_and, Bool.not_true, Bool.not_false, cond_true, cond_false, dops_nil, dops_none, xval_call, v_mov, v_bin, v_len, v_ext, v_idxA, v_ld, v_st, v_app, v_appN, v_cvs, v_bs1, pBs1, v_slc, v_conv, v_fld, v_fldA, v_new, v_box, v_mks, v_copy, v_isnil, v_nilck, v_pick, ev, evs_nil, evs_cons, fr_get_cons, fr_put_nil, fr_put_cons, fr_put_some, fr_put_none, fr_keep_nil, fr_keep_cons, fr_has_nil, fr_has_cons, Option.bind_some, Option.map_some, xbin, ibin, xresult_eq, xress_nil, xress_tmp, resV, ex_some, if_true, if_false, ite_true, ite_false, reduceIte, reduceCtorEq, Nat.reduceEqDiff, Nat.reduceLT, Nat.reduceLeDiff, Int.reduceLT, Int.reduceLE, Nat.zero_add, Nat.reduceAdd, Bool.false_eq_true, decide_eq_true_eq, decide_eq_false_iff_not, true_implies, false_implies, and_true, true_and, hf, decide_false]
    simpa using hq rfl
  | cons a t ih =>
    intro w pre qre i N Q hs hu hw hp hl hi hN hq hq2
    cases w with
    | nil => simp at hw
    | cons b w =>
      simp only [List.length_cons] at hl hw
      rw [run_loop]
      generalize hL : XCode.loop xslices_Equal_Sbyte_byte_l0 = L
      have hlt : i < N := by simp at hN; omega
      have e1 := byts_idx hs i pre.length hi (by simp)
      have e2 := byts_ld hs pre.length a (by simp)
      have e3 := byts_idx hu i pre.length hi (by simp; omega)
      have e5 := byts_ld hu pre.length b (by simp [hp])
      have e4 := wrI (i + 1) (by omega) (by omega)
      simp only [xslices_Equal_Sbyte_byte_l0, ofArgs, run_seq, run_block, run_ops, run_skip, run_exit, run_ret, thenQ_normal, thenQ_exit, thenQ_ret, blockQ_normal, blockQ_exit, blockQ_ret, retQ_ret, retQ_normal, ops_nil, ops_none, got_some, ops_wT, ops_wTn, ops_wF, ops_wFn, ops_wU, dops_wT, dops_wTn, dops_wF, dops_wFn, dops_wU, run_condT, run_condF, alt2_int, altB_bool, altI_int, altBB_bool, v_min, v_max, v_not, v_neg, optEv_none, optEv_some, isSome'_none, isSome'_some, pExt0, pExt1, pExt2, Bool.false_and, Bool.true_and, Bool.not_true, Bool.not_false, cond_true, cond_false, dops_nil, dops_none, xval_call, v_mov, v_bin, v_len, v_ext, v_idxA, v_ld, v_st, v_app, v_appN, v_cvs, v_bs1, pBs1, v_slc, v_conv, v_fld, v_fldA, v_new, v_box, v_mks, v_copy, v_isnil, v_nilck, v_pick, ev, evs_nil, evs_cons, fr_get_cons, fr_put_nil, fr_put_cons, fr_put_some, fr_put_none, fr_keep_nil, fr_keep_cons, fr_has_nil, fr_has_cons, Option.bind_some, Option.map_some, xbin, ibin, xresult_eq, xress_nil, xress_tmp, resV, ex_some, if_true, if_false, ite_true, ite_false, reduceIte, reduceCtorEq, Nat.reduceEqDiff, Nat.reduceLT, Nat.reduceLeDiff, Int.reduceLT, Int.reduceLE, Nat.zero_add, Nat.reduceAdd, Bool.false_eq_true, decide_eq_true_eq, decide_eq_false_iff_not, true_implies, false_implies, and_true, true_and, hlt, decide_true]
      refine run_dops _ _ _ _ _ rfl ?_
      by_cases hab : a = b
      · subst hab
        simp only [ofArgs, run_seq, run_block, run_ops, run_skip, run_exit, run_ret, thenQ_normal, thenQ_exit, thenQ_ret, blockQ_normal, blockQ_exit, blockQ_ret, retQ_ret, retQ_normal, ops_nil, ops_none, got_some, ops_wT, ops_wTn, ops_wF, ops_wFn, ops_wU, dops_wT, dops_wTn, dops_wF, dops_wFn, dops_wU, run_condT, run_condF, alt2_int, altB_bool, altI_int, altBB_bool, v_min, v_max, v_not, v_neg, optEv_none, optEv_some, isSome'_none, isSome'_some, pExt0, pExt1, pExt2, Bool.false_and, Bool.true_and, Bool.not_true, Bool.not_false, cond_true, cond_false, dops_nil, dops_none, xval_call, v_mov, v_bin, v_len, v_ext, v_idxA, v_ld, v_st, v_app, v_appN, v_cvs, v_bs1, pBs1, v_slc, v_conv, v_fld, v_fldA, v_new, v_box, v_mks, v_copy, v_isnil, v_nilck, v_pick, ev, evs_nil, evs_cons, fr_get_cons, fr_put_nil, fr_put_cons, fr_put_some, fr_put_none, fr_keep_nil, fr_keep_cons, fr_has_nil, fr_has_cons, Option.bind_some, Option.map_some, xbin, ibin, xresult_eq, xress_nil, xress_tmp, resV, ex_some, if_true, if_false, ite_true, ite_false, reduceIte, reduceCtorEq, Nat.reduceEqDiff, Nat.reduceLT, Nat.reduceLeDiff, Int.reduceLT, Int.reduceLE, Nat.zero_add, Nat.reduceAdd, Bool.false_eq_true, decide_eq_true_eq, decide_eq_false_iff_not, true_implies, false_implies, and_true, true_and, e1, e2, e3, e5, e4, bne_self_eq_false]
        subst hL
        exact ih w (pre ++ [a]) (qre ++ [a]) (i + 1) N Q (Byts.app1 hs) (Byts.app1 hu) (by omega) (by simp; omega) (by simp; omega) (by simp; omega) (by simpa using hN) (fun h => hq (by rw [h])) (fun h => hq2 (by simpa using h))
      · have hne : (a != b) = true := by simpa using hab
        simp only [ofArgs, run_seq, run_block, run_ops, run_skip, run_exit, run_ret, thenQ_normal, thenQ_exit, thenQ_ret, blockQ_normal, blockQ_exit, blockQ_ret, retQ_ret, retQ_normal, ops_nil, ops_none, got_some, ops_wT, ops_wTn, ops_wF, ops_wFn, ops_wU, dops_wT, dops_wTn, dops_wF, dops_wFn, dops_wU, run_condT, run_condF, alt2_int, altB_bool, altI_int, altBB_bool, v_min, v_max, v_not, v_neg, optEv_none, optEv_some, isSome'_none, isSome'_some, pExt0, pExt1, pExt2, Bool.false_and, Bool.true_and, Bool.not_true, Bool.not_false, cond_true, cond_false, dops_nil, dops_none, xval_call, v_mov, v_bin, v_len, v_ext, v_idxA, v_ld, v_st, v_app, v_appN, v_cvs, v_bs1, pBs1, v_slc, v_conv, v_fld, v_fldA, v_new, v_box, v_mks, v_copy, v_isnil, v_nilck, v_pick, ev, evs_nil, evs_cons, fr_get_cons, fr_put_nil, fr_put_cons, fr_put_some, fr_put_none, fr_keep_nil, fr_keep_cons, fr_has_nil, fr_has_cons, Option.bind_some, Option.map_some, xbin, ibin, xresult_eq, xress_nil, xress_tmp, resV, ex_some, if_true, if_false, ite_true, ite_false, reduceIte, reduceCtorEq, Nat.reduceEqDiff, Nat.reduceLT, Nat.reduceLeDiff, Int.reduceLT, Int.reduceLE, Nat.zero_add, Nat.reduceAdd, Bool.false_eq_true, decide_eq_true_eq, decide_eq_false_iff_not, true_implies, false_implies, and_true, true_and, e1, e2, e3, e5, e4, hne]
        exact hq2 (by simp [hab])

theorem equalB_xc (t w : List Int) (s u : Value) (H : AH) (hs : Byts H s t) (hu : Byts H u w) (hl : t.length ≤ 1000000) (hl2 : w.length ≤ 1000000) : xc Try.prog tab 18 [s, u] H = some (.bool (decide (t = w)), H) := by
  refine got_xc (got_call (res := [.tmp 4]) rfl ?_)
  have e1 := byts_len' hs
  have e2 := byts_len' hu
  by_cases hlen : t.length = w.length
  · have hc : ((t.length : Int) != (w.length : Int)) = false := by simp [hlen]
    simp only [ofArgs, run_seq, run_block, run_ops, run_skip, run_exit, run_ret, thenQ_normal, thenQ_exit, thenQ_ret, blockQ_normal, blockQ_exit, blockQ_ret, retQ_ret, retQ_normal, ops_nil, ops_none, got_some, ops_wT, ops_wTn, ops_wF, ops_wFn, ops_wU, dops_wT, dops_wTn, dops_wF, dops_wFn, dops_wU, run_condT, run_condF, alt2_int, altB_bool, altI_int, altBB_bool, v_min, v_max, v_not, v_neg, optEv_none, optEv_some, isSome'_none, isSome'_some, pExt0, pExt1, pExt2, Bool.false_and, Bool.true_and, Bool.not_true, Bool.not_false, cond_true, cond_false, dops_nil, dops_none, xval_call, v_mov, v_bin, v_len, v_ext, v_idxA, v_ld, v_st, v_app, v_appN, v_cvs, v_bs1, pBs1, v_slc, v_conv, v_fld, v_fldA, v_new, v_box, v_mks, v_copy, v_isnil, v_nilck, v_pick, ev, evs_nil, evs_cons, fr_get_cons, fr_put_nil, fr_put_cons, fr_put_some, fr_put_none, fr_keep_nil, fr_keep_cons, fr_has_nil, fr_has_cons, Option.bind_some, Option.map_some, xbin, ibin, xresult_eq, xress_nil, xress_tmp, resV, ex_some, if_true, if_false, ite_true, ite_false, reduceIte, reduceCtorEq, Nat.reduceEqDiff, Nat.reduceLT, Nat.reduceLeDiff, Int.reduceLT, Int.reduceLE, Nat.zero_add, Nat.reduceAdd, Bool.false_eq_true, decide_eq_true_eq, decide_eq_false_iff_not, true_implies, false_implies, and_true, true_and, e1, e2, hc]
    refine equalB_l0 s u H t w [] [] _ _ _ hs hu hlen rfl (by simp; omega) (by simp) (by simp) ?_ ?_
    · intro h
      simp only [ofArgs, run_seq, run_block, run_ops, run_skip, run_exit, run_ret, thenQ_normal, thenQ_exit, thenQ_ret, blockQ_normal, blockQ_exit, blockQ_ret, retQ_ret, retQ_normal, ops_nil, ops_none, got_some, ops_wT, ops_wTn, ops_wF, ops_wFn, ops_wU, dops_wT, dops_wTn, dops_wF, dops_wFn, dops_wU, run_condT, run_condF, alt2_int, altB_bool, altI_int, altBB_bool, v_min, v_max, v_not, v_neg, optEv_none, optEv_some, isSome'_none, isSome'_some, pExt0, pExt1, pExt2, Bool.false_and, Bool.true_and, Bool.not_true, Bool.not_false, cond_true, cond_false, dops_nil, dops_none, xval_call, v_mov, v_bin, v_len, v_ext, v_idxA, v_ld, v_st, v_app, v_appN, v_cvs, v_bs1, pBs1, v_slc, v_conv, v_fld, v_fldA, v_new, v_box, v_mks, v_copy, v_isnil, v_nilck, v_pick, ev, evs_nil, evs_cons, fr_get_cons, fr_put_nil, fr_put_cons, fr_put_some, fr_put_none, fr_keep_nil, fr_keep_cons, fr_has_nil, fr_has_cons, Option.bind_some, Option.map_some, xbin, ibin, xresult_eq, xress_nil, xress_tmp, resV, ex_some, if_true, if_false, ite_true, ite_false, reduceIte, reduceCtorEq, Nat.reduceEqDiff, Nat.reduceLT, Nat.reduceLeDiff, Int.reduceLT, Int.reduceLE, Nat.zero_add, Nat.reduceAdd, Bool.false_eq_true, decide_eq_true_eq, decide_eq_false_iff_not, true_implies, false_implies, and_true, true_and, h, decide_true]
    · intro h
      simp only [ofArgs, run_seq, run_block, run_ops, run_skip, run_exit, run_ret, thenQ_normal, thenQ_exit, thenQ_ret, blockQ_normal, blockQ_exit, blockQ_ret, retQ_ret, retQ_normal, ops_nil, ops_none, got_some, ops_wT, ops_wTn, ops_wF, ops_wFn, ops_wU, dops_wT, dops_wTn, dops_wF, dops_wFn, dops_wU, run_condT, run_condF, alt2_int, altB_bool, altI_int, altBB_bool, v_min, v_max, v_not, v_neg, optEv_none, optEv_some, isSome'_none, isSome'_some, pExt0, pExt1, pExt2, Bool.false_and, Bool.true_and, Bool.not_true, Bool.not_false, cond_true, cond_false, dops_nil, dops_none, xval_call, v_mov, v_bin, v_len, v_ext, v_idxA, v_ld, v_st, v_app, v_appN, v_cvs, v_bs1, pBs1, v_slc, v_conv, v_fld, v_fldA, v_new, v_box, v_mks, v_copy, v_isnil, v_nilck, v_pick, ev, evs_nil, evs_cons, fr_get_cons, fr_put_nil, fr_put_cons, fr_put_some, fr_put_none, fr_keep_nil, fr_keep_cons, fr_has_nil, fr_has_cons, Option.bind_some, Option.map_some, xbin, ibin, xresult_eq, xress_nil, xress_tmp, resV, ex_some, if_true, if_false, ite_true, ite_false, reduceIte, reduceCtorEq, Nat.reduceEqDiff, Nat.reduceLT, Nat.reduceLeDiff, Int.reduceLT, Int.reduceLE, Nat.zero_add, Nat.reduceAdd, Bool.false_eq_true, decide_eq_true_eq, decide_eq_false_iff_not, true_implies, false_implies, and_true, true_and, h, decide_false]
  · have hc : ((t.length : Int) != (w.length : Int)) = true := by simp; omega
    have hne : ¬ t = w := fun h => hlen (by rw [h])
    simp only [ofArgs, run_seq, run_block, run_ops, run_skip, run_exit, run_ret, thenQ_normal, thenQ_exit, thenQ_ret, blockQ_normal, blockQ_exit, blockQ_ret, retQ_ret, retQ_normal, ops_nil, ops_none, got_some, ops_wT, ops_wTn, ops_wF, ops_wFn, ops_wU, dops_wT, dops_wTn, dops_wF, dops_wFn, dops_wU, run_condT, run_condF, alt2_int, altB_bool, altI_int, altBB_bool, v_min, v_max, v_not, v_neg, optEv_none, optEv_some, isSome'_none, isSome'_some, pExt0, pExt1, pExt2, Bool.false_and, Bool.true_and, Bool.not_true, Bool.not_false, cond_true, cond_false, dops_nil, dops_none, xval_call, v_mov, v_bin, v_len, v_ext, v_idxA, v_ld, v_st, v_app, v_appN, v_cvs, v_bs1, pBs1, v_slc, v_conv, v_fld, v_fldA, v_new, v_box, v_mks, v_copy, v_isnil, v_nilck, v_pick, ev, evs_nil, evs_cons, fr_get_cons, fr_put_nil, fr_put_cons, fr_put_some, fr_put_none, fr_keep_nil, fr_keep_cons, fr_has_nil, fr_has_cons, Option.bind_some, Option.map_some, xbin, ibin, xresult_eq, xress_nil, xress_tmp, resV, ex_some, if_true, if_false, ite_true, ite_false, reduceIte, reduceCtorEq, Nat.reduceEqDiff, Nat.reduceLT, Nat.reduceLeDiff, Int.reduceLT, Int.reduceLE, Nat.zero_add, Nat.reduceAdd, Bool.false_eq_true, decide_eq_true_eq, decide_eq_false_iff_not, true_implies, false_implies, and_true, true_and, e1, e2, hc, hne, decide_false]


theorem appB {n0 : Nat} {H : AH} {v y : Value} {l m : List Int} {Q : Value → AH → Prop} (ho : OwnB n0 H v l) (hn : n0 ≤ H.n) (hs : Byts H y m) (hl : l.length + m.length ≤ 1000000000)
    (hq : ∀ v' H', OwnB n0 H' v' (l ++ m) → Stp v H v' H' → Q v' H') : Got (xapp H 1 1 v y) Q := by
  refine xapp_own ho hn hs (u8s_one m) (Nat.le_refl _) (Nat.le_refl _) (by omega) ?_
  intro v' H' o s
  refine hq v' H' ?_ s
  unfold OwnB
  simpa using o

theorem wrap8_hi (n : Nat) (h : n < 65536) : IntKind.u8.wrap (((n : Int)).fdiv (2 ^ 8)) = ((n / 256 : Nat) : Int) := by
  rw [shrN, Nat.shiftRight_eq_div_pow, wrU8' _ (by omega) (by omega)]
theorem wrap8_lo (n : Nat) : IntKind.u8.wrap (n : Int) = ((n % 256 : Nat) : Int) := by
  rw [wrU8m]; omega

def sealed (l : List Int) : List Int := l ++ [((crcFold 65535 l / 256 : Nat) : Int), ((crcFold 65535 l % 256 : Nat) : Int)]
theorem sealed_len (l : List Int) : (sealed l).length = l.length + 2 := by simp [sealed]
theorem sealed_b8 (l : List Int) (hb : B8 l) : B8 (sealed l) := by
  have := crcFold_lt l hb 65535 (by omega)
  intro b h
  unfold sealed at h
  rcases List.mem_append.1 h with h | h
  · exact hb b h
  · simp at h; omega

theorem getD_get (l : List Int) (q : Nat) (h : q < l.length) : l[q]? = some (l.getD q 0) := by
  rw [List.getD_eq_getElem?_getD, List.getElem?_eq_getElem h]; rfl

end Go.Proofs.Ytejedmocjdcdgaa.D

set_option linter.unusedSimpArgs false
set_option linter.unusedVariables false
namespace Go.Proofs.Ytejedmocjdcdgaa.D
open Go Go.Det

theorem mulb (a c : Int) (h1 : 1 ≤ a) (h2 : a ≤ 100) (h3 : 2 ≤ c) (h4 : c ≤ 1000) : 2 ≤ a * c ∧ a * c ≤ 100000 := by
  have e1 : 1 * c ≤ a * c := Int.mul_le_mul_of_nonneg_right h1 (by omega)
  have e2 : a * c ≤ 100 * c := Int.mul_le_mul_of_nonneg_right h2 (by omega)
  omega
/-- the track of numbers of cells -/
def pul (cell : Int) (l : List Int) : List Int := l.map fun a => a * cell
/-- the number of cells of a time -/
def celOf (cell p : Int) : Int := Int.tdiv (2 * p + cell) (2 * cell)
/-! what a shake does to pulses -/
def shd (l : List Int) (most : Int) : Nat → Int → List Int → List Int
  | _, _, [] => []
  | k, m0, p :: t => (p + mvAt l most k - m0) :: shd l most (k + 1) (mvAt l most k) t
theorem shd_len (l : List Int) (most : Int) (t : List Int) : ∀ k m0, (shd l most k m0 t).length = t.length := by
  induction t with
  | nil => intro k m0; rfl
  | cons p t ih => intro k m0; simp [shd, ih]
theorem shk_shd (l : List Int) (most : Int) (t : List Int) : ∀ (a m0 : Int) (k : Nat), difs (a + m0) (shk l most k (sums a t)) = shd l most k m0 t := by
  induction t with
  | nil => intro a m0 k; rfl
  | cons p t ih =>
    intro a m0 k
    simp only [sums, shk, difs, shd]
    rw [ih (a + p) (mvAt l most k) (k + 1)]
    congr 1
    omega
theorem cel_near (cell most k d e : Int) (hc : 2 ≤ cell) (hm : 4 * most ≤ cell - 1) (hd : -most ≤ d ∧ d ≤ most) (he : -most ≤ e ∧ e ≤ most) (hk : 1 ≤ k) (hk2 : k ≤ 50) (hc2 : cell ≤ 1000) :
    celOf cell (k * cell + d - e) = k ∧ 1 ≤ k * cell + d - e ∧ k * cell + d - e ≤ 100000 := by
  have hb := mulb k cell hk (by omega) hc hc2
  have h1 : 1 * cell ≤ k * cell := Int.mul_le_mul_of_nonneg_right hk (by omega)
  have h2 : k * cell ≤ 50 * cell := Int.mul_le_mul_of_nonneg_right hk2 (by omega)
  refine ⟨?_, by omega, by omega⟩
  unfold celOf
  rw [Int.tdiv_eq_ediv_of_nonneg (by omega)]
  have e1 : 2 * (k * cell + d - e) + cell = (2 * (d - e) + cell) + k * (2 * cell) := by
    have : k * (2 * cell) = 2 * (k * cell) := by rw [Int.mul_left_comm]
    omega
  rw [e1, Int.add_mul_ediv_right _ _ (by omega), Int.ediv_eq_zero_of_lt (by omega) (by omega)]
  omega
theorem shd_cells (l : List Int) (cell most : Int) (h0 : 0 ≤ most) (hc : 2 ≤ cell) (hc2 : cell ≤ 1000) (hm : 4 * most ≤ cell - 1) (t : List Int) (ht : ∀ a ∈ t, 1 ≤ a ∧ a ≤ 50) : ∀ (k : Nat) (m0 : Int), -most ≤ m0 → m0 ≤ most →
    Ok (shd l most k m0 (pul cell t)) ∧ (shd l most k m0 (pul cell t)).map (celOf cell) = t := by
  induction t with
  | nil => intro k m0 _ _; exact ⟨fun p hp => by simp [pul, shd] at hp, rfl⟩
  | cons a t ih =>
    intro k m0 h1 h2
    have ha := ht a (by simp)
    have hb := mv_bnd l most h0 k
    have hn := cel_near cell most a (mvAt l most k) m0 hc hm hb ⟨h1, h2⟩ ha.1 ha.2 hc2
    obtain ⟨i1, i2⟩ := ih (fun x hx => ht x (by simp [hx])) (k + 1) (mvAt l most k) hb.1 hb.2
    refine ⟨fun p hp => ?_, ?_⟩
    · simp only [pul, List.map_cons, shd, List.mem_cons] at hp
      rcases hp with rfl | hp
      · exact hn.2
      · exact i1 p hp
    · simp only [pul, List.map_cons, shd]
      rw [hn.1]
      congr 1
theorem pul_cells (cell : Int) (hc : 2 ≤ cell) (hc2 : cell ≤ 1000) (t : List Int) (ht : ∀ a ∈ t, 1 ≤ a ∧ a ≤ 50) : (pul cell t).map (celOf cell) = t := by
  induction t with
  | nil => rfl
  | cons a t ih =>
    have ha := ht a (by simp)
    have hn := cel_near cell 0 a 0 0 hc (by omega) (by omega) (by omega) ha.1 ha.2 hc2
    have e := ih (fun x hx => ht x (by simp [hx]))
    unfold pul at e ⊢
    simp only [List.map_cons]
    rw [e]
    congr 1
    simpa using hn.1
theorem pul_ok (cell : Int) (hc : 2 ≤ cell) (hc2 : cell ≤ 1000) (t : List Int) (ht : ∀ a ∈ t, 1 ≤ a ∧ a ≤ 100) : Ok (pul cell t) := by
  intro p hp
  simp only [pul, List.mem_map] at hp
  obtain ⟨a, ha, rfl⟩ := hp
  have := mulb a cell (ht a ha).1 (ht a ha).2 hc hc2
  omega
theorem pul_sum (cell : Int) (t : List Int) : (pul cell t).sum = t.sum * cell := by
  induction t with
  | nil => simp [pul]
  | cons a t ih =>
    have : pul cell (a :: t) = a * cell :: pul cell t := rfl
    rw [this, List.sum_cons, ih, List.sum_cons, Int.add_mul]
end Go.Proofs.Ytejedmocjdcdgaa.D

set_option linter.unusedSimpArgs false
set_option linter.unusedVariables false
namespace Go.Proofs.Ytejedmocjdcdgaa.D
open Go Go.Det

/-- the cells of the last bits of a byte -/
def fmb (c : Nat) : Nat → List Int
  | 0 => []
  | k + 1 => (if c.testBit k then [1, 1] else [2]) ++ fmb c k
def fmw (l : List Int) : List Int := l.flatMap fun c => fmb c.toNat 8
theorem fmb_len (c k : Nat) : (fmb c k).length ≤ 2 * k := by
  induction k with
  | zero => simp [fmb]
  | succ k ih => simp only [fmb, List.length_append]; split <;> simp <;> omega
theorem fmb_sum (c k : Nat) : (fmb c k).sum = 2 * (k : Int) := by
  induction k with
  | zero => simp [fmb]
  | succ k ih => simp only [fmb, List.sum_append, ih]; split <;> simp <;> omega
theorem fmb_12 (c k : Nat) : ∀ a ∈ fmb c k, 1 ≤ a ∧ a ≤ 2 := by
  induction k with
  | zero => intro a h; simp [fmb] at h
  | succ k ih =>
    intro a h
    simp only [fmb, List.mem_append] at h
    rcases h with h | h
    · split at h <;> simp at h <;> omega
    · exact ih a h
theorem fmw_cons (c : Int) (l : List Int) : fmw (c :: l) = fmb c.toNat 8 ++ fmw l := by simp [fmw]
theorem fmw_len (l : List Int) : (fmw l).length ≤ 16 * l.length := by
  induction l with
  | nil => simp [fmw]
  | cons c l ih => rw [fmw_cons, List.length_append, List.length_cons]; have := fmb_len c.toNat 8; omega
theorem fmw_sum (l : List Int) : (fmw l).sum = 16 * (l.length : Int) := by
  induction l with
  | nil => simp [fmw]
  | cons c l ih => rw [fmw_cons, List.sum_append, fmb_sum, ih, List.length_cons]; omega
theorem fmw_12 (l : List Int) : ∀ a ∈ fmw l, 1 ≤ a ∧ a ≤ 2 := by
  induction l with
  | nil => intro a h; simp [fmw] at h
  | cons c l ih =>
    intro a h
    rw [fmw_cons, List.mem_append] at h
    rcases h with h | h
    · exact fmb_12 _ _ a h
    · exact ih a h

theorem app_two {n0 : Nat} {H : AH} {v : Value} {acc : List Int} {x y : Int} {Q : Value → AH → Prop} (ho : OwnI n0 H v acc) (hn : n0 ≤ H.n) (hle : acc.length + 2 ≤ 17592186044416)
    (hq : ∀ v' H', OwnI n0 H' v' (acc ++ [x, y]) → Stp v H v' H' → Q v' H') : Got (xapp (H.push ⟨[.int .i64 x, .int .i64 y], 1, false, false⟩) 1 8 v (.slice (some ⟨H.n, 0, none⟩) 2 2)) Q := by
  refine xapp_own (Own.ext (hext_push H _) ho) (by simp; omega) (Sl.pushed H [.int .i64 x, .int .i64 y] 1 2 false false rfl) rfl (Nat.le_refl _) (by omega) (by omega) ?_
  intro v' H' h1 h2
  refine hq v' H' (by simpa [OwnI] using h1) ⟨by have := h2.n; simp at this; omega, fun b hb hnb => ?_, fun b h => ?_⟩
  · rw [h2.get b (by simp; omega) hnb, AH.get_push, if_neg (by omega)]
  · rcases h2.new b h with h | h
    · exact .inl h
    · exact .inr (by simp at h; omega)
theorem app_oneB {n0 : Nat} {H : AH} {v : Value} {acc : List Int} {x : Int} {Q : Value → AH → Prop} (ho : OwnB n0 H v acc) (hn : n0 ≤ H.n) (hle : acc.length + 1 ≤ 1000000000)
    (hq : ∀ v' H', OwnB n0 H' v' (acc ++ [x]) → Stp v H v' H' → Q v' H') : Got (xapp (H.push ⟨[.int .u8 x], 1, false, false⟩) 1 1 v (.slice (some ⟨H.n, 0, none⟩) 1 1)) Q := by
  refine xapp_own (Own.ext (hext_push H _) ho) (by simp; omega) (Sl.pushed H [.int .u8 x] 1 1 false false rfl) rfl (Nat.le_refl _) (by omega) (by omega) ?_
  intro v' H' h1 h2
  refine hq v' H' (by simpa [OwnB] using h1) ⟨by have := h2.n; simp at this; omega, fun b hb hnb => ?_, fun b h => ?_⟩
  · rw [h2.get b (by simp; omega) hnb, AH.get_push, if_neg (by omega)]
  · rcases h2.new b h with h | h
    · exact .inl h
    · exact .inr (by simp at h; omega)

end Go.Proofs.Ytejedmocjdcdgaa.D

set_option linter.unusedSimpArgs false
set_option linter.unusedVariables false
namespace Go.Proofs.Ytejedmocjdcdgaa.D
open Go Go.Det

theorem shr_step (c k : Nat) : 2 * (c >>> (k + 1)) + (c.testBit k).toNat = c >>> k := by
  rw [Nat.shiftRight_succ, Nat.testBit_eq_decide_div_mod_eq, ← Nat.shiftRight_eq_div_pow]
  generalize c >>> k = x
  rcases Nat.mod_two_eq_zero_or_one x with h | h <;> simp [h] <;> omega
theorem shr_lt2 (c k : Nat) (hc : c < 256) : c >>> (k + 1) < 128 := by
  rw [Nat.shiftRight_eq_div_pow, Nat.pow_succ]
  have : c / (2 ^ k * 2) ≤ c / 2 := Nat.div_le_div_left (by have := Nat.pow_pos (n := k) (by omega : 0 < 2); omega) (by omega)
  omega
end Go.Proofs.Ytejedmocjdcdgaa.D

set_option linter.unusedSimpArgs false
set_option linter.unusedVariables false
namespace Go.Proofs.Ytejedmocjdcdgaa.D
open Go Go.Det

/-! ### blocks -/
structure TB where
  u : Int
  w : Value
  bs : List Int
def TBL : LS TB := ⟨2, fun s => [.int .i64 s.u, s.w], fun _ => rfl, by decide⟩
def TBs (H : AH) (v : Value) (l : List TB) : Prop := SL TBL H v l ∧ ∀ s ∈ l, Byts H s.w s.bs
theorem TBs.ext {H H' : AH} {v : Value} {l : List TB} (h : TBs H v l) (x : HExt H H') : TBs H' v l := ⟨h.1.ext x, fun s hs => Sl.ext x (h.2 s hs)⟩
theorem tbs_idx {H : AH} {v : Value} {pre rest : List TB} {s : TB} (h : TBs H v (pre ++ s :: rest)) (i : Int) (hi : i = (pre.length : Int)) : pIdx 2 v (.int .i64 i) H = some (ptrAt v (pre.length * 2), H) := h.1.idx .i64 i hi
theorem tbs_ld {H : AH} {v : Value} {pre rest : List TB} {s : TB} (h : TBs H v (pre ++ s :: rest)) : pLd (some 2) (ptrAt v (pre.length * 2)) H = some (.agg #[.int .i64 s.u, s.w], H) := h.1.ld
def TbOk (s : TB) : Prop := 4 ≤ s.u ∧ s.u ≤ 100 ∧ s.bs.length ≤ 100 ∧ B8 s.bs
/-- a block in a box of its own -/
def bT (H : AH) (u : Int) (w : Value) : AH := (H.push ⟨[.int .i64 0, .slice none 0 0], 1, false, false⟩).set H.n ⟨[.int .i64 u, w], 1, false, false⟩
theorem bT_ext (H : AH) (u : Int) (w : Value) : HExt H (bT H u w) := box_ext _ _ _
theorem bT_n (H : AH) (u : Int) (w : Value) : (bT H u w).n = H.n + 1 := rfl
theorem bT_get (H : AH) (u : Int) (w : Value) : (bT H u w).get H.n = some ⟨[.int .i64 u, w], 1, false, false⟩ := box_get _ _ _
theorem bT_st (H : AH) (u : Int) (w : Value) (hw : one w = true) : pSt 2 (.pointer (some ⟨H.n, 0, none⟩)) (.agg #[.int .i64 u, w]) (H.push ⟨[.int .i64 0, .slice none 0 0], 1, false, false⟩) = some (undef, bT H u w) :=
  bx2_st (by rw [AH.get_push, if_pos rfl]) rfl hw

/-! ### what a block is in pulses, in units -/
def bitU (b : Bool) : Int := if b then 4 else 2
def bytU (c : Nat) : Nat → List Int
  | 0 => []
  | r + 1 => bitU (c.testBit r) :: bitU (c.testBit r) :: bytU c r
def bytsU (l : List Int) : List Int := l.flatMap fun c => bytU c.toNat 8
theorem bytU_len (c r : Nat) : (bytU c r).length = 2 * r := by
  induction r with
  | zero => rfl
  | succ r ih => simp [bytU, ih]; omega
theorem bytsU_len (l : List Int) : (bytsU l).length = 16 * l.length := by
  induction l with
  | nil => rfl
  | cons c l ih => show (bytU c.toNat 8 ++ bytsU l).length = _; rw [List.length_append, bytU_len, ih, List.length_cons]; omega
def hdU (l : List Int) : List Int := [((l.length / 256 : Nat) : Int), ((l.length % 256 : Nat) : Int)] ++ l ++ [((xorFold 0 l : Nat) : Int)]
def blkU (l : List Int) : List Int := List.replicate 16 8 ++ [16] ++ bytsU (hdU l)
theorem blkU_len (l : List Int) : (blkU l).length = 65 + 16 * l.length := by
  unfold blkU
  simp only [List.length_append, List.length_replicate, bytsU_len, hdU, List.length_cons, List.length_nil]
  omega
theorem bitU_bd (b : Bool) : 2 ≤ bitU b ∧ bitU b ≤ 4 := by cases b <;> decide
theorem bytU_bd (c r : Nat) : ∀ x ∈ bytU c r, 2 ≤ x ∧ x ≤ 4 := by
  induction r with
  | zero => intro x h; cases h
  | succ r ih =>
    intro x h
    simp only [bytU, List.mem_cons] at h
    rcases h with rfl | rfl | h
    · exact bitU_bd _
    · exact bitU_bd _
    · exact ih x h
theorem blkU_bd (l : List Int) : ∀ x ∈ blkU l, 1 ≤ x ∧ x ≤ 50 := by
  intro x h
  unfold blkU at h
  simp only [List.mem_append, List.mem_replicate, List.mem_singleton] at h
  rcases h with (⟨_, rfl⟩ | rfl) | h
  · omega
  · omega
  · unfold bytsU at h
    obtain ⟨c, _, hx⟩ := List.mem_flatMap.1 h
    have := bytU_bd _ _ x hx
    omega
/-- the track of blocks -/
def trkT (l : List TB) : List Int := l.flatMap fun s => pul s.u (blkU s.bs)

/-! ### tape.Check -/
theorem tcheck_l0 (v : Value) (rest : List TB) : ∀ (pre : List TB) (H : AH) (i N : Int) (Q : XExit → Fr → AH → Prop), TBs H v (pre ++ rest) → (∀ s ∈ rest, TbOk s) → pre.length + rest.length ≤ 1000 → i = (pre.length : Int) → N = ((pre ++ rest).length : Int) →
    (∀ H', HExt H H' → Q (.exit 0) [(8, v), (9, .int .i64 N), (10, .int .i64 N), (11, .bool false)] H') →
    Run Try.prog tab (.loop xtape_Check_l0) [(8, v), (9, .int .i64 N), (10, .int .i64 i)] H Q := by
  induction rest with
  | nil =>
    intro pre H i N Q hv hok hl hi hN hq
    rw [run_loop]
    generalize hL : XCode.loop xtape_Check_l0 = L
    have hiN : i = N := by simp at hN; omega
    subst hiN
    have hf : ¬ i < i := by omega
    simp only [xtape_Check_l0, ofArgs, run_seq, run_block, run_ops, run_skip, run_exit, run_ret, thenQ_normal, thenQ_exit, thenQ_ret, blockQ_normal, blockQ_exit, blockQ_ret, retQ_ret, retQ_normal, ops_nil, ops_none, got_some, ops_wT, ops_wTn, ops_wF, ops_wFn, ops_wU, dops_wT, dops_wTn, dops_wF, dops_wFn, dops_wU, run_condT, run_condF, alt2_int, altB_bool, altI_int, altBB_bool, v_min, v_max, v_not, v_neg, optEv_none, optEv_some, isSome'_none, isSome'_some, pExt0, pExt1, pExt2, Bool.false_and, Bool.true_and, Bool.not_true, Bool.not_false, cond_true, cond_false, dops_nil, dops_none, xval_call, v_mov, v_bin, v_len, v_ext, v_idxA, v_ld, v_st, v_app, v_appN, v_cvs, v_bs1, pBs1, v_slc, v_conv, v_fld, v_fldA, v_new, v_box, v_mks, v_copy, v_isnil, v_nilck, v_pick, ev, evs_nil, evs_cons, fr_get_cons, fr_put_nil, fr_put_cons, fr_put_some, fr_put_none, fr_keep_nil, fr_keep_cons, fr_has_nil, fr_has_cons, Option.bind_some, Option.map_some, xbin, ibin, xresult_eq, xress_nil, xress_tmp, resV, ex_some, if_true, if_false, ite_true, ite_false, reduceIte, reduceCtorEq, Nat.reduceEqDiff, Nat.reduceLT, Nat.reduceLeDiff, Int.reduceLT, Int.reduceLE, Nat.zero_add, Nat.reduceAdd, Bool.false_eq_true, decide_eq_true_eq, decide_eq_false_iff_not, true_implies, false_implies, and_true, true_and, hf, decide_false]
    exact hq H (HExt.refl H)
  | cons s rest ih =>
    intro pre H i N Q hv hok hl hi hN hq
    rw [run_loop]
    generalize hL : XCode.loop xtape_Check_l0 = L
    simp only [List.length_cons] at hl
    have hlt : i < N := by simp at hN; omega
    have e1 := tbs_idx hv i hi
    have e2 := tbs_ld hv
    have hb := hv.2 s (by simp)
    obtain ⟨o1, o2⟩ := slice_one hb
    have st := bT_st H s.u s.w o1
    have hx := bT_ext H s.u s.w
    have g := bT_get H s.u s.w
    have l0 := bx2_0 g
    have l1 := bx2_1 g
    obtain ⟨s1, s2, s3, s4⟩ := hok s (by simp)
    have e6 := byts_len' (Sl.ext hx hb : Byts _ s.w s.bs)
    have c1 : ¬ (s.bs.length : Int) > 256 := by omega
    have c2 : ¬ s.u < 4 := by omega
    have c3 : ¬ s.u > 1000 := by omega
    have w3 := wrI (i + 1) (by omega) (by omega)
    simp only [xtape_Check_l0, ofArgs, run_seq, run_block, run_ops, run_skip, run_exit, run_ret, thenQ_normal, thenQ_exit, thenQ_ret, blockQ_normal, blockQ_exit, blockQ_ret, retQ_ret, retQ_normal, ops_nil, ops_none, got_some, ops_wT, ops_wTn, ops_wF, ops_wFn, ops_wU, dops_wT, dops_wTn, dops_wF, dops_wFn, dops_wU, run_condT, run_condF, alt2_int, altB_bool, altI_int, altBB_bool, v_min, v_max, v_not, v_neg, optEv_none, optEv_some, isSome'_none, isSome'_some, pExt0, pExt1, pExt2, Bool.false_and, Bool.true_and, Bool.not_true, Bool.not_false, cond_true, cond_false, dops_nil, dops_none, xval_call, v_mov, v_bin, v_len, v_ext, v_idxA, v_ld, v_st, v_app, v_appN, v_cvs, v_bs1, pBs1, v_slc, v_conv, v_fld, v_fldA, v_new, v_box, v_mks, v_copy, v_isnil, v_nilck, v_pick, ev, evs_nil, evs_cons, fr_get_cons, fr_put_nil, fr_put_cons, fr_put_some, fr_put_none, fr_keep_nil, fr_keep_cons, fr_has_nil, fr_has_cons, Option.bind_some, Option.map_some, xbin, ibin, xresult_eq, xress_nil, xress_tmp, resV, ex_some, if_true, if_false, ite_true, ite_false, reduceIte, reduceCtorEq, Nat.reduceEqDiff, Nat.reduceLT, Nat.reduceLeDiff, Int.reduceLT, Int.reduceLE, Nat.zero_add, Nat.reduceAdd, Bool.false_eq_true, decide_eq_true_eq, decide_eq_false_iff_not, true_implies, false_implies, and_true, true_and, hlt, decide_true, e1, e2, st, fldA0, fldA1, l0, l1, e6, c1, c2, c3, decide_false, w3]
    subst hL
    refine ih (pre ++ [s]) _ (i + 1) N Q (by rw [← List.append_cons]; exact hv.ext hx) (fun y hy => hok y (by simp [hy])) (by simp; omega) (by simp; omega) (by simpa using hN) ?_
    intro H2 x2
    exact hq H2 (hx.trans x2)
theorem tcheck_ok (v : Value) (l : List TB) (H : AH) (Q : Value → AH → Prop) (hv : TBs H v l) (hok : ∀ s ∈ l, TbOk s) (hl : l.length ≤ 8) (hq : ∀ H', HExt H H' → Q (.int .i64 0) H') : Got (xc Try.prog tab 68 [v] H) Q := by
  refine got_call (res := [.tmp 2]) rfl ?_
  have e0 : pLen v H = some (.int .i64 (l.length : Int), H) := pLen_ok hv.1
  have c3 : ¬ (l.length : Int) > 8 := by omega
  simp only [ofArgs, run_seq, run_block, run_ops, run_skip, run_exit, run_ret, thenQ_normal, thenQ_exit, thenQ_ret, blockQ_normal, blockQ_exit, blockQ_ret, retQ_ret, retQ_normal, ops_nil, ops_none, got_some, ops_wT, ops_wTn, ops_wF, ops_wFn, ops_wU, dops_wT, dops_wTn, dops_wF, dops_wFn, dops_wU, run_condT, run_condF, alt2_int, altB_bool, altI_int, altBB_bool, v_min, v_max, v_not, v_neg, optEv_none, optEv_some, isSome'_none, isSome'_some, pExt0, pExt1, pExt2, Bool.false_and, Bool.true_and, Bool.not_true, Bool.not_false, cond_true, cond_false, dops_nil, dops_none, xval_call, v_mov, v_bin, v_len, v_ext, v_idxA, v_ld, v_st, v_app, v_appN, v_cvs, v_bs1, pBs1, v_slc, v_conv, v_fld, v_fldA, v_new, v_box, v_mks, v_copy, v_isnil, v_nilck, v_pick, ev, evs_nil, evs_cons, fr_get_cons, fr_put_nil, fr_put_cons, fr_put_some, fr_put_none, fr_keep_nil, fr_keep_cons, fr_has_nil, fr_has_cons, Option.bind_some, Option.map_some, xbin, ibin, xresult_eq, xress_nil, xress_tmp, resV, ex_some, if_true, if_false, ite_true, ite_false, reduceIte, reduceCtorEq, Nat.reduceEqDiff, Nat.reduceLT, Nat.reduceLeDiff, Int.reduceLT, Int.reduceLE, Nat.zero_add, Nat.reduceAdd, Bool.false_eq_true, decide_eq_true_eq, decide_eq_false_iff_not, true_implies, false_implies, and_true, true_and, e0, c3, decide_false]
  refine tcheck_l0 v l [] H _ _ _ (by simpa using hv) hok (by simp; omega) (by simp) (by simp) ?_
  intro H' x
  simp only [ofArgs, run_seq, run_block, run_ops, run_skip, run_exit, run_ret, thenQ_normal, thenQ_exit, thenQ_ret, blockQ_normal, blockQ_exit, blockQ_ret, retQ_ret, retQ_normal, ops_nil, ops_none, got_some, ops_wT, ops_wTn, ops_wF, ops_wFn, ops_wU, dops_wT, dops_wTn, dops_wF, dops_wFn, dops_wU, run_condT, run_condF, alt2_int, altB_bool, altI_int, altBB_bool, v_min, v_max, v_not, v_neg, optEv_none, optEv_some, isSome'_none, isSome'_some, pExt0, pExt1, pExt2, Bool.false_and, Bool.true_and, Bool.not_true, Bool.not_false, cond_true, cond_false, dops_nil, dops_none, xval_call, v_mov, v_bin, v_len, v_ext, v_idxA, v_ld, v_st, v_app, v_appN, v_cvs, v_bs1, pBs1, v_slc, v_conv, v_fld, v_fldA, v_new, v_box, v_mks, v_copy, v_isnil, v_nilck, v_pick, ev, evs_nil, evs_cons, fr_get_cons, fr_put_nil, fr_put_cons, fr_put_some, fr_put_none, fr_keep_nil, fr_keep_cons, fr_has_nil, fr_has_cons, Option.bind_some, Option.map_some, xbin, ibin, xresult_eq, xress_nil, xress_tmp, resV, ex_some, if_true, if_false, ite_true, ite_false, reduceIte, reduceCtorEq, Nat.reduceEqDiff, Nat.reduceLT, Nat.reduceLeDiff, Int.reduceLT, Int.reduceLE, Nat.zero_add, Nat.reduceAdd, Bool.false_eq_true, decide_eq_true_eq, decide_eq_false_iff_not, true_implies, false_implies, and_true, true_and]
  exact hq H' x

/-! ### tape.Write -/
def altNN2 (o1 o2 : Option Value) (f : IntKind → Int → IntKind → Int → Option (Value × AH)) (z : Option (Value × AH)) : Option (Value × AH) :=
  match o1, o2 with
  | some (.int k n), some (.int k2 n2) => f k n k2 n2
  | _, _ => z
theorem altNN2_int (k k2 : IntKind) (n n2 : Int) (f : IntKind → Int → IntKind → Int → Option (Value × AH)) (z : Option (Value × AH)) : altNN2 (some (.int k n)) (some (.int k2 n2)) f z = f k n k2 n2 := rfl
theorem v_bs2v {P : Program} {T : XTab} (fr : Fr) (H : AH) (dd : Option Nat) (e : TypeId) (x y : Nat) (z : Value) : xval P (xc P T) ⟨dd, .bslice e 1 2 [z] [(0, .tmp x), (1, .tmp y)], none⟩ fr H =
    altNN2 (ev fr (.tmp x)) (ev fr (.tmp y)) (fun k n k2 n2 => some (.slice (some ⟨H.n, 0, none⟩) 2 2, H.push ⟨[.int k n, .int k2 n2], 1, false, false⟩)) (xop P fr H (.bslice e 1 2 [z] [(0, .tmp x), (1, .tmp y)])) := by
  rw [xval_op dd _ fr H rfl]
  unfold altNN2
  split
  · rename_i k n k2 n2 h h2
    rw [e_bslice]
    simp only [List.map_cons, List.map_nil, xfill, h, h2]
    rfl
  · rfl
theorem tw_l0 (n0 E : Nat) (u : Int) (hu : 4 ≤ u ∧ u ≤ 100) (w v : Value) (N1 i1 : Int) (r : Nat) : ∀ (acc : List Int) (vo : Value) (H : AH) (i : Int) (Q : XExit → Fr → AH → Prop), H.get E = some ⟨[.int .i64 u, w], 1, false, false⟩ → E < H.n → ¬ inB vo E → OwnI n0 H vo acc → n0 ≤ H.n → acc.length + r ≤ 100000 → i + r = 16 → 0 ≤ i →
    (∀ H' vo', OwnI n0 H' vo' (acc ++ pul u (List.replicate r 8)) → H.n ≤ H'.n → ¬ inB vo' E → (∀ b, b < H.n → ¬ inB vo b → H'.get b = H.get b) → (∀ b, inB vo' b → inB vo b ∨ H.n ≤ b) → Q (.exit 2) [(5, vo'), (7, .pointer (some ⟨E, 0, none⟩)), (17, v), (18, .int .i64 N1), (19, .int .i64 i1), (23, .int .i64 16), (24, .bool false)] H') →
    Run Try.prog tab (.loop xtape_Write_l0) [(5, vo), (7, .pointer (some ⟨E, 0, none⟩)), (17, v), (18, .int .i64 N1), (19, .int .i64 i1), (23, .int .i64 i)] H Q := by
  induction r with
  | zero =>
    intro acc vo H i Q hE hEn hvE ho hn hl hi hi0 hq
    rw [run_loop]
    generalize hL : XCode.loop xtape_Write_l0 = L
    have hi16 : i = 16 := by omega
    subst hi16
    simp only [xtape_Write_l0, ofArgs, run_seq, run_block, run_ops, run_skip, run_exit, run_ret, thenQ_normal, thenQ_exit, thenQ_ret, blockQ_normal, blockQ_exit, blockQ_ret, retQ_ret, retQ_normal, ops_nil, ops_none, got_some, ops_wT, ops_wTn, ops_wF, ops_wFn, ops_wU, dops_wT, dops_wTn, dops_wF, dops_wFn, dops_wU, run_condT, run_condF, alt2_int, altB_bool, altI_int, altBB_bool, v_min, v_max, v_not, v_neg, optEv_none, optEv_some, isSome'_none, isSome'_some, pExt0, pExt1, pExt2, Bool.false_and, Bool.true_and, Bool.not_true, Bool.not_false, cond_true, cond_false, dops_nil, dops_none, xval_call, v_mov, v_bin, v_len, v_ext, v_idxA, v_ld, v_st, v_app, v_appN, v_cvs, v_bs1, pBs1, v_slc, v_conv, v_fld, v_fldA, v_new, v_box, v_mks, v_copy, v_isnil, v_nilck, v_pick, ev, evs_nil, evs_cons, fr_get_cons, fr_put_nil, fr_put_cons, fr_put_some, fr_put_none, fr_keep_nil, fr_keep_cons, fr_has_nil, fr_has_cons, Option.bind_some, Option.map_some, xbin, ibin, xresult_eq, xress_nil, xress_tmp, resV, ex_some, if_true, if_false, ite_true, ite_false, reduceIte, reduceCtorEq, Nat.reduceEqDiff, Nat.reduceLT, Nat.reduceLeDiff, Int.reduceLT, Int.reduceLE, Nat.zero_add, Nat.reduceAdd, Bool.false_eq_true, decide_eq_true_eq, decide_eq_false_iff_not, true_implies, false_implies, and_true, true_and, Int.lt_irrefl, decide_false]
    exact hq H vo (by simpa [pul] using ho) (Nat.le_refl _) hvE (fun _ _ _ => rfl) (fun b hb => .inl hb)
  | succ r ih =>
    intro acc vo H i Q hE hEn hvE ho hn hl hi hi0 hq
    rw [run_loop]
    generalize hL : XCode.loop xtape_Write_l0 = L
    have hlt : i < 16 := by omega
    have l0 := bx2_0 hE
    have w1 := wrI (8 * u) (by omega) (by omega)
    have w3 := wrI (i + 1) (by omega) (by omega)
    simp only [xtape_Write_l0, ofArgs, run_seq, run_block, run_ops, run_skip, run_exit, run_ret, thenQ_normal, thenQ_exit, thenQ_ret, blockQ_normal, blockQ_exit, blockQ_ret, retQ_ret, retQ_normal, ops_nil, ops_none, got_some, ops_wT, ops_wTn, ops_wF, ops_wFn, ops_wU, dops_wT, dops_wTn, dops_wF, dops_wFn, dops_wU, run_condT, run_condF, alt2_int, altB_bool, altI_int, altBB_bool, v_min, v_max, v_not, v_neg, optEv_none, optEv_some, isSome'_none, isSome'_some, pExt0, pExt1, pExt2, Bool.false_and, Bool.true_and, Bool.not_true, Bool.not_false, cond_true, cond_false, dops_nil, dops_none, xval_call, v_mov, v_bin, v_len, v_ext, v_idxA, v_ld, v_st, v_app, v_appN, v_cvs, v_bs1, pBs1, v_slc, v_conv, v_fld, v_fldA, v_new, v_box, v_mks, v_copy, v_isnil, v_nilck, v_pick, ev, evs_nil, evs_cons, fr_get_cons, fr_put_nil, fr_put_cons, fr_put_some, fr_put_none, fr_keep_nil, fr_keep_cons, fr_has_nil, fr_has_cons, Option.bind_some, Option.map_some, xbin, ibin, xresult_eq, xress_nil, xress_tmp, resV, ex_some, if_true, if_false, ite_true, ite_false, reduceIte, reduceCtorEq, Nat.reduceEqDiff, Nat.reduceLT, Nat.reduceLeDiff, Int.reduceLT, Int.reduceLE, Nat.zero_add, Nat.reduceAdd, Bool.false_eq_true, decide_eq_true_eq, decide_eq_false_iff_not, true_implies, false_implies, and_true, true_and, hlt, decide_true, fldA0, l0, w1]
    refine app_one ho hn (by omega) fun v' H' ho' hs' => ?_
    have hE' := (hs'.get E hEn hvE).trans hE
    have hvE' : ¬ inB v' E := fun h => by
      rcases hs'.new E h with h1 | h1
      · exact hvE h1
      · omega
    have hn' := hs'.n
    simp only [ofArgs, run_seq, run_block, run_ops, run_skip, run_exit, run_ret, thenQ_normal, thenQ_exit, thenQ_ret, blockQ_normal, blockQ_exit, blockQ_ret, retQ_ret, retQ_normal, ops_nil, ops_none, got_some, ops_wT, ops_wTn, ops_wF, ops_wFn, ops_wU, dops_wT, dops_wTn, dops_wF, dops_wFn, dops_wU, run_condT, run_condF, alt2_int, altB_bool, altI_int, altBB_bool, v_min, v_max, v_not, v_neg, optEv_none, optEv_some, isSome'_none, isSome'_some, pExt0, pExt1, pExt2, Bool.false_and, Bool.true_and, Bool.not_true, Bool.not_false, cond_true, cond_false, dops_nil, dops_none, xval_call, v_mov, v_bin, v_len, v_ext, v_idxA, v_ld, v_st, v_app, v_appN, v_cvs, v_bs1, pBs1, v_slc, v_conv, v_fld, v_fldA, v_new, v_box, v_mks, v_copy, v_isnil, v_nilck, v_pick, ev, evs_nil, evs_cons, fr_get_cons, fr_put_nil, fr_put_cons, fr_put_some, fr_put_none, fr_keep_nil, fr_keep_cons, fr_has_nil, fr_has_cons, Option.bind_some, Option.map_some, xbin, ibin, xresult_eq, xress_nil, xress_tmp, resV, ex_some, if_true, if_false, ite_true, ite_false, reduceIte, reduceCtorEq, Nat.reduceEqDiff, Nat.reduceLT, Nat.reduceLeDiff, Int.reduceLT, Int.reduceLE, Nat.zero_add, Nat.reduceAdd, Bool.false_eq_true, decide_eq_true_eq, decide_eq_false_iff_not, true_implies, false_implies, and_true, true_and, w3]
    subst hL
    refine ih (acc ++ [8 * u]) v' H' (i + 1) Q hE' (by omega) hvE' ho' (by omega) (by simp; omega) (by omega) (by omega) ?_
    intro H2 v2 o2 n2 e2 g2 nw2
    have em : acc ++ [8 * u] ++ pul u (List.replicate r 8) = acc ++ pul u (List.replicate (r + 1) 8) := by simp [pul, List.replicate_succ]
    rw [em] at o2
    refine hq H2 v2 o2 (by omega) e2 (fun b hb hv => ?_) (fun b hb => ?_)
    · have hv' : ¬ inB v' b := fun h => by
        rcases hs'.new b h with h1 | h1
        · exact hv h1
        · omega
      exact (g2 b (by omega) hv').trans (hs'.get b hb hv)
    · rcases nw2 b hb with h | h
      · exact hs'.new b h
      · exact .inr (by omega)
end Go.Proofs.Ytejedmocjdcdgaa.D

set_option linter.unusedSimpArgs false
set_option linter.unusedVariables false
namespace Go.Proofs.Ytejedmocjdcdgaa.D
open Go Go.Det

/-- what is kept while a slice of our own grows -/
structure Grow (n0 : Nat) (v : Value) (H : AH) (v' : Value) (H' : AH) : Prop where
  n : H.n ≤ H'.n
  get : ∀ b, b < H.n → ¬ inB v b → H'.get b = H.get b
  new : ∀ b, inB v' b → inB v b ∨ H.n ≤ b
theorem Grow.refl (n0 : Nat) (v : Value) (H : AH) : Grow n0 v H v H := ⟨Nat.le_refl _, fun _ _ _ => rfl, fun b h => .inl h⟩
theorem Grow.trans {n0 : Nat} {v v' v'' : Value} {H H' H'' : AH} (h : Grow n0 v H v' H') (k : Grow n0 v' H' v'' H'') : Grow n0 v H v'' H'' :=
  ⟨Nat.le_trans h.n k.n, fun b hb hv => by
    have hv' : ¬ inB v' b := fun h1 => by
      rcases h.new b h1 with h2 | h2
      · exact hv h2
      · omega
    exact (k.get b (by have := h.n; omega) hv').trans (h.get b hb hv), fun b hb => by
    rcases k.new b hb with h1 | h1
    · exact h.new b h1
    · exact .inr (by have := h.n; omega)⟩
theorem Grow.stp {n0 : Nat} {v v' : Value} {H H' : AH} (h : Stp v H v' H') : Grow n0 v H v' H' := ⟨h.n, h.get, h.new⟩
theorem Grow.ext {n0 : Nat} {v : Value} {H H' : AH} (h : HExt H H') : Grow n0 v H v H' := ⟨h.1, fun b hb _ => h.2 b hb, fun b hb => .inl hb⟩
theorem Grow.out {n0 : Nat} {v v' : Value} {H H' : AH} (h : Grow n0 v H v' H') {E : Nat} (hE : E < H.n) (hv : ¬ inB v E) : ¬ inB v' E := fun h1 => by
  rcases h.new E h1 with h2 | h2
  · exact hv h2
  · omega

set_option maxHeartbeats 4000000 in
/-- a byte's pulses -/
theorem tw_l1 (n0 E : Nat) (u : Int) (hu : 4 ≤ u ∧ u ≤ 100) (w v vb : Value) (N1 i1 N2 j2 : Int) (c : Nat) (hc : c < 256) (r : Nat) : ∀ (acc : List Int) (vo : Value) (H : AH) (k : Int) (Q : XExit → Fr → AH → Prop), H.get E = some ⟨[.int .i64 u, w], 1, false, false⟩ → E < H.n → ¬ inB vo E → OwnI n0 H vo acc → n0 ≤ H.n → acc.length + 2 * r ≤ 100000 → r ≤ 8 → k = (r : Int) - 1 →
    (∀ H' vo', OwnI n0 H' vo' (acc ++ pul u (bytU c r)) → Grow n0 vo H vo' H' → Q (.exit 6) [(5, vo'), (7, .pointer (some ⟨E, 0, none⟩)), (9, .int .u8 (c : Int)), (10, .int .i64 (-1)), (17, v), (18, .int .i64 N1), (19, .int .i64 i1), (56, vb), (57, .int .i64 N2), (58, .int .i64 j2), (63, .bool false)] H') →
    Run Try.prog tab (.loop xtape_Write_l1) [(5, vo), (7, .pointer (some ⟨E, 0, none⟩)), (9, .int .u8 (c : Int)), (10, .int .i64 k), (17, v), (18, .int .i64 N1), (19, .int .i64 i1), (56, vb), (57, .int .i64 N2), (58, .int .i64 j2)] H Q := by
  induction r with
  | zero =>
    intro acc vo H k Q hE hEn hvE ho hn hl hr hk hq
    rw [run_loop]
    generalize hL : XCode.loop xtape_Write_l1 = L
    have hk1 : k = -1 := by omega
    subst hk1
    have hf : ¬ (-1 : Int) ≥ 0 := by decide
    simp only [xtape_Write_l1, ofArgs, run_seq, run_block, run_ops, run_skip, run_exit, run_ret, thenQ_normal, thenQ_exit, thenQ_ret, blockQ_normal, blockQ_exit, blockQ_ret, retQ_ret, retQ_normal, ops_nil, ops_none, got_some, ops_wT, ops_wTn, ops_wF, ops_wFn, ops_wU, dops_wT, dops_wTn, dops_wF, dops_wFn, dops_wU, run_condT, run_condF, alt2_int, altB_bool, altI_int, altBB_bool, v_min, v_max, v_not, v_neg, optEv_none, optEv_some, isSome'_none, isSome'_some, pExt0, pExt1, pExt2, Bool.false_and, Bool.true_and, Bool.not_true, Bool.not_false, cond_true, cond_false, dops_nil, dops_none, xval_call, v_mov, v_bin, v_len, v_ext, v_idxA, v_ld, v_st, v_app, v_appN, v_cvs, v_bs1, pBs1, v_slc, v_conv, v_fld, v_fldA, v_new, v_box, v_mks, v_copy, v_isnil, v_nilck, v_pick, ev, evs_nil, evs_cons, fr_get_cons, fr_put_nil, fr_put_cons, fr_put_some, fr_put_none, fr_keep_nil, fr_keep_cons, fr_has_nil, fr_has_cons, Option.bind_some, Option.map_some, xbin, ibin, xresult_eq, xress_nil, xress_tmp, resV, ex_some, if_true, if_false, ite_true, ite_false, reduceIte, reduceCtorEq, Nat.reduceEqDiff, Nat.reduceLT, Nat.reduceLeDiff, Int.reduceLT, Int.reduceLE, Nat.zero_add, Nat.reduceAdd, Bool.false_eq_true, decide_eq_true_eq, decide_eq_false_iff_not, true_implies, false_implies, and_true, true_and, hf, decide_false]
    exact hq H vo (by simpa [pul, bytU] using ho) (.refl _ _ _)
  | succ r ih =>
    intro acc vo H k Q hE hEn hvE ho hn hl hr hk hq
    rw [run_loop]
    generalize hL : XCode.loop xtape_Write_l1 = L
    obtain rfl : k = (r : Int) := by omega
    have hge : (r : Int) ≥ 0 := by omega
    have l0 := bx2_0 hE
    have w1 := wrI (2 * u) (by omega) (by omega)
    have w2 := wrI (4 * u) (by omega) (by omega)
    have w3 := wrI ((r : Int) - 1) (by omega) (by omega)
    have c2 : ¬ (r : Int) < 0 := by omega
    have t1 : min (Int.toNat (r : Int)) IntKind.u8.bits = r := by
      rw [Int.toNat_natCast]; show min _ 8 = _; omega
    have t2 := shrN c r
    have t3 := b_and (c >>> r) 1 (by rw [Nat.shiftRight_eq_div_pow]; exact Nat.lt_of_le_of_lt (Nat.div_le_self _ _) hc) (by omega)
    have n1 : ((1 : Nat) : Int) = 1 := rfl
    rw [n1] at t3
    have t4 := and1 c r
    generalize hbit : c.testBit r = bit at t4
    have fin : ∀ y : Int, y = bitU bit * u → Got (xapp (H.push ⟨[.int .i64 y, .int .i64 y], 1, false, false⟩) 1 8 vo (.slice (some ⟨H.n, 0, none⟩) 2 2)) fun vo' H' => Run Try.prog tab L [(5, vo'), (7, .pointer (some ⟨E, 0, none⟩)), (9, .int .u8 (c : Int)), (10, .int .i64 ((r : Int) - 1)), (17, v), (18, .int .i64 N1), (19, .int .i64 i1), (56, vb), (57, .int .i64 N2), (58, .int .i64 j2)] H' Q := by
      intro y hy
      have x1 := hext_push H ⟨[.int .i64 y, .int .i64 y], 1, false, false⟩
      have nx : (H.push ⟨[.int .i64 y, .int .i64 y], 1, false, false⟩).n = H.n + 1 := rfl
      have g1 : Grow n0 vo H vo (H.push ⟨[.int .i64 y, .int .i64 y], 1, false, false⟩) := .ext x1
      have ho1 : OwnI n0 (H.push ⟨[.int .i64 y, .int .i64 y], 1, false, false⟩) vo acc := Own.ext x1 ho
      refine xapp_own ho1 (by omega) (Sl.pushed H [.int .i64 y, .int .i64 y] 1 2 false false rfl) rfl (Nat.le_refl _) (by decide) (by omega) ?_
      intro vo' H' o' st
      have gg := g1.trans (.stp st)
      have o2 : OwnI n0 H' vo' (acc ++ [y, y]) := by
        unfold OwnI
        rw [List.length_append, List.map_append]
        exact o'
      subst hL
      refine ih (acc ++ [y, y]) vo' H' ((r : Int) - 1) Q ((gg.get E hEn hvE).trans hE) (by have := gg.n; omega) (gg.out hEn hvE) o2 (by have := gg.n; omega) (by simp; omega) (by omega) rfl ?_
      intro H2 v2 o3 g2
      refine hq H2 v2 ?_ (gg.trans g2)
      have em : acc ++ [y, y] ++ pul u (bytU c r) = acc ++ pul u (bytU c (r + 1)) := by simp [pul, bytU, hbit, hy]
      rw [em] at o3
      exact o3
    cases bit with
    | true =>
      simp only [xtape_Write_l1, ofArgs, run_seq, run_block, run_ops, run_skip, run_exit, run_ret, thenQ_normal, thenQ_exit, thenQ_ret, blockQ_normal, blockQ_exit, blockQ_ret, retQ_ret, retQ_normal, ops_nil, ops_none, got_some, ops_wT, ops_wTn, ops_wF, ops_wFn, ops_wU, dops_wT, dops_wTn, dops_wF, dops_wFn, dops_wU, run_condT, run_condF, alt2_int, altB_bool, altI_int, altBB_bool, v_min, v_max, v_not, v_neg, optEv_none, optEv_some, isSome'_none, isSome'_some, pExt0, pExt1, pExt2, Bool.false_and, Bool.true_and, Bool.not_true, Bool.not_false, cond_true, cond_false, dops_nil, dops_none, xval_call, v_mov, v_bin, v_len, v_ext, v_idxA, v_ld, v_st, v_app, v_appN, v_cvs, v_bs1, pBs1, v_slc, v_conv, v_fld, v_fldA, v_new, v_box, v_mks, v_copy, v_isnil, v_nilck, v_pick, ev, evs_nil, evs_cons, fr_get_cons, fr_put_nil, fr_put_cons, fr_put_some, fr_put_none, fr_keep_nil, fr_keep_cons, fr_has_nil, fr_has_cons, Option.bind_some, Option.map_some, xbin, ibin, xresult_eq, xress_nil, xress_tmp, resV, ex_some, if_true, if_false, ite_true, ite_false, reduceIte, reduceCtorEq, Nat.reduceEqDiff, Nat.reduceLT, Nat.reduceLeDiff, Int.reduceLT, Int.reduceLE, Nat.zero_add, Nat.reduceAdd, Bool.false_eq_true, decide_eq_true_eq, decide_eq_false_iff_not, true_implies, false_implies, and_true, true_and, hge, decide_true, fldA0, l0, w1, w2, c2, t1, t2, t3, t4, v_bs2v, altNN2_int]
      refine (fin (4 * u) rfl).mono ?_
      intro vo' H' hr'
      simp only [ofArgs, run_seq, run_block, run_ops, run_skip, run_exit, run_ret, thenQ_normal, thenQ_exit, thenQ_ret, blockQ_normal, blockQ_exit, blockQ_ret, retQ_ret, retQ_normal, ops_nil, ops_none, got_some, ops_wT, ops_wTn, ops_wF, ops_wFn, ops_wU, dops_wT, dops_wTn, dops_wF, dops_wFn, dops_wU, run_condT, run_condF, alt2_int, altB_bool, altI_int, altBB_bool, v_min, v_max, v_not, v_neg, optEv_none, optEv_some, isSome'_none, isSome'_some, pExt0, pExt1, pExt2, Bool.false_and, Bool.true_and, Bool.not_true, Bool.not_false, cond_true, cond_false, dops_nil, dops_none, xval_call, v_mov, v_bin, v_len, v_ext, v_idxA, v_ld, v_st, v_app, v_appN, v_cvs, v_bs1, pBs1, v_slc, v_conv, v_fld, v_fldA, v_new, v_box, v_mks, v_copy, v_isnil, v_nilck, v_pick, ev, evs_nil, evs_cons, fr_get_cons, fr_put_nil, fr_put_cons, fr_put_some, fr_put_none, fr_keep_nil, fr_keep_cons, fr_has_nil, fr_has_cons, Option.bind_some, Option.map_some, xbin, ibin, xresult_eq, xress_nil, xress_tmp, resV, ex_some, if_true, if_false, ite_true, ite_false, reduceIte, reduceCtorEq, Nat.reduceEqDiff, Nat.reduceLT, Nat.reduceLeDiff, Int.reduceLT, Int.reduceLE, Nat.zero_add, Nat.reduceAdd, Bool.false_eq_true, decide_eq_true_eq, decide_eq_false_iff_not, true_implies, false_implies, and_true, true_and, w3]
      exact hr'
    | false =>
      simp only [xtape_Write_l1, ofArgs, run_seq, run_block, run_ops, run_skip, run_exit, run_ret, thenQ_normal, thenQ_exit, thenQ_ret, blockQ_normal, blockQ_exit, blockQ_ret, retQ_ret, retQ_normal, ops_nil, ops_none, got_some, ops_wT, ops_wTn, ops_wF, ops_wFn, ops_wU, dops_wT, dops_wTn, dops_wF, dops_wFn, dops_wU, run_condT, run_condF, alt2_int, altB_bool, altI_int, altBB_bool, v_min, v_max, v_not, v_neg, optEv_none, optEv_some, isSome'_none, isSome'_some, pExt0, pExt1, pExt2, Bool.false_and, Bool.true_and, Bool.not_true, Bool.not_false, cond_true, cond_false, dops_nil, dops_none, xval_call, v_mov, v_bin, v_len, v_ext, v_idxA, v_ld, v_st, v_app, v_appN, v_cvs, v_bs1, pBs1, v_slc, v_conv, v_fld, v_fldA, v_new, v_box, v_mks, v_copy, v_isnil, v_nilck, v_pick, ev, evs_nil, evs_cons, fr_get_cons, fr_put_nil, fr_put_cons, fr_put_some, fr_put_none, fr_keep_nil, fr_keep_cons, fr_has_nil, fr_has_cons, Option.bind_some, Option.map_some, xbin, ibin, xresult_eq, xress_nil, xress_tmp, resV, ex_some, if_true, if_false, ite_true, ite_false, reduceIte, reduceCtorEq, Nat.reduceEqDiff, Nat.reduceLT, Nat.reduceLeDiff, Int.reduceLT, Int.reduceLE, Nat.zero_add, Nat.reduceAdd, Bool.false_eq_true, decide_eq_true_eq, decide_eq_false_iff_not, true_implies, false_implies, and_true, true_and, hge, decide_true, fldA0, l0, w1, w2, c2, t1, t2, t3, t4, v_bs2v, altNN2_int]
      refine (fin (2 * u) rfl).mono ?_
      intro vo' H' hr'
      simp only [ofArgs, run_seq, run_block, run_ops, run_skip, run_exit, run_ret, thenQ_normal, thenQ_exit, thenQ_ret, blockQ_normal, blockQ_exit, blockQ_ret, retQ_ret, retQ_normal, ops_nil, ops_none, got_some, ops_wT, ops_wTn, ops_wF, ops_wFn, ops_wU, dops_wT, dops_wTn, dops_wF, dops_wFn, dops_wU, run_condT, run_condF, alt2_int, altB_bool, altI_int, altBB_bool, v_min, v_max, v_not, v_neg, optEv_none, optEv_some, isSome'_none, isSome'_some, pExt0, pExt1, pExt2, Bool.false_and, Bool.true_and, Bool.not_true, Bool.not_false, cond_true, cond_false, dops_nil, dops_none, xval_call, v_mov, v_bin, v_len, v_ext, v_idxA, v_ld, v_st, v_app, v_appN, v_cvs, v_bs1, pBs1, v_slc, v_conv, v_fld, v_fldA, v_new, v_box, v_mks, v_copy, v_isnil, v_nilck, v_pick, ev, evs_nil, evs_cons, fr_get_cons, fr_put_nil, fr_put_cons, fr_put_some, fr_put_none, fr_keep_nil, fr_keep_cons, fr_has_nil, fr_has_cons, Option.bind_some, Option.map_some, xbin, ibin, xresult_eq, xress_nil, xress_tmp, resV, ex_some, if_true, if_false, ite_true, ite_false, reduceIte, reduceCtorEq, Nat.reduceEqDiff, Nat.reduceLT, Nat.reduceLeDiff, Int.reduceLT, Int.reduceLE, Nat.zero_add, Nat.reduceAdd, Bool.false_eq_true, decide_eq_true_eq, decide_eq_false_iff_not, true_implies, false_implies, and_true, true_and, w3]
      exact hr'
/-- all bytes' pulses -/
theorem tw_l2 (n0 E : Nat) (u : Int) (hu : 4 ≤ u ∧ u ≤ 100) (w v vb : Value) (N1 i1 : Int) (rest : List Int) : ∀ (pre acc : List Int) (vo : Value) (H : AH) (j N : Int) (Q : XExit → Fr → AH → Prop), H.get E = some ⟨[.int .i64 u, w], 1, false, false⟩ → E < H.n → ¬ inB vo E → OwnI n0 H vo acc → n0 ≤ H.n → Byts H vb (pre ++ rest) → (∀ b, inB vb b → ¬ inB vo b) → B8 rest → acc.length + 16 * rest.length ≤ 100000 → pre.length + rest.length ≤ 1000 → j = (pre.length : Int) → N = ((pre ++ rest).length : Int) →
    (∀ H' vo', OwnI n0 H' vo' (acc ++ pul u (bytsU rest)) → Grow n0 vo H vo' H' → Q (.exit 4) [(5, vo'), (7, .pointer (some ⟨E, 0, none⟩)), (17, v), (18, .int .i64 N1), (19, .int .i64 i1), (56, vb), (57, .int .i64 N), (58, .int .i64 N), (59, .bool false)] H') →
    Run Try.prog tab (.loop xtape_Write_l2) [(5, vo), (7, .pointer (some ⟨E, 0, none⟩)), (17, v), (18, .int .i64 N1), (19, .int .i64 i1), (56, vb), (57, .int .i64 N), (58, .int .i64 j)] H Q := by
  induction rest with
  | nil =>
    intro pre acc vo H j N Q hE hEn hvE ho hn hb hd h8 hl hl2 hj hN hq
    rw [run_loop]
    generalize hL : XCode.loop xtape_Write_l2 = L
    have hjN : j = N := by simp at hN; omega
    subst hjN
    have hf : ¬ j < j := by omega
    simp only [xtape_Write_l2, ofArgs, run_seq, run_block, run_ops, run_skip, run_exit, run_ret, thenQ_normal, thenQ_exit, thenQ_ret, blockQ_normal, blockQ_exit, blockQ_ret, retQ_ret, retQ_normal, ops_nil, ops_none, got_some, ops_wT, ops_wTn, ops_wF, ops_wFn, ops_wU, dops_wT, dops_wTn, dops_wF, dops_wFn, dops_wU, run_condT, run_condF, alt2_int, altB_bool, altI_int, altBB_bool, v_min, v_max, v_not, v_neg, optEv_none, optEv_some, isSome'_none, isSome'_some, pExt0, pExt1, pExt2, Bool.false_and, Bool.true_and, Bool.not_true, Bool.not_false, cond_true, cond_false, dops_nil, dops_none, xval_call, v_mov, v_bin, v_len, v_ext, v_idxA, v_ld, v_st, v_app, v_appN, v_cvs, v_bs1, pBs1, v_slc, v_conv, v_fld, v_fldA, v_new, v_box, v_mks, v_copy, v_isnil, v_nilck, v_pick, ev, evs_nil, evs_cons, fr_get_cons, fr_put_nil, fr_put_cons, fr_put_some, fr_put_none, fr_keep_nil, fr_keep_cons, fr_has_nil, fr_has_cons, Option.bind_some, Option.map_some, xbin, ibin, xresult_eq, xress_nil, xress_tmp, resV, ex_some, if_true, if_false, ite_true, ite_false, reduceIte, reduceCtorEq, Nat.reduceEqDiff, Nat.reduceLT, Nat.reduceLeDiff, Int.reduceLT, Int.reduceLE, Nat.zero_add, Nat.reduceAdd, Bool.false_eq_true, decide_eq_true_eq, decide_eq_false_iff_not, true_implies, false_implies, and_true, true_and, hf, decide_false]
    exact hq H vo (by simpa [pul, bytsU] using ho) (.refl _ _ _)
  | cons a rest ih =>
    intro pre acc vo H j N Q hE hEn hvE ho hn hb hd h8 hl hl2 hj hN hq
    rw [run_loop]
    generalize hL : XCode.loop xtape_Write_l2 = L
    simp only [List.length_cons] at hl hl2
    have hlt : j < N := by simp at hN; omega
    have ha := h8 a (by simp)
    have e1 := byts_idx hb j pre.length hj (by simp)
    have e2 := byts_ld hb pre.length a (by simp)
    have e4 := wrI (j + 1) (by omega) (by omega)
    obtain ⟨c, rfl⟩ : ∃ c : Nat, a = (c : Int) := ⟨a.toNat, by omega⟩
    simp only [xtape_Write_l2, ofArgs, run_seq, run_block, run_ops, run_skip, run_exit, run_ret, thenQ_normal, thenQ_exit, thenQ_ret, blockQ_normal, blockQ_exit, blockQ_ret, retQ_ret, retQ_normal, ops_nil, ops_none, got_some, ops_wT, ops_wTn, ops_wF, ops_wFn, ops_wU, dops_wT, dops_wTn, dops_wF, dops_wFn, dops_wU, run_condT, run_condF, alt2_int, altB_bool, altI_int, altBB_bool, v_min, v_max, v_not, v_neg, optEv_none, optEv_some, isSome'_none, isSome'_some, pExt0, pExt1, pExt2, Bool.false_and, Bool.true_and, Bool.not_true, Bool.not_false, cond_true, cond_false, dops_nil, dops_none, xval_call, v_mov, v_bin, v_len, v_ext, v_idxA, v_ld, v_st, v_app, v_appN, v_cvs, v_bs1, pBs1, v_slc, v_conv, v_fld, v_fldA, v_new, v_box, v_mks, v_copy, v_isnil, v_nilck, v_pick, ev, evs_nil, evs_cons, fr_get_cons, fr_put_nil, fr_put_cons, fr_put_some, fr_put_none, fr_keep_nil, fr_keep_cons, fr_has_nil, fr_has_cons, Option.bind_some, Option.map_some, xbin, ibin, xresult_eq, xress_nil, xress_tmp, resV, ex_some, if_true, if_false, ite_true, ite_false, reduceIte, reduceCtorEq, Nat.reduceEqDiff, Nat.reduceLT, Nat.reduceLeDiff, Int.reduceLT, Int.reduceLE, Nat.zero_add, Nat.reduceAdd, Bool.false_eq_true, decide_eq_true_eq, decide_eq_false_iff_not, true_implies, false_implies, and_true, true_and, hlt, decide_true, e1, e2]
    refine tw_l1 n0 E u hu w v vb N1 i1 N j c (by omega) 8 acc vo H 7 _ hE hEn hvE ho hn (by omega) (Nat.le_refl _) rfl ?_
    intro H' vo' o' g'
    simp only [ofArgs, run_seq, run_block, run_ops, run_skip, run_exit, run_ret, thenQ_normal, thenQ_exit, thenQ_ret, blockQ_normal, blockQ_exit, blockQ_ret, retQ_ret, retQ_normal, ops_nil, ops_none, got_some, ops_wT, ops_wTn, ops_wF, ops_wFn, ops_wU, dops_wT, dops_wTn, dops_wF, dops_wFn, dops_wU, run_condT, run_condF, alt2_int, altB_bool, altI_int, altBB_bool, v_min, v_max, v_not, v_neg, optEv_none, optEv_some, isSome'_none, isSome'_some, pExt0, pExt1, pExt2, Bool.false_and, Bool.true_and, Bool.not_true, Bool.not_false, cond_true, cond_false, dops_nil, dops_none, xval_call, v_mov, v_bin, v_len, v_ext, v_idxA, v_ld, v_st, v_app, v_appN, v_cvs, v_bs1, pBs1, v_slc, v_conv, v_fld, v_fldA, v_new, v_box, v_mks, v_copy, v_isnil, v_nilck, v_pick, ev, evs_nil, evs_cons, fr_get_cons, fr_put_nil, fr_put_cons, fr_put_some, fr_put_none, fr_keep_nil, fr_keep_cons, fr_has_nil, fr_has_cons, Option.bind_some, Option.map_some, xbin, ibin, xresult_eq, xress_nil, xress_tmp, resV, ex_some, if_true, if_false, ite_true, ite_false, reduceIte, reduceCtorEq, Nat.reduceEqDiff, Nat.reduceLT, Nat.reduceLeDiff, Int.reduceLT, Int.reduceLE, Nat.zero_add, Nat.reduceAdd, Bool.false_eq_true, decide_eq_true_eq, decide_eq_false_iff_not, true_implies, false_implies, and_true, true_and, e4]
    subst hL
    have hb' : Byts H' vb ((pre ++ [(c : Int)]) ++ rest) := Byts.app1 (Sl.same hb g'.n fun b hbb => g'.get b (Sl.lt hb hbb) (hd b hbb))
    have hd' : ∀ b, inB vb b → ¬ inB vo' b := fun b hbb hv => by
      rcases g'.new b hv with h | h
      · exact hd b hbb h
      · have := Sl.lt hb hbb; omega
    have hpl : (pul u (bytU c 8)).length = 16 := by simp [pul, bytU_len]
    refine ih (pre ++ [(c : Int)]) _ vo' H' (j + 1) N Q ((g'.get E hEn hvE).trans hE) (by have := g'.n; omega) (g'.out hEn hvE) o' (by have := g'.n; omega) hb' hd' (fun b hb => h8 b (by simp [hb])) (by rw [List.length_append, hpl]; omega) (by simp; omega) (by simp; omega) (by simpa using hN) ?_
    intro H2 v2 o2 g2
    have em : acc ++ pul u (bytU c 8) ++ pul u (bytsU rest) = acc ++ pul u (bytsU ((c : Int) :: rest)) := by simp [pul, bytsU]
    rw [em] at o2
    exact hq H2 v2 o2 (g'.trans g2)
end Go.Proofs.Ytejedmocjdcdgaa.D
