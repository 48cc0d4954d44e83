/- What runs of the program's functions compute, on a heap of the run's own, and that the machine does what such a run says: the conditions stand in each theorem. -/
import Derived.Test.YtejedmocjdcdgaaProg
import Derived.Test.YtejedmocjdcdgaaImM3
/- The functions that the law reaches, as tables of steps, and that each table is what the program has. -/
set_option maxRecDepth 100000
namespace Go.Proofs.Ytejedmocjdcdgaa.D
open Go Go.Det

/-- bakelite/bakekeep2.ImageBack -/
def xbakekeep2_ImageBack : XFunc := .code (.seq (.ops [⟨some 4, .mov (.const (.bool false)), none⟩] [0, 1]) (.seq (.ops [⟨some 10, .mov (.tmp 0), none⟩, ⟨some 11, .call 55 [.tmp 10], none⟩, ⟨some 5, .new 60 1 [.int .i64 0, .int .i64 0, .slice none 0 0], none⟩, ⟨none, .st 3 (.tmp 5) (.tmp 11), none⟩] [1, 5]) (.seq (.ops [⟨some 12, .mov (.tmp 1), none⟩, ⟨some 13, .call 14 [.tmp 12, .const (.int .i64 50)], none⟩, ⟨some 14, .bin .add (.const (.int .i64 2)) (.tmp 13), none⟩, ⟨some 1, .mov (.tmp 14), none⟩] [1, 5]) (.seq (.ops [⟨some 16, .ld (some 3) (.tmp 5), none⟩, ⟨some 17, .mov (.tmp 1), none⟩, ⟨some 18, .call 56 [.tmp 16, .tmp 17], none⟩, ⟨some 15, .mov (.tmp 18), none⟩, ⟨some 19, .ext (.tmp 15) 0, none⟩, ⟨some 20, .ext (.tmp 15) 1, none⟩, ⟨some 6, .mov (.tmp 19), none⟩, ⟨some 7, .mov (.tmp 20), none⟩] [1, 5, 6, 7]) (.seq (.ops [⟨some 22, .mov (.tmp 6), none⟩, ⟨some 23, .mov (.tmp 1), none⟩, ⟨some 24, .call 57 [.tmp 22, .tmp 23], none⟩, ⟨some 21, .mov (.tmp 24), none⟩, ⟨some 25, .ext (.tmp 21) 0, none⟩, ⟨some 26, .ext (.tmp 21) 1, none⟩, ⟨some 8, .new 60 1 [.int .i64 0, .int .i64 0, .slice none 0 0], none⟩, ⟨none, .st 3 (.tmp 8) (.tmp 25), none⟩, ⟨some 9, .mov (.tmp 26), none⟩] [5, 6, 7, 8, 9]) (.seq (.ops [⟨some 27, .ld (some 3) (.tmp 5), none⟩, ⟨some 28, .call 58 [.tmp 27], none⟩, ⟨some 29, .bin .eql (.tmp 28) (.const (.int .i64 0)), none⟩, ⟨some 30, .mov (.tmp 29), none⟩, ⟨some 31, .mov (.tmp 7), some (30, true)⟩, ⟨some 32, .bin .eql (.tmp 31) (.const (.int .i64 0)), some (30, true)⟩, ⟨some 33, .pick (.tmp 30) (.tmp 32) (.const (.bool false)), none⟩, ⟨some 34, .mov (.tmp 33), none⟩, ⟨some 35, .mov (.tmp 9), some (34, true)⟩, ⟨some 36, .bin .eql (.tmp 35) (.const (.int .i64 0)), some (34, true)⟩, ⟨some 37, .pick (.tmp 34) (.tmp 36) (.const (.bool false)), none⟩, ⟨some 38, .mov (.tmp 37), none⟩, ⟨some 39, .ld (some 3) (.tmp 5), some (38, true)⟩, ⟨some 40, .ld (some 3) (.tmp 8), some (38, true)⟩, ⟨some 41, .call 59 [.tmp 39, .tmp 40], some (38, true)⟩, ⟨some 42, .pick (.tmp 38) (.tmp 41) (.const (.bool false)), none⟩, ⟨some 43, .mov (.tmp 42), none⟩, ⟨some 44, .mov (.tmp 6), some (43, true)⟩, ⟨some 45, .len (.tmp 44), some (43, true)⟩, ⟨some 46, .fldA 0 (.tmp 5), some (43, true)⟩, ⟨some 47, .ld none (.tmp 46), some (43, true)⟩, ⟨some 48, .bin .eql (.tmp 45) (.tmp 47), some (43, true)⟩, ⟨some 49, .pick (.tmp 43) (.tmp 48) (.const (.bool false)), none⟩, ⟨some 50, .mov (.tmp 49), none⟩, ⟨some 51, .build [.int .i64 0, .int .i64 0, .slice none 0 0] [], some (50, true)⟩, ⟨some 52, .call 58 [.tmp 51], some (50, true)⟩, ⟨some 53, .bin .eql (.tmp 52) (.const (.int .i64 1)), some (50, true)⟩, ⟨some 54, .pick (.tmp 50) (.tmp 53) (.const (.bool false)), none⟩, ⟨some 4, .mov (.tmp 54), none⟩] [4]) .ret)))))) [.tmp 4]
theorem xbakekeep2_ImageBack_ok : cFunc Try.prog Try.f12 [[0,1],[1,5],[1,5],[1,5,6,7],[5,6,7,8,9],[4]] = some xbakekeep2_ImageBack := by kernel_rfl
/-- bakelite/bakemake.Below -/
def xbakemake_Below : XFunc := .code (.seq (.ops [⟨some 4, .mov (.const (.int .i64 0)), none⟩] [0, 1]) (.seq (.seq (.ops [⟨some 5, .mov (.tmp 0), none⟩, ⟨some 6, .mov (.tmp 1), none⟩, ⟨some 7, .bin .rem (.tmp 5) (.tmp 6), none⟩, ⟨some 0, .mov (.tmp 7), none⟩] [0, 1]) (.seq (.ops [⟨some 8, .mov (.tmp 0), none⟩, ⟨some 9, .bin .lss (.tmp 8) (.const (.int .i64 0)), none⟩] [0, 1, 9]) (.cond (.tmp 9) (.ops [⟨some 10, .mov (.tmp 0), none⟩, ⟨some 11, .mov (.tmp 1), none⟩, ⟨some 12, .bin .add (.tmp 10) (.tmp 11), none⟩, ⟨some 0, .mov (.tmp 12), none⟩] [0]) .skip))) (.seq (.ops [⟨some 13, .mov (.tmp 0), none⟩, ⟨some 4, .mov (.tmp 13), none⟩] [4]) .ret))) [.tmp 4]
theorem xbakemake_Below_ok : cFunc Try.prog Try.f14 [[0,1],[0,1],[0,1,9],[0],[4]] = some xbakemake_Below := by kernel_rfl
def xslices_Equal_Sbyte_byte_l0 : XCode := .seq (.ops [⟨some 14, .bin .lss (.tmp 13) (.tmp 12), none⟩] [0, 1, 12, 13, 14]) (.seq (.cond (.tmp 14) .skip (.exit 0)) (.seq (.block 1 (.seq (.ops [⟨some 15, .mov (.tmp 13), none⟩, ⟨some 5, .mov (.tmp 15), none⟩] [0, 1, 5, 12, 13]) (.seq (.dops [.mk ⟨some 16, .mov (.tmp 0), none⟩ [0] 0 [], .mk ⟨some 17, .mov (.tmp 5), none⟩ [5] 0 [], .mk ⟨some 18, .idxA 1 (.tmp 16) (.tmp 17), none⟩ [16, 17] 0 [], .mk ⟨some 19, .ld none (.tmp 18), none⟩ [18] 1 [], .mk ⟨some 20, .mov (.tmp 1), none⟩ [1] 0 [], .mk ⟨some 21, .mov (.tmp 5), none⟩ [5] 0 [], .mk ⟨some 22, .idxA 1 (.tmp 20) (.tmp 21), none⟩ [20, 21] 0 [], .mk ⟨some 23, .ld none (.tmp 22), none⟩ [22] 1 [], .mk ⟨some 24, .bin .neq (.tmp 19) (.tmp 23), none⟩ [19, 23] 0 []] [0, 1, 12, 13, 24]) (.cond (.tmp 24) (.seq (.ops [⟨some 4, .mov (.const (.bool false)), none⟩] [4]) .ret) .skip)))) (.ops [⟨some 25, .bin .add (.tmp 13) (.const (.int .i64 1)), none⟩, ⟨some 13, .mov (.tmp 25), none⟩] [0, 1, 12, 13])))
/-- slices.Equal[[]byte,byte] -/
def xslices_Equal_Sbyte_byte : XFunc := .code (.seq (.ops [⟨some 4, .mov (.const (.bool false)), none⟩] [0, 1]) (.seq (.seq (.ops [⟨some 6, .mov (.tmp 0), none⟩, ⟨some 7, .len (.tmp 6), none⟩, ⟨some 8, .mov (.tmp 1), none⟩, ⟨some 9, .len (.tmp 8), none⟩, ⟨some 10, .bin .neq (.tmp 7) (.tmp 9), none⟩] [0, 1, 10]) (.cond (.tmp 10) (.seq (.ops [⟨some 4, .mov (.const (.bool false)), none⟩] [4]) .ret) .skip)) (.seq (.seq (.ops [⟨some 11, .mov (.tmp 0), none⟩, ⟨some 12, .len (.tmp 11), none⟩, ⟨some 13, .mov (.const (.int .i64 0)), none⟩] [0, 1, 12, 13]) (.block 0 (.loop xslices_Equal_Sbyte_byte_l0))) (.seq (.ops [⟨some 4, .mov (.const (.bool true)), none⟩] [4]) .ret)))) [.tmp 4]
theorem xslices_Equal_Sbyte_byte_ok : cFunc Try.prog Try.f18 [[0,1],[0,1,10],[4],[0,1,12,13],[0,1,12,13,14],[0,1,5,12,13],[0,1,12,13,24],[4],[0,1,12,13],[4]] = some xslices_Equal_Sbyte_byte := by kernel_rfl
def xmfm_WriteParts_l0 : XCode := .seq (.ops [⟨some 30, .bin .lss (.tmp 29) (.tmp 28), none⟩] [1, 6, 16, 17, 18, 27, 28, 29, 30]) (.seq (.cond (.tmp 30) .skip (.exit 2)) (.seq (.block 3 (.seq (.ops [⟨some 31, .idxA 1 (.tmp 27) (.tmp 29), none⟩, ⟨some 32, .ld none (.tmp 31), none⟩, ⟨some 10, .mov (.tmp 32), none⟩] [1, 6, 10, 16, 17, 18, 27, 28, 29]) (.ops [⟨some 33, .mov (.tmp 6), none⟩, ⟨some 34, .mov (.tmp 10), none⟩, ⟨some 35, .call 76 [.tmp 33, .tmp 34, .const (.bool false)], none⟩] [1, 6, 16, 17, 18, 27, 28, 29]))) (.ops [⟨some 36, .bin .add (.tmp 29) (.const (.int .i64 1)), none⟩, ⟨some 29, .mov (.tmp 36), none⟩] [1, 6, 16, 17, 18, 27, 28, 29])))
def xmfm_WriteParts_l1 : XCode := .seq (.ops [⟨some 19, .bin .lss (.tmp 18) (.tmp 17), none⟩] [1, 6, 16, 17, 18, 19]) (.seq (.cond (.tmp 19) .skip (.exit 0)) (.seq (.block 1 (.seq (.ops [⟨some 20, .idxA 2 (.tmp 16) (.tmp 18), none⟩, ⟨some 21, .ld (some 2) (.tmp 20), none⟩, ⟨some 8, .new 55 1 [.bool false, .slice none 0 0], none⟩, ⟨none, .st 2 (.tmp 8) (.tmp 21), none⟩] [1, 6, 8, 16, 17, 18]) (.seq (.seq (.ops [⟨some 22, .fldA 0 (.tmp 8), none⟩, ⟨some 23, .ld none (.tmp 22), none⟩] [1, 6, 8, 16, 17, 18, 23]) (.cond (.tmp 23) (.ops [⟨some 24, .mov (.tmp 6), none⟩, ⟨some 25, .call 76 [.tmp 24, .const (.int .u8 161), .const (.bool true)], none⟩] [1, 6, 8, 16, 17, 18]) .skip)) (.seq (.ops [⟨some 26, .fldA 1 (.tmp 8), none⟩, ⟨some 27, .ld none (.tmp 26), none⟩, ⟨some 28, .len (.tmp 27), none⟩, ⟨some 29, .mov (.const (.int .i64 0)), none⟩] [1, 6, 16, 17, 18, 27, 28, 29]) (.block 2 (.loop xmfm_WriteParts_l0)))))) (.ops [⟨some 37, .bin .add (.tmp 18) (.const (.int .i64 1)), none⟩, ⟨some 18, .mov (.tmp 37), none⟩] [1, 6, 16, 17, 18])))
/-- bakelite/mfm.WriteParts -/
def xmfm_WriteParts : XFunc := .code (.seq (.ops [⟨some 4, .mov (.const (.slice none 0 0)), none⟩, ⟨some 5, .mov (.const (.int .i64 0)), none⟩] [0, 1]) (.seq (.seq (.ops [⟨some 11, .mov (.tmp 0), none⟩, ⟨some 12, .call 75 [.tmp 11], none⟩, ⟨some 13, .bin .gtr (.tmp 12) (.const (.int .i64 2400)), none⟩] [0, 1, 13]) (.cond (.tmp 13) (.seq (.ops [⟨some 4, .mov (.const (.slice none 0 0)), none⟩, ⟨some 5, .mov (.const (.int .i64 2)), none⟩] [4, 5]) .ret) .skip)) (.seq (.ops [⟨some 14, .build [.slice none 0 0, .int .i64 0, .bool false] [(2, 1, .const (.bool true))], none⟩, ⟨some 15, .box 140 1 (.tmp 14), none⟩, ⟨some 6, .mov (.tmp 15), none⟩] [0, 1, 6]) (.seq (.seq (.ops [⟨some 16, .mov (.tmp 0), none⟩, ⟨some 17, .len (.tmp 16), none⟩, ⟨some 18, .mov (.const (.int .i64 0)), none⟩] [1, 6, 16, 17, 18]) (.block 0 (.loop xmfm_WriteParts_l1))) (.seq (.ops [⟨some 38, .mov (.tmp 6), none⟩, ⟨some 39, .call 77 [.tmp 38, .const (.bool false)], none⟩] [1, 6]) (.seq (.ops [⟨some 40, .mov (.tmp 6), none⟩, ⟨some 41, .call 77 [.tmp 40, .const (.bool true)], none⟩] [1, 6]) (.seq (.ops [⟨some 42, .mov (.tmp 6), none⟩, ⟨some 43, .nilck (.tmp 42), none⟩, ⟨some 44, .fldA 0 (.tmp 43), none⟩, ⟨some 45, .ld none (.tmp 44), none⟩, ⟨some 46, .mov (.tmp 1), none⟩, ⟨some 47, .call 62 [.tmp 45, .tmp 46], none⟩, ⟨some 48, .ext (.tmp 47) 0, none⟩, ⟨some 49, .ext (.tmp 47) 1, none⟩, ⟨some 4, .mov (.tmp 48), none⟩, ⟨some 5, .mov (.tmp 49), none⟩] [4, 5]) .ret))))))) [.tmp 4, .tmp 5]
theorem xmfm_WriteParts_ok : cFunc Try.prog Try.f29 [[0,1],[0,1,13],[4,5],[0,1,6],[1,6,16,17,18],[1,6,16,17,18,19],[1,6,8,16,17,18],[1,6,8,16,17,18,23],[1,6,8,16,17,18],[1,6,16,17,18,27,28,29],[1,6,16,17,18,27,28,29,30],[1,6,10,16,17,18,27,28,29],[1,6,16,17,18,27,28,29],[1,6,16,17,18,27,28,29],[1,6,16,17,18],[1,6],[1,6],[4,5]] = some xmfm_WriteParts := by kernel_rfl
def xmfm_ReadParts_l0 : XCode := .seq (.ops [⟨some 66, .bin .lss (.tmp 65) (.const (.int .i64 8)), none⟩] [8, 9, 10, 11, 12, 13, 14, 65, 66]) (.seq (.cond (.tmp 66) .skip (.exit 2)) (.seq (.block 3 (.seq (.ops [⟨some 67, .mov (.tmp 65), none⟩, ⟨some 15, .mov (.tmp 67), none⟩] [8, 9, 10, 11, 12, 13, 14, 15, 65]) (.seq (.ops [⟨some 68, .mov (.tmp 8), none⟩, ⟨some 69, .mov (.tmp 12), none⟩, ⟨some 70, .mov (.tmp 15), none⟩, ⟨some 71, .bin .add (.tmp 69) (.tmp 70), none⟩, ⟨some 72, .idxA 1 (.tmp 68) (.tmp 71), none⟩, ⟨some 73, .ld none (.tmp 72), none⟩, ⟨some 16, .mov (.tmp 73), none⟩] [8, 9, 10, 11, 12, 13, 14, 15, 16, 65]) (.seq (.seq (.ops [⟨some 74, .mov (.tmp 9), none⟩, ⟨some 75, .mov (.tmp 12), none⟩, ⟨some 76, .mov (.tmp 15), none⟩, ⟨some 77, .bin .add (.tmp 75) (.tmp 76), none⟩, ⟨some 78, .idxA 1 (.tmp 74) (.tmp 77), none⟩, ⟨some 79, .ld none (.tmp 78), none⟩, ⟨some 80, .mov (.tmp 16), none⟩, ⟨some 81, .flat (.unOp .not 4 (.tmp 80)) 4, none⟩, ⟨some 82, .mov (.tmp 81), none⟩, ⟨some 83, .mov (.tmp 11), some (82, true)⟩, ⟨some 84, .flat (.unOp .not 4 (.tmp 83)) 4, some (82, true)⟩, ⟨some 85, .pick (.tmp 82) (.tmp 84) (.const (.bool false)), none⟩, ⟨some 86, .mov (.tmp 85), none⟩, ⟨some 87, .mov (.tmp 14), some (86, true)⟩, ⟨some 88, .mov (.tmp 87), some (86, true)⟩, ⟨some 89, .mov (.tmp 15), some (88, true)⟩, ⟨some 90, .bin .eql (.tmp 89) (.const (.int .i64 5)), some (88, true)⟩, ⟨some 91, .pick (.tmp 88) (.tmp 90) (.const (.bool false)), some (86, true)⟩, ⟨some 92, .flat (.unOp .not 4 (.tmp 91)) 4, some (86, true)⟩, ⟨some 93, .pick (.tmp 86) (.tmp 92) (.const (.bool false)), none⟩, ⟨some 94, .flat (.binOp .neq 4 (.tmp 79) (.tmp 93) 4) 4, none⟩] [8, 9, 10, 12, 13, 14, 16, 65, 94]) (.cond (.tmp 94) (.seq (.ops [⟨some 4, .mov (.const (.slice none 0 0)), none⟩, ⟨some 5, .mov (.const (.int .i64 3)), none⟩] [4, 5]) .ret) .skip)) (.seq (.ops [⟨some 95, .mov (.tmp 13), none⟩, ⟨some 96, .bin .mul (.tmp 95) (.const (.int .i64 2)), none⟩, ⟨some 97, .mov (.tmp 16), none⟩, ⟨some 13, .mov (.tmp 96), none⟩, ⟨some 11, .mov (.tmp 97), none⟩] [8, 9, 10, 11, 12, 13, 14, 16, 65]) (.seq (.ops [⟨some 98, .mov (.tmp 16), none⟩] [8, 9, 10, 11, 12, 13, 14, 65, 98]) (.cond (.tmp 98) (.ops [⟨some 99, .mov (.tmp 13), none⟩, ⟨some 100, .bin .add (.tmp 99) (.const (.int .i64 1)), none⟩, ⟨some 13, .mov (.tmp 100), none⟩] [8, 9, 10, 11, 12, 13, 14, 65]) .skip))))))) (.ops [⟨some 101, .bin .add (.tmp 65) (.const (.int .i64 1)), none⟩, ⟨some 65, .mov (.tmp 101), none⟩] [8, 9, 10, 11, 12, 13, 14, 65])))
def xmfm_ReadParts_l1 : XCode := .seq (.seq (.ops [⟨some 36, .mov (.tmp 12), none⟩, ⟨some 37, .mov (.tmp 8), none⟩, ⟨some 38, .len (.tmp 37), none⟩, ⟨some 39, .bin .sub (.tmp 38) (.const (.int .i64 1)), none⟩, ⟨some 40, .bin .lss (.tmp 36) (.tmp 39), none⟩] [8, 9, 10, 11, 12, 40]) (.cond (.tmp 40) .skip (.exit 0))) (.seq (.block 1 (.seq (.ops [⟨some 13, .mov (.const (.int .i64 0)), none⟩] [8, 9, 10, 11, 12, 13]) (.seq (.ops [⟨some 43, .mov (.tmp 8), none⟩, ⟨some 44, .mov (.tmp 12), none⟩, ⟨some 45, .bin .add (.tmp 44) (.const (.int .i64 5)), none⟩, ⟨some 46, .idxA 1 (.tmp 43) (.tmp 45), none⟩, ⟨some 47, .ld none (.tmp 46), none⟩, ⟨some 48, .flat (.unOp .not 4 (.tmp 47)) 4, none⟩, ⟨some 49, .mov (.tmp 48), none⟩, ⟨some 50, .mov (.tmp 8), some (49, true)⟩, ⟨some 51, .mov (.tmp 12), some (49, true)⟩, ⟨some 52, .bin .add (.tmp 51) (.const (.int .i64 4)), some (49, true)⟩, ⟨some 53, .idxA 1 (.tmp 50) (.tmp 52), some (49, true)⟩, ⟨some 54, .ld none (.tmp 53), some (49, true)⟩, ⟨some 55, .flat (.unOp .not 4 (.tmp 54)) 4, some (49, true)⟩, ⟨some 56, .pick (.tmp 49) (.tmp 55) (.const (.bool false)), none⟩, ⟨some 57, .mov (.tmp 56), none⟩, ⟨some 58, .mov (.tmp 9), some (57, true)⟩, ⟨some 59, .mov (.tmp 12), some (57, true)⟩, ⟨some 60, .bin .add (.tmp 59) (.const (.int .i64 5)), some (57, true)⟩, ⟨some 61, .idxA 1 (.tmp 58) (.tmp 60), some (57, true)⟩, ⟨some 62, .ld none (.tmp 61), some (57, true)⟩, ⟨some 63, .flat (.unOp .not 4 (.tmp 62)) 4, some (57, true)⟩, ⟨some 64, .pick (.tmp 57) (.tmp 63) (.const (.bool false)), none⟩, ⟨some 14, .mov (.tmp 64), none⟩] [8, 9, 10, 11, 12, 13, 14]) (.seq (.seq (.ops [⟨some 65, .mov (.const (.int .i64 0)), none⟩] [8, 9, 10, 11, 12, 13, 14, 65]) (.block 2 (.loop xmfm_ReadParts_l0))) (.block 4 (.seq (.ops [⟨some 119, .mov (.tmp 14), none⟩, ⟨some 120, .mov (.tmp 119), none⟩, ⟨some 121, .mov (.tmp 13), some (120, true)⟩, ⟨some 122, .bin .neq (.tmp 121) (.const (.int .i64 161)), some (120, true)⟩, ⟨some 123, .pick (.tmp 120) (.tmp 122) (.const (.bool false)), none⟩, ⟨some 118, .mov (.tmp 123), none⟩] [8, 9, 10, 11, 12, 13, 14, 118]) (.cond (.tmp 118) (.seq (.ops [⟨some 4, .mov (.const (.slice none 0 0)), none⟩, ⟨some 5, .mov (.const (.int .i64 3)), none⟩] [4, 5]) .ret) (.seq (.ops [⟨some 125, .mov (.tmp 14), none⟩, ⟨some 124, .mov (.tmp 125), none⟩] [8, 9, 10, 11, 12, 13, 124]) (.cond (.tmp 124) (.ops [⟨some 126, .mov (.tmp 10), none⟩, ⟨some 127, .build [.bool false, .slice none 0 0] [(0, 1, .const (.bool true))], none⟩, ⟨some 128, .bslice 55 2 1 [.bool false, .slice none 0 0] [(0, .tmp 127)], none⟩, ⟨some 129, .app 55 2 32 [.bool false, .slice none 0 0] (.tmp 126) (.tmp 128), none⟩, ⟨some 10, .mov (.tmp 129), none⟩] [8, 9, 10, 11, 12]) (.seq (.ops [⟨some 131, .mov (.tmp 10), none⟩, ⟨some 132, .len (.tmp 131), none⟩, ⟨some 133, .bin .eql (.tmp 132) (.const (.int .i64 0)), none⟩, ⟨some 130, .mov (.tmp 133), none⟩] [8, 9, 10, 11, 12, 13, 130]) (.cond (.tmp 130) (.ops [⟨some 134, .mov (.tmp 10), none⟩, ⟨some 135, .mov (.tmp 13), none⟩, ⟨some 136, .conv .u8 (.tmp 135), none⟩, ⟨some 137, .bslice 5 1 1 [.int .u8 0] [(0, .tmp 136)], none⟩, ⟨some 138, .build [.bool false, .slice none 0 0] [(1, 1, .tmp 137)], none⟩, ⟨some 139, .bslice 55 2 1 [.bool false, .slice none 0 0] [(0, .tmp 138)], none⟩, ⟨some 140, .app 55 2 32 [.bool false, .slice none 0 0] (.tmp 134) (.tmp 139), none⟩, ⟨some 10, .mov (.tmp 140), none⟩] [8, 9, 10, 11, 12]) (.seq (.ops [⟨some 102, .mov (.tmp 10), none⟩, ⟨some 103, .mov (.tmp 10), none⟩, ⟨some 104, .len (.tmp 103), none⟩, ⟨some 105, .bin .sub (.tmp 104) (.const (.int .i64 1)), none⟩, ⟨some 106, .idxA 2 (.tmp 102) (.tmp 105), none⟩, ⟨some 17, .mov (.tmp 106), none⟩] [8, 9, 10, 11, 12, 13, 17]) (.ops [⟨some 107, .mov (.tmp 17), none⟩, ⟨some 108, .mov (.tmp 17), none⟩, ⟨some 109, .nilck (.tmp 108), none⟩, ⟨some 110, .fldA 1 (.tmp 109), none⟩, ⟨some 111, .ld none (.tmp 110), none⟩, ⟨some 112, .mov (.tmp 13), none⟩, ⟨some 113, .conv .u8 (.tmp 112), none⟩, ⟨some 114, .bslice 5 1 1 [.int .u8 0] [(0, .tmp 113)], none⟩, ⟨some 115, .app 5 1 1 [.int .u8 0] (.tmp 111) (.tmp 114), none⟩, ⟨some 116, .nilck (.tmp 107), none⟩, ⟨some 117, .fldA 1 (.tmp 116), none⟩, ⟨none, .st 1 (.tmp 117) (.tmp 115), none⟩] [8, 9, 10, 11, 12]))))))))))))) (.ops [⟨some 41, .mov (.tmp 12), none⟩, ⟨some 42, .bin .add (.tmp 41) (.const (.int .i64 8)), none⟩, ⟨some 12, .mov (.tmp 42), none⟩] [8, 9, 10, 11, 12]))
/-- bakelite/mfm.ReadParts -/
def xmfm_ReadParts : XFunc := .code (.seq (.ops [⟨some 4, .mov (.const (.slice none 0 0)), none⟩, ⟨some 5, .mov (.const (.int .i64 0)), none⟩] [0, 1]) (.seq (.ops [⟨some 19, .mov (.tmp 0), none⟩, ⟨some 20, .mov (.tmp 1), none⟩, ⟨some 21, .call 63 [.tmp 19, .tmp 20, .const (.int .i64 4)], none⟩, ⟨some 18, .mov (.tmp 21), none⟩, ⟨some 22, .ext (.tmp 18) 0, none⟩, ⟨some 23, .ext (.tmp 18) 1, none⟩, ⟨some 6, .mov (.tmp 22), none⟩, ⟨some 7, .mov (.tmp 23), none⟩] [6, 7]) (.seq (.seq (.ops [⟨some 24, .mov (.tmp 7), none⟩, ⟨some 25, .bin .neq (.tmp 24) (.const (.int .i64 0)), none⟩] [6, 7, 25]) (.cond (.tmp 25) (.seq (.ops [⟨some 26, .mov (.tmp 7), none⟩, ⟨some 4, .mov (.const (.slice none 0 0)), none⟩, ⟨some 5, .mov (.tmp 26), none⟩] [4, 5]) .ret) .skip)) (.seq (.ops [⟨some 28, .mov (.tmp 6), none⟩, ⟨some 29, .call 78 [.tmp 28], none⟩, ⟨some 27, .mov (.tmp 29), none⟩, ⟨some 30, .ext (.tmp 27) 0, none⟩, ⟨some 31, .ext (.tmp 27) 1, none⟩, ⟨some 32, .ext (.tmp 27) 2, none⟩, ⟨some 8, .mov (.tmp 30), none⟩, ⟨some 9, .mov (.tmp 31), none⟩, ⟨some 7, .mov (.tmp 32), none⟩] [7, 8, 9]) (.seq (.seq (.ops [⟨some 33, .mov (.tmp 7), none⟩, ⟨some 34, .bin .neq (.tmp 33) (.const (.int .i64 0)), none⟩] [7, 8, 9, 34]) (.cond (.tmp 34) (.seq (.ops [⟨some 35, .mov (.tmp 7), none⟩, ⟨some 4, .mov (.const (.slice none 0 0)), none⟩, ⟨some 5, .mov (.tmp 35), none⟩] [4, 5]) .ret) .skip)) (.seq (.ops [⟨some 10, .mov (.const (.slice none 0 0)), none⟩] [8, 9, 10]) (.seq (.ops [⟨some 11, .mov (.const (.bool true)), none⟩] [8, 9, 10, 11]) (.seq (.seq (.ops [⟨some 12, .mov (.const (.int .i64 0)), none⟩] [8, 9, 10, 11, 12]) (.block 0 (.loop xmfm_ReadParts_l1))) (.seq (.seq (.ops [⟨some 141, .mov (.tmp 9), none⟩, ⟨some 142, .mov (.tmp 8), none⟩, ⟨some 143, .len (.tmp 142), none⟩, ⟨some 144, .bin .sub (.tmp 143) (.const (.int .i64 1)), none⟩, ⟨some 145, .idxA 1 (.tmp 141) (.tmp 144), none⟩, ⟨some 146, .ld none (.tmp 145), none⟩] [10, 146]) (.cond (.tmp 146) (.seq (.ops [⟨some 4, .mov (.const (.slice none 0 0)), none⟩, ⟨some 5, .mov (.const (.int .i64 3)), none⟩] [4, 5]) .ret) .skip)) (.seq (.seq (.ops [⟨some 147, .mov (.tmp 10), none⟩, ⟨some 148, .call 75 [.tmp 147], none⟩, ⟨some 149, .bin .gtr (.tmp 148) (.const (.int .i64 2400)), none⟩] [10, 149]) (.cond (.tmp 149) (.seq (.ops [⟨some 4, .mov (.const (.slice none 0 0)), none⟩, ⟨some 5, .mov (.const (.int .i64 2)), none⟩] [4, 5]) .ret) .skip)) (.seq (.ops [⟨some 150, .mov (.tmp 10), none⟩, ⟨some 4, .mov (.tmp 150), none⟩, ⟨some 5, .mov (.const (.int .i64 0)), none⟩] [4, 5]) .ret))))))))))) [.tmp 4, .tmp 5]
theorem xmfm_ReadParts_ok : cFunc Try.prog Try.f30 [[0,1],[6,7],[6,7,25],[4,5],[7,8,9],[7,8,9,34],[4,5],[8,9,10],[8,9,10,11],[8,9,10,11,12],[8,9,10,11,12,40],[8,9,10,11,12,13],[8,9,10,11,12,13,14],[8,9,10,11,12,13,14,65],[8,9,10,11,12,13,14,65,66],[8,9,10,11,12,13,14,15,65],[8,9,10,11,12,13,14,15,16,65],[8,9,10,12,13,14,16,65,94],[4,5],[8,9,10,11,12,13,14,16,65],[8,9,10,11,12,13,14,65,98],[8,9,10,11,12,13,14,65],[8,9,10,11,12,13,14,65],[8,9,10,11,12,13,14,118],[4,5],[8,9,10,11,12,13,124],[8,9,10,11,12],[8,9,10,11,12,13,130],[8,9,10,11,12],[8,9,10,11,12,13,17],[8,9,10,11,12],[8,9,10,11,12],[10,146],[4,5],[10,149],[4,5],[4,5]] = some xmfm_ReadParts := by kernel_rfl
def xsect_Format_l0 : XCode := .seq (.ops [⟨some 26, .bin .lss (.tmp 25) (.tmp 24), none⟩] [2, 9, 23, 24, 25, 26]) (.seq (.cond (.tmp 26) .skip (.exit 0)) (.seq (.block 1 (.seq (.ops [⟨some 27, .idxA 4 (.tmp 23) (.tmp 25), none⟩, ⟨some 28, .ld (some 4) (.tmp 27), none⟩, ⟨some 11, .new 87 1 [.int .i64 0, .int .i64 0, .slice none 0 0, .bool false], none⟩, ⟨none, .st 4 (.tmp 11) (.tmp 28), none⟩] [2, 9, 11, 23, 24, 25]) (.seq (.ops [⟨some 29, .fldA 0 (.tmp 11), none⟩, ⟨some 30, .ld none (.tmp 29), none⟩, ⟨some 31, .conv .u8 (.tmp 30), none⟩, ⟨some 32, .fldA 1 (.tmp 11), none⟩, ⟨some 33, .ld none (.tmp 32), none⟩, ⟨some 34, .conv .u8 (.tmp 33), none⟩, ⟨some 35, .bslice 5 1 3 [.int .u8 0] [(0, .const (.int .u8 254)), (1, .tmp 31), (2, .tmp 34)], none⟩, ⟨some 36, .call 92 [.tmp 35], none⟩, ⟨some 12, .mov (.tmp 36), none⟩] [2, 9, 11, 12, 23, 24, 25]) (.seq (.ops [⟨some 37, .bslice 5 1 1 [.int .u8 0] [(0, .const (.int .u8 251))], none⟩, ⟨some 38, .fldA 2 (.tmp 11), none⟩, ⟨some 39, .ld none (.tmp 38), none⟩, ⟨some 40, .app 5 1 1 [.int .u8 0] (.tmp 37) (.tmp 39), none⟩, ⟨some 41, .call 92 [.tmp 40], none⟩, ⟨some 13, .mov (.tmp 41), none⟩] [2, 9, 11, 12, 13, 23, 24, 25]) (.seq (.seq (.ops [⟨some 42, .fldA 3 (.tmp 11), none⟩, ⟨some 43, .ld none (.tmp 42), none⟩] [2, 9, 12, 13, 23, 24, 25, 43]) (.cond (.tmp 43) (.ops [⟨some 44, .mov (.tmp 13), none⟩, ⟨some 45, .mov (.tmp 13), none⟩, ⟨some 46, .len (.tmp 45), none⟩, ⟨some 47, .bin .sub (.tmp 46) (.const (.int .i64 1)), none⟩, ⟨some 48, .idxA 1 (.tmp 44) (.tmp 47), none⟩, ⟨some 49, .ld none (.tmp 48), none⟩, ⟨some 50, .bin .xor (.tmp 49) (.const (.int .u8 255)), none⟩, ⟨some 51, .idxA 1 (.tmp 44) (.tmp 47), none⟩, ⟨none, .st 1 (.tmp 51) (.tmp 50), none⟩] [2, 9, 12, 13, 23, 24, 25]) .skip)) (.ops [⟨some 52, .mov (.tmp 9), none⟩, ⟨some 53, .mov (.tmp 12), none⟩, ⟨some 54, .call 91 [], none⟩, ⟨some 55, .app 5 1 1 [.int .u8 0] (.tmp 53) (.tmp 54), none⟩, ⟨some 56, .build [.bool false, .slice none 0 0] [(0, 1, .const (.bool true)), (1, 1, .tmp 55)], none⟩, ⟨some 57, .mov (.tmp 13), none⟩, ⟨some 58, .call 91 [], none⟩, ⟨some 59, .app 5 1 1 [.int .u8 0] (.tmp 57) (.tmp 58), none⟩, ⟨some 60, .build [.bool false, .slice none 0 0] [(0, 1, .const (.bool true)), (1, 1, .tmp 59)], none⟩, ⟨some 61, .bslice 55 2 2 [.bool false, .slice none 0 0] [(0, .tmp 56), (1, .tmp 60)], none⟩, ⟨some 62, .app 55 2 32 [.bool false, .slice none 0 0] (.tmp 52) (.tmp 61), none⟩, ⟨some 9, .mov (.tmp 62), none⟩] [2, 9, 23, 24, 25])))))) (.ops [⟨some 63, .bin .add (.tmp 25) (.const (.int .i64 1)), none⟩, ⟨some 25, .mov (.tmp 63), none⟩] [2, 9, 23, 24, 25])))
/-- bakelite/sect.Format -/
def xsect_Format : XFunc := .code (.seq (.ops [⟨some 6, .mov (.const (.slice none 0 0)), none⟩, ⟨some 7, .mov (.const (.int .i64 0)), none⟩] [0, 1, 2]) (.seq (.seq (.ops [⟨some 14, .mov (.tmp 0), none⟩, ⟨some 15, .mov (.tmp 1), none⟩, ⟨some 16, .call 90 [.tmp 14, .tmp 15], none⟩, ⟨some 8, .mov (.tmp 16), none⟩] [1, 2, 8]) (.seq (.ops [⟨some 17, .mov (.tmp 8), none⟩, ⟨some 18, .bin .neq (.tmp 17) (.const (.int .i64 0)), none⟩] [1, 2, 8, 18]) (.cond (.tmp 18) (.seq (.ops [⟨some 19, .mov (.tmp 8), none⟩, ⟨some 6, .mov (.const (.slice none 0 0)), none⟩, ⟨some 7, .mov (.tmp 19), none⟩] [6, 7]) .ret) .skip))) (.seq (.ops [⟨some 20, .call 91 [], none⟩, ⟨some 21, .build [.bool false, .slice none 0 0] [(1, 1, .tmp 20)], none⟩, ⟨some 22, .bslice 55 2 1 [.bool false, .slice none 0 0] [(0, .tmp 21)], none⟩, ⟨some 9, .mov (.tmp 22), none⟩] [1, 2, 9]) (.seq (.seq (.ops [⟨some 23, .mov (.tmp 1), none⟩, ⟨some 24, .len (.tmp 23), none⟩, ⟨some 25, .mov (.const (.int .i64 0)), none⟩] [2, 9, 23, 24, 25]) (.block 0 (.loop xsect_Format_l0))) (.seq (.ops [⟨some 64, .mov (.tmp 9), none⟩, ⟨some 65, .mov (.tmp 2), none⟩, ⟨some 66, .call 29 [.tmp 64, .tmp 65], none⟩, ⟨some 67, .ext (.tmp 66) 0, none⟩, ⟨some 68, .ext (.tmp 66) 1, none⟩, ⟨some 6, .mov (.tmp 67), none⟩, ⟨some 7, .mov (.tmp 68), none⟩] [6, 7]) .ret))))) [.tmp 6, .tmp 7]
theorem xsect_Format_ok : cFunc Try.prog Try.f43 [[0,1,2],[1,2,8],[1,2,8,18],[6,7],[1,2,9],[2,9,23,24,25],[2,9,23,24,25,26],[2,9,11,23,24,25],[2,9,11,12,23,24,25],[2,9,11,12,13,23,24,25],[2,9,12,13,23,24,25,43],[2,9,12,13,23,24,25],[2,9,23,24,25],[2,9,23,24,25],[6,7]] = some xsect_Format := by kernel_rfl
def xsect_Scan_l0 : XCode := .seq (.ops [⟨some 28, .bin .lss (.tmp 27) (.tmp 26), none⟩] [8, 9, 10, 25, 26, 27, 28]) (.seq (.cond (.tmp 28) .skip (.exit 0)) (.seq (.block 1 (.seq (.ops [⟨some 29, .idxA 2 (.tmp 25) (.tmp 27), none⟩, ⟨some 30, .ld (some 2) (.tmp 29), none⟩, ⟨some 12, .new 55 1 [.bool false, .slice none 0 0], none⟩, ⟨none, .st 2 (.tmp 12) (.tmp 30), none⟩] [8, 9, 10, 12, 25, 26, 27]) (.seq (.ops [⟨some 31, .fldA 1 (.tmp 12), none⟩, ⟨some 32, .ld none (.tmp 31), none⟩, ⟨some 13, .mov (.tmp 32), none⟩] [8, 9, 10, 12, 13, 25, 26, 27]) (.block 2 (.seq (.ops [⟨some 34, .fldA 0 (.tmp 12), none⟩, ⟨some 35, .ld none (.tmp 34), none⟩, ⟨some 36, .flat (.unOp .not 4 (.tmp 35)) 4, none⟩, ⟨some 37, .mov (.tmp 36), none⟩, ⟨some 38, .mov (.tmp 13), some (37, false)⟩, ⟨some 39, .len (.tmp 38), some (37, false)⟩, ⟨some 40, .bin .eql (.tmp 39) (.const (.int .i64 0)), some (37, false)⟩, ⟨some 41, .pick (.tmp 37) (.const (.bool true)) (.tmp 40), none⟩, ⟨some 33, .mov (.tmp 41), none⟩] [8, 9, 10, 13, 25, 26, 27, 33]) (.cond (.tmp 33) (.ops [⟨some 9, .mov (.const (.bool false)), none⟩] [8, 9, 10, 25, 26, 27]) (.seq (.ops [⟨some 43, .mov (.tmp 13), none⟩, ⟨some 44, .idxA 1 (.tmp 43) (.const (.int .i64 0)), none⟩, ⟨some 45, .ld none (.tmp 44), none⟩, ⟨some 46, .bin .eql (.tmp 45) (.const (.int .u8 254)), none⟩, ⟨some 47, .mov (.tmp 46), none⟩, ⟨some 48, .mov (.tmp 13), some (47, true)⟩, ⟨some 49, .len (.tmp 48), some (47, true)⟩, ⟨some 50, .bin .geq (.tmp 49) (.const (.int .i64 5)), some (47, true)⟩, ⟨some 51, .pick (.tmp 47) (.tmp 50) (.const (.bool false)), none⟩, ⟨some 42, .mov (.tmp 51), none⟩] [8, 9, 10, 13, 25, 26, 27, 42]) (.cond (.tmp 42) (.seq (.ops [⟨some 53, .mov (.tmp 13), none⟩, ⟨some 54, .slc 1 (.tmp 53) none (some (.const (.int .i64 5))) none, none⟩, ⟨some 55, .call 93 [.tmp 54], none⟩, ⟨some 52, .mov (.tmp 55), none⟩, ⟨some 56, .ext (.tmp 52) 0, none⟩, ⟨some 57, .ext (.tmp 52) 1, none⟩, ⟨some 9, .mov (.tmp 57), none⟩] [8, 9, 10, 13, 25, 26, 27]) (.dops [.mk ⟨some 58, .mov (.tmp 13), none⟩ [13] 0 [], .mk ⟨some 59, .idxA 1 (.tmp 58) (.const (.int .i64 1)), none⟩ [58] 0 [], .mk ⟨some 60, .ld none (.tmp 59), none⟩ [59] 1 [], .mk ⟨some 61, .conv .i64 (.tmp 60), none⟩ [60] 0 [], .mk ⟨some 62, .mov (.tmp 13), none⟩ [13] 0 [], .mk ⟨some 63, .idxA 1 (.tmp 62) (.const (.int .i64 2)), none⟩ [62] 0 [], .mk ⟨some 64, .ld none (.tmp 63), none⟩ [63] 1 [], .mk ⟨some 65, .conv .i64 (.tmp 64), none⟩ [64] 0 [], .mk ⟨some 66, .build [.int .i64 0, .int .i64 0, .slice none 0 0, .bool false] [(0, 1, .tmp 61), (1, 1, .tmp 65)], none⟩ [61, 65] 0 [], .mk ⟨none, .st 4 (.tmp 10) (.tmp 66), none⟩ [10, 66] 2 []] [8, 9, 10, 25, 26, 27])) (.seq (.ops [⟨some 68, .mov (.tmp 13), none⟩, ⟨some 69, .idxA 1 (.tmp 68) (.const (.int .i64 0)), none⟩, ⟨some 70, .ld none (.tmp 69), none⟩, ⟨some 71, .bin .eql (.tmp 70) (.const (.int .u8 251)), none⟩, ⟨some 72, .mov (.tmp 71), none⟩, ⟨some 73, .mov (.tmp 9), some (72, true)⟩, ⟨some 74, .pick (.tmp 72) (.tmp 73) (.const (.bool false)), none⟩, ⟨some 75, .mov (.tmp 74), none⟩, ⟨some 76, .mov (.tmp 13), some (75, true)⟩, ⟨some 77, .len (.tmp 76), some (75, true)⟩, ⟨some 78, .bin .geq (.tmp 77) (.const (.int .i64 131)), some (75, true)⟩, ⟨some 79, .pick (.tmp 75) (.tmp 78) (.const (.bool false)), none⟩, ⟨some 67, .mov (.tmp 79), none⟩] [8, 10, 13, 25, 26, 27, 67]) (.cond (.tmp 67) (.seq (.ops [⟨some 81, .mov (.tmp 13), none⟩, ⟨some 82, .slc 1 (.tmp 81) none (some (.const (.int .i64 131))) none, none⟩, ⟨some 83, .call 93 [.tmp 82], none⟩, ⟨some 80, .mov (.tmp 83), none⟩, ⟨some 84, .ext (.tmp 80) 0, none⟩, ⟨some 85, .ext (.tmp 80) 1, none⟩, ⟨some 14, .mov (.tmp 84), none⟩, ⟨some 15, .mov (.tmp 85), none⟩] [8, 10, 13, 15, 25, 26, 27]) (.seq (.ops [⟨some 86, .bslice 5 1 0 [.int .u8 0] [], none⟩, ⟨some 87, .mov (.tmp 13), none⟩, ⟨some 88, .slc 1 (.tmp 87) (some (.const (.int .i64 1))) (some (.const (.int .i64 129))) none, none⟩, ⟨some 89, .app 5 1 1 [.int .u8 0] (.tmp 86) (.tmp 88), none⟩, ⟨some 90, .mov (.tmp 15), none⟩, ⟨some 91, .flat (.unOp .not 4 (.tmp 90)) 4, none⟩, ⟨some 92, .fldA 2 (.tmp 10), none⟩, ⟨none, .st 1 (.tmp 92) (.tmp 89), none⟩, ⟨some 93, .fldA 3 (.tmp 10), none⟩, ⟨none, .st 1 (.tmp 93) (.tmp 91), none⟩, ⟨some 9, .mov (.const (.bool false)), none⟩] [8, 9, 10, 25, 26, 27]) (.ops [⟨some 94, .mov (.tmp 8), none⟩, ⟨some 95, .ld (some 4) (.tmp 10), none⟩, ⟨some 96, .bslice 87 4 1 [.int .i64 0, .int .i64 0, .slice none 0 0, .bool false] [(0, .tmp 95)], none⟩, ⟨some 97, .app 87 4 48 [.int .i64 0, .int .i64 0, .slice none 0 0, .bool false] (.tmp 94) (.tmp 96), none⟩, ⟨some 8, .mov (.tmp 97), none⟩] [8, 9, 10, 25, 26, 27]))) (.ops [⟨some 9, .mov (.const (.bool false)), none⟩] [8, 9, 10, 25, 26, 27]))))))))))) (.ops [⟨some 98, .bin .add (.tmp 27) (.const (.int .i64 1)), none⟩, ⟨some 27, .mov (.tmp 98), none⟩] [8, 9, 10, 25, 26, 27])))
/-- bakelite/sect.Scan -/
def xsect_Scan : XFunc := .code (.seq (.ops [⟨some 4, .mov (.const (.slice none 0 0)), none⟩, ⟨some 5, .mov (.const (.int .i64 0)), none⟩] [0, 1]) (.seq (.ops [⟨some 17, .mov (.tmp 0), none⟩, ⟨some 18, .mov (.tmp 1), none⟩, ⟨some 19, .call 30 [.tmp 17, .tmp 18], none⟩, ⟨some 16, .mov (.tmp 19), none⟩, ⟨some 20, .ext (.tmp 16) 0, none⟩, ⟨some 21, .ext (.tmp 16) 1, none⟩, ⟨some 6, .mov (.tmp 20), none⟩, ⟨some 7, .mov (.tmp 21), none⟩] [6, 7]) (.seq (.seq (.ops [⟨some 22, .mov (.tmp 7), none⟩, ⟨some 23, .bin .neq (.tmp 22) (.const (.int .i64 0)), none⟩] [6, 7, 23]) (.cond (.tmp 23) (.seq (.ops [⟨some 24, .mov (.tmp 7), none⟩, ⟨some 4, .mov (.const (.slice none 0 0)), none⟩, ⟨some 5, .mov (.tmp 24), none⟩] [4, 5]) .ret) .skip)) (.seq (.ops [⟨some 8, .mov (.const (.slice none 0 0)), none⟩] [6, 8]) (.seq (.ops [⟨some 9, .mov (.const (.bool false)), none⟩] [6, 8, 9]) (.seq (.ops [⟨some 10, .new 87 1 [.int .i64 0, .int .i64 0, .slice none 0 0, .bool false], none⟩] [6, 8, 9, 10]) (.seq (.seq (.ops [⟨some 25, .mov (.tmp 6), none⟩, ⟨some 26, .len (.tmp 25), none⟩, ⟨some 27, .mov (.const (.int .i64 0)), none⟩] [8, 9, 10, 25, 26, 27]) (.block 0 (.loop xsect_Scan_l0))) (.seq (.seq (.ops [⟨some 99, .mov (.tmp 8), none⟩, ⟨some 100, .len (.tmp 99), none⟩, ⟨some 101, .bin .gtr (.tmp 100) (.const (.int .i64 12)), none⟩] [8, 101]) (.cond (.tmp 101) (.seq (.ops [⟨some 4, .mov (.const (.slice none 0 0)), none⟩, ⟨some 5, .mov (.const (.int .i64 2)), none⟩] [4, 5]) .ret) .skip)) (.seq (.ops [⟨some 102, .mov (.tmp 8), none⟩, ⟨some 4, .mov (.tmp 102), none⟩, ⟨some 5, .mov (.const (.int .i64 0)), none⟩] [4, 5]) .ret))))))))) [.tmp 4, .tmp 5]
theorem xsect_Scan_ok : cFunc Try.prog Try.f44 [[0,1],[6,7],[6,7,23],[4,5],[6,8],[6,8,9],[6,8,9,10],[8,9,10,25,26,27],[8,9,10,25,26,27,28],[8,9,10,12,25,26,27],[8,9,10,12,13,25,26,27],[8,9,10,13,25,26,27,33],[8,9,10,25,26,27],[8,9,10,13,25,26,27,42],[8,9,10,13,25,26,27],[8,9,10,25,26,27],[8,10,13,25,26,27,67],[8,10,13,15,25,26,27],[8,9,10,25,26,27],[8,9,10,25,26,27],[8,9,10,25,26,27],[8,9,10,25,26,27],[8,101],[4,5],[4,5]] = some xsect_Scan := by kernel_rfl
def xbakemake_Disk_l0 : XCode := .seq (.ops [⟨some 34, .bin .lss (.tmp 33) (.tmp 32), none⟩] [2, 3, 4, 5, 6, 7, 23, 24, 32, 33, 34]) (.seq (.cond (.tmp 34) .skip (.exit 2)) (.seq (.block 3 (.seq (.ops [⟨some 35, .mov (.tmp 33), none⟩, ⟨some 8, .mov (.tmp 35), none⟩] [2, 3, 4, 5, 6, 7, 8, 23, 24, 32, 33]) (.ops [⟨some 36, .mov (.tmp 7), none⟩, ⟨some 37, .mov (.tmp 8), none⟩, ⟨some 38, .mov (.tmp 5), none⟩, ⟨some 39, .mov (.tmp 8), none⟩, ⟨some 40, .mov (.tmp 6), none⟩, ⟨some 41, .bin .mul (.tmp 39) (.tmp 40), none⟩, ⟨some 42, .bin .add (.tmp 38) (.tmp 41), none⟩, ⟨some 43, .conv .u8 (.tmp 42), none⟩, ⟨some 44, .idxA 1 (.tmp 36) (.tmp 37), none⟩, ⟨none, .st 1 (.tmp 44) (.tmp 43), none⟩] [2, 3, 4, 5, 6, 7, 23, 24, 32, 33]))) (.ops [⟨some 45, .bin .add (.tmp 33) (.const (.int .i64 1)), none⟩, ⟨some 33, .mov (.tmp 45), none⟩] [2, 3, 4, 5, 6, 7, 23, 24, 32, 33])))
def xbakemake_Disk_l1 : XCode := .seq (.ops [⟨some 25, .bin .lss (.tmp 24) (.tmp 23), none⟩] [2, 3, 4, 23, 24, 25]) (.seq (.cond (.tmp 25) .skip (.exit 0)) (.seq (.block 1 (.seq (.ops [⟨some 26, .mov (.tmp 3), none⟩, ⟨some 27, .call 67 [.tmp 26, .const (.int .i64 256)], none⟩, ⟨some 28, .mov (.tmp 3), none⟩, ⟨some 29, .call 67 [.tmp 28, .const (.int .i64 7)], none⟩, ⟨some 5, .mov (.tmp 27), none⟩, ⟨some 6, .mov (.tmp 29), none⟩] [2, 3, 4, 5, 6, 23, 24]) (.seq (.ops [⟨some 30, .mks 5 1 1 [.int .u8 0] (.const (.int .i64 128)) (.const (.int .i64 128)), none⟩, ⟨some 7, .mov (.tmp 30), none⟩] [2, 3, 4, 5, 6, 7, 23, 24]) (.seq (.seq (.ops [⟨some 31, .mov (.tmp 7), none⟩, ⟨some 32, .len (.tmp 31), none⟩, ⟨some 33, .mov (.const (.int .i64 0)), none⟩] [2, 3, 4, 5, 6, 7, 23, 24, 32, 33]) (.block 2 (.loop xbakemake_Disk_l0))) (.ops [⟨some 46, .fldA 2 (.tmp 4), none⟩, ⟨some 47, .ld none (.tmp 46), none⟩, ⟨some 48, .mov (.tmp 7), none⟩, ⟨some 49, .bslice 23 1 1 [.slice none 0 0] [(0, .tmp 48)], none⟩, ⟨some 50, .app 23 1 24 [.slice none 0 0] (.tmp 47) (.tmp 49), none⟩, ⟨some 51, .fldA 2 (.tmp 4), none⟩, ⟨none, .st 1 (.tmp 51) (.tmp 50), none⟩] [2, 3, 4, 23, 24]))))) (.ops [⟨some 52, .bin .add (.tmp 24) (.const (.int .i64 1)), none⟩, ⟨some 24, .mov (.tmp 52), none⟩] [2, 3, 4, 23, 24])))
/-- bakelite/bakemake.Disk -/
def xbakemake_Disk : XFunc := .code (.seq (.ops [⟨some 2, .new 60 1 [.int .i64 0, .int .i64 0, .slice none 0 0], none⟩] [0, 2]) (.seq (.ops [⟨some 9, .mov (.tmp 0), none⟩, ⟨some 10, .build [.slice none 0 0] [(0, 1, .tmp 9)], none⟩, ⟨some 11, .box 124 1 (.tmp 10), none⟩, ⟨some 3, .mov (.tmp 11), none⟩] [2, 3]) (.seq (.ops [⟨some 12, .mov (.tmp 3), none⟩, ⟨some 13, .call 67 [.tmp 12, .const (.int .i64 3)], none⟩, ⟨some 14, .bin .add (.const (.int .i64 1)) (.tmp 13), none⟩, ⟨some 15, .mov (.tmp 3), none⟩, ⟨some 16, .call 67 [.tmp 15, .const (.int .i64 4)], none⟩, ⟨some 17, .bin .add (.const (.int .i64 1)) (.tmp 16), none⟩, ⟨some 18, .build [.int .i64 0, .int .i64 0, .slice none 0 0] [(0, 1, .tmp 14), (1, 1, .tmp 17)], none⟩, ⟨some 4, .new 60 1 [.int .i64 0, .int .i64 0, .slice none 0 0], none⟩, ⟨none, .st 3 (.tmp 4) (.tmp 18), none⟩] [2, 3, 4]) (.seq (.seq (.ops [⟨some 19, .fldA 0 (.tmp 4), none⟩, ⟨some 20, .ld none (.tmp 19), none⟩, ⟨some 21, .fldA 1 (.tmp 4), none⟩, ⟨some 22, .ld none (.tmp 21), none⟩, ⟨some 23, .bin .mul (.tmp 20) (.tmp 22), none⟩, ⟨some 24, .mov (.const (.int .i64 0)), none⟩] [2, 3, 4, 23, 24]) (.block 0 (.loop xbakemake_Disk_l1))) (.seq (.ops [⟨some 53, .ld (some 3) (.tmp 4), none⟩, ⟨none, .st 3 (.tmp 2) (.tmp 53), none⟩] [2]) .ret))))) [.cell 2 (some 3)]
theorem xbakemake_Disk_ok : cFunc Try.prog Try.f55 [[0,2],[2,3],[2,3,4],[2,3,4,23,24],[2,3,4,23,24,25],[2,3,4,5,6,23,24],[2,3,4,5,6,7,23,24],[2,3,4,5,6,7,23,24,32,33],[2,3,4,5,6,7,23,24,32,33,34],[2,3,4,5,6,7,8,23,24,32,33],[2,3,4,5,6,7,23,24,32,33],[2,3,4,5,6,7,23,24,32,33],[2,3,4,23,24],[2,3,4,23,24],[2]] = some xbakemake_Disk := by kernel_rfl
def ximage_Tracks_l0 : XCode := .seq (.ops [⟨some 26, .bin .lss (.tmp 25) (.tmp 24), none⟩] [1, 2, 7, 8, 9, 19, 20, 24, 25, 26]) (.seq (.cond (.tmp 26) .skip (.exit 2)) (.seq (.block 3 (.seq (.ops [⟨some 27, .mov (.tmp 25), none⟩, ⟨some 10, .mov (.tmp 27), none⟩] [1, 2, 7, 8, 9, 10, 19, 20, 24, 25]) (.ops [⟨some 28, .mov (.tmp 9), none⟩, ⟨some 29, .mov (.tmp 8), none⟩, ⟨some 30, .mov (.tmp 10), none⟩, ⟨some 31, .fldA 2 (.tmp 2), none⟩, ⟨some 32, .ld none (.tmp 31), none⟩, ⟨some 33, .mov (.tmp 8), none⟩, ⟨some 34, .fldA 1 (.tmp 2), none⟩, ⟨some 35, .ld none (.tmp 34), none⟩, ⟨some 36, .bin .mul (.tmp 33) (.tmp 35), none⟩, ⟨some 37, .mov (.tmp 10), none⟩, ⟨some 38, .bin .add (.tmp 36) (.tmp 37), none⟩, ⟨some 39, .idxA 1 (.tmp 32) (.tmp 38), none⟩, ⟨some 40, .ld none (.tmp 39), none⟩, ⟨some 41, .build [.int .i64 0, .int .i64 0, .slice none 0 0, .bool false] [(0, 1, .tmp 29), (1, 1, .tmp 30), (2, 1, .tmp 40)], none⟩, ⟨some 42, .bslice 87 4 1 [.int .i64 0, .int .i64 0, .slice none 0 0, .bool false] [(0, .tmp 41)], none⟩, ⟨some 43, .app 87 4 48 [.int .i64 0, .int .i64 0, .slice none 0 0, .bool false] (.tmp 28) (.tmp 42), none⟩, ⟨some 9, .mov (.tmp 43), none⟩] [1, 2, 7, 8, 9, 19, 20, 24, 25]))) (.ops [⟨some 44, .bin .add (.tmp 25) (.const (.int .i64 1)), none⟩, ⟨some 25, .mov (.tmp 44), none⟩] [1, 2, 7, 8, 9, 19, 20, 24, 25])))
def ximage_Tracks_l1 : XCode := .seq (.ops [⟨some 21, .bin .lss (.tmp 20) (.tmp 19), none⟩] [1, 2, 7, 19, 20, 21]) (.seq (.cond (.tmp 21) .skip (.exit 0)) (.seq (.block 1 (.seq (.ops [⟨some 22, .mov (.tmp 20), none⟩, ⟨some 8, .mov (.tmp 22), none⟩] [1, 2, 7, 8, 19, 20]) (.seq (.ops [⟨some 9, .mov (.const (.slice none 0 0)), none⟩] [1, 2, 7, 8, 9, 19, 20]) (.seq (.seq (.ops [⟨some 23, .fldA 1 (.tmp 2), none⟩, ⟨some 24, .ld none (.tmp 23), none⟩, ⟨some 25, .mov (.const (.int .i64 0)), none⟩] [1, 2, 7, 8, 9, 19, 20, 24, 25]) (.block 2 (.loop ximage_Tracks_l0))) (.seq (.ops [⟨some 46, .mov (.tmp 8), none⟩, ⟨some 47, .mov (.tmp 9), none⟩, ⟨some 48, .mov (.tmp 1), none⟩, ⟨some 49, .call 43 [.tmp 46, .tmp 47, .tmp 48], none⟩, ⟨some 45, .mov (.tmp 49), none⟩, ⟨some 50, .ext (.tmp 45) 0, none⟩, ⟨some 51, .ext (.tmp 45) 1, none⟩, ⟨some 11, .mov (.tmp 50), none⟩, ⟨some 12, .mov (.tmp 51), none⟩] [1, 2, 7, 11, 12, 19, 20]) (.seq (.seq (.ops [⟨some 52, .mov (.tmp 12), none⟩, ⟨some 53, .bin .neq (.tmp 52) (.const (.int .i64 0)), none⟩] [1, 2, 7, 11, 12, 19, 20, 53]) (.cond (.tmp 53) (.seq (.ops [⟨some 54, .mov (.tmp 12), none⟩, ⟨some 4, .mov (.const (.slice none 0 0)), none⟩, ⟨some 5, .mov (.tmp 54), none⟩] [4, 5]) .ret) .skip)) (.ops [⟨some 55, .mov (.tmp 7), none⟩, ⟨some 56, .mov (.tmp 11), none⟩, ⟨some 57, .bslice 26 1 1 [.slice none 0 0] [(0, .tmp 56)], none⟩, ⟨some 58, .app 26 1 24 [.slice none 0 0] (.tmp 55) (.tmp 57), none⟩, ⟨some 7, .mov (.tmp 58), none⟩] [1, 2, 7, 19, 20]))))))) (.ops [⟨some 59, .bin .add (.tmp 20) (.const (.int .i64 1)), none⟩, ⟨some 20, .mov (.tmp 59), none⟩] [1, 2, 7, 19, 20])))
/-- bakelite/image.Tracks -/
def ximage_Tracks : XFunc := .code (.seq (.ops [⟨some 2, .box 60 1 (.tmp 0), none⟩, ⟨some 4, .mov (.const (.slice none 0 0)), none⟩, ⟨some 5, .mov (.const (.int .i64 0)), none⟩] [1, 2]) (.seq (.seq (.ops [⟨some 13, .ld (some 3) (.tmp 2), none⟩, ⟨some 14, .call 58 [.tmp 13], none⟩, ⟨some 6, .mov (.tmp 14), none⟩] [1, 2, 6]) (.seq (.ops [⟨some 15, .mov (.tmp 6), none⟩, ⟨some 16, .bin .neq (.tmp 15) (.const (.int .i64 0)), none⟩] [1, 2, 6, 16]) (.cond (.tmp 16) (.seq (.ops [⟨some 17, .mov (.tmp 6), none⟩, ⟨some 4, .mov (.const (.slice none 0 0)), none⟩, ⟨some 5, .mov (.tmp 17), none⟩] [4, 5]) .ret) .skip))) (.seq (.ops [⟨some 7, .mov (.const (.slice none 0 0)), none⟩] [1, 2, 7]) (.seq (.seq (.ops [⟨some 18, .fldA 0 (.tmp 2), none⟩, ⟨some 19, .ld none (.tmp 18), none⟩, ⟨some 20, .mov (.const (.int .i64 0)), none⟩] [1, 2, 7, 19, 20]) (.block 0 (.loop ximage_Tracks_l1))) (.seq (.ops [⟨some 60, .mov (.tmp 7), none⟩, ⟨some 4, .mov (.tmp 60), none⟩, ⟨some 5, .mov (.const (.int .i64 0)), none⟩] [4, 5]) .ret))))) [.tmp 4, .tmp 5]
theorem ximage_Tracks_ok : cFunc Try.prog Try.f56 [[1,2],[1,2,6],[1,2,6,16],[4,5],[1,2,7],[1,2,7,19,20],[1,2,7,19,20,21],[1,2,7,8,19,20],[1,2,7,8,9,19,20],[1,2,7,8,9,19,20,24,25],[1,2,7,8,9,19,20,24,25,26],[1,2,7,8,9,10,19,20,24,25],[1,2,7,8,9,19,20,24,25],[1,2,7,8,9,19,20,24,25],[1,2,7,11,12,19,20],[1,2,7,11,12,19,20,53],[4,5],[1,2,7,19,20],[1,2,7,19,20],[4,5]] = some ximage_Tracks := by kernel_rfl
def ximage_Back_l0 : XCode := .seq (.ops [⟨some 26, .bin .lss (.tmp 25) (.tmp 24), none⟩] [1, 4, 6, 23, 24, 25, 26]) (.seq (.cond (.tmp 26) .skip (.exit 0)) (.seq (.block 1 (.seq (.ops [⟨some 27, .mov (.tmp 25), none⟩, ⟨some 28, .idxA 1 (.tmp 23) (.tmp 25), none⟩, ⟨some 29, .ld none (.tmp 28), none⟩, ⟨some 7, .mov (.tmp 27), none⟩, ⟨some 8, .mov (.tmp 29), none⟩] [1, 4, 6, 7, 8, 23, 24, 25]) (.seq (.ops [⟨some 31, .mov (.tmp 8), none⟩, ⟨some 32, .mov (.tmp 1), none⟩, ⟨some 33, .call 44 [.tmp 31, .tmp 32], none⟩, ⟨some 30, .mov (.tmp 33), none⟩, ⟨some 34, .ext (.tmp 30) 0, none⟩, ⟨some 35, .ext (.tmp 30) 1, none⟩, ⟨some 9, .mov (.tmp 34), none⟩, ⟨some 10, .mov (.tmp 35), none⟩] [1, 4, 6, 7, 9, 10, 23, 24, 25]) (.seq (.seq (.ops [⟨some 36, .mov (.tmp 10), none⟩, ⟨some 37, .bin .neq (.tmp 36) (.const (.int .i64 0)), none⟩] [1, 4, 6, 7, 9, 10, 23, 24, 25, 37]) (.cond (.tmp 37) (.seq (.ops [⟨some 38, .build [.int .i64 0, .int .i64 0, .slice none 0 0] [], none⟩, ⟨some 39, .mov (.tmp 10), none⟩, ⟨none, .st 3 (.tmp 4) (.tmp 38), none⟩, ⟨some 5, .mov (.tmp 39), none⟩] [4, 5]) .ret) .skip)) (.seq (.seq (.ops [⟨some 40, .mov (.tmp 7), none⟩, ⟨some 41, .bin .eql (.tmp 40) (.const (.int .i64 0)), none⟩] [1, 4, 6, 7, 9, 23, 24, 25, 41]) (.cond (.tmp 41) (.ops [⟨some 42, .mov (.tmp 9), none⟩, ⟨some 43, .len (.tmp 42), none⟩, ⟨some 44, .fldA 1 (.tmp 6), none⟩, ⟨none, .st 1 (.tmp 44) (.tmp 43), none⟩] [1, 4, 6, 7, 9, 23, 24, 25]) .skip)) (.seq (.seq (.ops [⟨some 45, .mov (.tmp 9), none⟩, ⟨some 46, .len (.tmp 45), none⟩, ⟨some 47, .fldA 1 (.tmp 6), none⟩, ⟨some 48, .ld none (.tmp 47), none⟩, ⟨some 49, .bin .neq (.tmp 46) (.tmp 48), none⟩, ⟨some 50, .mov (.tmp 49), none⟩, ⟨some 51, .mov (.tmp 9), some (50, false)⟩, ⟨some 52, .len (.tmp 51), some (50, false)⟩, ⟨some 53, .bin .eql (.tmp 52) (.const (.int .i64 0)), some (50, false)⟩, ⟨some 54, .pick (.tmp 50) (.const (.bool true)) (.tmp 53), none⟩] [1, 4, 6, 7, 9, 23, 24, 25, 54]) (.cond (.tmp 54) (.seq (.ops [⟨some 55, .build [.int .i64 0, .int .i64 0, .slice none 0 0] [], none⟩, ⟨none, .st 3 (.tmp 4) (.tmp 55), none⟩, ⟨some 5, .mov (.const (.int .i64 13)), none⟩] [4, 5]) .ret) .skip)) (.seq (.ops [⟨some 57, .mov (.tmp 7), none⟩, ⟨some 58, .mov (.tmp 9), none⟩, ⟨some 59, .fldA 1 (.tmp 6), none⟩, ⟨some 60, .ld none (.tmp 59), none⟩, ⟨some 61, .call 111 [.tmp 57, .tmp 58, .tmp 60], none⟩, ⟨some 56, .mov (.tmp 61), none⟩, ⟨some 62, .ext (.tmp 56) 0, none⟩, ⟨some 63, .ext (.tmp 56) 1, none⟩, ⟨some 11, .mov (.tmp 62), none⟩, ⟨some 10, .mov (.tmp 63), none⟩] [1, 4, 6, 10, 11, 23, 24, 25]) (.seq (.seq (.ops [⟨some 64, .mov (.tmp 10), none⟩, ⟨some 65, .bin .neq (.tmp 64) (.const (.int .i64 0)), none⟩] [1, 4, 6, 10, 11, 23, 24, 25, 65]) (.cond (.tmp 65) (.seq (.ops [⟨some 66, .build [.int .i64 0, .int .i64 0, .slice none 0 0] [], none⟩, ⟨some 67, .mov (.tmp 10), none⟩, ⟨none, .st 3 (.tmp 4) (.tmp 66), none⟩, ⟨some 5, .mov (.tmp 67), none⟩] [4, 5]) .ret) .skip)) (.ops [⟨some 68, .fldA 2 (.tmp 6), none⟩, ⟨some 69, .ld none (.tmp 68), none⟩, ⟨some 70, .mov (.tmp 11), none⟩, ⟨some 71, .app 23 1 24 [.slice none 0 0] (.tmp 69) (.tmp 70), none⟩, ⟨some 72, .fldA 2 (.tmp 6), none⟩, ⟨none, .st 1 (.tmp 72) (.tmp 71), none⟩] [1, 4, 6, 23, 24, 25]))))))))) (.ops [⟨some 73, .bin .add (.tmp 25) (.const (.int .i64 1)), none⟩, ⟨some 25, .mov (.tmp 73), none⟩] [1, 4, 6, 23, 24, 25])))
/-- bakelite/image.Back -/
def ximage_Back : XFunc := .code (.seq (.ops [⟨some 4, .new 60 1 [.int .i64 0, .int .i64 0, .slice none 0 0], none⟩, ⟨some 5, .mov (.const (.int .i64 0)), none⟩] [0, 1, 4]) (.seq (.seq (.ops [⟨some 12, .mov (.tmp 0), none⟩, ⟨some 13, .len (.tmp 12), none⟩, ⟨some 14, .bin .eql (.tmp 13) (.const (.int .i64 0)), none⟩] [0, 1, 4, 14]) (.cond (.tmp 14) (.seq (.ops [⟨some 15, .build [.int .i64 0, .int .i64 0, .slice none 0 0] [], none⟩, ⟨none, .st 3 (.tmp 4) (.tmp 15), none⟩, ⟨some 5, .mov (.const (.int .i64 4)), none⟩] [4, 5]) .ret) .skip)) (.seq (.seq (.ops [⟨some 16, .mov (.tmp 0), none⟩, ⟨some 17, .len (.tmp 16), none⟩, ⟨some 18, .bin .gtr (.tmp 17) (.const (.int .i64 20)), none⟩] [0, 1, 4, 18]) (.cond (.tmp 18) (.seq (.ops [⟨some 19, .build [.int .i64 0, .int .i64 0, .slice none 0 0] [], none⟩, ⟨none, .st 3 (.tmp 4) (.tmp 19), none⟩, ⟨some 5, .mov (.const (.int .i64 2)), none⟩] [4, 5]) .ret) .skip)) (.seq (.ops [⟨some 20, .mov (.tmp 0), none⟩, ⟨some 21, .len (.tmp 20), none⟩, ⟨some 22, .build [.int .i64 0, .int .i64 0, .slice none 0 0] [(0, 1, .tmp 21)], none⟩, ⟨some 6, .new 60 1 [.int .i64 0, .int .i64 0, .slice none 0 0], none⟩, ⟨none, .st 3 (.tmp 6) (.tmp 22), none⟩] [0, 1, 4, 6]) (.seq (.seq (.ops [⟨some 23, .mov (.tmp 0), none⟩, ⟨some 24, .len (.tmp 23), none⟩, ⟨some 25, .mov (.const (.int .i64 0)), none⟩] [1, 4, 6, 23, 24, 25]) (.block 0 (.loop ximage_Back_l0))) (.seq (.ops [⟨some 74, .ld (some 3) (.tmp 6), none⟩, ⟨none, .st 3 (.tmp 4) (.tmp 74), none⟩, ⟨some 5, .mov (.const (.int .i64 0)), none⟩] [4, 5]) .ret)))))) [.cell 4 (some 3), .tmp 5]
theorem ximage_Back_ok : cFunc Try.prog Try.f57 [[0,1,4],[0,1,4,14],[4,5],[0,1,4,18],[4,5],[0,1,4,6],[1,4,6,23,24,25],[1,4,6,23,24,25,26],[1,4,6,7,8,23,24,25],[1,4,6,7,9,10,23,24,25],[1,4,6,7,9,10,23,24,25,37],[4,5],[1,4,6,7,9,23,24,25,41],[1,4,6,7,9,23,24,25],[1,4,6,7,9,23,24,25,54],[4,5],[1,4,6,10,11,23,24,25],[1,4,6,10,11,23,24,25,65],[4,5],[1,4,6,23,24,25],[1,4,6,23,24,25],[4,5]] = some ximage_Back := by kernel_rfl
def ximage_Check_l0 : XCode := .seq (.ops [⟨some 36, .bin .lss (.tmp 35) (.tmp 34), none⟩] [33, 34, 35, 36]) (.seq (.cond (.tmp 36) .skip (.exit 0)) (.seq (.block 1 (.seq (.ops [⟨some 37, .idxA 1 (.tmp 33) (.tmp 35), none⟩, ⟨some 38, .ld none (.tmp 37), none⟩, ⟨some 4, .mov (.tmp 38), none⟩] [4, 33, 34, 35]) (.seq (.ops [⟨some 39, .mov (.tmp 4), none⟩, ⟨some 40, .len (.tmp 39), none⟩, ⟨some 41, .bin .neq (.tmp 40) (.const (.int .i64 128)), none⟩] [33, 34, 35, 41]) (.cond (.tmp 41) (.seq (.ops [⟨some 2, .mov (.const (.int .i64 3)), none⟩] [2]) .ret) .skip)))) (.ops [⟨some 42, .bin .add (.tmp 35) (.const (.int .i64 1)), none⟩, ⟨some 35, .mov (.tmp 42), none⟩] [33, 34, 35])))
/-- bakelite/image.Check -/
def ximage_Check : XFunc := .code (.seq (.ops [⟨some 1, .box 60 1 (.tmp 0), none⟩, ⟨some 2, .mov (.const (.int .i64 0)), none⟩] [1]) (.seq (.seq (.ops [⟨some 5, .fldA 0 (.tmp 1), none⟩, ⟨some 6, .ld none (.tmp 5), none⟩, ⟨some 7, .bin .lss (.tmp 6) (.const (.int .i64 1)), none⟩, ⟨some 8, .mov (.tmp 7), none⟩, ⟨some 9, .fldA 0 (.tmp 1), some (8, false)⟩, ⟨some 10, .ld none (.tmp 9), some (8, false)⟩, ⟨some 11, .bin .gtr (.tmp 10) (.const (.int .i64 20)), some (8, false)⟩, ⟨some 12, .pick (.tmp 8) (.const (.bool true)) (.tmp 11), none⟩, ⟨some 13, .mov (.tmp 12), none⟩, ⟨some 14, .fldA 1 (.tmp 1), some (13, false)⟩, ⟨some 15, .ld none (.tmp 14), some (13, false)⟩, ⟨some 16, .bin .lss (.tmp 15) (.const (.int .i64 1)), some (13, false)⟩, ⟨some 17, .pick (.tmp 13) (.const (.bool true)) (.tmp 16), none⟩, ⟨some 18, .mov (.tmp 17), none⟩, ⟨some 19, .fldA 1 (.tmp 1), some (18, false)⟩, ⟨some 20, .ld none (.tmp 19), some (18, false)⟩, ⟨some 21, .bin .gtr (.tmp 20) (.const (.int .i64 12)), some (18, false)⟩, ⟨some 22, .pick (.tmp 18) (.const (.bool true)) (.tmp 21), none⟩] [1, 22]) (.cond (.tmp 22) (.seq (.ops [⟨some 2, .mov (.const (.int .i64 1)), none⟩] [2]) .ret) .skip)) (.seq (.seq (.ops [⟨some 23, .fldA 2 (.tmp 1), none⟩, ⟨some 24, .ld none (.tmp 23), none⟩, ⟨some 25, .len (.tmp 24), none⟩, ⟨some 26, .fldA 0 (.tmp 1), none⟩, ⟨some 27, .ld none (.tmp 26), none⟩, ⟨some 28, .fldA 1 (.tmp 1), none⟩, ⟨some 29, .ld none (.tmp 28), none⟩, ⟨some 30, .bin .mul (.tmp 27) (.tmp 29), none⟩, ⟨some 31, .bin .neq (.tmp 25) (.tmp 30), none⟩] [1, 31]) (.cond (.tmp 31) (.seq (.ops [⟨some 2, .mov (.const (.int .i64 3)), none⟩] [2]) .ret) .skip)) (.seq (.seq (.ops [⟨some 32, .fldA 2 (.tmp 1), none⟩, ⟨some 33, .ld none (.tmp 32), none⟩, ⟨some 34, .len (.tmp 33), none⟩, ⟨some 35, .mov (.const (.int .i64 0)), none⟩] [33, 34, 35]) (.block 0 (.loop ximage_Check_l0))) (.seq (.ops [⟨some 2, .mov (.const (.int .i64 0)), none⟩] [2]) .ret))))) [.tmp 2]
theorem ximage_Check_ok : cFunc Try.prog Try.f58 [[1],[1,22],[2],[1,31],[2],[33,34,35],[33,34,35,36],[4,33,34,35],[33,34,35,41],[2],[33,34,35],[2]] = some ximage_Check := by kernel_rfl
/-- bakelite/image.Same -/
def ximage_Same : XFunc := .code (.seq (.ops [⟨some 2, .box 60 1 (.tmp 0), none⟩, ⟨some 3, .box 60 1 (.tmp 1), none⟩, ⟨some 4, .mov (.const (.bool false)), none⟩] [2, 3]) (.seq (.ops [⟨some 5, .fldA 0 (.tmp 2), none⟩, ⟨some 6, .ld none (.tmp 5), none⟩, ⟨some 7, .fldA 0 (.tmp 3), none⟩, ⟨some 8, .ld none (.tmp 7), none⟩, ⟨some 9, .bin .eql (.tmp 6) (.tmp 8), none⟩, ⟨some 10, .mov (.tmp 9), none⟩, ⟨some 11, .fldA 1 (.tmp 2), some (10, true)⟩, ⟨some 12, .ld none (.tmp 11), some (10, true)⟩, ⟨some 13, .fldA 1 (.tmp 3), some (10, true)⟩, ⟨some 14, .ld none (.tmp 13), some (10, true)⟩, ⟨some 15, .bin .eql (.tmp 12) (.tmp 14), some (10, true)⟩, ⟨some 16, .pick (.tmp 10) (.tmp 15) (.const (.bool false)), none⟩, ⟨some 17, .mov (.tmp 16), none⟩, ⟨some 18, .fldA 2 (.tmp 2), some (17, true)⟩, ⟨some 19, .ld none (.tmp 18), some (17, true)⟩, ⟨some 20, .fldA 2 (.tmp 3), some (17, true)⟩, ⟨some 21, .ld none (.tmp 20), some (17, true)⟩, ⟨some 22, .call 112 [.tmp 19, .tmp 21, .func 113], some (17, true)⟩, ⟨some 23, .pick (.tmp 17) (.tmp 22) (.const (.bool false)), none⟩, ⟨some 4, .mov (.tmp 23), none⟩] [4]) .ret)) [.tmp 4]
theorem ximage_Same_ok : cFunc Try.prog Try.f59 [[2,3],[4]] = some ximage_Same := by kernel_rfl
def xflux_Pulses_l0 : XCode := .seq (.ops [⟨some 21, .bin .lss (.tmp 20) (.tmp 19), none⟩] [1, 6, 18, 19, 20, 21]) (.seq (.cond (.tmp 21) .skip (.exit 0)) (.seq (.block 1 (.seq (.ops [⟨some 22, .idxA 1 (.tmp 18) (.tmp 20), none⟩, ⟨some 23, .ld none (.tmp 22), none⟩, ⟨some 8, .mov (.tmp 23), none⟩] [1, 6, 8, 18, 19, 20]) (.seq (.seq (.ops [⟨some 24, .mov (.tmp 8), none⟩, ⟨some 25, .bin .lss (.tmp 24) (.const (.int .i64 1)), none⟩, ⟨some 26, .mov (.tmp 25), none⟩, ⟨some 27, .mov (.tmp 8), some (26, false)⟩, ⟨some 28, .bin .gtr (.tmp 27) (.const (.int .i64 100)), some (26, false)⟩, ⟨some 29, .pick (.tmp 26) (.const (.bool true)) (.tmp 28), none⟩] [1, 6, 8, 18, 19, 20, 29]) (.cond (.tmp 29) (.seq (.ops [⟨some 4, .mov (.const (.slice none 0 0)), none⟩, ⟨some 5, .mov (.const (.int .i64 3)), none⟩] [4, 5]) .ret) .skip)) (.ops [⟨some 30, .mov (.tmp 6), none⟩, ⟨some 31, .mov (.tmp 8), none⟩, ⟨some 32, .mov (.tmp 1), none⟩, ⟨some 33, .bin .mul (.tmp 31) (.tmp 32), none⟩, ⟨some 34, .bslice 3 1 1 [.int .i64 0] [(0, .tmp 33)], none⟩, ⟨some 35, .app 3 1 8 [.int .i64 0] (.tmp 30) (.tmp 34), none⟩, ⟨some 6, .mov (.tmp 35), none⟩] [1, 6, 18, 19, 20])))) (.ops [⟨some 36, .bin .add (.tmp 20) (.const (.int .i64 1)), none⟩, ⟨some 20, .mov (.tmp 36), none⟩] [1, 6, 18, 19, 20])))
/-- bakelite/flux.Pulses -/
def xflux_Pulses : XFunc := .code (.seq (.ops [⟨some 4, .mov (.const (.slice none 0 0)), none⟩, ⟨some 5, .mov (.const (.int .i64 0)), none⟩] [0, 1]) (.seq (.seq (.ops [⟨some 9, .mov (.tmp 1), none⟩, ⟨some 10, .bin .lss (.tmp 9) (.const (.int .i64 2)), none⟩, ⟨some 11, .mov (.tmp 10), none⟩, ⟨some 12, .mov (.tmp 1), some (11, false)⟩, ⟨some 13, .bin .gtr (.tmp 12) (.const (.int .i64 1000)), some (11, false)⟩, ⟨some 14, .pick (.tmp 11) (.const (.bool true)) (.tmp 13), none⟩] [0, 1, 14]) (.cond (.tmp 14) (.seq (.ops [⟨some 4, .mov (.const (.slice none 0 0)), none⟩, ⟨some 5, .mov (.const (.int .i64 1)), none⟩] [4, 5]) .ret) .skip)) (.seq (.seq (.ops [⟨some 15, .mov (.tmp 0), none⟩, ⟨some 16, .len (.tmp 15), none⟩, ⟨some 17, .bin .gtr (.tmp 16) (.const (.int .i64 40000)), none⟩] [0, 1, 17]) (.cond (.tmp 17) (.seq (.ops [⟨some 4, .mov (.const (.slice none 0 0)), none⟩, ⟨some 5, .mov (.const (.int .i64 2)), none⟩] [4, 5]) .ret) .skip)) (.seq (.ops [⟨some 6, .mov (.const (.slice none 0 0)), none⟩] [0, 1, 6]) (.seq (.seq (.ops [⟨some 18, .mov (.tmp 0), none⟩, ⟨some 19, .len (.tmp 18), none⟩, ⟨some 20, .mov (.const (.int .i64 0)), none⟩] [1, 6, 18, 19, 20]) (.block 0 (.loop xflux_Pulses_l0))) (.seq (.ops [⟨some 37, .mov (.tmp 6), none⟩, ⟨some 4, .mov (.tmp 37), none⟩, ⟨some 5, .mov (.const (.int .i64 0)), none⟩] [4, 5]) .ret)))))) [.tmp 4, .tmp 5]
theorem xflux_Pulses_ok : cFunc Try.prog Try.f62 [[0,1],[0,1,14],[4,5],[0,1,17],[4,5],[0,1,6],[1,6,18,19,20],[1,6,18,19,20,21],[1,6,8,18,19,20],[1,6,8,18,19,20,29],[4,5],[1,6,18,19,20],[1,6,18,19,20],[4,5]] = some xflux_Pulses := by kernel_rfl
def xflux_Cells_l0 : XCode := .seq (.ops [⟨some 27, .bin .lss (.tmp 26) (.tmp 25), none⟩] [1, 2, 9, 24, 25, 26, 27]) (.seq (.cond (.tmp 27) .skip (.exit 0)) (.seq (.block 1 (.seq (.ops [⟨some 28, .idxA 1 (.tmp 24) (.tmp 26), none⟩, ⟨some 29, .ld none (.tmp 28), none⟩, ⟨some 11, .mov (.tmp 29), none⟩] [1, 2, 9, 11, 24, 25, 26]) (.seq (.ops [⟨some 30, .mov (.tmp 11), none⟩, ⟨some 31, .bin .mul (.const (.int .i64 2)) (.tmp 30), none⟩, ⟨some 32, .mov (.tmp 1), none⟩, ⟨some 33, .bin .add (.tmp 31) (.tmp 32), none⟩, ⟨some 34, .mov (.tmp 1), none⟩, ⟨some 35, .bin .mul (.const (.int .i64 2)) (.tmp 34), none⟩, ⟨some 36, .bin .quo (.tmp 33) (.tmp 35), none⟩, ⟨some 12, .mov (.tmp 36), none⟩] [1, 2, 9, 12, 24, 25, 26]) (.seq (.seq (.ops [⟨some 37, .mov (.tmp 12), none⟩, ⟨some 38, .bin .lss (.tmp 37) (.const (.int .i64 1)), none⟩, ⟨some 39, .mov (.tmp 38), none⟩, ⟨some 40, .mov (.tmp 12), some (39, false)⟩, ⟨some 41, .mov (.tmp 2), some (39, false)⟩, ⟨some 42, .bin .gtr (.tmp 40) (.tmp 41), some (39, false)⟩, ⟨some 43, .pick (.tmp 39) (.const (.bool true)) (.tmp 42), none⟩] [1, 2, 9, 12, 24, 25, 26, 43]) (.cond (.tmp 43) (.seq (.ops [⟨some 6, .mov (.const (.slice none 0 0)), none⟩, ⟨some 7, .mov (.const (.int .i64 18)), none⟩] [6, 7]) .ret) .skip)) (.ops [⟨some 44, .mov (.tmp 9), none⟩, ⟨some 45, .mov (.tmp 12), none⟩, ⟨some 46, .bslice 3 1 1 [.int .i64 0] [(0, .tmp 45)], none⟩, ⟨some 47, .app 3 1 8 [.int .i64 0] (.tmp 44) (.tmp 46), none⟩, ⟨some 9, .mov (.tmp 47), none⟩] [1, 2, 9, 24, 25, 26]))))) (.ops [⟨some 48, .bin .add (.tmp 26) (.const (.int .i64 1)), none⟩, ⟨some 26, .mov (.tmp 48), none⟩] [1, 2, 9, 24, 25, 26])))
/-- bakelite/flux.Cells -/
def xflux_Cells : XFunc := .code (.seq (.ops [⟨some 6, .mov (.const (.slice none 0 0)), none⟩, ⟨some 7, .mov (.const (.int .i64 0)), none⟩] [0, 1, 2]) (.seq (.seq (.ops [⟨some 13, .mov (.tmp 0), none⟩, ⟨some 14, .call 65 [.tmp 13], none⟩, ⟨some 8, .mov (.tmp 14), none⟩] [0, 1, 2, 8]) (.seq (.ops [⟨some 15, .mov (.tmp 8), none⟩, ⟨some 16, .bin .neq (.tmp 15) (.const (.int .i64 0)), none⟩] [0, 1, 2, 8, 16]) (.cond (.tmp 16) (.seq (.ops [⟨some 17, .mov (.tmp 8), none⟩, ⟨some 6, .mov (.const (.slice none 0 0)), none⟩, ⟨some 7, .mov (.tmp 17), none⟩] [6, 7]) .ret) .skip))) (.seq (.seq (.ops [⟨some 18, .mov (.tmp 1), none⟩, ⟨some 19, .bin .lss (.tmp 18) (.const (.int .i64 2)), none⟩, ⟨some 20, .mov (.tmp 19), none⟩, ⟨some 21, .mov (.tmp 1), some (20, false)⟩, ⟨some 22, .bin .gtr (.tmp 21) (.const (.int .i64 1000)), some (20, false)⟩, ⟨some 23, .pick (.tmp 20) (.const (.bool true)) (.tmp 22), none⟩] [0, 1, 2, 23]) (.cond (.tmp 23) (.seq (.ops [⟨some 6, .mov (.const (.slice none 0 0)), none⟩, ⟨some 7, .mov (.const (.int .i64 1)), none⟩] [6, 7]) .ret) .skip)) (.seq (.ops [⟨some 9, .mov (.const (.slice none 0 0)), none⟩] [0, 1, 2, 9]) (.seq (.seq (.ops [⟨some 24, .mov (.tmp 0), none⟩, ⟨some 25, .len (.tmp 24), none⟩, ⟨some 26, .mov (.const (.int .i64 0)), none⟩] [1, 2, 9, 24, 25, 26]) (.block 0 (.loop xflux_Cells_l0))) (.seq (.ops [⟨some 49, .mov (.tmp 9), none⟩, ⟨some 6, .mov (.tmp 49), none⟩, ⟨some 7, .mov (.const (.int .i64 0)), none⟩] [6, 7]) .ret)))))) [.tmp 6, .tmp 7]
theorem xflux_Cells_ok : cFunc Try.prog Try.f63 [[0,1,2],[0,1,2,8],[0,1,2,8,16],[6,7],[0,1,2,23],[6,7],[0,1,2,9],[1,2,9,24,25,26],[1,2,9,24,25,26,27],[1,2,9,11,24,25,26],[1,2,9,12,24,25,26],[1,2,9,12,24,25,26,43],[6,7],[1,2,9,24,25,26],[1,2,9,24,25,26],[6,7]] = some xflux_Cells := by kernel_rfl
def xflux_Check_l0 : XCode := .seq (.ops [⟨some 11, .bin .lss (.tmp 10) (.tmp 9), none⟩] [8, 9, 10, 11]) (.seq (.cond (.tmp 11) .skip (.exit 0)) (.seq (.block 1 (.seq (.ops [⟨some 12, .idxA 1 (.tmp 8) (.tmp 10), none⟩, ⟨some 13, .ld none (.tmp 12), none⟩, ⟨some 4, .mov (.tmp 13), none⟩] [4, 8, 9, 10]) (.seq (.ops [⟨some 14, .mov (.tmp 4), none⟩, ⟨some 15, .bin .lss (.tmp 14) (.const (.int .i64 1)), none⟩, ⟨some 16, .mov (.tmp 15), none⟩, ⟨some 17, .mov (.tmp 4), some (16, false)⟩, ⟨some 18, .bin .gtr (.tmp 17) (.const (.int .i64 100000)), some (16, false)⟩, ⟨some 19, .pick (.tmp 16) (.const (.bool true)) (.tmp 18), none⟩] [8, 9, 10, 19]) (.cond (.tmp 19) (.seq (.ops [⟨some 2, .mov (.const (.int .i64 1)), none⟩] [2]) .ret) .skip)))) (.ops [⟨some 20, .bin .add (.tmp 10) (.const (.int .i64 1)), none⟩, ⟨some 10, .mov (.tmp 20), none⟩] [8, 9, 10])))
/-- bakelite/flux.Check -/
def xflux_Check : XFunc := .code (.seq (.ops [⟨some 2, .mov (.const (.int .i64 0)), none⟩] [0]) (.seq (.seq (.ops [⟨some 5, .mov (.tmp 0), none⟩, ⟨some 6, .len (.tmp 5), none⟩, ⟨some 7, .bin .gtr (.tmp 6) (.const (.int .i64 40000)), none⟩] [0, 7]) (.cond (.tmp 7) (.seq (.ops [⟨some 2, .mov (.const (.int .i64 2)), none⟩] [2]) .ret) .skip)) (.seq (.seq (.ops [⟨some 8, .mov (.tmp 0), none⟩, ⟨some 9, .len (.tmp 8), none⟩, ⟨some 10, .mov (.const (.int .i64 0)), none⟩] [8, 9, 10]) (.block 0 (.loop xflux_Check_l0))) (.seq (.ops [⟨some 2, .mov (.const (.int .i64 0)), none⟩] [2]) .ret)))) [.tmp 2]
theorem xflux_Check_ok : cFunc Try.prog Try.f65 [[0],[0,7],[2],[8,9,10],[8,9,10,11],[4,8,9,10],[8,9,10,19],[2],[8,9,10],[2]] = some xflux_Check := by kernel_rfl
/-- (*bakelite/bakemake.Stream).Next -/
def xbakemake_Stream_Next : XFunc := .code (.seq (.ops [⟨some 4, .mov (.const (.int .i64 0)), none⟩] [0, 1]) (.seq (.seq (.ops [⟨some 6, .mov (.tmp 1), none⟩, ⟨some 7, .bin .lss (.tmp 6) (.const (.int .i64 1)), none⟩, ⟨some 8, .mov (.tmp 7), none⟩, ⟨some 9, .mov (.tmp 0), some (8, false)⟩, ⟨some 10, .nilck (.tmp 9), some (8, false)⟩, ⟨some 11, .fldA 0 (.tmp 10), some (8, false)⟩, ⟨some 12, .ld none (.tmp 11), some (8, false)⟩, ⟨some 13, .len (.tmp 12), some (8, false)⟩, ⟨some 14, .bin .eql (.tmp 13) (.const (.int .i64 0)), some (8, false)⟩, ⟨some 15, .pick (.tmp 8) (.const (.bool true)) (.tmp 14), none⟩] [0, 1, 15]) (.cond (.tmp 15) (.seq (.ops [⟨some 4, .mov (.const (.int .i64 0)), none⟩] [4]) .ret) .skip)) (.seq (.ops [⟨some 16, .mov (.tmp 0), none⟩, ⟨some 17, .nilck (.tmp 16), none⟩, ⟨some 18, .fldA 0 (.tmp 17), none⟩, ⟨some 19, .ld none (.tmp 18), none⟩, ⟨some 20, .idxA 1 (.tmp 19) (.const (.int .i64 0)), none⟩, ⟨some 21, .ld none (.tmp 20), none⟩, ⟨some 5, .mov (.tmp 21), none⟩] [0, 1, 5]) (.seq (.ops [⟨some 22, .mov (.tmp 0), none⟩, ⟨some 23, .mov (.tmp 0), none⟩, ⟨some 24, .nilck (.tmp 23), none⟩, ⟨some 25, .fldA 0 (.tmp 24), none⟩, ⟨some 26, .ld none (.tmp 25), none⟩, ⟨some 27, .slc 1 (.tmp 26) (some (.const (.int .i64 1))) none none, none⟩, ⟨some 28, .nilck (.tmp 22), none⟩, ⟨some 29, .fldA 0 (.tmp 28), none⟩, ⟨none, .st 1 (.tmp 29) (.tmp 27), none⟩] [1, 5]) (.seq (.ops [⟨some 30, .mov (.tmp 5), none⟩, ⟨some 31, .mov (.tmp 1), none⟩, ⟨some 32, .call 14 [.tmp 30, .tmp 31], none⟩, ⟨some 4, .mov (.tmp 32), none⟩] [4]) .ret))))) [.tmp 4]
theorem xbakemake_Stream_Next_ok : cFunc Try.prog Try.f67 [[0,1],[0,1,15],[4],[0,1,5],[1,5],[4]] = some xbakemake_Stream_Next := by kernel_rfl
def xmfm_size_l0 : XCode := .seq (.ops [⟨some 9, .bin .lss (.tmp 8) (.tmp 7), none⟩] [3, 6, 7, 8, 9]) (.seq (.cond (.tmp 9) .skip (.exit 0)) (.seq (.block 1 (.seq (.ops [⟨some 10, .idxA 2 (.tmp 6) (.tmp 8), none⟩, ⟨some 11, .ld (some 2) (.tmp 10), none⟩, ⟨some 5, .new 55 1 [.bool false, .slice none 0 0], none⟩, ⟨none, .st 2 (.tmp 5) (.tmp 11), none⟩] [3, 5, 6, 7, 8]) (.seq (.seq (.ops [⟨some 12, .mov (.tmp 3), none⟩, ⟨some 13, .fldA 1 (.tmp 5), none⟩, ⟨some 14, .ld none (.tmp 13), none⟩, ⟨some 15, .len (.tmp 14), none⟩, ⟨some 16, .bin .add (.tmp 12) (.tmp 15), none⟩, ⟨some 3, .mov (.tmp 16), none⟩] [3, 5, 6, 7, 8]) (.seq (.ops [⟨some 17, .fldA 0 (.tmp 5), none⟩, ⟨some 18, .ld none (.tmp 17), none⟩] [3, 6, 7, 8, 18]) (.cond (.tmp 18) (.ops [⟨some 19, .mov (.tmp 3), none⟩, ⟨some 20, .bin .add (.tmp 19) (.const (.int .i64 1)), none⟩, ⟨some 3, .mov (.tmp 20), none⟩] [3, 6, 7, 8]) .skip))) (.seq (.ops [⟨some 21, .mov (.tmp 3), none⟩, ⟨some 22, .bin .gtr (.tmp 21) (.const (.int .i64 2400)), none⟩] [3, 6, 7, 8, 22]) (.cond (.tmp 22) (.seq (.ops [⟨some 2, .mov (.const (.int .i64 2401)), none⟩] [2]) .ret) .skip))))) (.ops [⟨some 23, .bin .add (.tmp 8) (.const (.int .i64 1)), none⟩, ⟨some 8, .mov (.tmp 23), none⟩] [3, 6, 7, 8])))
/-- bakelite/mfm.size -/
def xmfm_size : XFunc := .code (.seq (.ops [⟨some 2, .mov (.const (.int .i64 0)), none⟩] [0]) (.seq (.ops [⟨some 3, .mov (.const (.int .i64 0)), none⟩] [0, 3]) (.seq (.seq (.ops [⟨some 6, .mov (.tmp 0), none⟩, ⟨some 7, .len (.tmp 6), none⟩, ⟨some 8, .mov (.const (.int .i64 0)), none⟩] [3, 6, 7, 8]) (.block 0 (.loop xmfm_size_l0))) (.seq (.ops [⟨some 24, .mov (.tmp 3), none⟩, ⟨some 2, .mov (.tmp 24), none⟩] [2]) .ret)))) [.tmp 2]
theorem xmfm_size_ok : cFunc Try.prog Try.f75 [[0],[0,3],[3,6,7,8],[3,6,7,8,9],[3,5,6,7,8],[3,5,6,7,8],[3,6,7,8,18],[3,6,7,8],[3,6,7,8,22],[2],[3,6,7,8],[2]] = some xmfm_size := by kernel_rfl
def xmfm_writer_put_l0 : XCode := .seq (.ops [⟨some 9, .bin .lss (.tmp 8) (.const (.int .i64 8)), none⟩] [0, 1, 2, 8, 9]) (.seq (.cond (.tmp 9) .skip (.exit 0)) (.seq (.block 1 (.seq (.ops [⟨some 10, .mov (.tmp 8), none⟩, ⟨some 6, .mov (.tmp 10), none⟩] [0, 1, 2, 6, 8]) (.seq (.ops [⟨some 11, .mov (.tmp 1), none⟩, ⟨some 12, .mov (.tmp 6), none⟩, ⟨some 13, .bin .sub (.const (.int .i64 7)) (.tmp 12), none⟩, ⟨some 14, .bin .shr (.tmp 11) (.tmp 13), none⟩, ⟨some 15, .bin .and (.tmp 14) (.const (.int .u8 1)), none⟩, ⟨some 16, .bin .eql (.tmp 15) (.const (.int .u8 1)), none⟩, ⟨some 7, .mov (.tmp 16), none⟩] [0, 1, 2, 6, 7, 8]) (.seq (.ops [⟨some 17, .mov (.tmp 0), none⟩, ⟨some 18, .mov (.tmp 7), none⟩, ⟨some 19, .flat (.unOp .not 4 (.tmp 18)) 4, none⟩, ⟨some 20, .mov (.tmp 19), none⟩, ⟨some 21, .mov (.tmp 0), some (20, true)⟩, ⟨some 22, .nilck (.tmp 21), some (20, true)⟩, ⟨some 23, .fldA 2 (.tmp 22), some (20, true)⟩, ⟨some 24, .ld none (.tmp 23), some (20, true)⟩, ⟨some 25, .flat (.unOp .not 4 (.tmp 24)) 4, some (20, true)⟩, ⟨some 26, .pick (.tmp 20) (.tmp 25) (.const (.bool false)), none⟩, ⟨some 27, .mov (.tmp 26), none⟩, ⟨some 28, .mov (.tmp 2), some (27, true)⟩, ⟨some 29, .mov (.tmp 28), some (27, true)⟩, ⟨some 30, .mov (.tmp 6), some (29, true)⟩, ⟨some 31, .bin .eql (.tmp 30) (.const (.int .i64 5)), some (29, true)⟩, ⟨some 32, .pick (.tmp 29) (.tmp 31) (.const (.bool false)), some (27, true)⟩, ⟨some 33, .flat (.unOp .not 4 (.tmp 32)) 4, some (27, true)⟩, ⟨some 34, .pick (.tmp 27) (.tmp 33) (.const (.bool false)), none⟩, ⟨some 35, .call 77 [.tmp 17, .tmp 34], none⟩] [0, 1, 2, 7, 8]) (.seq (.ops [⟨some 36, .mov (.tmp 0), none⟩, ⟨some 37, .mov (.tmp 7), none⟩, ⟨some 38, .call 77 [.tmp 36, .tmp 37], none⟩] [0, 1, 2, 7, 8]) (.ops [⟨some 39, .mov (.tmp 0), none⟩, ⟨some 40, .mov (.tmp 7), none⟩, ⟨some 41, .nilck (.tmp 39), none⟩, ⟨some 42, .fldA 2 (.tmp 41), none⟩, ⟨none, .st 1 (.tmp 42) (.tmp 40), none⟩] [0, 1, 2, 8])))))) (.ops [⟨some 43, .bin .add (.tmp 8) (.const (.int .i64 1)), none⟩, ⟨some 8, .mov (.tmp 43), none⟩] [0, 1, 2, 8])))
/-- (*bakelite/mfm.writer).put -/
def xmfm_writer_put : XFunc := .code (.seq (.ops [⟨some 8, .mov (.const (.int .i64 0)), none⟩] [0, 1, 2, 8]) (.block 0 (.loop xmfm_writer_put_l0))) []
theorem xmfm_writer_put_ok : cFunc Try.prog Try.f76 [[0,1,2,8],[0,1,2,8,9],[0,1,2,6,8],[0,1,2,6,7,8],[0,1,2,7,8],[0,1,2,7,8],[0,1,2,8],[0,1,2,8]] = some xmfm_writer_put := by kernel_rfl
/-- (*bakelite/mfm.writer).place -/
def xmfm_writer_place : XFunc := .code (.seq (.ops [⟨some 4, .mov (.tmp 0), none⟩, ⟨some 5, .nilck (.tmp 4), none⟩, ⟨some 6, .fldA 1 (.tmp 5), none⟩, ⟨some 7, .ld none (.tmp 6), none⟩, ⟨some 8, .bin .add (.tmp 7) (.const (.int .i64 1)), none⟩, ⟨some 9, .nilck (.tmp 4), none⟩, ⟨some 10, .fldA 1 (.tmp 9), none⟩, ⟨none, .st 1 (.tmp 10) (.tmp 8), none⟩] [0, 1]) (.seq (.ops [⟨some 11, .mov (.tmp 1), none⟩] [0, 11]) (.cond (.tmp 11) (.dops [.mk ⟨some 12, .mov (.tmp 0), none⟩ [0] 0 [], .mk ⟨some 13, .mov (.tmp 0), none⟩ [0] 0 [], .mk ⟨some 14, .mov (.tmp 0), none⟩ [0] 0 [], .mk ⟨some 15, .nilck (.tmp 14), none⟩ [14] 0 [], .mk ⟨some 16, .fldA 0 (.tmp 15), none⟩ [15] 0 [], .mk ⟨some 17, .ld none (.tmp 16), none⟩ [16] 1 [11], .mk ⟨some 18, .mov (.tmp 0), none⟩ [0] 0 [], .mk ⟨some 19, .nilck (.tmp 18), none⟩ [18] 0 [], .mk ⟨some 20, .fldA 1 (.tmp 19), none⟩ [19] 0 [], .mk ⟨some 21, .ld none (.tmp 20), none⟩ [20] 1 [], .mk ⟨some 22, .bslice 3 1 1 [.int .i64 0] [(0, .tmp 21)], none⟩ [21] 2 [], .mk ⟨some 23, .app 3 1 8 [.int .i64 0] (.tmp 17) (.tmp 22), none⟩ [17, 22] 2 [], .mk ⟨some 24, .nilck (.tmp 12), none⟩ [12] 0 [], .mk ⟨some 25, .fldA 0 (.tmp 24), none⟩ [24] 0 [], .mk ⟨none, .st 1 (.tmp 25) (.tmp 23), none⟩ [25, 23] 2 [], .mk ⟨some 26, .nilck (.tmp 13), none⟩ [13] 0 [], .mk ⟨some 27, .fldA 1 (.tmp 26), none⟩ [26] 0 [], .mk ⟨none, .st 1 (.tmp 27) (.const (.int .i64 0)), none⟩ [27] 2 []] []) .skip))) []
theorem xmfm_writer_place_ok : cFunc Try.prog Try.f77 [[0,1],[0,11],[]] = some xmfm_writer_place := by kernel_rfl
def xmfm_bits_l0 : XCode := .seq (.ops [⟨some 16, .bin .lss (.tmp 15) (.tmp 14), none⟩] [0, 5, 13, 14, 15, 16]) (.seq (.cond (.tmp 16) .skip (.exit 0)) (.seq (.block 1 (.seq (.ops [⟨some 17, .idxA 1 (.tmp 13) (.tmp 15), none⟩, ⟨some 18, .ld none (.tmp 17), none⟩, ⟨some 7, .mov (.tmp 18), none⟩] [0, 5, 7, 13, 14, 15]) (.ops [⟨some 19, .mov (.tmp 5), none⟩, ⟨some 20, .mov (.tmp 7), none⟩, ⟨some 21, .bin .add (.tmp 19) (.tmp 20), none⟩, ⟨some 5, .mov (.tmp 21), none⟩] [0, 5, 13, 14, 15]))) (.ops [⟨some 22, .bin .add (.tmp 15) (.const (.int .i64 1)), none⟩, ⟨some 15, .mov (.tmp 22), none⟩] [0, 5, 13, 14, 15])))
def xmfm_bits_l1 : XCode := .seq (.ops [⟨some 39, .bin .lss (.tmp 38) (.tmp 37), none⟩] [5, 8, 9, 10, 36, 37, 38, 39]) (.seq (.cond (.tmp 39) .skip (.exit 2)) (.seq (.block 3 (.seq (.ops [⟨some 40, .idxA 1 (.tmp 36) (.tmp 38), none⟩, ⟨some 41, .ld none (.tmp 40), none⟩, ⟨some 12, .mov (.tmp 41), none⟩] [5, 8, 9, 10, 12, 36, 37, 38]) (.seq (.ops [⟨some 42, .mov (.tmp 10), none⟩, ⟨some 43, .mov (.tmp 12), none⟩, ⟨some 44, .bin .add (.tmp 42) (.tmp 43), none⟩, ⟨some 10, .mov (.tmp 44), none⟩] [5, 8, 9, 10, 36, 37, 38]) (.seq (.ops [⟨some 45, .mov (.tmp 10), none⟩, ⟨some 46, .bin .rem (.tmp 45) (.const (.int .i64 2)), none⟩, ⟨some 47, .bin .eql (.tmp 46) (.const (.int .i64 0)), none⟩] [5, 8, 9, 10, 36, 37, 38, 47]) (.cond (.tmp 47) (.ops [⟨some 48, .mov (.tmp 8), none⟩, ⟨some 49, .mov (.tmp 10), none⟩, ⟨some 50, .bin .quo (.tmp 49) (.const (.int .i64 2)), none⟩, ⟨some 51, .bin .sub (.tmp 50) (.const (.int .i64 1)), none⟩, ⟨some 52, .idxA 1 (.tmp 48) (.tmp 51), none⟩, ⟨none, .st 1 (.tmp 52) (.const (.bool true)), none⟩] [5, 8, 9, 10, 36, 37, 38]) (.ops [⟨some 53, .mov (.tmp 9), none⟩, ⟨some 54, .mov (.tmp 10), none⟩, ⟨some 55, .bin .quo (.tmp 54) (.const (.int .i64 2)), none⟩, ⟨some 56, .idxA 1 (.tmp 53) (.tmp 55), none⟩, ⟨none, .st 1 (.tmp 56) (.const (.bool true)), none⟩] [5, 8, 9, 10, 36, 37, 38])))))) (.ops [⟨some 57, .bin .add (.tmp 38) (.const (.int .i64 1)), none⟩, ⟨some 38, .mov (.tmp 57), none⟩] [5, 8, 9, 10, 36, 37, 38])))
/-- bakelite/mfm.bits -/
def xmfm_bits : XFunc := .code (.seq (.ops [⟨some 2, .mov (.const (.slice none 0 0)), none⟩, ⟨some 3, .mov (.const (.slice none 0 0)), none⟩, ⟨some 4, .mov (.const (.int .i64 0)), none⟩] [0]) (.seq (.ops [⟨some 5, .mov (.const (.int .i64 0)), none⟩] [0, 5]) (.seq (.seq (.ops [⟨some 13, .mov (.tmp 0), none⟩, ⟨some 14, .len (.tmp 13), none⟩, ⟨some 15, .mov (.const (.int .i64 0)), none⟩] [0, 5, 13, 14, 15]) (.block 0 (.loop xmfm_bits_l0))) (.seq (.seq (.ops [⟨some 23, .mov (.tmp 5), none⟩, ⟨some 24, .bin .rem (.tmp 23) (.const (.int .i64 2)), none⟩, ⟨some 25, .bin .eql (.tmp 24) (.const (.int .i64 1)), none⟩, ⟨some 26, .mov (.tmp 25), none⟩, ⟨some 27, .mov (.tmp 5), some (26, false)⟩, ⟨some 28, .bin .lss (.tmp 27) (.const (.int .i64 2)), some (26, false)⟩, ⟨some 29, .pick (.tmp 26) (.const (.bool true)) (.tmp 28), none⟩] [0, 5, 29]) (.cond (.tmp 29) (.seq (.ops [⟨some 2, .mov (.const (.slice none 0 0)), none⟩, ⟨some 3, .mov (.const (.slice none 0 0)), none⟩, ⟨some 4, .mov (.const (.int .i64 3)), none⟩] [2, 3, 4]) .ret) .skip)) (.seq (.dops [.mk ⟨some 30, .mov (.tmp 5), none⟩ [5] 0 [], .mk ⟨some 31, .bin .quo (.tmp 30) (.const (.int .i64 2)), none⟩ [30] 0 [], .mk ⟨some 32, .mks 4 1 1 [.bool false] (.tmp 31) (.tmp 31), none⟩ [31, 31] 3 [], .mk ⟨some 33, .mov (.tmp 5), none⟩ [5] 0 [], .mk ⟨some 34, .bin .quo (.tmp 33) (.const (.int .i64 2)), none⟩ [33] 0 [], .mk ⟨some 35, .mks 4 1 1 [.bool false] (.tmp 34) (.tmp 34), none⟩ [34, 34] 3 [], .mk ⟨some 8, .mov (.tmp 32), none⟩ [32] 0 [], .mk ⟨some 9, .mov (.tmp 35), none⟩ [35] 0 []] [0, 5, 8, 9]) (.seq (.ops [⟨some 10, .mov (.const (.int .i64 0)), none⟩] [0, 5, 8, 9, 10]) (.seq (.seq (.ops [⟨some 36, .mov (.tmp 0), none⟩, ⟨some 37, .len (.tmp 36), none⟩, ⟨some 38, .mov (.const (.int .i64 0)), none⟩] [5, 8, 9, 10, 36, 37, 38]) (.block 2 (.loop xmfm_bits_l1))) (.seq (.seq (.ops [⟨some 58, .mov (.tmp 5), none⟩, ⟨some 59, .bin .quo (.tmp 58) (.const (.int .i64 2)), none⟩, ⟨some 60, .bin .sub (.tmp 59) (.const (.int .i64 1)), none⟩, ⟨some 61, .bin .rem (.tmp 60) (.const (.int .i64 8)), none⟩, ⟨some 62, .bin .neq (.tmp 61) (.const (.int .i64 0)), none⟩] [8, 9, 62]) (.cond (.tmp 62) (.seq (.ops [⟨some 2, .mov (.const (.slice none 0 0)), none⟩, ⟨some 3, .mov (.const (.slice none 0 0)), none⟩, ⟨some 4, .mov (.const (.int .i64 13)), none⟩] [2, 3, 4]) .ret) .skip)) (.seq (.ops [⟨some 63, .mov (.tmp 8), none⟩, ⟨some 64, .mov (.tmp 9), none⟩, ⟨some 2, .mov (.tmp 63), none⟩, ⟨some 3, .mov (.tmp 64), none⟩, ⟨some 4, .mov (.const (.int .i64 0)), none⟩] [2, 3, 4]) .ret))))))))) [.tmp 2, .tmp 3, .tmp 4]
theorem xmfm_bits_ok : cFunc Try.prog Try.f78 [[0],[0,5],[0,5,13,14,15],[0,5,13,14,15,16],[0,5,7,13,14,15],[0,5,13,14,15],[0,5,13,14,15],[0,5,29],[2,3,4],[0,5,8,9],[0,5,8,9,10],[5,8,9,10,36,37,38],[5,8,9,10,36,37,38,39],[5,8,9,10,12,36,37,38],[5,8,9,10,36,37,38],[5,8,9,10,36,37,38,47],[5,8,9,10,36,37,38],[5,8,9,10,36,37,38],[5,8,9,10,36,37,38],[8,9,62],[2,3,4],[2,3,4]] = some xmfm_bits := by kernel_rfl
def xsect_Check_l0 : XCode := .seq (.ops [⟨some 19, .bin .lss (.tmp 18) (.tmp 17), none⟩] [16, 17, 18, 19]) (.seq (.cond (.tmp 19) .skip (.exit 0)) (.seq (.block 1 (.seq (.ops [⟨some 20, .idxA 4 (.tmp 16) (.tmp 18), none⟩, ⟨some 21, .ld (some 4) (.tmp 20), none⟩, ⟨some 6, .new 87 1 [.int .i64 0, .int .i64 0, .slice none 0 0, .bool false], none⟩, ⟨none, .st 4 (.tmp 6) (.tmp 21), none⟩] [6, 16, 17, 18]) (.seq (.seq (.ops [⟨some 22, .fldA 0 (.tmp 6), none⟩, ⟨some 23, .ld none (.tmp 22), none⟩, ⟨some 24, .bin .lss (.tmp 23) (.const (.int .i64 0)), none⟩, ⟨some 25, .mov (.tmp 24), none⟩, ⟨some 26, .fldA 0 (.tmp 6), some (25, false)⟩, ⟨some 27, .ld none (.tmp 26), some (25, false)⟩, ⟨some 28, .bin .gtr (.tmp 27) (.const (.int .i64 255)), some (25, false)⟩, ⟨some 29, .pick (.tmp 25) (.const (.bool true)) (.tmp 28), none⟩, ⟨some 30, .mov (.tmp 29), none⟩, ⟨some 31, .fldA 1 (.tmp 6), some (30, false)⟩, ⟨some 32, .ld none (.tmp 31), some (30, false)⟩, ⟨some 33, .bin .lss (.tmp 32) (.const (.int .i64 0)), some (30, false)⟩, ⟨some 34, .pick (.tmp 30) (.const (.bool true)) (.tmp 33), none⟩, ⟨some 35, .mov (.tmp 34), none⟩, ⟨some 36, .fldA 1 (.tmp 6), some (35, false)⟩, ⟨some 37, .ld none (.tmp 36), some (35, false)⟩, ⟨some 38, .bin .gtr (.tmp 37) (.const (.int .i64 255)), some (35, false)⟩, ⟨some 39, .pick (.tmp 35) (.const (.bool true)) (.tmp 38), none⟩] [6, 16, 17, 18, 39]) (.cond (.tmp 39) (.seq (.ops [⟨some 4, .mov (.const (.int .i64 1)), none⟩] [4]) .ret) .skip)) (.seq (.ops [⟨some 40, .fldA 2 (.tmp 6), none⟩, ⟨some 41, .ld none (.tmp 40), none⟩, ⟨some 42, .len (.tmp 41), none⟩, ⟨some 43, .bin .neq (.tmp 42) (.const (.int .i64 128)), none⟩] [16, 17, 18, 43]) (.cond (.tmp 43) (.seq (.ops [⟨some 4, .mov (.const (.int .i64 3)), none⟩] [4]) .ret) .skip))))) (.ops [⟨some 44, .bin .add (.tmp 18) (.const (.int .i64 1)), none⟩, ⟨some 18, .mov (.tmp 44), none⟩] [16, 17, 18])))
/-- bakelite/sect.Check -/
def xsect_Check : XFunc := .code (.seq (.ops [⟨some 4, .mov (.const (.int .i64 0)), none⟩] [0, 1]) (.seq (.seq (.ops [⟨some 7, .mov (.tmp 0), none⟩, ⟨some 8, .bin .lss (.tmp 7) (.const (.int .i64 0)), none⟩, ⟨some 9, .mov (.tmp 8), none⟩, ⟨some 10, .mov (.tmp 0), some (9, false)⟩, ⟨some 11, .bin .geq (.tmp 10) (.const (.int .i64 20)), some (9, false)⟩, ⟨some 12, .pick (.tmp 9) (.const (.bool true)) (.tmp 11), none⟩] [1, 12]) (.cond (.tmp 12) (.seq (.ops [⟨some 4, .mov (.const (.int .i64 1)), none⟩] [4]) .ret) .skip)) (.seq (.seq (.ops [⟨some 13, .mov (.tmp 1), none⟩, ⟨some 14, .len (.tmp 13), none⟩, ⟨some 15, .bin .gtr (.tmp 14) (.const (.int .i64 12)), none⟩] [1, 15]) (.cond (.tmp 15) (.seq (.ops [⟨some 4, .mov (.const (.int .i64 2)), none⟩] [4]) .ret) .skip)) (.seq (.seq (.ops [⟨some 16, .mov (.tmp 1), none⟩, ⟨some 17, .len (.tmp 16), none⟩, ⟨some 18, .mov (.const (.int .i64 0)), none⟩] [16, 17, 18]) (.block 0 (.loop xsect_Check_l0))) (.seq (.ops [⟨some 4, .mov (.const (.int .i64 0)), none⟩] [4]) .ret))))) [.tmp 4]
theorem xsect_Check_ok : cFunc Try.prog Try.f90 [[0,1],[1,12],[4],[1,15],[4],[16,17,18],[16,17,18,19],[6,16,17,18],[6,16,17,18,39],[4],[16,17,18,43],[4],[16,17,18],[4]] = some xsect_Check := by kernel_rfl
def xsect_gap_l0 : XCode := .seq (.ops [⟨some 7, .bin .lss (.tmp 6) (.tmp 5), none⟩] [1, 5, 6, 7]) (.seq (.cond (.tmp 7) .skip (.exit 0)) (.seq (.block 1 (.seq (.ops [⟨some 8, .mov (.tmp 6), none⟩, ⟨some 2, .mov (.tmp 8), none⟩] [1, 2, 5, 6]) (.ops [⟨some 9, .mov (.tmp 1), none⟩, ⟨some 10, .mov (.tmp 2), none⟩, ⟨some 11, .idxA 1 (.tmp 9) (.tmp 10), none⟩, ⟨none, .st 1 (.tmp 11) (.const (.int .u8 78)), none⟩] [1, 5, 6]))) (.ops [⟨some 12, .bin .add (.tmp 6) (.const (.int .i64 1)), none⟩, ⟨some 6, .mov (.tmp 12), none⟩] [1, 5, 6])))
/-- bakelite/sect.gap -/
def xsect_gap : XFunc := .code (.seq (.ops [⟨some 0, .mov (.const (.slice none 0 0)), none⟩] []) (.seq (.ops [⟨some 3, .mks 5 1 1 [.int .u8 0] (.const (.int .i64 8)) (.const (.int .i64 8)), none⟩, ⟨some 1, .mov (.tmp 3), none⟩] [1]) (.seq (.seq (.ops [⟨some 4, .mov (.tmp 1), none⟩, ⟨some 5, .len (.tmp 4), none⟩, ⟨some 6, .mov (.const (.int .i64 0)), none⟩] [1, 5, 6]) (.block 0 (.loop xsect_gap_l0))) (.seq (.ops [⟨some 13, .mov (.tmp 1), none⟩, ⟨some 0, .mov (.tmp 13), none⟩] [0]) .ret)))) [.tmp 0]
theorem xsect_gap_ok : cFunc Try.prog Try.f91 [[],[1],[1,5,6],[1,5,6,7],[1,2,5,6],[1,5,6],[1,5,6],[0]] = some xsect_gap := by kernel_rfl
/-- bakelite/crc.Seal -/
def xcrc_Seal : XFunc := .code (.seq (.ops [⟨some 2, .mov (.const (.slice none 0 0)), none⟩] [0]) (.seq (.ops [⟨some 4, .mov (.tmp 0), none⟩, ⟨some 5, .call 127 [.tmp 4], none⟩, ⟨some 3, .mov (.tmp 5), none⟩] [0, 3]) (.seq (.ops [⟨some 6, .bslice 5 1 0 [.int .u8 0] [], none⟩, ⟨some 7, .mov (.tmp 0), none⟩, ⟨some 8, .app 5 1 1 [.int .u8 0] (.tmp 6) (.tmp 7), none⟩, ⟨some 9, .mov (.tmp 3), none⟩, ⟨some 10, .bin .shr (.tmp 9) (.const (.int .u64 8)), none⟩, ⟨some 11, .conv .u8 (.tmp 10), none⟩, ⟨some 12, .mov (.tmp 3), none⟩, ⟨some 13, .conv .u8 (.tmp 12), none⟩, ⟨some 14, .bslice 5 1 2 [.int .u8 0] [(0, .tmp 11), (1, .tmp 13)], none⟩, ⟨some 15, .app 5 1 1 [.int .u8 0] (.tmp 8) (.tmp 14), none⟩, ⟨some 2, .mov (.tmp 15), none⟩] [2]) .ret))) [.tmp 2]
theorem xcrc_Seal_ok : cFunc Try.prog Try.f92 [[0],[0,3],[2]] = some xcrc_Seal := by kernel_rfl
/-- bakelite/crc.Open -/
def xcrc_Open : XFunc := .code (.seq (.ops [⟨some 2, .mov (.const (.slice none 0 0)), none⟩, ⟨some 3, .mov (.const (.bool false)), none⟩] [0]) (.seq (.seq (.ops [⟨some 4, .mov (.tmp 0), none⟩, ⟨some 5, .len (.tmp 4), none⟩, ⟨some 6, .bin .lss (.tmp 5) (.const (.int .i64 2)), none⟩, ⟨some 7, .mov (.tmp 6), none⟩, ⟨some 8, .mov (.tmp 0), some (7, false)⟩, ⟨some 9, .call 127 [.tmp 8], some (7, false)⟩, ⟨some 10, .bin .neq (.tmp 9) (.const (.int .i64 0)), some (7, false)⟩, ⟨some 11, .pick (.tmp 7) (.const (.bool true)) (.tmp 10), none⟩] [0, 11]) (.cond (.tmp 11) (.seq (.ops [⟨some 2, .mov (.const (.slice none 0 0)), none⟩, ⟨some 3, .mov (.const (.bool false)), none⟩] [2, 3]) .ret) .skip)) (.seq (.ops [⟨some 12, .bslice 5 1 0 [.int .u8 0] [], none⟩, ⟨some 13, .mov (.tmp 0), none⟩, ⟨some 14, .mov (.tmp 0), none⟩, ⟨some 15, .len (.tmp 14), none⟩, ⟨some 16, .bin .sub (.tmp 15) (.const (.int .i64 2)), none⟩, ⟨some 17, .slc 1 (.tmp 13) none (some (.tmp 16)) none, none⟩, ⟨some 18, .app 5 1 1 [.int .u8 0] (.tmp 12) (.tmp 17), none⟩, ⟨some 2, .mov (.tmp 18), none⟩, ⟨some 3, .mov (.const (.bool true)), none⟩] [2, 3]) .ret))) [.tmp 2, .tmp 3]
theorem xcrc_Open_ok : cFunc Try.prog Try.f93 [[0],[0,11],[2,3],[2,3]] = some xcrc_Open := by kernel_rfl
def ximage_track_l0 : XCode := .seq (.ops [⟨some 16, .bin .lss (.tmp 15) (.tmp 14), none⟩] [0, 2, 8, 13, 14, 15, 16]) (.seq (.cond (.tmp 16) .skip (.exit 0)) (.seq (.block 1 (.seq (.ops [⟨some 17, .idxA 4 (.tmp 13) (.tmp 15), none⟩, ⟨some 18, .ld (some 4) (.tmp 17), none⟩, ⟨some 10, .new 87 1 [.int .i64 0, .int .i64 0, .slice none 0 0, .bool false], none⟩, ⟨none, .st 4 (.tmp 10) (.tmp 18), none⟩] [0, 2, 8, 10, 13, 14, 15]) (.seq (.block 2 (.seq (.ops [⟨some 20, .fldA 0 (.tmp 10), none⟩, ⟨some 21, .ld none (.tmp 20), none⟩, ⟨some 22, .mov (.tmp 0), none⟩, ⟨some 23, .bin .neq (.tmp 21) (.tmp 22), none⟩, ⟨some 24, .mov (.tmp 23), none⟩, ⟨some 25, .fldA 1 (.tmp 10), some (24, false)⟩, ⟨some 26, .ld none (.tmp 25), some (24, false)⟩, ⟨some 27, .mov (.tmp 2), some (24, false)⟩, ⟨some 28, .bin .geq (.tmp 26) (.tmp 27), some (24, false)⟩, ⟨some 29, .pick (.tmp 24) (.const (.bool true)) (.tmp 28), none⟩, ⟨some 19, .mov (.tmp 29), none⟩] [0, 2, 8, 10, 13, 14, 15, 19]) (.cond (.tmp 19) (.seq (.ops [⟨some 6, .mov (.const (.slice none 0 0)), none⟩, ⟨some 7, .mov (.const (.int .i64 3)), none⟩] [6, 7]) .ret) (.seq (.ops [⟨some 31, .fldA 3 (.tmp 10), none⟩, ⟨some 32, .ld none (.tmp 31), none⟩, ⟨some 30, .mov (.tmp 32), none⟩] [0, 2, 8, 10, 13, 14, 15, 30]) (.cond (.tmp 30) (.seq (.ops [⟨some 6, .mov (.const (.slice none 0 0)), none⟩, ⟨some 7, .mov (.const (.int .i64 12)), none⟩] [6, 7]) .ret) (.seq (.ops [⟨some 34, .mov (.tmp 8), none⟩, ⟨some 35, .fldA 1 (.tmp 10), none⟩, ⟨some 36, .ld none (.tmp 35), none⟩, ⟨some 37, .idxA 1 (.tmp 34) (.tmp 36), none⟩, ⟨some 38, .ld none (.tmp 37), none⟩, ⟨some 39, .isnil true (.slice none 0 0) (.tmp 38), none⟩, ⟨some 33, .mov (.tmp 39), none⟩] [0, 2, 8, 10, 13, 14, 15, 33]) (.cond (.tmp 33) (.seq (.ops [⟨some 6, .mov (.const (.slice none 0 0)), none⟩, ⟨some 7, .mov (.const (.int .i64 5)), none⟩] [6, 7]) .ret) .skip))))))) (.ops [⟨some 40, .mov (.tmp 8), none⟩, ⟨some 41, .fldA 1 (.tmp 10), none⟩, ⟨some 42, .ld none (.tmp 41), none⟩, ⟨some 43, .fldA 2 (.tmp 10), none⟩, ⟨some 44, .ld none (.tmp 43), none⟩, ⟨some 45, .idxA 1 (.tmp 40) (.tmp 42), none⟩, ⟨none, .st 1 (.tmp 45) (.tmp 44), none⟩] [0, 2, 8, 13, 14, 15])))) (.ops [⟨some 46, .bin .add (.tmp 15) (.const (.int .i64 1)), none⟩, ⟨some 15, .mov (.tmp 46), none⟩] [0, 2, 8, 13, 14, 15])))
/-- bakelite/image.track -/
def ximage_track : XFunc := .code (.seq (.ops [⟨some 6, .mov (.const (.slice none 0 0)), none⟩, ⟨some 7, .mov (.const (.int .i64 0)), none⟩] [0, 1, 2]) (.seq (.ops [⟨some 11, .mov (.tmp 2), none⟩, ⟨some 12, .mks 23 1 24 [.slice none 0 0] (.tmp 11) (.tmp 11), none⟩, ⟨some 8, .mov (.tmp 12), none⟩] [0, 1, 2, 8]) (.seq (.seq (.ops [⟨some 13, .mov (.tmp 1), none⟩, ⟨some 14, .len (.tmp 13), none⟩, ⟨some 15, .mov (.const (.int .i64 0)), none⟩] [0, 2, 8, 13, 14, 15]) (.block 0 (.loop ximage_track_l0))) (.seq (.ops [⟨some 47, .mov (.tmp 8), none⟩, ⟨some 6, .mov (.tmp 47), none⟩, ⟨some 7, .mov (.const (.int .i64 0)), none⟩] [6, 7]) .ret)))) [.tmp 6, .tmp 7]
theorem ximage_track_ok : cFunc Try.prog Try.f111 [[0,1,2],[0,1,2,8],[0,2,8,13,14,15],[0,2,8,13,14,15,16],[0,2,8,10,13,14,15],[0,2,8,10,13,14,15,19],[6,7],[0,2,8,10,13,14,15,30],[6,7],[0,2,8,10,13,14,15,33],[6,7],[0,2,8,13,14,15],[0,2,8,13,14,15],[6,7]] = some ximage_track := by kernel_rfl
def xslices_EqualFunc_SSbyte_SSbyte_Sbyte_Sbyte_l0 : XCode := .seq (.ops [⟨some 18, .bin .lss (.tmp 17) (.tmp 16), none⟩] [1, 2, 15, 16, 17, 18]) (.seq (.cond (.tmp 18) .skip (.exit 0)) (.seq (.block 1 (.seq (.ops [⟨some 19, .mov (.tmp 17), none⟩, ⟨some 20, .idxA 1 (.tmp 15) (.tmp 17), none⟩, ⟨some 21, .ld none (.tmp 20), none⟩, ⟨some 7, .mov (.tmp 19), none⟩, ⟨some 8, .mov (.tmp 21), none⟩] [1, 2, 7, 8, 15, 16, 17]) (.seq (.ops [⟨some 22, .mov (.tmp 1), none⟩, ⟨some 23, .mov (.tmp 7), none⟩, ⟨some 24, .idxA 1 (.tmp 22) (.tmp 23), none⟩, ⟨some 25, .ld none (.tmp 24), none⟩, ⟨some 9, .mov (.tmp 25), none⟩] [1, 2, 8, 9, 15, 16, 17]) (.seq (.ops [⟨some 26, .mov (.tmp 2), none⟩, ⟨some 27, .mov (.tmp 8), none⟩, ⟨some 28, .mov (.tmp 9), none⟩, ⟨some 29, .callv (.tmp 26) [.tmp 27, .tmp 28], none⟩, ⟨some 30, .flat (.unOp .not 4 (.tmp 29)) 4, none⟩] [1, 2, 15, 16, 17, 30]) (.cond (.tmp 30) (.seq (.ops [⟨some 6, .mov (.const (.bool false)), none⟩] [6]) .ret) .skip))))) (.ops [⟨some 31, .bin .add (.tmp 17) (.const (.int .i64 1)), none⟩, ⟨some 17, .mov (.tmp 31), none⟩] [1, 2, 15, 16, 17])))
/-- slices.EqualFunc[[][]byte,[][]byte,[]byte,[]byte] -/
def xslices_EqualFunc_SSbyte_SSbyte_Sbyte_Sbyte : XFunc := .code (.seq (.ops [⟨some 6, .mov (.const (.bool false)), none⟩] [0, 1, 2]) (.seq (.seq (.ops [⟨some 10, .mov (.tmp 0), none⟩, ⟨some 11, .len (.tmp 10), none⟩, ⟨some 12, .mov (.tmp 1), none⟩, ⟨some 13, .len (.tmp 12), none⟩, ⟨some 14, .bin .neq (.tmp 11) (.tmp 13), none⟩] [0, 1, 2, 14]) (.cond (.tmp 14) (.seq (.ops [⟨some 6, .mov (.const (.bool false)), none⟩] [6]) .ret) .skip)) (.seq (.seq (.ops [⟨some 15, .mov (.tmp 0), none⟩, ⟨some 16, .len (.tmp 15), none⟩, ⟨some 17, .mov (.const (.int .i64 0)), none⟩] [1, 2, 15, 16, 17]) (.block 0 (.loop xslices_EqualFunc_SSbyte_SSbyte_Sbyte_Sbyte_l0))) (.seq (.ops [⟨some 6, .mov (.const (.bool true)), none⟩] [6]) .ret)))) [.tmp 6]
theorem xslices_EqualFunc_SSbyte_SSbyte_Sbyte_Sbyte_ok : cFunc Try.prog Try.f112 [[0,1,2],[0,1,2,14],[6],[1,2,15,16,17],[1,2,15,16,17,18],[1,2,7,8,15,16,17],[1,2,8,9,15,16,17],[1,2,15,16,17,30],[6],[1,2,15,16,17],[6]] = some xslices_EqualFunc_SSbyte_SSbyte_Sbyte_Sbyte := by kernel_rfl
/-- bakelite/image.Same$1 -/
def ximage_Same_1 : XFunc := .code (.seq (.ops [⟨some 4, .mov (.const (.bool false)), none⟩] [0, 1]) (.seq (.ops [⟨some 5, .mov (.tmp 0), none⟩, ⟨some 6, .mov (.tmp 1), none⟩, ⟨some 7, .call 18 [.tmp 5, .tmp 6], none⟩, ⟨some 4, .mov (.tmp 7), none⟩] [4]) .ret)) [.tmp 4]
theorem ximage_Same_1_ok : cFunc Try.prog Try.f113 [[0,1],[4]] = some ximage_Same_1 := by kernel_rfl
def xcrc_Sum16_l0 : XCode := .seq (.ops [⟨some 9, .bin .lss (.tmp 8) (.tmp 7), none⟩] [3, 6, 7, 8, 9]) (.seq (.cond (.tmp 9) .skip (.exit 0)) (.seq (.block 1 (.seq (.ops [⟨some 10, .idxA 1 (.tmp 6) (.tmp 8), none⟩, ⟨some 11, .ld none (.tmp 10), none⟩, ⟨some 5, .mov (.tmp 11), none⟩] [3, 5, 6, 7, 8]) (.ops [⟨some 12, .mov (.tmp 3), none⟩, ⟨some 13, .mov (.tmp 5), none⟩, ⟨some 14, .call 140 [.tmp 12, .tmp 13], none⟩, ⟨some 3, .mov (.tmp 14), none⟩] [3, 6, 7, 8]))) (.ops [⟨some 15, .bin .add (.tmp 8) (.const (.int .i64 1)), none⟩, ⟨some 8, .mov (.tmp 15), none⟩] [3, 6, 7, 8])))
/-- bakelite/crc.Sum16 -/
def xcrc_Sum16 : XFunc := .code (.seq (.ops [⟨some 2, .mov (.const (.int .i64 0)), none⟩] [0]) (.seq (.ops [⟨some 3, .mov (.const (.int .i64 65535)), none⟩] [0, 3]) (.seq (.seq (.ops [⟨some 6, .mov (.tmp 0), none⟩, ⟨some 7, .len (.tmp 6), none⟩, ⟨some 8, .mov (.const (.int .i64 0)), none⟩] [3, 6, 7, 8]) (.block 0 (.loop xcrc_Sum16_l0))) (.seq (.ops [⟨some 16, .mov (.tmp 3), none⟩, ⟨some 2, .mov (.tmp 16), none⟩] [2]) .ret)))) [.tmp 2]
theorem xcrc_Sum16_ok : cFunc Try.prog Try.f127 [[0],[0,3],[3,6,7,8],[3,6,7,8,9],[3,5,6,7,8],[3,6,7,8],[3,6,7,8],[2]] = some xcrc_Sum16 := by kernel_rfl
def xcrc_Next_l0 : XCode := .seq (.ops [⟨some 12, .bin .lss (.tmp 11) (.const (.int .i64 8)), none⟩] [0, 11, 12]) (.seq (.cond (.tmp 12) .skip (.exit 0)) (.seq (.block 1 (.seq (.ops [⟨some 13, .mov (.tmp 0), none⟩, ⟨some 14, .bin .shl (.tmp 13) (.const (.int .u64 1)), none⟩, ⟨some 0, .mov (.tmp 14), none⟩] [0, 11]) (.seq (.ops [⟨some 15, .mov (.tmp 0), none⟩, ⟨some 16, .bin .gtr (.tmp 15) (.const (.int .i64 65535)), none⟩] [0, 11, 16]) (.cond (.tmp 16) (.ops [⟨some 17, .mov (.tmp 0), none⟩, ⟨some 18, .bin .xor (.tmp 17) (.const (.int .i64 69665)), none⟩, ⟨some 0, .mov (.tmp 18), none⟩] [0, 11]) .skip)))) (.ops [⟨some 19, .bin .add (.tmp 11) (.const (.int .i64 1)), none⟩, ⟨some 11, .mov (.tmp 19), none⟩] [0, 11])))
/-- bakelite/crc.Next -/
def xcrc_Next : XFunc := .code (.seq (.ops [⟨some 4, .mov (.const (.int .i64 0)), none⟩] [0, 1]) (.seq (.ops [⟨some 5, .mov (.tmp 0), none⟩, ⟨some 6, .bin .and (.tmp 5) (.const (.int .i64 65535)), none⟩, ⟨some 7, .mov (.tmp 1), none⟩, ⟨some 8, .conv .i64 (.tmp 7), none⟩, ⟨some 9, .bin .shl (.tmp 8) (.const (.int .u64 8)), none⟩, ⟨some 10, .bin .xor (.tmp 6) (.tmp 9), none⟩, ⟨some 0, .mov (.tmp 10), none⟩] [0]) (.seq (.seq (.ops [⟨some 11, .mov (.const (.int .i64 0)), none⟩] [0, 11]) (.block 0 (.loop xcrc_Next_l0))) (.seq (.ops [⟨some 20, .mov (.tmp 0), none⟩, ⟨some 4, .mov (.tmp 20), none⟩] [4]) .ret)))) [.tmp 4]
theorem xcrc_Next_ok : cFunc Try.prog Try.f140 [[0,1],[0],[0,11],[0,11,12],[0,11],[0,11,16],[0,11],[0,11],[4]] = some xcrc_Next := by kernel_rfl
def tab : XTab := fun n => (bif Nat.blt n 65 then (bif Nat.blt n 55 then (bif Nat.blt n 29 then (bif Nat.blt n 14 then (bif Nat.beq n 12 then some xbakekeep2_ImageBack else none) else (bif Nat.blt n 18 then (bif Nat.beq n 14 then some xbakemake_Below else none) else (bif Nat.beq n 18 then some xslices_Equal_Sbyte_byte else none))) else (bif Nat.blt n 43 then (bif Nat.blt n 30 then (bif Nat.beq n 29 then some xmfm_WriteParts else none) else (bif Nat.beq n 30 then some xmfm_ReadParts else none)) else (bif Nat.blt n 44 then (bif Nat.beq n 43 then some xsect_Format else none) else (bif Nat.beq n 44 then some xsect_Scan else none)))) else (bif Nat.blt n 58 then (bif Nat.blt n 56 then (bif Nat.beq n 55 then some xbakemake_Disk else none) else (bif Nat.blt n 57 then (bif Nat.beq n 56 then some ximage_Tracks else none) else (bif Nat.beq n 57 then some ximage_Back else none))) else (bif Nat.blt n 62 then (bif Nat.blt n 59 then (bif Nat.beq n 58 then some ximage_Check else none) else (bif Nat.beq n 59 then some ximage_Same else none)) else (bif Nat.blt n 63 then (bif Nat.beq n 62 then some xflux_Pulses else none) else (bif Nat.beq n 63 then some xflux_Cells else none))))) else (bif Nat.blt n 91 then (bif Nat.blt n 76 then (bif Nat.blt n 67 then (bif Nat.beq n 65 then some xflux_Check else none) else (bif Nat.blt n 75 then (bif Nat.beq n 67 then some xbakemake_Stream_Next else none) else (bif Nat.beq n 75 then some xmfm_size else none))) else (bif Nat.blt n 78 then (bif Nat.blt n 77 then (bif Nat.beq n 76 then some xmfm_writer_put else none) else (bif Nat.beq n 77 then some xmfm_writer_place else none)) else (bif Nat.blt n 90 then (bif Nat.beq n 78 then some xmfm_bits else none) else (bif Nat.beq n 90 then some xsect_Check else none)))) else (bif Nat.blt n 112 then (bif Nat.blt n 93 then (bif Nat.blt n 92 then (bif Nat.beq n 91 then some xsect_gap else none) else (bif Nat.beq n 92 then some xcrc_Seal else none)) else (bif Nat.blt n 111 then (bif Nat.beq n 93 then some xcrc_Open else none) else (bif Nat.beq n 111 then some ximage_track else none))) else (bif Nat.blt n 127 then (bif Nat.blt n 113 then (bif Nat.beq n 112 then some xslices_EqualFunc_SSbyte_SSbyte_Sbyte_Sbyte else none) else (bif Nat.beq n 113 then some ximage_Same_1 else none)) else (bif Nat.blt n 140 then (bif Nat.beq n 127 then some xcrc_Sum16 else none) else (bif Nat.beq n 140 then some xcrc_Next else none))))))
theorem tab_ok : ∀ n x, tab n = some x → FMatch Try.prog n x := by
  intro n x h
  unfold tab at h
  rcases two_ok h with h | h
  · rcases two_ok h with h | h
    · rcases two_ok h with h | h
      · rcases two_ok h with h | h
        · exact one_ok (f := n) (x := x) h (fun h2 h3 => by subst h2 h3; exact ⟨Try.f12, [[0,1],[1,5],[1,5],[1,5,6,7],[5,6,7,8,9],[4]], Try.func12, xbakekeep2_ImageBack_ok⟩)
        · rcases two_ok h with h | h
          · exact one_ok (f := n) (x := x) h (fun h2 h3 => by subst h2 h3; exact ⟨Try.f14, [[0,1],[0,1],[0,1,9],[0],[4]], Try.func14, xbakemake_Below_ok⟩)
          · exact one_ok (f := n) (x := x) h (fun h2 h3 => by subst h2 h3; exact ⟨Try.f18, [[0,1],[0,1,10],[4],[0,1,12,13],[0,1,12,13,14],[0,1,5,12,13],[0,1,12,13,24],[4],[0,1,12,13],[4]], Try.func18, xslices_Equal_Sbyte_byte_ok⟩)
      · rcases two_ok h with h | h
        · rcases two_ok h with h | h
          · exact one_ok (f := n) (x := x) h (fun h2 h3 => by subst h2 h3; exact ⟨Try.f29, [[0,1],[0,1,13],[4,5],[0,1,6],[1,6,16,17,18],[1,6,16,17,18,19],[1,6,8,16,17,18],[1,6,8,16,17,18,23],[1,6,8,16,17,18],[1,6,16,17,18,27,28,29],[1,6,16,17,18,27,28,29,30],[1,6,10,16,17,18,27,28,29],[1,6,16,17,18,27,28,29],[1,6,16,17,18,27,28,29],[1,6,16,17,18],[1,6],[1,6],[4,5]], Try.func29, xmfm_WriteParts_ok⟩)
          · exact one_ok (f := n) (x := x) h (fun h2 h3 => by subst h2 h3; exact ⟨Try.f30, [[0,1],[6,7],[6,7,25],[4,5],[7,8,9],[7,8,9,34],[4,5],[8,9,10],[8,9,10,11],[8,9,10,11,12],[8,9,10,11,12,40],[8,9,10,11,12,13],[8,9,10,11,12,13,14],[8,9,10,11,12,13,14,65],[8,9,10,11,12,13,14,65,66],[8,9,10,11,12,13,14,15,65],[8,9,10,11,12,13,14,15,16,65],[8,9,10,12,13,14,16,65,94],[4,5],[8,9,10,11,12,13,14,16,65],[8,9,10,11,12,13,14,65,98],[8,9,10,11,12,13,14,65],[8,9,10,11,12,13,14,65],[8,9,10,11,12,13,14,118],[4,5],[8,9,10,11,12,13,124],[8,9,10,11,12],[8,9,10,11,12,13,130],[8,9,10,11,12],[8,9,10,11,12,13,17],[8,9,10,11,12],[8,9,10,11,12],[10,146],[4,5],[10,149],[4,5],[4,5]], Try.func30, xmfm_ReadParts_ok⟩)
        · rcases two_ok h with h | h
          · exact one_ok (f := n) (x := x) h (fun h2 h3 => by subst h2 h3; exact ⟨Try.f43, [[0,1,2],[1,2,8],[1,2,8,18],[6,7],[1,2,9],[2,9,23,24,25],[2,9,23,24,25,26],[2,9,11,23,24,25],[2,9,11,12,23,24,25],[2,9,11,12,13,23,24,25],[2,9,12,13,23,24,25,43],[2,9,12,13,23,24,25],[2,9,23,24,25],[2,9,23,24,25],[6,7]], Try.func43, xsect_Format_ok⟩)
          · exact one_ok (f := n) (x := x) h (fun h2 h3 => by subst h2 h3; exact ⟨Try.f44, [[0,1],[6,7],[6,7,23],[4,5],[6,8],[6,8,9],[6,8,9,10],[8,9,10,25,26,27],[8,9,10,25,26,27,28],[8,9,10,12,25,26,27],[8,9,10,12,13,25,26,27],[8,9,10,13,25,26,27,33],[8,9,10,25,26,27],[8,9,10,13,25,26,27,42],[8,9,10,13,25,26,27],[8,9,10,25,26,27],[8,10,13,25,26,27,67],[8,10,13,15,25,26,27],[8,9,10,25,26,27],[8,9,10,25,26,27],[8,9,10,25,26,27],[8,9,10,25,26,27],[8,101],[4,5],[4,5]], Try.func44, xsect_Scan_ok⟩)
    · rcases two_ok h with h | h
      · rcases two_ok h with h | h
        · exact one_ok (f := n) (x := x) h (fun h2 h3 => by subst h2 h3; exact ⟨Try.f55, [[0,2],[2,3],[2,3,4],[2,3,4,23,24],[2,3,4,23,24,25],[2,3,4,5,6,23,24],[2,3,4,5,6,7,23,24],[2,3,4,5,6,7,23,24,32,33],[2,3,4,5,6,7,23,24,32,33,34],[2,3,4,5,6,7,8,23,24,32,33],[2,3,4,5,6,7,23,24,32,33],[2,3,4,5,6,7,23,24,32,33],[2,3,4,23,24],[2,3,4,23,24],[2]], Try.func55, xbakemake_Disk_ok⟩)
        · rcases two_ok h with h | h
          · exact one_ok (f := n) (x := x) h (fun h2 h3 => by subst h2 h3; exact ⟨Try.f56, [[1,2],[1,2,6],[1,2,6,16],[4,5],[1,2,7],[1,2,7,19,20],[1,2,7,19,20,21],[1,2,7,8,19,20],[1,2,7,8,9,19,20],[1,2,7,8,9,19,20,24,25],[1,2,7,8,9,19,20,24,25,26],[1,2,7,8,9,10,19,20,24,25],[1,2,7,8,9,19,20,24,25],[1,2,7,8,9,19,20,24,25],[1,2,7,11,12,19,20],[1,2,7,11,12,19,20,53],[4,5],[1,2,7,19,20],[1,2,7,19,20],[4,5]], Try.func56, ximage_Tracks_ok⟩)
          · exact one_ok (f := n) (x := x) h (fun h2 h3 => by subst h2 h3; exact ⟨Try.f57, [[0,1,4],[0,1,4,14],[4,5],[0,1,4,18],[4,5],[0,1,4,6],[1,4,6,23,24,25],[1,4,6,23,24,25,26],[1,4,6,7,8,23,24,25],[1,4,6,7,9,10,23,24,25],[1,4,6,7,9,10,23,24,25,37],[4,5],[1,4,6,7,9,23,24,25,41],[1,4,6,7,9,23,24,25],[1,4,6,7,9,23,24,25,54],[4,5],[1,4,6,10,11,23,24,25],[1,4,6,10,11,23,24,25,65],[4,5],[1,4,6,23,24,25],[1,4,6,23,24,25],[4,5]], Try.func57, ximage_Back_ok⟩)
      · rcases two_ok h with h | h
        · rcases two_ok h with h | h
          · exact one_ok (f := n) (x := x) h (fun h2 h3 => by subst h2 h3; exact ⟨Try.f58, [[1],[1,22],[2],[1,31],[2],[33,34,35],[33,34,35,36],[4,33,34,35],[33,34,35,41],[2],[33,34,35],[2]], Try.func58, ximage_Check_ok⟩)
          · exact one_ok (f := n) (x := x) h (fun h2 h3 => by subst h2 h3; exact ⟨Try.f59, [[2,3],[4]], Try.func59, ximage_Same_ok⟩)
        · rcases two_ok h with h | h
          · exact one_ok (f := n) (x := x) h (fun h2 h3 => by subst h2 h3; exact ⟨Try.f62, [[0,1],[0,1,14],[4,5],[0,1,17],[4,5],[0,1,6],[1,6,18,19,20],[1,6,18,19,20,21],[1,6,8,18,19,20],[1,6,8,18,19,20,29],[4,5],[1,6,18,19,20],[1,6,18,19,20],[4,5]], Try.func62, xflux_Pulses_ok⟩)
          · exact one_ok (f := n) (x := x) h (fun h2 h3 => by subst h2 h3; exact ⟨Try.f63, [[0,1,2],[0,1,2,8],[0,1,2,8,16],[6,7],[0,1,2,23],[6,7],[0,1,2,9],[1,2,9,24,25,26],[1,2,9,24,25,26,27],[1,2,9,11,24,25,26],[1,2,9,12,24,25,26],[1,2,9,12,24,25,26,43],[6,7],[1,2,9,24,25,26],[1,2,9,24,25,26],[6,7]], Try.func63, xflux_Cells_ok⟩)
  · rcases two_ok h with h | h
    · rcases two_ok h with h | h
      · rcases two_ok h with h | h
        · exact one_ok (f := n) (x := x) h (fun h2 h3 => by subst h2 h3; exact ⟨Try.f65, [[0],[0,7],[2],[8,9,10],[8,9,10,11],[4,8,9,10],[8,9,10,19],[2],[8,9,10],[2]], Try.func65, xflux_Check_ok⟩)
        · rcases two_ok h with h | h
          · exact one_ok (f := n) (x := x) h (fun h2 h3 => by subst h2 h3; exact ⟨Try.f67, [[0,1],[0,1,15],[4],[0,1,5],[1,5],[4]], Try.func67, xbakemake_Stream_Next_ok⟩)
          · exact one_ok (f := n) (x := x) h (fun h2 h3 => by subst h2 h3; exact ⟨Try.f75, [[0],[0,3],[3,6,7,8],[3,6,7,8,9],[3,5,6,7,8],[3,5,6,7,8],[3,6,7,8,18],[3,6,7,8],[3,6,7,8,22],[2],[3,6,7,8],[2]], Try.func75, xmfm_size_ok⟩)
      · rcases two_ok h with h | h
        · rcases two_ok h with h | h
          · exact one_ok (f := n) (x := x) h (fun h2 h3 => by subst h2 h3; exact ⟨Try.f76, [[0,1,2,8],[0,1,2,8,9],[0,1,2,6,8],[0,1,2,6,7,8],[0,1,2,7,8],[0,1,2,7,8],[0,1,2,8],[0,1,2,8]], Try.func76, xmfm_writer_put_ok⟩)
          · exact one_ok (f := n) (x := x) h (fun h2 h3 => by subst h2 h3; exact ⟨Try.f77, [[0,1],[0,11],[]], Try.func77, xmfm_writer_place_ok⟩)
        · rcases two_ok h with h | h
          · exact one_ok (f := n) (x := x) h (fun h2 h3 => by subst h2 h3; exact ⟨Try.f78, [[0],[0,5],[0,5,13,14,15],[0,5,13,14,15,16],[0,5,7,13,14,15],[0,5,13,14,15],[0,5,13,14,15],[0,5,29],[2,3,4],[0,5,8,9],[0,5,8,9,10],[5,8,9,10,36,37,38],[5,8,9,10,36,37,38,39],[5,8,9,10,12,36,37,38],[5,8,9,10,36,37,38],[5,8,9,10,36,37,38,47],[5,8,9,10,36,37,38],[5,8,9,10,36,37,38],[5,8,9,10,36,37,38],[8,9,62],[2,3,4],[2,3,4]], Try.func78, xmfm_bits_ok⟩)
          · exact one_ok (f := n) (x := x) h (fun h2 h3 => by subst h2 h3; exact ⟨Try.f90, [[0,1],[1,12],[4],[1,15],[4],[16,17,18],[16,17,18,19],[6,16,17,18],[6,16,17,18,39],[4],[16,17,18,43],[4],[16,17,18],[4]], Try.func90, xsect_Check_ok⟩)
    · rcases two_ok h with h | h
      · rcases two_ok h with h | h
        · rcases two_ok h with h | h
          · exact one_ok (f := n) (x := x) h (fun h2 h3 => by subst h2 h3; exact ⟨Try.f91, [[],[1],[1,5,6],[1,5,6,7],[1,2,5,6],[1,5,6],[1,5,6],[0]], Try.func91, xsect_gap_ok⟩)
          · exact one_ok (f := n) (x := x) h (fun h2 h3 => by subst h2 h3; exact ⟨Try.f92, [[0],[0,3],[2]], Try.func92, xcrc_Seal_ok⟩)
        · rcases two_ok h with h | h
          · exact one_ok (f := n) (x := x) h (fun h2 h3 => by subst h2 h3; exact ⟨Try.f93, [[0],[0,11],[2,3],[2,3]], Try.func93, xcrc_Open_ok⟩)
          · exact one_ok (f := n) (x := x) h (fun h2 h3 => by subst h2 h3; exact ⟨Try.f111, [[0,1,2],[0,1,2,8],[0,2,8,13,14,15],[0,2,8,13,14,15,16],[0,2,8,10,13,14,15],[0,2,8,10,13,14,15,19],[6,7],[0,2,8,10,13,14,15,30],[6,7],[0,2,8,10,13,14,15,33],[6,7],[0,2,8,13,14,15],[0,2,8,13,14,15],[6,7]], Try.func111, ximage_track_ok⟩)
      · rcases two_ok h with h | h
        · rcases two_ok h with h | h
          · exact one_ok (f := n) (x := x) h (fun h2 h3 => by subst h2 h3; exact ⟨Try.f112, [[0,1,2],[0,1,2,14],[6],[1,2,15,16,17],[1,2,15,16,17,18],[1,2,7,8,15,16,17],[1,2,8,9,15,16,17],[1,2,15,16,17,30],[6],[1,2,15,16,17],[6]], Try.func112, xslices_EqualFunc_SSbyte_SSbyte_Sbyte_Sbyte_ok⟩)
          · exact one_ok (f := n) (x := x) h (fun h2 h3 => by subst h2 h3; exact ⟨Try.f113, [[0,1],[4]], Try.func113, ximage_Same_1_ok⟩)
        · rcases two_ok h with h | h
          · exact one_ok (f := n) (x := x) h (fun h2 h3 => by subst h2 h3; exact ⟨Try.f127, [[0],[0,3],[3,6,7,8],[3,6,7,8,9],[3,5,6,7,8],[3,6,7,8],[3,6,7,8],[2]], Try.func127, xcrc_Sum16_ok⟩)
          · exact one_ok (f := n) (x := x) h (fun h2 h3 => by subst h2 h3; exact ⟨Try.f140, [[0,1],[0],[0,11],[0,11,12],[0,11],[0,11,16],[0,11],[0,11],[4]], Try.func140, xcrc_Next_ok⟩)
end Go.Proofs.Ytejedmocjdcdgaa.D

set_option linter.unusedSimpArgs false
set_option linter.unusedVariables false
namespace Go.Proofs.Ytejedmocjdcdgaa.D
open Go Go.Det

/-- The running sums of a list. -/
def sums : Int → List Int → List Int
  | _, [] => []
  | a, p :: t => (a + p) :: sums (a + p) t
/-- The differences of a list. -/
def difs : Int → List Int → List Int
  | _, [] => []
  | a, x :: t => (x - a) :: difs x t
theorem sums_len (t : List Int) : ∀ a, (sums a t).length = t.length := by
  induction t with
  | nil => intro a; rfl
  | cons p t ih => intro a; simp [sums, ih]
theorem difs_len (t : List Int) : ∀ a, (difs a t).length = t.length := by
  induction t with
  | nil => intro a; rfl
  | cons p t ih => intro a; simp [difs, ih]
theorem difs_sums (t : List Int) : ∀ a, difs a (sums a t) = t := by
  induction t with
  | nil => intro a; rfl
  | cons p t ih => intro a; simp only [sums, difs, ih]; rw [Int.add_comm a p, Int.add_sub_cancel]
theorem sums_difs (t : List Int) : ∀ a, sums a (difs a t) = t := by
  induction t with
  | nil => intro a; rfl
  | cons p t ih =>
    intro a
    simp only [sums, difs]
    have : a + (p - a) = p := by omega
    rw [this, ih]
/-- Times that a track may have. -/
def Ok (t : List Int) : Prop := ∀ p ∈ t, 1 ≤ p ∧ p ≤ 100000
/-- The track of raw numbers. -/
def trk (l : List Int) : List Int := (l.take 1000).map fun x => 8 + x % 300
theorem trk_len (l : List Int) : (trk l).length ≤ 1000 := by simp [trk]; omega
theorem trk_ok (l : List Int) : ∀ p ∈ trk l, 8 ≤ p ∧ p ≤ 307 := by
  intro p hp
  simp only [trk, List.mem_map] at hp
  obtain ⟨x, _, rfl⟩ := hp
  omega
theorem sums_bnd (t : List Int) : ∀ a, 0 ≤ a → Ok t → ∀ x ∈ sums a t, 0 ≤ x ∧ x ≤ a + 100000 * (t.length : Int) := by
  induction t with
  | nil => intro a _ _ x hx; simp [sums] at hx
  | cons p t ih =>
    intro a h0 h x hx
    have hp := h p (by simp)
    simp only [sums, List.mem_cons] at hx
    simp only [List.length_cons]
    rcases hx with rfl | hx
    · omega
    · have := ih (a + p) (by omega) (fun q hq => h q (by simp [hq])) x hx
      omega
theorem app1 (pre : List Int) (a : Int) (rest : List Int) : pre ++ a :: rest = (pre ++ [a]) ++ rest := by simp
theorem below_xc' (a b : Int) (H : AH) (hb : 0 < b) (hb' : b < 4611686018427387904) : xc Try.prog tab 14 [.int .i64 a, .int .i64 b] H = some (.int .i64 (a % b), H) := by
  have go : Got (xc Try.prog tab 14 [.int .i64 a, .int .i64 b] H) fun v H' => v = .int .i64 (a % b) ∧ H' = H := by
    refine got_call (res := [.tmp 4]) rfl ?_
    have hb0 : ¬ b = 0 := by omega
    have h1 := Int.tmod_lt_of_pos a hb
    have h2 : -b < Int.tmod a b := by
      have := Int.lt_tmod_of_pos a hb; simpa using this
    have e : a % b = if Int.tmod a b < 0 then Int.tmod a b + b else Int.tmod a b := by
      have h3 : a = b * Int.tdiv a b + Int.tmod a b := (Int.mul_tdiv_add_tmod a b).symm
      have h4 : a % b = Int.tmod a b % b := by
        conv => lhs; rw [h3]
        rw [Int.mul_add_emod_self_left]
      rw [h4]
      split
      · rw [← Int.add_emod_right, Int.emod_eq_of_lt (by omega) (by omega)]
      · rw [Int.emod_eq_of_lt (by omega) (by omega)]
    simp only [ofArgs, run_seq, run_block, run_ops, run_skip, run_exit, run_ret, thenQ_normal, thenQ_exit, thenQ_ret, blockQ_normal, blockQ_exit, blockQ_ret, retQ_ret, retQ_normal, ops_nil, ops_none, got_some, ops_wT, ops_wTn, ops_wF, ops_wFn, ops_wU, dops_wT, dops_wTn, dops_wF, dops_wFn, dops_wU, run_condT, run_condF, alt2_int, altB_bool, altI_int, altBB_bool, v_min, v_max, v_not, v_neg, optEv_none, optEv_some, isSome'_none, isSome'_some, pExt0, pExt1, pExt2, Bool.false_and, Bool.true_and, Bool.not_true, Bool.not_false, cond_true, cond_false, dops_nil, dops_none, xval_call, v_mov, v_bin, v_len, v_ext, v_idxA, v_ld, v_st, v_app, v_appN, v_cvs, v_bs1, pBs1, v_slc, v_conv, v_fld, v_fldA, v_new, v_box, v_mks, v_copy, v_isnil, v_nilck, v_pick, ev, evs_nil, evs_cons, fr_get_cons, fr_put_nil, fr_put_cons, fr_put_some, fr_put_none, fr_keep_nil, fr_keep_cons, fr_has_nil, fr_has_cons, Option.bind_some, Option.map_some, xbin, ibin, xresult_eq, xress_nil, xress_tmp, resV, ex_some, if_true, if_false, ite_true, ite_false, reduceIte, reduceCtorEq, Nat.reduceEqDiff, Nat.reduceLT, Nat.reduceLeDiff, Int.reduceLT, Int.reduceLE, Nat.zero_add, Nat.reduceAdd, Bool.false_eq_true, decide_eq_true_eq, decide_eq_false_iff_not, true_implies, false_implies, and_true, true_and, run_cond, cond_some, hb0]
    refine ⟨fun h => ?_, fun h => ?_⟩
    · rw [wrI _ (by omega) (by omega), e, if_pos h]
    · rw [e, if_neg h]
  obtain ⟨v, H', h, rfl, rfl⟩ := go
  exact h
theorem below_xc (a b : Int) (H : AH) (hb : 0 < b) (hb' : b < 1000000) : xc Try.prog tab 14 [.int .i64 a, .int .i64 b] H = some (.int .i64 (a % b), H) := below_xc' a b H hb (by omega)

theorem check_l0 (s : Value) (H : AH) (rest : List Int) : ∀ (pre : List Int) (i N : Int) (Q : XExit → Fr → AH → Prop), Ints H s (pre ++ rest) → pre.length + rest.length ≤ 40000 → Ok rest → i = (pre.length : Int) → N = ((pre ++ rest).length : Int) →
    Q (.exit 0) [(8, s), (9, .int .i64 N), (10, .int .i64 N), (11, .bool false)] H → Run Try.prog tab (.loop xflux_Check_l0) [(8, s), (9, .int .i64 N), (10, .int .i64 i)] H Q := by
  induction rest with
  | nil =>
    intro pre i N Q hs hl hok hi hN hq
    rw [run_loop]
    generalize hL : XCode.loop xflux_Check_l0 = L
    have hiN : i = N := by simp at hN; omega
    subst hiN
    have hf : ¬ i < i := by omega
    simp only [xflux_Check_l0, ofArgs, run_seq, run_block, run_ops, run_skip, run_exit, run_ret, thenQ_normal, thenQ_exit, thenQ_ret, blockQ_normal, blockQ_exit, blockQ_ret, retQ_ret, retQ_normal, ops_nil, ops_none, got_some, ops_wT, ops_wTn, ops_wF, ops_wFn, ops_wU, dops_wT, dops_wTn, dops_wF, dops_wFn, dops_wU, run_condT, run_condF, alt2_int, altB_bool, altI_int, altBB_bool, v_min, v_max, v_not, v_neg, optEv_none, optEv_some, isSome'_none, isSome'_some, pExt0, pExt1, pExt2, Bool.false_and, Bool.true_and, Bool.not_true, Bool.not_false, cond_true, cond_false, dops_nil, dops_none, xval_call, v_mov, v_bin, v_len, v_ext, v_idxA, v_ld, v_st, v_app, v_appN, v_cvs, v_bs1, pBs1, v_slc, v_conv, v_fld, v_fldA, v_new, v_box, v_mks, v_copy, v_isnil, v_nilck, v_pick, ev, evs_nil, evs_cons, fr_get_cons, fr_put_nil, fr_put_cons, fr_put_some, fr_put_none, fr_keep_nil, fr_keep_cons, fr_has_nil, fr_has_cons, Option.bind_some, Option.map_some, xbin, ibin, xresult_eq, xress_nil, xress_tmp, resV, ex_some, if_true, if_false, ite_true, ite_false, reduceIte, reduceCtorEq, Nat.reduceEqDiff, Nat.reduceLT, Nat.reduceLeDiff, Int.reduceLT, Int.reduceLE, Nat.zero_add, Nat.reduceAdd, Bool.false_eq_true, decide_eq_true_eq, decide_eq_false_iff_not, true_implies, false_implies, and_true, true_and, hf, decide_false]
    simpa using hq
  | cons a rest ih =>
    intro pre i N Q hs hl hok hi hN hq
    simp only [List.length_cons] at hl
    rw [run_loop]
    generalize hL : XCode.loop xflux_Check_l0 = L
    have hlt : i < N := by simp at hN; omega
    have ha := hok a (by simp)
    have c1 : ¬ a < 1 := by omega
    have c2 : ¬ a > 100000 := by omega
    have e1 := ints_idx hs i pre.length hi (by simp)
    have e2 := ints_ld hs pre.length a (by simp)
    have e4 := wrI (i + 1) (by omega) (by omega)
    simp only [xflux_Check_l0, ofArgs, run_seq, run_block, run_ops, run_skip, run_exit, run_ret, thenQ_normal, thenQ_exit, thenQ_ret, blockQ_normal, blockQ_exit, blockQ_ret, retQ_ret, retQ_normal, ops_nil, ops_none, got_some, ops_wT, ops_wTn, ops_wF, ops_wFn, ops_wU, dops_wT, dops_wTn, dops_wF, dops_wFn, dops_wU, run_condT, run_condF, alt2_int, altB_bool, altI_int, altBB_bool, v_min, v_max, v_not, v_neg, optEv_none, optEv_some, isSome'_none, isSome'_some, pExt0, pExt1, pExt2, Bool.false_and, Bool.true_and, Bool.not_true, Bool.not_false, cond_true, cond_false, dops_nil, dops_none, xval_call, v_mov, v_bin, v_len, v_ext, v_idxA, v_ld, v_st, v_app, v_appN, v_cvs, v_bs1, pBs1, v_slc, v_conv, v_fld, v_fldA, v_new, v_box, v_mks, v_copy, v_isnil, v_nilck, v_pick, ev, evs_nil, evs_cons, fr_get_cons, fr_put_nil, fr_put_cons, fr_put_some, fr_put_none, fr_keep_nil, fr_keep_cons, fr_has_nil, fr_has_cons, Option.bind_some, Option.map_some, xbin, ibin, xresult_eq, xress_nil, xress_tmp, resV, ex_some, if_true, if_false, ite_true, ite_false, reduceIte, reduceCtorEq, Nat.reduceEqDiff, Nat.reduceLT, Nat.reduceLeDiff, Int.reduceLT, Int.reduceLE, Nat.zero_add, Nat.reduceAdd, Bool.false_eq_true, decide_eq_true_eq, decide_eq_false_iff_not, true_implies, false_implies, and_true, true_and, hlt, decide_true, e1, e2, e4, c1, c2, decide_false]
    subst hL
    exact ih (pre ++ [a]) (i + 1) N Q (Ints.app1 hs) (by simp; omega) (fun p hp => hok p (by simp [hp])) (by simp; omega) (by simpa using hN) hq

theorem got_xc {f : FuncId} {args : List Value} {H : AH} {v : Value} (h : Got (xc Try.prog tab f args H) fun v' H' => v' = v ∧ H' = H) : xc Try.prog tab f args H = some (v, H) := by
  obtain ⟨v, H', h, rfl, rfl⟩ := h
  exact h

theorem check_xc (l : List Int) (s : Value) (H : AH) (hs : Ints H s l) (hl : l.length ≤ 40000) (hok : Ok l) : xc Try.prog tab 65 [s] H = some (.int .i64 0, H) := by
  refine got_xc (got_call (res := [.tmp 2]) rfl ?_)
  have e4 := ints_len hs
  have c1 : ¬ (l.length : Int) > 40000 := by omega
  simp only [ofArgs, run_seq, run_block, run_ops, run_skip, run_exit, run_ret, thenQ_normal, thenQ_exit, thenQ_ret, blockQ_normal, blockQ_exit, blockQ_ret, retQ_ret, retQ_normal, ops_nil, ops_none, got_some, ops_wT, ops_wTn, ops_wF, ops_wFn, ops_wU, dops_wT, dops_wTn, dops_wF, dops_wFn, dops_wU, run_condT, run_condF, alt2_int, altB_bool, altI_int, altBB_bool, v_min, v_max, v_not, v_neg, optEv_none, optEv_some, isSome'_none, isSome'_some, pExt0, pExt1, pExt2, Bool.false_and, Bool.true_and, Bool.not_true, Bool.not_false, cond_true, cond_false, dops_nil, dops_none, xval_call, v_mov, v_bin, v_len, v_ext, v_idxA, v_ld, v_st, v_app, v_appN, v_cvs, v_bs1, pBs1, v_slc, v_conv, v_fld, v_fldA, v_new, v_box, v_mks, v_copy, v_isnil, v_nilck, v_pick, ev, evs_nil, evs_cons, fr_get_cons, fr_put_nil, fr_put_cons, fr_put_some, fr_put_none, fr_keep_nil, fr_keep_cons, fr_has_nil, fr_has_cons, Option.bind_some, Option.map_some, xbin, ibin, xresult_eq, xress_nil, xress_tmp, resV, ex_some, if_true, if_false, ite_true, ite_false, reduceIte, reduceCtorEq, Nat.reduceEqDiff, Nat.reduceLT, Nat.reduceLeDiff, Int.reduceLT, Int.reduceLE, Nat.zero_add, Nat.reduceAdd, Bool.false_eq_true, decide_eq_true_eq, decide_eq_false_iff_not, true_implies, false_implies, and_true, true_and, e4, c1, decide_false]
  refine check_l0 s H l [] _ _ _ hs (by simpa using hl) hok (by simp) (by simp) ?_
  simp only [ofArgs, run_seq, run_block, run_ops, run_skip, run_exit, run_ret, thenQ_normal, thenQ_exit, thenQ_ret, blockQ_normal, blockQ_exit, blockQ_ret, retQ_ret, retQ_normal, ops_nil, ops_none, got_some, ops_wT, ops_wTn, ops_wF, ops_wFn, ops_wU, dops_wT, dops_wTn, dops_wF, dops_wFn, dops_wU, run_condT, run_condF, alt2_int, altB_bool, altI_int, altBB_bool, v_min, v_max, v_not, v_neg, optEv_none, optEv_some, isSome'_none, isSome'_some, pExt0, pExt1, pExt2, Bool.false_and, Bool.true_and, Bool.not_true, Bool.not_false, cond_true, cond_false, dops_nil, dops_none, xval_call, v_mov, v_bin, v_len, v_ext, v_idxA, v_ld, v_st, v_app, v_appN, v_cvs, v_bs1, pBs1, v_slc, v_conv, v_fld, v_fldA, v_new, v_box, v_mks, v_copy, v_isnil, v_nilck, v_pick, ev, evs_nil, evs_cons, fr_get_cons, fr_put_nil, fr_put_cons, fr_put_some, fr_put_none, fr_keep_nil, fr_keep_cons, fr_has_nil, fr_has_cons, Option.bind_some, Option.map_some, xbin, ibin, xresult_eq, xress_nil, xress_tmp, resV, ex_some, if_true, if_false, ite_true, ite_false, reduceIte, reduceCtorEq, Nat.reduceEqDiff, Nat.reduceLT, Nat.reduceLeDiff, Int.reduceLT, Int.reduceLE, Nat.zero_add, Nat.reduceAdd, Bool.false_eq_true, decide_eq_true_eq, decide_eq_false_iff_not, true_implies, false_implies, and_true, true_and]

end Go.Proofs.Ytejedmocjdcdgaa.D

set_option linter.unusedSimpArgs false
set_option linter.unusedVariables false
namespace Go.Proofs.Ytejedmocjdcdgaa.D
open Go Go.Det

theorem hext_ints {H H' : AH} {s : Value} {l : List Int} (hx : HExt H H') (hs : Ints H s l) : Ints H' s l := Sl.ext hx hs

end Go.Proofs.Ytejedmocjdcdgaa.D

set_option linter.unusedSimpArgs false
set_option linter.unusedVariables false
namespace Go.Proofs.Ytejedmocjdcdgaa.D
open Go Go.Det

def nears (d : Int) : List Int → List Int → Bool
  | a :: s, b :: t => decide (a - b ≤ d) && decide (b - a ≤ d) && nears d s t
  | _, _ => true

end Go.Proofs.Ytejedmocjdcdgaa.D

set_option linter.unusedSimpArgs false
set_option linter.unusedVariables false
namespace Go.Proofs.Ytejedmocjdcdgaa.D
open Go Go.Det

theorem dbl (t : List Int) : ∀ a, difs (2 * a) ((sums a t).map fun x => Int.tdiv (x * 2) 1) = t.map fun x => 2 * x := by
  induction t with
  | nil => intro a; rfl
  | cons p t ih =>
    intro a
    simp only [sums, difs, List.map_cons]
    have e : Int.tdiv ((a + p) * 2) 1 = 2 * (a + p) := by rw [Int.tdiv_one]; omega
    rw [e, ih]
    congr 1
    omega
theorem dbl_sum (t : List Int) : (t.map fun x => 2 * x).sum = 2 * t.sum := by
  induction t with
  | nil => rfl
  | cons p t ih => simp [ih]; omega
theorem same_map (t : List Int) (n : Int) (hn : 1 ≤ n) : (t.map fun x => Int.tdiv (x * n) n) = t := by
  induction t with
  | nil => rfl
  | cons p t ih =>
    simp only [List.map_cons, ih]
    rw [Int.mul_tdiv_cancel _ (by omega)]
theorem nears_self (t : List Int) : nears 0 t t = true := by
  induction t with
  | nil => rfl
  | cons p t ih => simp [nears, ih]
theorem sum_bnd (t : List Int) (h : Ok t) : 0 ≤ t.sum ∧ t.sum ≤ 100000 * (t.length : Int) := by
  induction t with
  | nil => simp
  | cons p t ih =>
    have hp := h p (by simp)
    have := ih (fun q hq => h q (by simp [hq]))
    simp only [List.sum_cons, List.length_cons]
    omega

end Go.Proofs.Ytejedmocjdcdgaa.D

set_option linter.unusedSimpArgs false
set_option linter.unusedVariables false
namespace Go.Proofs.Ytejedmocjdcdgaa.D
open Go Go.Det

/-- a number, limited to most on both sides -/
def clampI (most x : Int) : Int := if -most < (if x < most then x else most) then (if x < most then x else most) else -most
/-- by how much the change number k is moved -/
def mvAt (l : List Int) (most : Int) (k : Nat) : Int := if l.length = 0 then 0 else clampI most (l.getD (k % l.length) 0)
def shk (l : List Int) (most : Int) : Nat → List Int → List Int
  | _, [] => []
  | k, x :: r => (x + mvAt l most k) :: shk l most (k + 1) r
def anyM (l : List Int) (most : Int) : Nat → Nat → Bool
  | _, 0 => false
  | k, n + 1 => (mvAt l most k != 0) || anyM l most (k + 1) n

theorem clamp_bnd (most x : Int) (h : 0 ≤ most) : -most ≤ clampI most x ∧ clampI most x ≤ most := by
  unfold clampI; split <;> split at * <;> omega
theorem mv_bnd (l : List Int) (most : Int) (h : 0 ≤ most) (k : Nat) : -most ≤ mvAt l most k ∧ mvAt l most k ≤ most := by
  unfold mvAt
  split
  · omega
  · exact clamp_bnd most _ h
theorem shk_len (l : List Int) (most : Int) (s : List Int) : ∀ k, (shk l most k s).length = s.length := by
  induction s with
  | nil => intro k; rfl
  | cons x r ih => intro k; simp [shk, ih]
theorem shk_ok (l : List Int) (most : Int) (h : 0 ≤ most) (h3 : most ≤ 3) (t : List Int) : ∀ (a m0 : Int) (k : Nat), -3 ≤ m0 → m0 ≤ 3 → (∀ p ∈ t, 8 ≤ p ∧ p ≤ 307) → Ok (difs (a + m0) (shk l most k (sums a t))) := by
  induction t with
  | nil => intro a m0 k _ _ _ p hp; simp [sums, shk, difs] at hp
  | cons p t ih =>
    intro a m0 k h1 h2 hp q hq
    have hb := mv_bnd l most h k
    have h8 := hp p (by simp)
    simp only [sums, shk, difs, List.mem_cons] at hq
    rcases hq with rfl | hq
    · omega
    · exact ih (a + p) (mvAt l most k) (k + 1) (by omega) (by omega) (fun x hx => hp x (by simp [hx])) q hq
theorem shk_near (l : List Int) (most : Int) (h : 0 ≤ most) (s : List Int) : ∀ k, nears most s (shk l most k s) = true := by
  induction s with
  | nil => intro k; rfl
  | cons x r ih =>
    intro k
    have hb := mv_bnd l most h k
    simp only [shk, nears, ih, Bool.and_true, Bool.and_eq_true, decide_eq_true_eq]
    omega
theorem shk_near0 (l : List Int) (most : Int) (s : List Int) : ∀ k, nears 0 s (shk l most k s) = !(anyM l most k s.length) := by
  induction s with
  | nil => intro k; rfl
  | cons x r ih =>
    intro k
    simp only [shk, nears, ih, List.length_cons, anyM]
    by_cases hm : mvAt l most k = 0
    · have e1 : decide (x - (x + mvAt l most k) ≤ 0) = true := by simp; omega
      have e2 : decide (x + mvAt l most k - x ≤ 0) = true := by simp; omega
      rw [e1, e2, hm]; simp
    · have hne : (mvAt l most k != 0) = true := by simpa using hm
      rw [hne]
      by_cases hp : 0 < mvAt l most k
      · have e2 : decide (x + mvAt l most k - x ≤ 0) = false := by simp; omega
        rw [e2]; simp
      · have e1 : decide (x - (x + mvAt l most k) ≤ 0) = false := by simp; omega
        rw [e1]; simp
theorem shk_eq (l : List Int) (most : Int) (s : List Int) : ∀ k, (s = shk l most k s) ↔ anyM l most k s.length = false := by
  induction s with
  | nil => intro k; simp [shk, anyM]
  | cons x r ih =>
    intro k
    simp only [shk, List.length_cons, anyM, List.cons.injEq, Bool.or_eq_false_iff, ih (k + 1)]
    have : x = x + mvAt l most k ↔ (mvAt l most k != 0) = false := by simp; omega
    rw [this]

end Go.Proofs.Ytejedmocjdcdgaa.D

set_option linter.unusedSimpArgs false
set_option linter.unusedVariables false
namespace Go.Proofs.Ytejedmocjdcdgaa.D
open Go Go.Det

theorem pNil_ptr (a : Addr) (H : AH) : pNil (.pointer (some a)) H = some (.pointer (some a), H) := rfl
theorem pFldA_ptr (off B o : Nat) (H : AH) : pFldA off (.pointer (some ⟨B, o, none⟩)) H = some (.pointer (some ⟨B, o + off, none⟩), H) := rfl
theorem pLd_box {H : AH} {B : Nat} {v : Value} {sz : Nat} {opn ro : Bool} (h : H.get B = some ⟨[v], sz, opn, ro⟩) : pLd none (.pointer (some ⟨B, 0, none⟩)) H = some (v, H) := by
  unfold pLd
  simp only [h, Option.bind_some, partV]
  rfl
theorem pSt_box {H : AH} {B : Nat} {v u : Value} {sz : Nat} {opn : Bool} (h : H.get B = some ⟨[v], sz, opn, false⟩) (h1 : one u = true) (h2 : vcells u = [u]) : pSt 1 (.pointer (some ⟨B, 0, none⟩)) u H = some (undef, H.set B ⟨[u], sz, opn, false⟩) := by
  unfold pSt
  simp only [h, Option.bind_some, h2, List.length_singleton, List.all_cons, List.all_nil, h1]
  rfl

theorem Sl.set {H : AH} {B sz n : Nat} {s : Value} {cs : List Value} {blk : Blk} (h : Sl H sz s n cs) (hB : ¬ inB s B) : Sl (H.set B blk) sz s n cs := by
  have hg : ∀ b, inB s b → (H.set B blk).get b = H.get b := by
    intro b hb
    rw [AH.get_set, if_neg (fun e : b = B => hB (by rw [← e]; exact hb))]
  rcases h with h | ⟨C, o, h1, h2, h3, h4⟩ | ⟨C, o, c, b, h1, h2, h3, h4⟩
  · exact .inl h
  · exact .inr (.inl ⟨C, o, h1, h2, (hg C ⟨_, _, _, h1⟩).trans h3, h4⟩)
  · exact .inr (.inr ⟨C, o, c, b, h1, h2, (hg C ⟨_, _, _, h1⟩).trans h3, h4⟩)

/-- a stream of numbers: a box with what is left -/
structure Strm (n0 : Nat) (H : AH) (B : Nat) (v : Value) (l : List Int) : Prop where
  nb : n0 ≤ B
  lt : B < H.n
  box : H.get B = some ⟨[v], 1, false, false⟩
  ints : Ints H v l
  out : ∀ b, inB v b → b < n0

theorem sl_slice {H : AH} {sz n : Nat} {s : Value} {cs : List Value} (h : Sl H sz s n cs) : one s = true ∧ vcells s = [s] := by
  rcases h with ⟨rfl, _⟩ | ⟨B, o, rfl, _⟩ | ⟨B, o, c, blk, rfl, _⟩ <;> exact ⟨rfl, rfl⟩

theorem next_ok (n0 B : Nat) (v : Value) (l : List Int) (n : Int) (hn : 0 < n) (hn' : n < 1000000) (H : AH) (Q : Value → AH → Prop) (hs : Strm n0 H B v l)
    (hq : ∀ v' H', H'.n = H.n → (∀ b, b ≠ B → H'.get b = H.get b) → Strm n0 H' B v' l.tail → Q (.int .i64 (l.headD 0 % n)) H') : Got (xc Try.prog tab 67 [.pointer (some ⟨B, 0, none⟩), .int .i64 n] H) Q := by
  refine got_call (res := [.tmp 4]) rfl ?_
  have c1 : ¬ n < 1 := by omega
  have e1 := pLd_box hs.box
  have e2 := ints_len hs.ints
  cases l with
  | nil =>
    have := hq v H rfl (fun _ _ => rfl) hs
    simp only [ofArgs, run_seq, run_block, run_ops, run_skip, run_exit, run_ret, thenQ_normal, thenQ_exit, thenQ_ret, blockQ_normal, blockQ_exit, blockQ_ret, retQ_ret, retQ_normal, ops_nil, ops_none, got_some, ops_wT, ops_wTn, ops_wF, ops_wFn, ops_wU, dops_wT, dops_wTn, dops_wF, dops_wFn, dops_wU, run_condT, run_condF, alt2_int, altB_bool, altI_int, altBB_bool, v_min, v_max, v_not, v_neg, optEv_none, optEv_some, isSome'_none, isSome'_some, pExt0, pExt1, pExt2, Bool.false_and, Bool.true_and, Bool.not_true, Bool.not_false, cond_true, cond_false, dops_nil, dops_none, xval_call, v_mov, v_bin, v_len, v_ext, v_idxA, v_ld, v_st, v_app, v_appN, v_cvs, v_bs1, pBs1, v_slc, v_conv, v_fld, v_fldA, v_new, v_box, v_mks, v_copy, v_isnil, v_nilck, v_pick, ev, evs_nil, evs_cons, fr_get_cons, fr_put_nil, fr_put_cons, fr_put_some, fr_put_none, fr_keep_nil, fr_keep_cons, fr_has_nil, fr_has_cons, Option.bind_some, Option.map_some, xbin, ibin, xresult_eq, xress_nil, xress_tmp, resV, ex_some, if_true, if_false, ite_true, ite_false, reduceIte, reduceCtorEq, Nat.reduceEqDiff, Nat.reduceLT, Nat.reduceLeDiff, Int.reduceLT, Int.reduceLE, Nat.zero_add, Nat.reduceAdd, Bool.false_eq_true, decide_eq_true_eq, decide_eq_false_iff_not, true_implies, false_implies, and_true, true_and, pNil_ptr, pFldA_ptr, Nat.add_zero, e1, e2, c1, decide_false, List.length_nil, Int.ofNat_zero, Int.natCast_zero, beq_self_eq_true]
    simpa using this
  | cons x r =>
    have c2 : (((x :: r).length : Int) == 0) = false := by simp; omega
    have e3 := ints_idx hs.ints 0 0 rfl (by simp)
    have e4 := ints_ld hs.ints 0 x rfl
    have e5 := fun H => below_xc x n H hn hn'
    obtain ⟨s', k1, k2, k3, _⟩ := xslc_ok (lo := some (.int .i64 1)) (hi := none) (i := 1) (h := (x :: r).length) hs.ints rfl rfl (by simp) (Nat.le_refl _)
    have k2' : Ints H s' r := by
      unfold Ints
      have e : (r.map (Value.int .i64)).take r.length = r.map (Value.int .i64) := List.take_of_length_le (by simp)
      simpa [e] using k2
    obtain ⟨o1, o2⟩ := sl_slice k2'
    have e6 := pSt_box hs.box o1 o2
    simp only [ofArgs, run_seq, run_block, run_ops, run_skip, run_exit, run_ret, thenQ_normal, thenQ_exit, thenQ_ret, blockQ_normal, blockQ_exit, blockQ_ret, retQ_ret, retQ_normal, ops_nil, ops_none, got_some, ops_wT, ops_wTn, ops_wF, ops_wFn, ops_wU, dops_wT, dops_wTn, dops_wF, dops_wFn, dops_wU, run_condT, run_condF, alt2_int, altB_bool, altI_int, altBB_bool, v_min, v_max, v_not, v_neg, optEv_none, optEv_some, isSome'_none, isSome'_some, pExt0, pExt1, pExt2, Bool.false_and, Bool.true_and, Bool.not_true, Bool.not_false, cond_true, cond_false, dops_nil, dops_none, xval_call, v_mov, v_bin, v_len, v_ext, v_idxA, v_ld, v_st, v_app, v_appN, v_cvs, v_bs1, pBs1, v_slc, v_conv, v_fld, v_fldA, v_new, v_box, v_mks, v_copy, v_isnil, v_nilck, v_pick, ev, evs_nil, evs_cons, fr_get_cons, fr_put_nil, fr_put_cons, fr_put_some, fr_put_none, fr_keep_nil, fr_keep_cons, fr_has_nil, fr_has_cons, Option.bind_some, Option.map_some, xbin, ibin, xresult_eq, xress_nil, xress_tmp, resV, ex_some, if_true, if_false, ite_true, ite_false, reduceIte, reduceCtorEq, Nat.reduceEqDiff, Nat.reduceLT, Nat.reduceLeDiff, Int.reduceLT, Int.reduceLE, Nat.zero_add, Nat.reduceAdd, Bool.false_eq_true, decide_eq_true_eq, decide_eq_false_iff_not, true_implies, false_implies, and_true, true_and, pNil_ptr, pFldA_ptr, Nat.add_zero, e1, e2, e3, e4, e5, c1, c2, k1, e6, decide_false]
    refine hq s' (H.set B ⟨[s'], 1, false, false⟩) rfl (fun b hb => by rw [AH.get_set, if_neg hb]) ⟨hs.nb, hs.lt, by rw [AH.get_set, if_pos rfl], ?_, fun b hb => hs.out b ((k3 b).1 hb)⟩
    refine Sl.set k2' (fun hb => ?_)
    have := hs.out B ((k3 B).1 hb)
    have := hs.nb
    omega

/-- slices of bytes -/
def Byts (H : AH) (v : Value) (l : List Int) : Prop := Sl H 1 v l.length (l.map (.int .u8))
def OwnB (n0 : Nat) (H : AH) (v : Value) (l : List Int) : Prop := Own n0 1 H v l.length (l.map (.int .u8))
/-- numbers that are bytes -/
def B8 (l : List Int) : Prop := ∀ b ∈ l, 0 ≤ b ∧ b < 256
/-- the bytes that a stream gives -/
def byts : Nat → List Int → List Int
  | 0, _ => []
  | k + 1, l => (l.headD 0 % 256) :: byts k l.tail
theorem byts_len (k : Nat) : ∀ l, (byts k l).length = k := by
  induction k with
  | zero => intro l; rfl
  | succ k ih => intro l; simp [byts, ih]
theorem byts_b8 (k : Nat) : ∀ l, B8 (byts k l) := by
  induction k with
  | zero => intro l b hb; simp [byts] at hb
  | succ k ih =>
    intro l b hb
    simp only [byts, List.mem_cons] at hb
    rcases hb with rfl | hb
    · exact ⟨Int.emod_nonneg _ (by omega), Int.emod_lt_of_pos _ (by omega)⟩
    · exact ih _ b hb
theorem wrU8 (n : Int) (h0 : 0 ≤ n) (h1 : n < 256) : IntKind.u8.wrap n = n := by
  show (if (false && decide (n % (2 ^ 8 : Int) ≥ (2 ^ 7 : Int))) = true then n % (2 ^ 8 : Int) - (2 ^ 8 : Int) else n % (2 ^ 8 : Int)) = n
  rw [show (2 : Int) ^ 8 = 256 from rfl]
  simp only [Bool.false_and, Bool.false_eq_true, if_false]
  omega

theorem Own.set {H : AH} {n0 sz n : Nat} {s : Value} {cs : List Value} {H' : AH} (h : Own n0 sz H s n cs) (hn : H'.n = H.n) (hg : ∀ b, inB s b → H'.get b = H.get b) : Own n0 sz H' s n cs := by
  obtain ⟨h1, h2⟩ := h
  refine ⟨?_, fun C o l c e => ?_⟩
  · rcases h1 with h | ⟨C, o, h1, h2, h3, h4⟩ | ⟨C, o, c, b, h1, h2, h3, h4⟩
    · exact .inl h
    · exact .inr (.inl ⟨C, o, h1, by omega, (hg C ⟨_, _, _, h1⟩).trans h3, h4⟩)
    · exact .inr (.inr ⟨C, o, c, b, h1, by omega, (hg C ⟨_, _, _, h1⟩).trans h3, h4⟩)
  · obtain ⟨a, blk, b, c⟩ := h2 C o l c e
    exact ⟨a, blk, (hg C ⟨_, _, _, e⟩).trans b, c⟩

theorem pMks_ok (z : Value) (k : Nat) (hk : k ≤ 140737488355328) (kd : IntKind) (H : AH) (m : Int) (hm : m = (k : Int)) : pMks 1 1 [z] (.int kd m) (.int kd m) H = some (.slice (some ⟨H.n, 0, none⟩) k k, H.push ⟨rep k [z], 1, false, false⟩) := by
  subst hm
  show (bif Nat.ble k k && Nat.ble (k * 1) 140737488355328 && Nat.ble k 140737488355328 then some (Value.slice (some ⟨H.n, 0, none⟩) k k, H.push ⟨rep k [z], 1, false, false⟩) else none) = _
  rw [ble_of (Nat.le_refl k), ble_of (by omega : k * 1 ≤ 140737488355328), ble_of hk]
  rfl
theorem rep_one (z : Value) (k : Nat) : rep k [z] = List.replicate k z := by
  induction k with
  | zero => rfl
  | succ k ih => simp [rep, ih, List.replicate_succ]

def pMk1 (v : Value) (H : AH) : Option (Value × AH) :=
  match vcells v with
  | [u] => bif one u then some (.agg [u].toArray, H) else none
  | _ => none
theorem v_mk1 {P : Program} {T : XTab} (fr : Fr) (H : AH) (dd : Option Nat) (x : Operand) (z : Value) : xval P (xc P T) ⟨dd, .build [z] [(0, 1, x)], none⟩ fr H = (ev fr x).bind fun v => pMk1 v H := by
  rw [xval_op dd _ fr H rfl, e_build]
  rcases hx : ev fr x with _ | v
  · simp [xfill, hx]
  · simp only [Option.bind_some, pMk1, xfill, hx]
    rcases vcells v with _ | ⟨u, _ | ⟨u2, r⟩⟩
    · rfl
    · cases h : one u
      · simp [h]
      · simp [h, splice, show Nat.ble 1 1 = true from rfl]
    · have hb : (u :: u2 :: r).length.beq 1 = false := by rw [Tr.beq_eq]; simp
      simp only [hb, Bool.false_and, cond_false]
      rfl
theorem pMk1_slice {v : Value} (H : AH) (h1 : one v = true) (h2 : vcells v = [v]) : pMk1 v H = some (.agg [v].toArray, H) := by
  unfold pMk1
  rw [h2]
  simp only [h1, cond_true]
theorem box1 (v : Value) (H : AH) : vcells (.agg [v].toArray) = [v] := rfl

end Go.Proofs.Ytejedmocjdcdgaa.D

set_option linter.unusedSimpArgs false
set_option linter.unusedVariables false
namespace Go.Proofs.Ytejedmocjdcdgaa.D
open Go Go.Det

/-- one step of the sum -/
def crcStep (x : Nat) : Nat := if 65535 < x * 2 then (x * 2) ^^^ 69665 else x * 2
def crcRounds : Nat → Nat → Nat
  | 0, x => x
  | k + 1, x => crcRounds k (crcStep x)
/-- the sum with a further byte -/
def nx (s c : Nat) : Nat := crcRounds 8 ((s &&& 65535) ^^^ (c * 256))

theorem crcStep_lt (x : Nat) (h : x < 65536) : crcStep x < 65536 := by
  unfold crcStep
  split
  · have h1 : ((x * 2) ^^^ 69665) = ((x * 2 - 65536) ^^^ 4129) := by
      have e1 : x * 2 = 2 ^ 16 * 1 + (x * 2 - 65536) := by omega
      have e2 : (69665 : Nat) = 2 ^ 16 * 1 + 4129 := by decide
      apply Nat.eq_of_testBit_eq
      intro b
      rw [Nat.testBit_xor, Nat.testBit_xor]
      rcases Nat.lt_or_ge b 16 with hb | hb
      · have a1 : (x * 2).testBit b = (x * 2 - 65536).testBit b := by
          conv => lhs; rw [e1]
          rw [Nat.testBit_two_pow_mul_add _ (by omega), if_pos hb]
        have a2 : (69665 : Nat).testBit b = (4129 : Nat).testBit b := by
          rw [e2, Nat.testBit_two_pow_mul_add _ (by omega), if_pos hb]
        rw [a1, a2]
      · have a1 : (x * 2).testBit b = (1 : Nat).testBit (b - 16) := by
          conv => lhs; rw [e1]
          rw [Nat.testBit_two_pow_mul_add _ (by omega), if_neg (by omega)]
        have a2 : (69665 : Nat).testBit b = (1 : Nat).testBit (b - 16) := by
          rw [e2, Nat.testBit_two_pow_mul_add _ (by omega), if_neg (by omega)]
        have a3 : (x * 2 - 65536).testBit b = false := Nat.testBit_lt_two_pow (Nat.lt_of_lt_of_le (by omega : x * 2 - 65536 < 2 ^ 16) (Nat.pow_le_pow_right (by omega) hb))
        have a4 : (4129 : Nat).testBit b = false := Nat.testBit_lt_two_pow (Nat.lt_of_lt_of_le (by omega : 4129 < 2 ^ 16) (Nat.pow_le_pow_right (by omega) hb))
        rw [a1, a2, a3, a4]; simp
    rw [h1]
    exact Nat.xor_lt_two_pow (n := 16) (by omega) (by omega)
  · omega

theorem next_l0 (k : Nat) : ∀ (x : Nat) (i : Int) (H : AH) (Q : XExit → Fr → AH → Prop), x < 65536 → i = 8 - (k : Int) → k ≤ 8 →
    Q (.exit 0) [(0, .int .i64 (crcRounds k x : Nat)), (11, .int .i64 8), (12, .bool false)] H →
    Run Try.prog tab (.loop xcrc_Next_l0) [(0, .int .i64 (x : Nat)), (11, .int .i64 i)] H Q := by
  induction k with
  | zero =>
    intro x i H Q hx hi hk hq
    rw [run_loop]
    generalize hL : XCode.loop xcrc_Next_l0 = L
    have hi8 : i = 8 := by omega
    subst hi8
    simp only [xcrc_Next_l0, ofArgs, run_seq, run_block, run_ops, run_skip, run_exit, run_ret, thenQ_normal, thenQ_exit, thenQ_ret, blockQ_normal, blockQ_exit, blockQ_ret, retQ_ret, retQ_normal, ops_nil, ops_none, got_some, ops_wT, ops_wTn, ops_wF, ops_wFn, ops_wU, dops_wT, dops_wTn, dops_wF, dops_wFn, dops_wU, run_condT, run_condF, alt2_int, altB_bool, altI_int, altBB_bool, v_min, v_max, v_not, v_neg, optEv_none, optEv_some, isSome'_none, isSome'_some, pExt0, pExt1, pExt2, Bool.false_and, Bool.true_and, Bool.not_true, Bool.not_false, cond_true, cond_false, dops_nil, dops_none, xval_call, v_mov, v_bin, v_len, v_ext, v_idxA, v_ld, v_st, v_app, v_appN, v_cvs, v_bs1, pBs1, v_slc, v_conv, v_fld, v_fldA, v_new, v_box, v_mks, v_copy, v_isnil, v_nilck, v_pick, ev, evs_nil, evs_cons, fr_get_cons, fr_put_nil, fr_put_cons, fr_put_some, fr_put_none, fr_keep_nil, fr_keep_cons, fr_has_nil, fr_has_cons, Option.bind_some, Option.map_some, xbin, ibin, xresult_eq, xress_nil, xress_tmp, resV, ex_some, if_true, if_false, ite_true, ite_false, reduceIte, reduceCtorEq, Nat.reduceEqDiff, Nat.reduceLT, Nat.reduceLeDiff, Int.reduceLT, Int.reduceLE, Nat.zero_add, Nat.reduceAdd, Bool.false_eq_true, decide_eq_true_eq, decide_eq_false_iff_not, true_implies, false_implies, and_true, true_and, Int.lt_irrefl, decide_false]
    simpa [crcRounds] using hq
  | succ k ih =>
    intro x i H Q hx hi hk hq
    rw [run_loop]
    generalize hL : XCode.loop xcrc_Next_l0 = L
    have hlt : i < 8 := by omega
    have e4 := wrI (i + 1) (by omega) (by omega)
    have s1 : min (Int.toNat 1) IntKind.i64.bits = 1 := rfl
    have e5 := wrI ((x : Int) * 2 ^ 1) (by omega) (by omega)
    by_cases h : (x : Int) * 2 ^ 1 > 65535
    · have e6 := w_xor ((x : Int) * 2 ^ 1) 69665 (by omega) (by omega) (by omega) (by omega)
      simp only [xcrc_Next_l0, ofArgs, run_seq, run_block, run_ops, run_skip, run_exit, run_ret, thenQ_normal, thenQ_exit, thenQ_ret, blockQ_normal, blockQ_exit, blockQ_ret, retQ_ret, retQ_normal, ops_nil, ops_none, got_some, ops_wT, ops_wTn, ops_wF, ops_wFn, ops_wU, dops_wT, dops_wTn, dops_wF, dops_wFn, dops_wU, run_condT, run_condF, alt2_int, altB_bool, altI_int, altBB_bool, v_min, v_max, v_not, v_neg, optEv_none, optEv_some, isSome'_none, isSome'_some, pExt0, pExt1, pExt2, Bool.false_and, Bool.true_and, Bool.not_true, Bool.not_false, cond_true, cond_false, dops_nil, dops_none, xval_call, v_mov, v_bin, v_len, v_ext, v_idxA, v_ld, v_st, v_app, v_appN, v_cvs, v_bs1, pBs1, v_slc, v_conv, v_fld, v_fldA, v_new, v_box, v_mks, v_copy, v_isnil, v_nilck, v_pick, ev, evs_nil, evs_cons, fr_get_cons, fr_put_nil, fr_put_cons, fr_put_some, fr_put_none, fr_keep_nil, fr_keep_cons, fr_has_nil, fr_has_cons, Option.bind_some, Option.map_some, xbin, ibin, xresult_eq, xress_nil, xress_tmp, resV, ex_some, if_true, if_false, ite_true, ite_false, reduceIte, reduceCtorEq, Nat.reduceEqDiff, Nat.reduceLT, Nat.reduceLeDiff, Int.reduceLT, Int.reduceLE, Nat.zero_add, Nat.reduceAdd, Bool.false_eq_true, decide_eq_true_eq, decide_eq_false_iff_not, true_implies, false_implies, and_true, true_and, hlt, decide_true, e4, s1, e5, h, e6]
      subst hL
      have hst : (((x : Int) * 2 ^ 1).toNat ^^^ Int.toNat 69665) = crcStep x := by
        unfold crcStep
        rw [if_pos (by omega)]
        congr 1
      rw [hst]
      exact ih (crcStep x) (i + 1) H Q (crcStep_lt x hx) (by omega) (by omega) hq
    · simp only [xcrc_Next_l0, ofArgs, run_seq, run_block, run_ops, run_skip, run_exit, run_ret, thenQ_normal, thenQ_exit, thenQ_ret, blockQ_normal, blockQ_exit, blockQ_ret, retQ_ret, retQ_normal, ops_nil, ops_none, got_some, ops_wT, ops_wTn, ops_wF, ops_wFn, ops_wU, dops_wT, dops_wTn, dops_wF, dops_wFn, dops_wU, run_condT, run_condF, alt2_int, altB_bool, altI_int, altBB_bool, v_min, v_max, v_not, v_neg, optEv_none, optEv_some, isSome'_none, isSome'_some, pExt0, pExt1, pExt2, Bool.false_and, Bool.true_and, Bool.not_true, Bool.not_false, cond_true, cond_false, dops_nil, dops_none, xval_call, v_mov, v_bin, v_len, v_ext, v_idxA, v_ld, v_st, v_app, v_appN, v_cvs, v_bs1, pBs1, v_slc, v_conv, v_fld, v_fldA, v_new, v_box, v_mks, v_copy, v_isnil, v_nilck, v_pick, ev, evs_nil, evs_cons, fr_get_cons, fr_put_nil, fr_put_cons, fr_put_some, fr_put_none, fr_keep_nil, fr_keep_cons, fr_has_nil, fr_has_cons, Option.bind_some, Option.map_some, xbin, ibin, xresult_eq, xress_nil, xress_tmp, resV, ex_some, if_true, if_false, ite_true, ite_false, reduceIte, reduceCtorEq, Nat.reduceEqDiff, Nat.reduceLT, Nat.reduceLeDiff, Int.reduceLT, Int.reduceLE, Nat.zero_add, Nat.reduceAdd, Bool.false_eq_true, decide_eq_true_eq, decide_eq_false_iff_not, true_implies, false_implies, and_true, true_and, hlt, decide_true, e4, s1, e5, h, decide_false]
      subst hL
      have hst : (x : Int) * 2 ^ 1 = ((crcStep x : Nat) : Int) := by
        unfold crcStep
        rw [if_neg (by omega)]
        omega
      rw [hst]
      exact ih (crcStep x) (i + 1) H Q (crcStep_lt x hx) (by omega) (by omega) hq

theorem nx_lt0 (s c : Nat) (hc : c < 256) : (s &&& 65535) ^^^ (c * 256) < 65536 :=
  Nat.xor_lt_two_pow (n := 16) (Nat.lt_of_le_of_lt Nat.and_le_right (by omega)) (by omega)
theorem rounds_lt (k : Nat) : ∀ x, x < 65536 → crcRounds k x < 65536 := by
  induction k with
  | zero => intro x h; exact h
  | succ k ih => intro x h; exact ih _ (crcStep_lt x h)
theorem nx_lt (s c : Nat) (hc : c < 256) : nx s c < 65536 := rounds_lt 8 _ (nx_lt0 s c hc)

theorem crcNext_xc (s c : Nat) (H : AH) (hs : s < 1000000000) (hc : c < 256) : xc Try.prog tab 140 [.int .i64 (s : Nat), .int .u8 (c : Nat)] H = some (.int .i64 (nx s c : Nat), H) := by
  refine got_xc (got_call (res := [.tmp 4]) rfl ?_)
  have s8 : min (Int.toNat 8) IntKind.i64.bits = 8 := rfl
  have e1 := w_and (s : Int) 65535 (by omega) (by omega) (by omega) (by omega)
  have e2 := wrI (c : Int) (by omega) (by omega)
  have e3 := wrI ((c : Int) * 2 ^ 8) (by omega) (by omega)
  have ha : s &&& 65535 ≤ 65535 := Nat.and_le_right
  have e4 := w_xor (((s : Int).toNat &&& Int.toNat 65535 : Nat) : Int) ((c : Int) * 2 ^ 8) (by omega) (by simp; omega) (by omega) (by omega)
  simp only [ofArgs, run_seq, run_block, run_ops, run_skip, run_exit, run_ret, thenQ_normal, thenQ_exit, thenQ_ret, blockQ_normal, blockQ_exit, blockQ_ret, retQ_ret, retQ_normal, ops_nil, ops_none, got_some, ops_wT, ops_wTn, ops_wF, ops_wFn, ops_wU, dops_wT, dops_wTn, dops_wF, dops_wFn, dops_wU, run_condT, run_condF, alt2_int, altB_bool, altI_int, altBB_bool, v_min, v_max, v_not, v_neg, optEv_none, optEv_some, isSome'_none, isSome'_some, pExt0, pExt1, pExt2, Bool.false_and, Bool.true_and, Bool.not_true, Bool.not_false, cond_true, cond_false, dops_nil, dops_none, xval_call, v_mov, v_bin, v_len, v_ext, v_idxA, v_ld, v_st, v_app, v_appN, v_cvs, v_bs1, pBs1, v_slc, v_conv, v_fld, v_fldA, v_new, v_box, v_mks, v_copy, v_isnil, v_nilck, v_pick, ev, evs_nil, evs_cons, fr_get_cons, fr_put_nil, fr_put_cons, fr_put_some, fr_put_none, fr_keep_nil, fr_keep_cons, fr_has_nil, fr_has_cons, Option.bind_some, Option.map_some, xbin, ibin, xresult_eq, xress_nil, xress_tmp, resV, ex_some, if_true, if_false, ite_true, ite_false, reduceIte, reduceCtorEq, Nat.reduceEqDiff, Nat.reduceLT, Nat.reduceLeDiff, Int.reduceLT, Int.reduceLE, Nat.zero_add, Nat.reduceAdd, Bool.false_eq_true, decide_eq_true_eq, decide_eq_false_iff_not, true_implies, false_implies, and_true, true_and, pConv, e1, e2, e3, s8, e4]
  have hst : ((((s : Int).toNat &&& Int.toNat 65535 : Nat) : Int).toNat ^^^ ((c : Int) * 2 ^ 8).toNat) = (s &&& 65535) ^^^ (c * 256) := by
    have h1 : ((c : Int) * 2 ^ 8).toNat = c * 256 := by omega
    rw [h1]; rfl
  rw [hst]
  refine next_l0 8 _ 0 H _ (nx_lt0 s c hc) (by omega) (by omega) ?_
  simp only [ofArgs, run_seq, run_block, run_ops, run_skip, run_exit, run_ret, thenQ_normal, thenQ_exit, thenQ_ret, blockQ_normal, blockQ_exit, blockQ_ret, retQ_ret, retQ_normal, ops_nil, ops_none, got_some, ops_wT, ops_wTn, ops_wF, ops_wFn, ops_wU, dops_wT, dops_wTn, dops_wF, dops_wFn, dops_wU, run_condT, run_condF, alt2_int, altB_bool, altI_int, altBB_bool, v_min, v_max, v_not, v_neg, optEv_none, optEv_some, isSome'_none, isSome'_some, pExt0, pExt1, pExt2, Bool.false_and, Bool.true_and, Bool.not_true, Bool.not_false, cond_true, cond_false, dops_nil, dops_none, xval_call, v_mov, v_bin, v_len, v_ext, v_idxA, v_ld, v_st, v_app, v_appN, v_cvs, v_bs1, pBs1, v_slc, v_conv, v_fld, v_fldA, v_new, v_box, v_mks, v_copy, v_isnil, v_nilck, v_pick, ev, evs_nil, evs_cons, fr_get_cons, fr_put_nil, fr_put_cons, fr_put_some, fr_put_none, fr_keep_nil, fr_keep_cons, fr_has_nil, fr_has_cons, Option.bind_some, Option.map_some, xbin, ibin, xresult_eq, xress_nil, xress_tmp, resV, ex_some, if_true, if_false, ite_true, ite_false, reduceIte, reduceCtorEq, Nat.reduceEqDiff, Nat.reduceLT, Nat.reduceLeDiff, Int.reduceLT, Int.reduceLE, Nat.zero_add, Nat.reduceAdd, Bool.false_eq_true, decide_eq_true_eq, decide_eq_false_iff_not, true_implies, false_implies, and_true, true_and]
  rfl
end Go.Proofs.Ytejedmocjdcdgaa.D

set_option linter.unusedSimpArgs false
set_option linter.unusedVariables false
namespace Go.Proofs.Ytejedmocjdcdgaa.D
open Go Go.Det

theorem byts_idx {H : AH} {s : Value} {l : List Int} (h : Byts H s l) (i : Int) (k : Nat) (hi : i = (k : Int)) (hk : k < l.length) : pIdx 1 s (.int .i64 i) H = some (ptrAt s k, H) := pIdx_one h .i64 i k hi hk
theorem byts_ld {H : AH} {s : Value} {l : List Int} (h : Byts H s l) (k : Nat) (a : Int) (ha : l[k]? = some a) : pLd none (ptrAt s k) H = some (.int .u8 a, H) := pLd_one h k _ (by simp [ha])
theorem byts_len' {H : AH} {s : Value} {l : List Int} (hs : Byts H s l) : pLen s H = some (.int .i64 (l.length : Int), H) := pLen_ok hs
theorem Byts.app1 {H : AH} {s : Value} {pre rest : List Int} {a : Int} (hs : Byts H s (pre ++ a :: rest)) : Byts H s ((pre ++ [a]) ++ rest) := by
  rw [List.append_assoc]; exact hs

def crcFold (s : Nat) (l : List Int) : Nat := l.foldl (fun s c => nx s c.toNat) s
theorem crcFold_cons (s : Nat) (c : Int) (l : List Int) : crcFold s (c :: l) = crcFold (nx s c.toNat) l := by
  unfold crcFold; rw [List.foldl_cons]
theorem crcFold_lt (l : List Int) (h : B8 l) : ∀ s, s < 65536 → crcFold s l < 65536 := by
  induction l with
  | nil => intro s hs; exact hs
  | cons c l ih =>
    intro s hs
    have hc := h c (by simp)
    have hn := nx_lt s c.toNat (by omega)
    rw [crcFold_cons]
    generalize nx s c.toNat = y at hn
    exact ih (fun b hb => h b (by simp [hb])) y hn

theorem sum_l0 (s : Value) (H : AH) (rest : List Int) : ∀ (pre : List Int) (x : Nat) (i N : Int) (Q : XExit → Fr → AH → Prop), Byts H s (pre ++ rest) → B8 rest → x < 65536 → pre.length + rest.length ≤ 100000000 → i = (pre.length : Int) → N = ((pre ++ rest).length : Int) →
    Q (.exit 0) [(3, .int .i64 (crcFold x rest : Nat)), (6, s), (7, .int .i64 N), (8, .int .i64 N), (9, .bool false)] H → Run Try.prog tab (.loop xcrc_Sum16_l0) [(3, .int .i64 (x : Nat)), (6, s), (7, .int .i64 N), (8, .int .i64 i)] H Q := by
  induction rest with
  | nil =>
    intro pre x i N Q hs hb hx hl hi hN hq
    rw [run_loop]
    generalize hL : XCode.loop xcrc_Sum16_l0 = L
    have hiN : i = N := by simp at hN; omega
    subst hiN
    have hf : ¬ i < i := by omega
    simp only [xcrc_Sum16_l0, ofArgs, run_seq, run_block, run_ops, run_skip, run_exit, run_ret, thenQ_normal, thenQ_exit, thenQ_ret, blockQ_normal, blockQ_exit, blockQ_ret, retQ_ret, retQ_normal, ops_nil, ops_none, got_some, ops_wT, ops_wTn, ops_wF, ops_wFn, ops_wU, dops_wT, dops_wTn, dops_wF, dops_wFn, dops_wU, run_condT, run_condF, alt2_int, altB_bool, altI_int, altBB_bool, v_min, v_max, v_not, v_neg, optEv_none, optEv_some, isSome'_none, isSome'_some, pExt0, pExt1, pExt2, Bool.false_and, Bool.true_and, Bool.not_true, Bool.not_false, cond_true, cond_false, dops_nil, dops_none, xval_call, v_mov, v_bin, v_len, v_ext, v_idxA, v_ld, v_st, v_app, v_appN, v_cvs, v_bs1, pBs1, v_slc, v_conv, v_fld, v_fldA, v_new, v_box, v_mks, v_copy, v_isnil, v_nilck, v_pick, ev, evs_nil, evs_cons, fr_get_cons, fr_put_nil, fr_put_cons, fr_put_some, fr_put_none, fr_keep_nil, fr_keep_cons, fr_has_nil, fr_has_cons, Option.bind_some, Option.map_some, xbin, ibin, xresult_eq, xress_nil, xress_tmp, resV, ex_some, if_true, if_false, ite_true, ite_false, reduceIte, reduceCtorEq, Nat.reduceEqDiff, Nat.reduceLT, Nat.reduceLeDiff, Int.reduceLT, Int.reduceLE, Nat.zero_add, Nat.reduceAdd, Bool.false_eq_true, decide_eq_true_eq, decide_eq_false_iff_not, true_implies, false_implies, and_true, true_and, hf, decide_false]
    simpa [crcFold] using hq
  | cons a rest ih =>
    intro pre x i N Q hs hb hx hl hi hN hq
    simp only [List.length_cons] at hl
    rw [run_loop]
    generalize hL : XCode.loop xcrc_Sum16_l0 = L
    have hlt : i < N := by simp at hN; omega
    have ha := hb a (by simp)
    have e1 := byts_idx hs i pre.length hi (by simp)
    have e2 := byts_ld hs pre.length a (by simp)
    have e4 := wrI (i + 1) (by omega) (by omega)
    have e5 := crcNext_xc x a.toNat H (by omega) (by omega)
    rw [Int.toNat_of_nonneg ha.1] at e5
    simp only [xcrc_Sum16_l0, ofArgs, run_seq, run_block, run_ops, run_skip, run_exit, run_ret, thenQ_normal, thenQ_exit, thenQ_ret, blockQ_normal, blockQ_exit, blockQ_ret, retQ_ret, retQ_normal, ops_nil, ops_none, got_some, ops_wT, ops_wTn, ops_wF, ops_wFn, ops_wU, dops_wT, dops_wTn, dops_wF, dops_wFn, dops_wU, run_condT, run_condF, alt2_int, altB_bool, altI_int, altBB_bool, v_min, v_max, v_not, v_neg, optEv_none, optEv_some, isSome'_none, isSome'_some, pExt0, pExt1, pExt2, Bool.false_and, Bool.true_and, Bool.not_true, Bool.not_false, cond_true, cond_false, dops_nil, dops_none, xval_call, v_mov, v_bin, v_len, v_ext, v_idxA, v_ld, v_st, v_app, v_appN, v_cvs, v_bs1, pBs1, v_slc, v_conv, v_fld, v_fldA, v_new, v_box, v_mks, v_copy, v_isnil, v_nilck, v_pick, ev, evs_nil, evs_cons, fr_get_cons, fr_put_nil, fr_put_cons, fr_put_some, fr_put_none, fr_keep_nil, fr_keep_cons, fr_has_nil, fr_has_cons, Option.bind_some, Option.map_some, xbin, ibin, xresult_eq, xress_nil, xress_tmp, resV, ex_some, if_true, if_false, ite_true, ite_false, reduceIte, reduceCtorEq, Nat.reduceEqDiff, Nat.reduceLT, Nat.reduceLeDiff, Int.reduceLT, Int.reduceLE, Nat.zero_add, Nat.reduceAdd, Bool.false_eq_true, decide_eq_true_eq, decide_eq_false_iff_not, true_implies, false_implies, and_true, true_and, hlt, decide_true, e1, e2, e4, e5]
    subst hL
    have hn := nx_lt x a.toNat (by omega)
    rw [crcFold_cons] at hq
    generalize nx x a.toNat = y at hn hq
    exact ih (pre ++ [a]) y (i + 1) N Q (Byts.app1 hs) (fun p hp => hb p (by simp [hp])) hn (by simp; omega) (by simp; omega) (by simpa using hN) hq

theorem sum16_xc (l : List Int) (s : Value) (H : AH) (hs : Byts H s l) (hb : B8 l) (hl : l.length ≤ 100000000) : xc Try.prog tab 127 [s] H = some (.int .i64 (crcFold 65535 l : Nat), H) := by
  refine got_xc (got_call (res := [.tmp 2]) rfl ?_)
  have e4 := byts_len' hs
  simp only [ofArgs, run_seq, run_block, run_ops, run_skip, run_exit, run_ret, thenQ_normal, thenQ_exit, thenQ_ret, blockQ_normal, blockQ_exit, blockQ_ret, retQ_ret, retQ_normal, ops_nil, ops_none, got_some, ops_wT, ops_wTn, ops_wF, ops_wFn, ops_wU, dops_wT, dops_wTn, dops_wF, dops_wFn, dops_wU, run_condT, run_condF, alt2_int, altB_bool, altI_int, altBB_bool, v_min, v_max, v_not, v_neg, optEv_none, optEv_some, isSome'_none, isSome'_some, pExt0, pExt1, pExt2, Bool.false_and, Bool.true_and, Bool.not_true, Bool.not_false, cond_true, cond_false, dops_nil, dops_none, xval_call, v_mov, v_bin, v_len, v_ext, v_idxA, v_ld, v_st, v_app, v_appN, v_cvs, v_bs1, pBs1, v_slc, v_conv, v_fld, v_fldA, v_new, v_box, v_mks, v_copy, v_isnil, v_nilck, v_pick, ev, evs_nil, evs_cons, fr_get_cons, fr_put_nil, fr_put_cons, fr_put_some, fr_put_none, fr_keep_nil, fr_keep_cons, fr_has_nil, fr_has_cons, Option.bind_some, Option.map_some, xbin, ibin, xresult_eq, xress_nil, xress_tmp, resV, ex_some, if_true, if_false, ite_true, ite_false, reduceIte, reduceCtorEq, Nat.reduceEqDiff, Nat.reduceLT, Nat.reduceLeDiff, Int.reduceLT, Int.reduceLE, Nat.zero_add, Nat.reduceAdd, Bool.false_eq_true, decide_eq_true_eq, decide_eq_false_iff_not, true_implies, false_implies, and_true, true_and, e4]
  refine sum_l0 s H l [] 65535 _ _ _ hs hb (by omega) (by simpa using hl) (by simp) (by simp) ?_
  simp only [ofArgs, run_seq, run_block, run_ops, run_skip, run_exit, run_ret, thenQ_normal, thenQ_exit, thenQ_ret, blockQ_normal, blockQ_exit, blockQ_ret, retQ_ret, retQ_normal, ops_nil, ops_none, got_some, ops_wT, ops_wTn, ops_wF, ops_wFn, ops_wU, dops_wT, dops_wTn, dops_wF, dops_wFn, dops_wU, run_condT, run_condF, alt2_int, altB_bool, altI_int, altBB_bool, v_min, v_max, v_not, v_neg, optEv_none, optEv_some, isSome'_none, isSome'_some, pExt0, pExt1, pExt2, Bool.false_and, Bool.true_and, Bool.not_true, Bool.not_false, cond_true, cond_false, dops_nil, dops_none, xval_call, v_mov, v_bin, v_len, v_ext, v_idxA, v_ld, v_st, v_app, v_appN, v_cvs, v_bs1, pBs1, v_slc, v_conv, v_fld, v_fldA, v_new, v_box, v_mks, v_copy, v_isnil, v_nilck, v_pick, ev, evs_nil, evs_cons, fr_get_cons, fr_put_nil, fr_put_cons, fr_put_some, fr_put_none, fr_keep_nil, fr_keep_cons, fr_has_nil, fr_has_cons, Option.bind_some, Option.map_some, xbin, ibin, xresult_eq, xress_nil, xress_tmp, resV, ex_some, if_true, if_false, ite_true, ite_false, reduceIte, reduceCtorEq, Nat.reduceEqDiff, Nat.reduceLT, Nat.reduceLeDiff, Int.reduceLT, Int.reduceLE, Nat.zero_add, Nat.reduceAdd, Bool.false_eq_true, decide_eq_true_eq, decide_eq_false_iff_not, true_implies, false_implies, and_true, true_and]

def xorFold (s : Nat) (l : List Int) : Nat := l.foldl (fun s c => s ^^^ c.toNat) s
theorem xorFold_cons (s : Nat) (c : Int) (l : List Int) : xorFold s (c :: l) = xorFold (s ^^^ c.toNat) l := by
  unfold xorFold; rw [List.foldl_cons]
theorem b8_sum (l : List Int) (hb : B8 l) : 0 ≤ l.sum ∧ l.sum ≤ 256 * (l.length : Int) := by
  induction l with
  | nil => simp
  | cons a l ih =>
    have ha := hb a (by simp)
    have := ih (fun b h => hb b (by simp [h]))
    simp only [List.sum_cons, List.length_cons]
    omega

end Go.Proofs.Ytejedmocjdcdgaa.D

set_option linter.unusedSimpArgs false
set_option linter.unusedVariables false
namespace Go.Proofs.Ytejedmocjdcdgaa.D
open Go Go.Det

/-- some bytes of raw numbers -/
def someB (l : List Int) (n : Int) : List Int := byts (l.headD 0 % n).toNat l
theorem someB_b8 (l : List Int) (n : Int) : B8 (someB l n) := byts_b8 _ _
theorem someB_len (l : List Int) (n : Int) (hn : 0 < n) (hn' : n ≤ 1000000) : (someB l n).length < n.toNat := by
  have h1 := Int.emod_lt_of_pos (l.headD 0) hn
  have h0 := Int.emod_nonneg (l.headD 0) (by omega : n ≠ 0)
  unfold someB
  rw [byts_len]; omega

end Go.Proofs.Ytejedmocjdcdgaa.D

set_option linter.unusedSimpArgs false
set_option linter.unusedVariables false
namespace Go.Proofs.Ytejedmocjdcdgaa.D
open Go Go.Det

end Go.Proofs.Ytejedmocjdcdgaa.D

set_option linter.unusedSimpArgs false
set_option linter.unusedVariables false
namespace Go.Proofs.Ytejedmocjdcdgaa.D
open Go Go.Det

theorem u8s_one (l : List Int) : (l.map (Value.int .u8)).all one = true := ints_one l .u8

end Go.Proofs.Ytejedmocjdcdgaa.D

set_option linter.unusedSimpArgs false
set_option linter.unusedVariables false
namespace Go.Proofs.Ytejedmocjdcdgaa.D
open Go Go.Det

theorem crcFold_app (l m : List Int) (s : Nat) : crcFold s (l ++ m) = crcFold (crcFold s l) m := by
  unfold crcFold; rw [List.foldl_append]
theorem xorFold_app (m : List Int) : ∀ s t : Nat, xorFold (s ^^^ t) m = s ^^^ xorFold t m := by
  induction m with
  | nil => intro s t; rfl
  | cons a m ih => intro s t; rw [xorFold_cons, xorFold_cons, Nat.xor_assoc, ih]
theorem xorFold_join (l m : List Int) : xorFold 0 (l ++ m) = xorFold 0 l ^^^ xorFold 0 m := by
  have h1 : xorFold 0 (l ++ m) = xorFold (xorFold 0 l) m := by unfold xorFold; rw [List.foldl_append]
  have h2 := xorFold_app m (xorFold 0 l) 0
  rw [Nat.xor_zero] at h2
  rw [h1, h2]
theorem xorFold_lt (l : List Int) (h : B8 l) : ∀ s, s < 256 → xorFold s l < 256 := by
  induction l with
  | nil => intro s hs; exact hs
  | cons c l ih =>
    intro s hs
    have hc := h c (by simp)
    rw [xorFold_cons]
    exact ih (fun b hb => h b (by simp [hb])) _ (Nat.xor_lt_two_pow (n := 8) (by omega) (by omega))

theorem v_bsl2 {P : Program} {T : XTab} (fr : Fr) (H : AH) (dd : Option Nat) (e : TypeId) (z u v : Value) (x y : Operand) (hx : ev fr x = some u) (hy : ev fr y = some v) (h1 : one u = true) (h2 : vcells u = [u]) (h3 : one v = true) (h4 : vcells v = [v]) :
    xval P (xc P T) ⟨dd, .bslice e 1 2 [z] [(0, x), (1, y)], none⟩ fr H = some (.slice (some ⟨H.n, 0, none⟩) 2 2, H.push ⟨[u, v], 1, false, false⟩) := by
  rw [xval_op dd _ fr H rfl, e_bslice]
  simp only [List.map_cons, List.map_nil, rep, List.append_nil, xfill, hx, hy, h2, h4, List.all_cons, List.all_nil, h1, h3]
  rfl

end Go.Proofs.Ytejedmocjdcdgaa.D

set_option linter.unusedSimpArgs false
set_option linter.unusedVariables false
namespace Go.Proofs.Ytejedmocjdcdgaa.D
open Go Go.Det
/-! ### the sum is linear over the exclusive or -/
theorem step_bit (x j : Nat) (h : x < 65536) : (crcStep x).testBit j = (decide (j < 16) && ((decide (1 ≤ j) && x.testBit (j - 1)) ^^ (x.testBit 15 && (4129 : Nat).testBit j))) := by
  have hm : (x * 2).testBit j = (decide (1 ≤ j) && x.testBit (j - 1)) := by
    have := Nat.testBit_mul_two_pow x j 1
    simpa using this
  have hx : ∀ i, 16 ≤ i → x.testBit i = false := fun i hi => Nat.testBit_lt_two_pow (Nat.lt_of_lt_of_le (by omega : x < 2 ^ 16) (Nat.pow_le_pow_right (by omega) hi))
  unfold crcStep
  split
  · rename_i hc
    have h15 : x.testBit 15 = true := by
      rw [Nat.testBit_eq_decide_div_mod_eq]; simp; omega
    rw [Nat.testBit_xor, hm, h15]
    rcases Nat.lt_or_ge j 16 with hj | hj
    · have a2 : (69665 : Nat).testBit j = (4129 : Nat).testBit j := by
        have e2 : (69665 : Nat) = 2 ^ 16 * 1 + 4129 := by decide
        rw [e2, Nat.testBit_two_pow_mul_add _ (by omega), if_pos hj]
      rw [a2]; simp [hj]
    · have hn : ¬ j < 16 := by omega
      simp only [hn, decide_false, Bool.false_and]
      rcases Nat.eq_or_lt_of_le hj with e | e
      · subst e; rw [show 16 - 1 = 15 from rfl, h15]; decide
      · rw [hx (j - 1) (by omega)]
        have : (69665 : Nat).testBit j = false := Nat.testBit_lt_two_pow (Nat.lt_of_lt_of_le (by omega : 69665 < 2 ^ 17) (Nat.pow_le_pow_right (by omega) e))
        rw [this]; simp
  · rename_i hc
    have h15 : x.testBit 15 = false := by
      rw [Nat.testBit_eq_decide_div_mod_eq]; simp; omega
    rw [hm, h15]
    rcases Nat.lt_or_ge j 16 with hj | hj
    · simp [hj]
    · have hn : ¬ j < 16 := by omega
      have : x.testBit (j - 1) = false := Nat.testBit_lt_two_pow (Nat.lt_of_lt_of_le (by omega : x < 2 ^ 15) (Nat.pow_le_pow_right (by omega) (by omega)))
      simp [hn, this]
theorem step_xor (a b : Nat) (ha : a < 65536) (hb : b < 65536) : crcStep (a ^^^ b) = crcStep a ^^^ crcStep b := by
  have hab : a ^^^ b < 65536 := Nat.xor_lt_two_pow (n := 16) (by omega) (by omega)
  apply Nat.eq_of_testBit_eq
  intro j
  rw [Nat.testBit_xor (crcStep a), step_bit _ _ hab, step_bit _ _ ha, step_bit _ _ hb, Nat.testBit_xor, Nat.testBit_xor]
  cases decide (j < 16) <;> cases decide (1 ≤ j) <;> cases a.testBit (j - 1) <;> cases b.testBit (j - 1) <;> cases a.testBit 15 <;> cases b.testBit 15 <;> cases (4129 : Nat).testBit j <;> rfl
theorem step_zero (x : Nat) (h : x < 65536) (hz : crcStep x = 0) : x = 0 := by
  have h0 := step_bit x 0 h
  rw [hz] at h0
  have h15 : x.testBit 15 = false := by
    have : (4129 : Nat).testBit 0 = true := by decide
    simpa [this] using h0
  apply Nat.eq_of_testBit_eq
  intro j
  rw [Nat.zero_testBit]
  have h1 := step_bit x (j + 1) h
  rw [hz, h15] at h1
  rcases Nat.lt_or_ge j 15 with hj | hj
  · simpa [show j + 1 < 16 by omega] using h1
  · rcases Nat.eq_or_lt_of_le hj with e | e
    · subst e; exact h15
    · exact Nat.testBit_lt_two_pow (Nat.lt_of_lt_of_le (by omega : x < 2 ^ 16) (Nat.pow_le_pow_right (by omega) (by omega)))
theorem rounds_xor (k : Nat) : ∀ a b, a < 65536 → b < 65536 → crcRounds k (a ^^^ b) = crcRounds k a ^^^ crcRounds k b := by
  induction k with
  | zero => intro a b _ _; rfl
  | succ k ih => intro a b ha hb; simp only [crcRounds]; rw [step_xor a b ha hb, ih _ _ (crcStep_lt a ha) (crcStep_lt b hb)]
theorem rounds_ne (k : Nat) : ∀ a, a < 65536 → a ≠ 0 → crcRounds k a ≠ 0 := by
  induction k with
  | zero => intro a _ h; exact h
  | succ k ih => intro a ha h; exact ih _ (crcStep_lt a ha) (fun e => h (step_zero a ha e))
theorem rounds_zero (k : Nat) : crcRounds k 0 = 0 := by
  induction k with
  | zero => rfl
  | succ k ih => exact ih
theorem rounds_add (a b : Nat) : ∀ x, crcRounds (a + b) x = crcRounds b (crcRounds a x) := by
  induction a with
  | zero => intro x; rw [Nat.zero_add]; rfl
  | succ a ih => intro x; rw [Nat.succ_add]; exact ih _
theorem rounds_pow (k : Nat) : ∀ j, j + k ≤ 15 → crcRounds k (2 ^ j) = 2 ^ (j + k) := by
  induction k with
  | zero => intro j _; rfl
  | succ k ih =>
    intro j hj
    have hp : crcStep (2 ^ j) = 2 ^ (j + 1) := by
      unfold crcStep
      have h1 : 2 ^ j ≤ 2 ^ 14 := Nat.pow_le_pow_right (by omega) (by omega)
      rw [if_neg (by omega), Nat.pow_succ]
    show crcRounds k (crcStep (2 ^ j)) = _
    rw [hp, ih (j + 1) (by omega)]; congr 1; omega
theorem and16 (s : Nat) (h : s < 65536) : s &&& 65535 = s := by
  rw [Nat.and_two_pow_sub_one_eq_mod s 16]; omega
theorem x16 {a b : Nat} (ha : a < 65536) (hb : b < 65536) : a ^^^ b < 65536 := Nat.xor_lt_two_pow (n := 16) (by omega) (by omega)
theorem nx_xor (s t c m : Nat) (hs : s < 65536) (ht : t < 65536) (hc : c < 256) (hm : m < 256) : nx (s ^^^ t) (c ^^^ m) = nx s c ^^^ crcRounds 8 (t ^^^ m * 256) := by
  unfold nx
  rw [and16 _ (x16 hs ht), and16 _ hs, ← rounds_xor 8 _ _ (x16 hs (by omega)) (x16 ht (by omega))]
  congr 1
  have : (c ^^^ m) * 256 = c * 256 ^^^ m * 256 := by
    have := Nat.shiftLeft_xor_distrib (a := c) (b := m) (i := 8)
    simpa [Nat.shiftLeft_eq] using this
  rw [this]
  rw [Nat.xor_assoc, Nat.xor_assoc]; congr 1
  rw [← Nat.xor_assoc, Nat.xor_comm t, Nat.xor_assoc]
theorem crcFold_xor (l : List Int) (hb : B8 l) : ∀ s t, s < 65536 → t < 65536 → crcFold (s ^^^ t) l = crcFold s l ^^^ crcRounds (8 * l.length) t := by
  induction l with
  | nil => intro s t _ _; rfl
  | cons c l ih =>
    intro s t hs ht
    have hc := hb c (by simp)
    have h1 := nx_xor s t c.toNat 0 hs ht (by omega) (by omega)
    simp only [Nat.xor_zero, Nat.zero_mul] at h1
    rw [crcFold_cons, crcFold_cons, h1]
    have h2 := nx_lt s c.toNat (by omega)
    have h3 := rounds_lt 8 t ht
    rw [ih (fun b h => hb b (by simp [h])) _ _ h2 h3, List.length_cons, Nat.mul_succ, Nat.add_comm, rounds_add]
theorem crcFold_set (l : List Int) (hb : B8 l) (m : Nat) (hm : m < 256) : ∀ (q s : Nat), s < 65536 → q < l.length →
    crcFold s (l.set q (((l.getD q 0).toNat ^^^ m : Nat) : Int)) = crcFold s l ^^^ crcRounds (8 * (l.length - q)) (m * 256) := by
  induction l with
  | nil => intro q s _ h; simp at h
  | cons c l ih =>
    intro q s hs hq
    have hc := hb c (by simp)
    have hb' : B8 l := fun b h => hb b (by simp [h])
    have h2 := nx_lt s c.toNat (by omega)
    cases q with
    | zero =>
      simp only [List.set_cons_zero, List.getD_cons_zero, List.length_cons, Nat.sub_zero]
      rw [crcFold_cons, crcFold_cons, Int.toNat_natCast]
      have h1 := nx_xor s 0 c.toNat m hs (by omega) (by omega) hm
      rw [Nat.xor_zero, Nat.zero_xor] at h1
      have h3 := rounds_lt 8 (m * 256) (by omega)
      rw [h1, crcFold_xor l hb' _ _ h2 h3, show 8 * (l.length + 1) = 8 + 8 * l.length by omega, rounds_add]
    | succ q =>
      simp only [List.set_cons_succ, List.getD_cons_succ, List.length_cons, Nat.succ_sub_succ]
      rw [crcFold_cons, crcFold_cons]
      generalize nx s c.toNat = y at h2
      exact ih hb' q y h2 (by simpa using hq)

/-! ### bits -/
def flip (l : List Int) (i : Nat) : List Int := l.set (i / 8) (((l.getD (i / 8) 0).toNat ^^^ (128 >>> (i % 8)) : Nat) : Int)
def flips (l : List Int) (at' ch : Nat) : Nat → List Int
  | 0 => l
  | k + 1 => if ch.testBit k then flip (flips l at' ch k) (at' + k) else flips l at' ch k
def chs (ch : Nat) : Nat → Nat
  | 0 => 0
  | k + 1 => if ch.testBit k then chs ch k ^^^ 2 ^ (15 - k) else chs ch k
def bitAt (l : List Int) (i : Nat) : Bool := (l.getD (i / 8) 0).toNat.testBit (7 - i % 8)
theorem shr128 (r : Nat) (h : r < 8) : 128 >>> r = 2 ^ (7 - r) := by
  revert h; revert r; decide
theorem shr_lt (r : Nat) : 128 >>> r < 256 := by
  rw [Nat.shiftRight_eq_div_pow]
  exact Nat.lt_of_le_of_lt (Nat.div_le_self _ _) (by omega)
theorem flip_len (l : List Int) (i : Nat) : (flip l i).length = l.length := by unfold flip; simp
theorem b8_get (l : List Int) (hb : B8 l) (q : Nat) : 0 ≤ l.getD q 0 ∧ l.getD q 0 < 256 := by
  rw [List.getD_eq_getElem?_getD]
  cases h : l[q]? with
  | none => simp
  | some a => exact hb a (List.mem_of_getElem? h)
theorem b8_set (l : List Int) (hb : B8 l) (q : Nat) (a : Int) (h0 : 0 ≤ a) (h1 : a < 256) : B8 (l.set q a) := by
  intro b h
  rcases List.mem_or_eq_of_mem_set h with h | h
  · exact hb b h
  · subst h; exact ⟨h0, h1⟩
theorem x8 {a b : Nat} (ha : a < 256) (hb : b < 256) : a ^^^ b < 256 := Nat.xor_lt_two_pow (n := 8) (by omega) (by omega)
theorem flip_b8 (l : List Int) (hb : B8 l) (i : Nat) : B8 (flip l i) := by
  have := b8_get l hb (i / 8)
  have h1 := x8 (a := (l.getD (i / 8) 0).toNat) (b := 128 >>> (i % 8)) (by omega) (shr_lt _)
  exact b8_set l hb _ _ (by omega) (by omega)
theorem flips_len (l : List Int) (a ch : Nat) : ∀ k, (flips l a ch k).length = l.length := by
  intro k
  induction k with
  | zero => rfl
  | succ k ih => simp only [flips]; split <;> simp [flip_len, ih]
theorem flips_b8 (l : List Int) (hb : B8 l) (a ch : Nat) : ∀ k, B8 (flips l a ch k) := by
  intro k
  induction k with
  | zero => exact hb
  | succ k ih => simp only [flips]; split; exact flip_b8 _ ih _; exact ih
theorem crc_flip (l : List Int) (hb : B8 l) (a k s : Nat) (hs : s < 65536) (hk : k ≤ 15) (hi : a + k < 8 * l.length) : crcFold s (flip l (a + k)) = crcFold s l ^^^ crcRounds (8 * l.length - a) (2 ^ (15 - k)) := by
  have e3 : 8 * l.length - a = k + (8 * l.length - (a + k)) := by omega
  rw [e3, rounds_add, rounds_pow _ _ (by omega)]
  rw [show 15 - k + k = 15 by omega]
  clear e3
  generalize a + k = i at hi
  have h := crcFold_set l hb (128 >>> (i % 8)) (shr_lt _) (i / 8) s hs (by omega)
  unfold flip
  rw [h, shr128 _ (by omega)]
  clear h
  congr 1
  have e2 : 8 * (l.length - i / 8) = i % 8 + (8 * l.length - i) := by omega
  have e1 : 2 ^ (7 - i % 8) * 256 = 2 ^ (15 - i % 8) := by
    rw [show 256 = 2 ^ 8 from rfl, ← Nat.pow_add]; congr 1; omega
  rw [e1, e2, rounds_add, rounds_pow _ _ (by omega)]
  congr 2; omega
theorem chs_lt (ch : Nat) : ∀ k, chs ch k < 65536 := by
  intro k
  induction k with
  | zero => simp [chs]
  | succ k ih =>
    simp only [chs]; split
    · exact x16 ih (Nat.lt_of_le_of_lt (Nat.pow_le_pow_right (by omega) (by omega : 15 - k ≤ 15)) (by omega))
    · exact ih
theorem chs_bit (ch : Nat) : ∀ k, k ≤ 16 → ∀ j, j ≤ 15 → (chs ch k).testBit (15 - j) = (decide (j < k) && ch.testBit j) := by
  intro k
  induction k with
  | zero => intro _ j _; simp [chs]
  | succ k ih =>
    intro hk j hj
    have := ih (by omega) j hj
    simp only [chs]
    split
    · rename_i hb
      rw [Nat.testBit_xor, this, Nat.testBit_two_pow]
      by_cases e : j = k
      · subst e; simp [hb]
      · have e1 : ¬ (15 - k = 15 - j) := by omega
        have e2 : decide (j < k + 1) = decide (j < k) := by simp; omega
        simp [e1, e2]
    · rename_i hb
      rw [this]
      by_cases e : j = k
      · subst e; simp [hb]
      · have e2 : decide (j < k + 1) = decide (j < k) := by simp; omega
        rw [e2]
theorem chs_ne (ch : Nat) (h0 : ch ≠ 0) (h1 : ch < 65536) : chs ch 16 ≠ 0 := by
  obtain ⟨j, hj⟩ := Nat.exists_testBit_of_ne_zero h0
  have hj16 : j < 16 := by
    rcases Nat.lt_or_ge j 16 with h | h
    · exact h
    · have : ch.testBit j = false := Nat.testBit_lt_two_pow (Nat.lt_of_lt_of_le (by omega : ch < 2 ^ 16) (Nat.pow_le_pow_right (by omega) h))
      rw [this] at hj; cases hj
  intro e
  have := chs_bit ch 16 (by omega) j (by omega)
  rw [e, hj] at this
  simp [hj16] at this
theorem crc_flips (l : List Int) (hb : B8 l) (a ch s : Nat) (hs : s < 65536) (ha : a + 16 ≤ 8 * l.length) : ∀ k, k ≤ 16 → crcFold s (flips l a ch k) = crcFold s l ^^^ crcRounds (8 * l.length - a) (chs ch k) := by
  intro k
  induction k with
  | zero => intro _; simp only [flips, chs]; rw [rounds_zero, Nat.xor_zero]
  | succ k ih =>
    intro hk
    have h := ih (by omega)
    simp only [flips, chs]
    split
    · have hl := flips_len l a ch k
      have h2 := crc_flip (flips l a ch k) (flips_b8 l hb a ch k) a k s hs (by omega) (by omega)
      have h3 : 2 ^ (15 - k) < 65536 := Nat.lt_of_le_of_lt (Nat.pow_le_pow_right (by omega) (by omega : 15 - k ≤ 15)) (by omega)
      rw [h2, h, hl, rounds_xor _ _ _ (chs_lt ch k) h3, Nat.xor_assoc]
    · exact h
theorem bit_flip (l : List Int) (i j : Nat) (hi : i < 8 * l.length) : bitAt (flip l i) j = (bitAt l j ^^ decide (i = j)) := by
  unfold bitAt flip
  by_cases h : i / 8 = j / 8
  · rw [h, List.getD_eq_getElem?_getD, List.getElem?_set_self (by omega), Option.getD_some, Int.toNat_natCast, Nat.testBit_xor, shr128 _ (by omega), Nat.testBit_two_pow]
    congr 1
    apply decide_eq_decide.2
    omega
  · have : ¬ i = j := fun e => h (by rw [e])
    rw [List.getD_eq_getElem?_getD, List.getElem?_set_ne h, ← List.getD_eq_getElem?_getD]
    simp [this]
theorem bit_flips (l : List Int) (a ch j : Nat) (ha : a + 16 ≤ 8 * l.length) : ∀ k, k ≤ 16 → bitAt (flips l a ch k) j = (bitAt l j ^^ (decide (a ≤ j) && decide (j < a + k) && ch.testBit (j - a))) := by
  intro k
  induction k with
  | zero =>
    intro _
    simp only [flips]
    have h2 : (decide (a ≤ j) && decide (j < a + 0)) = false := by
      by_cases h : a ≤ j
      · have : ¬ j < a + 0 := by omega
        simp [this]
      · simp [h]
    rw [h2, Bool.false_and, Bool.xor_false]
  | succ k ih =>
    intro hk
    have h := ih (by omega)
    simp only [flips]
    split
    · rename_i hb
      rw [bit_flip _ _ _ (by rw [flips_len]; omega), h]
      by_cases e : a + k = j
      · subst e; simp [hb]
      · have e2 : decide (j < a + (k + 1)) = decide (j < a + k) := by simp; omega
        simp [e, e2]
    · rename_i hb
      rw [h]
      by_cases e : a + k = j
      · subst e; simp [hb]
      · have e2 : decide (j < a + (k + 1)) = decide (j < a + k) := by simp; omega
        rw [e2]

/-! ### the burst -/
def bf (p : Nat → Bool) : Nat → Int × Int
  | 0 => (-1, -1)
  | n + 1 => if p n then (if (bf p n).1 < 0 then (n : Int) else (bf p n).1, (n : Int)) else bf p n
def bv (p : Nat → Bool) (n : Nat) : Int := if (bf p n).1 < 0 then 0 else (bf p n).2 - (bf p n).1 + 1
theorem bf_range (p : Nat → Bool) (n : Nat) : (bf p n).1 < 0 ∧ (bf p n).1 = -1 ∧ (bf p n).2 = -1 ∨ 0 ≤ (bf p n).1 ∧ (bf p n).1 ≤ (bf p n).2 ∧ (bf p n).2 < (n : Int) := by
  induction n with
  | zero => simp [bf]
  | succ n ih =>
    simp only [bf]
    split
    · split <;> simp only [] <;> omega
    · omega
theorem bf_in (p : Nat → Bool) (a : Nat) (hp : ∀ i, p i = true → a ≤ i ∧ i < a + 16) (n : Nat) : ((bf p n).1 < 0 ∧ ∀ i, i < n → p i = false) ∨ ((a : Int) ≤ (bf p n).1 ∧ (bf p n).1 ≤ (bf p n).2 ∧ (bf p n).2 < (a : Int) + 16) := by
  induction n with
  | zero => left; exact ⟨by simp [bf], fun i hi => by omega⟩
  | succ n ih =>
    simp only [bf]
    by_cases h : p n = true
    · have := hp n h
      right
      simp only [h, if_true]
      have hr := bf_range p n
      split <;> omega
    · simp only [h]
      rcases ih with ⟨h1, h2⟩ | h1
      · left
        refine ⟨by simpa using h1, fun i hi => ?_⟩
        rcases Nat.lt_or_eq_of_le (Nat.le_of_lt_succ hi) with h3 | h3
        · exact h2 i h3
        · subst h3; simpa using h
      · right; simpa using h1
theorem bv_in (p : Nat → Bool) (a n i : Nat) (hp : ∀ i, p i = true → a ≤ i ∧ i < a + 16) (hi : i < n) (hpi : p i = true) : 1 ≤ bv p n ∧ bv p n ≤ 16 := by
  unfold bv
  rcases bf_in p a hp n with ⟨_, h2⟩ | h
  · rw [h2 i hi] at hpi; cases hpi
  · rw [if_neg (by omega)]; omega
theorem crc_found (s : List Int) (hb : B8 s) (a ch : Nat) (h0 : ch ≠ 0) (h1 : ch < 65536) (ha : a + 16 ≤ 8 * s.length) (hz : crcFold 65535 s = 0) : crcFold 65535 (flips s a ch 16) ≠ 0 := by
  rw [crc_flips s hb a ch 65535 (by omega) ha 16 (by omega), hz, Nat.zero_xor]
  exact rounds_ne _ _ (chs_lt _ _) (chs_ne ch h0 h1)
theorem burst_found (s : List Int) (a ch : Nat) (h0 : ch ≠ 0) (h1 : ch < 65536) (ha : a + 16 ≤ 8 * s.length) :
    1 ≤ bv (fun i => bitAt s i ^^ bitAt (flips s a ch 16) i) (8 * s.length) ∧ bv (fun i => bitAt s i ^^ bitAt (flips s a ch 16) i) (8 * s.length) ≤ 16 := by
  obtain ⟨j, hj⟩ := Nat.exists_testBit_of_ne_zero h0
  have hj16 : j < 16 := by
    rcases Nat.lt_or_ge j 16 with h | h
    · exact h
    · have : ch.testBit j = false := Nat.testBit_lt_two_pow (Nat.lt_of_lt_of_le (by omega : ch < 2 ^ 16) (Nat.pow_le_pow_right (by omega) h))
      rw [this] at hj; cases hj
  have e : ∀ i, (bitAt s i ^^ bitAt (flips s a ch 16) i) = (decide (a ≤ i) && decide (i < a + 16) && ch.testBit (i - a)) := by
    intro i
    rw [bit_flips s a ch i ha 16 (by omega), ← Bool.xor_assoc, Bool.xor_self, Bool.false_xor]
  refine bv_in _ a _ (a + j) ?_ (by omega) ?_
  · intro i hi
    rw [e i] at hi
    simp at hi
    omega
  · simp only [e]
    simp [hj16, hj]
theorem burst_comm (s t : List Int) (n : Nat) : bv (fun i => bitAt t i ^^ bitAt s i) n = bv (fun i => bitAt s i ^^ bitAt t i) n := by
  congr 1; funext i; exact Bool.xor_comm _ _
end Go.Proofs.Ytejedmocjdcdgaa.D

set_option linter.unusedSimpArgs false
set_option linter.unusedVariables false
namespace Go.Proofs.Ytejedmocjdcdgaa.D
open Go Go.Det

theorem equalB_l0 (s u : Value) (H : AH) (t : List Int) : ∀ (w pre qre : List Int) (i N : Int) (Q : XExit → Fr → AH → Prop), Byts H s (pre ++ t) → Byts H u (qre ++ w) → t.length = w.length → pre.length = qre.length → pre.length + t.length < 4611686018427387904 → i = (pre.length : Int) → N = ((pre ++ t).length : Int) →
    (t = w → Q (.exit 0) [(0, s), (1, u), (12, .int .i64 N), (13, .int .i64 N), (14, .bool false)] H) → (t ≠ w → Q .ret [(4, .bool false)] H) →
    Run Try.prog tab (.loop xslices_Equal_Sbyte_byte_l0) [(0, s), (1, u), (12, .int .i64 N), (13, .int .i64 i)] H Q := by
  induction t with
  | nil =>
    intro w pre qre i N Q hs hu hw hp hl hi hN hq hq2
    obtain rfl : w = [] := by cases w <;> simp_all
    rw [run_loop]
    generalize hL : XCode.loop xslices_Equal_Sbyte_byte_l0 = L
    have hiN : i = N := by simp at hN; omega
    subst hiN
    have hf : ¬ i < i := by omega
    simp only [xslices_Equal_Sbyte_byte_l0, ofArgs, run_seq, run_block, run_ops, run_skip, run_exit, run_ret, thenQ_normal, thenQ_exit, thenQ_ret, blockQ_normal, blockQ_exit, blockQ_ret, retQ_ret, retQ_normal, ops_nil, ops_none, got_some, ops_wT, ops_wTn, ops_wF, ops_wFn, ops_wU, dops_wT, dops_wTn, dops_wF, dops_wFn, dops_wU, run_condT, run_condF, alt2_int, altB_bool, altI_int, altBB_bool, v_min, v_max, v_not, v_neg, optEv_none, optEv_some, isSome'_none, isSome'_some, pExt0, pExt1, pExt2, Bool.false_and, Bool.true_and, Bool.not_true, Bool.not_false, cond_true, cond_false, dops_nil, dops_none, xval_call, v_mov, v_bin, v_len, v_ext, v_idxA, v_ld, v_st, v_app, v_appN, v_cvs, v_bs1, pBs1, v_slc, v_conv, v_fld, v_fldA, v_new, v_box, v_mks, v_copy, v_isnil, v_nilck, v_pick, ev, evs_nil, evs_cons, fr_get_cons, fr_put_nil, fr_put_cons, fr_put_some, fr_put_none, fr_keep_nil, fr_keep_cons, fr_has_nil, fr_has_cons, Option.bind_some, Option.map_some, xbin, ibin, xresult_eq, xress_nil, xress_tmp, resV, ex_some, if_true, if_false, ite_true, ite_false, reduceIte, reduceCtorEq, Nat.reduceEqDiff, Nat.reduceLT, Nat.reduceLeDiff, Int.reduceLT, Int.reduceLE, Nat.zero_add, Nat.reduceAdd, Bool.false_eq_true, decide_eq_true_eq, decide_eq_false_iff_not, true_implies, false_implies, and_true, true_and, hf, decide_false]
    simpa using hq rfl
  | cons a t ih =>
    intro w pre qre i N Q hs hu hw hp hl hi hN hq hq2
    cases w with
    | nil => simp at hw
    | cons b w =>
      simp only [List.length_cons] at hl hw
      rw [run_loop]
      generalize hL : XCode.loop xslices_Equal_Sbyte_byte_l0 = L
      have hlt : i < N := by simp at hN; omega
      have e1 := byts_idx hs i pre.length hi (by simp)
      have e2 := byts_ld hs pre.length a (by simp)
      have e3 := byts_idx hu i pre.length hi (by simp; omega)
      have e5 := byts_ld hu pre.length b (by simp [hp])
      have e4 := wrI (i + 1) (by omega) (by omega)
      simp only [xslices_Equal_Sbyte_byte_l0, ofArgs, run_seq, run_block, run_ops, run_skip, run_exit, run_ret, thenQ_normal, thenQ_exit, thenQ_ret, blockQ_normal, blockQ_exit, blockQ_ret, retQ_ret, retQ_normal, ops_nil, ops_none, got_some, ops_wT, ops_wTn, ops_wF, ops_wFn, ops_wU, dops_wT, dops_wTn, dops_wF, dops_wFn, dops_wU, run_condT, run_condF, alt2_int, altB_bool, altI_int, altBB_bool, v_min, v_max, v_not, v_neg, optEv_none, optEv_some, isSome'_none, isSome'_some, pExt0, pExt1, pExt2, Bool.false_and, Bool.true_and, Bool.not_true, Bool.not_false, cond_true, cond_false, dops_nil, dops_none, xval_call, v_mov, v_bin, v_len, v_ext, v_idxA, v_ld, v_st, v_app, v_appN, v_cvs, v_bs1, pBs1, v_slc, v_conv, v_fld, v_fldA, v_new, v_box, v_mks, v_copy, v_isnil, v_nilck, v_pick, ev, evs_nil, evs_cons, fr_get_cons, fr_put_nil, fr_put_cons, fr_put_some, fr_put_none, fr_keep_nil, fr_keep_cons, fr_has_nil, fr_has_cons, Option.bind_some, Option.map_some, xbin, ibin, xresult_eq, xress_nil, xress_tmp, resV, ex_some, if_true, if_false, ite_true, ite_false, reduceIte, reduceCtorEq, Nat.reduceEqDiff, Nat.reduceLT, Nat.reduceLeDiff, Int.reduceLT, Int.reduceLE, Nat.zero_add, Nat.reduceAdd, Bool.false_eq_true, decide_eq_true_eq, decide_eq_false_iff_not, true_implies, false_implies, and_true, true_and, hlt, decide_true]
      refine run_dops _ _ _ _ _ rfl ?_
      by_cases hab : a = b
      · subst hab
        simp only [ofArgs, run_seq, run_block, run_ops, run_skip, run_exit, run_ret, thenQ_normal, thenQ_exit, thenQ_ret, blockQ_normal, blockQ_exit, blockQ_ret, retQ_ret, retQ_normal, ops_nil, ops_none, got_some, ops_wT, ops_wTn, ops_wF, ops_wFn, ops_wU, dops_wT, dops_wTn, dops_wF, dops_wFn, dops_wU, run_condT, run_condF, alt2_int, altB_bool, altI_int, altBB_bool, v_min, v_max, v_not, v_neg, optEv_none, optEv_some, isSome'_none, isSome'_some, pExt0, pExt1, pExt2, Bool.false_and, Bool.true_and, Bool.not_true, Bool.not_false, cond_true, cond_false, dops_nil, dops_none, xval_call, v_mov, v_bin, v_len, v_ext, v_idxA, v_ld, v_st, v_app, v_appN, v_cvs, v_bs1, pBs1, v_slc, v_conv, v_fld, v_fldA, v_new, v_box, v_mks, v_copy, v_isnil, v_nilck, v_pick, ev, evs_nil, evs_cons, fr_get_cons, fr_put_nil, fr_put_cons, fr_put_some, fr_put_none, fr_keep_nil, fr_keep_cons, fr_has_nil, fr_has_cons, Option.bind_some, Option.map_some, xbin, ibin, xresult_eq, xress_nil, xress_tmp, resV, ex_some, if_true, if_false, ite_true, ite_false, reduceIte, reduceCtorEq, Nat.reduceEqDiff, Nat.reduceLT, Nat.reduceLeDiff, Int.reduceLT, Int.reduceLE, Nat.zero_add, Nat.reduceAdd, Bool.false_eq_true, decide_eq_true_eq, decide_eq_false_iff_not, true_implies, false_implies, and_true, true_and, e1, e2, e3, e5, e4, bne_self_eq_false]
        subst hL
        exact ih w (pre ++ [a]) (qre ++ [a]) (i + 1) N Q (Byts.app1 hs) (Byts.app1 hu) (by omega) (by simp; omega) (by simp; omega) (by simp; omega) (by simpa using hN) (fun h => hq (by rw [h])) (fun h => hq2 (by simpa using h))
      · have hne : (a != b) = true := by simpa using hab
        simp only [ofArgs, run_seq, run_block, run_ops, run_skip, run_exit, run_ret, thenQ_normal, thenQ_exit, thenQ_ret, blockQ_normal, blockQ_exit, blockQ_ret, retQ_ret, retQ_normal, ops_nil, ops_none, got_some, ops_wT, ops_wTn, ops_wF, ops_wFn, ops_wU, dops_wT, dops_wTn, dops_wF, dops_wFn, dops_wU, run_condT, run_condF, alt2_int, altB_bool, altI_int, altBB_bool, v_min, v_max, v_not, v_neg, optEv_none, optEv_some, isSome'_none, isSome'_some, pExt0, pExt1, pExt2, Bool.false_and, Bool.true_and, Bool.not_true, Bool.not_false, cond_true, cond_false, dops_nil, dops_none, xval_call, v_mov, v_bin, v_len, v_ext, v_idxA, v_ld, v_st, v_app, v_appN, v_cvs, v_bs1, pBs1, v_slc, v_conv, v_fld, v_fldA, v_new, v_box, v_mks, v_copy, v_isnil, v_nilck, v_pick, ev, evs_nil, evs_cons, fr_get_cons, fr_put_nil, fr_put_cons, fr_put_some, fr_put_none, fr_keep_nil, fr_keep_cons, fr_has_nil, fr_has_cons, Option.bind_some, Option.map_some, xbin, ibin, xresult_eq, xress_nil, xress_tmp, resV, ex_some, if_true, if_false, ite_true, ite_false, reduceIte, reduceCtorEq, Nat.reduceEqDiff, Nat.reduceLT, Nat.reduceLeDiff, Int.reduceLT, Int.reduceLE, Nat.zero_add, Nat.reduceAdd, Bool.false_eq_true, decide_eq_true_eq, decide_eq_false_iff_not, true_implies, false_implies, and_true, true_and, e1, e2, e3, e5, e4, hne]
        exact hq2 (by simp [hab])

theorem equalB_xc (t w : List Int) (s u : Value) (H : AH) (hs : Byts H s t) (hu : Byts H u w) (hl : t.length ≤ 1000000) (hl2 : w.length ≤ 1000000) : xc Try.prog tab 18 [s, u] H = some (.bool (decide (t = w)), H) := by
  refine got_xc (got_call (res := [.tmp 4]) rfl ?_)
  have e1 := byts_len' hs
  have e2 := byts_len' hu
  by_cases hlen : t.length = w.length
  · have hc : ((t.length : Int) != (w.length : Int)) = false := by simp [hlen]
    simp only [ofArgs, run_seq, run_block, run_ops, run_skip, run_exit, run_ret, thenQ_normal, thenQ_exit, thenQ_ret, blockQ_normal, blockQ_exit, blockQ_ret, retQ_ret, retQ_normal, ops_nil, ops_none, got_some, ops_wT, ops_wTn, ops_wF, ops_wFn, ops_wU, dops_wT, dops_wTn, dops_wF, dops_wFn, dops_wU, run_condT, run_condF, alt2_int, altB_bool, altI_int, altBB_bool, v_min, v_max, v_not, v_neg, optEv_none, optEv_some, isSome'_none, isSome'_some, pExt0, pExt1, pExt2, Bool.false_and, Bool.true_and, Bool.not_true, Bool.not_false, cond_true, cond_false, dops_nil, dops_none, xval_call, v_mov, v_bin, v_len, v_ext, v_idxA, v_ld, v_st, v_app, v_appN, v_cvs, v_bs1, pBs1, v_slc, v_conv, v_fld, v_fldA, v_new, v_box, v_mks, v_copy, v_isnil, v_nilck, v_pick, ev, evs_nil, evs_cons, fr_get_cons, fr_put_nil, fr_put_cons, fr_put_some, fr_put_none, fr_keep_nil, fr_keep_cons, fr_has_nil, fr_has_cons, Option.bind_some, Option.map_some, xbin, ibin, xresult_eq, xress_nil, xress_tmp, resV, ex_some, if_true, if_false, ite_true, ite_false, reduceIte, reduceCtorEq, Nat.reduceEqDiff, Nat.reduceLT, Nat.reduceLeDiff, Int.reduceLT, Int.reduceLE, Nat.zero_add, Nat.reduceAdd, Bool.false_eq_true, decide_eq_true_eq, decide_eq_false_iff_not, true_implies, false_implies, and_true, true_and, e1, e2, hc]
    refine equalB_l0 s u H t w [] [] _ _ _ hs hu hlen rfl (by simp; omega) (by simp) (by simp) ?_ ?_
    · intro h
      simp only [ofArgs, run_seq, run_block, run_ops, run_skip, run_exit, run_ret, thenQ_normal, thenQ_exit, thenQ_ret, blockQ_normal, blockQ_exit, blockQ_ret, retQ_ret, retQ_normal, ops_nil, ops_none, got_some, ops_wT, ops_wTn, ops_wF, ops_wFn, ops_wU, dops_wT, dops_wTn, dops_wF, dops_wFn, dops_wU, run_condT, run_condF, alt2_int, altB_bool, altI_int, altBB_bool, v_min, v_max, v_not, v_neg, optEv_none, optEv_some, isSome'_none, isSome'_some, pExt0, pExt1, pExt2, Bool.false_and, Bool.true_and, Bool.not_true, Bool.not_false, cond_true, cond_false, dops_nil, dops_none, xval_call, v_mov, v_bin, v_len, v_ext, v_idxA, v_ld, v_st, v_app, v_appN, v_cvs, v_bs1, pBs1, v_slc, v_conv, v_fld, v_fldA, v_new, v_box, v_mks, v_copy, v_isnil, v_nilck, v_pick, ev, evs_nil, evs_cons, fr_get_cons, fr_put_nil, fr_put_cons, fr_put_some, fr_put_none, fr_keep_nil, fr_keep_cons, fr_has_nil, fr_has_cons, Option.bind_some, Option.map_some, xbin, ibin, xresult_eq, xress_nil, xress_tmp, resV, ex_some, if_true, if_false, ite_true, ite_false, reduceIte, reduceCtorEq, Nat.reduceEqDiff, Nat.reduceLT, Nat.reduceLeDiff, Int.reduceLT, Int.reduceLE, Nat.zero_add, Nat.reduceAdd, Bool.false_eq_true, decide_eq_true_eq, decide_eq_false_iff_not, true_implies, false_implies, and_true, true_and, h, decide_true]
    · intro h
      simp only [ofArgs, run_seq, run_block, run_ops, run_skip, run_exit, run_ret, thenQ_normal, thenQ_exit, thenQ_ret, blockQ_normal, blockQ_exit, blockQ_ret, retQ_ret, retQ_normal, ops_nil, ops_none, got_some, ops_wT, ops_wTn, ops_wF, ops_wFn, ops_wU, dops_wT, dops_wTn, dops_wF, dops_wFn, dops_wU, run_condT, run_condF, alt2_int, altB_bool, altI_int, altBB_bool, v_min, v_max, v_not, v_neg, optEv_none, optEv_some, isSome'_none, isSome'_some, pExt0, pExt1, pExt2, Bool.false_and, Bool.true_and, Bool.not_true, Bool.not_false, cond_true, cond_false, dops_nil, dops_none, xval_call, v_mov, v_bin, v_len, v_ext, v_idxA, v_ld, v_st, v_app, v_appN, v_cvs, v_bs1, pBs1, v_slc, v_conv, v_fld, v_fldA, v_new, v_box, v_mks, v_copy, v_isnil, v_nilck, v_pick, ev, evs_nil, evs_cons, fr_get_cons, fr_put_nil, fr_put_cons, fr_put_some, fr_put_none, fr_keep_nil, fr_keep_cons, fr_has_nil, fr_has_cons, Option.bind_some, Option.map_some, xbin, ibin, xresult_eq, xress_nil, xress_tmp, resV, ex_some, if_true, if_false, ite_true, ite_false, reduceIte, reduceCtorEq, Nat.reduceEqDiff, Nat.reduceLT, Nat.reduceLeDiff, Int.reduceLT, Int.reduceLE, Nat.zero_add, Nat.reduceAdd, Bool.false_eq_true, decide_eq_true_eq, decide_eq_false_iff_not, true_implies, false_implies, and_true, true_and, h, decide_false]
  · have hc : ((t.length : Int) != (w.length : Int)) = true := by simp; omega
    have hne : ¬ t = w := fun h => hlen (by rw [h])
    simp only [ofArgs, run_seq, run_block, run_ops, run_skip, run_exit, run_ret, thenQ_normal, thenQ_exit, thenQ_ret, blockQ_normal, blockQ_exit, blockQ_ret, retQ_ret, retQ_normal, ops_nil, ops_none, got_some, ops_wT, ops_wTn, ops_wF, ops_wFn, ops_wU, dops_wT, dops_wTn, dops_wF, dops_wFn, dops_wU, run_condT, run_condF, alt2_int, altB_bool, altI_int, altBB_bool, v_min, v_max, v_not, v_neg, optEv_none, optEv_some, isSome'_none, isSome'_some, pExt0, pExt1, pExt2, Bool.false_and, Bool.true_and, Bool.not_true, Bool.not_false, cond_true, cond_false, dops_nil, dops_none, xval_call, v_mov, v_bin, v_len, v_ext, v_idxA, v_ld, v_st, v_app, v_appN, v_cvs, v_bs1, pBs1, v_slc, v_conv, v_fld, v_fldA, v_new, v_box, v_mks, v_copy, v_isnil, v_nilck, v_pick, ev, evs_nil, evs_cons, fr_get_cons, fr_put_nil, fr_put_cons, fr_put_some, fr_put_none, fr_keep_nil, fr_keep_cons, fr_has_nil, fr_has_cons, Option.bind_some, Option.map_some, xbin, ibin, xresult_eq, xress_nil, xress_tmp, resV, ex_some, if_true, if_false, ite_true, ite_false, reduceIte, reduceCtorEq, Nat.reduceEqDiff, Nat.reduceLT, Nat.reduceLeDiff, Int.reduceLT, Int.reduceLE, Nat.zero_add, Nat.reduceAdd, Bool.false_eq_true, decide_eq_true_eq, decide_eq_false_iff_not, true_implies, false_implies, and_true, true_and, e1, e2, hc, hne, decide_false]


theorem appB {n0 : Nat} {H : AH} {v y : Value} {l m : List Int} {Q : Value → AH → Prop} (ho : OwnB n0 H v l) (hn : n0 ≤ H.n) (hs : Byts H y m) (hl : l.length + m.length ≤ 1000000000)
    (hq : ∀ v' H', OwnB n0 H' v' (l ++ m) → Stp v H v' H' → Q v' H') : Got (xapp H 1 1 v y) Q := by
  refine xapp_own ho hn hs (u8s_one m) (Nat.le_refl _) (Nat.le_refl _) (by omega) ?_
  intro v' H' o s
  refine hq v' H' ?_ s
  unfold OwnB
  simpa using o

theorem wrap8_hi (n : Nat) (h : n < 65536) : IntKind.u8.wrap (((n : Int)).fdiv (2 ^ 8)) = ((n / 256 : Nat) : Int) := by
  rw [shrN, Nat.shiftRight_eq_div_pow, wrU8' _ (by omega) (by omega)]
theorem wrap8_lo (n : Nat) : IntKind.u8.wrap (n : Int) = ((n % 256 : Nat) : Int) := by
  rw [wrU8m]; omega

def sealed (l : List Int) : List Int := l ++ [((crcFold 65535 l / 256 : Nat) : Int), ((crcFold 65535 l % 256 : Nat) : Int)]
theorem sealed_len (l : List Int) : (sealed l).length = l.length + 2 := by simp [sealed]
theorem sealed_b8 (l : List Int) (hb : B8 l) : B8 (sealed l) := by
  have := crcFold_lt l hb 65535 (by omega)
  intro b h
  unfold sealed at h
  rcases List.mem_append.1 h with h | h
  · exact hb b h
  · simp at h; omega

theorem seal_ok (l : List Int) (hl : l.length ≤ 100000) (hb : B8 l) (s : Value) (H : AH) (Q : Value → AH → Prop) (hs : Byts H s l)
    (hq : ∀ v H', OwnB H.n H' v (sealed l) → HExt H H' → Q v H') : Got (xc Try.prog tab 92 [s] H) Q := by
  refine got_call (res := [.tmp 2]) rfl ?_
  have e1 := sum16_xc l s H hs hb (by omega)
  have hlt := crcFold_lt l hb 65535 (by omega)
  unfold sealed at hq
  generalize crcFold 65535 l = n at e1 hlt hq
  simp only [ofArgs, run_seq, run_block, run_ops, run_skip, run_exit, run_ret, thenQ_normal, thenQ_exit, thenQ_ret, blockQ_normal, blockQ_exit, blockQ_ret, retQ_ret, retQ_normal, ops_nil, ops_none, got_some, ops_wT, ops_wTn, ops_wF, ops_wFn, ops_wU, dops_wT, dops_wTn, dops_wF, dops_wFn, dops_wU, run_condT, run_condF, alt2_int, altB_bool, altI_int, altBB_bool, v_min, v_max, v_not, v_neg, optEv_none, optEv_some, isSome'_none, isSome'_some, pExt0, pExt1, pExt2, Bool.false_and, Bool.true_and, Bool.not_true, Bool.not_false, cond_true, cond_false, dops_nil, dops_none, xval_call, v_mov, v_bin, v_len, v_ext, v_idxA, v_ld, v_st, v_app, v_appN, v_cvs, v_bs1, pBs1, v_slc, v_conv, v_fld, v_fldA, v_new, v_box, v_mks, v_copy, v_isnil, v_nilck, v_pick, ev, evs_nil, evs_cons, fr_get_cons, fr_put_nil, fr_put_cons, fr_put_some, fr_put_none, fr_keep_nil, fr_keep_cons, fr_has_nil, fr_has_cons, Option.bind_some, Option.map_some, xbin, ibin, xresult_eq, xress_nil, xress_tmp, resV, ex_some, if_true, if_false, ite_true, ite_false, reduceIte, reduceCtorEq, Nat.reduceEqDiff, Nat.reduceLT, Nat.reduceLeDiff, Int.reduceLT, Int.reduceLE, Nat.zero_add, Nat.reduceAdd, Bool.false_eq_true, decide_eq_true_eq, decide_eq_false_iff_not, true_implies, false_implies, and_true, true_and, e1, v_bs0]
  refine appB (l := []) (own_bs0 H) (by simp) (Sl.ext (hext_push _ _) hs) (by simp; omega) ?_
  intro v1 H1 o1 s1
  have x1 : HExt H H1 := Keep.trans (n0 := H.n) (hext_push H _) (s1.keep (own_bs0 H) (by simp))
  have s8 : min (Int.toNat 8) IntKind.i64.bits = 8 := rfl
  have c0 : ¬ ((8 : Int) < 0) := by omega
  have e3 := wrap8_hi n hlt
  have e4 := wrap8_lo n
  have eb : ∀ (fr : Fr) (H : AH), ev fr (.tmp 11) = some (.int .u8 ((n / 256 : Nat) : Int)) → ev fr (.tmp 13) = some (.int .u8 ((n % 256 : Nat) : Int)) → xval Try.prog (xc Try.prog tab) ⟨some 14, .bslice 5 1 2 [.int .u8 0] [(0, .tmp 11), (1, .tmp 13)], none⟩ fr H = some (.slice (some ⟨H.n, 0, none⟩) 2 2, H.push ⟨[.int .u8 ((n / 256 : Nat) : Int), .int .u8 ((n % 256 : Nat) : Int)], 1, false, false⟩) :=
    fun fr H h1 h2 => v_bsl2 fr H (some 14) 5 _ _ _ _ _ h1 h2 rfl rfl rfl rfl
  simp only [ofArgs, run_seq, run_block, run_ops, run_skip, run_exit, run_ret, thenQ_normal, thenQ_exit, thenQ_ret, blockQ_normal, blockQ_exit, blockQ_ret, retQ_ret, retQ_normal, ops_nil, ops_none, got_some, ops_wT, ops_wTn, ops_wF, ops_wFn, ops_wU, dops_wT, dops_wTn, dops_wF, dops_wFn, dops_wU, run_condT, run_condF, alt2_int, altB_bool, altI_int, altBB_bool, v_min, v_max, v_not, v_neg, optEv_none, optEv_some, isSome'_none, isSome'_some, pExt0, pExt1, pExt2, Bool.false_and, Bool.true_and, Bool.not_true, Bool.not_false, cond_true, cond_false, dops_nil, dops_none, xval_call, v_mov, v_bin, v_len, v_ext, v_idxA, v_ld, v_st, v_app, v_appN, v_cvs, v_bs1, pBs1, v_slc, v_conv, v_fld, v_fldA, v_new, v_box, v_mks, v_copy, v_isnil, v_nilck, v_pick, ev, evs_nil, evs_cons, fr_get_cons, fr_put_nil, fr_put_cons, fr_put_some, fr_put_none, fr_keep_nil, fr_keep_cons, fr_has_nil, fr_has_cons, Option.bind_some, Option.map_some, xbin, ibin, xresult_eq, xress_nil, xress_tmp, resV, ex_some, if_true, if_false, ite_true, ite_false, reduceIte, reduceCtorEq, Nat.reduceEqDiff, Nat.reduceLT, Nat.reduceLeDiff, Int.reduceLT, Int.reduceLE, Nat.zero_add, Nat.reduceAdd, Bool.false_eq_true, decide_eq_true_eq, decide_eq_false_iff_not, true_implies, false_implies, and_true, true_and, s8, c0, pConv, e3, e4, eb]
  have hp : Byts (H1.push ⟨[.int .u8 ((n / 256 : Nat) : Int), .int .u8 ((n % 256 : Nat) : Int)], 1, false, false⟩) (.slice (some ⟨H1.n, 0, none⟩) 2 2) [((n / 256 : Nat) : Int), ((n % 256 : Nat) : Int)] := Sl.pushed H1 _ 1 2 false false rfl
  have o1' : OwnB H.n (H1.push ⟨[.int .u8 ((n / 256 : Nat) : Int), .int .u8 ((n % 256 : Nat) : Int)], 1, false, false⟩) v1 ([] ++ l) := Own.ext (hext_push _ _) o1
  refine appB o1' (by have := x1.1; simp; omega) hp (by simp; omega) ?_
  intro v2 H2 o2 s2
  exact hq v2 H2 (by simpa using o2) (Keep.trans (n0 := H.n) (x1.trans (hext_push H1 _)) (s2.keep o1' (by have := x1.1; simp; omega)))

theorem open_bad (l : List Int) (hl : l.length ≤ 100000) (hl2 : 2 ≤ l.length) (hb : B8 l) (s : Value) (H : AH) (hs : Byts H s l) (hz : crcFold 65535 l ≠ 0) :
    xc Try.prog tab 93 [s] H = some (.tuple [.slice none 0 0, .bool false].toArray, H) := by
  refine got_xc (got_call (res := [.tmp 2, .tmp 3]) rfl ?_)
  have e1 := sum16_xc l s H hs hb (by omega)
  have e2 := byts_len' hs
  have c1 : ¬ ((l.length : Int) < 2) := by omega
  generalize crcFold 65535 l = n at e1 hz
  have c2 : ((n : Int) != 0) = true := by simp; omega
  simp only [ofArgs, run_seq, run_block, run_ops, run_skip, run_exit, run_ret, thenQ_normal, thenQ_exit, thenQ_ret, blockQ_normal, blockQ_exit, blockQ_ret, retQ_ret, retQ_normal, ops_nil, ops_none, got_some, ops_wT, ops_wTn, ops_wF, ops_wFn, ops_wU, dops_wT, dops_wTn, dops_wF, dops_wFn, dops_wU, run_condT, run_condF, alt2_int, altB_bool, altI_int, altBB_bool, v_min, v_max, v_not, v_neg, optEv_none, optEv_some, isSome'_none, isSome'_some, pExt0, pExt1, pExt2, Bool.false_and, Bool.true_and, Bool.not_true, Bool.not_false, cond_true, cond_false, dops_nil, dops_none, xval_call, v_mov, v_bin, v_len, v_ext, v_idxA, v_ld, v_st, v_app, v_appN, v_cvs, v_bs1, pBs1, v_slc, v_conv, v_fld, v_fldA, v_new, v_box, v_mks, v_copy, v_isnil, v_nilck, v_pick, ev, evs_nil, evs_cons, fr_get_cons, fr_put_nil, fr_put_cons, fr_put_some, fr_put_none, fr_keep_nil, fr_keep_cons, fr_has_nil, fr_has_cons, Option.bind_some, Option.map_some, xbin, ibin, xresult_eq, xress_nil, xress_tmp, resV, ex_some, if_true, if_false, ite_true, ite_false, reduceIte, reduceCtorEq, Nat.reduceEqDiff, Nat.reduceLT, Nat.reduceLeDiff, Int.reduceLT, Int.reduceLE, Nat.zero_add, Nat.reduceAdd, Bool.false_eq_true, decide_eq_true_eq, decide_eq_false_iff_not, true_implies, false_implies, and_true, true_and, e1, e2, c1, c2, decide_false]

theorem open_ok (l : List Int) (hl : l.length ≤ 100000) (hl2 : 2 ≤ l.length) (hb : B8 l) (s : Value) (H : AH) (Q : Value → AH → Prop) (hs : Byts H s l) (hz : crcFold 65535 l = 0)
    (hq : ∀ v H', OwnB H.n H' v (l.take (l.length - 2)) → HExt H H' → Q (.tuple [v, .bool true].toArray) H') : Got (xc Try.prog tab 93 [s] H) Q := by
  refine got_call (res := [.tmp 2, .tmp 3]) rfl ?_
  have e1 := sum16_xc l s H hs hb (by omega)
  rw [hz] at e1
  have e2 := fun H' (hx : HExt H H') => byts_len' (Sl.ext hx hs : Byts H' s l)
  have c1 : ¬ ((l.length : Int) < 2) := by omega
  have c2 : (((0 : Nat) : Int) != 0) = false := rfl
  have w1 := wrI ((l.length : Int) - 2) (by omega) (by omega)
  have e3 : (l.length : Int) - 2 = ((l.length - 2 : Nat) : Int) := by omega
  rw [e3] at w1
  have e2a := e2 H (.refl H)
  have e2b := e2 (H.push ⟨[], 1, false, false⟩) (hext_push _ _)
  have hs' : Byts (H.push ⟨[], 1, false, false⟩) s l := Sl.ext (hext_push _ _) hs
  obtain ⟨s', k1, k2, k3, k4⟩ := xslc_ok (lo := none) (hi := some (.int .i64 ((l.length - 2 : Nat) : Int))) (i := 0) (h := l.length - 2) hs' rfl rfl (Nat.zero_le _) (by omega)
  have k2' : Byts (H.push ⟨[], 1, false, false⟩) s' (l.take (l.length - 2)) := by
    unfold Byts
    have hlen : (l.take (l.length - 2)).length = l.length - 2 := by simp
    rw [hlen]
    simpa [List.map_take] using k2
  simp only [ofArgs, run_seq, run_block, run_ops, run_skip, run_exit, run_ret, thenQ_normal, thenQ_exit, thenQ_ret, blockQ_normal, blockQ_exit, blockQ_ret, retQ_ret, retQ_normal, ops_nil, ops_none, got_some, ops_wT, ops_wTn, ops_wF, ops_wFn, ops_wU, dops_wT, dops_wTn, dops_wF, dops_wFn, dops_wU, run_condT, run_condF, alt2_int, altB_bool, altI_int, altBB_bool, v_min, v_max, v_not, v_neg, optEv_none, optEv_some, isSome'_none, isSome'_some, pExt0, pExt1, pExt2, Bool.false_and, Bool.true_and, Bool.not_true, Bool.not_false, cond_true, cond_false, dops_nil, dops_none, xval_call, v_mov, v_bin, v_len, v_ext, v_idxA, v_ld, v_st, v_app, v_appN, v_cvs, v_bs1, pBs1, v_slc, v_conv, v_fld, v_fldA, v_new, v_box, v_mks, v_copy, v_isnil, v_nilck, v_pick, ev, evs_nil, evs_cons, fr_get_cons, fr_put_nil, fr_put_cons, fr_put_some, fr_put_none, fr_keep_nil, fr_keep_cons, fr_has_nil, fr_has_cons, Option.bind_some, Option.map_some, xbin, ibin, xresult_eq, xress_nil, xress_tmp, resV, ex_some, if_true, if_false, ite_true, ite_false, reduceIte, reduceCtorEq, Nat.reduceEqDiff, Nat.reduceLT, Nat.reduceLeDiff, Int.reduceLT, Int.reduceLE, Nat.zero_add, Nat.reduceAdd, Bool.false_eq_true, decide_eq_true_eq, decide_eq_false_iff_not, true_implies, false_implies, and_true, true_and, e1, e2a, e2b, c1, c2, decide_false, v_bs0, e3, w1, k1]
  refine appB (l := []) (own_bs0 H) (by simp) k2' (by simp; omega) ?_
  intro v H' o' st
  exact hq v H' (by simpa using o') (Keep.trans (n0 := H.n) (hext_push H _) (st.keep (own_bs0 H) (by simp)))

theorem getD_get (l : List Int) (q : Nat) (h : q < l.length) : l[q]? = some (l.getD q 0) := by
  rw [List.getD_eq_getElem?_getD, List.getElem?_eq_getElem h]; rfl

end Go.Proofs.Ytejedmocjdcdgaa.D

set_option linter.unusedSimpArgs false
set_option linter.unusedVariables false
namespace Go.Proofs.Ytejedmocjdcdgaa.D
open Go Go.Det

theorem rounds8 (x : Nat) (h : x < 256) : crcRounds 8 x = x * 256 := by
  have key : ∀ k x, x * 2 ^ k < 65536 → crcRounds k x = x * 2 ^ k := by
    intro k
    induction k with
    | zero => intro x _; simp [crcRounds]
    | succ k ih =>
      intro x hx
      have hs : crcStep x = x * 2 := by
        unfold crcStep
        rw [if_neg]
        have h1 : x * 2 * 2 ^ k < 65536 := by rw [Nat.mul_assoc, ← Nat.pow_succ']; exact hx
        have h2 : x * 2 ≤ x * 2 * 2 ^ k := Nat.le_mul_of_pos_right _ (Nat.pow_pos (by omega))
        omega
      show crcRounds k (crcStep x) = _
      rw [hs, ih _ (by rw [Nat.mul_assoc, ← Nat.pow_succ']; exact hx), Nat.mul_assoc, ← Nat.pow_succ']
  exact key 8 x (by omega)
theorem nx_two (n : Nat) (hn : n < 65536) : nx (nx n (n / 256)) (n % 256) = 0 := by
  have hhi : n / 256 < 256 := by omega
  have hlo : n % 256 < 256 := by omega
  have e1 : n ^^^ n / 256 * 256 = n % 256 := by
    apply Nat.eq_of_testBit_eq
    intro j
    have h1 : (n / 256 * 256).testBit j = (decide (8 ≤ j) && n.testBit j) := by
      rw [show n / 256 * 256 = n / 2 ^ 8 * 2 ^ 8 from rfl, Nat.testBit_mul_two_pow, Nat.testBit_div_two_pow]
      by_cases h : 8 ≤ j
      · simp [h, show j - 8 + 8 = j by omega]
      · simp [h]
    have h2 : (n % 256).testBit j = (decide (j < 8) && n.testBit j) := Nat.testBit_mod_two_pow n 8 j
    rw [Nat.testBit_xor, h1, h2]
    by_cases h : 8 ≤ j
    · have : ¬ j < 8 := by omega
      simp [h, this]
    · have : j < 8 := by omega
      simp [h, this]
  have e2 : nx n (n / 256) = n % 256 * 256 := by
    unfold nx
    rw [and16 _ hn, e1]
    exact rounds8 _ hlo
  rw [e2]
  unfold nx
  rw [and16 _ (by omega), Nat.xor_self]
  exact rounds_zero 8
theorem crc_sealed (l : List Int) (hb : B8 l) : crcFold 65535 (sealed l) = 0 := by
  have h := crcFold_lt l hb 65535 (by omega)
  unfold sealed
  rw [crcFold_app]
  generalize crcFold 65535 l = n at h
  rw [crcFold_cons, crcFold_cons, Int.toNat_natCast, Int.toNat_natCast, nx_two n h]
  rfl

end Go.Proofs.Ytejedmocjdcdgaa.D

set_option linter.unusedSimpArgs false
set_option linter.unusedVariables false
namespace Go.Proofs.Ytejedmocjdcdgaa.D
open Go Go.Det

theorem mulb (a c : Int) (h1 : 1 ≤ a) (h2 : a ≤ 100) (h3 : 2 ≤ c) (h4 : c ≤ 1000) : 2 ≤ a * c ∧ a * c ≤ 100000 := by
  have e1 : 1 * c ≤ a * c := Int.mul_le_mul_of_nonneg_right h1 (by omega)
  have e2 : a * c ≤ 100 * c := Int.mul_le_mul_of_nonneg_right h2 (by omega)
  omega
theorem pulses_l0 (n0 : Nat) (cell : Int) (s : Value) (rest : List Int) : ∀ (pre acc : List Int) (v : Value) (H : AH) (i N : Int) (Q : XExit → Fr → AH → Prop), Ints H s (pre ++ rest) → (∀ b, inB s b → b < n0) → OwnI n0 H v acc → n0 ≤ H.n →
    pre.length + rest.length ≤ 40000 → acc.length + rest.length ≤ 1000000 → (∀ a ∈ rest, 1 ≤ a ∧ a ≤ 100 ∧ 2 ≤ cell ∧ cell ≤ 1000) → i = (pre.length : Int) → N = ((pre ++ rest).length : Int) →
    (∀ v' H', OwnI n0 H' v' (acc ++ (rest.map fun a => a * cell)) → Keep n0 H H' → Q (.exit 0) [(1, .int .i64 cell), (6, v'), (18, s), (19, .int .i64 N), (20, .int .i64 N), (21, .bool false)] H') →
    Run Try.prog tab (.loop xflux_Pulses_l0) [(1, .int .i64 cell), (6, v), (18, s), (19, .int .i64 N), (20, .int .i64 i)] H Q := by
  induction rest with
  | nil =>
    intro pre acc v H i N Q hs hsb ho hn hl hal hP hi hN hq
    rw [run_loop]
    generalize hL : XCode.loop xflux_Pulses_l0 = L
    have hiN : i = N := by simp at hN; omega
    subst hiN
    have hf : ¬ i < i := by omega
    simp only [xflux_Pulses_l0, ofArgs, run_seq, run_block, run_ops, run_skip, run_exit, run_ret, thenQ_normal, thenQ_exit, thenQ_ret, blockQ_normal, blockQ_exit, blockQ_ret, retQ_ret, retQ_normal, ops_nil, ops_none, got_some, ops_wT, ops_wTn, ops_wF, ops_wFn, ops_wU, dops_wT, dops_wTn, dops_wF, dops_wFn, dops_wU, run_condT, run_condF, alt2_int, altB_bool, altI_int, altBB_bool, v_min, v_max, v_not, v_neg, optEv_none, optEv_some, isSome'_none, isSome'_some, pExt0, pExt1, pExt2, Bool.false_and, Bool.true_and, Bool.not_true, Bool.not_false, cond_true, cond_false, dops_nil, dops_none, xval_call, v_mov, v_bin, v_len, v_ext, v_idxA, v_ld, v_st, v_app, v_appN, v_cvs, v_bs1, pBs1, v_slc, v_conv, v_fld, v_fldA, v_new, v_box, v_mks, v_copy, v_isnil, v_nilck, v_pick, ev, evs_nil, evs_cons, fr_get_cons, fr_put_nil, fr_put_cons, fr_put_some, fr_put_none, fr_keep_nil, fr_keep_cons, fr_has_nil, fr_has_cons, Option.bind_some, Option.map_some, xbin, ibin, xresult_eq, xress_nil, xress_tmp, resV, ex_some, if_true, if_false, ite_true, ite_false, reduceIte, reduceCtorEq, Nat.reduceEqDiff, Nat.reduceLT, Nat.reduceLeDiff, Int.reduceLT, Int.reduceLE, Nat.zero_add, Nat.reduceAdd, Bool.false_eq_true, decide_eq_true_eq, decide_eq_false_iff_not, true_implies, false_implies, and_true, true_and, hf, decide_false]
    have := hq v H (by simpa using ho) (.refl _ _)
    simpa using this
  | cons a rest ih =>
    intro pre acc v H i N Q hs hsb ho hn hl hal hP hi hN hq
    simp only [List.length_cons] at hl hal
    rw [run_loop]
    generalize hL : XCode.loop xflux_Pulses_l0 = L
    have hlt : i < N := by simp at hN; omega
    have ha := hP a (by simp)
    have e1 := ints_idx hs i pre.length hi (by simp)
    have e2 := ints_ld hs pre.length a (by simp)
    have e4 := wrI (i + 1) (by omega) (by omega)
    have m0 := mulb a cell (by omega) (by omega) (by omega) (by omega)
    have e3 := wrI (a * cell) (by omega) (by omega)
    have c1 : ¬ a < 1 := by omega
    have c2 : ¬ a > 100 := by omega
    simp only [xflux_Pulses_l0, ofArgs, run_seq, run_block, run_ops, run_skip, run_exit, run_ret, thenQ_normal, thenQ_exit, thenQ_ret, blockQ_normal, blockQ_exit, blockQ_ret, retQ_ret, retQ_normal, ops_nil, ops_none, got_some, ops_wT, ops_wTn, ops_wF, ops_wFn, ops_wU, dops_wT, dops_wTn, dops_wF, dops_wFn, dops_wU, run_condT, run_condF, alt2_int, altB_bool, altI_int, altBB_bool, v_min, v_max, v_not, v_neg, optEv_none, optEv_some, isSome'_none, isSome'_some, pExt0, pExt1, pExt2, Bool.false_and, Bool.true_and, Bool.not_true, Bool.not_false, cond_true, cond_false, dops_nil, dops_none, xval_call, v_mov, v_bin, v_len, v_ext, v_idxA, v_ld, v_st, v_app, v_appN, v_cvs, v_bs1, pBs1, v_slc, v_conv, v_fld, v_fldA, v_new, v_box, v_mks, v_copy, v_isnil, v_nilck, v_pick, ev, evs_nil, evs_cons, fr_get_cons, fr_put_nil, fr_put_cons, fr_put_some, fr_put_none, fr_keep_nil, fr_keep_cons, fr_has_nil, fr_has_cons, Option.bind_some, Option.map_some, xbin, ibin, xresult_eq, xress_nil, xress_tmp, resV, ex_some, if_true, if_false, ite_true, ite_false, reduceIte, reduceCtorEq, Nat.reduceEqDiff, Nat.reduceLT, Nat.reduceLeDiff, Int.reduceLT, Int.reduceLE, Nat.zero_add, Nat.reduceAdd, Bool.false_eq_true, decide_eq_true_eq, decide_eq_false_iff_not, true_implies, false_implies, and_true, true_and, hlt, decide_true, e1, e2, e4, e3, c1, c2, decide_false]
    refine app_one ho hn (by omega) fun v' H' ho' hs' => ?_
    have hk := hs'.keep ho hn
    subst hL
    refine ih (pre ++ [a]) (acc ++ [a * cell]) v' H' (i + 1) N Q ((Ints.keep hs hk hsb).app1) hsb ho' (by have := hk.1; omega) (by simp; omega) (by simp; omega) (fun p hp => hP p (by simp [hp])) (by simp; omega) (by simpa using hN) ?_
    intro v2 H2 ho2 hk2
    exact hq v2 H2 (by simpa using ho2) (hk.trans hk2)

/-- the track of numbers of cells -/
def pul (cell : Int) (l : List Int) : List Int := l.map fun a => a * cell
theorem pulses_ok (l : List Int) (cell : Int) (s : Value) (H : AH) (Q : Value → AH → Prop) (hs : Ints H s l) (hl : l.length ≤ 40000) (h2 : 2 ≤ cell) (h3 : cell ≤ 1000) (hP : ∀ a ∈ l, 1 ≤ a ∧ a ≤ 100)
    (hq : ∀ v H', OwnI H.n H' v (pul cell l) → HExt H H' → Q (.tuple [v, .int .i64 0].toArray) H') : Got (xc Try.prog tab 62 [s, .int .i64 cell] H) Q := by
  refine got_call (res := [.tmp 4, .tmp 5]) rfl ?_
  have e1 := ints_len hs
  have c1 : ¬ cell < 2 := by omega
  have c2 : ¬ cell > 1000 := by omega
  have c3 : ¬ (l.length : Int) > 40000 := by omega
  simp only [ofArgs, run_seq, run_block, run_ops, run_skip, run_exit, run_ret, thenQ_normal, thenQ_exit, thenQ_ret, blockQ_normal, blockQ_exit, blockQ_ret, retQ_ret, retQ_normal, ops_nil, ops_none, got_some, ops_wT, ops_wTn, ops_wF, ops_wFn, ops_wU, dops_wT, dops_wTn, dops_wF, dops_wFn, dops_wU, run_condT, run_condF, alt2_int, altB_bool, altI_int, altBB_bool, v_min, v_max, v_not, v_neg, optEv_none, optEv_some, isSome'_none, isSome'_some, pExt0, pExt1, pExt2, Bool.false_and, Bool.true_and, Bool.not_true, Bool.not_false, cond_true, cond_false, dops_nil, dops_none, xval_call, v_mov, v_bin, v_len, v_ext, v_idxA, v_ld, v_st, v_app, v_appN, v_cvs, v_bs1, pBs1, v_slc, v_conv, v_fld, v_fldA, v_new, v_box, v_mks, v_copy, v_isnil, v_nilck, v_pick, ev, evs_nil, evs_cons, fr_get_cons, fr_put_nil, fr_put_cons, fr_put_some, fr_put_none, fr_keep_nil, fr_keep_cons, fr_has_nil, fr_has_cons, Option.bind_some, Option.map_some, xbin, ibin, xresult_eq, xress_nil, xress_tmp, resV, ex_some, if_true, if_false, ite_true, ite_false, reduceIte, reduceCtorEq, Nat.reduceEqDiff, Nat.reduceLT, Nat.reduceLeDiff, Int.reduceLT, Int.reduceLE, Nat.zero_add, Nat.reduceAdd, Bool.false_eq_true, decide_eq_true_eq, decide_eq_false_iff_not, true_implies, false_implies, and_true, true_and, e1, c1, c2, c3, decide_false]
  refine pulses_l0 H.n cell s l [] [] _ H _ _ _ hs (fun b hb => hs.lt b hb) (OwnI.nil _ _) (Nat.le_refl _) (by simpa using hl) (by simp; omega) (fun a ha => by have := hP a ha; omega) (by simp) (by simp) ?_
  intro v H' o k
  simp only [ofArgs, run_seq, run_block, run_ops, run_skip, run_exit, run_ret, thenQ_normal, thenQ_exit, thenQ_ret, blockQ_normal, blockQ_exit, blockQ_ret, retQ_ret, retQ_normal, ops_nil, ops_none, got_some, ops_wT, ops_wTn, ops_wF, ops_wFn, ops_wU, dops_wT, dops_wTn, dops_wF, dops_wFn, dops_wU, run_condT, run_condF, alt2_int, altB_bool, altI_int, altBB_bool, v_min, v_max, v_not, v_neg, optEv_none, optEv_some, isSome'_none, isSome'_some, pExt0, pExt1, pExt2, Bool.false_and, Bool.true_and, Bool.not_true, Bool.not_false, cond_true, cond_false, dops_nil, dops_none, xval_call, v_mov, v_bin, v_len, v_ext, v_idxA, v_ld, v_st, v_app, v_appN, v_cvs, v_bs1, pBs1, v_slc, v_conv, v_fld, v_fldA, v_new, v_box, v_mks, v_copy, v_isnil, v_nilck, v_pick, ev, evs_nil, evs_cons, fr_get_cons, fr_put_nil, fr_put_cons, fr_put_some, fr_put_none, fr_keep_nil, fr_keep_cons, fr_has_nil, fr_has_cons, Option.bind_some, Option.map_some, xbin, ibin, xresult_eq, xress_nil, xress_tmp, resV, ex_some, if_true, if_false, ite_true, ite_false, reduceIte, reduceCtorEq, Nat.reduceEqDiff, Nat.reduceLT, Nat.reduceLeDiff, Int.reduceLT, Int.reduceLE, Nat.zero_add, Nat.reduceAdd, Bool.false_eq_true, decide_eq_true_eq, decide_eq_false_iff_not, true_implies, false_implies, and_true, true_and]
  exact hq v H' (by simpa [pul] using o) k
/-- the number of cells of a time -/
def celOf (cell p : Int) : Int := Int.tdiv (2 * p + cell) (2 * cell)
theorem cells_l0 (n0 : Nat) (cell most : Int) (s : Value) (rest : List Int) : ∀ (pre acc : List Int) (v : Value) (H : AH) (i N : Int) (Q : XExit → Fr → AH → Prop), Ints H s (pre ++ rest) → (∀ b, inB s b → b < n0) → OwnI n0 H v acc → n0 ≤ H.n →
    pre.length + rest.length ≤ 40000 → acc.length + rest.length ≤ 1000000 → (∀ a ∈ rest, 1 ≤ a ∧ a ≤ 100000 ∧ 2 ≤ cell ∧ cell ≤ 1000 ∧ 1 ≤ celOf cell a ∧ celOf cell a ≤ most ∧ most ≤ 1000) → i = (pre.length : Int) → N = ((pre ++ rest).length : Int) →
    (∀ v' H', OwnI n0 H' v' (acc ++ (rest.map fun a => celOf cell a)) → Keep n0 H H' → Q (.exit 0) [(1, .int .i64 cell), (2, .int .i64 most), (9, v'), (24, s), (25, .int .i64 N), (26, .int .i64 N), (27, .bool false)] H') →
    Run Try.prog tab (.loop xflux_Cells_l0) [(1, .int .i64 cell), (2, .int .i64 most), (9, v), (24, s), (25, .int .i64 N), (26, .int .i64 i)] H Q := by
  induction rest with
  | nil =>
    intro pre acc v H i N Q hs hsb ho hn hl hal hP hi hN hq
    rw [run_loop]
    generalize hL : XCode.loop xflux_Cells_l0 = L
    have hiN : i = N := by simp at hN; omega
    subst hiN
    have hf : ¬ i < i := by omega
    simp only [xflux_Cells_l0, ofArgs, run_seq, run_block, run_ops, run_skip, run_exit, run_ret, thenQ_normal, thenQ_exit, thenQ_ret, blockQ_normal, blockQ_exit, blockQ_ret, retQ_ret, retQ_normal, ops_nil, ops_none, got_some, ops_wT, ops_wTn, ops_wF, ops_wFn, ops_wU, dops_wT, dops_wTn, dops_wF, dops_wFn, dops_wU, run_condT, run_condF, alt2_int, altB_bool, altI_int, altBB_bool, v_min, v_max, v_not, v_neg, optEv_none, optEv_some, isSome'_none, isSome'_some, pExt0, pExt1, pExt2, Bool.false_and, Bool.true_and, Bool.not_true, Bool.not_false, cond_true, cond_false, dops_nil, dops_none, xval_call, v_mov, v_bin, v_len, v_ext, v_idxA, v_ld, v_st, v_app, v_appN, v_cvs, v_bs1, pBs1, v_slc, v_conv, v_fld, v_fldA, v_new, v_box, v_mks, v_copy, v_isnil, v_nilck, v_pick, ev, evs_nil, evs_cons, fr_get_cons, fr_put_nil, fr_put_cons, fr_put_some, fr_put_none, fr_keep_nil, fr_keep_cons, fr_has_nil, fr_has_cons, Option.bind_some, Option.map_some, xbin, ibin, xresult_eq, xress_nil, xress_tmp, resV, ex_some, if_true, if_false, ite_true, ite_false, reduceIte, reduceCtorEq, Nat.reduceEqDiff, Nat.reduceLT, Nat.reduceLeDiff, Int.reduceLT, Int.reduceLE, Nat.zero_add, Nat.reduceAdd, Bool.false_eq_true, decide_eq_true_eq, decide_eq_false_iff_not, true_implies, false_implies, and_true, true_and, hf, decide_false]
    have := hq v H (by simpa using ho) (.refl _ _)
    simpa using this
  | cons a rest ih =>
    intro pre acc v H i N Q hs hsb ho hn hl hal hP hi hN hq
    simp only [List.length_cons] at hl hal
    rw [run_loop]
    generalize hL : XCode.loop xflux_Cells_l0 = L
    have hlt : i < N := by simp at hN; omega
    have ha := hP a (by simp)
    have e1 := ints_idx hs i pre.length hi (by simp)
    have e2 := ints_ld hs pre.length a (by simp)
    have e4 := wrI (i + 1) (by omega) (by omega)
    have e3 := wrI (2 * a) (by omega) (by omega)
    have e5 := wrI (2 * a + cell) (by omega) (by omega)
    have e6 := wrI (2 * cell) (by omega) (by omega)
    have e7 : Int.tdiv (2 * a + cell) (2 * cell) = celOf cell a := rfl
    have e8 := wrI (celOf cell a) (by omega) (by omega)
    have c1 : ¬ celOf cell a < 1 := by omega
    have c2 : ¬ celOf cell a > most := by omega
    have c3 : ¬ 2 * cell = 0 := by omega
    simp only [xflux_Cells_l0, ofArgs, run_seq, run_block, run_ops, run_skip, run_exit, run_ret, thenQ_normal, thenQ_exit, thenQ_ret, blockQ_normal, blockQ_exit, blockQ_ret, retQ_ret, retQ_normal, ops_nil, ops_none, got_some, ops_wT, ops_wTn, ops_wF, ops_wFn, ops_wU, dops_wT, dops_wTn, dops_wF, dops_wFn, dops_wU, run_condT, run_condF, alt2_int, altB_bool, altI_int, altBB_bool, v_min, v_max, v_not, v_neg, optEv_none, optEv_some, isSome'_none, isSome'_some, pExt0, pExt1, pExt2, Bool.false_and, Bool.true_and, Bool.not_true, Bool.not_false, cond_true, cond_false, dops_nil, dops_none, xval_call, v_mov, v_bin, v_len, v_ext, v_idxA, v_ld, v_st, v_app, v_appN, v_cvs, v_bs1, pBs1, v_slc, v_conv, v_fld, v_fldA, v_new, v_box, v_mks, v_copy, v_isnil, v_nilck, v_pick, ev, evs_nil, evs_cons, fr_get_cons, fr_put_nil, fr_put_cons, fr_put_some, fr_put_none, fr_keep_nil, fr_keep_cons, fr_has_nil, fr_has_cons, Option.bind_some, Option.map_some, xbin, ibin, xresult_eq, xress_nil, xress_tmp, resV, ex_some, if_true, if_false, ite_true, ite_false, reduceIte, reduceCtorEq, Nat.reduceEqDiff, Nat.reduceLT, Nat.reduceLeDiff, Int.reduceLT, Int.reduceLE, Nat.zero_add, Nat.reduceAdd, Bool.false_eq_true, decide_eq_true_eq, decide_eq_false_iff_not, true_implies, false_implies, and_true, true_and, hlt, decide_true, e1, e2, e4, e3, e5, e6, e7, e8, c1, c2, c3, decide_false]
    refine app_one ho hn (by omega) fun v' H' ho' hs' => ?_
    have hk := hs'.keep ho hn
    subst hL
    refine ih (pre ++ [a]) (acc ++ [celOf cell a]) v' H' (i + 1) N Q ((Ints.keep hs hk hsb).app1) hsb ho' (by have := hk.1; omega) (by simp; omega) (by simp; omega) (fun p hp => hP p (by simp [hp])) (by simp; omega) (by simpa using hN) ?_
    intro v2 H2 ho2 hk2
    exact hq v2 H2 (by simpa using ho2) (hk.trans hk2)

theorem cells_ok (l : List Int) (cell most : Int) (s : Value) (H : AH) (Q : Value → AH → Prop) (hs : Ints H s l) (hl : l.length ≤ 40000) (h2 : 2 ≤ cell) (h3 : cell ≤ 1000) (hm : most ≤ 1000) (hok : Ok l) (hP : ∀ a ∈ l, 1 ≤ celOf cell a ∧ celOf cell a ≤ most)
    (hq : ∀ v H', OwnI H.n H' v (l.map (celOf cell)) → HExt H H' → Q (.tuple [v, .int .i64 0].toArray) H') : Got (xc Try.prog tab 63 [s, .int .i64 cell, .int .i64 most] H) Q := by
  refine got_call (res := [.tmp 6, .tmp 7]) rfl ?_
  have e1 := ints_len hs
  have e2 := check_xc l s H hs hl hok
  have c1 : ¬ cell < 2 := by omega
  have c2 : ¬ cell > 1000 := by omega
  simp only [ofArgs, run_seq, run_block, run_ops, run_skip, run_exit, run_ret, thenQ_normal, thenQ_exit, thenQ_ret, blockQ_normal, blockQ_exit, blockQ_ret, retQ_ret, retQ_normal, ops_nil, ops_none, got_some, ops_wT, ops_wTn, ops_wF, ops_wFn, ops_wU, dops_wT, dops_wTn, dops_wF, dops_wFn, dops_wU, run_condT, run_condF, alt2_int, altB_bool, altI_int, altBB_bool, v_min, v_max, v_not, v_neg, optEv_none, optEv_some, isSome'_none, isSome'_some, pExt0, pExt1, pExt2, Bool.false_and, Bool.true_and, Bool.not_true, Bool.not_false, cond_true, cond_false, dops_nil, dops_none, xval_call, v_mov, v_bin, v_len, v_ext, v_idxA, v_ld, v_st, v_app, v_appN, v_cvs, v_bs1, pBs1, v_slc, v_conv, v_fld, v_fldA, v_new, v_box, v_mks, v_copy, v_isnil, v_nilck, v_pick, ev, evs_nil, evs_cons, fr_get_cons, fr_put_nil, fr_put_cons, fr_put_some, fr_put_none, fr_keep_nil, fr_keep_cons, fr_has_nil, fr_has_cons, Option.bind_some, Option.map_some, xbin, ibin, xresult_eq, xress_nil, xress_tmp, resV, ex_some, if_true, if_false, ite_true, ite_false, reduceIte, reduceCtorEq, Nat.reduceEqDiff, Nat.reduceLT, Nat.reduceLeDiff, Int.reduceLT, Int.reduceLE, Nat.zero_add, Nat.reduceAdd, Bool.false_eq_true, decide_eq_true_eq, decide_eq_false_iff_not, true_implies, false_implies, and_true, true_and, e1, e2, c1, c2, decide_false, bne_self_eq_false]
  refine cells_l0 H.n cell most s l [] [] _ H _ _ _ hs (fun b hb => hs.lt b hb) (OwnI.nil _ _) (Nat.le_refl _) (by simpa using hl) (by simp; omega) (fun a ha => by have := hP a ha; have := hok a ha; omega) (by simp) (by simp) ?_
  intro v H' o k
  simp only [ofArgs, run_seq, run_block, run_ops, run_skip, run_exit, run_ret, thenQ_normal, thenQ_exit, thenQ_ret, blockQ_normal, blockQ_exit, blockQ_ret, retQ_ret, retQ_normal, ops_nil, ops_none, got_some, ops_wT, ops_wTn, ops_wF, ops_wFn, ops_wU, dops_wT, dops_wTn, dops_wF, dops_wFn, dops_wU, run_condT, run_condF, alt2_int, altB_bool, altI_int, altBB_bool, v_min, v_max, v_not, v_neg, optEv_none, optEv_some, isSome'_none, isSome'_some, pExt0, pExt1, pExt2, Bool.false_and, Bool.true_and, Bool.not_true, Bool.not_false, cond_true, cond_false, dops_nil, dops_none, xval_call, v_mov, v_bin, v_len, v_ext, v_idxA, v_ld, v_st, v_app, v_appN, v_cvs, v_bs1, pBs1, v_slc, v_conv, v_fld, v_fldA, v_new, v_box, v_mks, v_copy, v_isnil, v_nilck, v_pick, ev, evs_nil, evs_cons, fr_get_cons, fr_put_nil, fr_put_cons, fr_put_some, fr_put_none, fr_keep_nil, fr_keep_cons, fr_has_nil, fr_has_cons, Option.bind_some, Option.map_some, xbin, ibin, xresult_eq, xress_nil, xress_tmp, resV, ex_some, if_true, if_false, ite_true, ite_false, reduceIte, reduceCtorEq, Nat.reduceEqDiff, Nat.reduceLT, Nat.reduceLeDiff, Int.reduceLT, Int.reduceLE, Nat.zero_add, Nat.reduceAdd, Bool.false_eq_true, decide_eq_true_eq, decide_eq_false_iff_not, true_implies, false_implies, and_true, true_and]
  exact hq v H' (by simpa using o) k

/-! what a shake does to pulses -/
def shd (l : List Int) (most : Int) : Nat → Int → List Int → List Int
  | _, _, [] => []
  | k, m0, p :: t => (p + mvAt l most k - m0) :: shd l most (k + 1) (mvAt l most k) t
theorem shd_len (l : List Int) (most : Int) (t : List Int) : ∀ k m0, (shd l most k m0 t).length = t.length := by
  induction t with
  | nil => intro k m0; rfl
  | cons p t ih => intro k m0; simp [shd, ih]
theorem shk_shd (l : List Int) (most : Int) (t : List Int) : ∀ (a m0 : Int) (k : Nat), difs (a + m0) (shk l most k (sums a t)) = shd l most k m0 t := by
  induction t with
  | nil => intro a m0 k; rfl
  | cons p t ih =>
    intro a m0 k
    simp only [sums, shk, difs, shd]
    rw [ih (a + p) (mvAt l most k) (k + 1)]
    congr 1
    omega
theorem cel_near (cell most k d e : Int) (hc : 2 ≤ cell) (hm : 4 * most ≤ cell - 1) (hd : -most ≤ d ∧ d ≤ most) (he : -most ≤ e ∧ e ≤ most) (hk : 1 ≤ k) (hk2 : k ≤ 50) (hc2 : cell ≤ 1000) :
    celOf cell (k * cell + d - e) = k ∧ 1 ≤ k * cell + d - e ∧ k * cell + d - e ≤ 100000 := by
  have hb := mulb k cell hk (by omega) hc hc2
  have h1 : 1 * cell ≤ k * cell := Int.mul_le_mul_of_nonneg_right hk (by omega)
  have h2 : k * cell ≤ 50 * cell := Int.mul_le_mul_of_nonneg_right hk2 (by omega)
  refine ⟨?_, by omega, by omega⟩
  unfold celOf
  rw [Int.tdiv_eq_ediv_of_nonneg (by omega)]
  have e1 : 2 * (k * cell + d - e) + cell = (2 * (d - e) + cell) + k * (2 * cell) := by
    have : k * (2 * cell) = 2 * (k * cell) := by rw [Int.mul_left_comm]
    omega
  rw [e1, Int.add_mul_ediv_right _ _ (by omega), Int.ediv_eq_zero_of_lt (by omega) (by omega)]
  omega
theorem shd_cells (l : List Int) (cell most : Int) (h0 : 0 ≤ most) (hc : 2 ≤ cell) (hc2 : cell ≤ 1000) (hm : 4 * most ≤ cell - 1) (t : List Int) (ht : ∀ a ∈ t, 1 ≤ a ∧ a ≤ 50) : ∀ (k : Nat) (m0 : Int), -most ≤ m0 → m0 ≤ most →
    Ok (shd l most k m0 (pul cell t)) ∧ (shd l most k m0 (pul cell t)).map (celOf cell) = t := by
  induction t with
  | nil => intro k m0 _ _; exact ⟨fun p hp => by simp [pul, shd] at hp, rfl⟩
  | cons a t ih =>
    intro k m0 h1 h2
    have ha := ht a (by simp)
    have hb := mv_bnd l most h0 k
    have hn := cel_near cell most a (mvAt l most k) m0 hc hm hb ⟨h1, h2⟩ ha.1 ha.2 hc2
    obtain ⟨i1, i2⟩ := ih (fun x hx => ht x (by simp [hx])) (k + 1) (mvAt l most k) hb.1 hb.2
    refine ⟨fun p hp => ?_, ?_⟩
    · simp only [pul, List.map_cons, shd, List.mem_cons] at hp
      rcases hp with rfl | hp
      · exact hn.2
      · exact i1 p hp
    · simp only [pul, List.map_cons, shd]
      rw [hn.1]
      congr 1
theorem pul_cells (cell : Int) (hc : 2 ≤ cell) (hc2 : cell ≤ 1000) (t : List Int) (ht : ∀ a ∈ t, 1 ≤ a ∧ a ≤ 50) : (pul cell t).map (celOf cell) = t := by
  induction t with
  | nil => rfl
  | cons a t ih =>
    have ha := ht a (by simp)
    have hn := cel_near cell 0 a 0 0 hc (by omega) (by omega) (by omega) ha.1 ha.2 hc2
    have e := ih (fun x hx => ht x (by simp [hx]))
    unfold pul at e ⊢
    simp only [List.map_cons]
    rw [e]
    congr 1
    simpa using hn.1
theorem pul_ok (cell : Int) (hc : 2 ≤ cell) (hc2 : cell ≤ 1000) (t : List Int) (ht : ∀ a ∈ t, 1 ≤ a ∧ a ≤ 100) : Ok (pul cell t) := by
  intro p hp
  simp only [pul, List.mem_map] at hp
  obtain ⟨a, ha, rfl⟩ := hp
  have := mulb a cell (ht a ha).1 (ht a ha).2 hc hc2
  omega
theorem pul_sum (cell : Int) (t : List Int) : (pul cell t).sum = t.sum * cell := by
  induction t with
  | nil => simp [pul]
  | cons a t ih =>
    have : pul cell (a :: t) = a * cell :: pul cell t := rfl
    rw [this, List.sum_cons, ih, List.sum_cons, Int.add_mul]
end Go.Proofs.Ytejedmocjdcdgaa.D

set_option linter.unusedSimpArgs false
set_option linter.unusedVariables false
namespace Go.Proofs.Ytejedmocjdcdgaa.D
open Go Go.Det

/-- the cells of the last bits of a byte -/
def fmb (c : Nat) : Nat → List Int
  | 0 => []
  | k + 1 => (if c.testBit k then [1, 1] else [2]) ++ fmb c k
def fmw (l : List Int) : List Int := l.flatMap fun c => fmb c.toNat 8
theorem fmb_len (c k : Nat) : (fmb c k).length ≤ 2 * k := by
  induction k with
  | zero => simp [fmb]
  | succ k ih => simp only [fmb, List.length_append]; split <;> simp <;> omega
theorem fmb_sum (c k : Nat) : (fmb c k).sum = 2 * (k : Int) := by
  induction k with
  | zero => simp [fmb]
  | succ k ih => simp only [fmb, List.sum_append, ih]; split <;> simp <;> omega
theorem fmb_12 (c k : Nat) : ∀ a ∈ fmb c k, 1 ≤ a ∧ a ≤ 2 := by
  induction k with
  | zero => intro a h; simp [fmb] at h
  | succ k ih =>
    intro a h
    simp only [fmb, List.mem_append] at h
    rcases h with h | h
    · split at h <;> simp at h <;> omega
    · exact ih a h
theorem fmw_cons (c : Int) (l : List Int) : fmw (c :: l) = fmb c.toNat 8 ++ fmw l := by simp [fmw]
theorem fmw_len (l : List Int) : (fmw l).length ≤ 16 * l.length := by
  induction l with
  | nil => simp [fmw]
  | cons c l ih => rw [fmw_cons, List.length_append, List.length_cons]; have := fmb_len c.toNat 8; omega
theorem fmw_sum (l : List Int) : (fmw l).sum = 16 * (l.length : Int) := by
  induction l with
  | nil => simp [fmw]
  | cons c l ih => rw [fmw_cons, List.sum_append, fmb_sum, ih, List.length_cons]; omega
theorem fmw_12 (l : List Int) : ∀ a ∈ fmw l, 1 ≤ a ∧ a ≤ 2 := by
  induction l with
  | nil => intro a h; simp [fmw] at h
  | cons c l ih =>
    intro a h
    rw [fmw_cons, List.mem_append] at h
    rcases h with h | h
    · exact fmb_12 _ _ a h
    · exact ih a h

theorem app_two {n0 : Nat} {H : AH} {v : Value} {acc : List Int} {x y : Int} {Q : Value → AH → Prop} (ho : OwnI n0 H v acc) (hn : n0 ≤ H.n) (hle : acc.length + 2 ≤ 17592186044416)
    (hq : ∀ v' H', OwnI n0 H' v' (acc ++ [x, y]) → Stp v H v' H' → Q v' H') : Got (xapp (H.push ⟨[.int .i64 x, .int .i64 y], 1, false, false⟩) 1 8 v (.slice (some ⟨H.n, 0, none⟩) 2 2)) Q := by
  refine xapp_own (Own.ext (hext_push H _) ho) (by simp; omega) (Sl.pushed H [.int .i64 x, .int .i64 y] 1 2 false false rfl) rfl (Nat.le_refl _) (by omega) (by omega) ?_
  intro v' H' h1 h2
  refine hq v' H' (by simpa [OwnI] using h1) ⟨by have := h2.n; simp at this; omega, fun b hb hnb => ?_, fun b h => ?_⟩
  · rw [h2.get b (by simp; omega) hnb, AH.get_push, if_neg (by omega)]
  · rcases h2.new b h with h | h
    · exact .inl h
    · exact .inr (by simp at h; omega)
theorem app_oneB {n0 : Nat} {H : AH} {v : Value} {acc : List Int} {x : Int} {Q : Value → AH → Prop} (ho : OwnB n0 H v acc) (hn : n0 ≤ H.n) (hle : acc.length + 1 ≤ 1000000000)
    (hq : ∀ v' H', OwnB n0 H' v' (acc ++ [x]) → Stp v H v' H' → Q v' H') : Got (xapp (H.push ⟨[.int .u8 x], 1, false, false⟩) 1 1 v (.slice (some ⟨H.n, 0, none⟩) 1 1)) Q := by
  refine xapp_own (Own.ext (hext_push H _) ho) (by simp; omega) (Sl.pushed H [.int .u8 x] 1 1 false false rfl) rfl (Nat.le_refl _) (by omega) (by omega) ?_
  intro v' H' h1 h2
  refine hq v' H' (by simpa [OwnB] using h1) ⟨by have := h2.n; simp at this; omega, fun b hb hnb => ?_, fun b h => ?_⟩
  · rw [h2.get b (by simp; omega) hnb, AH.get_push, if_neg (by omega)]
  · rcases h2.new b h with h | h
    · exact .inl h
    · exact .inr (by simp at h; omega)

end Go.Proofs.Ytejedmocjdcdgaa.D

set_option linter.unusedSimpArgs false
set_option linter.unusedVariables false
namespace Go.Proofs.Ytejedmocjdcdgaa.D
open Go Go.Det

theorem shr_step (c k : Nat) : 2 * (c >>> (k + 1)) + (c.testBit k).toNat = c >>> k := by
  rw [Nat.shiftRight_succ, Nat.testBit_eq_decide_div_mod_eq, ← Nat.shiftRight_eq_div_pow]
  generalize c >>> k = x
  rcases Nat.mod_two_eq_zero_or_one x with h | h <;> simp [h] <;> omega
theorem shr_lt2 (c k : Nat) (hc : c < 256) : c >>> (k + 1) < 128 := by
  rw [Nat.shiftRight_eq_div_pow, Nat.pow_succ]
  have : c / (2 ^ k * 2) ≤ c / 2 := Nat.div_le_div_left (by have := Nat.pow_pos (n := k) (by omega : 0 < 2); omega) (by omega)
  omega
end Go.Proofs.Ytejedmocjdcdgaa.D

set_option linter.unusedSimpArgs false
set_option linter.unusedVariables false
namespace Go.Proofs.Ytejedmocjdcdgaa.D
open Go Go.Det

theorem st3_0 {H : AH} {B : Nat} {a b c a' : Value} (h : H.get B = some ⟨[a, b, c], 1, false, false⟩) (h1 : one a' = true) (h2 : vcells a' = [a']) : pSt 1 (.pointer (some ⟨B, 0, none⟩)) a' H = some (undef, H.set B ⟨[a', b, c], 1, false, false⟩) := by
  unfold pSt
  simp only [h, Option.bind_some, h2, List.all_cons, List.all_nil, h1]
  rfl
theorem st3_1 {H : AH} {B : Nat} {a b c b' : Value} (h : H.get B = some ⟨[a, b, c], 1, false, false⟩) (h1 : one b' = true) (h2 : vcells b' = [b']) : pSt 1 (.pointer (some ⟨B, 1, none⟩)) b' H = some (undef, H.set B ⟨[a, b', c], 1, false, false⟩) := by
  unfold pSt
  simp only [h, Option.bind_some, h2, List.all_cons, List.all_nil, h1]
  rfl

/-! ### places and the lengths between changes -/
theorem snoc_ind {P : List Bool → Prop} (h0 : P []) (h1 : ∀ q b, P q → P (q ++ [b])) (q : List Bool) : P q := by
  have key : ∀ r : List Bool, P r.reverse := by
    intro r
    induction r with
    | nil => exact h0
    | cons b r ih => rw [List.reverse_cons]; exact h1 _ _ ih
  have := key q.reverse
  rwa [List.reverse_reverse] at this
def plc (s : List Int × Nat) (b : Bool) : List Int × Nat := if b then (s.1 ++ [((s.2 + 1 : Nat) : Int)], 0) else (s.1, s.2 + 1)
def gaps (q : List Bool) : List Int × Nat := q.foldl plc ([], 0)
theorem gaps_snoc (q : List Bool) (b : Bool) : gaps (q ++ [b]) = plc (gaps q) b := by unfold gaps; rw [List.foldl_append]; rfl
theorem gaps_len (q : List Bool) : (gaps q).1.length ≤ q.length ∧ (gaps q).2 ≤ q.length := by
  refine snoc_ind (P := fun q => (gaps q).1.length ≤ q.length ∧ (gaps q).2 ≤ q.length) (by simp [gaps]) (fun q b ih => ?_) q
  rw [gaps_snoc, List.length_append]
  unfold plc
  split <;> simp <;> omega
def expand : List Int → List Bool
  | [] => []
  | g :: l => List.replicate (g.toNat - 1) false ++ true :: expand l
theorem expand_app (l m : List Int) : expand (l ++ m) = expand l ++ expand m := by
  induction l with
  | nil => rfl
  | cons g l ih => simp [expand, ih]
theorem expand_gaps (q : List Bool) : expand (gaps q).1 ++ List.replicate (gaps q).2 false = q := by
  refine snoc_ind (P := fun q => expand (gaps q).1 ++ List.replicate (gaps q).2 false = q) rfl (fun q b ih => ?_) q
  rw [gaps_snoc]
  unfold plc
  cases b with
  | true =>
    simp only [if_true]
    rw [expand_app]
    conv => rhs; rw [← ih]
    simp [expand]
  | false =>
    simp only [Bool.false_eq_true, if_false]
    conv => rhs; rw [← ih]
    rw [List.replicate_succ', List.append_assoc]
theorem gaps_pos (q : List Bool) : ∀ g ∈ (gaps q).1, 1 ≤ g := by
  refine snoc_ind (P := fun q => ∀ g ∈ (gaps q).1, 1 ≤ g) (by simp [gaps]) (fun q b ih => ?_) q
  intro g h
  rw [gaps_snoc] at h
  unfold plc at h
  split at h
  · rcases List.mem_append.1 h with h | h
    · exact ih g h
    · simp at h; omega
  · exact ih g h

/-- the bits of a byte, each with its clock -/
def msym (c : Nat) (mark : Bool) : Nat → Bool → List Bool
  | 0, _ => []
  | r + 1, last => (!(c.testBit r) && !last && !(mark && decide (r = 2))) :: c.testBit r :: msym c mark r (c.testBit r)
theorem msym_len (c : Nat) (mark : Bool) (r : Nat) : ∀ last, (msym c mark r last).length = 2 * r := by
  induction r with
  | zero => intro last; rfl
  | succ r ih => intro last; simp [msym, ih]; omega

/-- a writer -/
def Wr (n0 : Nat) (H : AH) (W : Nat) (q : List Bool) (last : Bool) : Prop :=
  W < n0 ∧ n0 ≤ H.n ∧ ∃ vl, H.get W = some ⟨[vl, .int .i64 ((gaps q).2 : Nat), .bool last], 1, false, false⟩ ∧ OwnI n0 H vl (gaps q).1
/-- all up to n0 is there, but for one block -/
def KeepB (n0 W : Nat) (H H' : AH) : Prop := H.n ≤ H'.n ∧ ∀ b, b < n0 → b ≠ W → H'.get b = H.get b
theorem KeepB.refl (n0 W : Nat) (H : AH) : KeepB n0 W H H := ⟨Nat.le_refl _, fun _ _ _ => rfl⟩
theorem KeepB.trans {n0 W : Nat} {A B C : AH} (h : KeepB n0 W A B) (k : KeepB n0 W B C) : KeepB n0 W A C := ⟨Nat.le_trans h.1 k.1, fun b hb hw => (k.2 b hb hw).trans (h.2 b hb hw)⟩

theorem kset (n0 W : Nat) (H : AH) (blk : Blk) : KeepB n0 W H (H.set W blk) := ⟨Nat.le_refl _, fun b _ hb => by rw [AH.get_set, if_neg hb]⟩
theorem place_w (n0 : Nat) (H : AH) (W : Nat) (q : List Bool) (last b : Bool) (Q : Value → AH → Prop) (hw : Wr n0 H W q last) (hq2 : q.length ≤ 100000) (hq : ∀ H', Wr n0 H' W (q ++ [b]) last → KeepB n0 W H H' → Q (.tuple #[]) H') :
    Got (xc Try.prog tab 77 [.pointer (some ⟨W, 0, none⟩), .bool b] H) Q := by
  refine got_call (res := []) rfl ?_
  obtain ⟨hW, hn, vl, hg, ho⟩ := hw
  have hgl := gaps_len q
  have e1 := ld3_1 hg
  have w1 := wrI ((((gaps q).2 : Nat) : Int) + 1) (by omega) (by omega)
  have e2 := st3_1 (b' := .int .i64 ((((gaps q).2 : Nat) : Int) + 1)) hg rfl rfl
  have g2 : (H.set W ⟨[vl, .int .i64 ((((gaps q).2 : Nat) : Int) + 1), .bool last], 1, false, false⟩).get W = some ⟨[vl, .int .i64 ((((gaps q).2 : Nat) : Int) + 1), .bool last], 1, false, false⟩ := by rw [AH.get_set, if_pos rfl]
  have ho2 : OwnI n0 (H.set W ⟨[vl, .int .i64 ((((gaps q).2 : Nat) : Int) + 1), .bool last], 1, false, false⟩) vl (gaps q).1 := by
    refine Own.set ho rfl fun b hb => ?_
    obtain ⟨o, l, c, e⟩ := hb
    have := (ho.2 b o l c e).1
    rw [AH.get_set, if_neg (by omega)]
  have k2 : KeepB n0 W H (H.set W ⟨[vl, .int .i64 ((((gaps q).2 : Nat) : Int) + 1), .bool last], 1, false, false⟩) := ⟨Nat.le_refl _, fun b _ hb => by rw [AH.get_set, if_neg hb]⟩
  have hn2 : (H.set W ⟨[vl, .int .i64 ((((gaps q).2 : Nat) : Int) + 1), .bool last], 1, false, false⟩).n = H.n := rfl
  cases b with
  | false =>
    simp only [ofArgs, run_seq, run_block, run_ops, run_skip, run_exit, run_ret, thenQ_normal, thenQ_exit, thenQ_ret, blockQ_normal, blockQ_exit, blockQ_ret, retQ_ret, retQ_normal, ops_nil, ops_none, got_some, ops_wT, ops_wTn, ops_wF, ops_wFn, ops_wU, dops_wT, dops_wTn, dops_wF, dops_wFn, dops_wU, run_condT, run_condF, alt2_int, altB_bool, altI_int, altBB_bool, v_min, v_max, v_not, v_neg, optEv_none, optEv_some, isSome'_none, isSome'_some, pExt0, pExt1, pExt2, Bool.false_and, Bool.true_and, Bool.not_true, Bool.not_false, cond_true, cond_false, dops_nil, dops_none, xval_call, v_mov, v_bin, v_len, v_ext, v_idxA, v_ld, v_st, v_app, v_appN, v_cvs, v_bs1, pBs1, v_slc, v_conv, v_fld, v_fldA, v_new, v_box, v_mks, v_copy, v_isnil, v_nilck, v_pick, ev, evs_nil, evs_cons, fr_get_cons, fr_put_nil, fr_put_cons, fr_put_some, fr_put_none, fr_keep_nil, fr_keep_cons, fr_has_nil, fr_has_cons, Option.bind_some, Option.map_some, xbin, ibin, xresult_eq, xress_nil, xress_tmp, resV, ex_some, if_true, if_false, ite_true, ite_false, reduceIte, reduceCtorEq, Nat.reduceEqDiff, Nat.reduceLT, Nat.reduceLeDiff, Int.reduceLT, Int.reduceLE, Nat.zero_add, Nat.reduceAdd, Bool.false_eq_true, decide_eq_true_eq, decide_eq_false_iff_not, true_implies, false_implies, and_true, true_and, pNil_ptr, pFldA_ptr, e1, w1, e2]
    refine hq _ ⟨hW, by omega, vl, ?_, ?_⟩ k2
    · rw [gaps_snoc]; exact g2
    · rw [gaps_snoc]; exact ho2
  | true =>
    simp only [ofArgs, run_seq, run_block, run_ops, run_skip, run_exit, run_ret, thenQ_normal, thenQ_exit, thenQ_ret, blockQ_normal, blockQ_exit, blockQ_ret, retQ_ret, retQ_normal, ops_nil, ops_none, got_some, ops_wT, ops_wTn, ops_wF, ops_wFn, ops_wU, dops_wT, dops_wTn, dops_wF, dops_wFn, dops_wU, run_condT, run_condF, alt2_int, altB_bool, altI_int, altBB_bool, v_min, v_max, v_not, v_neg, optEv_none, optEv_some, isSome'_none, isSome'_some, pExt0, pExt1, pExt2, Bool.false_and, Bool.true_and, Bool.not_true, Bool.not_false, cond_true, cond_false, dops_nil, dops_none, xval_call, v_mov, v_bin, v_len, v_ext, v_idxA, v_ld, v_st, v_app, v_appN, v_cvs, v_bs1, pBs1, v_slc, v_conv, v_fld, v_fldA, v_new, v_box, v_mks, v_copy, v_isnil, v_nilck, v_pick, ev, evs_nil, evs_cons, fr_get_cons, fr_put_nil, fr_put_cons, fr_put_some, fr_put_none, fr_keep_nil, fr_keep_cons, fr_has_nil, fr_has_cons, Option.bind_some, Option.map_some, xbin, ibin, xresult_eq, xress_nil, xress_tmp, resV, ex_some, if_true, if_false, ite_true, ite_false, reduceIte, reduceCtorEq, Nat.reduceEqDiff, Nat.reduceLT, Nat.reduceLeDiff, Int.reduceLT, Int.reduceLE, Nat.zero_add, Nat.reduceAdd, Bool.false_eq_true, decide_eq_true_eq, decide_eq_false_iff_not, true_implies, false_implies, and_true, true_and, pNil_ptr, pFldA_ptr, e1, w1, e2]
    generalize (H.set W ⟨[vl, .int .i64 ((((gaps q).2 : Nat) : Int) + 1), .bool last], 1, false, false⟩) = H2 at g2 ho2 k2 hn2
    have e3 := ld3_0 g2
    have e4 := ld3_1 g2
    have hvq := Sl.veq ho2.1
    refine run_dopsS _ _ _ _ _ ?_
    simp only [ofArgs, run_seq, run_block, run_ops, run_skip, run_exit, run_ret, thenQ_normal, thenQ_exit, thenQ_ret, blockQ_normal, blockQ_exit, blockQ_ret, retQ_ret, retQ_normal, ops_nil, ops_none, got_some, ops_wT, ops_wTn, ops_wF, ops_wFn, ops_wU, dops_wT, dops_wTn, dops_wF, dops_wFn, dops_wU, run_condT, run_condF, alt2_int, altB_bool, altI_int, altBB_bool, v_min, v_max, v_not, v_neg, optEv_none, optEv_some, isSome'_none, isSome'_some, pExt0, pExt1, pExt2, Bool.false_and, Bool.true_and, Bool.not_true, Bool.not_false, cond_true, cond_false, dops_nil, dops_none, xval_call, v_mov, v_bin, v_len, v_ext, v_idxA, v_ld, v_st, v_app, v_appN, v_cvs, v_bs1, pBs1, v_slc, v_conv, v_fld, v_fldA, v_new, v_box, v_mks, v_copy, v_isnil, v_nilck, v_pick, ev, evs_nil, evs_cons, fr_get_cons, fr_put_nil, fr_put_cons, fr_put_some, fr_put_none, fr_keep_nil, fr_keep_cons, fr_has_nil, fr_has_cons, Option.bind_some, Option.map_some, xbin, ibin, xresult_eq, xress_nil, xress_tmp, resV, ex_some, if_true, if_false, ite_true, ite_false, reduceIte, reduceCtorEq, Nat.reduceEqDiff, Nat.reduceLT, Nat.reduceLeDiff, Int.reduceLT, Int.reduceLE, Nat.zero_add, Nat.reduceAdd, Bool.false_eq_true, decide_eq_true_eq, decide_eq_false_iff_not, true_implies, false_implies, and_true, true_and, dr_nil, dr_cons, hs0, hs1, hs2, hs3, addC_nil, addC_cons, stabAll_nil, stabAll_cons, stab1_nil, stab1_cons, hat_cons, xval_wT, xval_wTn, xval_wF, xval_wFn, veq_int, veq_bool, veq_ptr, veq_sl, pNil_ptr, pFldA_ptr, e3, e4]
    refine app_one ho2 (by omega) (by omega) ?_
    intro vl' H3 o3 st
    have hWv : ∀ b, b < n0 → ¬ inB vl b := fun b hb ⟨o, l, c, e⟩ => by have := (ho2.2 b o l c e).1; omega
    have g3 : H3.get W = some ⟨[vl, .int .i64 ((((gaps q).2 : Nat) : Int) + 1), .bool last], 1, false, false⟩ := by rw [st.get W (by omega) (hWv W hW)]; exact g2
    obtain ⟨s1, s2⟩ := sl_slice o3.1
    have e5 := st3_0 g3 s1 s2
    have g4 : (H3.set W ⟨[vl', .int .i64 ((((gaps q).2 : Nat) : Int) + 1), .bool last], 1, false, false⟩).get W = some ⟨[vl', .int .i64 ((((gaps q).2 : Nat) : Int) + 1), .bool last], 1, false, false⟩ := by rw [AH.get_set, if_pos rfl]
    have e6 := st3_1 (b' := .int .i64 0) g4 rfl rfl
    have gpush : (H2.push ⟨[.int .i64 ((((gaps q).2 : Nat) : Int) + 1)], 1, false, false⟩).get W = some ⟨[vl, .int .i64 ((((gaps q).2 : Nat) : Int) + 1), .bool last], 1, false, false⟩ := by rw [AH.get_push, if_neg (by omega)]; exact g2
    have e7 := ld3_0 gpush
    have hn3 := st.n
    simp only [ofArgs, run_seq, run_block, run_ops, run_skip, run_exit, run_ret, thenQ_normal, thenQ_exit, thenQ_ret, blockQ_normal, blockQ_exit, blockQ_ret, retQ_ret, retQ_normal, ops_nil, ops_none, got_some, ops_wT, ops_wTn, ops_wF, ops_wFn, ops_wU, dops_wT, dops_wTn, dops_wF, dops_wFn, dops_wU, run_condT, run_condF, alt2_int, altB_bool, altI_int, altBB_bool, v_min, v_max, v_not, v_neg, optEv_none, optEv_some, isSome'_none, isSome'_some, pExt0, pExt1, pExt2, Bool.false_and, Bool.true_and, Bool.not_true, Bool.not_false, cond_true, cond_false, dops_nil, dops_none, xval_call, v_mov, v_bin, v_len, v_ext, v_idxA, v_ld, v_st, v_app, v_appN, v_cvs, v_bs1, pBs1, v_slc, v_conv, v_fld, v_fldA, v_new, v_box, v_mks, v_copy, v_isnil, v_nilck, v_pick, ev, evs_nil, evs_cons, fr_get_cons, fr_put_nil, fr_put_cons, fr_put_some, fr_put_none, fr_keep_nil, fr_keep_cons, fr_has_nil, fr_has_cons, Option.bind_some, Option.map_some, xbin, ibin, xresult_eq, xress_nil, xress_tmp, resV, ex_some, if_true, if_false, ite_true, ite_false, reduceIte, reduceCtorEq, Nat.reduceEqDiff, Nat.reduceLT, Nat.reduceLeDiff, Int.reduceLT, Int.reduceLE, Nat.zero_add, Nat.reduceAdd, Bool.false_eq_true, decide_eq_true_eq, decide_eq_false_iff_not, true_implies, false_implies, and_true, true_and, dr_nil, dr_cons, hs0, hs1, hs2, hs3, addC_nil, addC_cons, stabAll_nil, stabAll_cons, stab1_nil, stab1_cons, hat_cons, xval_wT, xval_wTn, xval_wF, xval_wFn, veq_int, veq_bool, veq_ptr, veq_sl, pNil_ptr, pFldA_ptr, e5, e6, e7, hvq]
    refine hq _ ⟨hW, by show n0 ≤ H3.n; omega, vl', ?_, ?_⟩ ?_
    · rw [gaps_snoc, AH.get_set, if_pos rfl]; rfl
    · rw [gaps_snoc]
      have ho3 : OwnI n0 H3 vl' ((gaps q).1 ++ [((((gaps q).2 + 1 : Nat)) : Int)]) := o3
      refine Own.set ho3 rfl fun b hb => ?_
      obtain ⟨o, l, c, e⟩ := hb
      have := (o3.2 b o l c e).1
      rw [AH.get_set, if_neg (by omega), AH.get_set, if_neg (by omega)]
    · refine k2.trans ⟨hn3, fun b hb hbw => ?_⟩
      rw [AH.get_set, if_neg hbw, AH.get_set, if_neg hbw, st.get b (by omega) (hWv b hb)]

set_option maxHeartbeats 8000000 in
theorem put_l0 (n0 W c : Nat) (hc : c < 256) (mark : Bool) (r : Nat) : ∀ (q : List Bool) (last : Bool) (H : AH) (i : Int) (Q : XExit → Fr → AH → Prop), Wr n0 H W q last → q.length + 2 * r ≤ 100000 → r ≤ 8 → i = 8 - (r : Int) →
    (∀ H', Wr n0 H' W (q ++ msym c mark r last) (if r = 0 then last else c.testBit 0) → KeepB n0 W H H' → Q (.exit 0) [(0, .pointer (some ⟨W, 0, none⟩)), (1, .int .u8 c), (2, .bool mark), (8, .int .i64 8), (9, .bool false)] H') →
    Run Try.prog tab (.loop xmfm_writer_put_l0) [(0, .pointer (some ⟨W, 0, none⟩)), (1, .int .u8 c), (2, .bool mark), (8, .int .i64 i)] H Q := by
  induction r with
  | zero =>
    intro q last H i Q hw hl hr hi hq
    rw [run_loop]
    generalize hL : XCode.loop xmfm_writer_put_l0 = LL
    obtain rfl : i = 8 := by omega
    simp only [xmfm_writer_put_l0, ofArgs, run_seq, run_block, run_ops, run_skip, run_exit, run_ret, thenQ_normal, thenQ_exit, thenQ_ret, blockQ_normal, blockQ_exit, blockQ_ret, retQ_ret, retQ_normal, ops_nil, ops_none, got_some, ops_wT, ops_wTn, ops_wF, ops_wFn, ops_wU, dops_wT, dops_wTn, dops_wF, dops_wFn, dops_wU, run_condT, run_condF, alt2_int, altB_bool, altI_int, altBB_bool, v_min, v_max, v_not, v_neg, optEv_none, optEv_some, isSome'_none, isSome'_some, pExt0, pExt1, pExt2, Bool.false_and, Bool.true_and, Bool.not_true, Bool.not_false, cond_true, cond_false, dops_nil, dops_none, xval_call, v_mov, v_bin, v_len, v_ext, v_idxA, v_ld, v_st, v_app, v_appN, v_cvs, v_bs1, pBs1, v_slc, v_conv, v_fld, v_fldA, v_new, v_box, v_mks, v_copy, v_isnil, v_nilck, v_pick, ev, evs_nil, evs_cons, fr_get_cons, fr_put_nil, fr_put_cons, fr_put_some, fr_put_none, fr_keep_nil, fr_keep_cons, fr_has_nil, fr_has_cons, Option.bind_some, Option.map_some, xbin, ibin, xresult_eq, xress_nil, xress_tmp, resV, ex_some, if_true, if_false, ite_true, ite_false, reduceIte, reduceCtorEq, Nat.reduceEqDiff, Nat.reduceLT, Nat.reduceLeDiff, Int.reduceLT, Int.reduceLE, Nat.zero_add, Nat.reduceAdd, Bool.false_eq_true, decide_eq_true_eq, decide_eq_false_iff_not, true_implies, false_implies, and_true, true_and, Int.lt_irrefl, decide_false]
    exact hq H (by simpa [msym] using hw) (.refl _ _ _)
  | succ r ih =>
    intro q last H i Q hw hl hr hi hq
    have ih' := ih
    rw [run_loop]
    generalize hL : XCode.loop xmfm_writer_put_l0 = LL
    rw [hL] at ih'
    have hlt : i < 8 := by omega
    have w1 : IntKind.i64.wrap (7 - i) = (r : Int) := by rw [wrI _ (by omega) (by omega)]; omega
    have c2 : ¬ (r : Int) < 0 := by omega
    have t1 : min (Int.toNat (r : Int)) IntKind.u8.bits = r := by
      rw [Int.toNat_natCast]; show min _ 8 = _; omega
    have t2 := shrN c r
    have t3 := b_and (c >>> r) 1 (by rw [Nat.shiftRight_eq_div_pow]; exact Nat.lt_of_le_of_lt (Nat.div_le_self _ _) hc) (by omega)
    have n1 : ((1 : Nat) : Int) = 1 := rfl
    rw [n1] at t3
    have t4 := and1 c r
    have e5 : (i == 5) = decide (r = 2) := by
      by_cases h : r = 2
      · subst h; obtain rfl : i = 5 := by omega
        rfl
      · have : ¬ i = 5 := by omega
        simp [h, this]
    have hw0 := hw
    obtain ⟨hW, hn, vl, hg, ho⟩ := hw
    have e1 := ld3_2 hg
    have hcl : ∀ (Q : Value → AH → Prop), (∀ H', Wr n0 H' W (q ++ [(!(c.testBit r) && !last && !(mark && decide (r = 2)))]) last → KeepB n0 W H H' → Q (.tuple #[]) H') → Got (xc Try.prog tab 77 [.pointer (some ⟨W, 0, none⟩), .bool (!(c.testBit r) && !last && !(mark && decide (r = 2)))] H) Q :=
      fun Q h => place_w n0 H W q last _ Q hw0 (by omega) h
    generalize hbit : c.testBit r = bit at t4 hcl
    have rest : ∀ H1, Wr n0 H1 W (q ++ [(!bit && !last && !(mark && decide (r = 2)))]) last → KeepB n0 W H H1 → ∀ H2, Wr n0 H2 W (q ++ [(!bit && !last && !(mark && decide (r = 2)))] ++ [bit]) last → KeepB n0 W H1 H2 →
        ∃ vl2, H2.get W = some ⟨[vl2, .int .i64 ((gaps (q ++ [(!bit && !last && !(mark && decide (r = 2)))] ++ [bit])).2 : Nat), .bool last], 1, false, false⟩ ∧
          Run Try.prog tab LL [(0, .pointer (some ⟨W, 0, none⟩)), (1, .int .u8 c), (2, .bool mark), (8, .int .i64 (i + 1))] (H2.set W ⟨[vl2, .int .i64 ((gaps (q ++ [(!bit && !last && !(mark && decide (r = 2)))] ++ [bit])).2 : Nat), .bool bit], 1, false, false⟩) Q := by
      intro H1 w1' k1 H2 w2' k2
      obtain ⟨_, hn2, vl2, hg2, ho2⟩ := w2'
      refine ⟨vl2, hg2, ?_⟩
      have w3 : Wr n0 (H2.set W ⟨[vl2, .int .i64 ((gaps (q ++ [(!bit && !last && !(mark && decide (r = 2)))] ++ [bit])).2 : Nat), .bool bit], 1, false, false⟩) W (q ++ [(!bit && !last && !(mark && decide (r = 2)))] ++ [bit]) bit := by
        refine ⟨hW, hn2, vl2, by rw [AH.get_set, if_pos rfl], Own.set ho2 rfl fun b hb => ?_⟩
        obtain ⟨o, l, c, e⟩ := hb
        have := (ho2.2 b o l c e).1
        rw [AH.get_set, if_neg (by omega)]
      refine ih' _ bit _ (i + 1) Q w3 (by simp; omega) (by omega) (by omega) ?_
      intro H4 w4 k4
      have em : q ++ [(!bit && !last && !(mark && decide (r = 2)))] ++ [bit] ++ msym c mark r bit = q ++ msym c mark (r + 1) last := by
        simp [msym, hbit]
      rw [em] at w4
      refine hq H4 ?_ (((k1.trans k2).trans (kset n0 W H2 _)).trans k4)
      have : (if r + 1 = 0 then last else c.testBit 0) = (if r = 0 then bit else c.testBit 0) := by
        rw [if_neg (by omega)]
        by_cases h : r = 0
        · subst h; simp [hbit]
        · rw [if_neg h]
      rw [this]; exact w4
    have fin : ∀ (Q' : Value → AH → Prop), (∀ H1, Wr n0 H1 W (q ++ [(!bit && !last && !(mark && decide (r = 2)))]) last → KeepB n0 W H H1 → Q' (.tuple #[]) H1) → Got (xc Try.prog tab 77 [.pointer (some ⟨W, 0, none⟩), .bool (!bit && !last && !(mark && decide (r = 2)))] H) Q' := hcl
    have w4 := wrI (i + 1) (by omega) (by omega)
    generalize hcb : (!bit && !last && !(mark && decide (r = 2))) = cb at rest fin
    have close : Got (xc Try.prog tab 77 [.pointer (some ⟨W, 0, none⟩), .bool cb] H) fun v H1 => Got (xc Try.prog tab 77 [.pointer (some ⟨W, 0, none⟩), .bool bit] H1) fun v2 H2 => ∃ vl2 g, H2.get W = some ⟨[vl2, .int .i64 g, .bool last], 1, false, false⟩ ∧
        Run Try.prog tab LL [(0, .pointer (some ⟨W, 0, none⟩)), (1, .int .u8 c), (2, .bool mark), (8, .int .i64 (i + 1))] (H2.set W ⟨[vl2, .int .i64 g, .bool bit], 1, false, false⟩) Q := by
      refine fin _ ?_
      intro H1 w1' k1
      refine place_w n0 H1 W _ last bit _ w1' (by simp; omega) ?_
      intro H2 w2' k2
      obtain ⟨vl2, h1, h2⟩ := rest H1 w1' k1 H2 w2' k2
      exact ⟨vl2, _, h1, h2⟩
    clear rest fin hcl hq ih ih'
    have done : ∀ {P1 : Value → AH → Prop}, (∀ v H1, (Got (xc Try.prog tab 77 [.pointer (some ⟨W, 0, none⟩), .bool bit] H1) fun v2 H2 => ∃ vl2 g, H2.get W = some ⟨[vl2, .int .i64 g, .bool last], 1, false, false⟩ ∧
        Run Try.prog tab LL [(0, .pointer (some ⟨W, 0, none⟩)), (1, .int .u8 c), (2, .bool mark), (8, .int .i64 (i + 1))] (H2.set W ⟨[vl2, .int .i64 g, .bool bit], 1, false, false⟩) Q) → P1 v H1) → Got (xc Try.prog tab 77 [.pointer (some ⟨W, 0, none⟩), .bool cb] H) P1 :=
      fun h => close.mono h
    rcases (Bool.eq_false_or_eq_true (decide (r = 2))) with hd | hd <;> cases bit <;> cases last <;> cases mark <;>
      (rw [hd] at e5
       simp only [hd, Bool.not_true, Bool.not_false, Bool.and_true, Bool.and_false, Bool.true_and, Bool.false_and] at hcb
       subst hcb
       simp only [xmfm_writer_put_l0, ofArgs, run_seq, run_block, run_ops, run_skip, run_exit, run_ret, thenQ_normal, thenQ_exit, thenQ_ret, blockQ_normal, blockQ_exit, blockQ_ret, retQ_ret, retQ_normal, ops_nil, ops_none, got_some, ops_wT, ops_wTn, ops_wF, ops_wFn, ops_wU, dops_wT, dops_wTn, dops_wF, dops_wFn, dops_wU, run_condT, run_condF, alt2_int, altB_bool, altI_int, altBB_bool, v_min, v_max, v_not, v_neg, optEv_none, optEv_some, isSome'_none, isSome'_some, pExt0, pExt1, pExt2, Bool.false_and, Bool.true_and, Bool.not_true, Bool.not_false, cond_true, cond_false, dops_nil, dops_none, xval_call, v_mov, v_bin, v_len, v_ext, v_idxA, v_ld, v_st, v_app, v_appN, v_cvs, v_bs1, pBs1, v_slc, v_conv, v_fld, v_fldA, v_new, v_box, v_mks, v_copy, v_isnil, v_nilck, v_pick, ev, evs_nil, evs_cons, fr_get_cons, fr_put_nil, fr_put_cons, fr_put_some, fr_put_none, fr_keep_nil, fr_keep_cons, fr_has_nil, fr_has_cons, Option.bind_some, Option.map_some, xbin, ibin, xresult_eq, xress_nil, xress_tmp, resV, ex_some, if_true, if_false, ite_true, ite_false, reduceIte, reduceCtorEq, Nat.reduceEqDiff, Nat.reduceLT, Nat.reduceLeDiff, Int.reduceLT, Int.reduceLE, Nat.zero_add, Nat.reduceAdd, Bool.false_eq_true, decide_eq_true_eq, decide_eq_false_iff_not, true_implies, false_implies, and_true, true_and, hlt, decide_true, w1, c2, t1, t2, t3, t4, pNil_ptr, pFldA_ptr, e1, e5]
       refine done fun v H1 hg1 => ?_
       refine hg1.mono ?_
       rintro v2 H2 ⟨vl2, g, h1, h2⟩
       have e9 := fun x : Bool => st3_2 (c' := .bool x) h1 rfl rfl
       simp only [ofArgs, run_seq, run_block, run_ops, run_skip, run_exit, run_ret, thenQ_normal, thenQ_exit, thenQ_ret, blockQ_normal, blockQ_exit, blockQ_ret, retQ_ret, retQ_normal, ops_nil, ops_none, got_some, ops_wT, ops_wTn, ops_wF, ops_wFn, ops_wU, dops_wT, dops_wTn, dops_wF, dops_wFn, dops_wU, run_condT, run_condF, alt2_int, altB_bool, altI_int, altBB_bool, v_min, v_max, v_not, v_neg, optEv_none, optEv_some, isSome'_none, isSome'_some, pExt0, pExt1, pExt2, Bool.false_and, Bool.true_and, Bool.not_true, Bool.not_false, cond_true, cond_false, dops_nil, dops_none, xval_call, v_mov, v_bin, v_len, v_ext, v_idxA, v_ld, v_st, v_app, v_appN, v_cvs, v_bs1, pBs1, v_slc, v_conv, v_fld, v_fldA, v_new, v_box, v_mks, v_copy, v_isnil, v_nilck, v_pick, ev, evs_nil, evs_cons, fr_get_cons, fr_put_nil, fr_put_cons, fr_put_some, fr_put_none, fr_keep_nil, fr_keep_cons, fr_has_nil, fr_has_cons, Option.bind_some, Option.map_some, xbin, ibin, xresult_eq, xress_nil, xress_tmp, resV, ex_some, if_true, if_false, ite_true, ite_false, reduceIte, reduceCtorEq, Nat.reduceEqDiff, Nat.reduceLT, Nat.reduceLeDiff, Int.reduceLT, Int.reduceLE, Nat.zero_add, Nat.reduceAdd, Bool.false_eq_true, decide_eq_true_eq, decide_eq_false_iff_not, true_implies, false_implies, and_true, true_and, pNil_ptr, pFldA_ptr, e9, w4]
       exact h2)
end Go.Proofs.Ytejedmocjdcdgaa.D
